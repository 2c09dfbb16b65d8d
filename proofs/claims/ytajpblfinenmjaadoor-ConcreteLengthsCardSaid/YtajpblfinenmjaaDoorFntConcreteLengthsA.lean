/- Functions of the program as plain functions, each with the proof that the text computes it. -/
import Derived.Test.YtajpblfinenmjaaDoorFnsConcreteLengthsA
import Derived.Test.YtajpblfinenmjaaDoorRngConcreteLengthsA
set_option linter.unusedVariables false
set_option linter.unusedSimpArgs false
namespace Go.Proofs.YtajpblfinenmjaaDoor
open Go
set_option maxRecDepth 100000
set_option linter.unusedVariables false
noncomputable section
/-! ipsecgate/concrete.encode -/
abbrev concrete_encode_R : Type := ((Unit) × ((List UInt8) × Unit))
def concrete_encode_s2 (N : Nat) (rc : D28 → (List UInt8) → Option concrete_encode_R) (t_25 : (List D28)) (t_26 : Int) (t_27 : Int) (b_0 : (List UInt8)) : Option (Lo (((List D28) × Int × Int × Unit) × ((List UInt8) × Unit)) ((Unit) × ((List UInt8) × Unit)) concrete_encode_R) :=
 bif (decide (t_27 < t_26)) then
 bif inR t_27 t_25.length then
 Option.bind (rc (t_25.getD t_27.toNat ((0 : Int), (0 : Int), ([] : List Tree), ())) b_0) fun y13 =>
 some (.go ((t_25, t_26, (w64 (t_27 + (1 : Int))), ()), (y13.2.1, ())))
 else none
 else
 some (.br ((()), (b_0, ())))
def concrete_encode_3 (N : Nat) (rc : D28 → (List UInt8) → Option concrete_encode_R) (b_0 : (List UInt8)) : Option concrete_encode_R :=
 some ((()), (b_0, ()))
def concrete_encode_1 (N : Nat) (rc : D28 → (List UInt8) → Option concrete_encode_R) (t_25 : (List D28)) (t_26 : Int) (t_27 : Int) (b_0 : (List UInt8)) : Option concrete_encode_R :=
 loopK N (fun y => concrete_encode_s2 N rc y.1.1 y.1.2.1 y.1.2.2.1 y.2.1) (fun (e : ((Unit) × ((List UInt8) × Unit))) => concrete_encode_3 N rc e.2.1) ((t_25, t_26, t_27, ()), (b_0, ()))
def concrete_encode (N : Nat) (rc : D28 → (List UInt8) → Option concrete_encode_R) (t_1 : D28) (b_0 : (List UInt8)) : Option concrete_encode_R :=
 bif room (b_0.length + ([(iu8 t_1.1)] : List UInt8).length) 1 then
 Option.bind (wire_Put N (iu64 t_1.2.1) (8 : Int) (b_0 ++ ([(iu8 t_1.1)] : List UInt8))) fun y4 =>
 Option.bind (wire_Put N (iu64 ((List.map Tree.un t_1.2.2.1).length : Int)) (2 : Int) y4.2.1) fun y8 =>
 let x9 := List.map Tree.un t_1.2.2.1
 concrete_encode_1 N rc x9 (x9.length : Int) (0 : Int) y8.2.1
 else none
def concrete_encode_S0 : Spec := ⟨[.row 0, .val (.sl T28), .val .i64, .val .i64], [(.row 5 .u8, .pos 0)]⟩
def concrete_encode_S1 : Spec := ⟨[.row 0], [(.row 5 .u8, .pos 0)]⟩
def concrete_encode_S2 : Spec := ⟨[.row 0, .val T28], [(.row 5 .u8, .pos 0)]⟩
def concrete_encode_ftr (N : Nat) (rc : D28 → (List UInt8) → Option concrete_encode_R) : Ctr := ⟨concrete_encode_S2, concrete_encode_S1.un [false], 0, (fun y => rc y.1.1 y.2.1)⟩
def concrete_encode_C (N : Nat) (rc : D28 → (List UInt8) → Option concrete_encode_R) : Ctx := ⟨36, G_tys, [(34, wire_Put_ctr N), (31, concrete_encode_ftr N rc)], G_globs, G_ifs⟩
def concrete_encode_K (_N : Nat) (_rc : D28 → (List UInt8) → Option concrete_encode_R) : XE → GS → Option concrete_encode_R := retK 0 [4] [false] concrete_encode_S1
def concrete_encode_L : List Code := (bodyOf (some Tryd.f31))
def concrete_encode_L2 : List Code := (loopOf (concrete_encode_L[5]?))
def concrete_encode_K2 (N : Nat) (rc : D28 → (List UInt8) → Option concrete_encode_R) : XE → GS → Option (Lo (((List D28) × Int × Int × Unit) × ((List UInt8) × Unit)) ((Unit) × ((List UInt8) × Unit)) concrete_encode_R) := roundK (some 0) (fit 0 [0, 25, 26, 27] concrete_encode_S0) (fit 0 [0] concrete_encode_S1) (concrete_encode_K N rc)
theorem concrete_encode_s2_b {E : Env} (N : Nat) (rc : D28 → (List UInt8) → Option concrete_encode_R) (hb : Base Tryd.prog (concrete_encode_C N rc) E 0) : Blk Tryd.prog (concrete_encode_C N rc) E [0, 25, 26, 27] concrete_encode_S0 (concrete_encode_L2.drop 0) (fun y => concrete_encode_s2 N rc y.1.1 y.1.2.1 y.1.2.2.1 y.2.1) (concrete_encode_K2 N rc) :=
 Blk.chunkAt hb 4 (X := (concrete_encode_K2 N rc .normal)) (NxOk.end (by kernel_rfl)) rfl (fun x => by kernel_rfl)
theorem concrete_encode_3_b {E : Env} (N : Nat) (rc : D28 → (List UInt8) → Option concrete_encode_R) (hb : Base Tryd.prog (concrete_encode_C N rc) E 0) : Blk Tryd.prog (concrete_encode_C N rc) E [0] concrete_encode_S1 (concrete_encode_L.drop 6) (fun y => concrete_encode_3 N rc y.2.1) (concrete_encode_K N rc) :=
 Blk.chunkAt hb 2 (X := (concrete_encode_K N rc .normal)) (NxOk.end (by kernel_rfl)) rfl (fun x => by kernel_rfl)
theorem concrete_encode_1_b {E : Env} (N : Nat) (rc : D28 → (List UInt8) → Option concrete_encode_R) (hb : Base Tryd.prog (concrete_encode_C N rc) E 0) : Blk Tryd.prog (concrete_encode_C N rc) E [0, 25, 26, 27] concrete_encode_S0 (concrete_encode_L.drop 5) (fun y => concrete_encode_1 N rc y.1.1 y.1.2.1 y.1.2.2.1 y.2.1) (concrete_encode_K N rc) :=
 Blk.loopAt (Nf := N) (hns := [0, 25, 26, 27]) (ans := [0]) (hc := concrete_encode_S0) (ac := concrete_encode_S1) (bid := 0) (step := (fun y => concrete_encode_s2 N rc y.1.1 y.1.2.1 y.1.2.2.1 y.2.1)) (J := (fun e => (goK 0 [0] concrete_encode_S1 (fun y => concrete_encode_3 N rc y.2.1)) (concrete_encode_S1.st [0] e))) hb (by kernel_rfl) (Blk.into (X := (goK 0 [0] concrete_encode_S1 (fun y => concrete_encode_3 N rc y.2.1))) (NxOk.go hb (concrete_encode_3_b N rc hb)) (fun x => by kernel_rfl)) (concrete_encode_s2_b N rc hb) (fun x => by kernel_rfl)
theorem concrete_encode_b {E : Env} (N : Nat) (rc : D28 → (List UInt8) → Option concrete_encode_R) (hb : Base Tryd.prog (concrete_encode_C N rc) E 0) : Blk Tryd.prog (concrete_encode_C N rc) E (List.range concrete_encode_S2.ks.length) concrete_encode_S2 (concrete_encode_L.drop 0) (fun y => concrete_encode N rc y.1.1 y.2.1) (concrete_encode_K N rc) :=
 Blk.chunkAt hb 5 (X := (goK 0 [0, 25, 26, 27] concrete_encode_S0 (fun y => concrete_encode_1 N rc y.1.1 y.1.2.1 y.1.2.2.1 y.2.1))) (NxOk.go hb (concrete_encode_1_b N rc hb)) rfl (fun x => by kernel_rfl)
def concrete_encode_octr (N : Nat) (rc : D28 → (List UInt8) → Option concrete_encode_R) : Ctr := ⟨concrete_encode_S2, concrete_encode_S1.un [false], 0, (fun y => concrete_encode N rc y.1.1 y.2.1)⟩
theorem concrete_encode_ctrs (N : Nat) (rc : D28 → (List UInt8) → Option concrete_encode_R) (hf : Ctr.ok Tryd.prog G_globs 31 (concrete_encode_ftr N rc)) : CtrsOk Tryd.prog (concrete_encode_C N rc) := ctrs_of (Γ := concrete_encode_C N rc) G_ifs_ok (by
 intro p hp
 simp only [concrete_encode_C, List.mem_cons, List.not_mem_nil, or_false] at hp
 rcases hp with rfl | rfl
 · exact wire_Put_ok N
 · exact hf)
theorem concrete_encode_ook (N : Nat) (rc : D28 → (List UInt8) → Option concrete_encode_R) (hf : Ctr.ok Tryd.prog G_globs 31 (concrete_encode_ftr N rc))  : Ctr.ok Tryd.prog G_globs 31 (concrete_encode_octr N rc) :=
 ctr_fn (Γ := concrete_encode_C N rc) (rfit := concrete_encode_S1) (bs := [false]) (res := [4]) (by kernel_rfl) (tys_ok G_tys_ok) (concrete_encode_ctrs N rc hf) Tryd.func31 (by kernel_rfl) (by kernel_rfl) Tryd.ntmps31 (by kernel_rfl) (by kernel_rfl) (by kernel_rfl) (by kernel_rfl) (fun E hb => concrete_encode_b N rc hb)
def concrete_encodeR (N : Nat) : Nat → D28 → (List UInt8) → Option concrete_encode_R
 | 0 => fun _ _ => none
 | n + 1 => fun t_1 b_0 => concrete_encode N (concrete_encodeR N n) t_1 b_0
theorem concrete_encodeR_ok (N : Nat) : ∀ n : Nat, Ctr.ok Tryd.prog G_globs 31 (concrete_encode_ftr N (concrete_encodeR N n))
 | 0 => ctr_never Tryd.func31 (by kernel_rfl) (by kernel_rfl) (fun x => rfl)
 | n + 1 => concrete_encode_ook N (concrete_encodeR N n) (concrete_encodeR_ok N n)
def concrete_encode_ctr (N : Nat) : Ctr := concrete_encode_ftr N (concrete_encodeR N N)
theorem concrete_encode_ok (N : Nat) : Ctr.ok Tryd.prog G_globs 31 (concrete_encode_ctr N) := concrete_encodeR_ok N N
/-! ipsecgate/concrete.Encode -/
abbrev concrete_Encode_R : Type := ((Int × Unit) × ((List UInt8) × Unit))
def concrete_Encode (N : Nat) (t_0 : D28) : Option concrete_Encode_R :=
 Option.bind (term_Valid N t_0) fun y1 =>
 bif (!y1.1.1) then
 some (((26 : Int), ()), (([] : List UInt8), ()))
 else
 Option.bind (concrete_encodeR N N t_0 ([] : List UInt8)) fun y3 =>
 some (((0 : Int), ()), (y3.2.1, ()))
def concrete_Encode_C (N : Nat) : Ctx := ⟨9, G_tys, [(26, term_Valid_ctr N), (31, concrete_encode_ctr N)], G_globs, G_ifs⟩
def concrete_Encode_S0 : Spec := ⟨[.val T28], []⟩
def concrete_Encode_S1 : Spec := ⟨[.row 0, .val .i64], [(.row 5 .u8, .pos 0)]⟩
def concrete_Encode_K (_N : Nat) : XE → GS → Option concrete_Encode_R := retK 0 [2, 3] [false, false] concrete_Encode_S1
def concrete_Encode_L : List Code := (bodyOf (some Tryd.f24))
theorem concrete_Encode_b {E : Env} (N : Nat) (hb : Base Tryd.prog (concrete_Encode_C N) E 0) : Blk Tryd.prog (concrete_Encode_C N) E (List.range concrete_Encode_S0.ks.length) concrete_Encode_S0 (concrete_Encode_L.drop 0) (fun y => concrete_Encode N y.1.1) (concrete_Encode_K N) :=
 Blk.chunkAt hb 5 (X := (concrete_Encode_K N .normal)) (NxOk.end (by kernel_rfl)) rfl (fun x => by kernel_rfl)
def concrete_Encode_ctr (N : Nat) : Ctr := ⟨concrete_Encode_S0, concrete_Encode_S1.un [false, false], 0, (fun y => concrete_Encode N y.1.1)⟩
theorem concrete_Encode_ctrs (N : Nat) : CtrsOk Tryd.prog (concrete_Encode_C N) := ctrs_of (Γ := concrete_Encode_C N) G_ifs_ok (by
 intro p hp
 simp only [concrete_Encode_C, List.mem_cons, List.not_mem_nil, or_false] at hp
 rcases hp with rfl | rfl
 · exact term_Valid_ok N
 · exact concrete_encode_ok N)
theorem concrete_Encode_ok (N : Nat) : Ctr.ok Tryd.prog G_globs 24 (concrete_Encode_ctr N) :=
 ctr_fn (Γ := concrete_Encode_C N) (rfit := concrete_Encode_S1) (bs := [false, false]) (res := [2, 3]) (by kernel_rfl) (tys_ok G_tys_ok) (concrete_Encode_ctrs N) Tryd.func24 (by kernel_rfl) (by kernel_rfl) Tryd.ntmps24 (by kernel_rfl) (by kernel_rfl) (by kernel_rfl) (by kernel_rfl) (fun E hb => concrete_Encode_b N hb)
/-! ipsecgate/sha256.Pad -/
abbrev sha256_Pad_R : Type := ((Unit) × ((List UInt8) × Unit))
def sha256_Pad_s2 (N : Nat) (length_0 : Int) (b_3 : (List UInt8)) : Option (Lo ((Int × Unit) × ((List UInt8) × Unit)) ((Int × Unit) × ((List UInt8) × Unit)) sha256_Pad_R) :=
 bif (!(decide (((w64 ((length_0.tmod (64 : Int)) + (b_3.length : Int))).tmod (64 : Int)) = (56 : Int)))) then
 bif room (b_3.length + ([(0 : UInt8)] : List UInt8).length) 1 then
 some (.go ((length_0, ()), ((b_3 ++ ([(0 : UInt8)] : List UInt8)), ())))
 else none
 else
 some (.br ((length_0, ()), (b_3, ())))
def sha256_Pad_3 (N : Nat) (length_0 : Int) (b_3 : (List UInt8)) : Option sha256_Pad_R :=
 Option.bind (wire_Put N ((iu64 length_0) * (8 : UInt64)) (8 : Int) b_3) fun y10 =>
 some ((()), (y10.2.1, ()))
def sha256_Pad_1 (N : Nat) (length_0 : Int) (b_3 : (List UInt8)) : Option sha256_Pad_R :=
 loopK N (fun y => sha256_Pad_s2 N y.1.1 y.2.1) (fun (e : ((Int × Unit) × ((List UInt8) × Unit))) => sha256_Pad_3 N e.1.1 e.2.1) ((length_0, ()), (b_3, ()))
def sha256_Pad (N : Nat) (length_0 : Int) : Option sha256_Pad_R :=
 bif (decide (length_0 < (0 : Int))) then
 some ((()), (([] : List UInt8), ()))
 else
 sha256_Pad_1 N length_0 ([(128 : UInt8)] : List UInt8)
def sha256_Pad_C (N : Nat) : Ctx := ⟨22, G_tys, [(34, wire_Put_ctr N)], G_globs, G_ifs⟩
def sha256_Pad_S0 : Spec := ⟨[.val .i64, .row 0], [(.row 5 .u8, .pos 1)]⟩
def sha256_Pad_S1 : Spec := ⟨[.val .i64], []⟩
def sha256_Pad_S2 : Spec := ⟨[.row 0], [(.row 5 .u8, .pos 0)]⟩
def sha256_Pad_K (_N : Nat) : XE → GS → Option sha256_Pad_R := retK 0 [2] [false] sha256_Pad_S2
def sha256_Pad_L : List Code := (bodyOf (some Tryd.f32))
def sha256_Pad_L2 : List Code := (loopOf (sha256_Pad_L[4]?))
def sha256_Pad_K2 (N : Nat) : XE → GS → Option (Lo ((Int × Unit) × ((List UInt8) × Unit)) ((Int × Unit) × ((List UInt8) × Unit)) sha256_Pad_R) := roundK (some 0) (fit 0 [0, 3] sha256_Pad_S0) (fit 0 [0, 3] sha256_Pad_S0) (sha256_Pad_K N)
theorem sha256_Pad_s2_b {E : Env} (N : Nat) (hb : Base Tryd.prog (sha256_Pad_C N) E 0) : Blk Tryd.prog (sha256_Pad_C N) E [0, 3] sha256_Pad_S0 (sha256_Pad_L2.drop 0) (fun y => sha256_Pad_s2 N y.1.1 y.2.1) (sha256_Pad_K2 N) :=
 Blk.chunkAt hb 3 (X := (sha256_Pad_K2 N .normal)) (NxOk.end (by kernel_rfl)) rfl (fun x => by kernel_rfl)
theorem sha256_Pad_3_b {E : Env} (N : Nat) (hb : Base Tryd.prog (sha256_Pad_C N) E 0) : Blk Tryd.prog (sha256_Pad_C N) E [0, 3] sha256_Pad_S0 (sha256_Pad_L.drop 5) (fun y => sha256_Pad_3 N y.1.1 y.2.1) (sha256_Pad_K N) :=
 Blk.chunkAt hb 2 (X := (sha256_Pad_K N .normal)) (NxOk.end (by kernel_rfl)) rfl (fun x => by kernel_rfl)
theorem sha256_Pad_1_b {E : Env} (N : Nat) (hb : Base Tryd.prog (sha256_Pad_C N) E 0) : Blk Tryd.prog (sha256_Pad_C N) E [0, 3] sha256_Pad_S0 (sha256_Pad_L.drop 4) (fun y => sha256_Pad_1 N y.1.1 y.2.1) (sha256_Pad_K N) :=
 Blk.loopAt (Nf := N) (hns := [0, 3]) (ans := [0, 3]) (hc := sha256_Pad_S0) (ac := sha256_Pad_S0) (bid := 0) (step := (fun y => sha256_Pad_s2 N y.1.1 y.2.1)) (J := (fun e => (goK 0 [0, 3] sha256_Pad_S0 (fun y => sha256_Pad_3 N y.1.1 y.2.1)) (sha256_Pad_S0.st [0, 3] e))) hb (by kernel_rfl) (Blk.into (X := (goK 0 [0, 3] sha256_Pad_S0 (fun y => sha256_Pad_3 N y.1.1 y.2.1))) (NxOk.go hb (sha256_Pad_3_b N hb)) (fun x => by kernel_rfl)) (sha256_Pad_s2_b N hb) (fun x => by kernel_rfl)
theorem sha256_Pad_b {E : Env} (N : Nat) (hb : Base Tryd.prog (sha256_Pad_C N) E 0) : Blk Tryd.prog (sha256_Pad_C N) E (List.range sha256_Pad_S1.ks.length) sha256_Pad_S1 (sha256_Pad_L.drop 0) (fun y => sha256_Pad N y.1.1) (sha256_Pad_K N) :=
 Blk.chunkAt hb 4 (X := (goK 0 [0, 3] sha256_Pad_S0 (fun y => sha256_Pad_1 N y.1.1 y.2.1))) (NxOk.go hb (sha256_Pad_1_b N hb)) rfl (fun x => by kernel_rfl)
def sha256_Pad_ctr (N : Nat) : Ctr := ⟨sha256_Pad_S1, sha256_Pad_S2.un [false], 0, (fun y => sha256_Pad N y.1.1)⟩
theorem sha256_Pad_ctrs (N : Nat) : CtrsOk Tryd.prog (sha256_Pad_C N) := ctrs_of (Γ := sha256_Pad_C N) G_ifs_ok (by
 intro p hp
 simp only [sha256_Pad_C, List.mem_cons, List.not_mem_nil, or_false] at hp
 rcases hp with rfl
 · exact wire_Put_ok N)
theorem sha256_Pad_ok (N : Nat) : Ctr.ok Tryd.prog G_globs 32 (sha256_Pad_ctr N) :=
 ctr_fn (Γ := sha256_Pad_C N) (rfit := sha256_Pad_S2) (bs := [false]) (res := [2]) (by kernel_rfl) (tys_ok G_tys_ok) (sha256_Pad_ctrs N) Tryd.func32 (by kernel_rfl) (by kernel_rfl) Tryd.ntmps32 (by kernel_rfl) (by kernel_rfl) (by kernel_rfl) (by kernel_rfl) (fun E hb => sha256_Pad_b N hb)
/-! ipsecgate/wire.Slice -/
abbrev wire_Slice_R : Type := (((List UInt8) × Bool × Unit) × (Unit))
def wire_Slice_1 (N : Nat) (b_0 : (List UInt8)) (at_1 : Int) (n_2 : Int) (t_27 : Bool) : Option wire_Slice_R :=
 bif t_27 then
 some ((([] : List UInt8), false, ()), (()))
 else
 let x2 := w64 (at_1 + n_2)
 let x3 := w64 (at_1 + n_2)
 bif decide (0 ≤ at_1) && decide (at_1 ≤ x2) && decide (x2 ≤ (b_0.length : Int)) && (decide (x2 ≤ x3) && decide (x3 ≤ (b_0.length : Int))) then
 some (((cut b_0 at_1.toNat x2.toNat), true, ()), (()))
 else none
def wire_Slice (N : Nat) (b_0 : (List UInt8)) (at_1 : Int) (n_2 : Int) : Option wire_Slice_R :=
 bif (decide (at_1 < (0 : Int))) then
 wire_Slice_1 N b_0 at_1 n_2 true
 else
 bif (decide (n_2 < (0 : Int))) then
 wire_Slice_1 N b_0 at_1 n_2 true
 else
 bif (decide ((b_0.length : Int) < at_1)) then
 wire_Slice_1 N b_0 at_1 n_2 true
 else
 wire_Slice_1 N b_0 at_1 n_2 (decide ((w64 ((b_0.length : Int) - at_1)) < n_2))
def wire_Slice_C (N : Nat) : Ctx := ⟨37, G_tys, [], G_globs, G_ifs⟩
def wire_Slice_S0 : Spec := ⟨[.val (.sl .u8), .val .i64, .val .i64, .val .bool], []⟩
def wire_Slice_S1 : Spec := ⟨[.val (.sl .u8), .val .i64, .val .i64], []⟩
def wire_Slice_S2 : Spec := ⟨[.val (.sl .u8), .val .bool], []⟩
def wire_Slice_K (_N : Nat) : XE → GS → Option wire_Slice_R := retK 0 [6, 7] [false, false] wire_Slice_S2
def wire_Slice_L : List Code := (bodyOf (some Tryd.f61))
theorem wire_Slice_1_b {E : Env} (N : Nat) (hb : Base Tryd.prog (wire_Slice_C N) E 0) : Blk Tryd.prog (wire_Slice_C N) E [0, 1, 2, 27] wire_Slice_S0 (wire_Slice_L.drop 2) (fun y => wire_Slice_1 N y.1.1 y.1.2.1 y.1.2.2.1 y.1.2.2.2.1) (wire_Slice_K N) :=
 Blk.chunkAt hb 3 (X := (wire_Slice_K N .normal)) (NxOk.end (by kernel_rfl)) rfl (fun x => by kernel_rfl)
theorem wire_Slice_b {E : Env} (N : Nat) (hb : Base Tryd.prog (wire_Slice_C N) E 0) : Blk Tryd.prog (wire_Slice_C N) E (List.range wire_Slice_S1.ks.length) wire_Slice_S1 (wire_Slice_L.drop 0) (fun y => wire_Slice N y.1.1 y.1.2.1 y.1.2.2.1) (wire_Slice_K N) :=
 Blk.chunkAt hb 2 (X := (goK 0 [0, 1, 2, 27] wire_Slice_S0 (fun y => wire_Slice_1 N y.1.1 y.1.2.1 y.1.2.2.1 y.1.2.2.2.1))) (NxOk.go hb (wire_Slice_1_b N hb)) rfl (fun x => by kernel_rfl)
def wire_Slice_ctr (N : Nat) : Ctr := ⟨wire_Slice_S1, wire_Slice_S2.un [false, false], 0, (fun y => wire_Slice N y.1.1 y.1.2.1 y.1.2.2.1)⟩
theorem wire_Slice_ctrs (N : Nat) : CtrsOk Tryd.prog (wire_Slice_C N) := ctrs_nil G_ifs_ok rfl
theorem wire_Slice_ok (N : Nat) : Ctr.ok Tryd.prog G_globs 61 (wire_Slice_ctr N) :=
 ctr_fn (Γ := wire_Slice_C N) (rfit := wire_Slice_S2) (bs := [false, false]) (res := [6, 7]) (by kernel_rfl) (tys_ok G_tys_ok) (wire_Slice_ctrs N) Tryd.func61 (by kernel_rfl) (by kernel_rfl) Tryd.ntmps61 (by kernel_rfl) (by kernel_rfl) (by kernel_rfl) (by kernel_rfl) (fun E hb => wire_Slice_b N hb)
/-! ipsecgate/wire.Number -/
abbrev wire_Number_R : Type := ((UInt64 × Bool × Unit) × (Unit))
def wire_Number_s3 (N : Nat) (v_10 : UInt64) (t_28 : (List UInt8)) (t_29 : Int) (t_30 : Int) : Option (Lo ((UInt64 × (List UInt8) × Int × Int × Unit) × (Unit)) ((UInt64 × Unit) × (Unit)) wire_Number_R) :=
 bif (decide (t_30 < t_29)) then
 bif inR t_30 t_28.length then
 some (.go ((((shl64 v_10 8) ||| (t_28.getD t_30.toNat (0 : UInt8)).toUInt64), t_28, t_29, (w64 (t_30 + (1 : Int))), ()), (())))
 else none
 else
 some (.br ((v_10, ()), (())))
def wire_Number_4 (N : Nat) (v_10 : UInt64) : Option wire_Number_R :=
 some ((v_10, true, ()), (()))
def wire_Number_2 (N : Nat) (v_10 : UInt64) (t_28 : (List UInt8)) (t_29 : Int) (t_30 : Int) : Option wire_Number_R :=
 loopK N (fun y => wire_Number_s3 N y.1.1 y.1.2.1 y.1.2.2.1 y.1.2.2.2.1) (fun (e : ((UInt64 × Unit) × (Unit))) => wire_Number_4 N e.1.1) ((v_10, t_28, t_29, t_30, ()), (()))
def wire_Number_1 (N : Nat) (b_0 : (List UInt8)) (at_1 : Int) (width_2 : Int) (t_18 : Bool) : Option wire_Number_R :=
 bif t_18 then
 some (((0 : UInt64), false, ()), (()))
 else
 Option.bind (wire_Slice N b_0 at_1 width_2) fun y2 =>
 bif (!y2.1.2.1) then
 some (((0 : UInt64), false, ()), (()))
 else
 wire_Number_2 N (0 : UInt64) y2.1.1 (y2.1.1.length : Int) (0 : Int)
def wire_Number (N : Nat) (b_0 : (List UInt8)) (at_1 : Int) (width_2 : Int) : Option wire_Number_R :=
 bif (decide (width_2 < (1 : Int))) then
 wire_Number_1 N b_0 at_1 width_2 true
 else
 wire_Number_1 N b_0 at_1 width_2 (decide ((8 : Int) < width_2))
def wire_Number_C (N : Nat) : Ctx := ⟨41, G_tys, [(61, wire_Slice_ctr N)], G_globs, G_ifs⟩
def wire_Number_S0 : Spec := ⟨[.val .u64, .val (.sl .u8), .val .i64, .val .i64], []⟩
def wire_Number_S1 : Spec := ⟨[.val .u64], []⟩
def wire_Number_S2 : Spec := ⟨[.val (.sl .u8), .val .i64, .val .i64, .val .bool], []⟩
def wire_Number_S3 : Spec := ⟨[.val (.sl .u8), .val .i64, .val .i64], []⟩
def wire_Number_S4 : Spec := ⟨[.val .u64, .val .bool], []⟩
def wire_Number_K (_N : Nat) : XE → GS → Option wire_Number_R := retK 0 [6, 7] [false, false] wire_Number_S4
def wire_Number_L : List Code := (bodyOf (some Tryd.f53))
def wire_Number_L3 : List Code := (loopOf (wire_Number_L[8]?))
def wire_Number_K3 (N : Nat) : XE → GS → Option (Lo ((UInt64 × (List UInt8) × Int × Int × Unit) × (Unit)) ((UInt64 × Unit) × (Unit)) wire_Number_R) := roundK (some 0) (fit 0 [10, 28, 29, 30] wire_Number_S0) (fit 0 [10] wire_Number_S1) (wire_Number_K N)
theorem wire_Number_s3_b {E : Env} (N : Nat) (hb : Base Tryd.prog (wire_Number_C N) E 0) : Blk Tryd.prog (wire_Number_C N) E [10, 28, 29, 30] wire_Number_S0 (wire_Number_L3.drop 0) (fun y => wire_Number_s3 N y.1.1 y.1.2.1 y.1.2.2.1 y.1.2.2.2.1) (wire_Number_K3 N) :=
 Blk.chunkAt hb 4 (X := (wire_Number_K3 N .normal)) (NxOk.end (by kernel_rfl)) rfl (fun x => by kernel_rfl)
theorem wire_Number_4_b {E : Env} (N : Nat) (hb : Base Tryd.prog (wire_Number_C N) E 0) : Blk Tryd.prog (wire_Number_C N) E [10] wire_Number_S1 (wire_Number_L.drop 9) (fun y => wire_Number_4 N y.1.1) (wire_Number_K N) :=
 Blk.chunkAt hb 2 (X := (wire_Number_K N .normal)) (NxOk.end (by kernel_rfl)) rfl (fun x => by kernel_rfl)
theorem wire_Number_2_b {E : Env} (N : Nat) (hb : Base Tryd.prog (wire_Number_C N) E 0) : Blk Tryd.prog (wire_Number_C N) E [10, 28, 29, 30] wire_Number_S0 (wire_Number_L.drop 8) (fun y => wire_Number_2 N y.1.1 y.1.2.1 y.1.2.2.1 y.1.2.2.2.1) (wire_Number_K N) :=
 Blk.loopAt (Nf := N) (hns := [10, 28, 29, 30]) (ans := [10]) (hc := wire_Number_S0) (ac := wire_Number_S1) (bid := 0) (step := (fun y => wire_Number_s3 N y.1.1 y.1.2.1 y.1.2.2.1 y.1.2.2.2.1)) (J := (fun e => (goK 0 [10] wire_Number_S1 (fun y => wire_Number_4 N y.1.1)) (wire_Number_S1.st [10] e))) hb (by kernel_rfl) (Blk.into (X := (goK 0 [10] wire_Number_S1 (fun y => wire_Number_4 N y.1.1))) (NxOk.go hb (wire_Number_4_b N hb)) (fun x => by kernel_rfl)) (wire_Number_s3_b N hb) (fun x => by kernel_rfl)
theorem wire_Number_1_b {E : Env} (N : Nat) (hb : Base Tryd.prog (wire_Number_C N) E 0) : Blk Tryd.prog (wire_Number_C N) E [0, 1, 2, 18] wire_Number_S2 (wire_Number_L.drop 2) (fun y => wire_Number_1 N y.1.1 y.1.2.1 y.1.2.2.1 y.1.2.2.2.1) (wire_Number_K N) :=
 Blk.chunkAt hb 6 (X := (goK 0 [10, 28, 29, 30] wire_Number_S0 (fun y => wire_Number_2 N y.1.1 y.1.2.1 y.1.2.2.1 y.1.2.2.2.1))) (NxOk.go hb (wire_Number_2_b N hb)) rfl (fun x => by kernel_rfl)
theorem wire_Number_b {E : Env} (N : Nat) (hb : Base Tryd.prog (wire_Number_C N) E 0) : Blk Tryd.prog (wire_Number_C N) E (List.range wire_Number_S3.ks.length) wire_Number_S3 (wire_Number_L.drop 0) (fun y => wire_Number N y.1.1 y.1.2.1 y.1.2.2.1) (wire_Number_K N) :=
 Blk.chunkAt hb 2 (X := (goK 0 [0, 1, 2, 18] wire_Number_S2 (fun y => wire_Number_1 N y.1.1 y.1.2.1 y.1.2.2.1 y.1.2.2.2.1))) (NxOk.go hb (wire_Number_1_b N hb)) rfl (fun x => by kernel_rfl)
def wire_Number_ctr (N : Nat) : Ctr := ⟨wire_Number_S3, wire_Number_S4.un [false, false], 0, (fun y => wire_Number N y.1.1 y.1.2.1 y.1.2.2.1)⟩
theorem wire_Number_ctrs (N : Nat) : CtrsOk Tryd.prog (wire_Number_C N) := ctrs_of (Γ := wire_Number_C N) G_ifs_ok (by
 intro p hp
 simp only [wire_Number_C, List.mem_cons, List.not_mem_nil, or_false] at hp
 rcases hp with rfl
 · exact wire_Slice_ok N)
theorem wire_Number_ok (N : Nat) : Ctr.ok Tryd.prog G_globs 53 (wire_Number_ctr N) :=
 ctr_fn (Γ := wire_Number_C N) (rfit := wire_Number_S4) (bs := [false, false]) (res := [6, 7]) (by kernel_rfl) (tys_ok G_tys_ok) (wire_Number_ctrs N) Tryd.func53 (by kernel_rfl) (by kernel_rfl) Tryd.ntmps53 (by kernel_rfl) (by kernel_rfl) (by kernel_rfl) (by kernel_rfl) (fun E hb => wire_Number_b N hb)
/-! math/bits.RotateLeft32 -/
abbrev math_bits_RotateLeft32_R : Type := ((UInt32 × Unit) × (Unit))
def math_bits_RotateLeft32 (N : Nat) (x_0 : UInt32) (k_1 : Int) : Option math_bits_RotateLeft32_R :=
 let x2 := (iu64 k_1) &&& (31 : UInt64)
 some ((((shl32 x_0 x2.toNat) ||| (shr32 x_0 ((32 : UInt64) - x2).toNat)), ()), (()))
def math_bits_RotateLeft32_C (N : Nat) : Ctx := ⟨17, G_tys, [], G_globs, G_ifs⟩
def math_bits_RotateLeft32_S0 : Spec := ⟨[.val .u32, .val .i64], []⟩
def math_bits_RotateLeft32_S1 : Spec := ⟨[.val .u32], []⟩
def math_bits_RotateLeft32_K (_N : Nat) : XE → GS → Option math_bits_RotateLeft32_R := retK 0 [4] [false] math_bits_RotateLeft32_S1
def math_bits_RotateLeft32_L : List Code := (bodyOf (some Tryd.f54))
theorem math_bits_RotateLeft32_b {E : Env} (N : Nat) (hb : Base Tryd.prog (math_bits_RotateLeft32_C N) E 0) : Blk Tryd.prog (math_bits_RotateLeft32_C N) E (List.range math_bits_RotateLeft32_S0.ks.length) math_bits_RotateLeft32_S0 (math_bits_RotateLeft32_L.drop 0) (fun y => math_bits_RotateLeft32 N y.1.1 y.1.2.1) (math_bits_RotateLeft32_K N) :=
 Blk.chunkAt hb 4 (X := (math_bits_RotateLeft32_K N .normal)) (NxOk.end (by kernel_rfl)) rfl (fun x => by kernel_rfl)
def math_bits_RotateLeft32_ctr (N : Nat) : Ctr := ⟨math_bits_RotateLeft32_S0, math_bits_RotateLeft32_S1.un [false], 0, (fun y => math_bits_RotateLeft32 N y.1.1 y.1.2.1)⟩
theorem math_bits_RotateLeft32_ctrs (N : Nat) : CtrsOk Tryd.prog (math_bits_RotateLeft32_C N) := ctrs_nil G_ifs_ok rfl
theorem math_bits_RotateLeft32_ok (N : Nat) : Ctr.ok Tryd.prog G_globs 54 (math_bits_RotateLeft32_ctr N) :=
 ctr_fn (Γ := math_bits_RotateLeft32_C N) (rfit := math_bits_RotateLeft32_S1) (bs := [false]) (res := [4]) (by kernel_rfl) (tys_ok G_tys_ok) (math_bits_RotateLeft32_ctrs N) Tryd.func54 (by kernel_rfl) (by kernel_rfl) Tryd.ntmps54 (by kernel_rfl) (by kernel_rfl) (by kernel_rfl) (by kernel_rfl) (fun E hb => math_bits_RotateLeft32_b N hb)
/-! ipsecgate/sha256.right -/
abbrev sha256_right_R : Type := ((UInt32 × Unit) × (Unit))
def sha256_right (N : Nat) (x_0 : UInt32) (n_1 : Int) : Option sha256_right_R :=
 Option.bind (math_bits_RotateLeft32 N x_0 (w64 (0 - n_1))) fun y2 =>
 some ((y2.1.1, ()), (()))
def sha256_right_C (N : Nat) : Ctx := ⟨9, G_tys, [(54, math_bits_RotateLeft32_ctr N)], G_globs, G_ifs⟩
def sha256_right_S0 : Spec := ⟨[.val .u32, .val .i64], []⟩
def sha256_right_S1 : Spec := ⟨[.val .u32], []⟩
def sha256_right_K (_N : Nat) : XE → GS → Option sha256_right_R := retK 0 [4] [false] sha256_right_S1
def sha256_right_L : List Code := (bodyOf (some Tryd.f41))
theorem sha256_right_b {E : Env} (N : Nat) (hb : Base Tryd.prog (sha256_right_C N) E 0) : Blk Tryd.prog (sha256_right_C N) E (List.range sha256_right_S0.ks.length) sha256_right_S0 (sha256_right_L.drop 0) (fun y => sha256_right N y.1.1 y.1.2.1) (sha256_right_K N) :=
 Blk.chunkAt hb 3 (X := (sha256_right_K N .normal)) (NxOk.end (by kernel_rfl)) rfl (fun x => by kernel_rfl)
def sha256_right_ctr (N : Nat) : Ctr := ⟨sha256_right_S0, sha256_right_S1.un [false], 0, (fun y => sha256_right N y.1.1 y.1.2.1)⟩
theorem sha256_right_ctrs (N : Nat) : CtrsOk Tryd.prog (sha256_right_C N) := ctrs_of (Γ := sha256_right_C N) G_ifs_ok (by
 intro p hp
 simp only [sha256_right_C, List.mem_cons, List.not_mem_nil, or_false] at hp
 rcases hp with rfl
 · exact math_bits_RotateLeft32_ok N)
theorem sha256_right_ok (N : Nat) : Ctr.ok Tryd.prog G_globs 41 (sha256_right_ctr N) :=
 ctr_fn (Γ := sha256_right_C N) (rfit := sha256_right_S1) (bs := [false]) (res := [4]) (by kernel_rfl) (tys_ok G_tys_ok) (sha256_right_ctrs N) Tryd.func41 (by kernel_rfl) (by kernel_rfl) Tryd.ntmps41 (by kernel_rfl) (by kernel_rfl) (by kernel_rfl) (by kernel_rfl) (fun E hb => sha256_right_b N hb)
/-! ipsecgate/sha256.schedule -/
abbrev sha256_schedule_R : Type := (((List UInt32) × Unit) × (Unit))
def sha256_schedule_s2 (N : Nat) (block_0 : (List UInt8)) (t_9 : Int) (t_2 : (List UInt32)) (w_3 : (List UInt32)) : Option (Lo (((List UInt8) × Int × Unit) × ((List UInt32) × (List UInt32) × Unit)) ((Unit) × ((List UInt32) × (List UInt32) × Unit)) sha256_schedule_R) :=
 bif (decide (t_9 < (64 : Int))) then
 bif (decide (t_9 < (16 : Int))) then
 Option.bind (wire_Number N block_0 (w64 ((4 : Int) * t_9)) (4 : Int)) fun y4 =>
 bif inR t_9 64 then
 some (.go ((block_0, (w64 (t_9 + (1 : Int))), ()), (t_2, (w_3.set t_9.toNat y4.1.1.toUInt32), ())))
 else none
 else
 let x7 := w64 (t_9 - (2 : Int))
 bif inR x7 64 then
 let x8 := (w_3.getD x7.toNat (0 : UInt32))
 let x9 := w64 (t_9 - (15 : Int))
 bif inR x9 64 then
 let x10 := (w_3.getD x9.toNat (0 : UInt32))
 Option.bind (sha256_right N x8 (17 : Int)) fun y11 =>
 Option.bind (sha256_right N x8 (19 : Int)) fun y12 =>
 let x16 := w64 (t_9 - (7 : Int))
 bif inR x16 64 then
 Option.bind (sha256_right N x10 (7 : Int)) fun y19 =>
 Option.bind (sha256_right N x10 (18 : Int)) fun y20 =>
 let x25 := w64 (t_9 - (16 : Int))
 bif inR x25 64 then
 bif inR t_9 64 then
 some (.go ((block_0, (w64 (t_9 + (1 : Int))), ()), (t_2, (w_3.set t_9.toNat (((((y11.1.1 ^^^ y12.1.1) ^^^ (shr32 x8 10)) + (w_3.getD x16.toNat (0 : UInt32))) + ((y19.1.1 ^^^ y20.1.1) ^^^ (shr32 x10 3))) + (w_3.getD x25.toNat (0 : UInt32)))), ())))
 else none
 else none
 else none
 else none
 else none
 else
 some (.br ((()), (t_2, w_3, ())))
def sha256_schedule_3 (N : Nat) (t_2 : (List UInt32)) (w_3 : (List UInt32)) : Option sha256_schedule_R :=
 some ((w_3, ()), (()))
def sha256_schedule_1 (N : Nat) (block_0 : (List UInt8)) (t_9 : Int) (t_2 : (List UInt32)) (w_3 : (List UInt32)) : Option sha256_schedule_R :=
 loopK N (fun y => sha256_schedule_s2 N y.1.1 y.1.2.1 y.2.1 y.2.2.1) (fun (e : ((Unit) × ((List UInt32) × (List UInt32) × Unit))) => sha256_schedule_3 N e.2.1 e.2.2.1) ((block_0, t_9, ()), (t_2, w_3, ()))
def sha256_schedule (N : Nat) (block_0 : (List UInt8)) : Option sha256_schedule_R :=
 sha256_schedule_1 N block_0 (0 : Int) (List.replicate 64 (0 : UInt32)) (List.replicate 64 (0 : UInt32))
def sha256_schedule_C (N : Nat) : Ctx := ⟨64, G_tys, [(53, wire_Number_ctr N), (41, sha256_right_ctr N)], G_globs, G_ifs⟩
def sha256_schedule_S0 : Spec := ⟨[.val (.sl .u8), .ref 0 (.arr 64 .u32), .ref 1 (.arr 64 .u32), .val .i64], [(.box 70 (.arr 64 .u32), .pos 1), (.box 70 (.arr 64 .u32), .pos 2)]⟩
def sha256_schedule_S1 : Spec := ⟨[.ref 0 (.arr 64 .u32), .ref 1 (.arr 64 .u32)], [(.box 70 (.arr 64 .u32), .pos 0), (.box 70 (.arr 64 .u32), .pos 1)]⟩
def sha256_schedule_S2 : Spec := ⟨[.val (.sl .u8)], []⟩
def sha256_schedule_S3 : Spec := ⟨[.fp (.arr 64 .u32)], []⟩
def sha256_schedule_K (_N : Nat) : XE → GS → Option sha256_schedule_R := retK 0 [2] [true] sha256_schedule_S3
def sha256_schedule_L : List Code := (bodyOf (some Tryd.f40))
def sha256_schedule_L2 : List Code := (loopOf (sha256_schedule_L[3]?))
def sha256_schedule_K2 (N : Nat) : XE → GS → Option (Lo (((List UInt8) × Int × Unit) × ((List UInt32) × (List UInt32) × Unit)) ((Unit) × ((List UInt32) × (List UInt32) × Unit)) sha256_schedule_R) := roundK (some 0) (fit 0 [0, 2, 3, 9] sha256_schedule_S0) (fit 0 [2, 3] sha256_schedule_S1) (sha256_schedule_K N)
theorem sha256_schedule_s2_b {E : Env} (N : Nat) (hb : Base Tryd.prog (sha256_schedule_C N) E 0) : Blk Tryd.prog (sha256_schedule_C N) E [0, 2, 3, 9] sha256_schedule_S0 (sha256_schedule_L2.drop 0) (fun y => sha256_schedule_s2 N y.1.1 y.1.2.1 y.2.1 y.2.2.1) (sha256_schedule_K2 N) :=
 Blk.chunkAt hb 4 (X := (sha256_schedule_K2 N .normal)) (NxOk.end (by kernel_rfl)) rfl (fun x => by kernel_rfl)
theorem sha256_schedule_3_b {E : Env} (N : Nat) (hb : Base Tryd.prog (sha256_schedule_C N) E 0) : Blk Tryd.prog (sha256_schedule_C N) E [2, 3] sha256_schedule_S1 (sha256_schedule_L.drop 4) (fun y => sha256_schedule_3 N y.2.1 y.2.2.1) (sha256_schedule_K N) :=
 Blk.chunkAt hb 2 (X := (sha256_schedule_K N .normal)) (NxOk.end (by kernel_rfl)) rfl (fun x => by kernel_rfl)
theorem sha256_schedule_1_b {E : Env} (N : Nat) (hb : Base Tryd.prog (sha256_schedule_C N) E 0) : Blk Tryd.prog (sha256_schedule_C N) E [0, 2, 3, 9] sha256_schedule_S0 (sha256_schedule_L.drop 3) (fun y => sha256_schedule_1 N y.1.1 y.1.2.1 y.2.1 y.2.2.1) (sha256_schedule_K N) :=
 Blk.loopAt (Nf := N) (hns := [0, 2, 3, 9]) (ans := [2, 3]) (hc := sha256_schedule_S0) (ac := sha256_schedule_S1) (bid := 0) (step := (fun y => sha256_schedule_s2 N y.1.1 y.1.2.1 y.2.1 y.2.2.1)) (J := (fun e => (goK 0 [2, 3] sha256_schedule_S1 (fun y => sha256_schedule_3 N y.2.1 y.2.2.1)) (sha256_schedule_S1.st [2, 3] e))) hb (by kernel_rfl) (Blk.into (X := (goK 0 [2, 3] sha256_schedule_S1 (fun y => sha256_schedule_3 N y.2.1 y.2.2.1))) (NxOk.go hb (sha256_schedule_3_b N hb)) (fun x => by kernel_rfl)) (sha256_schedule_s2_b N hb) (fun x => by kernel_rfl)
theorem sha256_schedule_b {E : Env} (N : Nat) (hb : Base Tryd.prog (sha256_schedule_C N) E 0) : Blk Tryd.prog (sha256_schedule_C N) E (List.range sha256_schedule_S2.ks.length) sha256_schedule_S2 (sha256_schedule_L.drop 0) (fun y => sha256_schedule N y.1.1) (sha256_schedule_K N) :=
 Blk.chunkAt hb 3 (X := (goK 0 [0, 2, 3, 9] sha256_schedule_S0 (fun y => sha256_schedule_1 N y.1.1 y.1.2.1 y.2.1 y.2.2.1))) (NxOk.go hb (sha256_schedule_1_b N hb)) rfl (fun x => by kernel_rfl)
def sha256_schedule_ctr (N : Nat) : Ctr := ⟨sha256_schedule_S2, sha256_schedule_S3.un [true], 0, (fun y => sha256_schedule N y.1.1)⟩
theorem sha256_schedule_ctrs (N : Nat) : CtrsOk Tryd.prog (sha256_schedule_C N) := ctrs_of (Γ := sha256_schedule_C N) G_ifs_ok (by
 intro p hp
 simp only [sha256_schedule_C, List.mem_cons, List.not_mem_nil, or_false] at hp
 rcases hp with rfl | rfl
 · exact wire_Number_ok N
 · exact sha256_right_ok N)
theorem sha256_schedule_ok (N : Nat) : Ctr.ok Tryd.prog G_globs 40 (sha256_schedule_ctr N) :=
 ctr_fn (Γ := sha256_schedule_C N) (rfit := sha256_schedule_S3) (bs := [true]) (res := [2]) (by kernel_rfl) (tys_ok G_tys_ok) (sha256_schedule_ctrs N) Tryd.func40 (by kernel_rfl) (by kernel_rfl) Tryd.ntmps40 (by kernel_rfl) (by kernel_rfl) (by kernel_rfl) (by kernel_rfl) (fun E hb => sha256_schedule_b N hb)
/-! ipsecgate/sha256.Block -/
abbrev sha256_Block_R : Type := (((List UInt32) × Bool × Unit) × (Unit))
def sha256_Block_s2 (N : Nat) (a_6 : UInt32) (b_7 : UInt32) (c_8 : UInt32) (d_9 : UInt32) (e_10 : UInt32) (f_11 : UInt32) (g_12 : UInt32) (h_13 : UInt32) (t_41 : (List UInt32)) (t_42 : Int) (state_2 : (List UInt32)) (t_4 : (List UInt32)) : Option (Lo ((UInt32 × UInt32 × UInt32 × UInt32 × UInt32 × UInt32 × UInt32 × UInt32 × (List UInt32) × Int × Unit) × ((List UInt32) × (List UInt32) × Unit)) ((UInt32 × UInt32 × UInt32 × UInt32 × UInt32 × UInt32 × UInt32 × UInt32 × Unit) × ((List UInt32) × (List UInt32) × Unit)) sha256_Block_R) :=
 bif (decide (t_42 < (64 : Int))) then
 bif inR t_42 64 then
 let x14 := t_41.getD t_42.toNat (0 : UInt32)
 Option.bind (sha256_right N e_10 (6 : Int)) fun y15 =>
 Option.bind (sha256_right N e_10 (11 : Int)) fun y16 =>
 Option.bind (sha256_right N e_10 (25 : Int)) fun y18 =>
 let x19 := (y15.1.1 ^^^ y16.1.1) ^^^ y18.1.1
 bif inR t_42 64 then
 let x26 := g_sha256_constants.getD t_42.toNat (0 : UInt32)
 Option.bind (sha256_right N a_6 (2 : Int)) fun y29 =>
 Option.bind (sha256_right N a_6 (13 : Int)) fun y30 =>
 Option.bind (sha256_right N a_6 (22 : Int)) fun y32 =>
 some (.go (((((((h_13 + x19) + ((e_10 &&& f_11) ^^^ ((~~~ e_10) &&& g_12))) + x26) + x14) + (((y29.1.1 ^^^ y30.1.1) ^^^ y32.1.1) + (((a_6 &&& b_7) ^^^ (a_6 &&& c_8)) ^^^ (b_7 &&& c_8)))), a_6, b_7, c_8, (d_9 + ((((h_13 + x19) + ((e_10 &&& f_11) ^^^ ((~~~ e_10) &&& g_12))) + x26) + x14)), e_10, f_11, g_12, t_41, (w64 (t_42 + (1 : Int))), ()), (state_2, t_4, ())))
 else none
 else none
 else
 some (.br ((a_6, b_7, c_8, d_9, e_10, f_11, g_12, h_13, ()), (state_2, t_4, ())))
def sha256_Block_s5 (N : Nat) (t_112 : (List UInt32)) (t_113 : Int) (state_2 : (List UInt32)) (t_4 : (List UInt32)) : Option (Lo (((List UInt32) × Int × Unit) × ((List UInt32) × (List UInt32) × Unit)) ((Unit) × ((List UInt32) × (List UInt32) × Unit)) sha256_Block_R) :=
 bif (decide (t_113 < (8 : Int))) then
 bif inR t_113 8 then
 bif inR t_113 8 then
 bif inR t_113 8 then
 some (.go ((t_112, (w64 (t_113 + (1 : Int))), ()), ((state_2.set t_113.toNat ((state_2.getD t_113.toNat (0 : UInt32)) + (t_112.getD t_113.toNat (0 : UInt32)))), t_4, ())))
 else none
 else none
 else none
 else
 some (.br ((()), (state_2, t_4, ())))
def sha256_Block_6 (N : Nat) (state_2 : (List UInt32)) (t_4 : (List UInt32)) : Option sha256_Block_R :=
 some ((state_2, true, ()), (()))
def sha256_Block_4 (N : Nat) (t_112 : (List UInt32)) (t_113 : Int) (state_2 : (List UInt32)) (t_4 : (List UInt32)) : Option sha256_Block_R :=
 loopK N (fun y => sha256_Block_s5 N y.1.1 y.1.2.1 y.2.1 y.2.2.1) (fun (e : ((Unit) × ((List UInt32) × (List UInt32) × Unit))) => sha256_Block_6 N e.2.1 e.2.2.1) ((t_112, t_113, ()), (state_2, t_4, ()))
def sha256_Block_3 (N : Nat) (a_6 : UInt32) (b_7 : UInt32) (c_8 : UInt32) (d_9 : UInt32) (e_10 : UInt32) (f_11 : UInt32) (g_12 : UInt32) (h_13 : UInt32) (state_2 : (List UInt32)) (t_4 : (List UInt32)) : Option sha256_Block_R :=
 sha256_Block_4 N ([a_6, b_7, c_8, d_9, e_10, f_11, g_12, h_13] : List UInt32) (0 : Int) state_2 t_4
def sha256_Block_1 (N : Nat) (a_6 : UInt32) (b_7 : UInt32) (c_8 : UInt32) (d_9 : UInt32) (e_10 : UInt32) (f_11 : UInt32) (g_12 : UInt32) (h_13 : UInt32) (t_41 : (List UInt32)) (t_42 : Int) (state_2 : (List UInt32)) (t_4 : (List UInt32)) : Option sha256_Block_R :=
 loopK N (fun y => sha256_Block_s2 N y.1.1 y.1.2.1 y.1.2.2.1 y.1.2.2.2.1 y.1.2.2.2.2.1 y.1.2.2.2.2.2.1 y.1.2.2.2.2.2.2.1 y.1.2.2.2.2.2.2.2.1 y.1.2.2.2.2.2.2.2.2.1 y.1.2.2.2.2.2.2.2.2.2.1 y.2.1 y.2.2.1) (fun (e : ((UInt32 × UInt32 × UInt32 × UInt32 × UInt32 × UInt32 × UInt32 × UInt32 × Unit) × ((List UInt32) × (List UInt32) × Unit))) => sha256_Block_3 N e.1.1 e.1.2.1 e.1.2.2.1 e.1.2.2.2.1 e.1.2.2.2.2.1 e.1.2.2.2.2.2.1 e.1.2.2.2.2.2.2.1 e.1.2.2.2.2.2.2.2.1 e.2.1 e.2.2.1) ((a_6, b_7, c_8, d_9, e_10, f_11, g_12, h_13, t_41, t_42, ()), (state_2, t_4, ()))
def sha256_Block (N : Nat) (state_0 : (List UInt32)) (block_1 : (List UInt8)) : Option sha256_Block_R :=
 bif (!(decide ((block_1.length : Int) = (64 : Int)))) then
 some (((List.replicate 8 (0 : UInt32)), false, ()), (()))
 else
 Option.bind (sha256_schedule N block_1) fun y12 =>
 sha256_Block_1 N (state_0.getD 0 (0 : UInt32)) (state_0.getD 1 (0 : UInt32)) (state_0.getD 2 (0 : UInt32)) (state_0.getD 3 (0 : UInt32)) (state_0.getD 4 (0 : UInt32)) (state_0.getD 5 (0 : UInt32)) (state_0.getD 6 (0 : UInt32)) (state_0.getD 7 (0 : UInt32)) y12.1.1 (0 : Int) state_0 (List.replicate 8 (0 : UInt32))
def sha256_Block_C (N : Nat) : Ctx := ⟨125, G_tys, [(40, sha256_schedule_ctr N), (41, sha256_right_ctr N)], G_globs, G_ifs⟩
def sha256_Block_S0 : Spec := ⟨[.ref 0 (.arr 8 .u32), .ref 1 (.arr 8 .u32), .val .u32, .val .u32, .val .u32, .val .u32, .val .u32, .val .u32, .val .u32, .val .u32, .val (.arr 64 .u32), .val .i64], [(.box 57 (.arr 8 .u32), .pos 0), (.box 57 (.arr 8 .u32), .pos 1)]⟩
def sha256_Block_S1 : Spec := ⟨[.ref 0 (.arr 8 .u32), .ref 1 (.arr 8 .u32), .val (.arr 8 .u32), .val .i64], [(.box 57 (.arr 8 .u32), .pos 0), (.box 57 (.arr 8 .u32), .pos 1)]⟩
def sha256_Block_S2 : Spec := ⟨[.ref 0 (.arr 8 .u32), .ref 1 (.arr 8 .u32)], [(.box 57 (.arr 8 .u32), .pos 0), (.box 57 (.arr 8 .u32), .pos 1)]⟩
def sha256_Block_S3 : Spec := ⟨[.ref 0 (.arr 8 .u32), .ref 1 (.arr 8 .u32), .val .u32, .val .u32, .val .u32, .val .u32, .val .u32, .val .u32, .val .u32, .val .u32], [(.box 57 (.arr 8 .u32), .pos 0), (.box 57 (.arr 8 .u32), .pos 1)]⟩
def sha256_Block_S4 : Spec := ⟨[.val (.arr 8 .u32), .val (.sl .u8)], []⟩
def sha256_Block_S5 : Spec := ⟨[.fp (.arr 8 .u32), .val .bool], []⟩
def sha256_Block_K (_N : Nat) : XE → GS → Option sha256_Block_R := retK 0 [4, 5] [true, false] sha256_Block_S5
def sha256_Block_L : List Code := (bodyOf (some Tryd.f33))
def sha256_Block_L2 : List Code := (loopOf (sha256_Block_L[5]?))
def sha256_Block_L5 : List Code := (loopOf (sha256_Block_L[7]?))
def sha256_Block_K2 (N : Nat) : XE → GS → Option (Lo ((UInt32 × UInt32 × UInt32 × UInt32 × UInt32 × UInt32 × UInt32 × UInt32 × (List UInt32) × Int × Unit) × ((List UInt32) × (List UInt32) × Unit)) ((UInt32 × UInt32 × UInt32 × UInt32 × UInt32 × UInt32 × UInt32 × UInt32 × Unit) × ((List UInt32) × (List UInt32) × Unit)) sha256_Block_R) := roundK (some 0) (fit 0 [2, 4, 6, 7, 8, 9, 10, 11, 12, 13, 41, 42] sha256_Block_S0) (fit 0 [2, 4, 6, 7, 8, 9, 10, 11, 12, 13] sha256_Block_S3) (sha256_Block_K N)
def sha256_Block_K5 (N : Nat) : XE → GS → Option (Lo (((List UInt32) × Int × Unit) × ((List UInt32) × (List UInt32) × Unit)) ((Unit) × ((List UInt32) × (List UInt32) × Unit)) sha256_Block_R) := roundK (some 2) (fit 0 [2, 4, 112, 113] sha256_Block_S1) (fit 0 [2, 4] sha256_Block_S2) (sha256_Block_K N)
theorem sha256_Block_s2_b {E : Env} (N : Nat) (hb : Base Tryd.prog (sha256_Block_C N) E 0) : Blk Tryd.prog (sha256_Block_C N) E [2, 4, 6, 7, 8, 9, 10, 11, 12, 13, 41, 42] sha256_Block_S0 (sha256_Block_L2.drop 0) (fun y => sha256_Block_s2 N y.1.1 y.1.2.1 y.1.2.2.1 y.1.2.2.2.1 y.1.2.2.2.2.1 y.1.2.2.2.2.2.1 y.1.2.2.2.2.2.2.1 y.1.2.2.2.2.2.2.2.1 y.1.2.2.2.2.2.2.2.2.1 y.1.2.2.2.2.2.2.2.2.2.1 y.2.1 y.2.2.1) (sha256_Block_K2 N) :=
 Blk.chunkAt hb 4 (X := (sha256_Block_K2 N .normal)) (NxOk.end (by kernel_rfl)) rfl (fun x => by kernel_rfl)
theorem sha256_Block_s5_b {E : Env} (N : Nat) (hb : Base Tryd.prog (sha256_Block_C N) E 0) : Blk Tryd.prog (sha256_Block_C N) E [2, 4, 112, 113] sha256_Block_S1 (sha256_Block_L5.drop 0) (fun y => sha256_Block_s5 N y.1.1 y.1.2.1 y.2.1 y.2.2.1) (sha256_Block_K5 N) :=
 Blk.chunkAt hb 4 (X := (sha256_Block_K5 N .normal)) (NxOk.end (by kernel_rfl)) rfl (fun x => by kernel_rfl)
theorem sha256_Block_6_b {E : Env} (N : Nat) (hb : Base Tryd.prog (sha256_Block_C N) E 0) : Blk Tryd.prog (sha256_Block_C N) E [2, 4] sha256_Block_S2 (sha256_Block_L.drop 8) (fun y => sha256_Block_6 N y.2.1 y.2.2.1) (sha256_Block_K N) :=
 Blk.chunkAt hb 2 (X := (sha256_Block_K N .normal)) (NxOk.end (by kernel_rfl)) rfl (fun x => by kernel_rfl)
theorem sha256_Block_4_b {E : Env} (N : Nat) (hb : Base Tryd.prog (sha256_Block_C N) E 0) : Blk Tryd.prog (sha256_Block_C N) E [2, 4, 112, 113] sha256_Block_S1 (sha256_Block_L.drop 7) (fun y => sha256_Block_4 N y.1.1 y.1.2.1 y.2.1 y.2.2.1) (sha256_Block_K N) :=
 Blk.loopAt (Nf := N) (hns := [2, 4, 112, 113]) (ans := [2, 4]) (hc := sha256_Block_S1) (ac := sha256_Block_S2) (bid := 2) (step := (fun y => sha256_Block_s5 N y.1.1 y.1.2.1 y.2.1 y.2.2.1)) (J := (fun e => (goK 0 [2, 4] sha256_Block_S2 (fun y => sha256_Block_6 N y.2.1 y.2.2.1)) (sha256_Block_S2.st [2, 4] e))) hb (by kernel_rfl) (Blk.into (X := (goK 0 [2, 4] sha256_Block_S2 (fun y => sha256_Block_6 N y.2.1 y.2.2.1))) (NxOk.go hb (sha256_Block_6_b N hb)) (fun x => by kernel_rfl)) (sha256_Block_s5_b N hb) (fun x => by kernel_rfl)
theorem sha256_Block_3_b {E : Env} (N : Nat) (hb : Base Tryd.prog (sha256_Block_C N) E 0) : Blk Tryd.prog (sha256_Block_C N) E [2, 4, 6, 7, 8, 9, 10, 11, 12, 13] sha256_Block_S3 (sha256_Block_L.drop 6) (fun y => sha256_Block_3 N y.1.1 y.1.2.1 y.1.2.2.1 y.1.2.2.2.1 y.1.2.2.2.2.1 y.1.2.2.2.2.2.1 y.1.2.2.2.2.2.2.1 y.1.2.2.2.2.2.2.2.1 y.2.1 y.2.2.1) (sha256_Block_K N) :=
 Blk.chunkAt hb 1 (X := (goK 0 [2, 4, 112, 113] sha256_Block_S1 (fun y => sha256_Block_4 N y.1.1 y.1.2.1 y.2.1 y.2.2.1))) (NxOk.go hb (sha256_Block_4_b N hb)) rfl (fun x => by kernel_rfl)
theorem sha256_Block_1_b {E : Env} (N : Nat) (hb : Base Tryd.prog (sha256_Block_C N) E 0) : Blk Tryd.prog (sha256_Block_C N) E [2, 4, 6, 7, 8, 9, 10, 11, 12, 13, 41, 42] sha256_Block_S0 (sha256_Block_L.drop 5) (fun y => sha256_Block_1 N y.1.1 y.1.2.1 y.1.2.2.1 y.1.2.2.2.1 y.1.2.2.2.2.1 y.1.2.2.2.2.2.1 y.1.2.2.2.2.2.2.1 y.1.2.2.2.2.2.2.2.1 y.1.2.2.2.2.2.2.2.2.1 y.1.2.2.2.2.2.2.2.2.2.1 y.2.1 y.2.2.1) (sha256_Block_K N) :=
 Blk.loopAt (Nf := N) (hns := [2, 4, 6, 7, 8, 9, 10, 11, 12, 13, 41, 42]) (ans := [2, 4, 6, 7, 8, 9, 10, 11, 12, 13]) (hc := sha256_Block_S0) (ac := sha256_Block_S3) (bid := 0) (step := (fun y => sha256_Block_s2 N y.1.1 y.1.2.1 y.1.2.2.1 y.1.2.2.2.1 y.1.2.2.2.2.1 y.1.2.2.2.2.2.1 y.1.2.2.2.2.2.2.1 y.1.2.2.2.2.2.2.2.1 y.1.2.2.2.2.2.2.2.2.1 y.1.2.2.2.2.2.2.2.2.2.1 y.2.1 y.2.2.1)) (J := (fun e => (goK 0 [2, 4, 6, 7, 8, 9, 10, 11, 12, 13] sha256_Block_S3 (fun y => sha256_Block_3 N y.1.1 y.1.2.1 y.1.2.2.1 y.1.2.2.2.1 y.1.2.2.2.2.1 y.1.2.2.2.2.2.1 y.1.2.2.2.2.2.2.1 y.1.2.2.2.2.2.2.2.1 y.2.1 y.2.2.1)) (sha256_Block_S3.st [2, 4, 6, 7, 8, 9, 10, 11, 12, 13] e))) hb (by kernel_rfl) (Blk.into (X := (goK 0 [2, 4, 6, 7, 8, 9, 10, 11, 12, 13] sha256_Block_S3 (fun y => sha256_Block_3 N y.1.1 y.1.2.1 y.1.2.2.1 y.1.2.2.2.1 y.1.2.2.2.2.1 y.1.2.2.2.2.2.1 y.1.2.2.2.2.2.2.1 y.1.2.2.2.2.2.2.2.1 y.2.1 y.2.2.1))) (NxOk.go hb (sha256_Block_3_b N hb)) (fun x => by kernel_rfl)) (sha256_Block_s2_b N hb) (fun x => by kernel_rfl)
theorem sha256_Block_b {E : Env} (N : Nat) (hb : Base Tryd.prog (sha256_Block_C N) E 0) : Blk Tryd.prog (sha256_Block_C N) E (List.range sha256_Block_S4.ks.length) sha256_Block_S4 (sha256_Block_L.drop 0) (fun y => sha256_Block N y.1.1 y.1.2.1) (sha256_Block_K N) :=
 Blk.chunkAt hb 5 (X := (goK 0 [2, 4, 6, 7, 8, 9, 10, 11, 12, 13, 41, 42] sha256_Block_S0 (fun y => sha256_Block_1 N y.1.1 y.1.2.1 y.1.2.2.1 y.1.2.2.2.1 y.1.2.2.2.2.1 y.1.2.2.2.2.2.1 y.1.2.2.2.2.2.2.1 y.1.2.2.2.2.2.2.2.1 y.1.2.2.2.2.2.2.2.2.1 y.1.2.2.2.2.2.2.2.2.2.1 y.2.1 y.2.2.1))) (NxOk.go hb (sha256_Block_1_b N hb)) rfl (fun x => by kernel_rfl)
def sha256_Block_ctr (N : Nat) : Ctr := ⟨sha256_Block_S4, sha256_Block_S5.un [true, false], 0, (fun y => sha256_Block N y.1.1 y.1.2.1)⟩
theorem sha256_Block_ctrs (N : Nat) : CtrsOk Tryd.prog (sha256_Block_C N) := ctrs_of (Γ := sha256_Block_C N) G_ifs_ok (by
 intro p hp
 simp only [sha256_Block_C, List.mem_cons, List.not_mem_nil, or_false] at hp
 rcases hp with rfl | rfl
 · exact sha256_schedule_ok N
 · exact sha256_right_ok N)
theorem sha256_Block_ok (N : Nat) : Ctr.ok Tryd.prog G_globs 33 (sha256_Block_ctr N) :=
 ctr_fn (Γ := sha256_Block_C N) (rfit := sha256_Block_S5) (bs := [true, false]) (res := [4, 5]) (by kernel_rfl) (tys_ok G_tys_ok) (sha256_Block_ctrs N) Tryd.func33 (by kernel_rfl) (by kernel_rfl) Tryd.ntmps33 (by kernel_rfl) (by kernel_rfl) (by kernel_rfl) (by kernel_rfl) (fun E hb => sha256_Block_b N hb)
/-! ipsecgate/sha256.Sum -/
abbrev sha256_Sum_R : Type := ((Unit) × ((List UInt8) × Unit))
def sha256_Sum_s2 (N : Nat) (all_3 : (List UInt8)) (at_5 : Int) (state_4 : (List UInt32)) : Option (Lo (((List UInt8) × Int × Unit) × ((List UInt32) × Unit)) ((Unit) × ((List UInt32) × Unit)) sha256_Sum_R) :=
 bif (decide (at_5 < (all_3.length : Int))) then
 let x6 := w64 (at_5 + (64 : Int))
 bif decide (0 ≤ at_5) && decide (at_5 ≤ x6) && decide (x6 ≤ (all_3.length : Int)) && true then
 Option.bind (sha256_Block N state_4 (cut all_3 at_5.toNat x6.toNat)) fun y8 =>
 some (.go ((all_3, (w64 (at_5 + (64 : Int))), ()), (y8.1.1, ())))
 else none
 else
 some (.br ((()), (state_4, ())))
def sha256_Sum_s5 (N : Nat) (t_32 : (List UInt32)) (t_33 : Int) (out_6 : (List UInt8)) : Option (Lo (((List UInt32) × Int × Unit) × ((List UInt8) × Unit)) ((Unit) × ((List UInt8) × Unit)) sha256_Sum_R) :=
 bif (decide (t_33 < (8 : Int))) then
 bif inR t_33 8 then
 Option.bind (wire_Put N (t_32.getD t_33.toNat (0 : UInt32)).toUInt64 (4 : Int) out_6) fun y12 =>
 some (.go ((t_32, (w64 (t_33 + (1 : Int))), ()), (y12.2.1, ())))
 else none
 else
 some (.br ((()), (out_6, ())))
def sha256_Sum_6 (N : Nat) (out_6 : (List UInt8)) : Option sha256_Sum_R :=
 some ((()), (out_6, ()))
def sha256_Sum_4 (N : Nat) (t_32 : (List UInt32)) (t_33 : Int) (out_6 : (List UInt8)) : Option sha256_Sum_R :=
 loopK N (fun y => sha256_Sum_s5 N y.1.1 y.1.2.1 y.2.1) (fun (e : ((Unit) × ((List UInt8) × Unit))) => sha256_Sum_6 N e.2.1) ((t_32, t_33, ()), (out_6, ()))
def sha256_Sum_3 (N : Nat) (state_4 : (List UInt32)) : Option sha256_Sum_R :=
 sha256_Sum_4 N state_4 (0 : Int) ([] : List UInt8)
def sha256_Sum_1 (N : Nat) (at_5 : Int) (all_3 : (List UInt8)) (state_4 : (List UInt32)) : Option sha256_Sum_R :=
 loopK N (fun y => sha256_Sum_s2 N y.1.1 y.1.2.1 y.2.1) (fun (e : ((Unit) × ((List UInt32) × Unit))) => sha256_Sum_3 N e.2.1) ((all_3, at_5, ()), (state_4, ()))
def sha256_Sum (N : Nat) (b_0 : (List UInt8)) : Option sha256_Sum_R :=
 bif room (0 + b_0.length) 1 then
 Option.bind (sha256_Pad N (b_0.length : Int)) fun y2 =>
 bif room (b_0.length + y2.2.1.length) 1 then
 sha256_Sum_1 N (0 : Int) (b_0 ++ y2.2.1) g_sha256_initial
 else none
 else none
def sha256_Sum_C (N : Nat) : Ctx := ⟨42, G_tys, [(32, sha256_Pad_ctr N), (33, sha256_Block_ctr N), (34, wire_Put_ctr N)], G_globs, G_ifs⟩
def sha256_Sum_S0 : Spec := ⟨[.val (.sl .u8), .ref 0 (.arr 8 .u32), .val .i64], [(.box 57 (.arr 8 .u32), .pos 1)]⟩
def sha256_Sum_S1 : Spec := ⟨[.row 0, .val (.arr 8 .u32), .val .i64], [(.row 5 .u8, .pos 0)]⟩
def sha256_Sum_S2 : Spec := ⟨[.row 0], [(.row 5 .u8, .pos 0)]⟩
def sha256_Sum_S3 : Spec := ⟨[.ref 0 (.arr 8 .u32)], [(.box 57 (.arr 8 .u32), .pos 0)]⟩
def sha256_Sum_S4 : Spec := ⟨[.row 0, .ref 1 (.arr 8 .u32), .val .i64], [(.row 5 .u8, .pos 0), (.box 57 (.arr 8 .u32), .pos 1)]⟩
def sha256_Sum_S5 : Spec := ⟨[.val (.sl .u8)], []⟩
def sha256_Sum_K (_N : Nat) : XE → GS → Option sha256_Sum_R := retK 0 [2] [false] sha256_Sum_S2
def sha256_Sum_L : List Code := (bodyOf (some Tryd.f25))
def sha256_Sum_L2 : List Code := (loopOf (sha256_Sum_L[4]?))
def sha256_Sum_L5 : List Code := (loopOf (sha256_Sum_L[7]?))
def sha256_Sum_K2 (N : Nat) : XE → GS → Option (Lo (((List UInt8) × Int × Unit) × ((List UInt32) × Unit)) ((Unit) × ((List UInt32) × Unit)) sha256_Sum_R) := roundK (some 0) (fit 0 [3, 4, 5] sha256_Sum_S0) (fit 0 [4] sha256_Sum_S3) (sha256_Sum_K N)
def sha256_Sum_K5 (N : Nat) : XE → GS → Option (Lo (((List UInt32) × Int × Unit) × ((List UInt8) × Unit)) ((Unit) × ((List UInt8) × Unit)) sha256_Sum_R) := roundK (some 2) (fit 0 [6, 32, 33] sha256_Sum_S1) (fit 0 [6] sha256_Sum_S2) (sha256_Sum_K N)
theorem sha256_Sum_s2_b {E : Env} (N : Nat) (hb : Base Tryd.prog (sha256_Sum_C N) E 0) : Blk Tryd.prog (sha256_Sum_C N) E [3, 4, 5] sha256_Sum_S0 (sha256_Sum_L2.drop 0) (fun y => sha256_Sum_s2 N y.1.1 y.1.2.1 y.2.1) (sha256_Sum_K2 N) :=
 Blk.chunkAt hb 4 (X := (sha256_Sum_K2 N .normal)) (NxOk.end (by kernel_rfl)) rfl (fun x => by kernel_rfl)
theorem sha256_Sum_s5_b {E : Env} (N : Nat) (hb : Base Tryd.prog (sha256_Sum_C N) E 0) : Blk Tryd.prog (sha256_Sum_C N) E [6, 32, 33] sha256_Sum_S1 (sha256_Sum_L5.drop 0) (fun y => sha256_Sum_s5 N y.1.1 y.1.2.1 y.2.1) (sha256_Sum_K5 N) :=
 Blk.chunkAt hb 4 (X := (sha256_Sum_K5 N .normal)) (NxOk.end (by kernel_rfl)) rfl (fun x => by kernel_rfl)
theorem sha256_Sum_6_b {E : Env} (N : Nat) (hb : Base Tryd.prog (sha256_Sum_C N) E 0) : Blk Tryd.prog (sha256_Sum_C N) E [6] sha256_Sum_S2 (sha256_Sum_L.drop 8) (fun y => sha256_Sum_6 N y.2.1) (sha256_Sum_K N) :=
 Blk.chunkAt hb 2 (X := (sha256_Sum_K N .normal)) (NxOk.end (by kernel_rfl)) rfl (fun x => by kernel_rfl)
theorem sha256_Sum_4_b {E : Env} (N : Nat) (hb : Base Tryd.prog (sha256_Sum_C N) E 0) : Blk Tryd.prog (sha256_Sum_C N) E [6, 32, 33] sha256_Sum_S1 (sha256_Sum_L.drop 7) (fun y => sha256_Sum_4 N y.1.1 y.1.2.1 y.2.1) (sha256_Sum_K N) :=
 Blk.loopAt (Nf := N) (hns := [6, 32, 33]) (ans := [6]) (hc := sha256_Sum_S1) (ac := sha256_Sum_S2) (bid := 2) (step := (fun y => sha256_Sum_s5 N y.1.1 y.1.2.1 y.2.1)) (J := (fun e => (goK 0 [6] sha256_Sum_S2 (fun y => sha256_Sum_6 N y.2.1)) (sha256_Sum_S2.st [6] e))) hb (by kernel_rfl) (Blk.into (X := (goK 0 [6] sha256_Sum_S2 (fun y => sha256_Sum_6 N y.2.1))) (NxOk.go hb (sha256_Sum_6_b N hb)) (fun x => by kernel_rfl)) (sha256_Sum_s5_b N hb) (fun x => by kernel_rfl)
theorem sha256_Sum_3_b {E : Env} (N : Nat) (hb : Base Tryd.prog (sha256_Sum_C N) E 0) : Blk Tryd.prog (sha256_Sum_C N) E [4] sha256_Sum_S3 (sha256_Sum_L.drop 5) (fun y => sha256_Sum_3 N y.2.1) (sha256_Sum_K N) :=
 Blk.chunkAt hb 2 (X := (goK 0 [6, 32, 33] sha256_Sum_S1 (fun y => sha256_Sum_4 N y.1.1 y.1.2.1 y.2.1))) (NxOk.go hb (sha256_Sum_4_b N hb)) rfl (fun x => by kernel_rfl)
theorem sha256_Sum_1_b {E : Env} (N : Nat) (hb : Base Tryd.prog (sha256_Sum_C N) E 0) : Blk Tryd.prog (sha256_Sum_C N) E [3, 4, 5] sha256_Sum_S4 (sha256_Sum_L.drop 4) (fun y => sha256_Sum_1 N y.1.1 y.2.1 y.2.2.1) (sha256_Sum_K N) :=
 Blk.loopAt (Nf := N) (hns := [3, 4, 5]) (ans := [4]) (hc := sha256_Sum_S0) (ac := sha256_Sum_S3) (bid := 0) (step := (fun y => sha256_Sum_s2 N y.1.1 y.1.2.1 y.2.1)) (J := (fun e => (goK 0 [4] sha256_Sum_S3 (fun y => sha256_Sum_3 N y.2.1)) (sha256_Sum_S3.st [4] e))) hb (by kernel_rfl) (Blk.into (X := (goK 0 [4] sha256_Sum_S3 (fun y => sha256_Sum_3 N y.2.1))) (NxOk.go hb (sha256_Sum_3_b N hb)) (fun x => by kernel_rfl)) (sha256_Sum_s2_b N hb) (fun x => by kernel_rfl)
theorem sha256_Sum_b {E : Env} (N : Nat) (hb : Base Tryd.prog (sha256_Sum_C N) E 0) : Blk Tryd.prog (sha256_Sum_C N) E (List.range sha256_Sum_S5.ks.length) sha256_Sum_S5 (sha256_Sum_L.drop 0) (fun y => sha256_Sum N y.1.1) (sha256_Sum_K N) :=
 Blk.chunkAt hb 4 (X := (goK 0 [3, 4, 5] sha256_Sum_S4 (fun y => sha256_Sum_1 N y.1.1 y.2.1 y.2.2.1))) (NxOk.go hb (sha256_Sum_1_b N hb)) rfl (fun x => by kernel_rfl)
def sha256_Sum_ctr (N : Nat) : Ctr := ⟨sha256_Sum_S5, sha256_Sum_S2.un [false], 0, (fun y => sha256_Sum N y.1.1)⟩
theorem sha256_Sum_ctrs (N : Nat) : CtrsOk Tryd.prog (sha256_Sum_C N) := ctrs_of (Γ := sha256_Sum_C N) G_ifs_ok (by
 intro p hp
 simp only [sha256_Sum_C, List.mem_cons, List.not_mem_nil, or_false] at hp
 rcases hp with rfl | rfl | rfl
 · exact sha256_Pad_ok N
 · exact sha256_Block_ok N
 · exact wire_Put_ok N)
theorem sha256_Sum_ok (N : Nat) : Ctr.ok Tryd.prog G_globs 25 (sha256_Sum_ctr N) :=
 ctr_fn (Γ := sha256_Sum_C N) (rfit := sha256_Sum_S2) (bs := [false]) (res := [2]) (by kernel_rfl) (tys_ok G_tys_ok) (sha256_Sum_ctrs N) Tryd.func25 (by kernel_rfl) (by kernel_rfl) Tryd.ntmps25 (by kernel_rfl) (by kernel_rfl) (by kernel_rfl) (by kernel_rfl) (fun E hb => sha256_Sum_b N hb)
/-! ipsecgate/concrete.Secret -/
abbrev concrete_Secret_R : Type := ((Int × Unit) × ((List UInt8) × Unit))
def concrete_Secret (N : Nat) (t_0 : D28) : Option concrete_Secret_R :=
 Option.bind (concrete_Encode N t_0) fun y1 =>
 bif (!(decide (y1.1.1 = (0 : Int)))) then
 some ((y1.1.1, ()), (([] : List UInt8), ()))
 else
 Option.bind (sha256_Sum N y1.2.1) fun y3 =>
 some (((0 : Int), ()), (y3.2.1, ()))
def concrete_Secret_C (N : Nat) : Ctx := ⟨16, G_tys, [(24, concrete_Encode_ctr N), (25, sha256_Sum_ctr N)], G_globs, G_ifs⟩
def concrete_Secret_S0 : Spec := ⟨[.val T28], []⟩
def concrete_Secret_S1 : Spec := ⟨[.row 0, .val .i64], [(.row 5 .u8, .pos 0)]⟩
def concrete_Secret_K (_N : Nat) : XE → GS → Option concrete_Secret_R := retK 0 [2, 3] [false, false] concrete_Secret_S1
def concrete_Secret_L : List Code := (bodyOf (some Tryd.f10))
theorem concrete_Secret_b {E : Env} (N : Nat) (hb : Base Tryd.prog (concrete_Secret_C N) E 0) : Blk Tryd.prog (concrete_Secret_C N) E (List.range concrete_Secret_S0.ks.length) concrete_Secret_S0 (concrete_Secret_L.drop 0) (fun y => concrete_Secret N y.1.1) (concrete_Secret_K N) :=
 Blk.chunkAt hb 6 (X := (concrete_Secret_K N .normal)) (NxOk.end (by kernel_rfl)) rfl (fun x => by kernel_rfl)
def concrete_Secret_ctr (N : Nat) : Ctr := ⟨concrete_Secret_S0, concrete_Secret_S1.un [false, false], 0, (fun y => concrete_Secret N y.1.1)⟩
theorem concrete_Secret_ctrs (N : Nat) : CtrsOk Tryd.prog (concrete_Secret_C N) := ctrs_of (Γ := concrete_Secret_C N) G_ifs_ok (by
 intro p hp
 simp only [concrete_Secret_C, List.mem_cons, List.not_mem_nil, or_false] at hp
 rcases hp with rfl | rfl
 · exact concrete_Encode_ok N
 · exact sha256_Sum_ok N)
theorem concrete_Secret_ok (N : Nat) : Ctr.ok Tryd.prog G_globs 10 (concrete_Secret_ctr N) :=
 ctr_fn (Γ := concrete_Secret_C N) (rfit := concrete_Secret_S1) (bs := [false, false]) (res := [2, 3]) (by kernel_rfl) (tys_ok G_tys_ok) (concrete_Secret_ctrs N) Tryd.func10 (by kernel_rfl) (by kernel_rfl) Tryd.ntmps10 (by kernel_rfl) (by kernel_rfl) (by kernel_rfl) (by kernel_rfl) (fun E hb => concrete_Secret_b N hb)
/-! ipsecgate/concrete.must -/
abbrev concrete_must_R : Type := ((Unit) × ((List UInt8) × Unit))
def concrete_must (N : Nat) (t_0 : D28) : Option concrete_must_R :=
 Option.bind (concrete_Secret N t_0) fun y1 =>
 bif (!(decide (y1.1.1 = (0 : Int)))) then
 none
 else
 some ((()), (y1.2.1, ()))
def concrete_must_C (N : Nat) : Ctx := ⟨15, G_tys, [(10, concrete_Secret_ctr N)], G_globs, G_ifs⟩
def concrete_must_S0 : Spec := ⟨[.val T28], []⟩
def concrete_must_S1 : Spec := ⟨[.row 0], [(.row 5 .u8, .pos 0)]⟩
def concrete_must_K (_N : Nat) : XE → GS → Option concrete_must_R := retK 0 [2] [false] concrete_must_S1
def concrete_must_L : List Code := (bodyOf (some Tryd.f47))
theorem concrete_must_b {E : Env} (N : Nat) (hb : Base Tryd.prog (concrete_must_C N) E 0) : Blk Tryd.prog (concrete_must_C N) E (List.range concrete_must_S0.ks.length) concrete_must_S0 (concrete_must_L.drop 0) (fun y => concrete_must N y.1.1) (concrete_must_K N) :=
 Blk.chunkAt hb 6 (X := (concrete_must_K N .normal)) (NxOk.end (by kernel_rfl)) rfl (fun x => by kernel_rfl)
def concrete_must_ctr (N : Nat) : Ctr := ⟨concrete_must_S0, concrete_must_S1.un [false], 0, (fun y => concrete_must N y.1.1)⟩
theorem concrete_must_ctrs (N : Nat) : CtrsOk Tryd.prog (concrete_must_C N) := ctrs_of (Γ := concrete_must_C N) G_ifs_ok (by
 intro p hp
 simp only [concrete_must_C, List.mem_cons, List.not_mem_nil, or_false] at hp
 rcases hp with rfl
 · exact concrete_Secret_ok N)
theorem concrete_must_ok (N : Nat) : Ctr.ok Tryd.prog G_globs 47 (concrete_must_ctr N) :=
 ctr_fn (Γ := concrete_must_C N) (rfit := concrete_must_S1) (bs := [false]) (res := [2]) (by kernel_rfl) (tys_ok G_tys_ok) (concrete_must_ctrs N) Tryd.func47 (by kernel_rfl) (by kernel_rfl) Tryd.ntmps47 (by kernel_rfl) (by kernel_rfl) (by kernel_rfl) (by kernel_rfl) (fun E hb => concrete_must_b N hb)
/-! ipsecgate/concrete.writers$2 -/
abbrev concrete_writers_f2_R : Type := ((Unit) × ((List UInt8) × Unit))
def concrete_writers_f2 (N : Nat) (t_1 : D28) (b_0 : (List UInt8)) : Option concrete_writers_f2_R :=
 Option.bind (concrete_must N t_1) fun y1 =>
 bif room (b_0.length + y1.2.1.length) 1 then
 some ((()), ((b_0 ++ y1.2.1), ()))
 else none
def concrete_writers_f2_C (N : Nat) : Ctx := ⟨9, G_tys, [(47, concrete_must_ctr N)], G_globs, G_ifs⟩
def concrete_writers_f2_S0 : Spec := ⟨[.row 0, .val T28], [(.row 5 .u8, .pos 0)]⟩
def concrete_writers_f2_S1 : Spec := ⟨[.row 0], [(.row 5 .u8, .pos 0)]⟩
def concrete_writers_f2_K (_N : Nat) : XE → GS → Option concrete_writers_f2_R := retK 0 [4] [false] concrete_writers_f2_S1
def concrete_writers_f2_L : List Code := (bodyOf (some Tryd.f46))
theorem concrete_writers_f2_b {E : Env} (N : Nat) (hb : Base Tryd.prog (concrete_writers_f2_C N) E 0) : Blk Tryd.prog (concrete_writers_f2_C N) E (List.range concrete_writers_f2_S0.ks.length) concrete_writers_f2_S0 (concrete_writers_f2_L.drop 0) (fun y => concrete_writers_f2 N y.1.1 y.2.1) (concrete_writers_f2_K N) :=
 Blk.chunkAt hb 3 (X := (concrete_writers_f2_K N .normal)) (NxOk.end (by kernel_rfl)) rfl (fun x => by kernel_rfl)
def concrete_writers_f2_ctr (N : Nat) : Ctr := ⟨concrete_writers_f2_S0, concrete_writers_f2_S1.un [false], 0, (fun y => concrete_writers_f2 N y.1.1 y.2.1)⟩
theorem concrete_writers_f2_ctrs (N : Nat) : CtrsOk Tryd.prog (concrete_writers_f2_C N) := ctrs_of (Γ := concrete_writers_f2_C N) G_ifs_ok (by
 intro p hp
 simp only [concrete_writers_f2_C, List.mem_cons, List.not_mem_nil, or_false] at hp
 rcases hp with rfl
 · exact concrete_must_ok N)
theorem concrete_writers_f2_ok (N : Nat) : Ctr.ok Tryd.prog G_globs 46 (concrete_writers_f2_ctr N) :=
 ctr_fn (Γ := concrete_writers_f2_C N) (rfit := concrete_writers_f2_S1) (bs := [false]) (res := [4]) (by kernel_rfl) (tys_ok G_tys_ok) (concrete_writers_f2_ctrs N) Tryd.func46 (by kernel_rfl) (by kernel_rfl) Tryd.ntmps46 (by kernel_rfl) (by kernel_rfl) (by kernel_rfl) (by kernel_rfl) (fun E hb => concrete_writers_f2_b N hb)
/-! ipsecgate/concrete.writeList -/
abbrev concrete_writeList_R : Type := ((Unit) × ((List UInt8) × Unit))
def concrete_writeList_s2 (N : Nat) (rc : D28 → Option ((Unit) × ((List UInt8) × Unit))) (t_15 : (List D28)) (t_16 : Int) (t_17 : Int) (b_0 : (List UInt8)) : Option (Lo (((List D28) × Int × Int × Unit) × ((List UInt8) × Unit)) ((Unit) × ((List UInt8) × Unit)) concrete_writeList_R) :=
 bif (decide (t_17 < t_16)) then
 bif inR t_17 t_15.length then
 Option.bind (rc (t_15.getD t_17.toNat ((0 : Int), (0 : Int), ([] : List Tree), ()))) fun y9 =>
 Option.bind (wire_Put N (iu64 (y9.2.1.length : Int)) (2 : Int) b_0) fun y12 =>
 bif room (y12.2.1.length + y9.2.1.length) 1 then
 some (.go ((t_15, t_16, (w64 (t_17 + (1 : Int))), ()), ((y12.2.1 ++ y9.2.1), ())))
 else none
 else none
 else
 some (.br ((()), (b_0, ())))
def concrete_writeList_3 (N : Nat) (rc : D28 → Option ((Unit) × ((List UInt8) × Unit))) (b_0 : (List UInt8)) : Option concrete_writeList_R :=
 some ((()), (b_0, ()))
def concrete_writeList_1 (N : Nat) (rc : D28 → Option ((Unit) × ((List UInt8) × Unit))) (t_15 : (List D28)) (t_16 : Int) (t_17 : Int) (b_0 : (List UInt8)) : Option concrete_writeList_R :=
 loopK N (fun y => concrete_writeList_s2 N rc y.1.1 y.1.2.1 y.1.2.2.1 y.2.1) (fun (e : ((Unit) × ((List UInt8) × Unit))) => concrete_writeList_3 N rc e.2.1) ((t_15, t_16, t_17, ()), (b_0, ()))
def concrete_writeList (N : Nat) (rc : D28 → Option ((Unit) × ((List UInt8) × Unit))) (t_1 : D28) (b_0 : (List UInt8)) : Option concrete_writeList_R :=
 Option.bind (wire_Put N (iu64 ((List.map Tree.un t_1.2.2.1).length : Int)) (2 : Int) b_0) fun y4 =>
 let x5 := List.map Tree.un t_1.2.2.1
 concrete_writeList_1 N rc x5 (x5.length : Int) (0 : Int) y4.2.1
def concrete_writeList_S0 : Spec := ⟨[.row 0, .val (.sl T28), .val .i64, .val .i64], [(.row 5 .u8, .pos 0)]⟩
def concrete_writeList_S1 : Spec := ⟨[.row 0], [(.row 5 .u8, .pos 0)]⟩
def concrete_writeList_S2 : Spec := ⟨[.row 0, .val T28], [(.row 5 .u8, .pos 0)]⟩
def concrete_writeList_S3 : Spec := ⟨[.val T28], []⟩
def concrete_writeList_ftr (N : Nat) (rc : D28 → Option ((Unit) × ((List UInt8) × Unit))) : Ctr := ⟨concrete_writeList_S3, concrete_writeList_S1.un [false], 0, (fun y => rc y.1.1)⟩
def concrete_writeList_C (N : Nat) (rc : D28 → Option ((Unit) × ((List UInt8) × Unit))) : Ctx := ⟨32, G_tys, [(34, wire_Put_ctr N), (29, concrete_writeList_ftr N rc)], G_globs, G_ifs⟩
def concrete_writeList_K (_N : Nat) (_rc : D28 → Option ((Unit) × ((List UInt8) × Unit))) : XE → GS → Option concrete_writeList_R := retK 0 [4] [false] concrete_writeList_S1
def concrete_writeList_L : List Code := (bodyOf (some Tryd.f49))
def concrete_writeList_L2 : List Code := (loopOf (concrete_writeList_L[3]?))
def concrete_writeList_K2 (N : Nat) (rc : D28 → Option ((Unit) × ((List UInt8) × Unit))) : XE → GS → Option (Lo (((List D28) × Int × Int × Unit) × ((List UInt8) × Unit)) ((Unit) × ((List UInt8) × Unit)) concrete_writeList_R) := roundK (some 0) (fit 0 [0, 15, 16, 17] concrete_writeList_S0) (fit 0 [0] concrete_writeList_S1) (concrete_writeList_K N rc)
theorem concrete_writeList_s2_b {E : Env} (N : Nat) (rc : D28 → Option ((Unit) × ((List UInt8) × Unit))) (hb : Base Tryd.prog (concrete_writeList_C N rc) E 0) : Blk Tryd.prog (concrete_writeList_C N rc) E [0, 15, 16, 17] concrete_writeList_S0 (concrete_writeList_L2.drop 0) (fun y => concrete_writeList_s2 N rc y.1.1 y.1.2.1 y.1.2.2.1 y.2.1) (concrete_writeList_K2 N rc) :=
 Blk.chunkAt hb 4 (X := (concrete_writeList_K2 N rc .normal)) (NxOk.end (by kernel_rfl)) rfl (fun x => by kernel_rfl)
theorem concrete_writeList_3_b {E : Env} (N : Nat) (rc : D28 → Option ((Unit) × ((List UInt8) × Unit))) (hb : Base Tryd.prog (concrete_writeList_C N rc) E 0) : Blk Tryd.prog (concrete_writeList_C N rc) E [0] concrete_writeList_S1 (concrete_writeList_L.drop 4) (fun y => concrete_writeList_3 N rc y.2.1) (concrete_writeList_K N rc) :=
 Blk.chunkAt hb 2 (X := (concrete_writeList_K N rc .normal)) (NxOk.end (by kernel_rfl)) rfl (fun x => by kernel_rfl)
theorem concrete_writeList_1_b {E : Env} (N : Nat) (rc : D28 → Option ((Unit) × ((List UInt8) × Unit))) (hb : Base Tryd.prog (concrete_writeList_C N rc) E 0) : Blk Tryd.prog (concrete_writeList_C N rc) E [0, 15, 16, 17] concrete_writeList_S0 (concrete_writeList_L.drop 3) (fun y => concrete_writeList_1 N rc y.1.1 y.1.2.1 y.1.2.2.1 y.2.1) (concrete_writeList_K N rc) :=
 Blk.loopAt (Nf := N) (hns := [0, 15, 16, 17]) (ans := [0]) (hc := concrete_writeList_S0) (ac := concrete_writeList_S1) (bid := 0) (step := (fun y => concrete_writeList_s2 N rc y.1.1 y.1.2.1 y.1.2.2.1 y.2.1)) (J := (fun e => (goK 0 [0] concrete_writeList_S1 (fun y => concrete_writeList_3 N rc y.2.1)) (concrete_writeList_S1.st [0] e))) hb (by kernel_rfl) (Blk.into (X := (goK 0 [0] concrete_writeList_S1 (fun y => concrete_writeList_3 N rc y.2.1))) (NxOk.go hb (concrete_writeList_3_b N rc hb)) (fun x => by kernel_rfl)) (concrete_writeList_s2_b N rc hb) (fun x => by kernel_rfl)
theorem concrete_writeList_b {E : Env} (N : Nat) (rc : D28 → Option ((Unit) × ((List UInt8) × Unit))) (hb : Base Tryd.prog (concrete_writeList_C N rc) E 0) : Blk Tryd.prog (concrete_writeList_C N rc) E (List.range concrete_writeList_S2.ks.length) concrete_writeList_S2 (concrete_writeList_L.drop 0) (fun y => concrete_writeList N rc y.1.1 y.2.1) (concrete_writeList_K N rc) :=
 Blk.chunkAt hb 3 (X := (goK 0 [0, 15, 16, 17] concrete_writeList_S0 (fun y => concrete_writeList_1 N rc y.1.1 y.1.2.1 y.1.2.2.1 y.2.1))) (NxOk.go hb (concrete_writeList_1_b N rc hb)) rfl (fun x => by kernel_rfl)
def concrete_writeList_octr (N : Nat) (rc : D28 → Option ((Unit) × ((List UInt8) × Unit))) : Ctr := ⟨concrete_writeList_S2, concrete_writeList_S1.un [false], 0, (fun y => concrete_writeList N rc y.1.1 y.2.1)⟩
theorem concrete_writeList_ctrs (N : Nat) (rc : D28 → Option ((Unit) × ((List UInt8) × Unit))) (hf : Ctr.ok Tryd.prog G_globs 29 (concrete_writeList_ftr N rc)) : CtrsOk Tryd.prog (concrete_writeList_C N rc) := ctrs_of (Γ := concrete_writeList_C N rc) G_ifs_ok (by
 intro p hp
 simp only [concrete_writeList_C, List.mem_cons, List.not_mem_nil, or_false] at hp
 rcases hp with rfl | rfl
 · exact wire_Put_ok N
 · exact hf)
theorem concrete_writeList_ook (N : Nat) (rc : D28 → Option ((Unit) × ((List UInt8) × Unit))) (hf : Ctr.ok Tryd.prog G_globs 29 (concrete_writeList_ftr N rc))  : Ctr.ok Tryd.prog G_globs 49 (concrete_writeList_octr N rc) :=
 ctr_fn (Γ := concrete_writeList_C N rc) (rfit := concrete_writeList_S1) (bs := [false]) (res := [4]) (by kernel_rfl) (tys_ok G_tys_ok) (concrete_writeList_ctrs N rc hf) Tryd.func49 (by kernel_rfl) (by kernel_rfl) Tryd.ntmps49 (by kernel_rfl) (by kernel_rfl) (by kernel_rfl) (by kernel_rfl) (fun E hb => concrete_writeList_b N rc hb)
/-! ipsecgate/concrete.Exponent -/
abbrev concrete_Exponent_R : Type := ((UInt64 × Unit) × (Unit))
def concrete_Exponent (N : Nat) (t_0 : D28) : Option concrete_Exponent_R :=
 Option.bind (concrete_Secret N t_0) fun y1 =>
 bif (!(decide (y1.1.1 = (0 : Int)))) then
 some (((1 : UInt64), ()), (()))
 else
 Option.bind (wire_Number N y1.2.1 (0 : Int) (8 : Int)) fun y3 =>
 some ((((1 : UInt64) + (y3.1.1 % (2305843009213688668 : UInt64))), ()), (()))
def concrete_Exponent_C (N : Nat) : Ctx := ⟨22, G_tys, [(10, concrete_Secret_ctr N), (53, wire_Number_ctr N)], G_globs, G_ifs⟩
def concrete_Exponent_S0 : Spec := ⟨[.val T28], []⟩
def concrete_Exponent_S1 : Spec := ⟨[.val .u64], []⟩
def concrete_Exponent_K (_N : Nat) : XE → GS → Option concrete_Exponent_R := retK 0 [2] [false] concrete_Exponent_S1
def concrete_Exponent_L : List Code := (bodyOf (some Tryd.f63))
theorem concrete_Exponent_b {E : Env} (N : Nat) (hb : Base Tryd.prog (concrete_Exponent_C N) E 0) : Blk Tryd.prog (concrete_Exponent_C N) E (List.range concrete_Exponent_S0.ks.length) concrete_Exponent_S0 (concrete_Exponent_L.drop 0) (fun y => concrete_Exponent N y.1.1) (concrete_Exponent_K N) :=
 Blk.chunkAt hb 7 (X := (concrete_Exponent_K N .normal)) (NxOk.end (by kernel_rfl)) rfl (fun x => by kernel_rfl)
def concrete_Exponent_ctr (N : Nat) : Ctr := ⟨concrete_Exponent_S0, concrete_Exponent_S1.un [false], 0, (fun y => concrete_Exponent N y.1.1)⟩
theorem concrete_Exponent_ctrs (N : Nat) : CtrsOk Tryd.prog (concrete_Exponent_C N) := ctrs_of (Γ := concrete_Exponent_C N) G_ifs_ok (by
 intro p hp
 simp only [concrete_Exponent_C, List.mem_cons, List.not_mem_nil, or_false] at hp
 rcases hp with rfl | rfl
 · exact concrete_Secret_ok N
 · exact wire_Number_ok N)
theorem concrete_Exponent_ok (N : Nat) : Ctr.ok Tryd.prog G_globs 63 (concrete_Exponent_ctr N) :=
 ctr_fn (Γ := concrete_Exponent_C N) (rfit := concrete_Exponent_S1) (bs := [false]) (res := [2]) (by kernel_rfl) (tys_ok G_tys_ok) (concrete_Exponent_ctrs N) Tryd.func63 (by kernel_rfl) (by kernel_rfl) Tryd.ntmps63 (by kernel_rfl) (by kernel_rfl) (by kernel_rfl) (by kernel_rfl) (fun E hb => concrete_Exponent_b N hb)
/-! ipsecgate/group.valid -/
abbrev group_valid_R : Type := ((Bool × Unit) × (Unit))
def group_valid (N : Nat) (secret_0 : UInt64) : Option group_valid_R :=
 bif (decide ((1 : UInt64) ≤ secret_0)) then
 some (((decide (secret_0 < (2305843009213688669 : UInt64))), ()), (()))
 else
 some ((false, ()), (()))
def group_valid_C (N : Nat) : Ctx := ⟨9, G_tys, [], G_globs, G_ifs⟩
def group_valid_S0 : Spec := ⟨[.val .u64], []⟩
def group_valid_S1 : Spec := ⟨[.val .bool], []⟩
def group_valid_K (_N : Nat) : XE → GS → Option group_valid_R := retK 0 [2] [false] group_valid_S1
def group_valid_L : List Code := (bodyOf (some Tryd.f68))
theorem group_valid_b {E : Env} (N : Nat) (hb : Base Tryd.prog (group_valid_C N) E 0) : Blk Tryd.prog (group_valid_C N) E (List.range group_valid_S0.ks.length) group_valid_S0 (group_valid_L.drop 0) (fun y => group_valid N y.1.1) (group_valid_K N) :=
 Blk.chunkAt hb 3 (X := (group_valid_K N .normal)) (NxOk.end (by kernel_rfl)) rfl (fun x => by kernel_rfl)
def group_valid_ctr (N : Nat) : Ctr := ⟨group_valid_S0, group_valid_S1.un [false], 0, (fun y => group_valid N y.1.1)⟩
theorem group_valid_ctrs (N : Nat) : CtrsOk Tryd.prog (group_valid_C N) := ctrs_nil G_ifs_ok rfl
theorem group_valid_ok (N : Nat) : Ctr.ok Tryd.prog G_globs 68 (group_valid_ctr N) :=
 ctr_fn (Γ := group_valid_C N) (rfit := group_valid_S1) (bs := [false]) (res := [2]) (by kernel_rfl) (tys_ok G_tys_ok) (group_valid_ctrs N) Tryd.func68 (by kernel_rfl) (by kernel_rfl) Tryd.ntmps68 (by kernel_rfl) (by kernel_rfl) (by kernel_rfl) (by kernel_rfl) (fun E hb => group_valid_b N hb)
/-! math/bits.Mul64 -/
abbrev math_bits_Mul64_R : Type := ((UInt64 × UInt64 × Unit) × (Unit))
def math_bits_Mul64 (N : Nat) (x_0 : UInt64) (y_1 : UInt64) : Option math_bits_Mul64_R :=
 let x1 := x_0 &&& (4294967295 : UInt64)
 let x3 := y_1 &&& (4294967295 : UInt64)
 some ((((((shr64 x_0 32) * (shr64 y_1 32)) + (shr64 (((shr64 x_0 32) * x3) + (shr64 (x1 * x3) 32)) 32)) + (shr64 (((((shr64 x_0 32) * x3) + (shr64 (x1 * x3) 32)) &&& (4294967295 : UInt64)) + (x1 * (shr64 y_1 32))) 32)), (x_0 * y_1), ()), (()))
def math_bits_Mul64_C (N : Nat) : Ctx := ⟨51, G_tys, [], G_globs, G_ifs⟩
def math_bits_Mul64_S0 : Spec := ⟨[.val .u64, .val .u64], []⟩
def math_bits_Mul64_K (_N : Nat) : XE → GS → Option math_bits_Mul64_R := retK 0 [4, 5] [false, false] math_bits_Mul64_S0
def math_bits_Mul64_L : List Code := (bodyOf (some Tryd.f83))
theorem math_bits_Mul64_b {E : Env} (N : Nat) (hb : Base Tryd.prog (math_bits_Mul64_C N) E 0) : Blk Tryd.prog (math_bits_Mul64_C N) E (List.range math_bits_Mul64_S0.ks.length) math_bits_Mul64_S0 (math_bits_Mul64_L.drop 0) (fun y => math_bits_Mul64 N y.1.1 y.1.2.1) (math_bits_Mul64_K N) :=
 Blk.chunkAt hb 13 (X := (math_bits_Mul64_K N .normal)) (NxOk.end (by kernel_rfl)) rfl (fun x => by kernel_rfl)
def math_bits_Mul64_ctr (N : Nat) : Ctr := ⟨math_bits_Mul64_S0, math_bits_Mul64_S0.un [false, false], 0, (fun y => math_bits_Mul64 N y.1.1 y.1.2.1)⟩
theorem math_bits_Mul64_ctrs (N : Nat) : CtrsOk Tryd.prog (math_bits_Mul64_C N) := ctrs_nil G_ifs_ok rfl
theorem math_bits_Mul64_ok (N : Nat) : Ctr.ok Tryd.prog G_globs 83 (math_bits_Mul64_ctr N) :=
 ctr_fn (Γ := math_bits_Mul64_C N) (rfit := math_bits_Mul64_S0) (bs := [false, false]) (res := [4, 5]) (by kernel_rfl) (tys_ok G_tys_ok) (math_bits_Mul64_ctrs N) Tryd.func83 (by kernel_rfl) (by kernel_rfl) Tryd.ntmps83 (by kernel_rfl) (by kernel_rfl) (by kernel_rfl) (by kernel_rfl) (fun E hb => math_bits_Mul64_b N hb)
/-! math/bits.Len64 -/
abbrev math_bits_Len64_R : Type := ((Int × Unit) × (Unit))
def math_bits_Len64_3 (N : Nat) (x_0 : UInt64) (n_2 : Int) : Option math_bits_Len64_R :=
 bif inR (x_0.toUInt8.toNat : Int) (([0, 1, 2, 2, 3, 3, 3, 3, 4, 4, 4, 4, 4, 4, 4, 4, 5, 5, 5, 5, 5, 5, 5, 5, 5, 5, 5, 5, 5, 5, 5, 5, 6, 6, 6, 6, 6, 6, 6, 6, 6, 6, 6, 6, 6, 6, 6, 6, 6, 6, 6, 6, 6, 6, 6, 6, 6, 6, 6, 6, 6, 6, 6, 6, 7, 7, 7, 7, 7, 7, 7, 7, 7, 7, 7, 7, 7, 7, 7, 7, 7, 7, 7, 7, 7, 7, 7, 7, 7, 7, 7, 7, 7, 7, 7, 7, 7, 7, 7, 7, 7, 7, 7, 7, 7, 7, 7, 7, 7, 7, 7, 7, 7, 7, 7, 7, 7, 7, 7, 7, 7, 7, 7, 7, 7, 7, 7, 7, 8, 8, 8, 8, 8, 8, 8, 8, 8, 8, 8, 8, 8, 8, 8, 8, 8, 8, 8, 8, 8, 8, 8, 8, 8, 8, 8, 8, 8, 8, 8, 8, 8, 8, 8, 8, 8, 8, 8, 8, 8, 8, 8, 8, 8, 8, 8, 8, 8, 8, 8, 8, 8, 8, 8, 8, 8, 8, 8, 8, 8, 8, 8, 8, 8, 8, 8, 8, 8, 8, 8, 8, 8, 8, 8, 8, 8, 8, 8, 8, 8, 8, 8, 8, 8, 8, 8, 8, 8, 8, 8, 8, 8, 8, 8, 8, 8, 8, 8, 8, 8, 8, 8, 8, 8, 8, 8, 8, 8, 8, 8, 8, 8, 8, 8, 8, 8, 8, 8, 8, 8, 8, 8, 8, 8, 8, 8, 8] : List UInt8).length) then
 some (((w64 (n_2 + ((([0, 1, 2, 2, 3, 3, 3, 3, 4, 4, 4, 4, 4, 4, 4, 4, 5, 5, 5, 5, 5, 5, 5, 5, 5, 5, 5, 5, 5, 5, 5, 5, 6, 6, 6, 6, 6, 6, 6, 6, 6, 6, 6, 6, 6, 6, 6, 6, 6, 6, 6, 6, 6, 6, 6, 6, 6, 6, 6, 6, 6, 6, 6, 6, 7, 7, 7, 7, 7, 7, 7, 7, 7, 7, 7, 7, 7, 7, 7, 7, 7, 7, 7, 7, 7, 7, 7, 7, 7, 7, 7, 7, 7, 7, 7, 7, 7, 7, 7, 7, 7, 7, 7, 7, 7, 7, 7, 7, 7, 7, 7, 7, 7, 7, 7, 7, 7, 7, 7, 7, 7, 7, 7, 7, 7, 7, 7, 7, 8, 8, 8, 8, 8, 8, 8, 8, 8, 8, 8, 8, 8, 8, 8, 8, 8, 8, 8, 8, 8, 8, 8, 8, 8, 8, 8, 8, 8, 8, 8, 8, 8, 8, 8, 8, 8, 8, 8, 8, 8, 8, 8, 8, 8, 8, 8, 8, 8, 8, 8, 8, 8, 8, 8, 8, 8, 8, 8, 8, 8, 8, 8, 8, 8, 8, 8, 8, 8, 8, 8, 8, 8, 8, 8, 8, 8, 8, 8, 8, 8, 8, 8, 8, 8, 8, 8, 8, 8, 8, 8, 8, 8, 8, 8, 8, 8, 8, 8, 8, 8, 8, 8, 8, 8, 8, 8, 8, 8, 8, 8, 8, 8, 8, 8, 8, 8, 8, 8, 8, 8, 8, 8, 8, 8, 8, 8, 8] : List UInt8).getD ((x_0.toUInt8.toNat : Int).toNat) 0).toNat : Int))), ()), (()))
 else none
def math_bits_Len64_2 (N : Nat) (x_0 : UInt64) (n_2 : Int) : Option math_bits_Len64_R :=
 bif (decide ((256 : UInt64) ≤ x_0)) then
 math_bits_Len64_3 N (shr64 x_0 8) (w64 (n_2 + (8 : Int)))
 else
 math_bits_Len64_3 N x_0 n_2
def math_bits_Len64_1 (N : Nat) (x_0 : UInt64) (n_2 : Int) : Option math_bits_Len64_R :=
 bif (decide ((65536 : UInt64) ≤ x_0)) then
 math_bits_Len64_2 N (shr64 x_0 16) (w64 (n_2 + (16 : Int)))
 else
 math_bits_Len64_2 N x_0 n_2
def math_bits_Len64 (N : Nat) (x_0 : UInt64) : Option math_bits_Len64_R :=
 bif (decide ((4294967296 : UInt64) ≤ x_0)) then
 math_bits_Len64_1 N (shr64 x_0 32) (32 : Int)
 else
 math_bits_Len64_1 N x_0 (0 : Int)
def math_bits_Len64_C (N : Nat) : Ctx := ⟨25, G_tys, [], G_globs, G_ifs⟩
def math_bits_Len64_S0 : Spec := ⟨[.val .u64, .val .i64], []⟩
def math_bits_Len64_S1 : Spec := ⟨[.val .u64], []⟩
def math_bits_Len64_S2 : Spec := ⟨[.val .i64], []⟩
def math_bits_Len64_K (_N : Nat) : XE → GS → Option math_bits_Len64_R := retK 0 [2] [false] math_bits_Len64_S2
def math_bits_Len64_L : List Code := (bodyOf (some Tryd.f87))
theorem math_bits_Len64_3_b {E : Env} (N : Nat) (hb : Base Tryd.prog (math_bits_Len64_C N) E 0) : Blk Tryd.prog (math_bits_Len64_C N) E [0, 2] math_bits_Len64_S0 (math_bits_Len64_L.drop 7) (fun y => math_bits_Len64_3 N y.1.1 y.1.2.1) (math_bits_Len64_K N) :=
 Blk.chunkAt hb 2 (X := (math_bits_Len64_K N .normal)) (NxOk.end (by kernel_rfl)) rfl (fun x => by kernel_rfl)
theorem math_bits_Len64_2_b {E : Env} (N : Nat) (hb : Base Tryd.prog (math_bits_Len64_C N) E 0) : Blk Tryd.prog (math_bits_Len64_C N) E [0, 2] math_bits_Len64_S0 (math_bits_Len64_L.drop 5) (fun y => math_bits_Len64_2 N y.1.1 y.1.2.1) (math_bits_Len64_K N) :=
 Blk.chunkAt hb 2 (X := (goK 0 [0, 2] math_bits_Len64_S0 (fun y => math_bits_Len64_3 N y.1.1 y.1.2.1))) (NxOk.go hb (math_bits_Len64_3_b N hb)) rfl (fun x => by kernel_rfl)
theorem math_bits_Len64_1_b {E : Env} (N : Nat) (hb : Base Tryd.prog (math_bits_Len64_C N) E 0) : Blk Tryd.prog (math_bits_Len64_C N) E [0, 2] math_bits_Len64_S0 (math_bits_Len64_L.drop 3) (fun y => math_bits_Len64_1 N y.1.1 y.1.2.1) (math_bits_Len64_K N) :=
 Blk.chunkAt hb 2 (X := (goK 0 [0, 2] math_bits_Len64_S0 (fun y => math_bits_Len64_2 N y.1.1 y.1.2.1))) (NxOk.go hb (math_bits_Len64_2_b N hb)) rfl (fun x => by kernel_rfl)
theorem math_bits_Len64_b {E : Env} (N : Nat) (hb : Base Tryd.prog (math_bits_Len64_C N) E 0) : Blk Tryd.prog (math_bits_Len64_C N) E (List.range math_bits_Len64_S1.ks.length) math_bits_Len64_S1 (math_bits_Len64_L.drop 0) (fun y => math_bits_Len64 N y.1.1) (math_bits_Len64_K N) :=
 Blk.chunkAt hb 3 (X := (goK 0 [0, 2] math_bits_Len64_S0 (fun y => math_bits_Len64_1 N y.1.1 y.1.2.1))) (NxOk.go hb (math_bits_Len64_1_b N hb)) rfl (fun x => by kernel_rfl)
def math_bits_Len64_ctr (N : Nat) : Ctr := ⟨math_bits_Len64_S1, math_bits_Len64_S2.un [false], 0, (fun y => math_bits_Len64 N y.1.1)⟩
theorem math_bits_Len64_ctrs (N : Nat) : CtrsOk Tryd.prog (math_bits_Len64_C N) := ctrs_nil G_ifs_ok rfl
theorem math_bits_Len64_ok (N : Nat) : Ctr.ok Tryd.prog G_globs 87 (math_bits_Len64_ctr N) :=
 ctr_fn (Γ := math_bits_Len64_C N) (rfit := math_bits_Len64_S2) (bs := [false]) (res := [2]) (by kernel_rfl) (tys_ok G_tys_ok) (math_bits_Len64_ctrs N) Tryd.func87 (by kernel_rfl) (by kernel_rfl) Tryd.ntmps87 (by kernel_rfl) (by kernel_rfl) (by kernel_rfl) (by kernel_rfl) (fun E hb => math_bits_Len64_b N hb)
/-! math/bits.LeadingZeros64 -/
abbrev math_bits_LeadingZeros64_R : Type := ((Int × Unit) × (Unit))
def math_bits_LeadingZeros64 (N : Nat) (x_0 : UInt64) : Option math_bits_LeadingZeros64_R :=
 Option.bind (math_bits_Len64 N x_0) fun y1 =>
 some (((w64 ((64 : Int) - y1.1.1)), ()), (()))
def math_bits_LeadingZeros64_C (N : Nat) : Ctx := ⟨6, G_tys, [(87, math_bits_Len64_ctr N)], G_globs, G_ifs⟩
def math_bits_LeadingZeros64_S0 : Spec := ⟨[.val .u64], []⟩
def math_bits_LeadingZeros64_S1 : Spec := ⟨[.val .i64], []⟩
def math_bits_LeadingZeros64_K (_N : Nat) : XE → GS → Option math_bits_LeadingZeros64_R := retK 0 [2] [false] math_bits_LeadingZeros64_S1
def math_bits_LeadingZeros64_L : List Code := (bodyOf (some Tryd.f86))
theorem math_bits_LeadingZeros64_b {E : Env} (N : Nat) (hb : Base Tryd.prog (math_bits_LeadingZeros64_C N) E 0) : Blk Tryd.prog (math_bits_LeadingZeros64_C N) E (List.range math_bits_LeadingZeros64_S0.ks.length) math_bits_LeadingZeros64_S0 (math_bits_LeadingZeros64_L.drop 0) (fun y => math_bits_LeadingZeros64 N y.1.1) (math_bits_LeadingZeros64_K N) :=
 Blk.chunkAt hb 3 (X := (math_bits_LeadingZeros64_K N .normal)) (NxOk.end (by kernel_rfl)) rfl (fun x => by kernel_rfl)
def math_bits_LeadingZeros64_ctr (N : Nat) : Ctr := ⟨math_bits_LeadingZeros64_S0, math_bits_LeadingZeros64_S1.un [false], 0, (fun y => math_bits_LeadingZeros64 N y.1.1)⟩
theorem math_bits_LeadingZeros64_ctrs (N : Nat) : CtrsOk Tryd.prog (math_bits_LeadingZeros64_C N) := ctrs_of (Γ := math_bits_LeadingZeros64_C N) G_ifs_ok (by
 intro p hp
 simp only [math_bits_LeadingZeros64_C, List.mem_cons, List.not_mem_nil, or_false] at hp
 rcases hp with rfl
 · exact math_bits_Len64_ok N)
theorem math_bits_LeadingZeros64_ok (N : Nat) : Ctr.ok Tryd.prog G_globs 86 (math_bits_LeadingZeros64_ctr N) :=
 ctr_fn (Γ := math_bits_LeadingZeros64_C N) (rfit := math_bits_LeadingZeros64_S1) (bs := [false]) (res := [2]) (by kernel_rfl) (tys_ok G_tys_ok) (math_bits_LeadingZeros64_ctrs N) Tryd.func86 (by kernel_rfl) (by kernel_rfl) Tryd.ntmps86 (by kernel_rfl) (by kernel_rfl) (by kernel_rfl) (by kernel_rfl) (fun E hb => math_bits_LeadingZeros64_b N hb)
/-! math/bits.Div64 -/
abbrev math_bits_Div64_R : Type := ((UInt64 × UInt64 × Unit) × (Unit))
def math_bits_Div64_5 (N : Nat) (y_2 : UInt64) (s_8 : UInt64) (yn1_9 : UInt64) (yn0_10 : UInt64) (un32_11 : UInt64) (un1_13 : UInt64) (un0_14 : UInt64) (q1_15 : UInt64) (rhat_16 : UInt64) (t_78 : Bool) : Option (Lo ((UInt64 × UInt64 × UInt64 × UInt64 × UInt64 × UInt64 × UInt64 × UInt64 × UInt64 × Unit) × (Unit)) ((UInt64 × UInt64 × UInt64 × UInt64 × UInt64 × UInt64 × UInt64 × UInt64 × Unit) × (Unit)) math_bits_Div64_R) :=
 bif t_78 then
 let x22 := q1_15 - (1 : UInt64)
 let x23 := rhat_16 + yn1_9
 bif (decide ((4294967296 : UInt64) ≤ x23)) then
 some (.br ((y_2, s_8, yn1_9, yn0_10, un32_11, un1_13, un0_14, x22, ()), (())))
 else
 some (.go ((y_2, s_8, yn1_9, yn0_10, un32_11, un1_13, un0_14, x22, x23, ()), (())))
 else
 some (.br ((y_2, s_8, yn1_9, yn0_10, un32_11, un1_13, un0_14, q1_15, ()), (())))
def math_bits_Div64_s4 (N : Nat) (y_2 : UInt64) (s_8 : UInt64) (yn1_9 : UInt64) (yn0_10 : UInt64) (un32_11 : UInt64) (un1_13 : UInt64) (un0_14 : UInt64) (q1_15 : UInt64) (rhat_16 : UInt64) : Option (Lo ((UInt64 × UInt64 × UInt64 × UInt64 × UInt64 × UInt64 × UInt64 × UInt64 × UInt64 × Unit) × (Unit)) ((UInt64 × UInt64 × UInt64 × UInt64 × UInt64 × UInt64 × UInt64 × UInt64 × Unit) × (Unit)) math_bits_Div64_R) :=
 bif (decide ((4294967296 : UInt64) ≤ q1_15)) then
 math_bits_Div64_5 N y_2 s_8 yn1_9 yn0_10 un32_11 un1_13 un0_14 q1_15 rhat_16 true
 else
 math_bits_Div64_5 N y_2 s_8 yn1_9 yn0_10 un32_11 un1_13 un0_14 q1_15 rhat_16 (decide ((((4294967296 : UInt64) * rhat_16) + un1_13) < (q1_15 * yn0_10)))
def math_bits_Div64_9 (N : Nat) (y_2 : UInt64) (s_8 : UInt64) (yn1_9 : UInt64) (yn0_10 : UInt64) (un0_14 : UInt64) (q1_15 : UInt64) (rhat_16 : UInt64) (un21_17 : UInt64) (q0_18 : UInt64) (t_113 : Bool) : Option (Lo ((UInt64 × UInt64 × UInt64 × UInt64 × UInt64 × UInt64 × UInt64 × UInt64 × UInt64 × Unit) × (Unit)) ((UInt64 × UInt64 × UInt64 × UInt64 × UInt64 × UInt64 × Unit) × (Unit)) math_bits_Div64_R) :=
 bif t_113 then
 let x37 := q0_18 - (1 : UInt64)
 let x38 := rhat_16 + yn1_9
 bif (decide ((4294967296 : UInt64) ≤ x38)) then
 some (.br ((y_2, s_8, un0_14, q1_15, un21_17, x37, ()), (())))
 else
 some (.go ((y_2, s_8, yn1_9, yn0_10, un0_14, q1_15, x38, un21_17, x37, ()), (())))
 else
 some (.br ((y_2, s_8, un0_14, q1_15, un21_17, q0_18, ()), (())))
def math_bits_Div64_s8 (N : Nat) (y_2 : UInt64) (s_8 : UInt64) (yn1_9 : UInt64) (yn0_10 : UInt64) (un0_14 : UInt64) (q1_15 : UInt64) (rhat_16 : UInt64) (un21_17 : UInt64) (q0_18 : UInt64) : Option (Lo ((UInt64 × UInt64 × UInt64 × UInt64 × UInt64 × UInt64 × UInt64 × UInt64 × UInt64 × Unit) × (Unit)) ((UInt64 × UInt64 × UInt64 × UInt64 × UInt64 × UInt64 × Unit) × (Unit)) math_bits_Div64_R) :=
 bif (decide ((4294967296 : UInt64) ≤ q0_18)) then
 math_bits_Div64_9 N y_2 s_8 yn1_9 yn0_10 un0_14 q1_15 rhat_16 un21_17 q0_18 true
 else
 math_bits_Div64_9 N y_2 s_8 yn1_9 yn0_10 un0_14 q1_15 rhat_16 un21_17 q0_18 (decide ((((4294967296 : UInt64) * rhat_16) + un0_14) < (q0_18 * yn0_10)))
def math_bits_Div64_10 (N : Nat) (y_2 : UInt64) (s_8 : UInt64) (un0_14 : UInt64) (q1_15 : UInt64) (un21_17 : UInt64) (q0_18 : UInt64) : Option math_bits_Div64_R :=
 some ((((q1_15 * (4294967296 : UInt64)) + q0_18), (shr64 (((un21_17 * (4294967296 : UInt64)) + un0_14) - (q0_18 * y_2)) s_8.toNat), ()), (()))
def math_bits_Div64_7 (N : Nat) (y_2 : UInt64) (s_8 : UInt64) (yn1_9 : UInt64) (yn0_10 : UInt64) (un0_14 : UInt64) (q1_15 : UInt64) (rhat_16 : UInt64) (un21_17 : UInt64) (q0_18 : UInt64) : Option math_bits_Div64_R :=
 loopK N (fun y => math_bits_Div64_s8 N y.1.1 y.1.2.1 y.1.2.2.1 y.1.2.2.2.1 y.1.2.2.2.2.1 y.1.2.2.2.2.2.1 y.1.2.2.2.2.2.2.1 y.1.2.2.2.2.2.2.2.1 y.1.2.2.2.2.2.2.2.2.1) (fun (e : ((UInt64 × UInt64 × UInt64 × UInt64 × UInt64 × UInt64 × Unit) × (Unit))) => math_bits_Div64_10 N e.1.1 e.1.2.1 e.1.2.2.1 e.1.2.2.2.1 e.1.2.2.2.2.1 e.1.2.2.2.2.2.1) ((y_2, s_8, yn1_9, yn0_10, un0_14, q1_15, rhat_16, un21_17, q0_18, ()), (()))
def math_bits_Div64_6 (N : Nat) (y_2 : UInt64) (s_8 : UInt64) (yn1_9 : UInt64) (yn0_10 : UInt64) (un32_11 : UInt64) (un1_13 : UInt64) (un0_14 : UInt64) (q1_15 : UInt64) : Option math_bits_Div64_R :=
 let x29 := un32_11 * (4294967296 : UInt64)
 bif !(decide (yn1_9 = 0)) then
 math_bits_Div64_7 N y_2 s_8 yn1_9 yn0_10 un0_14 q1_15 (((x29 + un1_13) - (q1_15 * y_2)) - ((((x29 + un1_13) - (q1_15 * y_2)) / yn1_9) * yn1_9)) ((x29 + un1_13) - (q1_15 * y_2)) (((x29 + un1_13) - (q1_15 * y_2)) / yn1_9)
 else none
def math_bits_Div64_3 (N : Nat) (y_2 : UInt64) (s_8 : UInt64) (yn1_9 : UInt64) (yn0_10 : UInt64) (un32_11 : UInt64) (un1_13 : UInt64) (un0_14 : UInt64) (q1_15 : UInt64) (rhat_16 : UInt64) : Option math_bits_Div64_R :=
 loopK N (fun y => math_bits_Div64_s4 N y.1.1 y.1.2.1 y.1.2.2.1 y.1.2.2.2.1 y.1.2.2.2.2.1 y.1.2.2.2.2.2.1 y.1.2.2.2.2.2.2.1 y.1.2.2.2.2.2.2.2.1 y.1.2.2.2.2.2.2.2.2.1) (fun (e : ((UInt64 × UInt64 × UInt64 × UInt64 × UInt64 × UInt64 × UInt64 × UInt64 × Unit) × (Unit))) => math_bits_Div64_6 N e.1.1 e.1.2.1 e.1.2.2.1 e.1.2.2.2.1 e.1.2.2.2.2.1 e.1.2.2.2.2.2.1 e.1.2.2.2.2.2.2.1 e.1.2.2.2.2.2.2.2.1) ((y_2, s_8, yn1_9, yn0_10, un32_11, un1_13, un0_14, q1_15, rhat_16, ()), (()))
def math_bits_Div64_2 (N : Nat) (hi_0 : UInt64) (lo_1 : UInt64) (y_2 : UInt64) : Option math_bits_Div64_R :=
 bif (decide (hi_0 = (0 : UInt64))) then
 bif !(decide (y_2 = 0)) then
 bif !(decide (y_2 = 0)) then
 some (((lo_1 / y_2), (lo_1 % y_2), ()), (()))
 else none
 else none
 else
 Option.bind (math_bits_LeadingZeros64 N y_2) fun y6 =>
 let x8 := shl64 y_2 (iu64 y6.1.1).toNat
 let x11 := shl64 hi_0 (iu64 y6.1.1).toNat
 let x13 := shr64 lo_1 ((64 : UInt64) - (iu64 y6.1.1)).toNat
 let x15 := shl64 lo_1 (iu64 y6.1.1).toNat
 bif !(decide ((shr64 x8 32) = 0)) then
 math_bits_Div64_3 N x8 (iu64 y6.1.1) (shr64 x8 32) (x8 &&& (4294967295 : UInt64)) (x11 ||| x13) (shr64 x15 32) (x15 &&& (4294967295 : UInt64)) ((x11 ||| x13) / (shr64 x8 32)) ((x11 ||| x13) - (((x11 ||| x13) / (shr64 x8 32)) * (shr64 x8 32)))
 else none
def math_bits_Div64_1 (N : Nat) (hi_0 : UInt64) (lo_1 : UInt64) (y_2 : UInt64) : Option math_bits_Div64_R :=
 bif (decide (y_2 ≤ hi_0)) then
 none
 else
 math_bits_Div64_2 N hi_0 lo_1 y_2
def math_bits_Div64 (N : Nat) (hi_0 : UInt64) (lo_1 : UInt64) (y_2 : UInt64) : Option math_bits_Div64_R :=
 bif (decide (y_2 = (0 : UInt64))) then
 none
 else
 math_bits_Div64_1 N hi_0 lo_1 y_2
def math_bits_Div64_C (N : Nat) : Ctx := ⟨135, G_tys, [(86, math_bits_LeadingZeros64_ctr N)], G_globs, G_ifs⟩
def math_bits_Div64_S0 : Spec := ⟨[.val .u64, .val .u64, .val .u64, .val .u64, .val .u64, .val .u64, .val .u64, .val .u64, .val .u64, .val .bool], []⟩
def math_bits_Div64_S1 : Spec := ⟨[.val .u64, .val .u64, .val .u64, .val .u64, .val .u64, .val .u64, .val .u64, .val .u64, .val .u64], []⟩
def math_bits_Div64_S2 : Spec := ⟨[.val .u64, .val .u64, .val .u64, .val .u64, .val .u64, .val .u64], []⟩
def math_bits_Div64_S3 : Spec := ⟨[.val .u64, .val .u64, .val .u64, .val .u64, .val .u64, .val .u64, .val .u64, .val .u64], []⟩
def math_bits_Div64_S4 : Spec := ⟨[.val .u64, .val .u64, .val .u64], []⟩
def math_bits_Div64_S5 : Spec := ⟨[.val .u64, .val .u64], []⟩
def math_bits_Div64_K (_N : Nat) : XE → GS → Option math_bits_Div64_R := retK 0 [6, 7] [false, false] math_bits_Div64_S5
def math_bits_Div64_L : List Code := (bodyOf (some Tryd.f84))
def math_bits_Div64_L4 : List Code := (loopOf (math_bits_Div64_L[17]?))
def math_bits_Div64_L8 : List Code := (loopOf (math_bits_Div64_L[21]?))
def math_bits_Div64_K4 (N : Nat) : XE → GS → Option (Lo ((UInt64 × UInt64 × UInt64 × UInt64 × UInt64 × UInt64 × UInt64 × UInt64 × UInt64 × Unit) × (Unit)) ((UInt64 × UInt64 × UInt64 × UInt64 × UInt64 × UInt64 × UInt64 × UInt64 × Unit) × (Unit)) math_bits_Div64_R) := roundK (some 0) (fit 0 [2, 8, 9, 10, 11, 13, 14, 15, 16] math_bits_Div64_S1) (fit 0 [2, 8, 9, 10, 11, 13, 14, 15] math_bits_Div64_S3) (math_bits_Div64_K N)
def math_bits_Div64_K8 (N : Nat) : XE → GS → Option (Lo ((UInt64 × UInt64 × UInt64 × UInt64 × UInt64 × UInt64 × UInt64 × UInt64 × UInt64 × Unit) × (Unit)) ((UInt64 × UInt64 × UInt64 × UInt64 × UInt64 × UInt64 × Unit) × (Unit)) math_bits_Div64_R) := roundK (some 2) (fit 0 [2, 8, 9, 10, 14, 15, 16, 17, 18] math_bits_Div64_S1) (fit 0 [2, 8, 14, 15, 17, 18] math_bits_Div64_S2) (math_bits_Div64_K N)
theorem math_bits_Div64_5_b {E : Env} (N : Nat) (hb : Base Tryd.prog (math_bits_Div64_C N) E 0) : Blk Tryd.prog (math_bits_Div64_C N) E [2, 8, 9, 10, 11, 13, 14, 15, 16, 78] math_bits_Div64_S0 (math_bits_Div64_L4.drop 1) (fun y => math_bits_Div64_5 N y.1.1 y.1.2.1 y.1.2.2.1 y.1.2.2.2.1 y.1.2.2.2.2.1 y.1.2.2.2.2.2.1 y.1.2.2.2.2.2.2.1 y.1.2.2.2.2.2.2.2.1 y.1.2.2.2.2.2.2.2.2.1 y.1.2.2.2.2.2.2.2.2.2.1) (math_bits_Div64_K4 N) :=
 Blk.chunkAt hb 2 (X := (math_bits_Div64_K4 N .normal)) (NxOk.end (by kernel_rfl)) rfl (fun x => by kernel_rfl)
theorem math_bits_Div64_s4_b {E : Env} (N : Nat) (hb : Base Tryd.prog (math_bits_Div64_C N) E 0) : Blk Tryd.prog (math_bits_Div64_C N) E [2, 8, 9, 10, 11, 13, 14, 15, 16] math_bits_Div64_S1 (math_bits_Div64_L4.drop 0) (fun y => math_bits_Div64_s4 N y.1.1 y.1.2.1 y.1.2.2.1 y.1.2.2.2.1 y.1.2.2.2.2.1 y.1.2.2.2.2.2.1 y.1.2.2.2.2.2.2.1 y.1.2.2.2.2.2.2.2.1 y.1.2.2.2.2.2.2.2.2.1) (math_bits_Div64_K4 N) :=
 Blk.chunkAt hb 1 (X := (goK 0 [2, 8, 9, 10, 11, 13, 14, 15, 16, 78] math_bits_Div64_S0 (fun y => math_bits_Div64_5 N y.1.1 y.1.2.1 y.1.2.2.1 y.1.2.2.2.1 y.1.2.2.2.2.1 y.1.2.2.2.2.2.1 y.1.2.2.2.2.2.2.1 y.1.2.2.2.2.2.2.2.1 y.1.2.2.2.2.2.2.2.2.1 y.1.2.2.2.2.2.2.2.2.2.1))) (NxOk.go hb (math_bits_Div64_5_b N hb)) rfl (fun x => by kernel_rfl)
theorem math_bits_Div64_9_b {E : Env} (N : Nat) (hb : Base Tryd.prog (math_bits_Div64_C N) E 0) : Blk Tryd.prog (math_bits_Div64_C N) E [2, 8, 9, 10, 14, 15, 16, 17, 18, 113] math_bits_Div64_S0 (math_bits_Div64_L8.drop 1) (fun y => math_bits_Div64_9 N y.1.1 y.1.2.1 y.1.2.2.1 y.1.2.2.2.1 y.1.2.2.2.2.1 y.1.2.2.2.2.2.1 y.1.2.2.2.2.2.2.1 y.1.2.2.2.2.2.2.2.1 y.1.2.2.2.2.2.2.2.2.1 y.1.2.2.2.2.2.2.2.2.2.1) (math_bits_Div64_K8 N) :=
 Blk.chunkAt hb 2 (X := (math_bits_Div64_K8 N .normal)) (NxOk.end (by kernel_rfl)) rfl (fun x => by kernel_rfl)
theorem math_bits_Div64_s8_b {E : Env} (N : Nat) (hb : Base Tryd.prog (math_bits_Div64_C N) E 0) : Blk Tryd.prog (math_bits_Div64_C N) E [2, 8, 9, 10, 14, 15, 16, 17, 18] math_bits_Div64_S1 (math_bits_Div64_L8.drop 0) (fun y => math_bits_Div64_s8 N y.1.1 y.1.2.1 y.1.2.2.1 y.1.2.2.2.1 y.1.2.2.2.2.1 y.1.2.2.2.2.2.1 y.1.2.2.2.2.2.2.1 y.1.2.2.2.2.2.2.2.1 y.1.2.2.2.2.2.2.2.2.1) (math_bits_Div64_K8 N) :=
 Blk.chunkAt hb 1 (X := (goK 0 [2, 8, 9, 10, 14, 15, 16, 17, 18, 113] math_bits_Div64_S0 (fun y => math_bits_Div64_9 N y.1.1 y.1.2.1 y.1.2.2.1 y.1.2.2.2.1 y.1.2.2.2.2.1 y.1.2.2.2.2.2.1 y.1.2.2.2.2.2.2.1 y.1.2.2.2.2.2.2.2.1 y.1.2.2.2.2.2.2.2.2.1 y.1.2.2.2.2.2.2.2.2.2.1))) (NxOk.go hb (math_bits_Div64_9_b N hb)) rfl (fun x => by kernel_rfl)
theorem math_bits_Div64_10_b {E : Env} (N : Nat) (hb : Base Tryd.prog (math_bits_Div64_C N) E 0) : Blk Tryd.prog (math_bits_Div64_C N) E [2, 8, 14, 15, 17, 18] math_bits_Div64_S2 (math_bits_Div64_L.drop 22) (fun y => math_bits_Div64_10 N y.1.1 y.1.2.1 y.1.2.2.1 y.1.2.2.2.1 y.1.2.2.2.2.1 y.1.2.2.2.2.2.1) (math_bits_Div64_K N) :=
 Blk.chunkAt hb 2 (X := (math_bits_Div64_K N .normal)) (NxOk.end (by kernel_rfl)) rfl (fun x => by kernel_rfl)
theorem math_bits_Div64_7_b {E : Env} (N : Nat) (hb : Base Tryd.prog (math_bits_Div64_C N) E 0) : Blk Tryd.prog (math_bits_Div64_C N) E [2, 8, 9, 10, 14, 15, 16, 17, 18] math_bits_Div64_S1 (math_bits_Div64_L.drop 21) (fun y => math_bits_Div64_7 N y.1.1 y.1.2.1 y.1.2.2.1 y.1.2.2.2.1 y.1.2.2.2.2.1 y.1.2.2.2.2.2.1 y.1.2.2.2.2.2.2.1 y.1.2.2.2.2.2.2.2.1 y.1.2.2.2.2.2.2.2.2.1) (math_bits_Div64_K N) :=
 Blk.loopAt (Nf := N) (hns := [2, 8, 9, 10, 14, 15, 16, 17, 18]) (ans := [2, 8, 14, 15, 17, 18]) (hc := math_bits_Div64_S1) (ac := math_bits_Div64_S2) (bid := 2) (step := (fun y => math_bits_Div64_s8 N y.1.1 y.1.2.1 y.1.2.2.1 y.1.2.2.2.1 y.1.2.2.2.2.1 y.1.2.2.2.2.2.1 y.1.2.2.2.2.2.2.1 y.1.2.2.2.2.2.2.2.1 y.1.2.2.2.2.2.2.2.2.1)) (J := (fun e => (goK 0 [2, 8, 14, 15, 17, 18] math_bits_Div64_S2 (fun y => math_bits_Div64_10 N y.1.1 y.1.2.1 y.1.2.2.1 y.1.2.2.2.1 y.1.2.2.2.2.1 y.1.2.2.2.2.2.1)) (math_bits_Div64_S2.st [2, 8, 14, 15, 17, 18] e))) hb (by kernel_rfl) (Blk.into (X := (goK 0 [2, 8, 14, 15, 17, 18] math_bits_Div64_S2 (fun y => math_bits_Div64_10 N y.1.1 y.1.2.1 y.1.2.2.1 y.1.2.2.2.1 y.1.2.2.2.2.1 y.1.2.2.2.2.2.1))) (NxOk.go hb (math_bits_Div64_10_b N hb)) (fun x => by kernel_rfl)) (math_bits_Div64_s8_b N hb) (fun x => by kernel_rfl)
theorem math_bits_Div64_6_b {E : Env} (N : Nat) (hb : Base Tryd.prog (math_bits_Div64_C N) E 0) : Blk Tryd.prog (math_bits_Div64_C N) E [2, 8, 9, 10, 11, 13, 14, 15] math_bits_Div64_S3 (math_bits_Div64_L.drop 18) (fun y => math_bits_Div64_6 N y.1.1 y.1.2.1 y.1.2.2.1 y.1.2.2.2.1 y.1.2.2.2.2.1 y.1.2.2.2.2.2.1 y.1.2.2.2.2.2.2.1 y.1.2.2.2.2.2.2.2.1) (math_bits_Div64_K N) :=
 Blk.chunkAt hb 3 (X := (goK 0 [2, 8, 9, 10, 14, 15, 16, 17, 18] math_bits_Div64_S1 (fun y => math_bits_Div64_7 N y.1.1 y.1.2.1 y.1.2.2.1 y.1.2.2.2.1 y.1.2.2.2.2.1 y.1.2.2.2.2.2.1 y.1.2.2.2.2.2.2.1 y.1.2.2.2.2.2.2.2.1 y.1.2.2.2.2.2.2.2.2.1))) (NxOk.go hb (math_bits_Div64_7_b N hb)) rfl (fun x => by kernel_rfl)
theorem math_bits_Div64_3_b {E : Env} (N : Nat) (hb : Base Tryd.prog (math_bits_Div64_C N) E 0) : Blk Tryd.prog (math_bits_Div64_C N) E [2, 8, 9, 10, 11, 13, 14, 15, 16] math_bits_Div64_S1 (math_bits_Div64_L.drop 17) (fun y => math_bits_Div64_3 N y.1.1 y.1.2.1 y.1.2.2.1 y.1.2.2.2.1 y.1.2.2.2.2.1 y.1.2.2.2.2.2.1 y.1.2.2.2.2.2.2.1 y.1.2.2.2.2.2.2.2.1 y.1.2.2.2.2.2.2.2.2.1) (math_bits_Div64_K N) :=
 Blk.loopAt (Nf := N) (hns := [2, 8, 9, 10, 11, 13, 14, 15, 16]) (ans := [2, 8, 9, 10, 11, 13, 14, 15]) (hc := math_bits_Div64_S1) (ac := math_bits_Div64_S3) (bid := 0) (step := (fun y => math_bits_Div64_s4 N y.1.1 y.1.2.1 y.1.2.2.1 y.1.2.2.2.1 y.1.2.2.2.2.1 y.1.2.2.2.2.2.1 y.1.2.2.2.2.2.2.1 y.1.2.2.2.2.2.2.2.1 y.1.2.2.2.2.2.2.2.2.1)) (J := (fun e => (goK 0 [2, 8, 9, 10, 11, 13, 14, 15] math_bits_Div64_S3 (fun y => math_bits_Div64_6 N y.1.1 y.1.2.1 y.1.2.2.1 y.1.2.2.2.1 y.1.2.2.2.2.1 y.1.2.2.2.2.2.1 y.1.2.2.2.2.2.2.1 y.1.2.2.2.2.2.2.2.1)) (math_bits_Div64_S3.st [2, 8, 9, 10, 11, 13, 14, 15] e))) hb (by kernel_rfl) (Blk.into (X := (goK 0 [2, 8, 9, 10, 11, 13, 14, 15] math_bits_Div64_S3 (fun y => math_bits_Div64_6 N y.1.1 y.1.2.1 y.1.2.2.1 y.1.2.2.2.1 y.1.2.2.2.2.1 y.1.2.2.2.2.2.1 y.1.2.2.2.2.2.2.1 y.1.2.2.2.2.2.2.2.1))) (NxOk.go hb (math_bits_Div64_6_b N hb)) (fun x => by kernel_rfl)) (math_bits_Div64_s4_b N hb) (fun x => by kernel_rfl)
theorem math_bits_Div64_2_b {E : Env} (N : Nat) (hb : Base Tryd.prog (math_bits_Div64_C N) E 0) : Blk Tryd.prog (math_bits_Div64_C N) E [0, 1, 2] math_bits_Div64_S4 (math_bits_Div64_L.drop 5) (fun y => math_bits_Div64_2 N y.1.1 y.1.2.1 y.1.2.2.1) (math_bits_Div64_K N) :=
 Blk.chunkAt hb 12 (X := (goK 0 [2, 8, 9, 10, 11, 13, 14, 15, 16] math_bits_Div64_S1 (fun y => math_bits_Div64_3 N y.1.1 y.1.2.1 y.1.2.2.1 y.1.2.2.2.1 y.1.2.2.2.2.1 y.1.2.2.2.2.2.1 y.1.2.2.2.2.2.2.1 y.1.2.2.2.2.2.2.2.1 y.1.2.2.2.2.2.2.2.2.1))) (NxOk.go hb (math_bits_Div64_3_b N hb)) rfl (fun x => by kernel_rfl)
theorem math_bits_Div64_1_b {E : Env} (N : Nat) (hb : Base Tryd.prog (math_bits_Div64_C N) E 0) : Blk Tryd.prog (math_bits_Div64_C N) E [0, 1, 2] math_bits_Div64_S4 (math_bits_Div64_L.drop 3) (fun y => math_bits_Div64_1 N y.1.1 y.1.2.1 y.1.2.2.1) (math_bits_Div64_K N) :=
 Blk.chunkAt hb 2 (X := (goK 0 [0, 1, 2] math_bits_Div64_S4 (fun y => math_bits_Div64_2 N y.1.1 y.1.2.1 y.1.2.2.1))) (NxOk.go hb (math_bits_Div64_2_b N hb)) rfl (fun x => by kernel_rfl)
theorem math_bits_Div64_b {E : Env} (N : Nat) (hb : Base Tryd.prog (math_bits_Div64_C N) E 0) : Blk Tryd.prog (math_bits_Div64_C N) E (List.range math_bits_Div64_S4.ks.length) math_bits_Div64_S4 (math_bits_Div64_L.drop 0) (fun y => math_bits_Div64 N y.1.1 y.1.2.1 y.1.2.2.1) (math_bits_Div64_K N) :=
 Blk.chunkAt hb 3 (X := (goK 0 [0, 1, 2] math_bits_Div64_S4 (fun y => math_bits_Div64_1 N y.1.1 y.1.2.1 y.1.2.2.1))) (NxOk.go hb (math_bits_Div64_1_b N hb)) rfl (fun x => by kernel_rfl)
def math_bits_Div64_ctr (N : Nat) : Ctr := ⟨math_bits_Div64_S4, math_bits_Div64_S5.un [false, false], 0, (fun y => math_bits_Div64 N y.1.1 y.1.2.1 y.1.2.2.1)⟩
theorem math_bits_Div64_ctrs (N : Nat) : CtrsOk Tryd.prog (math_bits_Div64_C N) := ctrs_of (Γ := math_bits_Div64_C N) G_ifs_ok (by
 intro p hp
 simp only [math_bits_Div64_C, List.mem_cons, List.not_mem_nil, or_false] at hp
 rcases hp with rfl
 · exact math_bits_LeadingZeros64_ok N)
theorem math_bits_Div64_ok (N : Nat) : Ctr.ok Tryd.prog G_globs 84 (math_bits_Div64_ctr N) :=
 ctr_fn (Γ := math_bits_Div64_C N) (rfit := math_bits_Div64_S5) (bs := [false, false]) (res := [6, 7]) (by kernel_rfl) (tys_ok G_tys_ok) (math_bits_Div64_ctrs N) Tryd.func84 (by kernel_rfl) (by kernel_rfl) Tryd.ntmps84 (by kernel_rfl) (by kernel_rfl) (by kernel_rfl) (by kernel_rfl) (fun E hb => math_bits_Div64_b N hb)
/-! ipsecgate/group.Mul -/
abbrev group_Mul_R : Type := ((UInt64 × Unit) × (Unit))
def group_Mul (N : Nat) (a_0 : UInt64) (b_1 : UInt64) : Option group_Mul_R :=
 Option.bind (math_bits_Mul64 N (a_0 % (4611686018427377339 : UInt64)) (b_1 % (4611686018427377339 : UInt64))) fun y3 =>
 Option.bind (math_bits_Div64 N y3.1.1 y3.1.2.1 (4611686018427377339 : UInt64)) fun y4 =>
 some ((y4.1.2.1, ()), (()))
def group_Mul_C (N : Nat) : Ctx := ⟨24, G_tys, [(83, math_bits_Mul64_ctr N), (84, math_bits_Div64_ctr N)], G_globs, G_ifs⟩
def group_Mul_S0 : Spec := ⟨[.val .u64, .val .u64], []⟩
def group_Mul_S1 : Spec := ⟨[.val .u64], []⟩
def group_Mul_K (_N : Nat) : XE → GS → Option group_Mul_R := retK 0 [4] [false] group_Mul_S1
def group_Mul_L : List Code := (bodyOf (some Tryd.f75))
theorem group_Mul_b {E : Env} (N : Nat) (hb : Base Tryd.prog (group_Mul_C N) E 0) : Blk Tryd.prog (group_Mul_C N) E (List.range group_Mul_S0.ks.length) group_Mul_S0 (group_Mul_L.drop 0) (fun y => group_Mul N y.1.1 y.1.2.1) (group_Mul_K N) :=
 Blk.chunkAt hb 5 (X := (group_Mul_K N .normal)) (NxOk.end (by kernel_rfl)) rfl (fun x => by kernel_rfl)
def group_Mul_ctr (N : Nat) : Ctr := ⟨group_Mul_S0, group_Mul_S1.un [false], 0, (fun y => group_Mul N y.1.1 y.1.2.1)⟩
theorem group_Mul_ctrs (N : Nat) : CtrsOk Tryd.prog (group_Mul_C N) := ctrs_of (Γ := group_Mul_C N) G_ifs_ok (by
 intro p hp
 simp only [group_Mul_C, List.mem_cons, List.not_mem_nil, or_false] at hp
 rcases hp with rfl | rfl
 · exact math_bits_Mul64_ok N
 · exact math_bits_Div64_ok N)
theorem group_Mul_ok (N : Nat) : Ctr.ok Tryd.prog G_globs 75 (group_Mul_ctr N) :=
 ctr_fn (Γ := group_Mul_C N) (rfit := group_Mul_S1) (bs := [false]) (res := [4]) (by kernel_rfl) (tys_ok G_tys_ok) (group_Mul_ctrs N) Tryd.func75 (by kernel_rfl) (by kernel_rfl) Tryd.ntmps75 (by kernel_rfl) (by kernel_rfl) (by kernel_rfl) (by kernel_rfl) (fun E hb => group_Mul_b N hb)
/-! ipsecgate/group.Power -/
abbrev group_Power_R : Type := ((UInt64 × Unit) × (Unit))
def group_Power_s2 (N : Nat) (a_0 : UInt64) (e_1 : UInt64) (r_5 : UInt64) : Option (Lo ((UInt64 × UInt64 × UInt64 × Unit) × (Unit)) ((UInt64 × Unit) × (Unit)) group_Power_R) :=
 bif (decide ((0 : UInt64) < e_1)) then
 bif (decide ((e_1 &&& (1 : UInt64)) = (1 : UInt64))) then
 Option.bind (group_Mul N r_5 a_0) fun y4 =>
 Option.bind (group_Mul N a_0 a_0) fun y5 =>
 some (.go ((y5.1.1, (shr64 e_1 1), y4.1.1, ()), (())))
 else
 Option.bind (group_Mul N a_0 a_0) fun y7 =>
 some (.go ((y7.1.1, (shr64 e_1 1), r_5, ()), (())))
 else
 some (.br ((r_5, ()), (())))
def group_Power_3 (N : Nat) (r_5 : UInt64) : Option group_Power_R :=
 some ((r_5, ()), (()))
def group_Power_1 (N : Nat) (a_0 : UInt64) (e_1 : UInt64) (r_5 : UInt64) : Option group_Power_R :=
 loopK N (fun y => group_Power_s2 N y.1.1 y.1.2.1 y.1.2.2.1) (fun (e : ((UInt64 × Unit) × (Unit))) => group_Power_3 N e.1.1) ((a_0, e_1, r_5, ()), (()))
def group_Power (N : Nat) (a_0 : UInt64) (e_1 : UInt64) : Option group_Power_R :=
 group_Power_1 N a_0 e_1 (1 : UInt64)
def group_Power_C (N : Nat) : Ctx := ⟨20, G_tys, [(75, group_Mul_ctr N)], G_globs, G_ifs⟩
def group_Power_S0 : Spec := ⟨[.val .u64, .val .u64, .val .u64], []⟩
def group_Power_S1 : Spec := ⟨[.val .u64], []⟩
def group_Power_S2 : Spec := ⟨[.val .u64, .val .u64], []⟩
def group_Power_K (_N : Nat) : XE → GS → Option group_Power_R := retK 0 [4] [false] group_Power_S1
def group_Power_L : List Code := (bodyOf (some Tryd.f69))
def group_Power_L2 : List Code := (loopOf (group_Power_L[2]?))
def group_Power_K2 (N : Nat) : XE → GS → Option (Lo ((UInt64 × UInt64 × UInt64 × Unit) × (Unit)) ((UInt64 × Unit) × (Unit)) group_Power_R) := roundK (some 0) (fit 0 [0, 1, 5] group_Power_S0) (fit 0 [5] group_Power_S1) (group_Power_K N)
theorem group_Power_s2_b {E : Env} (N : Nat) (hb : Base Tryd.prog (group_Power_C N) E 0) : Blk Tryd.prog (group_Power_C N) E [0, 1, 5] group_Power_S0 (group_Power_L2.drop 0) (fun y => group_Power_s2 N y.1.1 y.1.2.1 y.1.2.2.1) (group_Power_K2 N) :=
 Blk.chunkAt hb 4 (X := (group_Power_K2 N .normal)) (NxOk.end (by kernel_rfl)) rfl (fun x => by kernel_rfl)
theorem group_Power_3_b {E : Env} (N : Nat) (hb : Base Tryd.prog (group_Power_C N) E 0) : Blk Tryd.prog (group_Power_C N) E [5] group_Power_S1 (group_Power_L.drop 3) (fun y => group_Power_3 N y.1.1) (group_Power_K N) :=
 Blk.chunkAt hb 2 (X := (group_Power_K N .normal)) (NxOk.end (by kernel_rfl)) rfl (fun x => by kernel_rfl)
theorem group_Power_1_b {E : Env} (N : Nat) (hb : Base Tryd.prog (group_Power_C N) E 0) : Blk Tryd.prog (group_Power_C N) E [0, 1, 5] group_Power_S0 (group_Power_L.drop 2) (fun y => group_Power_1 N y.1.1 y.1.2.1 y.1.2.2.1) (group_Power_K N) :=
 Blk.loopAt (Nf := N) (hns := [0, 1, 5]) (ans := [5]) (hc := group_Power_S0) (ac := group_Power_S1) (bid := 0) (step := (fun y => group_Power_s2 N y.1.1 y.1.2.1 y.1.2.2.1)) (J := (fun e => (goK 0 [5] group_Power_S1 (fun y => group_Power_3 N y.1.1)) (group_Power_S1.st [5] e))) hb (by kernel_rfl) (Blk.into (X := (goK 0 [5] group_Power_S1 (fun y => group_Power_3 N y.1.1))) (NxOk.go hb (group_Power_3_b N hb)) (fun x => by kernel_rfl)) (group_Power_s2_b N hb) (fun x => by kernel_rfl)
theorem group_Power_b {E : Env} (N : Nat) (hb : Base Tryd.prog (group_Power_C N) E 0) : Blk Tryd.prog (group_Power_C N) E (List.range group_Power_S2.ks.length) group_Power_S2 (group_Power_L.drop 0) (fun y => group_Power N y.1.1 y.1.2.1) (group_Power_K N) :=
 Blk.chunkAt hb 2 (X := (goK 0 [0, 1, 5] group_Power_S0 (fun y => group_Power_1 N y.1.1 y.1.2.1 y.1.2.2.1))) (NxOk.go hb (group_Power_1_b N hb)) rfl (fun x => by kernel_rfl)
def group_Power_ctr (N : Nat) : Ctr := ⟨group_Power_S2, group_Power_S1.un [false], 0, (fun y => group_Power N y.1.1 y.1.2.1)⟩
theorem group_Power_ctrs (N : Nat) : CtrsOk Tryd.prog (group_Power_C N) := ctrs_of (Γ := group_Power_C N) G_ifs_ok (by
 intro p hp
 simp only [group_Power_C, List.mem_cons, List.not_mem_nil, or_false] at hp
 rcases hp with rfl
 · exact group_Mul_ok N)
theorem group_Power_ok (N : Nat) : Ctr.ok Tryd.prog G_globs 69 (group_Power_ctr N) :=
 ctr_fn (Γ := group_Power_C N) (rfit := group_Power_S1) (bs := [false]) (res := [4]) (by kernel_rfl) (tys_ok G_tys_ok) (group_Power_ctrs N) Tryd.func69 (by kernel_rfl) (by kernel_rfl) Tryd.ntmps69 (by kernel_rfl) (by kernel_rfl) (by kernel_rfl) (by kernel_rfl) (fun E hb => group_Power_b N hb)
/-! ipsecgate/group.Public -/
abbrev group_Public_R : Type := ((UInt64 × Int × Unit) × (Unit))
def group_Public (N : Nat) (secret_0 : UInt64) : Option group_Public_R :=
 Option.bind (group_valid N secret_0) fun y1 =>
 bif (!y1.1.1) then
 some (((0 : UInt64), (13 : Int), ()), (()))
 else
 Option.bind (group_Power N (4 : UInt64) secret_0) fun y3 =>
 some ((y3.1.1, (0 : Int), ()), (()))
def group_Public_C (N : Nat) : Ctx := ⟨9, G_tys, [(68, group_valid_ctr N), (69, group_Power_ctr N)], G_globs, G_ifs⟩
def group_Public_S0 : Spec := ⟨[.val .u64], []⟩
def group_Public_S1 : Spec := ⟨[.val .u64, .val .i64], []⟩
def group_Public_K (_N : Nat) : XE → GS → Option group_Public_R := retK 0 [2, 3] [false, false] group_Public_S1
def group_Public_L : List Code := (bodyOf (some Tryd.f62))
theorem group_Public_b {E : Env} (N : Nat) (hb : Base Tryd.prog (group_Public_C N) E 0) : Blk Tryd.prog (group_Public_C N) E (List.range group_Public_S0.ks.length) group_Public_S0 (group_Public_L.drop 0) (fun y => group_Public N y.1.1) (group_Public_K N) :=
 Blk.chunkAt hb 5 (X := (group_Public_K N .normal)) (NxOk.end (by kernel_rfl)) rfl (fun x => by kernel_rfl)
def group_Public_ctr (N : Nat) : Ctr := ⟨group_Public_S0, group_Public_S1.un [false, false], 0, (fun y => group_Public N y.1.1)⟩
theorem group_Public_ctrs (N : Nat) : CtrsOk Tryd.prog (group_Public_C N) := ctrs_of (Γ := group_Public_C N) G_ifs_ok (by
 intro p hp
 simp only [group_Public_C, List.mem_cons, List.not_mem_nil, or_false] at hp
 rcases hp with rfl | rfl
 · exact group_valid_ok N
 · exact group_Power_ok N)
theorem group_Public_ok (N : Nat) : Ctr.ok Tryd.prog G_globs 62 (group_Public_ctr N) :=
 ctr_fn (Γ := group_Public_C N) (rfit := group_Public_S1) (bs := [false, false]) (res := [2, 3]) (by kernel_rfl) (tys_ok G_tys_ok) (group_Public_ctrs N) Tryd.func62 (by kernel_rfl) (by kernel_rfl) Tryd.ntmps62 (by kernel_rfl) (by kernel_rfl) (by kernel_rfl) (by kernel_rfl) (fun E hb => group_Public_b N hb)
/-! ipsecgate/concrete.public -/
abbrev concrete_public_R : Type := ((UInt64 × Unit) × (Unit))
def concrete_public (N : Nat) (exponent_0 : D28) : Option concrete_public_R :=
 Option.bind (concrete_Exponent N exponent_0) fun y1 =>
 Option.bind (group_Public N y1.1.1) fun y2 =>
 some ((y2.1.1, ()), (()))
def concrete_public_C (N : Nat) : Ctx := ⟨12, G_tys, [(63, concrete_Exponent_ctr N), (62, group_Public_ctr N)], G_globs, G_ifs⟩
def concrete_public_S0 : Spec := ⟨[.val T28], []⟩
def concrete_public_S1 : Spec := ⟨[.val .u64], []⟩
def concrete_public_K (_N : Nat) : XE → GS → Option concrete_public_R := retK 0 [2] [false] concrete_public_S1
def concrete_public_L : List Code := (bodyOf (some Tryd.f56))
theorem concrete_public_b {E : Env} (N : Nat) (hb : Base Tryd.prog (concrete_public_C N) E 0) : Blk Tryd.prog (concrete_public_C N) E (List.range concrete_public_S0.ks.length) concrete_public_S0 (concrete_public_L.drop 0) (fun y => concrete_public N y.1.1) (concrete_public_K N) :=
 Blk.chunkAt hb 4 (X := (concrete_public_K N .normal)) (NxOk.end (by kernel_rfl)) rfl (fun x => by kernel_rfl)
def concrete_public_ctr (N : Nat) : Ctr := ⟨concrete_public_S0, concrete_public_S1.un [false], 0, (fun y => concrete_public N y.1.1)⟩
theorem concrete_public_ctrs (N : Nat) : CtrsOk Tryd.prog (concrete_public_C N) := ctrs_of (Γ := concrete_public_C N) G_ifs_ok (by
 intro p hp
 simp only [concrete_public_C, List.mem_cons, List.not_mem_nil, or_false] at hp
 rcases hp with rfl | rfl
 · exact concrete_Exponent_ok N
 · exact group_Public_ok N)
theorem concrete_public_ok (N : Nat) : Ctr.ok Tryd.prog G_globs 56 (concrete_public_ctr N) :=
 ctr_fn (Γ := concrete_public_C N) (rfit := concrete_public_S1) (bs := [false]) (res := [2]) (by kernel_rfl) (tys_ok G_tys_ok) (concrete_public_ctrs N) Tryd.func56 (by kernel_rfl) (by kernel_rfl) Tryd.ntmps56 (by kernel_rfl) (by kernel_rfl) (by kernel_rfl) (by kernel_rfl) (fun E hb => concrete_public_b N hb)
/-! ipsecgate/concrete.writePublic -/
abbrev concrete_writePublic_R : Type := ((Unit) × ((List UInt8) × Unit))
def concrete_writePublic_1 (N : Nat) (owner_5 : Int) (b_0 : (List UInt8)) (t_3 : D28) : Option concrete_writePublic_R :=
 Option.bind (wire_Put N (iu64 owner_5) (8 : Int) b_0) fun y7 =>
 let x8 := List.map Tree.un t_3.2.2.1
 bif inR (0 : Int) x8.length then
 Option.bind (concrete_public N (x8.getD 0 ((0 : Int), (0 : Int), ([] : List Tree), ()))) fun y10 =>
 Option.bind (wire_Put N y10.1.1 (8 : Int) y7.2.1) fun y11 =>
 some ((()), (y11.2.1, ()))
 else none
def concrete_writePublic (N : Nat) (t_1 : D28) (b_0 : (List UInt8)) : Option concrete_writePublic_R :=
 let x1 := List.map Tree.un t_1.2.2.1
 bif inR (0 : Int) x1.length then
 bif (decide ((x1.getD 0 ((0 : Int), (0 : Int), ([] : List Tree), ())).1 = (2 : Int))) then
 let x4 := List.map Tree.un t_1.2.2.1
 bif inR (0 : Int) x4.length then
 concrete_writePublic_1 N (x4.getD 0 ((0 : Int), (0 : Int), ([] : List Tree), ())).2.1 b_0 t_1
 else none
 else
 concrete_writePublic_1 N (0 : Int) b_0 t_1
 else none
def concrete_writePublic_C (N : Nat) : Ctx := ⟨27, G_tys, [(34, wire_Put_ctr N), (56, concrete_public_ctr N)], G_globs, G_ifs⟩
def concrete_writePublic_S0 : Spec := ⟨[.row 0, .ref 1 T28, .val .i64], [(.row 5 .u8, .pos 0), (.box 28 T28, .pos 1)]⟩
def concrete_writePublic_S1 : Spec := ⟨[.row 0, .val T28], [(.row 5 .u8, .pos 0)]⟩
def concrete_writePublic_S2 : Spec := ⟨[.row 0], [(.row 5 .u8, .pos 0)]⟩
def concrete_writePublic_K (_N : Nat) : XE → GS → Option concrete_writePublic_R := retK 0 [4] [false] concrete_writePublic_S2
def concrete_writePublic_L : List Code := (bodyOf (some Tryd.f50))
theorem concrete_writePublic_1_b {E : Env} (N : Nat) (hb : Base Tryd.prog (concrete_writePublic_C N) E 0) : Blk Tryd.prog (concrete_writePublic_C N) E [0, 3, 5] concrete_writePublic_S0 (concrete_writePublic_L.drop 4) (fun y => concrete_writePublic_1 N y.1.1 y.2.1 y.2.2.1) (concrete_writePublic_K N) :=
 Blk.chunkAt hb 2 (X := (concrete_writePublic_K N .normal)) (NxOk.end (by kernel_rfl)) rfl (fun x => by kernel_rfl)
theorem concrete_writePublic_b {E : Env} (N : Nat) (hb : Base Tryd.prog (concrete_writePublic_C N) E 0) : Blk Tryd.prog (concrete_writePublic_C N) E (List.range concrete_writePublic_S1.ks.length) concrete_writePublic_S1 (concrete_writePublic_L.drop 0) (fun y => concrete_writePublic N y.1.1 y.2.1) (concrete_writePublic_K N) :=
 Blk.chunkAt hb 4 (X := (goK 0 [0, 3, 5] concrete_writePublic_S0 (fun y => concrete_writePublic_1 N y.1.1 y.2.1 y.2.2.1))) (NxOk.go hb (concrete_writePublic_1_b N hb)) rfl (fun x => by kernel_rfl)
def concrete_writePublic_ctr (N : Nat) : Ctr := ⟨concrete_writePublic_S1, concrete_writePublic_S2.un [false], 0, (fun y => concrete_writePublic N y.1.1 y.2.1)⟩
theorem concrete_writePublic_ctrs (N : Nat) : CtrsOk Tryd.prog (concrete_writePublic_C N) := ctrs_of (Γ := concrete_writePublic_C N) G_ifs_ok (by
 intro p hp
 simp only [concrete_writePublic_C, List.mem_cons, List.not_mem_nil, or_false] at hp
 rcases hp with rfl | rfl
 · exact wire_Put_ok N
 · exact concrete_public_ok N)
theorem concrete_writePublic_ok (N : Nat) : Ctr.ok Tryd.prog G_globs 50 (concrete_writePublic_ctr N) :=
 ctr_fn (Γ := concrete_writePublic_C N) (rfit := concrete_writePublic_S2) (bs := [false]) (res := [4]) (by kernel_rfl) (tys_ok G_tys_ok) (concrete_writePublic_ctrs N) Tryd.func50 (by kernel_rfl) (by kernel_rfl) Tryd.ntmps50 (by kernel_rfl) (by kernel_rfl) (by kernel_rfl) (by kernel_rfl) (fun E hb => concrete_writePublic_b N hb)
/-! ipsecgate/prf.Hmac$1 -/
abbrev prf_Hmac_f1_R : Type := ((Unit) × ((List UInt8) × Unit))
def prf_Hmac_f1_s2 (N : Nat) (mask_0 : UInt8) (b_1 : (List UInt8)) (t_9 : (List UInt8)) (t_10 : Int) (l_6 : (List UInt8)) : Option (Lo ((UInt8 × (List UInt8) × (List UInt8) × Int × Unit) × ((List UInt8) × Unit)) (((List UInt8) × Unit) × ((List UInt8) × Unit)) prf_Hmac_f1_R) :=
 bif (decide (t_10 < (64 : Int))) then
 bif inR t_10 64 then
 let x2 := t_9.getD t_10.toNat (0 : UInt8)
 bif room (l_6.length + ([(x2 ^^^ mask_0)] : List UInt8).length) 1 then
 some (.go ((mask_0, b_1, t_9, (w64 (t_10 + (1 : Int))), ()), ((l_6 ++ ([(x2 ^^^ mask_0)] : List UInt8)), ())))
 else none
 else none
 else
 some (.br ((b_1, ()), (l_6, ())))
def prf_Hmac_f1_3 (N : Nat) (b_1 : (List UInt8)) (l_6 : (List UInt8)) : Option prf_Hmac_f1_R :=
 bif room (l_6.length + b_1.length) 1 then
 Option.bind (sha256_Sum N (l_6 ++ b_1)) fun y7 =>
 some ((()), (y7.2.1, ()))
 else none
def prf_Hmac_f1_1 (N : Nat) (mask_0 : UInt8) (b_1 : (List UInt8)) (t_9 : (List UInt8)) (t_10 : Int) (l_6 : (List UInt8)) : Option prf_Hmac_f1_R :=
 loopK N (fun y => prf_Hmac_f1_s2 N y.1.1 y.1.2.1 y.1.2.2.1 y.1.2.2.2.1 y.2.1) (fun (e : (((List UInt8) × Unit) × ((List UInt8) × Unit))) => prf_Hmac_f1_3 N e.1.1 e.2.1) ((mask_0, b_1, t_9, t_10, ()), (l_6, ()))
def prf_Hmac_f1 (N : Nat) (mask_0 : UInt8) (b_1 : (List UInt8)) (t_2 : (List UInt8)) : Option prf_Hmac_f1_R :=
 prf_Hmac_f1_1 N mask_0 b_1 t_2 (0 : Int) ([] : List UInt8)
def prf_Hmac_f1_C (N : Nat) : Ctx := ⟨24, G_tys, [(25, sha256_Sum_ctr N)], G_globs, G_ifs⟩
def prf_Hmac_f1_S0 : Spec := ⟨[.val .u8, .val (.sl .u8), .row 0, .val (.arr 64 .u8), .val .i64], [(.row 5 .u8, .pos 2)]⟩
def prf_Hmac_f1_S1 : Spec := ⟨[.val (.sl .u8), .row 0], [(.row 5 .u8, .pos 1)]⟩
def prf_Hmac_f1_S2 : Spec := ⟨[.val .u8, .val (.sl .u8), .fp (.arr 64 .u8)], []⟩
def prf_Hmac_f1_S3 : Spec := ⟨[.row 0], [(.row 5 .u8, .pos 0)]⟩
def prf_Hmac_f1_K (_N : Nat) : XE → GS → Option prf_Hmac_f1_R := retK 0 [5] [false] prf_Hmac_f1_S3
def prf_Hmac_f1_L : List Code := (bodyOf (some Tryd.f64))
def prf_Hmac_f1_L2 : List Code := (loopOf (prf_Hmac_f1_L[3]?))
def prf_Hmac_f1_K2 (N : Nat) : XE → GS → Option (Lo ((UInt8 × (List UInt8) × (List UInt8) × Int × Unit) × ((List UInt8) × Unit)) (((List UInt8) × Unit) × ((List UInt8) × Unit)) prf_Hmac_f1_R) := roundK (some 0) (fit 0 [0, 1, 6, 9, 10] prf_Hmac_f1_S0) (fit 0 [1, 6] prf_Hmac_f1_S1) (prf_Hmac_f1_K N)
theorem prf_Hmac_f1_s2_b {E : Env} (N : Nat) (hb : Base Tryd.prog (prf_Hmac_f1_C N) E 0) : Blk Tryd.prog (prf_Hmac_f1_C N) E [0, 1, 6, 9, 10] prf_Hmac_f1_S0 (prf_Hmac_f1_L2.drop 0) (fun y => prf_Hmac_f1_s2 N y.1.1 y.1.2.1 y.1.2.2.1 y.1.2.2.2.1 y.2.1) (prf_Hmac_f1_K2 N) :=
 Blk.chunkAt hb 4 (X := (prf_Hmac_f1_K2 N .normal)) (NxOk.end (by kernel_rfl)) rfl (fun x => by kernel_rfl)
theorem prf_Hmac_f1_3_b {E : Env} (N : Nat) (hb : Base Tryd.prog (prf_Hmac_f1_C N) E 0) : Blk Tryd.prog (prf_Hmac_f1_C N) E [1, 6] prf_Hmac_f1_S1 (prf_Hmac_f1_L.drop 4) (fun y => prf_Hmac_f1_3 N y.1.1 y.2.1) (prf_Hmac_f1_K N) :=
 Blk.chunkAt hb 2 (X := (prf_Hmac_f1_K N .normal)) (NxOk.end (by kernel_rfl)) rfl (fun x => by kernel_rfl)
theorem prf_Hmac_f1_1_b {E : Env} (N : Nat) (hb : Base Tryd.prog (prf_Hmac_f1_C N) E 0) : Blk Tryd.prog (prf_Hmac_f1_C N) E [0, 1, 6, 9, 10] prf_Hmac_f1_S0 (prf_Hmac_f1_L.drop 3) (fun y => prf_Hmac_f1_1 N y.1.1 y.1.2.1 y.1.2.2.1 y.1.2.2.2.1 y.2.1) (prf_Hmac_f1_K N) :=
 Blk.loopAt (Nf := N) (hns := [0, 1, 6, 9, 10]) (ans := [1, 6]) (hc := prf_Hmac_f1_S0) (ac := prf_Hmac_f1_S1) (bid := 0) (step := (fun y => prf_Hmac_f1_s2 N y.1.1 y.1.2.1 y.1.2.2.1 y.1.2.2.2.1 y.2.1)) (J := (fun e => (goK 0 [1, 6] prf_Hmac_f1_S1 (fun y => prf_Hmac_f1_3 N y.1.1 y.2.1)) (prf_Hmac_f1_S1.st [1, 6] e))) hb (by kernel_rfl) (Blk.into (X := (goK 0 [1, 6] prf_Hmac_f1_S1 (fun y => prf_Hmac_f1_3 N y.1.1 y.2.1))) (NxOk.go hb (prf_Hmac_f1_3_b N hb)) (fun x => by kernel_rfl)) (prf_Hmac_f1_s2_b N hb) (fun x => by kernel_rfl)
theorem prf_Hmac_f1_b {E : Env} (N : Nat) (hb : Base Tryd.prog (prf_Hmac_f1_C N) E 0) : Blk Tryd.prog (prf_Hmac_f1_C N) E (List.range prf_Hmac_f1_S2.ks.length) prf_Hmac_f1_S2 (prf_Hmac_f1_L.drop 0) (fun y => prf_Hmac_f1 N y.1.1 y.1.2.1 y.1.2.2.1) (prf_Hmac_f1_K N) :=
 Blk.chunkAt hb 3 (X := (goK 0 [0, 1, 6, 9, 10] prf_Hmac_f1_S0 (fun y => prf_Hmac_f1_1 N y.1.1 y.1.2.1 y.1.2.2.1 y.1.2.2.2.1 y.2.1))) (NxOk.go hb (prf_Hmac_f1_1_b N hb)) rfl (fun x => by kernel_rfl)
def prf_Hmac_f1_ctr (N : Nat) : Ctr := ⟨prf_Hmac_f1_S2, prf_Hmac_f1_S3.un [false], 0, (fun y => prf_Hmac_f1 N y.1.1 y.1.2.1 y.1.2.2.1)⟩
theorem prf_Hmac_f1_ctrs (N : Nat) : CtrsOk Tryd.prog (prf_Hmac_f1_C N) := ctrs_of (Γ := prf_Hmac_f1_C N) G_ifs_ok (by
 intro p hp
 simp only [prf_Hmac_f1_C, List.mem_cons, List.not_mem_nil, or_false] at hp
 rcases hp with rfl
 · exact sha256_Sum_ok N)
theorem prf_Hmac_f1_ok (N : Nat) : Ctr.ok Tryd.prog G_globs 64 (prf_Hmac_f1_ctr N) :=
 ctr_fn (Γ := prf_Hmac_f1_C N) (rfit := prf_Hmac_f1_S3) (bs := [false]) (res := [5]) (by kernel_rfl) (tys_ok G_tys_ok) (prf_Hmac_f1_ctrs N) Tryd.func64 (by kernel_rfl) (by kernel_rfl) Tryd.ntmps64 (by kernel_rfl) (by kernel_rfl) (by kernel_rfl) (by kernel_rfl) (fun E hb => prf_Hmac_f1_b N hb)
/-! ipsecgate/prf.Hmac -/
abbrev prf_Hmac_R : Type := ((Unit) × ((List UInt8) × Unit))
def prf_Hmac_1 (N : Nat) (key_0 : (List UInt8)) (b_1 : (List UInt8)) (padded_5 : (List UInt8)) : Option prf_Hmac_R :=
 let x4 := splice padded_5 key_0
 Option.bind (prf_Hmac_f1 N (54 : UInt8) b_1 x4) fun y5 =>
 Option.bind (prf_Hmac_f1 N (92 : UInt8) y5.2.1 x4) fun y6 =>
 some ((()), (y6.2.1, ()))
def prf_Hmac (N : Nat) (key_0 : (List UInt8)) (b_1 : (List UInt8)) : Option prf_Hmac_R :=
 bif (decide ((64 : Int) < (key_0.length : Int))) then
 Option.bind (sha256_Sum N key_0) fun y3 =>
 prf_Hmac_1 N y3.2.1 b_1 (List.replicate 64 (0 : UInt8))
 else
 prf_Hmac_1 N key_0 b_1 (List.replicate 64 (0 : UInt8))
def prf_Hmac_C (N : Nat) : Ctx := ⟨21, G_tys, [(25, sha256_Sum_ctr N), (64, prf_Hmac_f1_ctr N)], G_globs, G_ifs⟩
def prf_Hmac_S0 : Spec := ⟨[.val (.sl .u8), .val (.sl .u8), .ref 0 (.arr 64 .u8)], [(.box 88 (.arr 64 .u8), .pos 2)]⟩
def prf_Hmac_S1 : Spec := ⟨[.val (.sl .u8), .val (.sl .u8)], []⟩
def prf_Hmac_S2 : Spec := ⟨[.row 0], [(.row 5 .u8, .pos 0)]⟩
def prf_Hmac_K (_N : Nat) : XE → GS → Option prf_Hmac_R := retK 0 [4] [false] prf_Hmac_S2
def prf_Hmac_L : List Code := (bodyOf (some Tryd.f57))
theorem prf_Hmac_1_b {E : Env} (N : Nat) (hb : Base Tryd.prog (prf_Hmac_C N) E 0) : Blk Tryd.prog (prf_Hmac_C N) E [0, 1, 5] prf_Hmac_S0 (prf_Hmac_L.drop 4) (fun y => prf_Hmac_1 N y.1.1 y.1.2.1 y.2.1) (prf_Hmac_K N) :=
 Blk.chunkAt hb 4 (X := (prf_Hmac_K N .normal)) (NxOk.end (by kernel_rfl)) rfl (fun x => by kernel_rfl)
theorem prf_Hmac_b {E : Env} (N : Nat) (hb : Base Tryd.prog (prf_Hmac_C N) E 0) : Blk Tryd.prog (prf_Hmac_C N) E (List.range prf_Hmac_S1.ks.length) prf_Hmac_S1 (prf_Hmac_L.drop 0) (fun y => prf_Hmac N y.1.1 y.1.2.1) (prf_Hmac_K N) :=
 Blk.chunkAt hb 4 (X := (goK 0 [0, 1, 5] prf_Hmac_S0 (fun y => prf_Hmac_1 N y.1.1 y.1.2.1 y.2.1))) (NxOk.go hb (prf_Hmac_1_b N hb)) rfl (fun x => by kernel_rfl)
def prf_Hmac_ctr (N : Nat) : Ctr := ⟨prf_Hmac_S1, prf_Hmac_S2.un [false], 0, (fun y => prf_Hmac N y.1.1 y.1.2.1)⟩
theorem prf_Hmac_ctrs (N : Nat) : CtrsOk Tryd.prog (prf_Hmac_C N) := ctrs_of (Γ := prf_Hmac_C N) G_ifs_ok (by
 intro p hp
 simp only [prf_Hmac_C, List.mem_cons, List.not_mem_nil, or_false] at hp
 rcases hp with rfl | rfl
 · exact sha256_Sum_ok N
 · exact prf_Hmac_f1_ok N)
theorem prf_Hmac_ok (N : Nat) : Ctr.ok Tryd.prog G_globs 57 (prf_Hmac_ctr N) :=
 ctr_fn (Γ := prf_Hmac_C N) (rfit := prf_Hmac_S2) (bs := [false]) (res := [4]) (by kernel_rfl) (tys_ok G_tys_ok) (prf_Hmac_ctrs N) Tryd.func57 (by kernel_rfl) (by kernel_rfl) Tryd.ntmps57 (by kernel_rfl) (by kernel_rfl) (by kernel_rfl) (by kernel_rfl) (fun E hb => prf_Hmac_b N hb)
/-! ipsecgate/aead.keyed -/
abbrev aead_keyed_R : Type := ((Bool × Unit) × (Unit))
def aead_keyed (N : Nat) (key_0 : (List UInt8)) (nonce_1 : (List UInt8)) : Option aead_keyed_R :=
 bif (decide ((key_0.length : Int) = (32 : Int))) then
 some (((decide ((nonce_1.length : Int) = (12 : Int))), ()), (()))
 else
 some ((false, ()), (()))
def aead_keyed_C (N : Nat) : Ctx := ⟨13, G_tys, [], G_globs, G_ifs⟩
def aead_keyed_S0 : Spec := ⟨[.val (.sl .u8), .val (.sl .u8)], []⟩
def aead_keyed_S1 : Spec := ⟨[.val .bool], []⟩
def aead_keyed_K (_N : Nat) : XE → GS → Option aead_keyed_R := retK 0 [4] [false] aead_keyed_S1
def aead_keyed_L : List Code := (bodyOf (some Tryd.f65))
theorem aead_keyed_b {E : Env} (N : Nat) (hb : Base Tryd.prog (aead_keyed_C N) E 0) : Blk Tryd.prog (aead_keyed_C N) E (List.range aead_keyed_S0.ks.length) aead_keyed_S0 (aead_keyed_L.drop 0) (fun y => aead_keyed N y.1.1 y.1.2.1) (aead_keyed_K N) :=
 Blk.chunkAt hb 3 (X := (aead_keyed_K N .normal)) (NxOk.end (by kernel_rfl)) rfl (fun x => by kernel_rfl)
def aead_keyed_ctr (N : Nat) : Ctr := ⟨aead_keyed_S0, aead_keyed_S1.un [false], 0, (fun y => aead_keyed N y.1.1 y.1.2.1)⟩
theorem aead_keyed_ctrs (N : Nat) : CtrsOk Tryd.prog (aead_keyed_C N) := ctrs_nil G_ifs_ok rfl
theorem aead_keyed_ok (N : Nat) : Ctr.ok Tryd.prog G_globs 65 (aead_keyed_ctr N) :=
 ctr_fn (Γ := aead_keyed_C N) (rfit := aead_keyed_S1) (bs := [false]) (res := [4]) (by kernel_rfl) (tys_ok G_tys_ok) (aead_keyed_ctrs N) Tryd.func65 (by kernel_rfl) (by kernel_rfl) Tryd.ntmps65 (by kernel_rfl) (by kernel_rfl) (by kernel_rfl) (by kernel_rfl) (fun E hb => aead_keyed_b N hb)
/-! ipsecgate/chacha.word -/
abbrev chacha_word_R : Type := ((UInt32 × Unit) × (Unit))
def chacha_word (N : Nat) (b_0 : (List UInt8)) : Option chacha_word_R :=
 bif inR (0 : Int) b_0.length then
 bif inR (1 : Int) b_0.length then
 bif inR (2 : Int) b_0.length then
 bif inR (3 : Int) b_0.length then
 some ((((((b_0.getD 0 (0 : UInt8)).toUInt32 ||| (shl32 (b_0.getD 1 (0 : UInt8)).toUInt32 8)) ||| (shl32 (b_0.getD 2 (0 : UInt8)).toUInt32 16)) ||| (shl32 (b_0.getD 3 (0 : UInt8)).toUInt32 24)), ()), (()))
 else none
 else none
 else none
 else none
def chacha_word_C (N : Nat) : Ctx := ⟨25, G_tys, [], G_globs, G_ifs⟩
def chacha_word_S0 : Spec := ⟨[.val (.sl .u8)], []⟩
def chacha_word_S1 : Spec := ⟨[.val .u32], []⟩
def chacha_word_K (_N : Nat) : XE → GS → Option chacha_word_R := retK 0 [2] [false] chacha_word_S1
def chacha_word_L : List Code := (bodyOf (some Tryd.f76))
theorem chacha_word_b {E : Env} (N : Nat) (hb : Base Tryd.prog (chacha_word_C N) E 0) : Blk Tryd.prog (chacha_word_C N) E (List.range chacha_word_S0.ks.length) chacha_word_S0 (chacha_word_L.drop 0) (fun y => chacha_word N y.1.1) (chacha_word_K N) :=
 Blk.chunkAt hb 3 (X := (chacha_word_K N .normal)) (NxOk.end (by kernel_rfl)) rfl (fun x => by kernel_rfl)
def chacha_word_ctr (N : Nat) : Ctr := ⟨chacha_word_S0, chacha_word_S1.un [false], 0, (fun y => chacha_word N y.1.1)⟩
theorem chacha_word_ctrs (N : Nat) : CtrsOk Tryd.prog (chacha_word_C N) := ctrs_nil G_ifs_ok rfl
theorem chacha_word_ok (N : Nat) : Ctr.ok Tryd.prog G_globs 76 (chacha_word_ctr N) :=
 ctr_fn (Γ := chacha_word_C N) (rfit := chacha_word_S1) (bs := [false]) (res := [2]) (by kernel_rfl) (tys_ok G_tys_ok) (chacha_word_ctrs N) Tryd.func76 (by kernel_rfl) (by kernel_rfl) Tryd.ntmps76 (by kernel_rfl) (by kernel_rfl) (by kernel_rfl) (by kernel_rfl) (fun E hb => chacha_word_b N hb)
/-! ipsecgate/chacha.state -/
abbrev chacha_state_R : Type := (((List UInt32) × Bool × Unit) × (Unit))
def chacha_state_s3 (N : Nat) (key_0 : (List UInt8)) (nonce_2 : (List UInt8)) (t_22 : Int) (t_6 : (List UInt32)) (s_8 : (List UInt32)) : Option (Lo (((List UInt8) × (List UInt8) × Int × Unit) × ((List UInt32) × (List UInt32) × Unit)) (((List UInt8) × Unit) × ((List UInt32) × (List UInt32) × Unit)) chacha_state_R) :=
 bif (decide (t_22 < (8 : Int))) then
 let x6 := w64 ((4 : Int) + t_22)
 let x7 := w64 ((4 : Int) * t_22)
 bif decide (0 ≤ x7) && decide (x7 ≤ (key_0.length : Int)) && decide ((key_0.length : Int) ≤ (key_0.length : Int)) && true then
 Option.bind (chacha_word N (cut key_0 x7.toNat key_0.length)) fun y9 =>
 bif inR x6 16 then
 some (.go ((key_0, nonce_2, (w64 (t_22 + (1 : Int))), ()), (t_6, (s_8.set x6.toNat y9.1.1), ())))
 else none
 else none
 else
 some (.br ((nonce_2, ()), (t_6, s_8, ())))
def chacha_state_s6 (N : Nat) (nonce_2 : (List UInt8)) (t_34 : Int) (t_6 : (List UInt32)) (s_8 : (List UInt32)) : Option (Lo (((List UInt8) × Int × Unit) × ((List UInt32) × (List UInt32) × Unit)) ((Unit) × ((List UInt32) × (List UInt32) × Unit)) chacha_state_R) :=
 bif (decide (t_34 < (3 : Int))) then
 let x13 := w64 ((13 : Int) + t_34)
 let x14 := w64 ((4 : Int) * t_34)
 bif decide (0 ≤ x14) && decide (x14 ≤ (nonce_2.length : Int)) && decide ((nonce_2.length : Int) ≤ (nonce_2.length : Int)) && true then
 Option.bind (chacha_word N (cut nonce_2 x14.toNat nonce_2.length)) fun y16 =>
 bif inR x13 16 then
 some (.go ((nonce_2, (w64 (t_34 + (1 : Int))), ()), (t_6, (s_8.set x13.toNat y16.1.1), ())))
 else none
 else none
 else
 some (.br ((()), (t_6, s_8, ())))
def chacha_state_7 (N : Nat) (t_6 : (List UInt32)) (s_8 : (List UInt32)) : Option chacha_state_R :=
 some ((s_8, true, ()), (()))
def chacha_state_5 (N : Nat) (nonce_2 : (List UInt8)) (t_34 : Int) (t_6 : (List UInt32)) (s_8 : (List UInt32)) : Option chacha_state_R :=
 loopK N (fun y => chacha_state_s6 N y.1.1 y.1.2.1 y.2.1 y.2.2.1) (fun (e : ((Unit) × ((List UInt32) × (List UInt32) × Unit))) => chacha_state_7 N e.2.1 e.2.2.1) ((nonce_2, t_34, ()), (t_6, s_8, ()))
def chacha_state_4 (N : Nat) (nonce_2 : (List UInt8)) (t_6 : (List UInt32)) (s_8 : (List UInt32)) : Option chacha_state_R :=
 chacha_state_5 N nonce_2 (0 : Int) t_6 s_8
def chacha_state_2 (N : Nat) (key_0 : (List UInt8)) (nonce_2 : (List UInt8)) (t_22 : Int) (t_6 : (List UInt32)) (s_8 : (List UInt32)) : Option chacha_state_R :=
 loopK N (fun y => chacha_state_s3 N y.1.1 y.1.2.1 y.1.2.2.1 y.2.1 y.2.2.1) (fun (e : (((List UInt8) × Unit) × ((List UInt32) × (List UInt32) × Unit))) => chacha_state_4 N e.1.1 e.2.1 e.2.2.1) ((key_0, nonce_2, t_22, ()), (t_6, s_8, ()))
def chacha_state_1 (N : Nat) (key_0 : (List UInt8)) (counter_1 : UInt32) (nonce_2 : (List UInt8)) (t_18 : Bool) (t_6 : (List UInt32)) : Option chacha_state_R :=
 bif t_18 then
 some (((List.replicate 16 (0 : UInt32)), false, ()), (()))
 else
 chacha_state_2 N key_0 nonce_2 (0 : Int) t_6 ((((((List.replicate 16 (0 : UInt32)).set 0 (1634760805 : UInt32)).set 1 (857760878 : UInt32)).set 2 (2036477234 : UInt32)).set 3 (1797285236 : UInt32)).set 12 counter_1)
def chacha_state (N : Nat) (key_0 : (List UInt8)) (counter_1 : UInt32) (nonce_2 : (List UInt8)) : Option chacha_state_R :=
 bif (!(decide ((key_0.length : Int) = (32 : Int)))) then
 chacha_state_1 N key_0 counter_1 nonce_2 true (List.replicate 16 (0 : UInt32))
 else
 chacha_state_1 N key_0 counter_1 nonce_2 (!(decide ((nonce_2.length : Int) = (12 : Int)))) (List.replicate 16 (0 : UInt32))
def chacha_state_C (N : Nat) : Ctx := ⟨47, G_tys, [(76, chacha_word_ctr N)], G_globs, G_ifs⟩
def chacha_state_S0 : Spec := ⟨[.val (.sl .u8), .val (.sl .u8), .ref 0 (.arr 16 .u32), .ref 1 (.arr 16 .u32), .val .i64], [(.box 94 (.arr 16 .u32), .pos 2), (.box 94 (.arr 16 .u32), .pos 3)]⟩
def chacha_state_S1 : Spec := ⟨[.val (.sl .u8), .ref 0 (.arr 16 .u32), .ref 1 (.arr 16 .u32), .val .i64], [(.box 94 (.arr 16 .u32), .pos 1), (.box 94 (.arr 16 .u32), .pos 2)]⟩
def chacha_state_S2 : Spec := ⟨[.ref 0 (.arr 16 .u32), .ref 1 (.arr 16 .u32)], [(.box 94 (.arr 16 .u32), .pos 0), (.box 94 (.arr 16 .u32), .pos 1)]⟩
def chacha_state_S3 : Spec := ⟨[.val (.sl .u8), .ref 0 (.arr 16 .u32), .ref 1 (.arr 16 .u32)], [(.box 94 (.arr 16 .u32), .pos 1), (.box 94 (.arr 16 .u32), .pos 2)]⟩
def chacha_state_S4 : Spec := ⟨[.val (.sl .u8), .val .u32, .val (.sl .u8), .ref 0 (.arr 16 .u32), .val .bool], [(.box 94 (.arr 16 .u32), .pos 3)]⟩
def chacha_state_S5 : Spec := ⟨[.val (.sl .u8), .val .u32, .val (.sl .u8)], []⟩
def chacha_state_S6 : Spec := ⟨[.fp (.arr 16 .u32), .val .bool], []⟩
def chacha_state_K (_N : Nat) : XE → GS → Option chacha_state_R := retK 0 [6, 7] [true, false] chacha_state_S6
def chacha_state_L : List Code := (bodyOf (some Tryd.f70))
def chacha_state_L3 : List Code := (loopOf (chacha_state_L[5]?))
def chacha_state_L6 : List Code := (loopOf (chacha_state_L[7]?))
def chacha_state_K3 (N : Nat) : XE → GS → Option (Lo (((List UInt8) × (List UInt8) × Int × Unit) × ((List UInt32) × (List UInt32) × Unit)) (((List UInt8) × Unit) × ((List UInt32) × (List UInt32) × Unit)) chacha_state_R) := roundK (some 0) (fit 0 [0, 2, 6, 8, 22] chacha_state_S0) (fit 0 [2, 6, 8] chacha_state_S3) (chacha_state_K N)
def chacha_state_K6 (N : Nat) : XE → GS → Option (Lo (((List UInt8) × Int × Unit) × ((List UInt32) × (List UInt32) × Unit)) ((Unit) × ((List UInt32) × (List UInt32) × Unit)) chacha_state_R) := roundK (some 2) (fit 0 [2, 6, 8, 34] chacha_state_S1) (fit 0 [6, 8] chacha_state_S2) (chacha_state_K N)
theorem chacha_state_s3_b {E : Env} (N : Nat) (hb : Base Tryd.prog (chacha_state_C N) E 0) : Blk Tryd.prog (chacha_state_C N) E [0, 2, 6, 8, 22] chacha_state_S0 (chacha_state_L3.drop 0) (fun y => chacha_state_s3 N y.1.1 y.1.2.1 y.1.2.2.1 y.2.1 y.2.2.1) (chacha_state_K3 N) :=
 Blk.chunkAt hb 4 (X := (chacha_state_K3 N .normal)) (NxOk.end (by kernel_rfl)) rfl (fun x => by kernel_rfl)
theorem chacha_state_s6_b {E : Env} (N : Nat) (hb : Base Tryd.prog (chacha_state_C N) E 0) : Blk Tryd.prog (chacha_state_C N) E [2, 6, 8, 34] chacha_state_S1 (chacha_state_L6.drop 0) (fun y => chacha_state_s6 N y.1.1 y.1.2.1 y.2.1 y.2.2.1) (chacha_state_K6 N) :=
 Blk.chunkAt hb 4 (X := (chacha_state_K6 N .normal)) (NxOk.end (by kernel_rfl)) rfl (fun x => by kernel_rfl)
theorem chacha_state_7_b {E : Env} (N : Nat) (hb : Base Tryd.prog (chacha_state_C N) E 0) : Blk Tryd.prog (chacha_state_C N) E [6, 8] chacha_state_S2 (chacha_state_L.drop 8) (fun y => chacha_state_7 N y.2.1 y.2.2.1) (chacha_state_K N) :=
 Blk.chunkAt hb 2 (X := (chacha_state_K N .normal)) (NxOk.end (by kernel_rfl)) rfl (fun x => by kernel_rfl)
theorem chacha_state_5_b {E : Env} (N : Nat) (hb : Base Tryd.prog (chacha_state_C N) E 0) : Blk Tryd.prog (chacha_state_C N) E [2, 6, 8, 34] chacha_state_S1 (chacha_state_L.drop 7) (fun y => chacha_state_5 N y.1.1 y.1.2.1 y.2.1 y.2.2.1) (chacha_state_K N) :=
 Blk.loopAt (Nf := N) (hns := [2, 6, 8, 34]) (ans := [6, 8]) (hc := chacha_state_S1) (ac := chacha_state_S2) (bid := 2) (step := (fun y => chacha_state_s6 N y.1.1 y.1.2.1 y.2.1 y.2.2.1)) (J := (fun e => (goK 0 [6, 8] chacha_state_S2 (fun y => chacha_state_7 N y.2.1 y.2.2.1)) (chacha_state_S2.st [6, 8] e))) hb (by kernel_rfl) (Blk.into (X := (goK 0 [6, 8] chacha_state_S2 (fun y => chacha_state_7 N y.2.1 y.2.2.1))) (NxOk.go hb (chacha_state_7_b N hb)) (fun x => by kernel_rfl)) (chacha_state_s6_b N hb) (fun x => by kernel_rfl)
theorem chacha_state_4_b {E : Env} (N : Nat) (hb : Base Tryd.prog (chacha_state_C N) E 0) : Blk Tryd.prog (chacha_state_C N) E [2, 6, 8] chacha_state_S3 (chacha_state_L.drop 6) (fun y => chacha_state_4 N y.1.1 y.2.1 y.2.2.1) (chacha_state_K N) :=
 Blk.chunkAt hb 1 (X := (goK 0 [2, 6, 8, 34] chacha_state_S1 (fun y => chacha_state_5 N y.1.1 y.1.2.1 y.2.1 y.2.2.1))) (NxOk.go hb (chacha_state_5_b N hb)) rfl (fun x => by kernel_rfl)
theorem chacha_state_2_b {E : Env} (N : Nat) (hb : Base Tryd.prog (chacha_state_C N) E 0) : Blk Tryd.prog (chacha_state_C N) E [0, 2, 6, 8, 22] chacha_state_S0 (chacha_state_L.drop 5) (fun y => chacha_state_2 N y.1.1 y.1.2.1 y.1.2.2.1 y.2.1 y.2.2.1) (chacha_state_K N) :=
 Blk.loopAt (Nf := N) (hns := [0, 2, 6, 8, 22]) (ans := [2, 6, 8]) (hc := chacha_state_S0) (ac := chacha_state_S3) (bid := 0) (step := (fun y => chacha_state_s3 N y.1.1 y.1.2.1 y.1.2.2.1 y.2.1 y.2.2.1)) (J := (fun e => (goK 0 [2, 6, 8] chacha_state_S3 (fun y => chacha_state_4 N y.1.1 y.2.1 y.2.2.1)) (chacha_state_S3.st [2, 6, 8] e))) hb (by kernel_rfl) (Blk.into (X := (goK 0 [2, 6, 8] chacha_state_S3 (fun y => chacha_state_4 N y.1.1 y.2.1 y.2.2.1))) (NxOk.go hb (chacha_state_4_b N hb)) (fun x => by kernel_rfl)) (chacha_state_s3_b N hb) (fun x => by kernel_rfl)
theorem chacha_state_1_b {E : Env} (N : Nat) (hb : Base Tryd.prog (chacha_state_C N) E 0) : Blk Tryd.prog (chacha_state_C N) E [0, 1, 2, 6, 18] chacha_state_S4 (chacha_state_L.drop 2) (fun y => chacha_state_1 N y.1.1 y.1.2.1 y.1.2.2.1 y.1.2.2.2.1 y.2.1) (chacha_state_K N) :=
 Blk.chunkAt hb 3 (X := (goK 0 [0, 2, 6, 8, 22] chacha_state_S0 (fun y => chacha_state_2 N y.1.1 y.1.2.1 y.1.2.2.1 y.2.1 y.2.2.1))) (NxOk.go hb (chacha_state_2_b N hb)) rfl (fun x => by kernel_rfl)
theorem chacha_state_b {E : Env} (N : Nat) (hb : Base Tryd.prog (chacha_state_C N) E 0) : Blk Tryd.prog (chacha_state_C N) E (List.range chacha_state_S5.ks.length) chacha_state_S5 (chacha_state_L.drop 0) (fun y => chacha_state N y.1.1 y.1.2.1 y.1.2.2.1) (chacha_state_K N) :=
 Blk.chunkAt hb 2 (X := (goK 0 [0, 1, 2, 6, 18] chacha_state_S4 (fun y => chacha_state_1 N y.1.1 y.1.2.1 y.1.2.2.1 y.1.2.2.2.1 y.2.1))) (NxOk.go hb (chacha_state_1_b N hb)) rfl (fun x => by kernel_rfl)
def chacha_state_ctr (N : Nat) : Ctr := ⟨chacha_state_S5, chacha_state_S6.un [true, false], 0, (fun y => chacha_state N y.1.1 y.1.2.1 y.1.2.2.1)⟩
theorem chacha_state_ctrs (N : Nat) : CtrsOk Tryd.prog (chacha_state_C N) := ctrs_of (Γ := chacha_state_C N) G_ifs_ok (by
 intro p hp
 simp only [chacha_state_C, List.mem_cons, List.not_mem_nil, or_false] at hp
 rcases hp with rfl
 · exact chacha_word_ok N)
theorem chacha_state_ok (N : Nat) : Ctr.ok Tryd.prog G_globs 70 (chacha_state_ctr N) :=
 ctr_fn (Γ := chacha_state_C N) (rfit := chacha_state_S6) (bs := [true, false]) (res := [6, 7]) (by kernel_rfl) (tys_ok G_tys_ok) (chacha_state_ctrs N) Tryd.func70 (by kernel_rfl) (by kernel_rfl) Tryd.ntmps70 (by kernel_rfl) (by kernel_rfl) (by kernel_rfl) (by kernel_rfl) (fun E hb => chacha_state_b N hb)
/-! ipsecgate/chacha.Quarter -/
abbrev chacha_Quarter_R : Type := ((UInt32 × UInt32 × UInt32 × UInt32 × Unit) × (Unit))
def chacha_Quarter (N : Nat) (a_0 : UInt32) (b_1 : UInt32) (c_2 : UInt32) (d_3 : UInt32) : Option chacha_Quarter_R :=
 Option.bind (math_bits_RotateLeft32 N (d_3 ^^^ (a_0 + b_1)) (16 : Int)) fun y3 =>
 Option.bind (math_bits_RotateLeft32 N (b_1 ^^^ (c_2 + y3.1.1)) (12 : Int)) fun y6 =>
 Option.bind (math_bits_RotateLeft32 N (y3.1.1 ^^^ ((a_0 + b_1) + y6.1.1)) (8 : Int)) fun y9 =>
 Option.bind (math_bits_RotateLeft32 N (y6.1.1 ^^^ ((c_2 + y3.1.1) + y9.1.1)) (7 : Int)) fun y12 =>
 some ((((a_0 + b_1) + y6.1.1), y12.1.1, ((c_2 + y3.1.1) + y9.1.1), y9.1.1, ()), (()))
def chacha_Quarter_C (N : Nat) : Ctx := ⟨49, G_tys, [(54, math_bits_RotateLeft32_ctr N)], G_globs, G_ifs⟩
def chacha_Quarter_S0 : Spec := ⟨[.val .u32, .val .u32, .val .u32, .val .u32], []⟩
def chacha_Quarter_K (_N : Nat) : XE → GS → Option chacha_Quarter_R := retK 0 [8, 9, 10, 11] [false, false, false, false] chacha_Quarter_S0
def chacha_Quarter_L : List Code := (bodyOf (some Tryd.f77))
theorem chacha_Quarter_b {E : Env} (N : Nat) (hb : Base Tryd.prog (chacha_Quarter_C N) E 0) : Blk Tryd.prog (chacha_Quarter_C N) E (List.range chacha_Quarter_S0.ks.length) chacha_Quarter_S0 (chacha_Quarter_L.drop 0) (fun y => chacha_Quarter N y.1.1 y.1.2.1 y.1.2.2.1 y.1.2.2.2.1) (chacha_Quarter_K N) :=
 Blk.chunkAt hb 12 (X := (chacha_Quarter_K N .normal)) (NxOk.end (by kernel_rfl)) rfl (fun x => by kernel_rfl)
def chacha_Quarter_ctr (N : Nat) : Ctr := ⟨chacha_Quarter_S0, chacha_Quarter_S0.un [false, false, false, false], 0, (fun y => chacha_Quarter N y.1.1 y.1.2.1 y.1.2.2.1 y.1.2.2.2.1)⟩
theorem chacha_Quarter_ctrs (N : Nat) : CtrsOk Tryd.prog (chacha_Quarter_C N) := ctrs_of (Γ := chacha_Quarter_C N) G_ifs_ok (by
 intro p hp
 simp only [chacha_Quarter_C, List.mem_cons, List.not_mem_nil, or_false] at hp
 rcases hp with rfl
 · exact math_bits_RotateLeft32_ok N)
theorem chacha_Quarter_ok (N : Nat) : Ctr.ok Tryd.prog G_globs 77 (chacha_Quarter_ctr N) :=
 ctr_fn (Γ := chacha_Quarter_C N) (rfit := chacha_Quarter_S0) (bs := [false, false, false, false]) (res := [8, 9, 10, 11]) (by kernel_rfl) (tys_ok G_tys_ok) (chacha_Quarter_ctrs N) Tryd.func77 (by kernel_rfl) (by kernel_rfl) Tryd.ntmps77 (by kernel_rfl) (by kernel_rfl) (by kernel_rfl) (by kernel_rfl) (fun E hb => chacha_Quarter_b N hb)
/-! ipsecgate/chacha.Block -/
abbrev chacha_Block_R : Type := ((Bool × Unit) × ((List UInt8) × Unit))
def chacha_Block_s7 (N : Nat) (t_26 : Int) (t_28 : (List (List Int))) (t_29 : Int) (first_8 : (List UInt32)) (s_10 : (List UInt32)) : Option (Lo ((Int × (List (List Int)) × Int × Unit) × ((List UInt32) × (List UInt32) × Unit)) ((Int × Unit) × ((List UInt32) × (List UInt32) × Unit)) (Lo ((Int × Unit) × ((List UInt32) × (List UInt32) × Unit)) ((Unit) × ((List UInt32) × (List UInt32) × Unit)) chacha_Block_R)) :=
 bif (decide (t_29 < (8 : Int))) then
 bif inR t_29 8 then
 let x5 := t_28.getD t_29.toNat (List.replicate 4 (0 : Int))
 let x6 := (x5.getD 0 (0 : Int))
 let x7 := (x5.getD 1 (0 : Int))
 let x8 := (x5.getD 2 (0 : Int))
 let x9 := (x5.getD 3 (0 : Int))
 let x10 := (x5.getD 0 (0 : Int))
 bif inR x10 16 then
 let x12 := (x5.getD 1 (0 : Int))
 bif inR x12 16 then
 let x14 := (x5.getD 2 (0 : Int))
 bif inR x14 16 then
 let x16 := (x5.getD 3 (0 : Int))
 bif inR x16 16 then
 Option.bind (chacha_Quarter N (s_10.getD x10.toNat (0 : UInt32)) (s_10.getD x12.toNat (0 : UInt32)) (s_10.getD x14.toNat (0 : UInt32)) (s_10.getD x16.toNat (0 : UInt32))) fun y18 =>
 bif inR x6 16 then
 bif inR x7 16 then
 bif inR x8 16 then
 bif inR x9 16 then
 some (.go ((t_26, t_28, (w64 (t_29 + (1 : Int))), ()), (first_8, ((((s_10.set x6.toNat y18.1.1).set x7.toNat y18.1.2.1).set x8.toNat y18.1.2.2.1).set x9.toNat y18.1.2.2.2.1), ())))
 else none
 else none
 else none
 else none
 else none
 else none
 else none
 else none
 else none
 else
 some (.br ((t_26, ()), (first_8, s_10, ())))
def chacha_Block_8 (N : Nat) (t_26 : Int) (first_8 : (List UInt32)) (s_10 : (List UInt32)) : Option (Lo ((Int × Unit) × ((List UInt32) × (List UInt32) × Unit)) ((Unit) × ((List UInt32) × (List UInt32) × Unit)) chacha_Block_R) :=
 some (.go (((w64 (t_26 + (1 : Int))), ()), (first_8, s_10, ())))
def chacha_Block_6 (N : Nat) (t_26 : Int) (t_28 : (List (List Int))) (t_29 : Int) (first_8 : (List UInt32)) (s_10 : (List UInt32)) : Option (Lo ((Int × Unit) × ((List UInt32) × (List UInt32) × Unit)) ((Unit) × ((List UInt32) × (List UInt32) × Unit)) chacha_Block_R) :=
 loopK N (fun y => chacha_Block_s7 N y.1.1 y.1.2.1 y.1.2.2.1 y.2.1 y.2.2.1) (fun (e : ((Int × Unit) × ((List UInt32) × (List UInt32) × Unit))) => chacha_Block_8 N e.1.1 e.2.1 e.2.2.1) ((t_26, t_28, t_29, ()), (first_8, s_10, ()))
def chacha_Block_5 (N : Nat) (t_26 : Int) (first_8 : (List UInt32)) (s_10 : (List UInt32)) : Option (Lo ((Int × Unit) × ((List UInt32) × (List UInt32) × Unit)) ((Unit) × ((List UInt32) × (List UInt32) × Unit)) chacha_Block_R) :=
 chacha_Block_6 N t_26 g_chacha_quarters (0 : Int) first_8 s_10
def chacha_Block_3 (N : Nat) (t_26 : Int) (first_8 : (List UInt32)) (s_10 : (List UInt32)) : Option (Lo ((Int × Unit) × ((List UInt32) × (List UInt32) × Unit)) ((Unit) × ((List UInt32) × (List UInt32) × Unit)) chacha_Block_R) :=
 chacha_Block_5 N t_26 first_8 s_10
def chacha_Block_s2 (N : Nat) (t_26 : Int) (first_8 : (List UInt32)) (s_10 : (List UInt32)) : Option (Lo ((Int × Unit) × ((List UInt32) × (List UInt32) × Unit)) ((Unit) × ((List UInt32) × (List UInt32) × Unit)) chacha_Block_R) :=
 bif (decide (t_26 < (10 : Int))) then
 chacha_Block_3 N t_26 first_8 s_10
 else
 some (.br ((()), (first_8, s_10, ())))
def chacha_Block_s11 (N : Nat) (t_68 : (List UInt32)) (t_69 : Int) (first_8 : (List UInt32)) (out_13 : (List UInt8)) : Option (Lo (((List UInt32) × Int × Unit) × ((List UInt32) × (List UInt8) × Unit)) ((Unit) × ((List UInt8) × Unit)) chacha_Block_R) :=
 bif (decide (t_69 < (16 : Int))) then
 bif inR t_69 16 then
 let x26 := t_68.getD t_69.toNat (0 : UInt32)
 bif inR t_69 16 then
 let x27 := (first_8.getD t_69.toNat (0 : UInt32))
 bif room (out_13.length + ([(x26 + x27).toUInt8, (shr32 (x26 + x27) 8).toUInt8, (shr32 (x26 + x27) 16).toUInt8, (shr32 (x26 + x27) 24).toUInt8] : List UInt8).length) 1 then
 some (.go ((t_68, (w64 (t_69 + (1 : Int))), ()), (first_8, (out_13 ++ ([(x26 + x27).toUInt8, (shr32 (x26 + x27) 8).toUInt8, (shr32 (x26 + x27) 16).toUInt8, (shr32 (x26 + x27) 24).toUInt8] : List UInt8)), ())))
 else none
 else none
 else none
 else
 some (.br ((()), (out_13, ())))
def chacha_Block_12 (N : Nat) (out_13 : (List UInt8)) : Option chacha_Block_R :=
 some ((true, ()), (out_13, ()))
def chacha_Block_10 (N : Nat) (t_68 : (List UInt32)) (t_69 : Int) (first_8 : (List UInt32)) (out_13 : (List UInt8)) : Option chacha_Block_R :=
 loopK N (fun y => chacha_Block_s11 N y.1.1 y.1.2.1 y.2.1 y.2.2.1) (fun (e : ((Unit) × ((List UInt8) × Unit))) => chacha_Block_12 N e.2.1) ((t_68, t_69, ()), (first_8, out_13, ()))
def chacha_Block_9 (N : Nat) (first_8 : (List UInt32)) (s_10 : (List UInt32)) : Option chacha_Block_R :=
 chacha_Block_10 N s_10 (0 : Int) first_8 ([] : List UInt8)
def chacha_Block_1 (N : Nat) (t_26 : Int) (first_8 : (List UInt32)) (s_10 : (List UInt32)) : Option chacha_Block_R :=
 loopK N (fun y => chacha_Block_s2 N y.1.1 y.2.1 y.2.2.1) (fun (e : ((Unit) × ((List UInt32) × (List UInt32) × Unit))) => chacha_Block_9 N e.2.1 e.2.2.1) ((t_26, ()), (first_8, s_10, ()))
def chacha_Block (N : Nat) (key_0 : (List UInt8)) (counter_1 : UInt32) (nonce_2 : (List UInt8)) : Option chacha_Block_R :=
 Option.bind (chacha_state N key_0 counter_1 nonce_2) fun y1 =>
 bif (!y1.1.2.1) then
 some ((false, ()), (([] : List UInt8), ()))
 else
 chacha_Block_1 N (0 : Int) y1.1.1 y1.1.1
def chacha_Block_C (N : Nat) : Ctx := ⟨94, G_tys, [(70, chacha_state_ctr N), (77, chacha_Quarter_ctr N)], G_globs, G_ifs⟩
def chacha_Block_S0 : Spec := ⟨[.ref 0 (.arr 16 .u32), .ref 1 (.arr 16 .u32), .val .i64, .val (.arr 8 (.arr 4 .i64)), .val .i64], [(.box 94 (.arr 16 .u32), .pos 0), (.box 94 (.arr 16 .u32), .pos 1)]⟩
def chacha_Block_S1 : Spec := ⟨[.ref 0 (.arr 16 .u32), .ref 1 (.arr 16 .u32), .val .i64], [(.box 94 (.arr 16 .u32), .pos 0), (.box 94 (.arr 16 .u32), .pos 1)]⟩
def chacha_Block_S2 : Spec := ⟨[.ref 0 (.arr 16 .u32), .row 1, .val (.arr 16 .u32), .val .i64], [(.box 94 (.arr 16 .u32), .pos 0), (.row 5 .u8, .pos 1)]⟩
def chacha_Block_S3 : Spec := ⟨[.row 0], [(.row 5 .u8, .pos 0)]⟩
def chacha_Block_S4 : Spec := ⟨[.ref 0 (.arr 16 .u32), .ref 1 (.arr 16 .u32)], [(.box 94 (.arr 16 .u32), .pos 0), (.box 94 (.arr 16 .u32), .pos 1)]⟩
def chacha_Block_S5 : Spec := ⟨[.val (.sl .u8), .val .u32, .val (.sl .u8)], []⟩
def chacha_Block_S6 : Spec := ⟨[.row 0, .val .bool], [(.row 5 .u8, .pos 0)]⟩
def chacha_Block_K (_N : Nat) : XE → GS → Option chacha_Block_R := retK 0 [6, 7] [false, false] chacha_Block_S6
def chacha_Block_L : List Code := (bodyOf (some Tryd.f71))
def chacha_Block_L2 : List Code := (loopOf (chacha_Block_L[6]?))
def chacha_Block_L4b : List Code := (blockOf (chacha_Block_L2[2]?))
def chacha_Block_L7 : List Code := (loopOf (chacha_Block_L4b[1]?))
def chacha_Block_L11 : List Code := (loopOf (chacha_Block_L[9]?))
def chacha_Block_K2 (N : Nat) : XE → GS → Option (Lo ((Int × Unit) × ((List UInt32) × (List UInt32) × Unit)) ((Unit) × ((List UInt32) × (List UInt32) × Unit)) chacha_Block_R) := roundK (some 0) (fit 0 [8, 10, 26] chacha_Block_S1) (fit 0 [8, 10] chacha_Block_S4) (chacha_Block_K N)
def chacha_Block_K11 (N : Nat) : XE → GS → Option (Lo (((List UInt32) × Int × Unit) × ((List UInt32) × (List UInt8) × Unit)) ((Unit) × ((List UInt8) × Unit)) chacha_Block_R) := roundK (some 4) (fit 0 [8, 13, 68, 69] chacha_Block_S2) (fit 0 [13] chacha_Block_S3) (chacha_Block_K N)
def chacha_Block_K4 (N : Nat) : XE → GS → Option (Lo ((Int × Unit) × ((List UInt32) × (List UInt32) × Unit)) ((Unit) × ((List UInt32) × (List UInt32) × Unit)) chacha_Block_R) := blockK 1 (goK 0 [8, 10, 26] chacha_Block_S1 (fun y => chacha_Block_8 N y.1.1 y.2.1 y.2.2.1)) (chacha_Block_K2 N)
def chacha_Block_K7 (N : Nat) : XE → GS → Option (Lo ((Int × (List (List Int)) × Int × Unit) × ((List UInt32) × (List UInt32) × Unit)) ((Int × Unit) × ((List UInt32) × (List UInt32) × Unit)) (Lo ((Int × Unit) × ((List UInt32) × (List UInt32) × Unit)) ((Unit) × ((List UInt32) × (List UInt32) × Unit)) chacha_Block_R)) := roundK (some 2) (fit 0 [8, 10, 26, 28, 29] chacha_Block_S0) (fit 0 [8, 10, 26] chacha_Block_S1) (chacha_Block_K4 N)
theorem chacha_Block_s7_b {E : Env} (N : Nat) (hb : Base Tryd.prog (chacha_Block_C N) E 0) : Blk Tryd.prog (chacha_Block_C N) E [8, 10, 26, 28, 29] chacha_Block_S0 (chacha_Block_L7.drop 0) (fun y => chacha_Block_s7 N y.1.1 y.1.2.1 y.1.2.2.1 y.2.1 y.2.2.1) (chacha_Block_K7 N) :=
 Blk.chunkAt hb 4 (X := (chacha_Block_K7 N .normal)) (NxOk.end (by kernel_rfl)) rfl (fun x => by kernel_rfl)
theorem chacha_Block_8_b {E : Env} (N : Nat) (hb : Base Tryd.prog (chacha_Block_C N) E 0) : Blk Tryd.prog (chacha_Block_C N) E [8, 10, 26] chacha_Block_S1 (chacha_Block_L2.drop 3) (fun y => chacha_Block_8 N y.1.1 y.2.1 y.2.2.1) (chacha_Block_K2 N) :=
 Blk.chunkAt hb 1 (X := (chacha_Block_K2 N .normal)) (NxOk.end (by kernel_rfl)) rfl (fun x => by kernel_rfl)
theorem chacha_Block_6_b {E : Env} (N : Nat) (hb : Base Tryd.prog (chacha_Block_C N) E 0) : Blk Tryd.prog (chacha_Block_C N) E [8, 10, 26, 28, 29] chacha_Block_S0 (chacha_Block_L4b.drop 1) (fun y => chacha_Block_6 N y.1.1 y.1.2.1 y.1.2.2.1 y.2.1 y.2.2.1) (chacha_Block_K4 N) :=
 Blk.loopAt (Nf := N) (hns := [8, 10, 26, 28, 29]) (ans := [8, 10, 26]) (hc := chacha_Block_S0) (ac := chacha_Block_S1) (bid := 2) (step := (fun y => chacha_Block_s7 N y.1.1 y.1.2.1 y.1.2.2.1 y.2.1 y.2.2.1)) (J := (fun e => (chacha_Block_K4 N .normal) (chacha_Block_S1.st [8, 10, 26] e))) hb (by kernel_rfl) (Blk.into (X := (chacha_Block_K4 N .normal)) (NxOk.end (by kernel_rfl)) (fun x => by kernel_rfl)) (chacha_Block_s7_b N hb) (fun x => by kernel_rfl)
theorem chacha_Block_5_b {E : Env} (N : Nat) (hb : Base Tryd.prog (chacha_Block_C N) E 0) : Blk Tryd.prog (chacha_Block_C N) E [8, 10, 26] chacha_Block_S1 (chacha_Block_L4b.drop 0) (fun y => chacha_Block_5 N y.1.1 y.2.1 y.2.2.1) (chacha_Block_K4 N) :=
 Blk.chunkAt hb 1 (X := (goK 0 [8, 10, 26, 28, 29] chacha_Block_S0 (fun y => chacha_Block_6 N y.1.1 y.1.2.1 y.1.2.2.1 y.2.1 y.2.2.1))) (NxOk.go hb (chacha_Block_6_b N hb)) rfl (fun x => by kernel_rfl)
theorem chacha_Block_3_b {E : Env} (N : Nat) (hb : Base Tryd.prog (chacha_Block_C N) E 0) : Blk Tryd.prog (chacha_Block_C N) E [8, 10, 26] chacha_Block_S1 (chacha_Block_L2.drop 2) (fun y => chacha_Block_3 N y.1.1 y.2.1 y.2.2.1) (chacha_Block_K2 N) :=
 Blk.blockAt (bid := 1) (X := (goK 0 [8, 10, 26] chacha_Block_S1 (fun y => chacha_Block_8 N y.1.1 y.2.1 y.2.2.1))) (Y := (goK 0 [8, 10, 26] chacha_Block_S1 (fun y => chacha_Block_5 N y.1.1 y.2.1 y.2.2.1))) (by kernel_rfl) (NxOk.go hb (chacha_Block_8_b N hb)) (NxOk.go hb (chacha_Block_5_b N hb)) (fun x => by kernel_rfl)
theorem chacha_Block_s2_b {E : Env} (N : Nat) (hb : Base Tryd.prog (chacha_Block_C N) E 0) : Blk Tryd.prog (chacha_Block_C N) E [8, 10, 26] chacha_Block_S1 (chacha_Block_L2.drop 0) (fun y => chacha_Block_s2 N y.1.1 y.2.1 y.2.2.1) (chacha_Block_K2 N) :=
 Blk.chunkAt hb 2 (X := (goK 0 [8, 10, 26] chacha_Block_S1 (fun y => chacha_Block_3 N y.1.1 y.2.1 y.2.2.1))) (NxOk.go hb (chacha_Block_3_b N hb)) rfl (fun x => by kernel_rfl)
theorem chacha_Block_s11_b {E : Env} (N : Nat) (hb : Base Tryd.prog (chacha_Block_C N) E 0) : Blk Tryd.prog (chacha_Block_C N) E [8, 13, 68, 69] chacha_Block_S2 (chacha_Block_L11.drop 0) (fun y => chacha_Block_s11 N y.1.1 y.1.2.1 y.2.1 y.2.2.1) (chacha_Block_K11 N) :=
 Blk.chunkAt hb 4 (X := (chacha_Block_K11 N .normal)) (NxOk.end (by kernel_rfl)) rfl (fun x => by kernel_rfl)
theorem chacha_Block_12_b {E : Env} (N : Nat) (hb : Base Tryd.prog (chacha_Block_C N) E 0) : Blk Tryd.prog (chacha_Block_C N) E [13] chacha_Block_S3 (chacha_Block_L.drop 10) (fun y => chacha_Block_12 N y.2.1) (chacha_Block_K N) :=
 Blk.chunkAt hb 2 (X := (chacha_Block_K N .normal)) (NxOk.end (by kernel_rfl)) rfl (fun x => by kernel_rfl)
theorem chacha_Block_10_b {E : Env} (N : Nat) (hb : Base Tryd.prog (chacha_Block_C N) E 0) : Blk Tryd.prog (chacha_Block_C N) E [8, 13, 68, 69] chacha_Block_S2 (chacha_Block_L.drop 9) (fun y => chacha_Block_10 N y.1.1 y.1.2.1 y.2.1 y.2.2.1) (chacha_Block_K N) :=
 Blk.loopAt (Nf := N) (hns := [8, 13, 68, 69]) (ans := [13]) (hc := chacha_Block_S2) (ac := chacha_Block_S3) (bid := 4) (step := (fun y => chacha_Block_s11 N y.1.1 y.1.2.1 y.2.1 y.2.2.1)) (J := (fun e => (goK 0 [13] chacha_Block_S3 (fun y => chacha_Block_12 N y.2.1)) (chacha_Block_S3.st [13] e))) hb (by kernel_rfl) (Blk.into (X := (goK 0 [13] chacha_Block_S3 (fun y => chacha_Block_12 N y.2.1))) (NxOk.go hb (chacha_Block_12_b N hb)) (fun x => by kernel_rfl)) (chacha_Block_s11_b N hb) (fun x => by kernel_rfl)
theorem chacha_Block_9_b {E : Env} (N : Nat) (hb : Base Tryd.prog (chacha_Block_C N) E 0) : Blk Tryd.prog (chacha_Block_C N) E [8, 10] chacha_Block_S4 (chacha_Block_L.drop 7) (fun y => chacha_Block_9 N y.2.1 y.2.2.1) (chacha_Block_K N) :=
 Blk.chunkAt hb 2 (X := (goK 0 [8, 13, 68, 69] chacha_Block_S2 (fun y => chacha_Block_10 N y.1.1 y.1.2.1 y.2.1 y.2.2.1))) (NxOk.go hb (chacha_Block_10_b N hb)) rfl (fun x => by kernel_rfl)
theorem chacha_Block_1_b {E : Env} (N : Nat) (hb : Base Tryd.prog (chacha_Block_C N) E 0) : Blk Tryd.prog (chacha_Block_C N) E [8, 10, 26] chacha_Block_S1 (chacha_Block_L.drop 6) (fun y => chacha_Block_1 N y.1.1 y.2.1 y.2.2.1) (chacha_Block_K N) :=
 Blk.loopAt (Nf := N) (hns := [8, 10, 26]) (ans := [8, 10]) (hc := chacha_Block_S1) (ac := chacha_Block_S4) (bid := 0) (step := (fun y => chacha_Block_s2 N y.1.1 y.2.1 y.2.2.1)) (J := (fun e => (goK 0 [8, 10] chacha_Block_S4 (fun y => chacha_Block_9 N y.2.1 y.2.2.1)) (chacha_Block_S4.st [8, 10] e))) hb (by kernel_rfl) (Blk.into (X := (goK 0 [8, 10] chacha_Block_S4 (fun y => chacha_Block_9 N y.2.1 y.2.2.1))) (NxOk.go hb (chacha_Block_9_b N hb)) (fun x => by kernel_rfl)) (chacha_Block_s2_b N hb) (fun x => by kernel_rfl)
theorem chacha_Block_b {E : Env} (N : Nat) (hb : Base Tryd.prog (chacha_Block_C N) E 0) : Blk Tryd.prog (chacha_Block_C N) E (List.range chacha_Block_S5.ks.length) chacha_Block_S5 (chacha_Block_L.drop 0) (fun y => chacha_Block N y.1.1 y.1.2.1 y.1.2.2.1) (chacha_Block_K N) :=
 Blk.chunkAt hb 6 (X := (goK 0 [8, 10, 26] chacha_Block_S1 (fun y => chacha_Block_1 N y.1.1 y.2.1 y.2.2.1))) (NxOk.go hb (chacha_Block_1_b N hb)) rfl (fun x => by kernel_rfl)
def chacha_Block_ctr (N : Nat) : Ctr := ⟨chacha_Block_S5, chacha_Block_S6.un [false, false], 0, (fun y => chacha_Block N y.1.1 y.1.2.1 y.1.2.2.1)⟩
theorem chacha_Block_ctrs (N : Nat) : CtrsOk Tryd.prog (chacha_Block_C N) := ctrs_of (Γ := chacha_Block_C N) G_ifs_ok (by
 intro p hp
 simp only [chacha_Block_C, List.mem_cons, List.not_mem_nil, or_false] at hp
 rcases hp with rfl | rfl
 · exact chacha_state_ok N
 · exact chacha_Quarter_ok N)
theorem chacha_Block_ok (N : Nat) : Ctr.ok Tryd.prog G_globs 71 (chacha_Block_ctr N) :=
 ctr_fn (Γ := chacha_Block_C N) (rfit := chacha_Block_S6) (bs := [false, false]) (res := [6, 7]) (by kernel_rfl) (tys_ok G_tys_ok) (chacha_Block_ctrs N) Tryd.func71 (by kernel_rfl) (by kernel_rfl) Tryd.ntmps71 (by kernel_rfl) (by kernel_rfl) (by kernel_rfl) (by kernel_rfl) (fun E hb => chacha_Block_b N hb)
/-! ipsecgate/chacha.Xor -/
abbrev chacha_Xor_R : Type := ((Bool × Unit) × ((List UInt8) × Unit))
def chacha_Xor_s2 (N : Nat) (key_0 : (List UInt8)) (counter_1 : UInt32) (nonce_2 : (List UInt8)) (t_25 : (List UInt8)) (t_26 : Int) (t_27 : Int) (out_12 : (List UInt8)) (mask_13 : (List UInt8)) : Option (Lo (((List UInt8) × UInt32 × (List UInt8) × (List UInt8) × Int × Int × Unit) × ((List UInt8) × (List UInt8) × Unit)) ((Unit) × ((List UInt8) × Unit)) chacha_Xor_R) :=
 bif (decide (t_27 < t_26)) then
 bif inR t_27 t_25.length then
 let x5 := t_25.getD t_27.toNat (0 : UInt8)
 bif (decide ((t_27.tmod (64 : Int)) = (0 : Int))) then
 Option.bind (chacha_Block N key_0 counter_1 nonce_2) fun y8 =>
 let x10 := t_27.tmod (64 : Int)
 bif inR x10 y8.2.1.length then
 let x11 := (y8.2.1.getD x10.toNat (0 : UInt8))
 bif room (out_12.length + ([(x5 ^^^ x11)] : List UInt8).length) 1 then
 some (.go ((key_0, (counter_1 + (1 : UInt32)), nonce_2, t_25, t_26, (w64 (t_27 + (1 : Int))), ()), ((out_12 ++ ([(x5 ^^^ x11)] : List UInt8)), y8.2.1, ())))
 else none
 else none
 else
 let x15 := t_27.tmod (64 : Int)
 bif inR x15 mask_13.length then
 let x16 := (mask_13.getD x15.toNat (0 : UInt8))
 bif room (out_12.length + ([(x5 ^^^ x16)] : List UInt8).length) 1 then
 some (.go ((key_0, counter_1, nonce_2, t_25, t_26, (w64 (t_27 + (1 : Int))), ()), ((out_12 ++ ([(x5 ^^^ x16)] : List UInt8)), mask_13, ())))
 else none
 else none
 else none
 else
 some (.br ((()), (out_12, ())))
def chacha_Xor_3 (N : Nat) (out_12 : (List UInt8)) : Option chacha_Xor_R :=
 some ((true, ()), (out_12, ()))
def chacha_Xor_1 (N : Nat) (key_0 : (List UInt8)) (counter_1 : UInt32) (nonce_2 : (List UInt8)) (t_25 : (List UInt8)) (t_26 : Int) (t_27 : Int) (out_12 : (List UInt8)) (mask_13 : (List UInt8)) : Option chacha_Xor_R :=
 loopK N (fun y => chacha_Xor_s2 N y.1.1 y.1.2.1 y.1.2.2.1 y.1.2.2.2.1 y.1.2.2.2.2.1 y.1.2.2.2.2.2.1 y.2.1 y.2.2.1) (fun (e : ((Unit) × ((List UInt8) × Unit))) => chacha_Xor_3 N e.2.1) ((key_0, counter_1, nonce_2, t_25, t_26, t_27, ()), (out_12, mask_13, ()))
def chacha_Xor (N : Nat) (key_0 : (List UInt8)) (counter_1 : UInt32) (nonce_2 : (List UInt8)) (b_3 : (List UInt8)) : Option chacha_Xor_R :=
 Option.bind (chacha_state N key_0 counter_1 nonce_2) fun y1 =>
 bif (!y1.1.2.1) then
 some ((false, ()), (([] : List UInt8), ()))
 else
 chacha_Xor_1 N key_0 counter_1 nonce_2 b_3 (b_3.length : Int) (0 : Int) ([] : List UInt8) ([] : List UInt8)
def chacha_Xor_C (N : Nat) : Ctx := ⟨56, G_tys, [(70, chacha_state_ctr N), (71, chacha_Block_ctr N)], G_globs, G_ifs⟩
def chacha_Xor_S0 : Spec := ⟨[.val (.sl .u8), .val .u32, .val (.sl .u8), .row 0, .row 1, .val (.sl .u8), .val .i64, .val .i64], [(.row 5 .u8, .pos 3), (.row 5 .u8, .pos 4)]⟩
def chacha_Xor_S1 : Spec := ⟨[.row 0], [(.row 5 .u8, .pos 0)]⟩
def chacha_Xor_S2 : Spec := ⟨[.val (.sl .u8), .val .u32, .val (.sl .u8), .val (.sl .u8)], []⟩
def chacha_Xor_S3 : Spec := ⟨[.row 0, .val .bool], [(.row 5 .u8, .pos 0)]⟩
def chacha_Xor_K (_N : Nat) : XE → GS → Option chacha_Xor_R := retK 0 [8, 9] [false, false] chacha_Xor_S3
def chacha_Xor_L : List Code := (bodyOf (some Tryd.f66))
def chacha_Xor_L2 : List Code := (loopOf (chacha_Xor_L[6]?))
def chacha_Xor_K2 (N : Nat) : XE → GS → Option (Lo (((List UInt8) × UInt32 × (List UInt8) × (List UInt8) × Int × Int × Unit) × ((List UInt8) × (List UInt8) × Unit)) ((Unit) × ((List UInt8) × Unit)) chacha_Xor_R) := roundK (some 0) (fit 0 [0, 1, 2, 12, 13, 25, 26, 27] chacha_Xor_S0) (fit 0 [12] chacha_Xor_S1) (chacha_Xor_K N)
theorem chacha_Xor_s2_b {E : Env} (N : Nat) (hb : Base Tryd.prog (chacha_Xor_C N) E 0) : Blk Tryd.prog (chacha_Xor_C N) E [0, 1, 2, 12, 13, 25, 26, 27] chacha_Xor_S0 (chacha_Xor_L2.drop 0) (fun y => chacha_Xor_s2 N y.1.1 y.1.2.1 y.1.2.2.1 y.1.2.2.2.1 y.1.2.2.2.2.1 y.1.2.2.2.2.2.1 y.2.1 y.2.2.1) (chacha_Xor_K2 N) :=
 Blk.chunkAt hb 4 (X := (chacha_Xor_K2 N .normal)) (NxOk.end (by kernel_rfl)) rfl (fun x => by kernel_rfl)
theorem chacha_Xor_3_b {E : Env} (N : Nat) (hb : Base Tryd.prog (chacha_Xor_C N) E 0) : Blk Tryd.prog (chacha_Xor_C N) E [12] chacha_Xor_S1 (chacha_Xor_L.drop 7) (fun y => chacha_Xor_3 N y.2.1) (chacha_Xor_K N) :=
 Blk.chunkAt hb 2 (X := (chacha_Xor_K N .normal)) (NxOk.end (by kernel_rfl)) rfl (fun x => by kernel_rfl)
theorem chacha_Xor_1_b {E : Env} (N : Nat) (hb : Base Tryd.prog (chacha_Xor_C N) E 0) : Blk Tryd.prog (chacha_Xor_C N) E [0, 1, 2, 12, 13, 25, 26, 27] chacha_Xor_S0 (chacha_Xor_L.drop 6) (fun y => chacha_Xor_1 N y.1.1 y.1.2.1 y.1.2.2.1 y.1.2.2.2.1 y.1.2.2.2.2.1 y.1.2.2.2.2.2.1 y.2.1 y.2.2.1) (chacha_Xor_K N) :=
 Blk.loopAt (Nf := N) (hns := [0, 1, 2, 12, 13, 25, 26, 27]) (ans := [12]) (hc := chacha_Xor_S0) (ac := chacha_Xor_S1) (bid := 0) (step := (fun y => chacha_Xor_s2 N y.1.1 y.1.2.1 y.1.2.2.1 y.1.2.2.2.1 y.1.2.2.2.2.1 y.1.2.2.2.2.2.1 y.2.1 y.2.2.1)) (J := (fun e => (goK 0 [12] chacha_Xor_S1 (fun y => chacha_Xor_3 N y.2.1)) (chacha_Xor_S1.st [12] e))) hb (by kernel_rfl) (Blk.into (X := (goK 0 [12] chacha_Xor_S1 (fun y => chacha_Xor_3 N y.2.1))) (NxOk.go hb (chacha_Xor_3_b N hb)) (fun x => by kernel_rfl)) (chacha_Xor_s2_b N hb) (fun x => by kernel_rfl)
theorem chacha_Xor_b {E : Env} (N : Nat) (hb : Base Tryd.prog (chacha_Xor_C N) E 0) : Blk Tryd.prog (chacha_Xor_C N) E (List.range chacha_Xor_S2.ks.length) chacha_Xor_S2 (chacha_Xor_L.drop 0) (fun y => chacha_Xor N y.1.1 y.1.2.1 y.1.2.2.1 y.1.2.2.2.1) (chacha_Xor_K N) :=
 Blk.chunkAt hb 6 (X := (goK 0 [0, 1, 2, 12, 13, 25, 26, 27] chacha_Xor_S0 (fun y => chacha_Xor_1 N y.1.1 y.1.2.1 y.1.2.2.1 y.1.2.2.2.1 y.1.2.2.2.2.1 y.1.2.2.2.2.2.1 y.2.1 y.2.2.1))) (NxOk.go hb (chacha_Xor_1_b N hb)) rfl (fun x => by kernel_rfl)
def chacha_Xor_ctr (N : Nat) : Ctr := ⟨chacha_Xor_S2, chacha_Xor_S3.un [false, false], 0, (fun y => chacha_Xor N y.1.1 y.1.2.1 y.1.2.2.1 y.1.2.2.2.1)⟩
theorem chacha_Xor_ctrs (N : Nat) : CtrsOk Tryd.prog (chacha_Xor_C N) := ctrs_of (Γ := chacha_Xor_C N) G_ifs_ok (by
 intro p hp
 simp only [chacha_Xor_C, List.mem_cons, List.not_mem_nil, or_false] at hp
 rcases hp with rfl | rfl
 · exact chacha_state_ok N
 · exact chacha_Block_ok N)
theorem chacha_Xor_ok (N : Nat) : Ctr.ok Tryd.prog G_globs 66 (chacha_Xor_ctr N) :=
 ctr_fn (Γ := chacha_Xor_C N) (rfit := chacha_Xor_S3) (bs := [false, false]) (res := [8, 9]) (by kernel_rfl) (tys_ok G_tys_ok) (chacha_Xor_ctrs N) Tryd.func66 (by kernel_rfl) (by kernel_rfl) Tryd.ntmps66 (by kernel_rfl) (by kernel_rfl) (by kernel_rfl) (by kernel_rfl) (fun E hb => chacha_Xor_b N hb)
/-! ipsecgate/aead.padded -/
abbrev aead_padded_R : Type := ((Unit) × ((List UInt8) × Unit))
def aead_padded (N : Nat) (b_1 : (List UInt8)) (l_0 : (List UInt8)) : Option aead_padded_R :=
 bif room (l_0.length + b_1.length) 1 then
 let x5 := (w64 ((16 : Int) - ((b_1.length : Int).tmod (16 : Int)))).tmod (16 : Int)
 bif decide (0 ≤ x5) then
 bif room ((l_0 ++ b_1).length + (List.replicate x5.toNat (0 : UInt8)).length) 1 then
 some ((()), (((l_0 ++ b_1) ++ (List.replicate x5.toNat (0 : UInt8))), ()))
 else none
 else none
 else none
def aead_padded_C (N : Nat) : Ctx := ⟨15, G_tys, [], G_globs, G_ifs⟩
def aead_padded_S0 : Spec := ⟨[.row 0, .val (.sl .u8)], [(.row 5 .u8, .pos 0)]⟩
def aead_padded_S1 : Spec := ⟨[.row 0], [(.row 5 .u8, .pos 0)]⟩
def aead_padded_K (_N : Nat) : XE → GS → Option aead_padded_R := retK 0 [4] [false] aead_padded_S1
def aead_padded_L : List Code := (bodyOf (some Tryd.f72))
theorem aead_padded_b {E : Env} (N : Nat) (hb : Base Tryd.prog (aead_padded_C N) E 0) : Blk Tryd.prog (aead_padded_C N) E (List.range aead_padded_S0.ks.length) aead_padded_S0 (aead_padded_L.drop 0) (fun y => aead_padded N y.1.1 y.2.1) (aead_padded_K N) :=
 Blk.chunkAt hb 4 (X := (aead_padded_K N .normal)) (NxOk.end (by kernel_rfl)) rfl (fun x => by kernel_rfl)
def aead_padded_ctr (N : Nat) : Ctr := ⟨aead_padded_S0, aead_padded_S1.un [false], 0, (fun y => aead_padded N y.1.1 y.2.1)⟩
theorem aead_padded_ctrs (N : Nat) : CtrsOk Tryd.prog (aead_padded_C N) := ctrs_nil G_ifs_ok rfl
theorem aead_padded_ok (N : Nat) : Ctr.ok Tryd.prog G_globs 72 (aead_padded_ctr N) :=
 ctr_fn (Γ := aead_padded_C N) (rfit := aead_padded_S1) (bs := [false]) (res := [4]) (by kernel_rfl) (tys_ok G_tys_ok) (aead_padded_ctrs N) Tryd.func72 (by kernel_rfl) (by kernel_rfl) Tryd.ntmps72 (by kernel_rfl) (by kernel_rfl) (by kernel_rfl) (by kernel_rfl) (fun E hb => aead_padded_b N hb)
/-! ipsecgate/aead.length -/
abbrev aead_length_R : Type := ((Unit) × ((List UInt8) × Unit))
def aead_length_s2 (N : Nat) (n_1 : Int) (t_6 : Int) (l_0 : (List UInt8)) : Option (Lo ((Int × Int × Unit) × ((List UInt8) × Unit)) ((Unit) × ((List UInt8) × Unit)) aead_length_R) :=
 bif (decide (t_6 < (8 : Int))) then
 let x3 := w64 ((8 : Int) * t_6)
 bif decide (0 ≤ x3) then
 let x4 := shr64 (iu64 n_1) x3.toNat
 bif room (l_0.length + ([x4.toUInt8] : List UInt8).length) 1 then
 some (.go ((n_1, (w64 (t_6 + (1 : Int))), ()), ((l_0 ++ ([x4.toUInt8] : List UInt8)), ())))
 else none
 else none
 else
 some (.br ((()), (l_0, ())))
def aead_length_3 (N : Nat) (l_0 : (List UInt8)) : Option aead_length_R :=
 some ((()), (l_0, ()))
def aead_length_1 (N : Nat) (n_1 : Int) (t_6 : Int) (l_0 : (List UInt8)) : Option aead_length_R :=
 loopK N (fun y => aead_length_s2 N y.1.1 y.1.2.1 y.2.1) (fun (e : ((Unit) × ((List UInt8) × Unit))) => aead_length_3 N e.2.1) ((n_1, t_6, ()), (l_0, ()))
def aead_length (N : Nat) (n_1 : Int) (l_0 : (List UInt8)) : Option aead_length_R :=
 aead_length_1 N n_1 (0 : Int) l_0
def aead_length_C (N : Nat) : Ctx := ⟨20, G_tys, [], G_globs, G_ifs⟩
def aead_length_S0 : Spec := ⟨[.row 0, .val .i64, .val .i64], [(.row 5 .u8, .pos 0)]⟩
def aead_length_S1 : Spec := ⟨[.row 0], [(.row 5 .u8, .pos 0)]⟩
def aead_length_S2 : Spec := ⟨[.row 0, .val .i64], [(.row 5 .u8, .pos 0)]⟩
def aead_length_K (_N : Nat) : XE → GS → Option aead_length_R := retK 0 [4] [false] aead_length_S1
def aead_length_L : List Code := (bodyOf (some Tryd.f74))
def aead_length_L2 : List Code := (loopOf (aead_length_L[2]?))
def aead_length_K2 (N : Nat) : XE → GS → Option (Lo ((Int × Int × Unit) × ((List UInt8) × Unit)) ((Unit) × ((List UInt8) × Unit)) aead_length_R) := roundK (some 0) (fit 0 [0, 1, 6] aead_length_S0) (fit 0 [0] aead_length_S1) (aead_length_K N)
theorem aead_length_s2_b {E : Env} (N : Nat) (hb : Base Tryd.prog (aead_length_C N) E 0) : Blk Tryd.prog (aead_length_C N) E [0, 1, 6] aead_length_S0 (aead_length_L2.drop 0) (fun y => aead_length_s2 N y.1.1 y.1.2.1 y.2.1) (aead_length_K2 N) :=
 Blk.chunkAt hb 4 (X := (aead_length_K2 N .normal)) (NxOk.end (by kernel_rfl)) rfl (fun x => by kernel_rfl)
theorem aead_length_3_b {E : Env} (N : Nat) (hb : Base Tryd.prog (aead_length_C N) E 0) : Blk Tryd.prog (aead_length_C N) E [0] aead_length_S1 (aead_length_L.drop 3) (fun y => aead_length_3 N y.2.1) (aead_length_K N) :=
 Blk.chunkAt hb 2 (X := (aead_length_K N .normal)) (NxOk.end (by kernel_rfl)) rfl (fun x => by kernel_rfl)
theorem aead_length_1_b {E : Env} (N : Nat) (hb : Base Tryd.prog (aead_length_C N) E 0) : Blk Tryd.prog (aead_length_C N) E [0, 1, 6] aead_length_S0 (aead_length_L.drop 2) (fun y => aead_length_1 N y.1.1 y.1.2.1 y.2.1) (aead_length_K N) :=
 Blk.loopAt (Nf := N) (hns := [0, 1, 6]) (ans := [0]) (hc := aead_length_S0) (ac := aead_length_S1) (bid := 0) (step := (fun y => aead_length_s2 N y.1.1 y.1.2.1 y.2.1)) (J := (fun e => (goK 0 [0] aead_length_S1 (fun y => aead_length_3 N y.2.1)) (aead_length_S1.st [0] e))) hb (by kernel_rfl) (Blk.into (X := (goK 0 [0] aead_length_S1 (fun y => aead_length_3 N y.2.1))) (NxOk.go hb (aead_length_3_b N hb)) (fun x => by kernel_rfl)) (aead_length_s2_b N hb) (fun x => by kernel_rfl)
theorem aead_length_b {E : Env} (N : Nat) (hb : Base Tryd.prog (aead_length_C N) E 0) : Blk Tryd.prog (aead_length_C N) E (List.range aead_length_S2.ks.length) aead_length_S2 (aead_length_L.drop 0) (fun y => aead_length N y.1.1 y.2.1) (aead_length_K N) :=
 Blk.chunkAt hb 2 (X := (goK 0 [0, 1, 6] aead_length_S0 (fun y => aead_length_1 N y.1.1 y.1.2.1 y.2.1))) (NxOk.go hb (aead_length_1_b N hb)) rfl (fun x => by kernel_rfl)
def aead_length_ctr (N : Nat) : Ctr := ⟨aead_length_S2, aead_length_S1.un [false], 0, (fun y => aead_length N y.1.1 y.2.1)⟩
theorem aead_length_ctrs (N : Nat) : CtrsOk Tryd.prog (aead_length_C N) := ctrs_nil G_ifs_ok rfl
theorem aead_length_ok (N : Nat) : Ctr.ok Tryd.prog G_globs 74 (aead_length_ctr N) :=
 ctr_fn (Γ := aead_length_C N) (rfit := aead_length_S1) (bs := [false]) (res := [4]) (by kernel_rfl) (tys_ok G_tys_ok) (aead_length_ctrs N) Tryd.func74 (by kernel_rfl) (by kernel_rfl) Tryd.ntmps74 (by kernel_rfl) (by kernel_rfl) (by kernel_rfl) (by kernel_rfl) (fun E hb => aead_length_b N hb)
/-! ipsecgate/poly1305.clamp -/
abbrev poly1305_clamp_R : Type := ((Unit) × ((List UInt8) × Unit))
def poly1305_clamp_s2 (N : Nat) (t_8 : Int) (t_9 : Int) (r_3 : (List UInt8)) : Option (Lo ((Int × Int × Unit) × ((List UInt8) × Unit)) ((Unit) × ((List UInt8) × Unit)) poly1305_clamp_R) :=
 bif (decide (t_9 < t_8)) then
 bif (decide ((t_9.tmod (4 : Int)) = (3 : Int))) then
 bif inR t_9 r_3.length then
 bif inR t_9 r_3.length then
 let x7 := (r_3.set t_9.toNat ((r_3.getD t_9.toNat (0 : UInt8)) &&& (15 : UInt8)))
 bif (decide ((t_9.tmod (4 : Int)) = (0 : Int))) then
 bif (decide ((0 : Int) < t_9)) then
 bif inR t_9 x7.length then
 bif inR t_9 x7.length then
 some (.go ((t_8, (w64 (t_9 + (1 : Int))), ()), ((x7.set t_9.toNat ((x7.getD t_9.toNat (0 : UInt8)) &&& (252 : UInt8))), ())))
 else none
 else none
 else
 some (.go ((t_8, (w64 (t_9 + (1 : Int))), ()), (x7, ())))
 else
 some (.go ((t_8, (w64 (t_9 + (1 : Int))), ()), (x7, ())))
 else none
 else none
 else
 bif (decide ((t_9.tmod (4 : Int)) = (0 : Int))) then
 bif (decide ((0 : Int) < t_9)) then
 bif inR t_9 r_3.length then
 bif inR t_9 r_3.length then
 some (.go ((t_8, (w64 (t_9 + (1 : Int))), ()), ((r_3.set t_9.toNat ((r_3.getD t_9.toNat (0 : UInt8)) &&& (252 : UInt8))), ())))
 else none
 else none
 else
 some (.go ((t_8, (w64 (t_9 + (1 : Int))), ()), (r_3, ())))
 else
 some (.go ((t_8, (w64 (t_9 + (1 : Int))), ()), (r_3, ())))
 else
 some (.br ((()), (r_3, ())))
def poly1305_clamp_3 (N : Nat) (r_3 : (List UInt8)) : Option poly1305_clamp_R :=
 some ((()), (r_3, ()))
def poly1305_clamp_1 (N : Nat) (t_8 : Int) (t_9 : Int) (r_3 : (List UInt8)) : Option poly1305_clamp_R :=
 loopK N (fun y => poly1305_clamp_s2 N y.1.1 y.1.2.1 y.2.1) (fun (e : ((Unit) × ((List UInt8) × Unit))) => poly1305_clamp_3 N e.2.1) ((t_8, t_9, ()), (r_3, ()))
def poly1305_clamp (N : Nat) (key_0 : (List UInt8)) : Option poly1305_clamp_R :=
 bif room (0 + key_0.length) 1 then
 poly1305_clamp_1 N (key_0.length : Int) (0 : Int) key_0
 else none
def poly1305_clamp_C (N : Nat) : Ctx := ⟨36, G_tys, [], G_globs, G_ifs⟩
def poly1305_clamp_S0 : Spec := ⟨[.row 0, .val .i64, .val .i64], [(.row 5 .u8, .pos 0)]⟩
def poly1305_clamp_S1 : Spec := ⟨[.row 0], [(.row 5 .u8, .pos 0)]⟩
def poly1305_clamp_S2 : Spec := ⟨[.val (.sl .u8)], []⟩
def poly1305_clamp_K (_N : Nat) : XE → GS → Option poly1305_clamp_R := retK 0 [2] [false] poly1305_clamp_S1
def poly1305_clamp_L : List Code := (bodyOf (some Tryd.f79))
def poly1305_clamp_L2 : List Code := (loopOf (poly1305_clamp_L[3]?))
def poly1305_clamp_K2 (N : Nat) : XE → GS → Option (Lo ((Int × Int × Unit) × ((List UInt8) × Unit)) ((Unit) × ((List UInt8) × Unit)) poly1305_clamp_R) := roundK (some 0) (fit 0 [3, 8, 9] poly1305_clamp_S0) (fit 0 [3] poly1305_clamp_S1) (poly1305_clamp_K N)
theorem poly1305_clamp_s2_b {E : Env} (N : Nat) (hb : Base Tryd.prog (poly1305_clamp_C N) E 0) : Blk Tryd.prog (poly1305_clamp_C N) E [3, 8, 9] poly1305_clamp_S0 (poly1305_clamp_L2.drop 0) (fun y => poly1305_clamp_s2 N y.1.1 y.1.2.1 y.2.1) (poly1305_clamp_K2 N) :=
 Blk.chunkAt hb 4 (X := (poly1305_clamp_K2 N .normal)) (NxOk.end (by kernel_rfl)) rfl (fun x => by kernel_rfl)
theorem poly1305_clamp_3_b {E : Env} (N : Nat) (hb : Base Tryd.prog (poly1305_clamp_C N) E 0) : Blk Tryd.prog (poly1305_clamp_C N) E [3] poly1305_clamp_S1 (poly1305_clamp_L.drop 4) (fun y => poly1305_clamp_3 N y.2.1) (poly1305_clamp_K N) :=
 Blk.chunkAt hb 2 (X := (poly1305_clamp_K N .normal)) (NxOk.end (by kernel_rfl)) rfl (fun x => by kernel_rfl)
theorem poly1305_clamp_1_b {E : Env} (N : Nat) (hb : Base Tryd.prog (poly1305_clamp_C N) E 0) : Blk Tryd.prog (poly1305_clamp_C N) E [3, 8, 9] poly1305_clamp_S0 (poly1305_clamp_L.drop 3) (fun y => poly1305_clamp_1 N y.1.1 y.1.2.1 y.2.1) (poly1305_clamp_K N) :=
 Blk.loopAt (Nf := N) (hns := [3, 8, 9]) (ans := [3]) (hc := poly1305_clamp_S0) (ac := poly1305_clamp_S1) (bid := 0) (step := (fun y => poly1305_clamp_s2 N y.1.1 y.1.2.1 y.2.1)) (J := (fun e => (goK 0 [3] poly1305_clamp_S1 (fun y => poly1305_clamp_3 N y.2.1)) (poly1305_clamp_S1.st [3] e))) hb (by kernel_rfl) (Blk.into (X := (goK 0 [3] poly1305_clamp_S1 (fun y => poly1305_clamp_3 N y.2.1))) (NxOk.go hb (poly1305_clamp_3_b N hb)) (fun x => by kernel_rfl)) (poly1305_clamp_s2_b N hb) (fun x => by kernel_rfl)
theorem poly1305_clamp_b {E : Env} (N : Nat) (hb : Base Tryd.prog (poly1305_clamp_C N) E 0) : Blk Tryd.prog (poly1305_clamp_C N) E (List.range poly1305_clamp_S2.ks.length) poly1305_clamp_S2 (poly1305_clamp_L.drop 0) (fun y => poly1305_clamp N y.1.1) (poly1305_clamp_K N) :=
 Blk.chunkAt hb 3 (X := (goK 0 [3, 8, 9] poly1305_clamp_S0 (fun y => poly1305_clamp_1 N y.1.1 y.1.2.1 y.2.1))) (NxOk.go hb (poly1305_clamp_1_b N hb)) rfl (fun x => by kernel_rfl)
def poly1305_clamp_ctr (N : Nat) : Ctr := ⟨poly1305_clamp_S2, poly1305_clamp_S1.un [false], 0, (fun y => poly1305_clamp N y.1.1)⟩
theorem poly1305_clamp_ctrs (N : Nat) : CtrsOk Tryd.prog (poly1305_clamp_C N) := ctrs_nil G_ifs_ok rfl
theorem poly1305_clamp_ok (N : Nat) : Ctr.ok Tryd.prog G_globs 79 (poly1305_clamp_ctr N) :=
 ctr_fn (Γ := poly1305_clamp_C N) (rfit := poly1305_clamp_S1) (bs := [false]) (res := [2]) (by kernel_rfl) (tys_ok G_tys_ok) (poly1305_clamp_ctrs N) Tryd.func79 (by kernel_rfl) (by kernel_rfl) Tryd.ntmps79 (by kernel_rfl) (by kernel_rfl) (by kernel_rfl) (by kernel_rfl) (fun E hb => poly1305_clamp_b N hb)
/-! ipsecgate/poly1305.number -/
abbrev poly1305_number_R : Type := (((List UInt64) × Unit) × (Unit))
def poly1305_number_s2 (N : Nat) (t_7 : (List UInt8)) (t_8 : Int) (t_9 : Int) (t_2 : (List UInt64)) (l_3 : (List UInt64)) : Option (Lo (((List UInt8) × Int × Int × Unit) × ((List UInt64) × (List UInt64) × Unit)) ((Unit) × ((List UInt64) × (List UInt64) × Unit)) poly1305_number_R) :=
 bif (decide (t_9 < t_8)) then
 bif inR t_9 t_7.length then
 let x3 := t_7.getD t_9.toNat (0 : UInt8)
 let x4 := w64 ((8 : Int) * t_9)
 let x5 := w64 (x4.tdiv (26 : Int))
 bif inR x5 5 then
 let x7 := x4.tmod (26 : Int)
 bif decide (0 ≤ x7) then
 bif inR x5 5 then
 let x11 := (l_3.set x5.toNat ((l_3.getD x5.toNat (0 : UInt64)) + ((shl64 x3.toUInt64 x7.toNat) &&& (67108863 : UInt64))))
 bif (decide ((18 : Int) < (x4.tmod (26 : Int)))) then
 bif (decide ((w64 (x4.tdiv (26 : Int))) < (4 : Int))) then
 let x17 := w64 ((w64 (x4.tdiv (26 : Int))) + (1 : Int))
 bif inR x17 5 then
 let x20 := w64 ((26 : Int) - (x4.tmod (26 : Int)))
 bif decide (0 ≤ x20) then
 bif inR x17 5 then
 some (.go ((t_7, t_8, (w64 (t_9 + (1 : Int))), ()), (t_2, (x11.set x17.toNat ((x11.getD x17.toNat (0 : UInt64)) + (shr64 x3.toUInt64 x20.toNat))), ())))
 else none
 else none
 else none
 else
 some (.go ((t_7, t_8, (w64 (t_9 + (1 : Int))), ()), (t_2, x11, ())))
 else
 some (.go ((t_7, t_8, (w64 (t_9 + (1 : Int))), ()), (t_2, x11, ())))
 else none
 else none
 else none
 else none
 else
 some (.br ((()), (t_2, l_3, ())))
def poly1305_number_3 (N : Nat) (t_2 : (List UInt64)) (l_3 : (List UInt64)) : Option poly1305_number_R :=
 some ((l_3, ()), (()))
def poly1305_number_1 (N : Nat) (t_7 : (List UInt8)) (t_8 : Int) (t_9 : Int) (t_2 : (List UInt64)) (l_3 : (List UInt64)) : Option poly1305_number_R :=
 loopK N (fun y => poly1305_number_s2 N y.1.1 y.1.2.1 y.1.2.2.1 y.2.1 y.2.2.1) (fun (e : ((Unit) × ((List UInt64) × (List UInt64) × Unit))) => poly1305_number_3 N e.2.1 e.2.2.1) ((t_7, t_8, t_9, ()), (t_2, l_3, ()))
def poly1305_number (N : Nat) (b_0 : (List UInt8)) : Option poly1305_number_R :=
 poly1305_number_1 N b_0 (b_0.length : Int) (0 : Int) (List.replicate 5 (0 : UInt64)) (List.replicate 5 (0 : UInt64))
def poly1305_number_C (N : Nat) : Ctx := ⟨51, G_tys, [], G_globs, G_ifs⟩
def poly1305_number_S0 : Spec := ⟨[.ref 0 (.arr 5 .u64), .ref 1 (.arr 5 .u64), .val (.sl .u8), .val .i64, .val .i64], [(.box 106 (.arr 5 .u64), .pos 0), (.box 106 (.arr 5 .u64), .pos 1)]⟩
def poly1305_number_S1 : Spec := ⟨[.ref 0 (.arr 5 .u64), .ref 1 (.arr 5 .u64)], [(.box 106 (.arr 5 .u64), .pos 0), (.box 106 (.arr 5 .u64), .pos 1)]⟩
def poly1305_number_S2 : Spec := ⟨[.val (.sl .u8)], []⟩
def poly1305_number_S3 : Spec := ⟨[.fp (.arr 5 .u64)], []⟩
def poly1305_number_K (_N : Nat) : XE → GS → Option poly1305_number_R := retK 0 [2] [true] poly1305_number_S3
def poly1305_number_L : List Code := (bodyOf (some Tryd.f78))
def poly1305_number_L2 : List Code := (loopOf (poly1305_number_L[3]?))
def poly1305_number_K2 (N : Nat) : XE → GS → Option (Lo (((List UInt8) × Int × Int × Unit) × ((List UInt64) × (List UInt64) × Unit)) ((Unit) × ((List UInt64) × (List UInt64) × Unit)) poly1305_number_R) := roundK (some 0) (fit 0 [2, 3, 7, 8, 9] poly1305_number_S0) (fit 0 [2, 3] poly1305_number_S1) (poly1305_number_K N)
theorem poly1305_number_s2_b {E : Env} (N : Nat) (hb : Base Tryd.prog (poly1305_number_C N) E 0) : Blk Tryd.prog (poly1305_number_C N) E [2, 3, 7, 8, 9] poly1305_number_S0 (poly1305_number_L2.drop 0) (fun y => poly1305_number_s2 N y.1.1 y.1.2.1 y.1.2.2.1 y.2.1 y.2.2.1) (poly1305_number_K2 N) :=
 Blk.chunkAt hb 4 (X := (poly1305_number_K2 N .normal)) (NxOk.end (by kernel_rfl)) rfl (fun x => by kernel_rfl)
theorem poly1305_number_3_b {E : Env} (N : Nat) (hb : Base Tryd.prog (poly1305_number_C N) E 0) : Blk Tryd.prog (poly1305_number_C N) E [2, 3] poly1305_number_S1 (poly1305_number_L.drop 4) (fun y => poly1305_number_3 N y.2.1 y.2.2.1) (poly1305_number_K N) :=
 Blk.chunkAt hb 2 (X := (poly1305_number_K N .normal)) (NxOk.end (by kernel_rfl)) rfl (fun x => by kernel_rfl)
theorem poly1305_number_1_b {E : Env} (N : Nat) (hb : Base Tryd.prog (poly1305_number_C N) E 0) : Blk Tryd.prog (poly1305_number_C N) E [2, 3, 7, 8, 9] poly1305_number_S0 (poly1305_number_L.drop 3) (fun y => poly1305_number_1 N y.1.1 y.1.2.1 y.1.2.2.1 y.2.1 y.2.2.1) (poly1305_number_K N) :=
 Blk.loopAt (Nf := N) (hns := [2, 3, 7, 8, 9]) (ans := [2, 3]) (hc := poly1305_number_S0) (ac := poly1305_number_S1) (bid := 0) (step := (fun y => poly1305_number_s2 N y.1.1 y.1.2.1 y.1.2.2.1 y.2.1 y.2.2.1)) (J := (fun e => (goK 0 [2, 3] poly1305_number_S1 (fun y => poly1305_number_3 N y.2.1 y.2.2.1)) (poly1305_number_S1.st [2, 3] e))) hb (by kernel_rfl) (Blk.into (X := (goK 0 [2, 3] poly1305_number_S1 (fun y => poly1305_number_3 N y.2.1 y.2.2.1))) (NxOk.go hb (poly1305_number_3_b N hb)) (fun x => by kernel_rfl)) (poly1305_number_s2_b N hb) (fun x => by kernel_rfl)
theorem poly1305_number_b {E : Env} (N : Nat) (hb : Base Tryd.prog (poly1305_number_C N) E 0) : Blk Tryd.prog (poly1305_number_C N) E (List.range poly1305_number_S2.ks.length) poly1305_number_S2 (poly1305_number_L.drop 0) (fun y => poly1305_number N y.1.1) (poly1305_number_K N) :=
 Blk.chunkAt hb 3 (X := (goK 0 [2, 3, 7, 8, 9] poly1305_number_S0 (fun y => poly1305_number_1 N y.1.1 y.1.2.1 y.1.2.2.1 y.2.1 y.2.2.1))) (NxOk.go hb (poly1305_number_1_b N hb)) rfl (fun x => by kernel_rfl)
def poly1305_number_ctr (N : Nat) : Ctr := ⟨poly1305_number_S2, poly1305_number_S3.un [true], 0, (fun y => poly1305_number N y.1.1)⟩
theorem poly1305_number_ctrs (N : Nat) : CtrsOk Tryd.prog (poly1305_number_C N) := ctrs_nil G_ifs_ok rfl
theorem poly1305_number_ok (N : Nat) : Ctr.ok Tryd.prog G_globs 78 (poly1305_number_ctr N) :=
 ctr_fn (Γ := poly1305_number_C N) (rfit := poly1305_number_S3) (bs := [true]) (res := [2]) (by kernel_rfl) (tys_ok G_tys_ok) (poly1305_number_ctrs N) Tryd.func78 (by kernel_rfl) (by kernel_rfl) Tryd.ntmps78 (by kernel_rfl) (by kernel_rfl) (by kernel_rfl) (by kernel_rfl) (fun E hb => poly1305_number_b N hb)
/-! (ipsecgate/poly1305.limbs).carry -/
abbrev poly1305_limbs_carry_R : Type := (((List UInt64) × Unit) × (Unit))
def poly1305_limbs_carry_s7 (N : Nat) (c_3 : UInt64) (t_5 : Int) (t_7 : Int) (a_1 : (List UInt64)) (t_2 : (List UInt64)) : Option (Lo ((UInt64 × Int × Int × Unit) × ((List UInt64) × (List UInt64) × Unit)) ((UInt64 × Int × Unit) × ((List UInt64) × (List UInt64) × Unit)) (Lo ((Int × Unit) × ((List UInt64) × (List UInt64) × Unit)) ((Unit) × ((List UInt64) × (List UInt64) × Unit)) poly1305_limbs_carry_R)) :=
 bif (decide (t_7 < (5 : Int))) then
 bif inR t_7 5 then
 bif inR t_7 5 then
 let x5 := (a_1.set t_7.toNat ((a_1.getD t_7.toNat (0 : UInt64)) + c_3))
 bif inR t_7 5 then
 bif inR t_7 5 then
 bif inR t_7 5 then
 some (.go (((shr64 (x5.getD t_7.toNat (0 : UInt64)) 26), t_5, (w64 (t_7 + (1 : Int))), ()), ((x5.set t_7.toNat ((x5.getD t_7.toNat (0 : UInt64)) &&& (67108863 : UInt64))), t_2, ())))
 else none
 else none
 else none
 else none
 else none
 else
 some (.br ((c_3, t_5, ()), (a_1, t_2, ())))
def poly1305_limbs_carry_9 (N : Nat) (t_5 : Int) (a_1 : (List UInt64)) (t_2 : (List UInt64)) : Option (Lo ((Int × Unit) × ((List UInt64) × (List UInt64) × Unit)) ((Unit) × ((List UInt64) × (List UInt64) × Unit)) poly1305_limbs_carry_R) :=
 some (.go (((w64 (t_5 + (1 : Int))), ()), (a_1, t_2, ())))
def poly1305_limbs_carry_8 (N : Nat) (c_3 : UInt64) (t_5 : Int) (a_1 : (List UInt64)) (t_2 : (List UInt64)) : Option (Lo ((Int × Unit) × ((List UInt64) × (List UInt64) × Unit)) ((Unit) × ((List UInt64) × (List UInt64) × Unit)) poly1305_limbs_carry_R) :=
 poly1305_limbs_carry_9 N t_5 (a_1.set 0 ((a_1.getD 0 (0 : UInt64)) + ((5 : UInt64) * c_3))) t_2
def poly1305_limbs_carry_6 (N : Nat) (c_3 : UInt64) (t_5 : Int) (t_7 : Int) (a_1 : (List UInt64)) (t_2 : (List UInt64)) : Option (Lo ((Int × Unit) × ((List UInt64) × (List UInt64) × Unit)) ((Unit) × ((List UInt64) × (List UInt64) × Unit)) poly1305_limbs_carry_R) :=
 loopK N (fun y => poly1305_limbs_carry_s7 N y.1.1 y.1.2.1 y.1.2.2.1 y.2.1 y.2.2.1) (fun (e : ((UInt64 × Int × Unit) × ((List UInt64) × (List UInt64) × Unit))) => poly1305_limbs_carry_8 N e.1.1 e.1.2.1 e.2.1 e.2.2.1) ((c_3, t_5, t_7, ()), (a_1, t_2, ()))
def poly1305_limbs_carry_5 (N : Nat) (t_5 : Int) (a_1 : (List UInt64)) (t_2 : (List UInt64)) : Option (Lo ((Int × Unit) × ((List UInt64) × (List UInt64) × Unit)) ((Unit) × ((List UInt64) × (List UInt64) × Unit)) poly1305_limbs_carry_R) :=
 poly1305_limbs_carry_6 N (0 : UInt64) t_5 (0 : Int) a_1 t_2
def poly1305_limbs_carry_3 (N : Nat) (t_5 : Int) (a_1 : (List UInt64)) (t_2 : (List UInt64)) : Option (Lo ((Int × Unit) × ((List UInt64) × (List UInt64) × Unit)) ((Unit) × ((List UInt64) × (List UInt64) × Unit)) poly1305_limbs_carry_R) :=
 poly1305_limbs_carry_5 N t_5 a_1 t_2
def poly1305_limbs_carry_s2 (N : Nat) (t_5 : Int) (a_1 : (List UInt64)) (t_2 : (List UInt64)) : Option (Lo ((Int × Unit) × ((List UInt64) × (List UInt64) × Unit)) ((Unit) × ((List UInt64) × (List UInt64) × Unit)) poly1305_limbs_carry_R) :=
 bif (decide (t_5 < (2 : Int))) then
 poly1305_limbs_carry_3 N t_5 a_1 t_2
 else
 some (.br ((()), (a_1, t_2, ())))
def poly1305_limbs_carry_10 (N : Nat) (a_1 : (List UInt64)) (t_2 : (List UInt64)) : Option poly1305_limbs_carry_R :=
 some ((a_1, ()), (()))
def poly1305_limbs_carry_1 (N : Nat) (t_5 : Int) (a_1 : (List UInt64)) (t_2 : (List UInt64)) : Option poly1305_limbs_carry_R :=
 loopK N (fun y => poly1305_limbs_carry_s2 N y.1.1 y.2.1 y.2.2.1) (fun (e : ((Unit) × ((List UInt64) × (List UInt64) × Unit))) => poly1305_limbs_carry_10 N e.2.1 e.2.2.1) ((t_5, ()), (a_1, t_2, ()))
def poly1305_limbs_carry (N : Nat) (a_0 : (List UInt64)) : Option poly1305_limbs_carry_R :=
 poly1305_limbs_carry_1 N (0 : Int) a_0 (List.replicate 5 (0 : UInt64))
def poly1305_limbs_carry_C (N : Nat) : Ctx := ⟨34, G_tys, [], G_globs, G_ifs⟩
def poly1305_limbs_carry_S0 : Spec := ⟨[.ref 0 (.arr 5 .u64), .ref 1 (.arr 5 .u64), .val .u64, .val .i64, .val .i64], [(.box 106 (.arr 5 .u64), .pos 0), (.box 106 (.arr 5 .u64), .pos 1)]⟩
def poly1305_limbs_carry_S1 : Spec := ⟨[.ref 0 (.arr 5 .u64), .ref 1 (.arr 5 .u64), .val .i64], [(.box 106 (.arr 5 .u64), .pos 0), (.box 106 (.arr 5 .u64), .pos 1)]⟩
def poly1305_limbs_carry_S2 : Spec := ⟨[.ref 0 (.arr 5 .u64), .ref 1 (.arr 5 .u64), .val .u64, .val .i64], [(.box 106 (.arr 5 .u64), .pos 0), (.box 106 (.arr 5 .u64), .pos 1)]⟩
def poly1305_limbs_carry_S3 : Spec := ⟨[.ref 0 (.arr 5 .u64), .ref 1 (.arr 5 .u64)], [(.box 106 (.arr 5 .u64), .pos 0), (.box 106 (.arr 5 .u64), .pos 1)]⟩
def poly1305_limbs_carry_S4 : Spec := ⟨[.val (.arr 5 .u64)], []⟩
def poly1305_limbs_carry_S5 : Spec := ⟨[.fp (.arr 5 .u64)], []⟩
def poly1305_limbs_carry_K (_N : Nat) : XE → GS → Option poly1305_limbs_carry_R := retK 0 [2] [true] poly1305_limbs_carry_S5
def poly1305_limbs_carry_L : List Code := (bodyOf (some Tryd.f85))
def poly1305_limbs_carry_L2 : List Code := (loopOf (poly1305_limbs_carry_L[2]?))
def poly1305_limbs_carry_L4b : List Code := (blockOf (poly1305_limbs_carry_L2[2]?))
def poly1305_limbs_carry_L7 : List Code := (loopOf (poly1305_limbs_carry_L4b[2]?))
def poly1305_limbs_carry_K2 (N : Nat) : XE → GS → Option (Lo ((Int × Unit) × ((List UInt64) × (List UInt64) × Unit)) ((Unit) × ((List UInt64) × (List UInt64) × Unit)) poly1305_limbs_carry_R) := roundK (some 0) (fit 0 [1, 2, 5] poly1305_limbs_carry_S1) (fit 0 [1, 2] poly1305_limbs_carry_S3) (poly1305_limbs_carry_K N)
def poly1305_limbs_carry_K4 (N : Nat) : XE → GS → Option (Lo ((Int × Unit) × ((List UInt64) × (List UInt64) × Unit)) ((Unit) × ((List UInt64) × (List UInt64) × Unit)) poly1305_limbs_carry_R) := blockK 1 (goK 0 [1, 2, 5] poly1305_limbs_carry_S1 (fun y => poly1305_limbs_carry_9 N y.1.1 y.2.1 y.2.2.1)) (poly1305_limbs_carry_K2 N)
def poly1305_limbs_carry_K7 (N : Nat) : XE → GS → Option (Lo ((UInt64 × Int × Int × Unit) × ((List UInt64) × (List UInt64) × Unit)) ((UInt64 × Int × Unit) × ((List UInt64) × (List UInt64) × Unit)) (Lo ((Int × Unit) × ((List UInt64) × (List UInt64) × Unit)) ((Unit) × ((List UInt64) × (List UInt64) × Unit)) poly1305_limbs_carry_R)) := roundK (some 2) (fit 0 [1, 2, 3, 5, 7] poly1305_limbs_carry_S0) (fit 0 [1, 2, 3, 5] poly1305_limbs_carry_S2) (poly1305_limbs_carry_K4 N)
theorem poly1305_limbs_carry_s7_b {E : Env} (N : Nat) (hb : Base Tryd.prog (poly1305_limbs_carry_C N) E 0) : Blk Tryd.prog (poly1305_limbs_carry_C N) E [1, 2, 3, 5, 7] poly1305_limbs_carry_S0 (poly1305_limbs_carry_L7.drop 0) (fun y => poly1305_limbs_carry_s7 N y.1.1 y.1.2.1 y.1.2.2.1 y.2.1 y.2.2.1) (poly1305_limbs_carry_K7 N) :=
 Blk.chunkAt hb 4 (X := (poly1305_limbs_carry_K7 N .normal)) (NxOk.end (by kernel_rfl)) rfl (fun x => by kernel_rfl)
theorem poly1305_limbs_carry_9_b {E : Env} (N : Nat) (hb : Base Tryd.prog (poly1305_limbs_carry_C N) E 0) : Blk Tryd.prog (poly1305_limbs_carry_C N) E [1, 2, 5] poly1305_limbs_carry_S1 (poly1305_limbs_carry_L2.drop 3) (fun y => poly1305_limbs_carry_9 N y.1.1 y.2.1 y.2.2.1) (poly1305_limbs_carry_K2 N) :=
 Blk.chunkAt hb 1 (X := (poly1305_limbs_carry_K2 N .normal)) (NxOk.end (by kernel_rfl)) rfl (fun x => by kernel_rfl)
theorem poly1305_limbs_carry_8_b {E : Env} (N : Nat) (hb : Base Tryd.prog (poly1305_limbs_carry_C N) E 0) : Blk Tryd.prog (poly1305_limbs_carry_C N) E [1, 2, 3, 5] poly1305_limbs_carry_S2 (poly1305_limbs_carry_L4b.drop 3) (fun y => poly1305_limbs_carry_8 N y.1.1 y.1.2.1 y.2.1 y.2.2.1) (poly1305_limbs_carry_K4 N) :=
 Blk.chunkAt hb 1 (X := (poly1305_limbs_carry_K4 N .normal)) (NxOk.end (by kernel_rfl)) rfl (fun x => by kernel_rfl)
theorem poly1305_limbs_carry_6_b {E : Env} (N : Nat) (hb : Base Tryd.prog (poly1305_limbs_carry_C N) E 0) : Blk Tryd.prog (poly1305_limbs_carry_C N) E [1, 2, 3, 5, 7] poly1305_limbs_carry_S0 (poly1305_limbs_carry_L4b.drop 2) (fun y => poly1305_limbs_carry_6 N y.1.1 y.1.2.1 y.1.2.2.1 y.2.1 y.2.2.1) (poly1305_limbs_carry_K4 N) :=
 Blk.loopAt (Nf := N) (hns := [1, 2, 3, 5, 7]) (ans := [1, 2, 3, 5]) (hc := poly1305_limbs_carry_S0) (ac := poly1305_limbs_carry_S2) (bid := 2) (step := (fun y => poly1305_limbs_carry_s7 N y.1.1 y.1.2.1 y.1.2.2.1 y.2.1 y.2.2.1)) (J := (fun e => (goK 0 [1, 2, 3, 5] poly1305_limbs_carry_S2 (fun y => poly1305_limbs_carry_8 N y.1.1 y.1.2.1 y.2.1 y.2.2.1)) (poly1305_limbs_carry_S2.st [1, 2, 3, 5] e))) hb (by kernel_rfl) (Blk.into (X := (goK 0 [1, 2, 3, 5] poly1305_limbs_carry_S2 (fun y => poly1305_limbs_carry_8 N y.1.1 y.1.2.1 y.2.1 y.2.2.1))) (NxOk.go hb (poly1305_limbs_carry_8_b N hb)) (fun x => by kernel_rfl)) (poly1305_limbs_carry_s7_b N hb) (fun x => by kernel_rfl)
theorem poly1305_limbs_carry_5_b {E : Env} (N : Nat) (hb : Base Tryd.prog (poly1305_limbs_carry_C N) E 0) : Blk Tryd.prog (poly1305_limbs_carry_C N) E [1, 2, 5] poly1305_limbs_carry_S1 (poly1305_limbs_carry_L4b.drop 0) (fun y => poly1305_limbs_carry_5 N y.1.1 y.2.1 y.2.2.1) (poly1305_limbs_carry_K4 N) :=
 Blk.chunkAt hb 2 (X := (goK 0 [1, 2, 3, 5, 7] poly1305_limbs_carry_S0 (fun y => poly1305_limbs_carry_6 N y.1.1 y.1.2.1 y.1.2.2.1 y.2.1 y.2.2.1))) (NxOk.go hb (poly1305_limbs_carry_6_b N hb)) rfl (fun x => by kernel_rfl)
theorem poly1305_limbs_carry_3_b {E : Env} (N : Nat) (hb : Base Tryd.prog (poly1305_limbs_carry_C N) E 0) : Blk Tryd.prog (poly1305_limbs_carry_C N) E [1, 2, 5] poly1305_limbs_carry_S1 (poly1305_limbs_carry_L2.drop 2) (fun y => poly1305_limbs_carry_3 N y.1.1 y.2.1 y.2.2.1) (poly1305_limbs_carry_K2 N) :=
 Blk.blockAt (bid := 1) (X := (goK 0 [1, 2, 5] poly1305_limbs_carry_S1 (fun y => poly1305_limbs_carry_9 N y.1.1 y.2.1 y.2.2.1))) (Y := (goK 0 [1, 2, 5] poly1305_limbs_carry_S1 (fun y => poly1305_limbs_carry_5 N y.1.1 y.2.1 y.2.2.1))) (by kernel_rfl) (NxOk.go hb (poly1305_limbs_carry_9_b N hb)) (NxOk.go hb (poly1305_limbs_carry_5_b N hb)) (fun x => by kernel_rfl)
theorem poly1305_limbs_carry_s2_b {E : Env} (N : Nat) (hb : Base Tryd.prog (poly1305_limbs_carry_C N) E 0) : Blk Tryd.prog (poly1305_limbs_carry_C N) E [1, 2, 5] poly1305_limbs_carry_S1 (poly1305_limbs_carry_L2.drop 0) (fun y => poly1305_limbs_carry_s2 N y.1.1 y.2.1 y.2.2.1) (poly1305_limbs_carry_K2 N) :=
 Blk.chunkAt hb 2 (X := (goK 0 [1, 2, 5] poly1305_limbs_carry_S1 (fun y => poly1305_limbs_carry_3 N y.1.1 y.2.1 y.2.2.1))) (NxOk.go hb (poly1305_limbs_carry_3_b N hb)) rfl (fun x => by kernel_rfl)
theorem poly1305_limbs_carry_10_b {E : Env} (N : Nat) (hb : Base Tryd.prog (poly1305_limbs_carry_C N) E 0) : Blk Tryd.prog (poly1305_limbs_carry_C N) E [1, 2] poly1305_limbs_carry_S3 (poly1305_limbs_carry_L.drop 3) (fun y => poly1305_limbs_carry_10 N y.2.1 y.2.2.1) (poly1305_limbs_carry_K N) :=
 Blk.chunkAt hb 2 (X := (poly1305_limbs_carry_K N .normal)) (NxOk.end (by kernel_rfl)) rfl (fun x => by kernel_rfl)
theorem poly1305_limbs_carry_1_b {E : Env} (N : Nat) (hb : Base Tryd.prog (poly1305_limbs_carry_C N) E 0) : Blk Tryd.prog (poly1305_limbs_carry_C N) E [1, 2, 5] poly1305_limbs_carry_S1 (poly1305_limbs_carry_L.drop 2) (fun y => poly1305_limbs_carry_1 N y.1.1 y.2.1 y.2.2.1) (poly1305_limbs_carry_K N) :=
 Blk.loopAt (Nf := N) (hns := [1, 2, 5]) (ans := [1, 2]) (hc := poly1305_limbs_carry_S1) (ac := poly1305_limbs_carry_S3) (bid := 0) (step := (fun y => poly1305_limbs_carry_s2 N y.1.1 y.2.1 y.2.2.1)) (J := (fun e => (goK 0 [1, 2] poly1305_limbs_carry_S3 (fun y => poly1305_limbs_carry_10 N y.2.1 y.2.2.1)) (poly1305_limbs_carry_S3.st [1, 2] e))) hb (by kernel_rfl) (Blk.into (X := (goK 0 [1, 2] poly1305_limbs_carry_S3 (fun y => poly1305_limbs_carry_10 N y.2.1 y.2.2.1))) (NxOk.go hb (poly1305_limbs_carry_10_b N hb)) (fun x => by kernel_rfl)) (poly1305_limbs_carry_s2_b N hb) (fun x => by kernel_rfl)
theorem poly1305_limbs_carry_b {E : Env} (N : Nat) (hb : Base Tryd.prog (poly1305_limbs_carry_C N) E 0) : Blk Tryd.prog (poly1305_limbs_carry_C N) E (List.range poly1305_limbs_carry_S4.ks.length) poly1305_limbs_carry_S4 (poly1305_limbs_carry_L.drop 0) (fun y => poly1305_limbs_carry N y.1.1) (poly1305_limbs_carry_K N) :=
 Blk.chunkAt hb 2 (X := (goK 0 [1, 2, 5] poly1305_limbs_carry_S1 (fun y => poly1305_limbs_carry_1 N y.1.1 y.2.1 y.2.2.1))) (NxOk.go hb (poly1305_limbs_carry_1_b N hb)) rfl (fun x => by kernel_rfl)
def poly1305_limbs_carry_ctr (N : Nat) : Ctr := ⟨poly1305_limbs_carry_S4, poly1305_limbs_carry_S5.un [true], 0, (fun y => poly1305_limbs_carry N y.1.1)⟩
theorem poly1305_limbs_carry_ctrs (N : Nat) : CtrsOk Tryd.prog (poly1305_limbs_carry_C N) := ctrs_nil G_ifs_ok rfl
theorem poly1305_limbs_carry_ok (N : Nat) : Ctr.ok Tryd.prog G_globs 85 (poly1305_limbs_carry_ctr N) :=
 ctr_fn (Γ := poly1305_limbs_carry_C N) (rfit := poly1305_limbs_carry_S5) (bs := [true]) (res := [2]) (by kernel_rfl) (tys_ok G_tys_ok) (poly1305_limbs_carry_ctrs N) Tryd.func85 (by kernel_rfl) (by kernel_rfl) Tryd.ntmps85 (by kernel_rfl) (by kernel_rfl) (by kernel_rfl) (by kernel_rfl) (fun E hb => poly1305_limbs_carry_b N hb)
/-! (ipsecgate/poly1305.limbs).add -/
abbrev poly1305_limbs_add_R : Type := (((List UInt64) × Unit) × (Unit))
def poly1305_limbs_add_s2 (N : Nat) (t_6 : Int) (a_2 : (List UInt64)) (b_3 : (List UInt64)) (t_4 : (List UInt64)) : Option (Lo ((Int × Unit) × ((List UInt64) × (List UInt64) × (List UInt64) × Unit)) ((Unit) × ((List UInt64) × (List UInt64) × Unit)) poly1305_limbs_add_R) :=
 bif (decide (t_6 < (5 : Int))) then
 bif inR t_6 5 then
 bif inR t_6 5 then
 bif inR t_6 5 then
 some (.go (((w64 (t_6 + (1 : Int))), ()), ((a_2.set t_6.toNat ((a_2.getD t_6.toNat (0 : UInt64)) + (b_3.getD t_6.toNat (0 : UInt64)))), b_3, t_4, ())))
 else none
 else none
 else none
 else
 some (.br ((()), (a_2, t_4, ())))
def poly1305_limbs_add_3 (N : Nat) (a_2 : (List UInt64)) (t_4 : (List UInt64)) : Option poly1305_limbs_add_R :=
 Option.bind (poly1305_limbs_carry N a_2) fun y7 =>
 some ((y7.1.1, ()), (()))
def poly1305_limbs_add_1 (N : Nat) (t_6 : Int) (a_2 : (List UInt64)) (b_3 : (List UInt64)) (t_4 : (List UInt64)) : Option poly1305_limbs_add_R :=
 loopK N (fun y => poly1305_limbs_add_s2 N y.1.1 y.2.1 y.2.2.1 y.2.2.2.1) (fun (e : ((Unit) × ((List UInt64) × (List UInt64) × Unit))) => poly1305_limbs_add_3 N e.2.1 e.2.2.1) ((t_6, ()), (a_2, b_3, t_4, ()))
def poly1305_limbs_add (N : Nat) (a_0 : (List UInt64)) (b_1 : (List UInt64)) : Option poly1305_limbs_add_R :=
 poly1305_limbs_add_1 N (0 : Int) a_0 b_1 (List.replicate 5 (0 : UInt64))
def poly1305_limbs_add_C (N : Nat) : Ctx := ⟨20, G_tys, [(85, poly1305_limbs_carry_ctr N)], G_globs, G_ifs⟩
def poly1305_limbs_add_S0 : Spec := ⟨[.ref 0 (.arr 5 .u64), .ref 1 (.arr 5 .u64), .ref 2 (.arr 5 .u64), .val .i64], [(.box 106 (.arr 5 .u64), .pos 0), (.box 106 (.arr 5 .u64), .pos 1), (.box 106 (.arr 5 .u64), .pos 2)]⟩
def poly1305_limbs_add_S1 : Spec := ⟨[.ref 0 (.arr 5 .u64), .ref 1 (.arr 5 .u64)], [(.box 106 (.arr 5 .u64), .pos 0), (.box 106 (.arr 5 .u64), .pos 1)]⟩
def poly1305_limbs_add_S2 : Spec := ⟨[.val (.arr 5 .u64), .val (.arr 5 .u64)], []⟩
def poly1305_limbs_add_S3 : Spec := ⟨[.fp (.arr 5 .u64)], []⟩
def poly1305_limbs_add_K (_N : Nat) : XE → GS → Option poly1305_limbs_add_R := retK 0 [4] [true] poly1305_limbs_add_S3
def poly1305_limbs_add_L : List Code := (bodyOf (some Tryd.f80))
def poly1305_limbs_add_L2 : List Code := (loopOf (poly1305_limbs_add_L[2]?))
def poly1305_limbs_add_K2 (N : Nat) : XE → GS → Option (Lo ((Int × Unit) × ((List UInt64) × (List UInt64) × (List UInt64) × Unit)) ((Unit) × ((List UInt64) × (List UInt64) × Unit)) poly1305_limbs_add_R) := roundK (some 0) (fit 0 [2, 3, 4, 6] poly1305_limbs_add_S0) (fit 0 [2, 4] poly1305_limbs_add_S1) (poly1305_limbs_add_K N)
theorem poly1305_limbs_add_s2_b {E : Env} (N : Nat) (hb : Base Tryd.prog (poly1305_limbs_add_C N) E 0) : Blk Tryd.prog (poly1305_limbs_add_C N) E [2, 3, 4, 6] poly1305_limbs_add_S0 (poly1305_limbs_add_L2.drop 0) (fun y => poly1305_limbs_add_s2 N y.1.1 y.2.1 y.2.2.1 y.2.2.2.1) (poly1305_limbs_add_K2 N) :=
 Blk.chunkAt hb 4 (X := (poly1305_limbs_add_K2 N .normal)) (NxOk.end (by kernel_rfl)) rfl (fun x => by kernel_rfl)
theorem poly1305_limbs_add_3_b {E : Env} (N : Nat) (hb : Base Tryd.prog (poly1305_limbs_add_C N) E 0) : Blk Tryd.prog (poly1305_limbs_add_C N) E [2, 4] poly1305_limbs_add_S1 (poly1305_limbs_add_L.drop 3) (fun y => poly1305_limbs_add_3 N y.2.1 y.2.2.1) (poly1305_limbs_add_K N) :=
 Blk.chunkAt hb 2 (X := (poly1305_limbs_add_K N .normal)) (NxOk.end (by kernel_rfl)) rfl (fun x => by kernel_rfl)
theorem poly1305_limbs_add_1_b {E : Env} (N : Nat) (hb : Base Tryd.prog (poly1305_limbs_add_C N) E 0) : Blk Tryd.prog (poly1305_limbs_add_C N) E [2, 3, 4, 6] poly1305_limbs_add_S0 (poly1305_limbs_add_L.drop 2) (fun y => poly1305_limbs_add_1 N y.1.1 y.2.1 y.2.2.1 y.2.2.2.1) (poly1305_limbs_add_K N) :=
 Blk.loopAt (Nf := N) (hns := [2, 3, 4, 6]) (ans := [2, 4]) (hc := poly1305_limbs_add_S0) (ac := poly1305_limbs_add_S1) (bid := 0) (step := (fun y => poly1305_limbs_add_s2 N y.1.1 y.2.1 y.2.2.1 y.2.2.2.1)) (J := (fun e => (goK 0 [2, 4] poly1305_limbs_add_S1 (fun y => poly1305_limbs_add_3 N y.2.1 y.2.2.1)) (poly1305_limbs_add_S1.st [2, 4] e))) hb (by kernel_rfl) (Blk.into (X := (goK 0 [2, 4] poly1305_limbs_add_S1 (fun y => poly1305_limbs_add_3 N y.2.1 y.2.2.1))) (NxOk.go hb (poly1305_limbs_add_3_b N hb)) (fun x => by kernel_rfl)) (poly1305_limbs_add_s2_b N hb) (fun x => by kernel_rfl)
theorem poly1305_limbs_add_b {E : Env} (N : Nat) (hb : Base Tryd.prog (poly1305_limbs_add_C N) E 0) : Blk Tryd.prog (poly1305_limbs_add_C N) E (List.range poly1305_limbs_add_S2.ks.length) poly1305_limbs_add_S2 (poly1305_limbs_add_L.drop 0) (fun y => poly1305_limbs_add N y.1.1 y.1.2.1) (poly1305_limbs_add_K N) :=
 Blk.chunkAt hb 2 (X := (goK 0 [2, 3, 4, 6] poly1305_limbs_add_S0 (fun y => poly1305_limbs_add_1 N y.1.1 y.2.1 y.2.2.1 y.2.2.2.1))) (NxOk.go hb (poly1305_limbs_add_1_b N hb)) rfl (fun x => by kernel_rfl)
def poly1305_limbs_add_ctr (N : Nat) : Ctr := ⟨poly1305_limbs_add_S2, poly1305_limbs_add_S3.un [true], 0, (fun y => poly1305_limbs_add N y.1.1 y.1.2.1)⟩
theorem poly1305_limbs_add_ctrs (N : Nat) : CtrsOk Tryd.prog (poly1305_limbs_add_C N) := ctrs_of (Γ := poly1305_limbs_add_C N) G_ifs_ok (by
 intro p hp
 simp only [poly1305_limbs_add_C, List.mem_cons, List.not_mem_nil, or_false] at hp
 rcases hp with rfl
 · exact poly1305_limbs_carry_ok N)
theorem poly1305_limbs_add_ok (N : Nat) : Ctr.ok Tryd.prog G_globs 80 (poly1305_limbs_add_ctr N) :=
 ctr_fn (Γ := poly1305_limbs_add_C N) (rfit := poly1305_limbs_add_S3) (bs := [true]) (res := [4]) (by kernel_rfl) (tys_ok G_tys_ok) (poly1305_limbs_add_ctrs N) Tryd.func80 (by kernel_rfl) (by kernel_rfl) Tryd.ntmps80 (by kernel_rfl) (by kernel_rfl) (by kernel_rfl) (by kernel_rfl) (fun E hb => poly1305_limbs_add_b N hb)
/-! (ipsecgate/poly1305.limbs).mul -/
abbrev poly1305_limbs_mul_R : Type := (((List UInt64) × Unit) × (Unit))
def poly1305_limbs_mul_s7 (N : Nat) (i_6 : Int) (t_9 : Int) (t_12 : Int) (a_2 : (List UInt64)) (b_3 : (List UInt64)) (t_4 : (List UInt64)) (out_5 : (List UInt64)) : Option (Lo ((Int × Int × Int × Unit) × ((List UInt64) × (List UInt64) × (List UInt64) × (List UInt64) × Unit)) ((Int × Unit) × ((List UInt64) × (List UInt64) × (List UInt64) × (List UInt64) × Unit)) (Lo ((Int × Unit) × ((List UInt64) × (List UInt64) × (List UInt64) × (List UInt64) × Unit)) ((Unit) × ((List UInt64) × (List UInt64) × Unit)) poly1305_limbs_mul_R)) :=
 bif (decide (t_12 < (5 : Int))) then
 bif inR i_6 5 then
 let x3 := (a_2.getD i_6.toNat (0 : UInt64))
 bif inR t_12 5 then
 let x4 := (b_3.getD t_12.toNat (0 : UInt64))
 bif (decide ((5 : Int) ≤ (w64 (i_6 + t_12)))) then
 let x10 := (w64 (i_6 + t_12)).tmod (5 : Int)
 bif inR x10 5 then
 bif inR x10 5 then
 some (.go ((i_6, t_9, (w64 (t_12 + (1 : Int))), ()), (a_2, b_3, t_4, (out_5.set x10.toNat ((out_5.getD x10.toNat (0 : UInt64)) + ((x3 * x4) * (5 : UInt64)))), ())))
 else none
 else none
 else
 let x16 := (w64 (i_6 + t_12)).tmod (5 : Int)
 bif inR x16 5 then
 bif inR x16 5 then
 some (.go ((i_6, t_9, (w64 (t_12 + (1 : Int))), ()), (a_2, b_3, t_4, (out_5.set x16.toNat ((out_5.getD x16.toNat (0 : UInt64)) + (x3 * x4))), ())))
 else none
 else none
 else none
 else none
 else
 some (.br ((t_9, ()), (a_2, b_3, t_4, out_5, ())))
def poly1305_limbs_mul_8 (N : Nat) (t_9 : Int) (a_2 : (List UInt64)) (b_3 : (List UInt64)) (t_4 : (List UInt64)) (out_5 : (List UInt64)) : Option (Lo ((Int × Unit) × ((List UInt64) × (List UInt64) × (List UInt64) × (List UInt64) × Unit)) ((Unit) × ((List UInt64) × (List UInt64) × Unit)) poly1305_limbs_mul_R) :=
 some (.go (((w64 (t_9 + (1 : Int))), ()), (a_2, b_3, t_4, out_5, ())))
def poly1305_limbs_mul_6 (N : Nat) (i_6 : Int) (t_9 : Int) (t_12 : Int) (a_2 : (List UInt64)) (b_3 : (List UInt64)) (t_4 : (List UInt64)) (out_5 : (List UInt64)) : Option (Lo ((Int × Unit) × ((List UInt64) × (List UInt64) × (List UInt64) × (List UInt64) × Unit)) ((Unit) × ((List UInt64) × (List UInt64) × Unit)) poly1305_limbs_mul_R) :=
 loopK N (fun y => poly1305_limbs_mul_s7 N y.1.1 y.1.2.1 y.1.2.2.1 y.2.1 y.2.2.1 y.2.2.2.1 y.2.2.2.2.1) (fun (e : ((Int × Unit) × ((List UInt64) × (List UInt64) × (List UInt64) × (List UInt64) × Unit))) => poly1305_limbs_mul_8 N e.1.1 e.2.1 e.2.2.1 e.2.2.2.1 e.2.2.2.2.1) ((i_6, t_9, t_12, ()), (a_2, b_3, t_4, out_5, ()))
def poly1305_limbs_mul_5 (N : Nat) (t_9 : Int) (a_2 : (List UInt64)) (b_3 : (List UInt64)) (t_4 : (List UInt64)) (out_5 : (List UInt64)) : Option (Lo ((Int × Unit) × ((List UInt64) × (List UInt64) × (List UInt64) × (List UInt64) × Unit)) ((Unit) × ((List UInt64) × (List UInt64) × Unit)) poly1305_limbs_mul_R) :=
 poly1305_limbs_mul_6 N t_9 t_9 (0 : Int) a_2 b_3 t_4 out_5
def poly1305_limbs_mul_3 (N : Nat) (t_9 : Int) (a_2 : (List UInt64)) (b_3 : (List UInt64)) (t_4 : (List UInt64)) (out_5 : (List UInt64)) : Option (Lo ((Int × Unit) × ((List UInt64) × (List UInt64) × (List UInt64) × (List UInt64) × Unit)) ((Unit) × ((List UInt64) × (List UInt64) × Unit)) poly1305_limbs_mul_R) :=
 poly1305_limbs_mul_5 N t_9 a_2 b_3 t_4 out_5
def poly1305_limbs_mul_s2 (N : Nat) (t_9 : Int) (a_2 : (List UInt64)) (b_3 : (List UInt64)) (t_4 : (List UInt64)) (out_5 : (List UInt64)) : Option (Lo ((Int × Unit) × ((List UInt64) × (List UInt64) × (List UInt64) × (List UInt64) × Unit)) ((Unit) × ((List UInt64) × (List UInt64) × Unit)) poly1305_limbs_mul_R) :=
 bif (decide (t_9 < (5 : Int))) then
 poly1305_limbs_mul_3 N t_9 a_2 b_3 t_4 out_5
 else
 some (.br ((()), (t_4, out_5, ())))
def poly1305_limbs_mul_9 (N : Nat) (t_4 : (List UInt64)) (out_5 : (List UInt64)) : Option poly1305_limbs_mul_R :=
 Option.bind (poly1305_limbs_carry N out_5) fun y22 =>
 some ((y22.1.1, ()), (()))
def poly1305_limbs_mul_1 (N : Nat) (t_9 : Int) (a_2 : (List UInt64)) (b_3 : (List UInt64)) (t_4 : (List UInt64)) (out_5 : (List UInt64)) : Option poly1305_limbs_mul_R :=
 loopK N (fun y => poly1305_limbs_mul_s2 N y.1.1 y.2.1 y.2.2.1 y.2.2.2.1 y.2.2.2.2.1) (fun (e : ((Unit) × ((List UInt64) × (List UInt64) × Unit))) => poly1305_limbs_mul_9 N e.2.1 e.2.2.1) ((t_9, ()), (a_2, b_3, t_4, out_5, ()))
def poly1305_limbs_mul (N : Nat) (a_0 : (List UInt64)) (b_1 : (List UInt64)) : Option poly1305_limbs_mul_R :=
 poly1305_limbs_mul_1 N (0 : Int) a_0 b_1 (List.replicate 5 (0 : UInt64)) (List.replicate 5 (0 : UInt64))
def poly1305_limbs_mul_C (N : Nat) : Ctx := ⟨41, G_tys, [(85, poly1305_limbs_carry_ctr N)], G_globs, G_ifs⟩
def poly1305_limbs_mul_S0 : Spec := ⟨[.ref 0 (.arr 5 .u64), .ref 1 (.arr 5 .u64), .ref 2 (.arr 5 .u64), .ref 3 (.arr 5 .u64), .val .i64, .val .i64, .val .i64], [(.box 106 (.arr 5 .u64), .pos 0), (.box 106 (.arr 5 .u64), .pos 1), (.box 106 (.arr 5 .u64), .pos 2), (.box 106 (.arr 5 .u64), .pos 3)]⟩
def poly1305_limbs_mul_S1 : Spec := ⟨[.ref 0 (.arr 5 .u64), .ref 1 (.arr 5 .u64), .ref 2 (.arr 5 .u64), .ref 3 (.arr 5 .u64), .val .i64], [(.box 106 (.arr 5 .u64), .pos 0), (.box 106 (.arr 5 .u64), .pos 1), (.box 106 (.arr 5 .u64), .pos 2), (.box 106 (.arr 5 .u64), .pos 3)]⟩
def poly1305_limbs_mul_S2 : Spec := ⟨[.ref 0 (.arr 5 .u64), .ref 1 (.arr 5 .u64)], [(.box 106 (.arr 5 .u64), .pos 0), (.box 106 (.arr 5 .u64), .pos 1)]⟩
def poly1305_limbs_mul_S3 : Spec := ⟨[.val (.arr 5 .u64), .val (.arr 5 .u64)], []⟩
def poly1305_limbs_mul_S4 : Spec := ⟨[.fp (.arr 5 .u64)], []⟩
def poly1305_limbs_mul_K (_N : Nat) : XE → GS → Option poly1305_limbs_mul_R := retK 0 [4] [true] poly1305_limbs_mul_S4
def poly1305_limbs_mul_L : List Code := (bodyOf (some Tryd.f81))
def poly1305_limbs_mul_L2 : List Code := (loopOf (poly1305_limbs_mul_L[3]?))
def poly1305_limbs_mul_L4b : List Code := (blockOf (poly1305_limbs_mul_L2[2]?))
def poly1305_limbs_mul_L7 : List Code := (loopOf (poly1305_limbs_mul_L4b[2]?))
def poly1305_limbs_mul_K2 (N : Nat) : XE → GS → Option (Lo ((Int × Unit) × ((List UInt64) × (List UInt64) × (List UInt64) × (List UInt64) × Unit)) ((Unit) × ((List UInt64) × (List UInt64) × Unit)) poly1305_limbs_mul_R) := roundK (some 0) (fit 0 [2, 3, 4, 5, 9] poly1305_limbs_mul_S1) (fit 0 [4, 5] poly1305_limbs_mul_S2) (poly1305_limbs_mul_K N)
def poly1305_limbs_mul_K4 (N : Nat) : XE → GS → Option (Lo ((Int × Unit) × ((List UInt64) × (List UInt64) × (List UInt64) × (List UInt64) × Unit)) ((Unit) × ((List UInt64) × (List UInt64) × Unit)) poly1305_limbs_mul_R) := blockK 1 (goK 0 [2, 3, 4, 5, 9] poly1305_limbs_mul_S1 (fun y => poly1305_limbs_mul_8 N y.1.1 y.2.1 y.2.2.1 y.2.2.2.1 y.2.2.2.2.1)) (poly1305_limbs_mul_K2 N)
def poly1305_limbs_mul_K7 (N : Nat) : XE → GS → Option (Lo ((Int × Int × Int × Unit) × ((List UInt64) × (List UInt64) × (List UInt64) × (List UInt64) × Unit)) ((Int × Unit) × ((List UInt64) × (List UInt64) × (List UInt64) × (List UInt64) × Unit)) (Lo ((Int × Unit) × ((List UInt64) × (List UInt64) × (List UInt64) × (List UInt64) × Unit)) ((Unit) × ((List UInt64) × (List UInt64) × Unit)) poly1305_limbs_mul_R)) := roundK (some 2) (fit 0 [2, 3, 4, 5, 6, 9, 12] poly1305_limbs_mul_S0) (fit 0 [2, 3, 4, 5, 9] poly1305_limbs_mul_S1) (poly1305_limbs_mul_K4 N)
theorem poly1305_limbs_mul_s7_b {E : Env} (N : Nat) (hb : Base Tryd.prog (poly1305_limbs_mul_C N) E 0) : Blk Tryd.prog (poly1305_limbs_mul_C N) E [2, 3, 4, 5, 6, 9, 12] poly1305_limbs_mul_S0 (poly1305_limbs_mul_L7.drop 0) (fun y => poly1305_limbs_mul_s7 N y.1.1 y.1.2.1 y.1.2.2.1 y.2.1 y.2.2.1 y.2.2.2.1 y.2.2.2.2.1) (poly1305_limbs_mul_K7 N) :=
 Blk.chunkAt hb 4 (X := (poly1305_limbs_mul_K7 N .normal)) (NxOk.end (by kernel_rfl)) rfl (fun x => by kernel_rfl)
theorem poly1305_limbs_mul_8_b {E : Env} (N : Nat) (hb : Base Tryd.prog (poly1305_limbs_mul_C N) E 0) : Blk Tryd.prog (poly1305_limbs_mul_C N) E [2, 3, 4, 5, 9] poly1305_limbs_mul_S1 (poly1305_limbs_mul_L2.drop 3) (fun y => poly1305_limbs_mul_8 N y.1.1 y.2.1 y.2.2.1 y.2.2.2.1 y.2.2.2.2.1) (poly1305_limbs_mul_K2 N) :=
 Blk.chunkAt hb 1 (X := (poly1305_limbs_mul_K2 N .normal)) (NxOk.end (by kernel_rfl)) rfl (fun x => by kernel_rfl)
theorem poly1305_limbs_mul_6_b {E : Env} (N : Nat) (hb : Base Tryd.prog (poly1305_limbs_mul_C N) E 0) : Blk Tryd.prog (poly1305_limbs_mul_C N) E [2, 3, 4, 5, 6, 9, 12] poly1305_limbs_mul_S0 (poly1305_limbs_mul_L4b.drop 2) (fun y => poly1305_limbs_mul_6 N y.1.1 y.1.2.1 y.1.2.2.1 y.2.1 y.2.2.1 y.2.2.2.1 y.2.2.2.2.1) (poly1305_limbs_mul_K4 N) :=
 Blk.loopAt (Nf := N) (hns := [2, 3, 4, 5, 6, 9, 12]) (ans := [2, 3, 4, 5, 9]) (hc := poly1305_limbs_mul_S0) (ac := poly1305_limbs_mul_S1) (bid := 2) (step := (fun y => poly1305_limbs_mul_s7 N y.1.1 y.1.2.1 y.1.2.2.1 y.2.1 y.2.2.1 y.2.2.2.1 y.2.2.2.2.1)) (J := (fun e => (poly1305_limbs_mul_K4 N .normal) (poly1305_limbs_mul_S1.st [2, 3, 4, 5, 9] e))) hb (by kernel_rfl) (Blk.into (X := (poly1305_limbs_mul_K4 N .normal)) (NxOk.end (by kernel_rfl)) (fun x => by kernel_rfl)) (poly1305_limbs_mul_s7_b N hb) (fun x => by kernel_rfl)
theorem poly1305_limbs_mul_5_b {E : Env} (N : Nat) (hb : Base Tryd.prog (poly1305_limbs_mul_C N) E 0) : Blk Tryd.prog (poly1305_limbs_mul_C N) E [2, 3, 4, 5, 9] poly1305_limbs_mul_S1 (poly1305_limbs_mul_L4b.drop 0) (fun y => poly1305_limbs_mul_5 N y.1.1 y.2.1 y.2.2.1 y.2.2.2.1 y.2.2.2.2.1) (poly1305_limbs_mul_K4 N) :=
 Blk.chunkAt hb 2 (X := (goK 0 [2, 3, 4, 5, 6, 9, 12] poly1305_limbs_mul_S0 (fun y => poly1305_limbs_mul_6 N y.1.1 y.1.2.1 y.1.2.2.1 y.2.1 y.2.2.1 y.2.2.2.1 y.2.2.2.2.1))) (NxOk.go hb (poly1305_limbs_mul_6_b N hb)) rfl (fun x => by kernel_rfl)
theorem poly1305_limbs_mul_3_b {E : Env} (N : Nat) (hb : Base Tryd.prog (poly1305_limbs_mul_C N) E 0) : Blk Tryd.prog (poly1305_limbs_mul_C N) E [2, 3, 4, 5, 9] poly1305_limbs_mul_S1 (poly1305_limbs_mul_L2.drop 2) (fun y => poly1305_limbs_mul_3 N y.1.1 y.2.1 y.2.2.1 y.2.2.2.1 y.2.2.2.2.1) (poly1305_limbs_mul_K2 N) :=
 Blk.blockAt (bid := 1) (X := (goK 0 [2, 3, 4, 5, 9] poly1305_limbs_mul_S1 (fun y => poly1305_limbs_mul_8 N y.1.1 y.2.1 y.2.2.1 y.2.2.2.1 y.2.2.2.2.1))) (Y := (goK 0 [2, 3, 4, 5, 9] poly1305_limbs_mul_S1 (fun y => poly1305_limbs_mul_5 N y.1.1 y.2.1 y.2.2.1 y.2.2.2.1 y.2.2.2.2.1))) (by kernel_rfl) (NxOk.go hb (poly1305_limbs_mul_8_b N hb)) (NxOk.go hb (poly1305_limbs_mul_5_b N hb)) (fun x => by kernel_rfl)
theorem poly1305_limbs_mul_s2_b {E : Env} (N : Nat) (hb : Base Tryd.prog (poly1305_limbs_mul_C N) E 0) : Blk Tryd.prog (poly1305_limbs_mul_C N) E [2, 3, 4, 5, 9] poly1305_limbs_mul_S1 (poly1305_limbs_mul_L2.drop 0) (fun y => poly1305_limbs_mul_s2 N y.1.1 y.2.1 y.2.2.1 y.2.2.2.1 y.2.2.2.2.1) (poly1305_limbs_mul_K2 N) :=
 Blk.chunkAt hb 2 (X := (goK 0 [2, 3, 4, 5, 9] poly1305_limbs_mul_S1 (fun y => poly1305_limbs_mul_3 N y.1.1 y.2.1 y.2.2.1 y.2.2.2.1 y.2.2.2.2.1))) (NxOk.go hb (poly1305_limbs_mul_3_b N hb)) rfl (fun x => by kernel_rfl)
theorem poly1305_limbs_mul_9_b {E : Env} (N : Nat) (hb : Base Tryd.prog (poly1305_limbs_mul_C N) E 0) : Blk Tryd.prog (poly1305_limbs_mul_C N) E [4, 5] poly1305_limbs_mul_S2 (poly1305_limbs_mul_L.drop 4) (fun y => poly1305_limbs_mul_9 N y.2.1 y.2.2.1) (poly1305_limbs_mul_K N) :=
 Blk.chunkAt hb 2 (X := (poly1305_limbs_mul_K N .normal)) (NxOk.end (by kernel_rfl)) rfl (fun x => by kernel_rfl)
theorem poly1305_limbs_mul_1_b {E : Env} (N : Nat) (hb : Base Tryd.prog (poly1305_limbs_mul_C N) E 0) : Blk Tryd.prog (poly1305_limbs_mul_C N) E [2, 3, 4, 5, 9] poly1305_limbs_mul_S1 (poly1305_limbs_mul_L.drop 3) (fun y => poly1305_limbs_mul_1 N y.1.1 y.2.1 y.2.2.1 y.2.2.2.1 y.2.2.2.2.1) (poly1305_limbs_mul_K N) :=
 Blk.loopAt (Nf := N) (hns := [2, 3, 4, 5, 9]) (ans := [4, 5]) (hc := poly1305_limbs_mul_S1) (ac := poly1305_limbs_mul_S2) (bid := 0) (step := (fun y => poly1305_limbs_mul_s2 N y.1.1 y.2.1 y.2.2.1 y.2.2.2.1 y.2.2.2.2.1)) (J := (fun e => (goK 0 [4, 5] poly1305_limbs_mul_S2 (fun y => poly1305_limbs_mul_9 N y.2.1 y.2.2.1)) (poly1305_limbs_mul_S2.st [4, 5] e))) hb (by kernel_rfl) (Blk.into (X := (goK 0 [4, 5] poly1305_limbs_mul_S2 (fun y => poly1305_limbs_mul_9 N y.2.1 y.2.2.1))) (NxOk.go hb (poly1305_limbs_mul_9_b N hb)) (fun x => by kernel_rfl)) (poly1305_limbs_mul_s2_b N hb) (fun x => by kernel_rfl)
theorem poly1305_limbs_mul_b {E : Env} (N : Nat) (hb : Base Tryd.prog (poly1305_limbs_mul_C N) E 0) : Blk Tryd.prog (poly1305_limbs_mul_C N) E (List.range poly1305_limbs_mul_S3.ks.length) poly1305_limbs_mul_S3 (poly1305_limbs_mul_L.drop 0) (fun y => poly1305_limbs_mul N y.1.1 y.1.2.1) (poly1305_limbs_mul_K N) :=
 Blk.chunkAt hb 3 (X := (goK 0 [2, 3, 4, 5, 9] poly1305_limbs_mul_S1 (fun y => poly1305_limbs_mul_1 N y.1.1 y.2.1 y.2.2.1 y.2.2.2.1 y.2.2.2.2.1))) (NxOk.go hb (poly1305_limbs_mul_1_b N hb)) rfl (fun x => by kernel_rfl)
def poly1305_limbs_mul_ctr (N : Nat) : Ctr := ⟨poly1305_limbs_mul_S3, poly1305_limbs_mul_S4.un [true], 0, (fun y => poly1305_limbs_mul N y.1.1 y.1.2.1)⟩
theorem poly1305_limbs_mul_ctrs (N : Nat) : CtrsOk Tryd.prog (poly1305_limbs_mul_C N) := ctrs_of (Γ := poly1305_limbs_mul_C N) G_ifs_ok (by
 intro p hp
 simp only [poly1305_limbs_mul_C, List.mem_cons, List.not_mem_nil, or_false] at hp
 rcases hp with rfl
 · exact poly1305_limbs_carry_ok N)
theorem poly1305_limbs_mul_ok (N : Nat) : Ctr.ok Tryd.prog G_globs 81 (poly1305_limbs_mul_ctr N) :=
 ctr_fn (Γ := poly1305_limbs_mul_C N) (rfit := poly1305_limbs_mul_S4) (bs := [true]) (res := [4]) (by kernel_rfl) (tys_ok G_tys_ok) (poly1305_limbs_mul_ctrs N) Tryd.func81 (by kernel_rfl) (by kernel_rfl) Tryd.ntmps81 (by kernel_rfl) (by kernel_rfl) (by kernel_rfl) (by kernel_rfl) (fun E hb => poly1305_limbs_mul_b N hb)
/-! (ipsecgate/poly1305.limbs).reduced -/
abbrev poly1305_limbs_reduced_R : Type := (((List UInt64) × Unit) × (Unit))
def poly1305_limbs_reduced_s2 (N : Nat) (t_13 : Int) (a_1 : (List UInt64)) (t_2 : (List UInt64)) (b_3 : (List UInt64)) : Option (Lo ((Int × Unit) × ((List UInt64) × (List UInt64) × (List UInt64) × Unit)) ((Unit) × ((List UInt64) × (List UInt64) × (List UInt64) × Unit)) poly1305_limbs_reduced_R) :=
 bif (decide (t_13 < (4 : Int))) then
 let x7 := w64 (t_13 + (1 : Int))
 bif inR x7 5 then
 bif inR t_13 5 then
 bif inR x7 5 then
 let x12 := (b_3.set x7.toNat ((b_3.getD x7.toNat (0 : UInt64)) + (shr64 (b_3.getD t_13.toNat (0 : UInt64)) 26)))
 bif inR t_13 5 then
 bif inR t_13 5 then
 some (.go (((w64 (t_13 + (1 : Int))), ()), (a_1, t_2, (x12.set t_13.toNat ((x12.getD t_13.toNat (0 : UInt64)) &&& (67108863 : UInt64))), ())))
 else none
 else none
 else none
 else none
 else none
 else
 some (.br ((()), (a_1, t_2, b_3, ())))
def poly1305_limbs_reduced_3 (N : Nat) (a_1 : (List UInt64)) (t_2 : (List UInt64)) (b_3 : (List UInt64)) : Option poly1305_limbs_reduced_R :=
 bif (decide ((shr64 (b_3.getD 4 (0 : UInt64)) 26) = (0 : UInt64))) then
 some ((a_1, ()), (()))
 else
 some (((b_3.set 4 ((b_3.getD 4 (0 : UInt64)) &&& (67108863 : UInt64))), ()), (()))
def poly1305_limbs_reduced_1 (N : Nat) (t_13 : Int) (a_1 : (List UInt64)) (t_2 : (List UInt64)) (b_3 : (List UInt64)) : Option poly1305_limbs_reduced_R :=
 loopK N (fun y => poly1305_limbs_reduced_s2 N y.1.1 y.2.1 y.2.2.1 y.2.2.2.1) (fun (e : ((Unit) × ((List UInt64) × (List UInt64) × (List UInt64) × Unit))) => poly1305_limbs_reduced_3 N e.2.1 e.2.2.1 e.2.2.2.1) ((t_13, ()), (a_1, t_2, b_3, ()))
def poly1305_limbs_reduced (N : Nat) (a_0 : (List UInt64)) : Option poly1305_limbs_reduced_R :=
 Option.bind (poly1305_limbs_carry N a_0) fun y1 =>
 Option.bind (poly1305_limbs_carry N y1.1.1) fun y2 =>
 poly1305_limbs_reduced_1 N (0 : Int) y2.1.1 (List.replicate 5 (0 : UInt64)) (y2.1.1.set 0 ((y2.1.1.getD 0 (0 : UInt64)) + (5 : UInt64)))
def poly1305_limbs_reduced_C (N : Nat) : Ctx := ⟨42, G_tys, [(85, poly1305_limbs_carry_ctr N)], G_globs, G_ifs⟩
def poly1305_limbs_reduced_S0 : Spec := ⟨[.ref 0 (.arr 5 .u64), .ref 1 (.arr 5 .u64), .ref 2 (.arr 5 .u64), .val .i64], [(.box 106 (.arr 5 .u64), .pos 0), (.box 106 (.arr 5 .u64), .pos 1), (.box 106 (.arr 5 .u64), .pos 2)]⟩
def poly1305_limbs_reduced_S1 : Spec := ⟨[.ref 0 (.arr 5 .u64), .ref 1 (.arr 5 .u64), .ref 2 (.arr 5 .u64)], [(.box 106 (.arr 5 .u64), .pos 0), (.box 106 (.arr 5 .u64), .pos 1), (.box 106 (.arr 5 .u64), .pos 2)]⟩
def poly1305_limbs_reduced_S2 : Spec := ⟨[.val (.arr 5 .u64)], []⟩
def poly1305_limbs_reduced_S3 : Spec := ⟨[.fp (.arr 5 .u64)], []⟩
def poly1305_limbs_reduced_K (_N : Nat) : XE → GS → Option poly1305_limbs_reduced_R := retK 0 [2] [true] poly1305_limbs_reduced_S3
def poly1305_limbs_reduced_L : List Code := (bodyOf (some Tryd.f82))
def poly1305_limbs_reduced_L2 : List Code := (loopOf (poly1305_limbs_reduced_L[5]?))
def poly1305_limbs_reduced_K2 (N : Nat) : XE → GS → Option (Lo ((Int × Unit) × ((List UInt64) × (List UInt64) × (List UInt64) × Unit)) ((Unit) × ((List UInt64) × (List UInt64) × (List UInt64) × Unit)) poly1305_limbs_reduced_R) := roundK (some 0) (fit 0 [1, 2, 3, 13] poly1305_limbs_reduced_S0) (fit 0 [1, 2, 3] poly1305_limbs_reduced_S1) (poly1305_limbs_reduced_K N)
theorem poly1305_limbs_reduced_s2_b {E : Env} (N : Nat) (hb : Base Tryd.prog (poly1305_limbs_reduced_C N) E 0) : Blk Tryd.prog (poly1305_limbs_reduced_C N) E [1, 2, 3, 13] poly1305_limbs_reduced_S0 (poly1305_limbs_reduced_L2.drop 0) (fun y => poly1305_limbs_reduced_s2 N y.1.1 y.2.1 y.2.2.1 y.2.2.2.1) (poly1305_limbs_reduced_K2 N) :=
 Blk.chunkAt hb 4 (X := (poly1305_limbs_reduced_K2 N .normal)) (NxOk.end (by kernel_rfl)) rfl (fun x => by kernel_rfl)
theorem poly1305_limbs_reduced_3_b {E : Env} (N : Nat) (hb : Base Tryd.prog (poly1305_limbs_reduced_C N) E 0) : Blk Tryd.prog (poly1305_limbs_reduced_C N) E [1, 2, 3] poly1305_limbs_reduced_S1 (poly1305_limbs_reduced_L.drop 6) (fun y => poly1305_limbs_reduced_3 N y.2.1 y.2.2.1 y.2.2.2.1) (poly1305_limbs_reduced_K N) :=
 Blk.chunkAt hb 5 (X := (poly1305_limbs_reduced_K N .normal)) (NxOk.end (by kernel_rfl)) rfl (fun x => by kernel_rfl)
theorem poly1305_limbs_reduced_1_b {E : Env} (N : Nat) (hb : Base Tryd.prog (poly1305_limbs_reduced_C N) E 0) : Blk Tryd.prog (poly1305_limbs_reduced_C N) E [1, 2, 3, 13] poly1305_limbs_reduced_S0 (poly1305_limbs_reduced_L.drop 5) (fun y => poly1305_limbs_reduced_1 N y.1.1 y.2.1 y.2.2.1 y.2.2.2.1) (poly1305_limbs_reduced_K N) :=
 Blk.loopAt (Nf := N) (hns := [1, 2, 3, 13]) (ans := [1, 2, 3]) (hc := poly1305_limbs_reduced_S0) (ac := poly1305_limbs_reduced_S1) (bid := 0) (step := (fun y => poly1305_limbs_reduced_s2 N y.1.1 y.2.1 y.2.2.1 y.2.2.2.1)) (J := (fun e => (goK 0 [1, 2, 3] poly1305_limbs_reduced_S1 (fun y => poly1305_limbs_reduced_3 N y.2.1 y.2.2.1 y.2.2.2.1)) (poly1305_limbs_reduced_S1.st [1, 2, 3] e))) hb (by kernel_rfl) (Blk.into (X := (goK 0 [1, 2, 3] poly1305_limbs_reduced_S1 (fun y => poly1305_limbs_reduced_3 N y.2.1 y.2.2.1 y.2.2.2.1))) (NxOk.go hb (poly1305_limbs_reduced_3_b N hb)) (fun x => by kernel_rfl)) (poly1305_limbs_reduced_s2_b N hb) (fun x => by kernel_rfl)
theorem poly1305_limbs_reduced_b {E : Env} (N : Nat) (hb : Base Tryd.prog (poly1305_limbs_reduced_C N) E 0) : Blk Tryd.prog (poly1305_limbs_reduced_C N) E (List.range poly1305_limbs_reduced_S2.ks.length) poly1305_limbs_reduced_S2 (poly1305_limbs_reduced_L.drop 0) (fun y => poly1305_limbs_reduced N y.1.1) (poly1305_limbs_reduced_K N) :=
 Blk.chunkAt hb 5 (X := (goK 0 [1, 2, 3, 13] poly1305_limbs_reduced_S0 (fun y => poly1305_limbs_reduced_1 N y.1.1 y.2.1 y.2.2.1 y.2.2.2.1))) (NxOk.go hb (poly1305_limbs_reduced_1_b N hb)) rfl (fun x => by kernel_rfl)
def poly1305_limbs_reduced_ctr (N : Nat) : Ctr := ⟨poly1305_limbs_reduced_S2, poly1305_limbs_reduced_S3.un [true], 0, (fun y => poly1305_limbs_reduced N y.1.1)⟩
theorem poly1305_limbs_reduced_ctrs (N : Nat) : CtrsOk Tryd.prog (poly1305_limbs_reduced_C N) := ctrs_of (Γ := poly1305_limbs_reduced_C N) G_ifs_ok (by
 intro p hp
 simp only [poly1305_limbs_reduced_C, List.mem_cons, List.not_mem_nil, or_false] at hp
 rcases hp with rfl
 · exact poly1305_limbs_carry_ok N)
theorem poly1305_limbs_reduced_ok (N : Nat) : Ctr.ok Tryd.prog G_globs 82 (poly1305_limbs_reduced_ctr N) :=
 ctr_fn (Γ := poly1305_limbs_reduced_C N) (rfit := poly1305_limbs_reduced_S3) (bs := [true]) (res := [2]) (by kernel_rfl) (tys_ok G_tys_ok) (poly1305_limbs_reduced_ctrs N) Tryd.func82 (by kernel_rfl) (by kernel_rfl) Tryd.ntmps82 (by kernel_rfl) (by kernel_rfl) (by kernel_rfl) (by kernel_rfl) (fun E hb => poly1305_limbs_reduced_b N hb)
end
end Go.Proofs.YtajpblfinenmjaaDoor