/- Functions of the program as plain functions, each with the proof that the text computes it. -/
import Derived.Test.YtgbkkfpheahdfaaFnsIpfragLimitsA
import Derived.Test.YtgbkkfpheahdfaaRngIpfragLimits
set_option linter.unusedVariables false
set_option linter.unusedSimpArgs false
namespace Go.Proofs.Ytgbkkfpheahdfaa
open Go
set_option maxRecDepth 100000
set_option linter.unusedVariables false
noncomputable section
/-! ipsecgate/ipfrag.Held -/
abbrev ipfrag_Held_R : Type := ((Int × Unit) × (Unit))
def ipfrag_Held_s7 (N : Nat) (n_3 : Int) (t_8 : (List D99)) (t_9 : Int) (t_10 : Int) (t_15 : (List D97)) (t_16 : Int) (t_17 : Int) : Option (Lo ((Int × (List D99) × Int × Int × (List D97) × Int × Int × Unit) × (Unit)) ((Int × (List D99) × Int × Int × Unit) × (Unit)) (Lo ((Int × (List D99) × Int × Int × Unit) × (Unit)) ((Int × Unit) × (Unit)) ipfrag_Held_R)) :=
 bif (decide (t_17 < t_16)) then
 bif inR t_17 t_15.length then
 some (.go (((w64 (n_3 + ((t_15.getD t_17.toNat (((0 : Int), (0 : UInt64), (0 : UInt64), ()), ((0 : Int), (0 : UInt64), (0 : UInt64), ()), (0 : Int), (0 : Int), false, ([] : List UInt8), ())).2.2.2.2.2.1.length : Int))), t_8, t_9, t_10, t_15, t_16, (w64 (t_17 + (1 : Int))), ()), (())))
 else none
 else
 some (.br ((n_3, t_8, t_9, t_10, ()), (())))
def ipfrag_Held_8 (N : Nat) (n_3 : Int) (t_8 : (List D99)) (t_9 : Int) (t_10 : Int) : Option (Lo ((Int × (List D99) × Int × Int × Unit) × (Unit)) ((Int × Unit) × (Unit)) ipfrag_Held_R) :=
 some (.go ((n_3, t_8, t_9, (w64 (t_10 + (1 : Int))), ()), (())))
def ipfrag_Held_6 (N : Nat) (n_3 : Int) (t_8 : (List D99)) (t_9 : Int) (t_10 : Int) (t_15 : (List D97)) (t_16 : Int) (t_17 : Int) : Option (Lo ((Int × (List D99) × Int × Int × Unit) × (Unit)) ((Int × Unit) × (Unit)) ipfrag_Held_R) :=
 loopK N (fun y => ipfrag_Held_s7 N y.1.1 y.1.2.1 y.1.2.2.1 y.1.2.2.2.1 y.1.2.2.2.2.1 y.1.2.2.2.2.2.1 y.1.2.2.2.2.2.2.1) (fun (e : ((Int × (List D99) × Int × Int × Unit) × (Unit))) => ipfrag_Held_8 N e.1.1 e.1.2.1 e.1.2.2.1 e.1.2.2.2.1) ((n_3, t_8, t_9, t_10, t_15, t_16, t_17, ()), (()))
def ipfrag_Held_5 (N : Nat) (n_3 : Int) (t_8 : (List D99)) (t_9 : Int) (t_10 : Int) : Option (Lo ((Int × (List D99) × Int × Int × Unit) × (Unit)) ((Int × Unit) × (Unit)) ipfrag_Held_R) :=
 bif inR t_10 t_8.length then
 let x3 := t_8.getD t_10.toNat (((0 : Int), (0 : UInt64), (0 : UInt64), ()), ((0 : Int), (0 : UInt64), (0 : UInt64), ()), (0 : Int), ([] : List D97), (0 : Int), ())
 ipfrag_Held_6 N n_3 t_8 t_9 t_10 x3.2.2.2.1 (x3.2.2.2.1.length : Int) (0 : Int)
 else none
def ipfrag_Held_3 (N : Nat) (n_3 : Int) (t_8 : (List D99)) (t_9 : Int) (t_10 : Int) : Option (Lo ((Int × (List D99) × Int × Int × Unit) × (Unit)) ((Int × Unit) × (Unit)) ipfrag_Held_R) :=
 ipfrag_Held_5 N n_3 t_8 t_9 t_10
def ipfrag_Held_s2 (N : Nat) (n_3 : Int) (t_8 : (List D99)) (t_9 : Int) (t_10 : Int) : Option (Lo ((Int × (List D99) × Int × Int × Unit) × (Unit)) ((Int × Unit) × (Unit)) ipfrag_Held_R) :=
 bif (decide (t_10 < t_9)) then
 ipfrag_Held_3 N n_3 t_8 t_9 t_10
 else
 some (.br ((n_3, ()), (())))
def ipfrag_Held_9 (N : Nat) (n_3 : Int) : Option ipfrag_Held_R :=
 some ((n_3, ()), (()))
def ipfrag_Held_1 (N : Nat) (n_3 : Int) (t_8 : (List D99)) (t_9 : Int) (t_10 : Int) : Option ipfrag_Held_R :=
 loopK N (fun y => ipfrag_Held_s2 N y.1.1 y.1.2.1 y.1.2.2.1 y.1.2.2.2.1) (fun (e : ((Int × Unit) × (Unit))) => ipfrag_Held_9 N e.1.1) ((n_3, t_8, t_9, t_10, ()), (()))
def ipfrag_Held (N : Nat) (l_0 : (List D99)) : Option ipfrag_Held_R :=
 ipfrag_Held_1 N (0 : Int) l_0 (l_0.length : Int) (0 : Int)
def ipfrag_Held_C (N : Nat) : Ctx := ⟨29, G_tys, [], G_globs, G_ifs⟩
def ipfrag_Held_S0 : Spec := ⟨[.val .i64, .val (.sl T99), .val .i64, .val .i64, .val (.sl T97), .val .i64, .val .i64], []⟩
def ipfrag_Held_S1 : Spec := ⟨[.val .i64, .val (.sl T99), .val .i64, .val .i64], []⟩
def ipfrag_Held_S2 : Spec := ⟨[.val .i64], []⟩
def ipfrag_Held_S3 : Spec := ⟨[.val (.sl T99)], []⟩
def ipfrag_Held_K (_N : Nat) : XE → GS → Option ipfrag_Held_R := retK 0 [2] [false] ipfrag_Held_S2
def ipfrag_Held_L : List Code := (bodyOf (some Try.f67))
def ipfrag_Held_L2 : List Code := (loopOf (ipfrag_Held_L[3]?))
def ipfrag_Held_L4b : List Code := (blockOf (ipfrag_Held_L2[2]?))
def ipfrag_Held_L7 : List Code := (loopOf (ipfrag_Held_L4b[2]?))
def ipfrag_Held_K2 (N : Nat) : XE → GS → Option (Lo ((Int × (List D99) × Int × Int × Unit) × (Unit)) ((Int × Unit) × (Unit)) ipfrag_Held_R) := roundK (some 0) (fit 0 [3, 8, 9, 10] ipfrag_Held_S1) (fit 0 [3] ipfrag_Held_S2) (ipfrag_Held_K N)
def ipfrag_Held_K4 (N : Nat) : XE → GS → Option (Lo ((Int × (List D99) × Int × Int × Unit) × (Unit)) ((Int × Unit) × (Unit)) ipfrag_Held_R) := blockK 1 (goK 0 [3, 8, 9, 10] ipfrag_Held_S1 (fun y => ipfrag_Held_8 N y.1.1 y.1.2.1 y.1.2.2.1 y.1.2.2.2.1)) (ipfrag_Held_K2 N)
def ipfrag_Held_K7 (N : Nat) : XE → GS → Option (Lo ((Int × (List D99) × Int × Int × (List D97) × Int × Int × Unit) × (Unit)) ((Int × (List D99) × Int × Int × Unit) × (Unit)) (Lo ((Int × (List D99) × Int × Int × Unit) × (Unit)) ((Int × Unit) × (Unit)) ipfrag_Held_R)) := roundK (some 2) (fit 0 [3, 8, 9, 10, 15, 16, 17] ipfrag_Held_S0) (fit 0 [3, 8, 9, 10] ipfrag_Held_S1) (ipfrag_Held_K4 N)
theorem ipfrag_Held_s7_b {E : Env} (N : Nat) (hb : Base Try.prog (ipfrag_Held_C N) E 0) : Blk Try.prog (ipfrag_Held_C N) E [3, 8, 9, 10, 15, 16, 17] ipfrag_Held_S0 (ipfrag_Held_L7.drop 0) (fun y => ipfrag_Held_s7 N y.1.1 y.1.2.1 y.1.2.2.1 y.1.2.2.2.1 y.1.2.2.2.2.1 y.1.2.2.2.2.2.1 y.1.2.2.2.2.2.2.1) (ipfrag_Held_K7 N) :=
 Blk.chunkAt hb 4 (X := (ipfrag_Held_K7 N .normal)) (NxOk.end (by kernel_rfl)) rfl (fun x => by kernel_rfl)
theorem ipfrag_Held_8_b {E : Env} (N : Nat) (hb : Base Try.prog (ipfrag_Held_C N) E 0) : Blk Try.prog (ipfrag_Held_C N) E [3, 8, 9, 10] ipfrag_Held_S1 (ipfrag_Held_L2.drop 3) (fun y => ipfrag_Held_8 N y.1.1 y.1.2.1 y.1.2.2.1 y.1.2.2.2.1) (ipfrag_Held_K2 N) :=
 Blk.chunkAt hb 1 (X := (ipfrag_Held_K2 N .normal)) (NxOk.end (by kernel_rfl)) rfl (fun x => by kernel_rfl)
theorem ipfrag_Held_6_b {E : Env} (N : Nat) (hb : Base Try.prog (ipfrag_Held_C N) E 0) : Blk Try.prog (ipfrag_Held_C N) E [3, 8, 9, 10, 15, 16, 17] ipfrag_Held_S0 (ipfrag_Held_L4b.drop 2) (fun y => ipfrag_Held_6 N y.1.1 y.1.2.1 y.1.2.2.1 y.1.2.2.2.1 y.1.2.2.2.2.1 y.1.2.2.2.2.2.1 y.1.2.2.2.2.2.2.1) (ipfrag_Held_K4 N) :=
 Blk.loopAt (Nf := N) (hns := [3, 8, 9, 10, 15, 16, 17]) (ans := [3, 8, 9, 10]) (hc := ipfrag_Held_S0) (ac := ipfrag_Held_S1) (bid := 2) (step := (fun y => ipfrag_Held_s7 N y.1.1 y.1.2.1 y.1.2.2.1 y.1.2.2.2.1 y.1.2.2.2.2.1 y.1.2.2.2.2.2.1 y.1.2.2.2.2.2.2.1)) (J := (fun e => (ipfrag_Held_K4 N .normal) (ipfrag_Held_S1.st [3, 8, 9, 10] e))) hb (by kernel_rfl) (Blk.into (X := (ipfrag_Held_K4 N .normal)) (NxOk.end (by kernel_rfl)) (fun x => by kernel_rfl)) (ipfrag_Held_s7_b N hb) (fun x => by kernel_rfl)
theorem ipfrag_Held_5_b {E : Env} (N : Nat) (hb : Base Try.prog (ipfrag_Held_C N) E 0) : Blk Try.prog (ipfrag_Held_C N) E [3, 8, 9, 10] ipfrag_Held_S1 (ipfrag_Held_L4b.drop 0) (fun y => ipfrag_Held_5 N y.1.1 y.1.2.1 y.1.2.2.1 y.1.2.2.2.1) (ipfrag_Held_K4 N) :=
 Blk.chunkAt hb 2 (X := (goK 0 [3, 8, 9, 10, 15, 16, 17] ipfrag_Held_S0 (fun y => ipfrag_Held_6 N y.1.1 y.1.2.1 y.1.2.2.1 y.1.2.2.2.1 y.1.2.2.2.2.1 y.1.2.2.2.2.2.1 y.1.2.2.2.2.2.2.1))) (NxOk.go hb (ipfrag_Held_6_b N hb)) rfl (fun x => by kernel_rfl)
theorem ipfrag_Held_3_b {E : Env} (N : Nat) (hb : Base Try.prog (ipfrag_Held_C N) E 0) : Blk Try.prog (ipfrag_Held_C N) E [3, 8, 9, 10] ipfrag_Held_S1 (ipfrag_Held_L2.drop 2) (fun y => ipfrag_Held_3 N y.1.1 y.1.2.1 y.1.2.2.1 y.1.2.2.2.1) (ipfrag_Held_K2 N) :=
 Blk.blockAt (bid := 1) (X := (goK 0 [3, 8, 9, 10] ipfrag_Held_S1 (fun y => ipfrag_Held_8 N y.1.1 y.1.2.1 y.1.2.2.1 y.1.2.2.2.1))) (Y := (goK 0 [3, 8, 9, 10] ipfrag_Held_S1 (fun y => ipfrag_Held_5 N y.1.1 y.1.2.1 y.1.2.2.1 y.1.2.2.2.1))) (by kernel_rfl) (NxOk.go hb (ipfrag_Held_8_b N hb)) (NxOk.go hb (ipfrag_Held_5_b N hb)) (fun x => by kernel_rfl)
theorem ipfrag_Held_s2_b {E : Env} (N : Nat) (hb : Base Try.prog (ipfrag_Held_C N) E 0) : Blk Try.prog (ipfrag_Held_C N) E [3, 8, 9, 10] ipfrag_Held_S1 (ipfrag_Held_L2.drop 0) (fun y => ipfrag_Held_s2 N y.1.1 y.1.2.1 y.1.2.2.1 y.1.2.2.2.1) (ipfrag_Held_K2 N) :=
 Blk.chunkAt hb 2 (X := (goK 0 [3, 8, 9, 10] ipfrag_Held_S1 (fun y => ipfrag_Held_3 N y.1.1 y.1.2.1 y.1.2.2.1 y.1.2.2.2.1))) (NxOk.go hb (ipfrag_Held_3_b N hb)) rfl (fun x => by kernel_rfl)
theorem ipfrag_Held_9_b {E : Env} (N : Nat) (hb : Base Try.prog (ipfrag_Held_C N) E 0) : Blk Try.prog (ipfrag_Held_C N) E [3] ipfrag_Held_S2 (ipfrag_Held_L.drop 4) (fun y => ipfrag_Held_9 N y.1.1) (ipfrag_Held_K N) :=
 Blk.chunkAt hb 2 (X := (ipfrag_Held_K N .normal)) (NxOk.end (by kernel_rfl)) rfl (fun x => by kernel_rfl)
theorem ipfrag_Held_1_b {E : Env} (N : Nat) (hb : Base Try.prog (ipfrag_Held_C N) E 0) : Blk Try.prog (ipfrag_Held_C N) E [3, 8, 9, 10] ipfrag_Held_S1 (ipfrag_Held_L.drop 3) (fun y => ipfrag_Held_1 N y.1.1 y.1.2.1 y.1.2.2.1 y.1.2.2.2.1) (ipfrag_Held_K N) :=
 Blk.loopAt (Nf := N) (hns := [3, 8, 9, 10]) (ans := [3]) (hc := ipfrag_Held_S1) (ac := ipfrag_Held_S2) (bid := 0) (step := (fun y => ipfrag_Held_s2 N y.1.1 y.1.2.1 y.1.2.2.1 y.1.2.2.2.1)) (J := (fun e => (goK 0 [3] ipfrag_Held_S2 (fun y => ipfrag_Held_9 N y.1.1)) (ipfrag_Held_S2.st [3] e))) hb (by kernel_rfl) (Blk.into (X := (goK 0 [3] ipfrag_Held_S2 (fun y => ipfrag_Held_9 N y.1.1))) (NxOk.go hb (ipfrag_Held_9_b N hb)) (fun x => by kernel_rfl)) (ipfrag_Held_s2_b N hb) (fun x => by kernel_rfl)
theorem ipfrag_Held_b {E : Env} (N : Nat) (hb : Base Try.prog (ipfrag_Held_C N) E 0) : Blk Try.prog (ipfrag_Held_C N) E (List.range ipfrag_Held_S3.ks.length) ipfrag_Held_S3 (ipfrag_Held_L.drop 0) (fun y => ipfrag_Held N y.1.1) (ipfrag_Held_K N) :=
 Blk.chunkAt hb 3 (X := (goK 0 [3, 8, 9, 10] ipfrag_Held_S1 (fun y => ipfrag_Held_1 N y.1.1 y.1.2.1 y.1.2.2.1 y.1.2.2.2.1))) (NxOk.go hb (ipfrag_Held_1_b N hb)) rfl (fun x => by kernel_rfl)
def ipfrag_Held_ctr (N : Nat) : Ctr := ⟨ipfrag_Held_S3, ipfrag_Held_S2.un [false], 0, (fun y => ipfrag_Held N y.1.1)⟩
theorem ipfrag_Held_ctrs (N : Nat) : CtrsOk Try.prog (ipfrag_Held_C N) := ctrs_nil G_ifs_ok rfl
theorem ipfrag_Held_ok (N : Nat) : Ctr.ok Try.prog G_globs 67 (ipfrag_Held_ctr N) :=
 ctr_fn (Γ := ipfrag_Held_C N) (rfit := ipfrag_Held_S2) (bs := [false]) (res := [2]) (by kernel_rfl) (tys_ok G_tys_ok) (ipfrag_Held_ctrs N) Try.func67 (by kernel_rfl) (by kernel_rfl) Try.ntmps67 (by kernel_rfl) (by kernel_rfl) (by kernel_rfl) (by kernel_rfl) (fun E hb => ipfrag_Held_b N hb)
/-! ipsecgate/ipsecgatelaw25.IpfragLimits -/
abbrev law25_IpfragLimits_R : Type := ((Bool × Unit) × (Unit))
def law25_IpfragLimits_s7 (N : Nat) (l_4 : (List D99)) (k_5 : Int) (i_7 : Int) (c_3 : ((List UInt8) × (Int × Unit))) : Option (Lo (((List D99) × Int × Int × Unit) × (((List UInt8) × (Int × Unit)) × Unit)) (((List D99) × Int × Unit) × (((List UInt8) × (Int × Unit)) × Unit)) (Lo (((List D99) × Int × Unit) × (((List UInt8) × (Int × Unit)) × Unit)) (((List D99) × Unit) × (Unit)) law25_IpfragLimits_R)) :=
 bif (decide (i_7 < (l_4.length : Int))) then
 bif inR i_7 l_4.length then
 bif (decide ((16 : Int) < ((l_4.getD i_7.toNat (((0 : Int), (0 : UInt64), (0 : UInt64), ()), ((0 : Int), (0 : UInt64), (0 : UInt64), ()), (0 : Int), ([] : List D97), (0 : Int), ())).2.2.2.1.length : Int))) then
 some (.rt (.rt ((false, ()), (()))))
 else
 bif inR i_7 l_4.length then
 bif (decide (((l_4.getD i_7.toNat (((0 : Int), (0 : UInt64), (0 : UInt64), ()), ((0 : Int), (0 : UInt64), (0 : UInt64), ()), (0 : Int), ([] : List D97), (0 : Int), ())).2.2.2.1.length : Int) = (0 : Int))) then
 some (.rt (.rt ((false, ()), (()))))
 else
 some (.go ((l_4, k_5, (w64 (i_7 + (1 : Int))), ()), (c_3, ())))
 else none
 else none
 else
 some (.br ((l_4, k_5, ()), (c_3, ())))
def law25_IpfragLimits_8 (N : Nat) (l_4 : (List D99)) (k_5 : Int) (c_3 : ((List UInt8) × (Int × Unit))) : Option (Lo (((List D99) × Int × Unit) × (((List UInt8) × (Int × Unit)) × Unit)) (((List D99) × Unit) × (Unit)) law25_IpfragLimits_R) :=
 some (.go ((l_4, (w64 (k_5 + (1 : Int))), ()), (c_3, ())))
def law25_IpfragLimits_6 (N : Nat) (l_4 : (List D99)) (k_5 : Int) (i_7 : Int) (c_3 : ((List UInt8) × (Int × Unit))) : Option (Lo (((List D99) × Int × Unit) × (((List UInt8) × (Int × Unit)) × Unit)) (((List D99) × Unit) × (Unit)) law25_IpfragLimits_R) :=
 loopK N (fun y => law25_IpfragLimits_s7 N y.1.1 y.1.2.1 y.1.2.2.1 y.2.1) (fun (e : (((List D99) × Int × Unit) × (((List UInt8) × (Int × Unit)) × Unit))) => law25_IpfragLimits_8 N e.1.1 e.1.2.1 e.2.1) ((l_4, k_5, i_7, ()), (c_3, ()))
def law25_IpfragLimits_5 (N : Nat) (l_4 : (List D99)) (k_5 : Int) (c_3 : ((List UInt8) × (Int × Unit))) : Option (Lo (((List D99) × Int × Unit) × (((List UInt8) × (Int × Unit)) × Unit)) (((List D99) × Unit) × (Unit)) law25_IpfragLimits_R) :=
 Option.bind (draw_Codes_Packet N (0 : Int) c_3) fun y5 =>
 Option.bind (draw_Codes_Next N (10 : Int) y5.2.1) fun y6 =>
 Option.bind (draw_Codes_Next N (40 : Int) y6.2.1) fun y7 =>
 Option.bind (draw_Codes_Next N (9 : Int) y7.2.1) fun y9 =>
 Option.bind (draw_Codes_Next N (2 : Int) y9.2.1) fun y11 =>
 Option.bind (law25_bytes N (w64 ((8 : Int) * (w64 ((1 : Int) + y11.1.1)))) k_5) fun y14 =>
 Option.bind (ipfrag_Add N l_4 (y5.1.1.1, y5.1.1.1, y6.1.1, (w64 ((8 : Int) * y7.1.1)), (decide ((0 : Int) < y9.1.1)), y14.2.1, ()) k_5) fun y15 =>
 bif (decide ((6 : Int) < (y15.1.1.length : Int))) then
 some (.rt ((false, ()), (())))
 else
 law25_IpfragLimits_6 N y15.1.1 k_5 (0 : Int) y11.2.1
def law25_IpfragLimits_3 (N : Nat) (l_4 : (List D99)) (k_5 : Int) (c_3 : ((List UInt8) × (Int × Unit))) : Option (Lo (((List D99) × Int × Unit) × (((List UInt8) × (Int × Unit)) × Unit)) (((List D99) × Unit) × (Unit)) law25_IpfragLimits_R) :=
 law25_IpfragLimits_5 N l_4 k_5 c_3
def law25_IpfragLimits_s2 (N : Nat) (l_4 : (List D99)) (k_5 : Int) (c_3 : ((List UInt8) × (Int × Unit))) : Option (Lo (((List D99) × Int × Unit) × (((List UInt8) × (Int × Unit)) × Unit)) (((List D99) × Unit) × (Unit)) law25_IpfragLimits_R) :=
 bif (decide (k_5 < (60 : Int))) then
 law25_IpfragLimits_3 N l_4 k_5 c_3
 else
 some (.br ((l_4, ()), (())))
def law25_IpfragLimits_9 (N : Nat) (l_4 : (List D99)) : Option law25_IpfragLimits_R :=
 Option.bind (ipfrag_Held N l_4) fun y28 =>
 some (((decide (y28.1.1 ≤ (24576 : Int))), ()), (()))
def law25_IpfragLimits_1 (N : Nat) (k_5 : Int) (c_3 : ((List UInt8) × (Int × Unit))) (l_4 : (List D99)) : Option law25_IpfragLimits_R :=
 loopK N (fun y => law25_IpfragLimits_s2 N y.1.1 y.1.2.1 y.2.1) (fun (e : (((List D99) × Unit) × (Unit))) => law25_IpfragLimits_9 N e.1.1) ((l_4, k_5, ()), (c_3, ()))
def law25_IpfragLimits (N : Nat) (codes_0 : (List UInt8)) : Option law25_IpfragLimits_R :=
 Option.bind (law25_awake N) fun y1 =>
 bif (!y1.1.1) then
 some ((false, ()), (()))
 else
 Option.bind (draw_New N codes_0 (200 : Int)) fun y3 =>
 law25_IpfragLimits_1 N (0 : Int) y3.2.1 ([] : List D99)
def law25_IpfragLimits_C (N : Nat) : Ctx := ⟨72, G_tys, [(18, law25_awake_ctr N), (19, draw_New_ctr N), (20, draw_Codes_Packet_ctr N), (23, draw_Codes_Next_ctr N), (21, law25_bytes_ctr N), (66, ipfrag_Add_ctr N), (67, ipfrag_Held_ctr N)], G_globs, G_ifs⟩
def law25_IpfragLimits_S0 : Spec := ⟨[.ref 0 (.pair (.sl .u8) (.pair .i64 .unit)), .val (.sl T99), .val .i64, .val .i64], [(.box 108 (.pair (.sl .u8) (.pair .i64 .unit)), .pos 0)]⟩
def law25_IpfragLimits_S1 : Spec := ⟨[.ref 0 (.pair (.sl .u8) (.pair .i64 .unit)), .val (.sl T99), .val .i64], [(.box 108 (.pair (.sl .u8) (.pair .i64 .unit)), .pos 0)]⟩
def law25_IpfragLimits_S2 : Spec := ⟨[.val (.sl T99)], []⟩
def law25_IpfragLimits_S3 : Spec := ⟨[.ref 0 (.pair (.sl .u8) (.pair .i64 .unit)), .row 1, .val .i64], [(.box 108 (.pair (.sl .u8) (.pair .i64 .unit)), .pos 0), (.row 100 T99, .pos 1)]⟩
def law25_IpfragLimits_S4 : Spec := ⟨[.val (.sl .u8)], []⟩
def law25_IpfragLimits_S5 : Spec := ⟨[.val .bool], []⟩
def law25_IpfragLimits_K (_N : Nat) : XE → GS → Option law25_IpfragLimits_R := retK 0 [2] [false] law25_IpfragLimits_S5
def law25_IpfragLimits_L : List Code := (bodyOf (some Try.f14))
def law25_IpfragLimits_L2 : List Code := (loopOf (law25_IpfragLimits_L[6]?))
def law25_IpfragLimits_L4b : List Code := (blockOf (law25_IpfragLimits_L2[2]?))
def law25_IpfragLimits_L7 : List Code := (loopOf (law25_IpfragLimits_L4b[5]?))
def law25_IpfragLimits_K2 (N : Nat) : XE → GS → Option (Lo (((List D99) × Int × Unit) × (((List UInt8) × (Int × Unit)) × Unit)) (((List D99) × Unit) × (Unit)) law25_IpfragLimits_R) := roundK (some 0) (fit 0 [3, 4, 5] law25_IpfragLimits_S1) (fit 0 [4] law25_IpfragLimits_S2) (law25_IpfragLimits_K N)
def law25_IpfragLimits_K4 (N : Nat) : XE → GS → Option (Lo (((List D99) × Int × Unit) × (((List UInt8) × (Int × Unit)) × Unit)) (((List D99) × Unit) × (Unit)) law25_IpfragLimits_R) := blockK 1 (goK 0 [3, 4, 5] law25_IpfragLimits_S1 (fun y => law25_IpfragLimits_8 N y.1.1 y.1.2.1 y.2.1)) (law25_IpfragLimits_K2 N)
def law25_IpfragLimits_K7 (N : Nat) : XE → GS → Option (Lo (((List D99) × Int × Int × Unit) × (((List UInt8) × (Int × Unit)) × Unit)) (((List D99) × Int × Unit) × (((List UInt8) × (Int × Unit)) × Unit)) (Lo (((List D99) × Int × Unit) × (((List UInt8) × (Int × Unit)) × Unit)) (((List D99) × Unit) × (Unit)) law25_IpfragLimits_R)) := roundK (some 2) (fit 0 [3, 4, 5, 7] law25_IpfragLimits_S0) (fit 0 [3, 4, 5] law25_IpfragLimits_S1) (law25_IpfragLimits_K4 N)
theorem law25_IpfragLimits_s7_b {E : Env} (N : Nat) (hb : Base Try.prog (law25_IpfragLimits_C N) E 0) : Blk Try.prog (law25_IpfragLimits_C N) E [3, 4, 5, 7] law25_IpfragLimits_S0 (law25_IpfragLimits_L7.drop 0) (fun y => law25_IpfragLimits_s7 N y.1.1 y.1.2.1 y.1.2.2.1 y.2.1) (law25_IpfragLimits_K7 N) :=
 Blk.chunkAt hb 4 (X := (law25_IpfragLimits_K7 N .normal)) (NxOk.end (by kernel_rfl)) rfl (fun x => by kernel_rfl)
theorem law25_IpfragLimits_8_b {E : Env} (N : Nat) (hb : Base Try.prog (law25_IpfragLimits_C N) E 0) : Blk Try.prog (law25_IpfragLimits_C N) E [3, 4, 5] law25_IpfragLimits_S1 (law25_IpfragLimits_L2.drop 3) (fun y => law25_IpfragLimits_8 N y.1.1 y.1.2.1 y.2.1) (law25_IpfragLimits_K2 N) :=
 Blk.chunkAt hb 1 (X := (law25_IpfragLimits_K2 N .normal)) (NxOk.end (by kernel_rfl)) rfl (fun x => by kernel_rfl)
theorem law25_IpfragLimits_6_b {E : Env} (N : Nat) (hb : Base Try.prog (law25_IpfragLimits_C N) E 0) : Blk Try.prog (law25_IpfragLimits_C N) E [3, 4, 5, 7] law25_IpfragLimits_S0 (law25_IpfragLimits_L4b.drop 5) (fun y => law25_IpfragLimits_6 N y.1.1 y.1.2.1 y.1.2.2.1 y.2.1) (law25_IpfragLimits_K4 N) :=
 Blk.loopAt (Nf := N) (hns := [3, 4, 5, 7]) (ans := [3, 4, 5]) (hc := law25_IpfragLimits_S0) (ac := law25_IpfragLimits_S1) (bid := 2) (step := (fun y => law25_IpfragLimits_s7 N y.1.1 y.1.2.1 y.1.2.2.1 y.2.1)) (J := (fun e => (law25_IpfragLimits_K4 N .normal) (law25_IpfragLimits_S1.st [3, 4, 5] e))) hb (by kernel_rfl) (Blk.into (X := (law25_IpfragLimits_K4 N .normal)) (NxOk.end (by kernel_rfl)) (fun x => by kernel_rfl)) (law25_IpfragLimits_s7_b N hb) (fun x => by kernel_rfl)
theorem law25_IpfragLimits_5_b {E : Env} (N : Nat) (hb : Base Try.prog (law25_IpfragLimits_C N) E 0) : Blk Try.prog (law25_IpfragLimits_C N) E [3, 4, 5] law25_IpfragLimits_S1 (law25_IpfragLimits_L4b.drop 0) (fun y => law25_IpfragLimits_5 N y.1.1 y.1.2.1 y.2.1) (law25_IpfragLimits_K4 N) :=
 Blk.chunkAt hb 5 (X := (goK 0 [3, 4, 5, 7] law25_IpfragLimits_S0 (fun y => law25_IpfragLimits_6 N y.1.1 y.1.2.1 y.1.2.2.1 y.2.1))) (NxOk.go hb (law25_IpfragLimits_6_b N hb)) rfl (fun x => by kernel_rfl)
theorem law25_IpfragLimits_3_b {E : Env} (N : Nat) (hb : Base Try.prog (law25_IpfragLimits_C N) E 0) : Blk Try.prog (law25_IpfragLimits_C N) E [3, 4, 5] law25_IpfragLimits_S1 (law25_IpfragLimits_L2.drop 2) (fun y => law25_IpfragLimits_3 N y.1.1 y.1.2.1 y.2.1) (law25_IpfragLimits_K2 N) :=
 Blk.blockAt (bid := 1) (X := (goK 0 [3, 4, 5] law25_IpfragLimits_S1 (fun y => law25_IpfragLimits_8 N y.1.1 y.1.2.1 y.2.1))) (Y := (goK 0 [3, 4, 5] law25_IpfragLimits_S1 (fun y => law25_IpfragLimits_5 N y.1.1 y.1.2.1 y.2.1))) (by kernel_rfl) (NxOk.go hb (law25_IpfragLimits_8_b N hb)) (NxOk.go hb (law25_IpfragLimits_5_b N hb)) (fun x => by kernel_rfl)
theorem law25_IpfragLimits_s2_b {E : Env} (N : Nat) (hb : Base Try.prog (law25_IpfragLimits_C N) E 0) : Blk Try.prog (law25_IpfragLimits_C N) E [3, 4, 5] law25_IpfragLimits_S1 (law25_IpfragLimits_L2.drop 0) (fun y => law25_IpfragLimits_s2 N y.1.1 y.1.2.1 y.2.1) (law25_IpfragLimits_K2 N) :=
 Blk.chunkAt hb 2 (X := (goK 0 [3, 4, 5] law25_IpfragLimits_S1 (fun y => law25_IpfragLimits_3 N y.1.1 y.1.2.1 y.2.1))) (NxOk.go hb (law25_IpfragLimits_3_b N hb)) rfl (fun x => by kernel_rfl)
theorem law25_IpfragLimits_9_b {E : Env} (N : Nat) (hb : Base Try.prog (law25_IpfragLimits_C N) E 0) : Blk Try.prog (law25_IpfragLimits_C N) E [4] law25_IpfragLimits_S2 (law25_IpfragLimits_L.drop 7) (fun y => law25_IpfragLimits_9 N y.1.1) (law25_IpfragLimits_K N) :=
 Blk.chunkAt hb 2 (X := (law25_IpfragLimits_K N .normal)) (NxOk.end (by kernel_rfl)) rfl (fun x => by kernel_rfl)
theorem law25_IpfragLimits_1_b {E : Env} (N : Nat) (hb : Base Try.prog (law25_IpfragLimits_C N) E 0) : Blk Try.prog (law25_IpfragLimits_C N) E [3, 4, 5] law25_IpfragLimits_S3 (law25_IpfragLimits_L.drop 6) (fun y => law25_IpfragLimits_1 N y.1.1 y.2.1 y.2.2.1) (law25_IpfragLimits_K N) :=
 Blk.loopAt (Nf := N) (hns := [3, 4, 5]) (ans := [4]) (hc := law25_IpfragLimits_S1) (ac := law25_IpfragLimits_S2) (bid := 0) (step := (fun y => law25_IpfragLimits_s2 N y.1.1 y.1.2.1 y.2.1)) (J := (fun e => (goK 0 [4] law25_IpfragLimits_S2 (fun y => law25_IpfragLimits_9 N y.1.1)) (law25_IpfragLimits_S2.st [4] e))) hb (by kernel_rfl) (Blk.into (X := (goK 0 [4] law25_IpfragLimits_S2 (fun y => law25_IpfragLimits_9 N y.1.1))) (NxOk.go hb (law25_IpfragLimits_9_b N hb)) (fun x => by kernel_rfl)) (law25_IpfragLimits_s2_b N hb) (fun x => by kernel_rfl)
theorem law25_IpfragLimits_b {E : Env} (N : Nat) (hb : Base Try.prog (law25_IpfragLimits_C N) E 0) : Blk Try.prog (law25_IpfragLimits_C N) E (List.range law25_IpfragLimits_S4.ks.length) law25_IpfragLimits_S4 (law25_IpfragLimits_L.drop 0) (fun y => law25_IpfragLimits N y.1.1) (law25_IpfragLimits_K N) :=
 Blk.chunkAt hb 6 (X := (goK 0 [3, 4, 5] law25_IpfragLimits_S3 (fun y => law25_IpfragLimits_1 N y.1.1 y.2.1 y.2.2.1))) (NxOk.go hb (law25_IpfragLimits_1_b N hb)) rfl (fun x => by kernel_rfl)
def law25_IpfragLimits_ctr (N : Nat) : Ctr := ⟨law25_IpfragLimits_S4, law25_IpfragLimits_S5.un [false], 0, (fun y => law25_IpfragLimits N y.1.1)⟩
theorem law25_IpfragLimits_ctrs (N : Nat) : CtrsOk Try.prog (law25_IpfragLimits_C N) := ctrs_of (Γ := law25_IpfragLimits_C N) G_ifs_ok (by
 intro p hp
 simp only [law25_IpfragLimits_C, List.mem_cons, List.not_mem_nil, or_false] at hp
 rcases hp with rfl | rfl | rfl | rfl | rfl | rfl | rfl
 · exact law25_awake_ok N
 · exact draw_New_ok N
 · exact draw_Codes_Packet_ok N
 · exact draw_Codes_Next_ok N
 · exact law25_bytes_ok N
 · exact ipfrag_Add_ok N
 · exact ipfrag_Held_ok N)
theorem law25_IpfragLimits_ok (N : Nat) : Ctr.ok Try.prog G_globs 14 (law25_IpfragLimits_ctr N) :=
 ctr_fn (Γ := law25_IpfragLimits_C N) (rfit := law25_IpfragLimits_S5) (bs := [false]) (res := [2]) (by kernel_rfl) (tys_ok G_tys_ok) (law25_IpfragLimits_ctrs N) Try.func14 (by kernel_rfl) (by kernel_rfl) Try.ntmps14 (by kernel_rfl) (by kernel_rfl) (by kernel_rfl) (by kernel_rfl) (fun E hb => law25_IpfragLimits_b N hb)
end
end Go.Proofs.Ytgbkkfpheahdfaa