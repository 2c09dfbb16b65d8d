/- Functions of the program as plain functions, each with the proof that the text computes it. -/
import Derived.Test.YtofajgidjkjnpaaGreatDoorFnsEspModesA
import Derived.Test.YtofajgidjkjnpaaGreatDoorFnsEspModesB
set_option linter.unusedVariables false
set_option linter.unusedSimpArgs false
namespace Go.Proofs.YtofajgidjkjnpaaGreatDoor
open Go
set_option maxRecDepth 100000
set_option linter.unusedVariables false
/-! ipsecgate/esp.wrap_esp.Tunnel$1 -/
abbrev esp_wrap_esp_Tunnel_f1_R : Type := ((Int × Unit) × ((List UInt8) × Unit))
noncomputable def esp_wrap_esp_Tunnel_f1 (N : Nat) (key_0 : (List UInt8)) (spi_1 : UInt32) (number_2 : UInt64) (next_3 : Int) (payload_4 : (List UInt8)) (build_5_0 : D28) (build_5_1 : D28) : Option esp_wrap_esp_Tunnel_f1_R :=
 Option.bind (esp_Seal N key_0 spi_1 number_2 next_3 payload_4 (0 : Int)) fun y1 =>
 bif (!(decide (y1.1.1 = (0 : Int)))) then
 some ((y1.1.1, ()), (([] : List UInt8), ()))
 else
 Option.bind (esp_Tunnel_f1 N y1.2.1 build_5_0 build_5_1) fun y3 =>
 some ((y3.1.1, ()), (y3.2.1, ()))
noncomputable def esp_wrap_esp_Tunnel_f1_C (N : Nat) : Ctx := ⟨33, G_tys, [(19, esp_Seal_ctr N), (31, esp_Tunnel_f1_ctr N)], G_globs, G_ifs⟩
noncomputable def esp_wrap_esp_Tunnel_f1_S0 : Spec := ⟨[.val (.sl .u8), .val .u32, .val .u64, .val .i64, .val (.sl .u8), .clo 31 [(0, T28), (1, T28)]], [(.box 29 T28, .cap 5 0), (.box 29 T28, .cap 5 1)]⟩
noncomputable def esp_wrap_esp_Tunnel_f1_S1 : Spec := ⟨[.row 0, .val .i64], [(.row 5 .u8, .pos 0)]⟩
noncomputable def esp_wrap_esp_Tunnel_f1_K (_N : Nat) : XE → GS → Option esp_wrap_esp_Tunnel_f1_R := retK 0 [12, 13] [false, false] esp_wrap_esp_Tunnel_f1_S1
noncomputable def esp_wrap_esp_Tunnel_f1_L : List Code := (bodyOf (some Tryz.f29))
theorem esp_wrap_esp_Tunnel_f1_b {E : Env} (N : Nat) (hb : Base Tryz.prog (esp_wrap_esp_Tunnel_f1_C N) E 0) : Blk Tryz.prog (esp_wrap_esp_Tunnel_f1_C N) E (List.range esp_wrap_esp_Tunnel_f1_S0.ks.length) esp_wrap_esp_Tunnel_f1_S0 (esp_wrap_esp_Tunnel_f1_L.drop 0) (fun y => esp_wrap_esp_Tunnel_f1 N y.1.1 y.1.2.1 y.1.2.2.1 y.1.2.2.2.1 y.1.2.2.2.2.1 y.2.1 y.2.2.1) (esp_wrap_esp_Tunnel_f1_K N) :=
 Blk.chunkAt hb 6 (X := (esp_wrap_esp_Tunnel_f1_K N .normal)) (NxOk.end (by kernel_rfl)) rfl (fun x => by kernel_rfl)
noncomputable def esp_wrap_esp_Tunnel_f1_ctr (N : Nat) : Ctr := ⟨esp_wrap_esp_Tunnel_f1_S0, esp_wrap_esp_Tunnel_f1_S1.un [false, false], 0, (fun y => esp_wrap_esp_Tunnel_f1 N y.1.1 y.1.2.1 y.1.2.2.1 y.1.2.2.2.1 y.1.2.2.2.2.1 y.2.1 y.2.2.1)⟩
theorem esp_wrap_esp_Tunnel_f1_ctrs (N : Nat) : CtrsOk Tryz.prog (esp_wrap_esp_Tunnel_f1_C N) := ctrs_of (Γ := esp_wrap_esp_Tunnel_f1_C N) G_ifs_ok (by
 intro p hp
 simp only [esp_wrap_esp_Tunnel_f1_C, List.mem_cons, List.not_mem_nil, or_false] at hp
 rcases hp with rfl | rfl
 · exact esp_Seal_ok N
 · exact esp_Tunnel_f1_ok N)
theorem esp_wrap_esp_Tunnel_f1_ok (N : Nat) : Ctr.ok Tryz.prog G_globs 29 (esp_wrap_esp_Tunnel_f1_ctr N) :=
 ctr_fn (Γ := esp_wrap_esp_Tunnel_f1_C N) (rfit := esp_wrap_esp_Tunnel_f1_S1) (bs := [false, false]) (res := [12, 13]) (by kernel_rfl) (tys_ok G_tys_ok) (esp_wrap_esp_Tunnel_f1_ctrs N) Tryz.func29 (by kernel_rfl) (by kernel_rfl) Tryz.ntmps29 (by kernel_rfl) (by kernel_rfl) (by kernel_rfl) (by kernel_rfl) (fun E hb => esp_wrap_esp_Tunnel_f1_b N hb)
/-! ipsecgate/esp.Tunnel -/
abbrev esp_Tunnel_R : Type := ((Int × Unit) × ((List UInt8) × Unit))
noncomputable def esp_Tunnel (N : Nat) (key_0 : (List UInt8)) (spi_1 : UInt32) (number_2 : UInt64) (from_3 : D28) (to_4 : D28) (inner_5 : (List UInt8)) : Option esp_Tunnel_R :=
 Option.bind (lookup_See N inner_5) fun y1 =>
 bif (!(decide (y1.1.2.1 = (0 : Int)))) then
 some ((y1.1.2.1, ()), (([] : List UInt8), ()))
 else
 bif inR (0 : Int) inner_5.length then
 Option.bind (esp_whole N ((shr8 (inner_5.getD 0 (0 : UInt8)) 4).toNat : Int)) fun y6 =>
 Option.bind (esp_wrap_esp_Tunnel_f1 N key_0 spi_1 number_2 y6.1.1 inner_5 from_3 to_4) fun y7 =>
 some ((y7.1.1, ()), (y7.2.1, ()))
 else none
noncomputable def esp_Tunnel_C (N : Nat) : Ctx := ⟨38, G_tys, [(28, lookup_See_ctr N), (30, esp_whole_ctr N), (29, esp_wrap_esp_Tunnel_f1_ctr N)], G_globs, G_ifs⟩
noncomputable def esp_Tunnel_S0 : Spec := ⟨[.val (.sl .u8), .val .u32, .val .u64, .val T28, .val T28, .val (.sl .u8)], []⟩
noncomputable def esp_Tunnel_S1 : Spec := ⟨[.row 0, .val .i64], [(.row 5 .u8, .pos 0)]⟩
noncomputable def esp_Tunnel_K (_N : Nat) : XE → GS → Option esp_Tunnel_R := retK 0 [12, 13] [false, false] esp_Tunnel_S1
noncomputable def esp_Tunnel_L : List Code := (bodyOf (some Tryz.f12))
theorem esp_Tunnel_b {E : Env} (N : Nat) (hb : Base Tryz.prog (esp_Tunnel_C N) E 0) : Blk Tryz.prog (esp_Tunnel_C N) E (List.range esp_Tunnel_S0.ks.length) esp_Tunnel_S0 (esp_Tunnel_L.drop 0) (fun y => esp_Tunnel N y.1.1 y.1.2.1 y.1.2.2.1 y.1.2.2.2.1 y.1.2.2.2.2.1 y.1.2.2.2.2.2.1) (esp_Tunnel_K N) :=
 Blk.chunkAt hb 6 (X := (esp_Tunnel_K N .normal)) (NxOk.end (by kernel_rfl)) rfl (fun x => by kernel_rfl)
noncomputable def esp_Tunnel_ctr (N : Nat) : Ctr := ⟨esp_Tunnel_S0, esp_Tunnel_S1.un [false, false], 0, (fun y => esp_Tunnel N y.1.1 y.1.2.1 y.1.2.2.1 y.1.2.2.2.1 y.1.2.2.2.2.1 y.1.2.2.2.2.2.1)⟩
theorem esp_Tunnel_ctrs (N : Nat) : CtrsOk Tryz.prog (esp_Tunnel_C N) := ctrs_of (Γ := esp_Tunnel_C N) G_ifs_ok (by
 intro p hp
 simp only [esp_Tunnel_C, List.mem_cons, List.not_mem_nil, or_false] at hp
 rcases hp with rfl | rfl | rfl
 · exact lookup_See_ok N
 · exact esp_whole_ok N
 · exact esp_wrap_esp_Tunnel_f1_ok N)
theorem esp_Tunnel_ok (N : Nat) : Ctr.ok Tryz.prog G_globs 12 (esp_Tunnel_ctr N) :=
 ctr_fn (Γ := esp_Tunnel_C N) (rfit := esp_Tunnel_S1) (bs := [false, false]) (res := [12, 13]) (by kernel_rfl) (tys_ok G_tys_ok) (esp_Tunnel_ctrs N) Tryz.func12 (by kernel_rfl) (by kernel_rfl) Tryz.ntmps12 (by kernel_rfl) (by kernel_rfl) (by kernel_rfl) (by kernel_rfl) (fun E hb => esp_Tunnel_b N hb)
/-! ipsecgate/ipsecgateref24.SameBytes -/
abbrev ref24_SameBytes_R : Type := ((Bool × Unit) × (Unit))
noncomputable def ref24_SameBytes_s2 (N : Nat) (a_0 : (List UInt8)) (b_1 : (List UInt8)) (i_5 : Int) : Option (Lo (((List UInt8) × (List UInt8) × Int × Unit) × (Unit)) ((Unit) × (Unit)) ref24_SameBytes_R) :=
 bif (decide (i_5 < (a_0.length : Int))) then
 bif inR i_5 a_0.length then
 bif inR i_5 b_1.length then
 bif (!(decide ((a_0.getD i_5.toNat (0 : UInt8)) = (b_1.getD i_5.toNat (0 : UInt8))))) then
 some (.rt ((false, ()), (())))
 else
 some (.go ((a_0, b_1, (w64 (i_5 + (1 : Int))), ()), (())))
 else none
 else none
 else
 some (.br ((()), (())))
noncomputable def ref24_SameBytes_3 (N : Nat) : Option ref24_SameBytes_R :=
 some ((true, ()), (()))
noncomputable def ref24_SameBytes_1 (N : Nat) (a_0 : (List UInt8)) (b_1 : (List UInt8)) (i_5 : Int) : Option ref24_SameBytes_R :=
 loopK N (fun y => ref24_SameBytes_s2 N y.1.1 y.1.2.1 y.1.2.2.1) (fun (e : ((Unit) × (Unit))) => ref24_SameBytes_3 N) ((a_0, b_1, i_5, ()), (()))
noncomputable def ref24_SameBytes (N : Nat) (a_0 : (List UInt8)) (b_1 : (List UInt8)) : Option ref24_SameBytes_R :=
 bif (!(decide ((a_0.length : Int) = (b_1.length : Int)))) then
 some ((false, ()), (()))
 else
 ref24_SameBytes_1 N a_0 b_1 (0 : Int)
noncomputable def ref24_SameBytes_C (N : Nat) : Ctx := ⟨26, G_tys, [], G_globs, G_ifs⟩
noncomputable def ref24_SameBytes_S0 : Spec := ⟨[.val (.sl .u8), .val (.sl .u8), .val .i64], []⟩
noncomputable def ref24_SameBytes_S1 : Spec := ⟨[], []⟩
noncomputable def ref24_SameBytes_S2 : Spec := ⟨[.val (.sl .u8), .val (.sl .u8)], []⟩
noncomputable def ref24_SameBytes_S3 : Spec := ⟨[.val .bool], []⟩
noncomputable def ref24_SameBytes_K (_N : Nat) : XE → GS → Option ref24_SameBytes_R := retK 0 [4] [false] ref24_SameBytes_S3
noncomputable def ref24_SameBytes_L : List Code := (bodyOf (some Tryz.f13))
noncomputable def ref24_SameBytes_L2 : List Code := (loopOf (ref24_SameBytes_L[4]?))
noncomputable def ref24_SameBytes_K2 (N : Nat) : XE → GS → Option (Lo (((List UInt8) × (List UInt8) × Int × Unit) × (Unit)) ((Unit) × (Unit)) ref24_SameBytes_R) := roundK (some 0) (fit 0 [0, 1, 5] ref24_SameBytes_S0) (fit 0 [] ref24_SameBytes_S1) (ref24_SameBytes_K N)
theorem ref24_SameBytes_s2_b {E : Env} (N : Nat) (hb : Base Tryz.prog (ref24_SameBytes_C N) E 0) : Blk Tryz.prog (ref24_SameBytes_C N) E [0, 1, 5] ref24_SameBytes_S0 (ref24_SameBytes_L2.drop 0) (fun y => ref24_SameBytes_s2 N y.1.1 y.1.2.1 y.1.2.2.1) (ref24_SameBytes_K2 N) :=
 Blk.chunkAt hb 4 (X := (ref24_SameBytes_K2 N .normal)) (NxOk.end (by kernel_rfl)) rfl (fun x => by kernel_rfl)
theorem ref24_SameBytes_3_b {E : Env} (N : Nat) (hb : Base Tryz.prog (ref24_SameBytes_C N) E 0) : Blk Tryz.prog (ref24_SameBytes_C N) E [] ref24_SameBytes_S1 (ref24_SameBytes_L.drop 5) (fun y => ref24_SameBytes_3 N) (ref24_SameBytes_K N) :=
 Blk.chunkAt hb 2 (X := (ref24_SameBytes_K N .normal)) (NxOk.end (by kernel_rfl)) rfl (fun x => by kernel_rfl)
theorem ref24_SameBytes_1_b {E : Env} (N : Nat) (hb : Base Tryz.prog (ref24_SameBytes_C N) E 0) : Blk Tryz.prog (ref24_SameBytes_C N) E [0, 1, 5] ref24_SameBytes_S0 (ref24_SameBytes_L.drop 4) (fun y => ref24_SameBytes_1 N y.1.1 y.1.2.1 y.1.2.2.1) (ref24_SameBytes_K N) :=
 Blk.loopAt (Nf := N) (hns := [0, 1, 5]) (ans := []) (hc := ref24_SameBytes_S0) (ac := ref24_SameBytes_S1) (bid := 0) (step := (fun y => ref24_SameBytes_s2 N y.1.1 y.1.2.1 y.1.2.2.1)) (J := (fun e => (goK 0 [] ref24_SameBytes_S1 (fun y => ref24_SameBytes_3 N)) (ref24_SameBytes_S1.st [] e))) hb (by kernel_rfl) (Blk.into (X := (goK 0 [] ref24_SameBytes_S1 (fun y => ref24_SameBytes_3 N))) (NxOk.go hb (ref24_SameBytes_3_b N hb)) (fun x => by kernel_rfl)) (ref24_SameBytes_s2_b N hb) (fun x => by kernel_rfl)
theorem ref24_SameBytes_b {E : Env} (N : Nat) (hb : Base Tryz.prog (ref24_SameBytes_C N) E 0) : Blk Tryz.prog (ref24_SameBytes_C N) E (List.range ref24_SameBytes_S2.ks.length) ref24_SameBytes_S2 (ref24_SameBytes_L.drop 0) (fun y => ref24_SameBytes N y.1.1 y.1.2.1) (ref24_SameBytes_K N) :=
 Blk.chunkAt hb 4 (X := (goK 0 [0, 1, 5] ref24_SameBytes_S0 (fun y => ref24_SameBytes_1 N y.1.1 y.1.2.1 y.1.2.2.1))) (NxOk.go hb (ref24_SameBytes_1_b N hb)) rfl (fun x => by kernel_rfl)
noncomputable def ref24_SameBytes_ctr (N : Nat) : Ctr := ⟨ref24_SameBytes_S2, ref24_SameBytes_S3.un [false], 0, (fun y => ref24_SameBytes N y.1.1 y.1.2.1)⟩
theorem ref24_SameBytes_ctrs (N : Nat) : CtrsOk Tryz.prog (ref24_SameBytes_C N) := ctrs_nil G_ifs_ok rfl
theorem ref24_SameBytes_ok (N : Nat) : Ctr.ok Tryz.prog G_globs 13 (ref24_SameBytes_ctr N) :=
 ctr_fn (Γ := ref24_SameBytes_C N) (rfit := ref24_SameBytes_S3) (bs := [false]) (res := [4]) (by kernel_rfl) (tys_ok G_tys_ok) (ref24_SameBytes_ctrs N) Tryz.func13 (by kernel_rfl) (by kernel_rfl) Tryz.ntmps13 (by kernel_rfl) (by kernel_rfl) (by kernel_rfl) (by kernel_rfl) (fun E hb => ref24_SameBytes_b N hb)
/-! ipsecgate/esp.Untunnel -/
abbrev esp_Untunnel_R : Type := (((List UInt8) × Int × Unit) × (Unit))
noncomputable def esp_Untunnel_1 (N : Nat) (inner_10 : (List UInt8)) (next_11 : Int) : Option esp_Untunnel_R :=
 Option.bind (lookup_See N inner_10) fun y9 =>
 bif (!(decide (y9.1.2.1 = (0 : Int)))) then
 some ((([] : List UInt8), y9.1.2.1, ()), (()))
 else
 Option.bind (esp_whole N y9.1.1.1.1.1) fun y11 =>
 bif (!(decide (y11.1.1 = next_11))) then
 some ((([] : List UInt8), (15 : Int), ()), (()))
 else
 some ((inner_10, (0 : Int), ()), (()))
noncomputable def esp_Untunnel (N : Nat) (key_0 : (List UInt8)) (b_1 : (List UInt8)) (number_2 : UInt64) : Option esp_Untunnel_R :=
 Option.bind (lookup_See N b_1) fun y1 =>
 bif (!(decide (y1.1.2.1 = (0 : Int)))) then
 some ((([] : List UInt8), y1.1.2.1, ()), (()))
 else
 bif y1.1.1.2.2.2.1 then
 some ((([] : List UInt8), (21 : Int), ()), (()))
 else
 bif (!(decide (y1.1.1.1.2.2.1 = (50 : Int)))) then
 some ((([] : List UInt8), (4 : Int), ()), (()))
 else
 bif decide (0 ≤ y1.1.1.2.2.2.2.1) && decide (y1.1.1.2.2.2.2.1 ≤ (b_1.length : Int)) && decide ((b_1.length : Int) ≤ (b_1.length : Int)) && true then
 Option.bind (esp_Open N key_0 (cut b_1 y1.1.1.2.2.2.2.1.toNat b_1.length) number_2) fun y5 =>
 bif (!(decide (y5.1.2.2.1 = (0 : Int)))) then
 some ((([] : List UInt8), y5.1.2.2.1, ()), (()))
 else
 bif (!(decide (y5.1.2.1 = (4 : Int)))) then
 bif (!(decide (y5.1.2.1 = (41 : Int)))) then
 some ((([] : List UInt8), (4 : Int), ()), (()))
 else
 esp_Untunnel_1 N y5.1.1 y5.1.2.1
 else
 esp_Untunnel_1 N y5.1.1 y5.1.2.1
 else none
noncomputable def esp_Untunnel_C (N : Nat) : Ctx := ⟨70, G_tys, [(28, lookup_See_ctr N), (20, esp_Open_ctr N), (30, esp_whole_ctr N)], G_globs, G_ifs⟩
noncomputable def esp_Untunnel_S0 : Spec := ⟨[.val (.sl .u8), .val .i64], []⟩
noncomputable def esp_Untunnel_S1 : Spec := ⟨[.val (.sl .u8), .val (.sl .u8), .val .u64], []⟩
noncomputable def esp_Untunnel_K (_N : Nat) : XE → GS → Option esp_Untunnel_R := retK 0 [6, 7] [false, false] esp_Untunnel_S0
noncomputable def esp_Untunnel_L : List Code := (bodyOf (some Tryz.f14))
theorem esp_Untunnel_1_b {E : Env} (N : Nat) (hb : Base Tryz.prog (esp_Untunnel_C N) E 0) : Blk Tryz.prog (esp_Untunnel_C N) E [10, 11] esp_Untunnel_S0 (esp_Untunnel_L.drop 5) (fun y => esp_Untunnel_1 N y.1.1 y.1.2.1) (esp_Untunnel_K N) :=
 Blk.chunkAt hb 4 (X := (esp_Untunnel_K N .normal)) (NxOk.end (by kernel_rfl)) rfl (fun x => by kernel_rfl)
theorem esp_Untunnel_b {E : Env} (N : Nat) (hb : Base Tryz.prog (esp_Untunnel_C N) E 0) : Blk Tryz.prog (esp_Untunnel_C N) E (List.range esp_Untunnel_S1.ks.length) esp_Untunnel_S1 (esp_Untunnel_L.drop 0) (fun y => esp_Untunnel N y.1.1 y.1.2.1 y.1.2.2.1) (esp_Untunnel_K N) :=
 Blk.chunkAt hb 5 (X := (goK 0 [10, 11] esp_Untunnel_S0 (fun y => esp_Untunnel_1 N y.1.1 y.1.2.1))) (NxOk.go hb (esp_Untunnel_1_b N hb)) rfl (fun x => by kernel_rfl)
noncomputable def esp_Untunnel_ctr (N : Nat) : Ctr := ⟨esp_Untunnel_S1, esp_Untunnel_S0.un [false, false], 0, (fun y => esp_Untunnel N y.1.1 y.1.2.1 y.1.2.2.1)⟩
theorem esp_Untunnel_ctrs (N : Nat) : CtrsOk Tryz.prog (esp_Untunnel_C N) := ctrs_of (Γ := esp_Untunnel_C N) G_ifs_ok (by
 intro p hp
 simp only [esp_Untunnel_C, List.mem_cons, List.not_mem_nil, or_false] at hp
 rcases hp with rfl | rfl | rfl
 · exact lookup_See_ok N
 · exact esp_Open_ok N
 · exact esp_whole_ok N)
theorem esp_Untunnel_ok (N : Nat) : Ctr.ok Tryz.prog G_globs 14 (esp_Untunnel_ctr N) :=
 ctr_fn (Γ := esp_Untunnel_C N) (rfit := esp_Untunnel_S0) (bs := [false, false]) (res := [6, 7]) (by kernel_rfl) (tys_ok G_tys_ok) (esp_Untunnel_ctrs N) Tryz.func14 (by kernel_rfl) (by kernel_rfl) Tryz.ntmps14 (by kernel_rfl) (by kernel_rfl) (by kernel_rfl) (by kernel_rfl) (fun E hb => esp_Untunnel_b N hb)
/-! ipsecgate/ipsecgateref24.get -/
abbrev ref24_get_R : Type := ((UInt64 × Unit) × (Unit))
noncomputable def ref24_get_s2 (N : Nat) (b_0 : (List UInt8)) (v_3 : UInt64) (i_4 : Int) : Option (Lo (((List UInt8) × UInt64 × Int × Unit) × (Unit)) ((UInt64 × Unit) × (Unit)) ref24_get_R) :=
 bif (decide (i_4 < (b_0.length : Int))) then
 bif inR i_4 b_0.length then
 some (.go ((b_0, ((shl64 v_3 8) ||| (b_0.getD i_4.toNat (0 : UInt8)).toUInt64), (w64 (i_4 + (1 : Int))), ()), (())))
 else none
 else
 some (.br ((v_3, ()), (())))
noncomputable def ref24_get_3 (N : Nat) (v_3 : UInt64) : Option ref24_get_R :=
 some ((v_3, ()), (()))
noncomputable def ref24_get_1 (N : Nat) (b_0 : (List UInt8)) (v_3 : UInt64) (i_4 : Int) : Option ref24_get_R :=
 loopK N (fun y => ref24_get_s2 N y.1.1 y.1.2.1 y.1.2.2.1) (fun (e : ((UInt64 × Unit) × (Unit))) => ref24_get_3 N e.1.1) ((b_0, v_3, i_4, ()), (()))
noncomputable def ref24_get (N : Nat) (b_0 : (List UInt8)) : Option ref24_get_R :=
 ref24_get_1 N b_0 (0 : UInt64) (0 : Int)
noncomputable def ref24_get_C (N : Nat) : Ctx := ⟨20, G_tys, [], G_globs, G_ifs⟩
noncomputable def ref24_get_S0 : Spec := ⟨[.val (.sl .u8), .val .u64, .val .i64], []⟩
noncomputable def ref24_get_S1 : Spec := ⟨[.val .u64], []⟩
noncomputable def ref24_get_S2 : Spec := ⟨[.val (.sl .u8)], []⟩
noncomputable def ref24_get_K (_N : Nat) : XE → GS → Option ref24_get_R := retK 0 [2] [false] ref24_get_S1
noncomputable def ref24_get_L : List Code := (bodyOf (some Tryz.f58))
noncomputable def ref24_get_L2 : List Code := (loopOf (ref24_get_L[3]?))
noncomputable def ref24_get_K2 (N : Nat) : XE → GS → Option (Lo (((List UInt8) × UInt64 × Int × Unit) × (Unit)) ((UInt64 × Unit) × (Unit)) ref24_get_R) := roundK (some 0) (fit 0 [0, 3, 4] ref24_get_S0) (fit 0 [3] ref24_get_S1) (ref24_get_K N)
theorem ref24_get_s2_b {E : Env} (N : Nat) (hb : Base Tryz.prog (ref24_get_C N) E 0) : Blk Tryz.prog (ref24_get_C N) E [0, 3, 4] ref24_get_S0 (ref24_get_L2.drop 0) (fun y => ref24_get_s2 N y.1.1 y.1.2.1 y.1.2.2.1) (ref24_get_K2 N) :=
 Blk.chunkAt hb 4 (X := (ref24_get_K2 N .normal)) (NxOk.end (by kernel_rfl)) rfl (fun x => by kernel_rfl)
theorem ref24_get_3_b {E : Env} (N : Nat) (hb : Base Tryz.prog (ref24_get_C N) E 0) : Blk Tryz.prog (ref24_get_C N) E [3] ref24_get_S1 (ref24_get_L.drop 4) (fun y => ref24_get_3 N y.1.1) (ref24_get_K N) :=
 Blk.chunkAt hb 2 (X := (ref24_get_K N .normal)) (NxOk.end (by kernel_rfl)) rfl (fun x => by kernel_rfl)
theorem ref24_get_1_b {E : Env} (N : Nat) (hb : Base Tryz.prog (ref24_get_C N) E 0) : Blk Tryz.prog (ref24_get_C N) E [0, 3, 4] ref24_get_S0 (ref24_get_L.drop 3) (fun y => ref24_get_1 N y.1.1 y.1.2.1 y.1.2.2.1) (ref24_get_K N) :=
 Blk.loopAt (Nf := N) (hns := [0, 3, 4]) (ans := [3]) (hc := ref24_get_S0) (ac := ref24_get_S1) (bid := 0) (step := (fun y => ref24_get_s2 N y.1.1 y.1.2.1 y.1.2.2.1)) (J := (fun e => (goK 0 [3] ref24_get_S1 (fun y => ref24_get_3 N y.1.1)) (ref24_get_S1.st [3] e))) hb (by kernel_rfl) (Blk.into (X := (goK 0 [3] ref24_get_S1 (fun y => ref24_get_3 N y.1.1))) (NxOk.go hb (ref24_get_3_b N hb)) (fun x => by kernel_rfl)) (ref24_get_s2_b N hb) (fun x => by kernel_rfl)
theorem ref24_get_b {E : Env} (N : Nat) (hb : Base Tryz.prog (ref24_get_C N) E 0) : Blk Tryz.prog (ref24_get_C N) E (List.range ref24_get_S2.ks.length) ref24_get_S2 (ref24_get_L.drop 0) (fun y => ref24_get N y.1.1) (ref24_get_K N) :=
 Blk.chunkAt hb 3 (X := (goK 0 [0, 3, 4] ref24_get_S0 (fun y => ref24_get_1 N y.1.1 y.1.2.1 y.1.2.2.1))) (NxOk.go hb (ref24_get_1_b N hb)) rfl (fun x => by kernel_rfl)
noncomputable def ref24_get_ctr (N : Nat) : Ctr := ⟨ref24_get_S2, ref24_get_S1.un [false], 0, (fun y => ref24_get N y.1.1)⟩
theorem ref24_get_ctrs (N : Nat) : CtrsOk Tryz.prog (ref24_get_C N) := ctrs_nil G_ifs_ok rfl
theorem ref24_get_ok (N : Nat) : Ctr.ok Tryz.prog G_globs 58 (ref24_get_ctr N) :=
 ctr_fn (Γ := ref24_get_C N) (rfit := ref24_get_S1) (bs := [false]) (res := [2]) (by kernel_rfl) (tys_ok G_tys_ok) (ref24_get_ctrs N) Tryz.func58 (by kernel_rfl) (by kernel_rfl) Tryz.ntmps58 (by kernel_rfl) (by kernel_rfl) (by kernel_rfl) (by kernel_rfl) (fun E hb => ref24_get_b N hb)
/-! ipsecgate/ipsecgateref01.Compare -/
abbrev ref01_Compare_R : Type := ((Int × Unit) × (Unit))
noncomputable def ref01_Compare_3 (N : Nat) (a_0 : (List UInt8)) (b_1 : (List UInt8)) (i_5 : Int) (t_15 : Bool) : Option (Lo (((List UInt8) × (List UInt8) × Int × Unit) × (Unit)) (((List UInt8) × (List UInt8) × Unit) × (Unit)) ref01_Compare_R) :=
 bif t_15 then
 bif inR i_5 a_0.length then
 bif inR i_5 b_1.length then
 bif (decide ((a_0.getD i_5.toNat (0 : UInt8)) < (b_1.getD i_5.toNat (0 : UInt8)))) then
 some (.rt (((-1 : Int), ()), (())))
 else
 bif inR i_5 a_0.length then
 bif inR i_5 b_1.length then
 bif (decide ((b_1.getD i_5.toNat (0 : UInt8)) < (a_0.getD i_5.toNat (0 : UInt8)))) then
 some (.rt (((1 : Int), ()), (())))
 else
 some (.go ((a_0, b_1, (w64 (i_5 + (1 : Int))), ()), (())))
 else none
 else none
 else none
 else none
 else
 some (.br ((a_0, b_1, ()), (())))
noncomputable def ref01_Compare_s2 (N : Nat) (a_0 : (List UInt8)) (b_1 : (List UInt8)) (i_5 : Int) : Option (Lo (((List UInt8) × (List UInt8) × Int × Unit) × (Unit)) (((List UInt8) × (List UInt8) × Unit) × (Unit)) ref01_Compare_R) :=
 bif (decide (i_5 < (a_0.length : Int))) then
 ref01_Compare_3 N a_0 b_1 i_5 (decide (i_5 < (b_1.length : Int)))
 else
 ref01_Compare_3 N a_0 b_1 i_5 false
noncomputable def ref01_Compare_4 (N : Nat) (a_0 : (List UInt8)) (b_1 : (List UInt8)) : Option ref01_Compare_R :=
 bif (decide ((a_0.length : Int) < (b_1.length : Int))) then
 some (((-1 : Int), ()), (()))
 else
 bif (decide ((b_1.length : Int) < (a_0.length : Int))) then
 some (((1 : Int), ()), (()))
 else
 some (((0 : Int), ()), (()))
noncomputable def ref01_Compare_1 (N : Nat) (a_0 : (List UInt8)) (b_1 : (List UInt8)) (i_5 : Int) : Option ref01_Compare_R :=
 loopK N (fun y => ref01_Compare_s2 N y.1.1 y.1.2.1 y.1.2.2.1) (fun (e : (((List UInt8) × (List UInt8) × Unit) × (Unit))) => ref01_Compare_4 N e.1.1 e.1.2.1) ((a_0, b_1, i_5, ()), (()))
noncomputable def ref01_Compare (N : Nat) (a_0 : (List UInt8)) (b_1 : (List UInt8)) : Option ref01_Compare_R :=
 ref01_Compare_1 N a_0 b_1 (0 : Int)
noncomputable def ref01_Compare_C (N : Nat) : Ctx := ⟨48, G_tys, [], G_globs, G_ifs⟩
noncomputable def ref01_Compare_S0 : Spec := ⟨[.val (.sl .u8), .val (.sl .u8), .val .i64, .val .bool], []⟩
noncomputable def ref01_Compare_S1 : Spec := ⟨[.val (.sl .u8), .val (.sl .u8), .val .i64], []⟩
noncomputable def ref01_Compare_S2 : Spec := ⟨[.val (.sl .u8), .val (.sl .u8)], []⟩
noncomputable def ref01_Compare_S3 : Spec := ⟨[.val .i64], []⟩
noncomputable def ref01_Compare_K (_N : Nat) : XE → GS → Option ref01_Compare_R := retK 0 [4] [false] ref01_Compare_S3
noncomputable def ref01_Compare_L : List Code := (bodyOf (some Tryz.f82))
noncomputable def ref01_Compare_L2 : List Code := (loopOf (ref01_Compare_L[2]?))
noncomputable def ref01_Compare_K2 (N : Nat) : XE → GS → Option (Lo (((List UInt8) × (List UInt8) × Int × Unit) × (Unit)) (((List UInt8) × (List UInt8) × Unit) × (Unit)) ref01_Compare_R) := roundK (some 0) (fit 0 [0, 1, 5] ref01_Compare_S1) (fit 0 [0, 1] ref01_Compare_S2) (ref01_Compare_K N)
theorem ref01_Compare_3_b {E : Env} (N : Nat) (hb : Base Tryz.prog (ref01_Compare_C N) E 0) : Blk Tryz.prog (ref01_Compare_C N) E [0, 1, 5, 15] ref01_Compare_S0 (ref01_Compare_L2.drop 1) (fun y => ref01_Compare_3 N y.1.1 y.1.2.1 y.1.2.2.1 y.1.2.2.2.1) (ref01_Compare_K2 N) :=
 Blk.chunkAt hb 3 (X := (ref01_Compare_K2 N .normal)) (NxOk.end (by kernel_rfl)) rfl (fun x => by kernel_rfl)
theorem ref01_Compare_s2_b {E : Env} (N : Nat) (hb : Base Tryz.prog (ref01_Compare_C N) E 0) : Blk Tryz.prog (ref01_Compare_C N) E [0, 1, 5] ref01_Compare_S1 (ref01_Compare_L2.drop 0) (fun y => ref01_Compare_s2 N y.1.1 y.1.2.1 y.1.2.2.1) (ref01_Compare_K2 N) :=
 Blk.chunkAt hb 1 (X := (goK 0 [0, 1, 5, 15] ref01_Compare_S0 (fun y => ref01_Compare_3 N y.1.1 y.1.2.1 y.1.2.2.1 y.1.2.2.2.1))) (NxOk.go hb (ref01_Compare_3_b N hb)) rfl (fun x => by kernel_rfl)
theorem ref01_Compare_4_b {E : Env} (N : Nat) (hb : Base Tryz.prog (ref01_Compare_C N) E 0) : Blk Tryz.prog (ref01_Compare_C N) E [0, 1] ref01_Compare_S2 (ref01_Compare_L.drop 3) (fun y => ref01_Compare_4 N y.1.1 y.1.2.1) (ref01_Compare_K N) :=
 Blk.chunkAt hb 3 (X := (ref01_Compare_K N .normal)) (NxOk.end (by kernel_rfl)) rfl (fun x => by kernel_rfl)
theorem ref01_Compare_1_b {E : Env} (N : Nat) (hb : Base Tryz.prog (ref01_Compare_C N) E 0) : Blk Tryz.prog (ref01_Compare_C N) E [0, 1, 5] ref01_Compare_S1 (ref01_Compare_L.drop 2) (fun y => ref01_Compare_1 N y.1.1 y.1.2.1 y.1.2.2.1) (ref01_Compare_K N) :=
 Blk.loopAt (Nf := N) (hns := [0, 1, 5]) (ans := [0, 1]) (hc := ref01_Compare_S1) (ac := ref01_Compare_S2) (bid := 0) (step := (fun y => ref01_Compare_s2 N y.1.1 y.1.2.1 y.1.2.2.1)) (J := (fun e => (goK 0 [0, 1] ref01_Compare_S2 (fun y => ref01_Compare_4 N y.1.1 y.1.2.1)) (ref01_Compare_S2.st [0, 1] e))) hb (by kernel_rfl) (Blk.into (X := (goK 0 [0, 1] ref01_Compare_S2 (fun y => ref01_Compare_4 N y.1.1 y.1.2.1))) (NxOk.go hb (ref01_Compare_4_b N hb)) (fun x => by kernel_rfl)) (ref01_Compare_s2_b N hb) (fun x => by kernel_rfl)
theorem ref01_Compare_b {E : Env} (N : Nat) (hb : Base Tryz.prog (ref01_Compare_C N) E 0) : Blk Tryz.prog (ref01_Compare_C N) E (List.range ref01_Compare_S2.ks.length) ref01_Compare_S2 (ref01_Compare_L.drop 0) (fun y => ref01_Compare N y.1.1 y.1.2.1) (ref01_Compare_K N) :=
 Blk.chunkAt hb 2 (X := (goK 0 [0, 1, 5] ref01_Compare_S1 (fun y => ref01_Compare_1 N y.1.1 y.1.2.1 y.1.2.2.1))) (NxOk.go hb (ref01_Compare_1_b N hb)) rfl (fun x => by kernel_rfl)
noncomputable def ref01_Compare_ctr (N : Nat) : Ctr := ⟨ref01_Compare_S2, ref01_Compare_S3.un [false], 0, (fun y => ref01_Compare N y.1.1 y.1.2.1)⟩
theorem ref01_Compare_ctrs (N : Nat) : CtrsOk Tryz.prog (ref01_Compare_C N) := ctrs_nil G_ifs_ok rfl
theorem ref01_Compare_ok (N : Nat) : Ctr.ok Tryz.prog G_globs 82 (ref01_Compare_ctr N) :=
 ctr_fn (Γ := ref01_Compare_C N) (rfit := ref01_Compare_S3) (bs := [false]) (res := [4]) (by kernel_rfl) (tys_ok G_tys_ok) (ref01_Compare_ctrs N) Tryz.func82 (by kernel_rfl) (by kernel_rfl) Tryz.ntmps82 (by kernel_rfl) (by kernel_rfl) (by kernel_rfl) (by kernel_rfl) (fun E hb => ref01_Compare_b N hb)
/-! ipsecgate/ipsecgateref01.Equal -/
abbrev ref01_Equal_R : Type := ((Bool × Unit) × (Unit))
noncomputable def ref01_Equal (N : Nat) (a_0 : (List UInt8)) (b_1 : (List UInt8)) : Option ref01_Equal_R :=
 Option.bind (ref01_Compare N a_0 b_1) fun y1 =>
 some (((decide (y1.1.1 = (0 : Int))), ()), (()))
noncomputable def ref01_Equal_C (N : Nat) : Ctx := ⟨9, G_tys, [(82, ref01_Compare_ctr N)], G_globs, G_ifs⟩
noncomputable def ref01_Equal_S0 : Spec := ⟨[.val (.sl .u8), .val (.sl .u8)], []⟩
noncomputable def ref01_Equal_S1 : Spec := ⟨[.val .bool], []⟩
noncomputable def ref01_Equal_K (_N : Nat) : XE → GS → Option ref01_Equal_R := retK 0 [4] [false] ref01_Equal_S1
noncomputable def ref01_Equal_L : List Code := (bodyOf (some Tryz.f70))
theorem ref01_Equal_b {E : Env} (N : Nat) (hb : Base Tryz.prog (ref01_Equal_C N) E 0) : Blk Tryz.prog (ref01_Equal_C N) E (List.range ref01_Equal_S0.ks.length) ref01_Equal_S0 (ref01_Equal_L.drop 0) (fun y => ref01_Equal N y.1.1 y.1.2.1) (ref01_Equal_K N) :=
 Blk.chunkAt hb 3 (X := (ref01_Equal_K N .normal)) (NxOk.end (by kernel_rfl)) rfl (fun x => by kernel_rfl)
noncomputable def ref01_Equal_ctr (N : Nat) : Ctr := ⟨ref01_Equal_S0, ref01_Equal_S1.un [false], 0, (fun y => ref01_Equal N y.1.1 y.1.2.1)⟩
theorem ref01_Equal_ctrs (N : Nat) : CtrsOk Tryz.prog (ref01_Equal_C N) := ctrs_of (Γ := ref01_Equal_C N) G_ifs_ok (by
 intro p hp
 simp only [ref01_Equal_C, List.mem_cons, List.not_mem_nil, or_false] at hp
 rcases hp with rfl
 · exact ref01_Compare_ok N)
theorem ref01_Equal_ok (N : Nat) : Ctr.ok Tryz.prog G_globs 70 (ref01_Equal_ctr N) :=
 ctr_fn (Γ := ref01_Equal_C N) (rfit := ref01_Equal_S1) (bs := [false]) (res := [4]) (by kernel_rfl) (tys_ok G_tys_ok) (ref01_Equal_ctrs N) Tryz.func70 (by kernel_rfl) (by kernel_rfl) Tryz.ntmps70 (by kernel_rfl) (by kernel_rfl) (by kernel_rfl) (by kernel_rfl) (fun E hb => ref01_Equal_b N hb)
/-! ipsecgate/ipsecgateref12.Open -/
abbrev ref12_Open_R : Type := ((Int × Unit) × ((List UInt8) × Unit))
noncomputable def ref12_Open_1 (N : Nat) (key_0 : (List UInt8)) (nonce_1 : (List UInt8)) (data_2 : (List UInt8)) (sealed_3 : (List UInt8)) (t_22 : Bool) : Option ref12_Open_R :=
 bif t_22 then
 some (((13 : Int), ()), (([] : List UInt8), ()))
 else
 bif (decide ((sealed_3.length : Int) < (16 : Int))) then
 some (((1 : Int), ()), (([] : List UInt8), ()))
 else
 let x6 := w64 ((sealed_3.length : Int) - (16 : Int))
 bif decide (0 ≤ (0 : Int)) && decide ((0 : Int) ≤ x6) && decide (x6 ≤ (sealed_3.length : Int)) && true then
 Option.bind (ref12_Tag N key_0 nonce_1 data_2 (cut sealed_3 0 x6.toNat)) fun y8 =>
 bif decide (0 ≤ x6) && decide (x6 ≤ (sealed_3.length : Int)) && decide ((sealed_3.length : Int) ≤ (sealed_3.length : Int)) && true then
 Option.bind (ref01_Equal N y8.2.1 (cut sealed_3 x6.toNat sealed_3.length)) fun y10 =>
 bif (!y10.1.1) then
 some (((12 : Int), ()), (([] : List UInt8), ()))
 else
 bif decide (0 ≤ (0 : Int)) && decide ((0 : Int) ≤ x6) && decide (x6 ≤ (sealed_3.length : Int)) && true then
 Option.bind (ref10_Xor N key_0 (1 : UInt32) nonce_1 (cut sealed_3 0 x6.toNat)) fun y13 =>
 some (((0 : Int), ()), (y13.2.1, ()))
 else none
 else none
 else none
noncomputable def ref12_Open (N : Nat) (key_0 : (List UInt8)) (nonce_1 : (List UInt8)) (data_2 : (List UInt8)) (sealed_3 : (List UInt8)) : Option ref12_Open_R :=
 bif (!(decide ((key_0.length : Int) = (32 : Int)))) then
 ref12_Open_1 N key_0 nonce_1 data_2 sealed_3 true
 else
 ref12_Open_1 N key_0 nonce_1 data_2 sealed_3 (!(decide ((nonce_1.length : Int) = (12 : Int))))
noncomputable def ref12_Open_C (N : Nat) : Ctx := ⟨55, G_tys, [(68, ref12_Tag_ctr N), (70, ref01_Equal_ctr N), (67, ref10_Xor_ctr N)], G_globs, G_ifs⟩
noncomputable def ref12_Open_S0 : Spec := ⟨[.val (.sl .u8), .val (.sl .u8), .val (.sl .u8), .val (.sl .u8), .val .bool], []⟩
noncomputable def ref12_Open_S1 : Spec := ⟨[.val (.sl .u8), .val (.sl .u8), .val (.sl .u8), .val (.sl .u8)], []⟩
noncomputable def ref12_Open_S2 : Spec := ⟨[.row 0, .val .i64], [(.row 5 .u8, .pos 0)]⟩
noncomputable def ref12_Open_K (_N : Nat) : XE → GS → Option ref12_Open_R := retK 0 [8, 9] [false, false] ref12_Open_S2
noncomputable def ref12_Open_L : List Code := (bodyOf (some Tryz.f59))
theorem ref12_Open_1_b {E : Env} (N : Nat) (hb : Base Tryz.prog (ref12_Open_C N) E 0) : Blk Tryz.prog (ref12_Open_C N) E [0, 1, 2, 3, 22] ref12_Open_S0 (ref12_Open_L.drop 2) (fun y => ref12_Open_1 N y.1.1 y.1.2.1 y.1.2.2.1 y.1.2.2.2.1 y.1.2.2.2.2.1) (ref12_Open_K N) :=
 Blk.chunkAt hb 10 (X := (ref12_Open_K N .normal)) (NxOk.end (by kernel_rfl)) rfl (fun x => by kernel_rfl)
theorem ref12_Open_b {E : Env} (N : Nat) (hb : Base Tryz.prog (ref12_Open_C N) E 0) : Blk Tryz.prog (ref12_Open_C N) E (List.range ref12_Open_S1.ks.length) ref12_Open_S1 (ref12_Open_L.drop 0) (fun y => ref12_Open N y.1.1 y.1.2.1 y.1.2.2.1 y.1.2.2.2.1) (ref12_Open_K N) :=
 Blk.chunkAt hb 2 (X := (goK 0 [0, 1, 2, 3, 22] ref12_Open_S0 (fun y => ref12_Open_1 N y.1.1 y.1.2.1 y.1.2.2.1 y.1.2.2.2.1 y.1.2.2.2.2.1))) (NxOk.go hb (ref12_Open_1_b N hb)) rfl (fun x => by kernel_rfl)
noncomputable def ref12_Open_ctr (N : Nat) : Ctr := ⟨ref12_Open_S1, ref12_Open_S2.un [false, false], 0, (fun y => ref12_Open N y.1.1 y.1.2.1 y.1.2.2.1 y.1.2.2.2.1)⟩
theorem ref12_Open_ctrs (N : Nat) : CtrsOk Tryz.prog (ref12_Open_C N) := ctrs_of (Γ := ref12_Open_C N) G_ifs_ok (by
 intro p hp
 simp only [ref12_Open_C, List.mem_cons, List.not_mem_nil, or_false] at hp
 rcases hp with rfl | rfl | rfl
 · exact ref12_Tag_ok N
 · exact ref01_Equal_ok N
 · exact ref10_Xor_ok N)
theorem ref12_Open_ok (N : Nat) : Ctr.ok Tryz.prog G_globs 59 (ref12_Open_ctr N) :=
 ctr_fn (Γ := ref12_Open_C N) (rfit := ref12_Open_S2) (bs := [false, false]) (res := [8, 9]) (by kernel_rfl) (tys_ok G_tys_ok) (ref12_Open_ctrs N) Tryz.func59 (by kernel_rfl) (by kernel_rfl) Tryz.ntmps59 (by kernel_rfl) (by kernel_rfl) (by kernel_rfl) (by kernel_rfl) (fun E hb => ref12_Open_b N hb)
/-! ipsecgate/ipsecgateref24.Open -/
abbrev ref24_Open_R : Type := ((Int × Int × Unit) × ((List UInt8) × Unit))
noncomputable def ref24_Open_s3 (N : Nat) (plain_9 : (List UInt8)) (n_11 : Int) (end_12 : Int) (k_13 : Int) : Option (Lo (((List UInt8) × Int × Int × Int × Unit) × (Unit)) (((List UInt8) × Int × Unit) × (Unit)) ref24_Open_R) :=
 bif (decide (k_13 ≤ n_11)) then
 let x28 := w64 ((w64 (end_12 + k_13)) - (1 : Int))
 bif inR x28 plain_9.length then
 bif (!(decide ((plain_9.getD x28.toNat (0 : UInt8)) = (iu8 k_13)))) then
 some (.rt (((0 : Int), (4 : Int), ()), (([] : List UInt8), ())))
 else
 some (.go ((plain_9, n_11, end_12, (w64 (k_13 + (1 : Int))), ()), (())))
 else none
 else
 some (.br ((plain_9, end_12, ()), (())))
noncomputable def ref24_Open_4 (N : Nat) (plain_9 : (List UInt8)) (end_12 : Int) : Option ref24_Open_R :=
 bif decide (0 ≤ (0 : Int)) && decide ((0 : Int) ≤ end_12) && decide (end_12 ≤ (plain_9.length : Int)) && true then
 let x33 := cut plain_9 0 end_12.toNat
 bif room (0 + x33.length) 1 then
 let x35 := w64 ((plain_9.length : Int) - (1 : Int))
 bif inR x35 plain_9.length then
 some ((((plain_9.getD x35.toNat (0 : UInt8)).toNat : Int), (0 : Int), ()), (x33, ()))
 else none
 else none
 else none
noncomputable def ref24_Open_2 (N : Nat) (plain_9 : (List UInt8)) (n_11 : Int) (end_12 : Int) (k_13 : Int) : Option ref24_Open_R :=
 loopK N (fun y => ref24_Open_s3 N y.1.1 y.1.2.1 y.1.2.2.1 y.1.2.2.2.1) (fun (e : (((List UInt8) × Int × Unit) × (Unit))) => ref24_Open_4 N e.1.1 e.1.2.1) ((plain_9, n_11, end_12, k_13, ()), (()))
noncomputable def ref24_Open_1 (N : Nat) (plain_9 : (List UInt8)) (t_62 : Bool) : Option ref24_Open_R :=
 bif t_62 then
 some (((0 : Int), (2 : Int), ()), (([] : List UInt8), ()))
 else
 let x20 := w64 ((plain_9.length : Int) - (2 : Int))
 bif inR x20 plain_9.length then
 let x22 := ((plain_9.getD x20.toNat (0 : UInt8)).toNat : Int)
 ref24_Open_2 N plain_9 x22 (w64 ((w64 ((plain_9.length : Int) - (2 : Int))) - x22)) (1 : Int)
 else none
noncomputable def ref24_Open (N : Nat) (key_0 : (List UInt8)) (b_1 : (List UInt8)) (number_2 : UInt64) : Option ref24_Open_R :=
 bif (!(decide ((key_0.length : Int) = (36 : Int)))) then
 some (((0 : Int), (13 : Int), ()), (([] : List UInt8), ()))
 else
 bif (decide ((b_1.length : Int) < (24 : Int))) then
 some (((0 : Int), (1 : Int), ()), (([] : List UInt8), ()))
 else
 bif decide (0 ≤ (4 : Int)) && decide ((4 : Int) ≤ (8 : Int)) && decide ((8 : Int) ≤ (b_1.length : Int)) && true then
 Option.bind (ref24_get N (cut b_1 4 8)) fun y6 =>
 bif (!(decide (y6.1.1 = (number_2 &&& (4294967295 : UInt64))))) then
 some (((0 : Int), (22 : Int), ()), (([] : List UInt8), ()))
 else
 bif decide (0 ≤ (0 : Int)) && decide ((0 : Int) ≤ (32 : Int)) && decide ((32 : Int) ≤ (key_0.length : Int)) && true then
 bif decide (0 ≤ (32 : Int)) && decide ((32 : Int) ≤ (key_0.length : Int)) && decide ((key_0.length : Int) ≤ (key_0.length : Int)) && true then
 let x10 := cut key_0 32 key_0.length
 bif room (0 + x10.length) 1 then
 Option.bind (ref24_put N number_2 (8 : Int) x10) fun y11 =>
 bif decide (0 ≤ (0 : Int)) && decide ((0 : Int) ≤ (4 : Int)) && decide ((4 : Int) ≤ (b_1.length : Int)) && true then
 bif room (0 + (cut b_1 0 4).length) 1 then
 Option.bind (ref24_put N number_2 (8 : Int) (cut b_1 0 4)) fun y13 =>
 bif decide (0 ≤ (8 : Int)) && decide ((8 : Int) ≤ (b_1.length : Int)) && decide ((b_1.length : Int) ≤ (b_1.length : Int)) && true then
 Option.bind (ref12_Open N (cut key_0 0 32) y11.2.1 y13.2.1 (cut b_1 8 b_1.length)) fun y15 =>
 bif (!(decide (y15.1.1 = (0 : Int)))) then
 some (((0 : Int), y15.1.1, ()), (([] : List UInt8), ()))
 else
 bif (decide ((y15.2.1.length : Int) < (2 : Int))) then
 ref24_Open_1 N y15.2.1 true
 else
 let x39 := w64 ((y15.2.1.length : Int) - (2 : Int))
 bif inR x39 y15.2.1.length then
 ref24_Open_1 N y15.2.1 (decide ((w64 ((y15.2.1.length : Int) - (2 : Int))) < ((y15.2.1.getD x39.toNat (0 : UInt8)).toNat : Int)))
 else none
 else none
 else none
 else none
 else none
 else none
 else none
 else none
noncomputable def ref24_Open_C (N : Nat) : Ctx := ⟨101, G_tys, [(58, ref24_get_ctr N), (52, ref24_put_ctr N), (59, ref12_Open_ctr N)], G_globs, G_ifs⟩
noncomputable def ref24_Open_S0 : Spec := ⟨[.val (.sl .u8), .val .i64, .val .i64, .val .i64], []⟩
noncomputable def ref24_Open_S1 : Spec := ⟨[.val (.sl .u8), .val .i64], []⟩
noncomputable def ref24_Open_S2 : Spec := ⟨[.val (.sl .u8), .val .bool], []⟩
noncomputable def ref24_Open_S3 : Spec := ⟨[.val (.sl .u8), .val (.sl .u8), .val .u64], []⟩
noncomputable def ref24_Open_S4 : Spec := ⟨[.row 0, .val .i64, .val .i64], [(.row 5 .u8, .pos 0)]⟩
noncomputable def ref24_Open_K (_N : Nat) : XE → GS → Option ref24_Open_R := retK 0 [6, 7, 8] [false, false, false] ref24_Open_S4
noncomputable def ref24_Open_L : List Code := (bodyOf (some Tryz.f34))
noncomputable def ref24_Open_L3 : List Code := (loopOf (ref24_Open_L[15]?))
noncomputable def ref24_Open_K3 (N : Nat) : XE → GS → Option (Lo (((List UInt8) × Int × Int × Int × Unit) × (Unit)) (((List UInt8) × Int × Unit) × (Unit)) ref24_Open_R) := roundK (some 0) (fit 0 [9, 11, 12, 13] ref24_Open_S0) (fit 0 [9, 12] ref24_Open_S1) (ref24_Open_K N)
theorem ref24_Open_s3_b {E : Env} (N : Nat) (hb : Base Tryz.prog (ref24_Open_C N) E 0) : Blk Tryz.prog (ref24_Open_C N) E [9, 11, 12, 13] ref24_Open_S0 (ref24_Open_L3.drop 0) (fun y => ref24_Open_s3 N y.1.1 y.1.2.1 y.1.2.2.1 y.1.2.2.2.1) (ref24_Open_K3 N) :=
 Blk.chunkAt hb 4 (X := (ref24_Open_K3 N .normal)) (NxOk.end (by kernel_rfl)) rfl (fun x => by kernel_rfl)
theorem ref24_Open_4_b {E : Env} (N : Nat) (hb : Base Tryz.prog (ref24_Open_C N) E 0) : Blk Tryz.prog (ref24_Open_C N) E [9, 12] ref24_Open_S1 (ref24_Open_L.drop 16) (fun y => ref24_Open_4 N y.1.1 y.1.2.1) (ref24_Open_K N) :=
 Blk.chunkAt hb 2 (X := (ref24_Open_K N .normal)) (NxOk.end (by kernel_rfl)) rfl (fun x => by kernel_rfl)
theorem ref24_Open_2_b {E : Env} (N : Nat) (hb : Base Tryz.prog (ref24_Open_C N) E 0) : Blk Tryz.prog (ref24_Open_C N) E [9, 11, 12, 13] ref24_Open_S0 (ref24_Open_L.drop 15) (fun y => ref24_Open_2 N y.1.1 y.1.2.1 y.1.2.2.1 y.1.2.2.2.1) (ref24_Open_K N) :=
 Blk.loopAt (Nf := N) (hns := [9, 11, 12, 13]) (ans := [9, 12]) (hc := ref24_Open_S0) (ac := ref24_Open_S1) (bid := 0) (step := (fun y => ref24_Open_s3 N y.1.1 y.1.2.1 y.1.2.2.1 y.1.2.2.2.1)) (J := (fun e => (goK 0 [9, 12] ref24_Open_S1 (fun y => ref24_Open_4 N y.1.1 y.1.2.1)) (ref24_Open_S1.st [9, 12] e))) hb (by kernel_rfl) (Blk.into (X := (goK 0 [9, 12] ref24_Open_S1 (fun y => ref24_Open_4 N y.1.1 y.1.2.1))) (NxOk.go hb (ref24_Open_4_b N hb)) (fun x => by kernel_rfl)) (ref24_Open_s3_b N hb) (fun x => by kernel_rfl)
theorem ref24_Open_1_b {E : Env} (N : Nat) (hb : Base Tryz.prog (ref24_Open_C N) E 0) : Blk Tryz.prog (ref24_Open_C N) E [9, 62] ref24_Open_S2 (ref24_Open_L.drop 11) (fun y => ref24_Open_1 N y.1.1 y.1.2.1) (ref24_Open_K N) :=
 Blk.chunkAt hb 4 (X := (goK 0 [9, 11, 12, 13] ref24_Open_S0 (fun y => ref24_Open_2 N y.1.1 y.1.2.1 y.1.2.2.1 y.1.2.2.2.1))) (NxOk.go hb (ref24_Open_2_b N hb)) rfl (fun x => by kernel_rfl)
theorem ref24_Open_b {E : Env} (N : Nat) (hb : Base Tryz.prog (ref24_Open_C N) E 0) : Blk Tryz.prog (ref24_Open_C N) E (List.range ref24_Open_S3.ks.length) ref24_Open_S3 (ref24_Open_L.drop 0) (fun y => ref24_Open N y.1.1 y.1.2.1 y.1.2.2.1) (ref24_Open_K N) :=
 Blk.chunkAt hb 11 (X := (goK 0 [9, 62] ref24_Open_S2 (fun y => ref24_Open_1 N y.1.1 y.1.2.1))) (NxOk.go hb (ref24_Open_1_b N hb)) rfl (fun x => by kernel_rfl)
noncomputable def ref24_Open_ctr (N : Nat) : Ctr := ⟨ref24_Open_S3, ref24_Open_S4.un [false, false, false], 0, (fun y => ref24_Open N y.1.1 y.1.2.1 y.1.2.2.1)⟩
theorem ref24_Open_ctrs (N : Nat) : CtrsOk Tryz.prog (ref24_Open_C N) := ctrs_of (Γ := ref24_Open_C N) G_ifs_ok (by
 intro p hp
 simp only [ref24_Open_C, List.mem_cons, List.not_mem_nil, or_false] at hp
 rcases hp with rfl | rfl | rfl
 · exact ref24_get_ok N
 · exact ref24_put_ok N
 · exact ref12_Open_ok N)
theorem ref24_Open_ok (N : Nat) : Ctr.ok Tryz.prog G_globs 34 (ref24_Open_ctr N) :=
 ctr_fn (Γ := ref24_Open_C N) (rfit := ref24_Open_S4) (bs := [false, false, false]) (res := [6, 7, 8]) (by kernel_rfl) (tys_ok G_tys_ok) (ref24_Open_ctrs N) Tryz.func34 (by kernel_rfl) (by kernel_rfl) Tryz.ntmps34 (by kernel_rfl) (by kernel_rfl) (by kernel_rfl) (by kernel_rfl) (fun E hb => ref24_Open_b N hb)
/-! ipsecgate/ipsecgateref24.Untunnel -/
abbrev ref24_Untunnel_R : Type := ((Int × Unit) × ((List UInt8) × Unit))
noncomputable def ref24_Untunnel_1 (N : Nat) (next_11 : Int) (t_47 : Bool) (inner_10 : (List UInt8)) : Option ref24_Untunnel_R :=
 bif t_47 then
 some (((4 : Int), ()), (([] : List UInt8), ()))
 else
 Option.bind (ref22_See N inner_10) fun y9 =>
 bif (!(decide (y9.1.2.1 = (0 : Int)))) then
 some ((y9.1.2.1, ()), (([] : List UInt8), ()))
 else
 bif inR (0 : Int) inner_10.length then
 bif (!(decide ((decide ((shr8 (inner_10.getD 0 (0 : UInt8)) 4) = (4 : UInt8))) = (decide (next_11 = (4 : Int)))))) then
 some (((15 : Int), ()), (([] : List UInt8), ()))
 else
 some (((0 : Int), ()), (inner_10, ()))
 else none
noncomputable def ref24_Untunnel (N : Nat) (key_0 : (List UInt8)) (b_1 : (List UInt8)) (number_2 : UInt64) : Option ref24_Untunnel_R :=
 Option.bind (ref22_See N b_1) fun y1 =>
 bif (!(decide (y1.1.2.1 = (0 : Int)))) then
 some ((y1.1.2.1, ()), (([] : List UInt8), ()))
 else
 bif y1.1.1.2.2.2.1 then
 some (((21 : Int), ()), (([] : List UInt8), ()))
 else
 bif (!(decide (y1.1.1.1.2.2.1 = (50 : Int)))) then
 some (((4 : Int), ()), (([] : List UInt8), ()))
 else
 bif decide (0 ≤ y1.1.1.2.2.2.2.1) && decide (y1.1.1.2.2.2.2.1 ≤ (b_1.length : Int)) && decide ((b_1.length : Int) ≤ (b_1.length : Int)) && true then
 Option.bind (ref24_Open N key_0 (cut b_1 y1.1.1.2.2.2.2.1.toNat b_1.length) number_2) fun y5 =>
 bif (!(decide (y5.1.2.1 = (0 : Int)))) then
 some ((y5.1.2.1, ()), (([] : List UInt8), ()))
 else
 bif (!(decide (y5.1.1 = (4 : Int)))) then
 ref24_Untunnel_1 N y5.1.1 (!(decide (y5.1.1 = (41 : Int)))) y5.2.1
 else
 ref24_Untunnel_1 N y5.1.1 false y5.2.1
 else none
noncomputable def ref24_Untunnel_C (N : Nat) : Ctx := ⟨65, G_tys, [(24, ref22_See_ctr N), (34, ref24_Open_ctr N)], G_globs, G_ifs⟩
noncomputable def ref24_Untunnel_S0 : Spec := ⟨[.row 0, .val .i64, .val .bool], [(.row 5 .u8, .pos 0)]⟩
noncomputable def ref24_Untunnel_S1 : Spec := ⟨[.val (.sl .u8), .val (.sl .u8), .val .u64], []⟩
noncomputable def ref24_Untunnel_S2 : Spec := ⟨[.row 0, .val .i64], [(.row 5 .u8, .pos 0)]⟩
noncomputable def ref24_Untunnel_K (_N : Nat) : XE → GS → Option ref24_Untunnel_R := retK 0 [6, 7] [false, false] ref24_Untunnel_S2
noncomputable def ref24_Untunnel_L : List Code := (bodyOf (some Tryz.f15))
theorem ref24_Untunnel_1_b {E : Env} (N : Nat) (hb : Base Tryz.prog (ref24_Untunnel_C N) E 0) : Blk Tryz.prog (ref24_Untunnel_C N) E [10, 11, 47] ref24_Untunnel_S0 (ref24_Untunnel_L.drop 12) (fun y => ref24_Untunnel_1 N y.1.1 y.1.2.1 y.2.1) (ref24_Untunnel_K N) :=
 Blk.chunkAt hb 8 (X := (ref24_Untunnel_K N .normal)) (NxOk.end (by kernel_rfl)) rfl (fun x => by kernel_rfl)
theorem ref24_Untunnel_b {E : Env} (N : Nat) (hb : Base Tryz.prog (ref24_Untunnel_C N) E 0) : Blk Tryz.prog (ref24_Untunnel_C N) E (List.range ref24_Untunnel_S1.ks.length) ref24_Untunnel_S1 (ref24_Untunnel_L.drop 0) (fun y => ref24_Untunnel N y.1.1 y.1.2.1 y.1.2.2.1) (ref24_Untunnel_K N) :=
 Blk.chunkAt hb 12 (X := (goK 0 [10, 11, 47] ref24_Untunnel_S0 (fun y => ref24_Untunnel_1 N y.1.1 y.1.2.1 y.2.1))) (NxOk.go hb (ref24_Untunnel_1_b N hb)) rfl (fun x => by kernel_rfl)
noncomputable def ref24_Untunnel_ctr (N : Nat) : Ctr := ⟨ref24_Untunnel_S1, ref24_Untunnel_S2.un [false, false], 0, (fun y => ref24_Untunnel N y.1.1 y.1.2.1 y.1.2.2.1)⟩
theorem ref24_Untunnel_ctrs (N : Nat) : CtrsOk Tryz.prog (ref24_Untunnel_C N) := ctrs_of (Γ := ref24_Untunnel_C N) G_ifs_ok (by
 intro p hp
 simp only [ref24_Untunnel_C, List.mem_cons, List.not_mem_nil, or_false] at hp
 rcases hp with rfl | rfl
 · exact ref22_See_ok N
 · exact ref24_Open_ok N)
theorem ref24_Untunnel_ok (N : Nat) : Ctr.ok Tryz.prog G_globs 15 (ref24_Untunnel_ctr N) :=
 ctr_fn (Γ := ref24_Untunnel_C N) (rfit := ref24_Untunnel_S2) (bs := [false, false]) (res := [6, 7]) (by kernel_rfl) (tys_ok G_tys_ok) (ref24_Untunnel_ctrs N) Tryz.func15 (by kernel_rfl) (by kernel_rfl) Tryz.ntmps15 (by kernel_rfl) (by kernel_rfl) (by kernel_rfl) (by kernel_rfl) (fun E hb => ref24_Untunnel_b N hb)
/-! ipsecgate/esp.plain -/
abbrev esp_plain_R : Type := ((D53 × Int × Unit) × (Unit))
noncomputable def esp_plain_2 (N : Nat) (t_28 : Bool) (t_2 : D53) (seen_4 : D53) : Option esp_plain_R :=
 bif t_28 then
 some ((((((0 : Int), (0 : UInt64), (0 : UInt64), ()), ((0 : Int), (0 : UInt64), (0 : UInt64), ()), (0 : Int), (0 : Int), (0 : Int), ()), (0 : Int), false, false, (0 : Int), ()), (21 : Int), ()), (()))
 else
 some ((seen_4, (0 : Int), ()), (()))
noncomputable def esp_plain_1 (N : Nat) (first_6 : Int) (t_2 : D53) (seen_4 : D53) : Option esp_plain_R :=
 bif seen_4.2.2.2.1 then
 esp_plain_2 N true t_2 seen_4
 else
 esp_plain_2 N (!(decide (seen_4.2.2.2.2.1 = first_6))) t_2 seen_4
noncomputable def esp_plain (N : Nat) (b_0 : (List UInt8)) : Option esp_plain_R :=
 Option.bind (lookup_See N b_0) fun y1 =>
 bif (!(decide (y1.1.2.1 = (0 : Int)))) then
 some ((((((0 : Int), (0 : UInt64), (0 : UInt64), ()), ((0 : Int), (0 : UInt64), (0 : UInt64), ()), (0 : Int), (0 : Int), (0 : Int), ()), (0 : Int), false, false, (0 : Int), ()), y1.1.2.1, ()), (()))
 else
 bif (decide (y1.1.1.1.1.1 = (6 : Int))) then
 esp_plain_1 N (40 : Int) ((((0 : Int), (0 : UInt64), (0 : UInt64), ()), ((0 : Int), (0 : UInt64), (0 : UInt64), ()), (0 : Int), (0 : Int), (0 : Int), ()), (0 : Int), false, false, (0 : Int), ()) y1.1.1
 else
 esp_plain_1 N (20 : Int) ((((0 : Int), (0 : UInt64), (0 : UInt64), ()), ((0 : Int), (0 : UInt64), (0 : UInt64), ()), (0 : Int), (0 : Int), (0 : Int), ()), (0 : Int), false, false, (0 : Int), ()) y1.1.1
noncomputable def esp_plain_C (N : Nat) : Ctx := ⟨31, G_tys, [(28, lookup_See_ctr N)], G_globs, G_ifs⟩
noncomputable def esp_plain_S0 : Spec := ⟨[.ref 0 T53, .ref 1 T53, .val .bool], [(.box 54 T53, .pos 0), (.box 54 T53, .pos 1)]⟩
noncomputable def esp_plain_S1 : Spec := ⟨[.ref 0 T53, .ref 1 T53, .val .i64], [(.box 54 T53, .pos 0), (.box 54 T53, .pos 1)]⟩
noncomputable def esp_plain_S2 : Spec := ⟨[.val (.sl .u8)], []⟩
noncomputable def esp_plain_S3 : Spec := ⟨[.fp T53, .val .i64], []⟩
noncomputable def esp_plain_K (_N : Nat) : XE → GS → Option esp_plain_R := retK 0 [2, 3] [true, false] esp_plain_S3
noncomputable def esp_plain_L : List Code := (bodyOf (some Tryz.f35))
theorem esp_plain_2_b {E : Env} (N : Nat) (hb : Base Tryz.prog (esp_plain_C N) E 0) : Blk Tryz.prog (esp_plain_C N) E [2, 4, 28] esp_plain_S0 (esp_plain_L.drop 8) (fun y => esp_plain_2 N y.1.1 y.2.1 y.2.2.1) (esp_plain_K N) :=
 Blk.chunkAt hb 3 (X := (esp_plain_K N .normal)) (NxOk.end (by kernel_rfl)) rfl (fun x => by kernel_rfl)
theorem esp_plain_1_b {E : Env} (N : Nat) (hb : Base Tryz.prog (esp_plain_C N) E 0) : Blk Tryz.prog (esp_plain_C N) E [2, 4, 6] esp_plain_S1 (esp_plain_L.drop 7) (fun y => esp_plain_1 N y.1.1 y.2.1 y.2.2.1) (esp_plain_K N) :=
 Blk.chunkAt hb 1 (X := (goK 0 [2, 4, 28] esp_plain_S0 (fun y => esp_plain_2 N y.1.1 y.2.1 y.2.2.1))) (NxOk.go hb (esp_plain_2_b N hb)) rfl (fun x => by kernel_rfl)
theorem esp_plain_b {E : Env} (N : Nat) (hb : Base Tryz.prog (esp_plain_C N) E 0) : Blk Tryz.prog (esp_plain_C N) E (List.range esp_plain_S2.ks.length) esp_plain_S2 (esp_plain_L.drop 0) (fun y => esp_plain N y.1.1) (esp_plain_K N) :=
 Blk.chunkAt hb 7 (X := (goK 0 [2, 4, 6] esp_plain_S1 (fun y => esp_plain_1 N y.1.1 y.2.1 y.2.2.1))) (NxOk.go hb (esp_plain_1_b N hb)) rfl (fun x => by kernel_rfl)
noncomputable def esp_plain_ctr (N : Nat) : Ctr := ⟨esp_plain_S2, esp_plain_S3.un [true, false], 0, (fun y => esp_plain N y.1.1)⟩
theorem esp_plain_ctrs (N : Nat) : CtrsOk Tryz.prog (esp_plain_C N) := ctrs_of (Γ := esp_plain_C N) G_ifs_ok (by
 intro p hp
 simp only [esp_plain_C, List.mem_cons, List.not_mem_nil, or_false] at hp
 rcases hp with rfl
 · exact lookup_See_ok N)
theorem esp_plain_ok (N : Nat) : Ctr.ok Tryz.prog G_globs 35 (esp_plain_ctr N) :=
 ctr_fn (Γ := esp_plain_C N) (rfit := esp_plain_S3) (bs := [true, false]) (res := [2, 3]) (by kernel_rfl) (tys_ok G_tys_ok) (esp_plain_ctrs N) Tryz.func35 (by kernel_rfl) (by kernel_rfl) Tryz.ntmps35 (by kernel_rfl) (by kernel_rfl) (by kernel_rfl) (by kernel_rfl) (fun E hb => esp_plain_b N hb)
/-! ipsecgate/esp.Transport$1 -/
abbrev esp_Transport_f1_R : Type := ((Int × Unit) × ((List UInt8) × Unit))
noncomputable def esp_Transport_f1 (N : Nat) (sealed_0 : (List UInt8)) (t_1 : D53) : Option esp_Transport_f1_R :=
 Option.bind (esp_hidden N t_1.1.1 t_1.1.2.1) fun y1 =>
 Option.bind (lookup_Build N y1.1.1 sealed_0) fun y2 =>
 some ((y2.1.1, ()), (y2.2.1, ()))
noncomputable def esp_Transport_f1_C (N : Nat) : Ctx := ⟨16, G_tys, [(33, esp_hidden_ctr N), (32, lookup_Build_ctr N)], G_globs, G_ifs⟩
noncomputable def esp_Transport_f1_S0 : Spec := ⟨[.val (.sl .u8), .fp T53], []⟩
noncomputable def esp_Transport_f1_S1 : Spec := ⟨[.row 0, .val .i64], [(.row 5 .u8, .pos 0)]⟩
noncomputable def esp_Transport_f1_K (_N : Nat) : XE → GS → Option esp_Transport_f1_R := retK 0 [3, 4] [false, false] esp_Transport_f1_S1
noncomputable def esp_Transport_f1_L : List Code := (bodyOf (some Tryz.f36))
theorem esp_Transport_f1_b {E : Env} (N : Nat) (hb : Base Tryz.prog (esp_Transport_f1_C N) E 0) : Blk Tryz.prog (esp_Transport_f1_C N) E (List.range esp_Transport_f1_S0.ks.length) esp_Transport_f1_S0 (esp_Transport_f1_L.drop 0) (fun y => esp_Transport_f1 N y.1.1 y.1.2.1) (esp_Transport_f1_K N) :=
 Blk.chunkAt hb 3 (X := (esp_Transport_f1_K N .normal)) (NxOk.end (by kernel_rfl)) rfl (fun x => by kernel_rfl)
noncomputable def esp_Transport_f1_ctr (N : Nat) : Ctr := ⟨esp_Transport_f1_S0, esp_Transport_f1_S1.un [false, false], 0, (fun y => esp_Transport_f1 N y.1.1 y.1.2.1)⟩
theorem esp_Transport_f1_ctrs (N : Nat) : CtrsOk Tryz.prog (esp_Transport_f1_C N) := ctrs_of (Γ := esp_Transport_f1_C N) G_ifs_ok (by
 intro p hp
 simp only [esp_Transport_f1_C, List.mem_cons, List.not_mem_nil, or_false] at hp
 rcases hp with rfl | rfl
 · exact esp_hidden_ok N
 · exact lookup_Build_ok N)
theorem esp_Transport_f1_ok (N : Nat) : Ctr.ok Tryz.prog G_globs 36 (esp_Transport_f1_ctr N) :=
 ctr_fn (Γ := esp_Transport_f1_C N) (rfit := esp_Transport_f1_S1) (bs := [false, false]) (res := [3, 4]) (by kernel_rfl) (tys_ok G_tys_ok) (esp_Transport_f1_ctrs N) Tryz.func36 (by kernel_rfl) (by kernel_rfl) Tryz.ntmps36 (by kernel_rfl) (by kernel_rfl) (by kernel_rfl) (by kernel_rfl) (fun E hb => esp_Transport_f1_b N hb)
/-! ipsecgate/esp.wrap_esp.Transport$1 -/
abbrev esp_wrap_esp_Transport_f1_R : Type := ((Int × Unit) × ((List UInt8) × Unit))
noncomputable def esp_wrap_esp_Transport_f1 (N : Nat) (key_0 : (List UInt8)) (spi_1 : UInt32) (number_2 : UInt64) (next_3 : Int) (payload_4 : (List UInt8)) (build_5_0 : D53) : Option esp_wrap_esp_Transport_f1_R :=
 Option.bind (esp_Seal N key_0 spi_1 number_2 next_3 payload_4 (0 : Int)) fun y1 =>
 bif (!(decide (y1.1.1 = (0 : Int)))) then
 some ((y1.1.1, ()), (([] : List UInt8), ()))
 else
 Option.bind (esp_Transport_f1 N y1.2.1 build_5_0) fun y3 =>
 some ((y3.1.1, ()), (y3.2.1, ()))
noncomputable def esp_wrap_esp_Transport_f1_C (N : Nat) : Ctx := ⟨33, G_tys, [(19, esp_Seal_ctr N), (36, esp_Transport_f1_ctr N)], G_globs, G_ifs⟩
noncomputable def esp_wrap_esp_Transport_f1_S0 : Spec := ⟨[.val (.sl .u8), .val .u32, .val .u64, .val .i64, .val (.sl .u8), .clo 36 [(0, T53)]], [(.box 54 T53, .cap 5 0)]⟩
noncomputable def esp_wrap_esp_Transport_f1_S1 : Spec := ⟨[.row 0, .val .i64], [(.row 5 .u8, .pos 0)]⟩
noncomputable def esp_wrap_esp_Transport_f1_K (_N : Nat) : XE → GS → Option esp_wrap_esp_Transport_f1_R := retK 0 [12, 13] [false, false] esp_wrap_esp_Transport_f1_S1
noncomputable def esp_wrap_esp_Transport_f1_L : List Code := (bodyOf (some Tryz.f29))
theorem esp_wrap_esp_Transport_f1_b {E : Env} (N : Nat) (hb : Base Tryz.prog (esp_wrap_esp_Transport_f1_C N) E 0) : Blk Tryz.prog (esp_wrap_esp_Transport_f1_C N) E (List.range esp_wrap_esp_Transport_f1_S0.ks.length) esp_wrap_esp_Transport_f1_S0 (esp_wrap_esp_Transport_f1_L.drop 0) (fun y => esp_wrap_esp_Transport_f1 N y.1.1 y.1.2.1 y.1.2.2.1 y.1.2.2.2.1 y.1.2.2.2.2.1 y.2.1) (esp_wrap_esp_Transport_f1_K N) :=
 Blk.chunkAt hb 6 (X := (esp_wrap_esp_Transport_f1_K N .normal)) (NxOk.end (by kernel_rfl)) rfl (fun x => by kernel_rfl)
noncomputable def esp_wrap_esp_Transport_f1_ctr (N : Nat) : Ctr := ⟨esp_wrap_esp_Transport_f1_S0, esp_wrap_esp_Transport_f1_S1.un [false, false], 0, (fun y => esp_wrap_esp_Transport_f1 N y.1.1 y.1.2.1 y.1.2.2.1 y.1.2.2.2.1 y.1.2.2.2.2.1 y.2.1)⟩
theorem esp_wrap_esp_Transport_f1_ctrs (N : Nat) : CtrsOk Tryz.prog (esp_wrap_esp_Transport_f1_C N) := ctrs_of (Γ := esp_wrap_esp_Transport_f1_C N) G_ifs_ok (by
 intro p hp
 simp only [esp_wrap_esp_Transport_f1_C, List.mem_cons, List.not_mem_nil, or_false] at hp
 rcases hp with rfl | rfl
 · exact esp_Seal_ok N
 · exact esp_Transport_f1_ok N)
theorem esp_wrap_esp_Transport_f1_ok (N : Nat) : Ctr.ok Tryz.prog G_globs 29 (esp_wrap_esp_Transport_f1_ctr N) :=
 ctr_fn (Γ := esp_wrap_esp_Transport_f1_C N) (rfit := esp_wrap_esp_Transport_f1_S1) (bs := [false, false]) (res := [12, 13]) (by kernel_rfl) (tys_ok G_tys_ok) (esp_wrap_esp_Transport_f1_ctrs N) Tryz.func29 (by kernel_rfl) (by kernel_rfl) Tryz.ntmps29 (by kernel_rfl) (by kernel_rfl) (by kernel_rfl) (by kernel_rfl) (fun E hb => esp_wrap_esp_Transport_f1_b N hb)
/-! ipsecgate/esp.Transport -/
abbrev esp_Transport_R : Type := ((Int × Unit) × ((List UInt8) × Unit))
noncomputable def esp_Transport (N : Nat) (key_0 : (List UInt8)) (spi_1 : UInt32) (number_2 : UInt64) (b_3 : (List UInt8)) : Option esp_Transport_R :=
 Option.bind (esp_plain N b_3) fun y1 =>
 bif (!(decide (y1.1.2.1 = (0 : Int)))) then
 some ((y1.1.2.1, ()), (([] : List UInt8), ()))
 else
 bif decide (0 ≤ y1.1.1.2.2.2.2.1) && decide (y1.1.1.2.2.2.2.1 ≤ (b_3.length : Int)) && decide ((b_3.length : Int) ≤ (b_3.length : Int)) && true then
 Option.bind (esp_wrap_esp_Transport_f1 N key_0 spi_1 number_2 y1.1.1.1.2.2.1 (cut b_3 y1.1.1.2.2.2.2.1.toNat b_3.length) y1.1.1) fun y4 =>
 some ((y4.1.1, ()), (y4.2.1, ()))
 else none
noncomputable def esp_Transport_C (N : Nat) : Ctx := ⟨34, G_tys, [(35, esp_plain_ctr N), (29, esp_wrap_esp_Transport_f1_ctr N)], G_globs, G_ifs⟩
noncomputable def esp_Transport_S0 : Spec := ⟨[.val (.sl .u8), .val .u32, .val .u64, .val (.sl .u8)], []⟩
noncomputable def esp_Transport_S1 : Spec := ⟨[.row 0, .val .i64], [(.row 5 .u8, .pos 0)]⟩
noncomputable def esp_Transport_K (_N : Nat) : XE → GS → Option esp_Transport_R := retK 0 [8, 9] [false, false] esp_Transport_S1
noncomputable def esp_Transport_L : List Code := (bodyOf (some Tryz.f16))
theorem esp_Transport_b {E : Env} (N : Nat) (hb : Base Tryz.prog (esp_Transport_C N) E 0) : Blk Tryz.prog (esp_Transport_C N) E (List.range esp_Transport_S0.ks.length) esp_Transport_S0 (esp_Transport_L.drop 0) (fun y => esp_Transport N y.1.1 y.1.2.1 y.1.2.2.1 y.1.2.2.2.1) (esp_Transport_K N) :=
 Blk.chunkAt hb 6 (X := (esp_Transport_K N .normal)) (NxOk.end (by kernel_rfl)) rfl (fun x => by kernel_rfl)
noncomputable def esp_Transport_ctr (N : Nat) : Ctr := ⟨esp_Transport_S0, esp_Transport_S1.un [false, false], 0, (fun y => esp_Transport N y.1.1 y.1.2.1 y.1.2.2.1 y.1.2.2.2.1)⟩
theorem esp_Transport_ctrs (N : Nat) : CtrsOk Tryz.prog (esp_Transport_C N) := ctrs_of (Γ := esp_Transport_C N) G_ifs_ok (by
 intro p hp
 simp only [esp_Transport_C, List.mem_cons, List.not_mem_nil, or_false] at hp
 rcases hp with rfl | rfl
 · exact esp_plain_ok N
 · exact esp_wrap_esp_Transport_f1_ok N)
theorem esp_Transport_ok (N : Nat) : Ctr.ok Tryz.prog G_globs 16 (esp_Transport_ctr N) :=
 ctr_fn (Γ := esp_Transport_C N) (rfit := esp_Transport_S1) (bs := [false, false]) (res := [8, 9]) (by kernel_rfl) (tys_ok G_tys_ok) (esp_Transport_ctrs N) Tryz.func16 (by kernel_rfl) (by kernel_rfl) Tryz.ntmps16 (by kernel_rfl) (by kernel_rfl) (by kernel_rfl) (by kernel_rfl) (fun E hb => esp_Transport_b N hb)
/-! ipsecgate/esp.Untransport -/
abbrev esp_Untransport_R : Type := ((Int × Unit) × ((List UInt8) × Unit))
noncomputable def esp_Untransport (N : Nat) (key_0 : (List UInt8)) (b_1 : (List UInt8)) (number_2 : UInt64) : Option esp_Untransport_R :=
 Option.bind (esp_plain N b_1) fun y1 =>
 bif (!(decide (y1.1.2.1 = (0 : Int)))) then
 some ((y1.1.2.1, ()), (([] : List UInt8), ()))
 else
 bif (!(decide (y1.1.1.1.2.2.1 = (50 : Int)))) then
 some (((4 : Int), ()), (([] : List UInt8), ()))
 else
 bif decide (0 ≤ y1.1.1.2.2.2.2.1) && decide (y1.1.1.2.2.2.2.1 ≤ (b_1.length : Int)) && decide ((b_1.length : Int) ≤ (b_1.length : Int)) && true then
 Option.bind (esp_Open N key_0 (cut b_1 y1.1.1.2.2.2.2.1.toNat b_1.length) number_2) fun y5 =>
 bif (!(decide (y5.1.2.2.1 = (0 : Int)))) then
 some ((y5.1.2.2.1, ()), (([] : List UInt8), ()))
 else
 Option.bind (esp_hidden N y1.1.1.1.1 y1.1.1.1.2.1) fun y7 =>
 Option.bind (lookup_Build N (y7.1.1.1, y7.1.1.2.1, y5.1.2.1, y7.1.1.2.2.2.1, y7.1.1.2.2.2.2.1, ()) y5.1.1) fun y8 =>
 some ((y8.1.1, ()), (y8.2.1, ()))
 else none
noncomputable def esp_Untransport_C (N : Nat) : Ctx := ⟨55, G_tys, [(35, esp_plain_ctr N), (20, esp_Open_ctr N), (33, esp_hidden_ctr N), (32, lookup_Build_ctr N)], G_globs, G_ifs⟩
noncomputable def esp_Untransport_S0 : Spec := ⟨[.val (.sl .u8), .val (.sl .u8), .val .u64], []⟩
noncomputable def esp_Untransport_S1 : Spec := ⟨[.row 0, .val .i64], [(.row 5 .u8, .pos 0)]⟩
noncomputable def esp_Untransport_K (_N : Nat) : XE → GS → Option esp_Untransport_R := retK 0 [6, 7] [false, false] esp_Untransport_S1
noncomputable def esp_Untransport_L : List Code := (bodyOf (some Tryz.f17))
theorem esp_Untransport_b {E : Env} (N : Nat) (hb : Base Tryz.prog (esp_Untransport_C N) E 0) : Blk Tryz.prog (esp_Untransport_C N) E (List.range esp_Untransport_S0.ks.length) esp_Untransport_S0 (esp_Untransport_L.drop 0) (fun y => esp_Untransport N y.1.1 y.1.2.1 y.1.2.2.1) (esp_Untransport_K N) :=
 Blk.chunkAt hb 10 (X := (esp_Untransport_K N .normal)) (NxOk.end (by kernel_rfl)) rfl (fun x => by kernel_rfl)
noncomputable def esp_Untransport_ctr (N : Nat) : Ctr := ⟨esp_Untransport_S0, esp_Untransport_S1.un [false, false], 0, (fun y => esp_Untransport N y.1.1 y.1.2.1 y.1.2.2.1)⟩
theorem esp_Untransport_ctrs (N : Nat) : CtrsOk Tryz.prog (esp_Untransport_C N) := ctrs_of (Γ := esp_Untransport_C N) G_ifs_ok (by
 intro p hp
 simp only [esp_Untransport_C, List.mem_cons, List.not_mem_nil, or_false] at hp
 rcases hp with rfl | rfl | rfl | rfl
 · exact esp_plain_ok N
 · exact esp_Open_ok N
 · exact esp_hidden_ok N
 · exact lookup_Build_ok N)
theorem esp_Untransport_ok (N : Nat) : Ctr.ok Tryz.prog G_globs 17 (esp_Untransport_ctr N) :=
 ctr_fn (Γ := esp_Untransport_C N) (rfit := esp_Untransport_S1) (bs := [false, false]) (res := [6, 7]) (by kernel_rfl) (tys_ok G_tys_ok) (esp_Untransport_ctrs N) Tryz.func17 (by kernel_rfl) (by kernel_rfl) Tryz.ntmps17 (by kernel_rfl) (by kernel_rfl) (by kernel_rfl) (by kernel_rfl) (fun E hb => esp_Untransport_b N hb)
/-! ipsecgate/ipsecgateref24.Untransport -/
abbrev ref24_Untransport_R : Type := ((Int × Unit) × ((List UInt8) × Unit))
noncomputable def ref24_Untransport (N : Nat) (key_0 : (List UInt8)) (b_1 : (List UInt8)) (number_2 : UInt64) : Option ref24_Untransport_R :=
 Option.bind (ref24_whole N b_1) fun y1 =>
 bif (!(decide (y1.1.2.1 = (0 : Int)))) then
 some ((y1.1.2.1, ()), (([] : List UInt8), ()))
 else
 bif (!(decide (y1.1.1.1.2.2.1 = (50 : Int)))) then
 some (((4 : Int), ()), (([] : List UInt8), ()))
 else
 bif decide (0 ≤ y1.1.1.2.2.2.2.1) && decide (y1.1.1.2.2.2.2.1 ≤ (b_1.length : Int)) && decide ((b_1.length : Int) ≤ (b_1.length : Int)) && true then
 Option.bind (ref24_Open N key_0 (cut b_1 y1.1.1.2.2.2.2.1.toNat b_1.length) number_2) fun y5 =>
 bif (!(decide (y5.1.2.1 = (0 : Int)))) then
 some ((y5.1.2.1, ()), (([] : List UInt8), ()))
 else
 Option.bind (ref22_Build N (y1.1.1.1.1, y1.1.1.1.2.1, y5.1.1, (-1 : Int), (-1 : Int), ()) y5.2.1) fun y7 =>
 some ((y7.1.1, ()), (y7.2.1, ()))
 else none
noncomputable def ref24_Untransport_C (N : Nat) : Ctx := ⟨50, G_tys, [(27, ref24_whole_ctr N), (34, ref24_Open_ctr N), (23, ref22_Build_ctr N)], G_globs, G_ifs⟩
noncomputable def ref24_Untransport_S0 : Spec := ⟨[.val (.sl .u8), .val (.sl .u8), .val .u64], []⟩
noncomputable def ref24_Untransport_S1 : Spec := ⟨[.row 0, .val .i64], [(.row 5 .u8, .pos 0)]⟩
noncomputable def ref24_Untransport_K (_N : Nat) : XE → GS → Option ref24_Untransport_R := retK 0 [6, 7] [false, false] ref24_Untransport_S1
noncomputable def ref24_Untransport_L : List Code := (bodyOf (some Tryz.f18))
theorem ref24_Untransport_b {E : Env} (N : Nat) (hb : Base Tryz.prog (ref24_Untransport_C N) E 0) : Blk Tryz.prog (ref24_Untransport_C N) E (List.range ref24_Untransport_S0.ks.length) ref24_Untransport_S0 (ref24_Untransport_L.drop 0) (fun y => ref24_Untransport N y.1.1 y.1.2.1 y.1.2.2.1) (ref24_Untransport_K N) :=
 Blk.chunkAt hb 11 (X := (ref24_Untransport_K N .normal)) (NxOk.end (by kernel_rfl)) rfl (fun x => by kernel_rfl)
noncomputable def ref24_Untransport_ctr (N : Nat) : Ctr := ⟨ref24_Untransport_S0, ref24_Untransport_S1.un [false, false], 0, (fun y => ref24_Untransport N y.1.1 y.1.2.1 y.1.2.2.1)⟩
theorem ref24_Untransport_ctrs (N : Nat) : CtrsOk Tryz.prog (ref24_Untransport_C N) := ctrs_of (Γ := ref24_Untransport_C N) G_ifs_ok (by
 intro p hp
 simp only [ref24_Untransport_C, List.mem_cons, List.not_mem_nil, or_false] at hp
 rcases hp with rfl | rfl | rfl
 · exact ref24_whole_ok N
 · exact ref24_Open_ok N
 · exact ref22_Build_ok N)
theorem ref24_Untransport_ok (N : Nat) : Ctr.ok Tryz.prog G_globs 18 (ref24_Untransport_ctr N) :=
 ctr_fn (Γ := ref24_Untransport_C N) (rfit := ref24_Untransport_S1) (bs := [false, false]) (res := [6, 7]) (by kernel_rfl) (tys_ok G_tys_ok) (ref24_Untransport_ctrs N) Tryz.func18 (by kernel_rfl) (by kernel_rfl) Tryz.ntmps18 (by kernel_rfl) (by kernel_rfl) (by kernel_rfl) (by kernel_rfl) (fun E hb => ref24_Untransport_b N hb)
/-! ipsecgate/ipsecgatelaw24.EspModes -/
abbrev law24_EspModes_R : Type := ((Bool × Unit) × (Unit))
noncomputable def law24_EspModes_s4 (N : Nat) (k_12 : (List UInt8)) (t_95 : Int) (t_96 : Int) (from_13 : D30) (to_14 : D30) (t_94 : (List (List UInt8))) : Option (Lo (((List UInt8) × Int × Int × Unit) × (D30 × D30 × (List (List UInt8)) × Unit)) ((Unit) × (Unit)) law24_EspModes_R) :=
 bif (decide (t_96 < t_95)) then
 bif inR t_96 t_94.length then
 let x23 := (t_94.getD t_96.toNat ([] : List UInt8))
 Option.bind (esp_Tunnel N k_12 (9 : UInt32) (5 : UInt64) from_13.1 to_14.1 x23) fun y24 =>
 Option.bind (ref24_Tunnel N k_12 (9 : UInt32) (5 : UInt64) from_13.1 to_14.1 x23) fun y25 =>
 bif (!(decide (y24.1.1 = y25.1.1))) then
 some (.rt ((false, ()), (())))
 else
 Option.bind (ref24_SameBytes N y24.2.1 y25.2.1) fun y27 =>
 bif (!y27.1.1) then
 some (.rt ((false, ()), (())))
 else
 Option.bind (esp_Untunnel N k_12 x23 (5 : UInt64)) fun y29 =>
 Option.bind (ref24_Untunnel N k_12 x23 (5 : UInt64)) fun y30 =>
 bif (!(decide (y29.1.2.1 = y30.1.1))) then
 some (.rt ((false, ()), (())))
 else
 Option.bind (ref24_SameBytes N y29.1.1 y30.2.1) fun y32 =>
 bif (!y32.1.1) then
 some (.rt ((false, ()), (())))
 else
 Option.bind (esp_Transport N k_12 (9 : UInt32) (5 : UInt64) x23) fun y34 =>
 Option.bind (ref24_Transport N k_12 (9 : UInt32) (5 : UInt64) x23) fun y35 =>
 bif (!(decide (y34.1.1 = y35.1.1))) then
 some (.rt ((false, ()), (())))
 else
 Option.bind (ref24_SameBytes N y34.2.1 y35.2.1) fun y37 =>
 bif (!y37.1.1) then
 some (.rt ((false, ()), (())))
 else
 Option.bind (esp_Untransport N k_12 x23 (5 : UInt64)) fun y39 =>
 Option.bind (ref24_Untransport N k_12 x23 (5 : UInt64)) fun y40 =>
 bif (!(decide (y39.1.1 = y40.1.1))) then
 some (.rt ((false, ()), (())))
 else
 Option.bind (ref24_SameBytes N y39.2.1 y40.2.1) fun y42 =>
 bif (!y42.1.1) then
 some (.rt ((false, ()), (())))
 else
 some (.go ((k_12, t_95, (w64 (t_96 + (1 : Int))), ()), (from_13, to_14, t_94, ())))
 else none
 else
 some (.br ((()), (())))
noncomputable def law24_EspModes_5 (N : Nat) : Option law24_EspModes_R :=
 some ((true, ()), (()))
noncomputable def law24_EspModes_3 (N : Nat) (t_95 : Int) (t_96 : Int) (k_12 : (List UInt8)) (from_13 : D30) (to_14 : D30) (t_94 : (List (List UInt8))) : Option law24_EspModes_R :=
 loopK N (fun y => law24_EspModes_s4 N y.1.1 y.1.2.1 y.1.2.2.1 y.2.1 y.2.2.1 y.2.2.2.1) (fun (e : ((Unit) × (Unit))) => law24_EspModes_5 N) ((k_12, t_95, t_96, ()), (from_13, to_14, t_94, ()))
noncomputable def law24_EspModes_2 (N : Nat) (raw_1 : (List UInt8)) (k_12 : (List UInt8)) (from_13 : D30) (to_14 : D30) (whole_15 : (List UInt8)) (sealed_16 : (List UInt8)) (moved_18 : (List UInt8)) (odd_20 : (List UInt8)) : Option law24_EspModes_R :=
 law24_EspModes_3 N (([raw_1, whole_15, sealed_16, moved_18, odd_20] : List (List UInt8)).length : Int) (0 : Int) k_12 from_13 to_14 ([raw_1, whole_15, sealed_16, moved_18, odd_20] : List (List UInt8))
noncomputable def law24_EspModes_1 (N : Nat) (codes_0 : (List UInt8)) (raw_1 : (List UInt8)) (data_2 : (List UInt8)) (at_3 : Int) (by_4 : UInt8) (t_38 : Bool) : Option law24_EspModes_R :=
 bif t_38 then
 bif (decide ((200 : Int) < (raw_1.length : Int))) then
 some ((true, ()), (()))
 else
 some (((decide ((100 : Int) < (data_2.length : Int))), ()), (()))
 else
 Option.bind (draw_New N codes_0 (60 : Int)) fun y7 =>
 Option.bind (law24_key N y7.2.1) fun y8 =>
 Option.bind (draw_Codes_Packet N (0 : Int) y8.2.1) fun y9 =>
 Option.bind (draw_Codes_Packet N (1 : Int) y9.2.1) fun y10 =>
 Option.bind (law24_packet N data_2 y10.2.1) fun y11 =>
 Option.bind (ref24_Tunnel N y8.2.2.1 (9 : UInt32) (5 : UInt64) y9.1.1.1 y10.1.1.1 y11.2.2.1) fun y12 =>
 Option.bind (ref24_Transport N y8.2.2.1 (9 : UInt32) (5 : UInt64) y11.2.2.1) fun y13 =>
 bif room (0 + y11.2.2.1.length) 1 then
 bif (decide ((0 : Int) < (y11.2.2.1.length : Int))) then
 Option.bind (draw_Mod N at_3 (y11.2.2.1.length : Int)) fun y17 =>
 bif inR y17.1.1 y11.2.2.1.length then
 bif inR y17.1.1 y11.2.2.1.length then
 law24_EspModes_2 N raw_1 y8.2.2.1 y9.1.1 y10.1.1 y11.2.2.1 y12.2.1 y13.2.1 (y11.2.2.1.set y17.1.1.toNat ((y11.2.2.1.getD y17.1.1.toNat (0 : UInt8)) ^^^ by_4))
 else none
 else none
 else
 law24_EspModes_2 N raw_1 y8.2.2.1 y9.1.1 y10.1.1 y11.2.2.1 y12.2.1 y13.2.1 y11.2.2.1
 else none
noncomputable def law24_EspModes (N : Nat) (codes_0 : (List UInt8)) (raw_1 : (List UInt8)) (data_2 : (List UInt8)) (at_3 : Int) (by_4 : UInt8) : Option law24_EspModes_R :=
 Option.bind (law24_awake N) fun y1 =>
 bif (!y1.1.1) then
 law24_EspModes_1 N codes_0 raw_1 data_2 at_3 by_4 true
 else
 bif (decide ((200 : Int) < (raw_1.length : Int))) then
 law24_EspModes_1 N codes_0 raw_1 data_2 at_3 by_4 true
 else
 law24_EspModes_1 N codes_0 raw_1 data_2 at_3 by_4 (decide ((100 : Int) < (data_2.length : Int)))
noncomputable def law24_EspModes_C (N : Nat) : Ctx := ⟨193, G_tys, [(4, law24_awake_ctr N), (5, draw_New_ctr N), (6, law24_key_ctr N), (7, draw_Codes_Packet_ctr N), (8, law24_packet_ctr N), (9, ref24_Tunnel_ctr N), (10, ref24_Transport_ctr N), (11, draw_Mod_ctr N), (12, esp_Tunnel_ctr N), (13, ref24_SameBytes_ctr N), (14, esp_Untunnel_ctr N), (15, ref24_Untunnel_ctr N), (16, esp_Transport_ctr N), (17, esp_Untransport_ctr N), (18, ref24_Untransport_ctr N)], G_globs, G_ifs⟩
noncomputable def law24_EspModes_S0 : Spec := ⟨[.val (.sl .u8), .ref 0 T30, .ref 1 T30, .row 2, .val .i64, .val .i64], [(.box 31 T30, .pos 1), (.box 31 T30, .pos 2), (.row 22 (.sl .u8), .pos 3)]⟩
noncomputable def law24_EspModes_S1 : Spec := ⟨[], []⟩
noncomputable def law24_EspModes_S2 : Spec := ⟨[.row 0, .ref 1 T30, .ref 2 T30, .row 3, .val .i64, .val .i64], [(.row 5 .u8, .pos 0), (.box 31 T30, .pos 1), (.box 31 T30, .pos 2), (.row 22 (.sl .u8), .pos 3)]⟩
noncomputable def law24_EspModes_S3 : Spec := ⟨[.val (.sl .u8), .row 0, .ref 1 T30, .ref 2 T30, .row 3, .row 4, .row 5, .row 6], [(.row 5 .u8, .pos 1), (.box 31 T30, .pos 2), (.box 31 T30, .pos 3), (.row 5 .u8, .pos 4), (.row 5 .u8, .pos 5), (.row 5 .u8, .pos 6), (.row 5 .u8, .pos 7)]⟩
noncomputable def law24_EspModes_S4 : Spec := ⟨[.val (.sl .u8), .val (.sl .u8), .val (.sl .u8), .val .i64, .val .u8, .val .bool], []⟩
noncomputable def law24_EspModes_S5 : Spec := ⟨[.val (.sl .u8), .val (.sl .u8), .val (.sl .u8), .val .i64, .val .u8], []⟩
noncomputable def law24_EspModes_S6 : Spec := ⟨[.val .bool], []⟩
noncomputable def law24_EspModes_K (_N : Nat) : XE → GS → Option law24_EspModes_R := retK 0 [10] [false] law24_EspModes_S6
noncomputable def law24_EspModes_L : List Code := (bodyOf (some Tryz.f3))
noncomputable def law24_EspModes_L4 : List Code := (loopOf (law24_EspModes_L[13]?))
noncomputable def law24_EspModes_K4 (N : Nat) : XE → GS → Option (Lo (((List UInt8) × Int × Int × Unit) × (D30 × D30 × (List (List UInt8)) × Unit)) ((Unit) × (Unit)) law24_EspModes_R) := roundK (some 0) (fit 0 [12, 13, 14, 94, 95, 96] law24_EspModes_S0) (fit 0 [] law24_EspModes_S1) (law24_EspModes_K N)
theorem law24_EspModes_s4_b {E : Env} (N : Nat) (hb : Base Tryz.prog (law24_EspModes_C N) E 0) : Blk Tryz.prog (law24_EspModes_C N) E [12, 13, 14, 94, 95, 96] law24_EspModes_S0 (law24_EspModes_L4.drop 0) (fun y => law24_EspModes_s4 N y.1.1 y.1.2.1 y.1.2.2.1 y.2.1 y.2.2.1 y.2.2.2.1) (law24_EspModes_K4 N) :=
 Blk.chunkAt hb 4 (X := (law24_EspModes_K4 N .normal)) (NxOk.end (by kernel_rfl)) rfl (fun x => by kernel_rfl)
theorem law24_EspModes_5_b {E : Env} (N : Nat) (hb : Base Tryz.prog (law24_EspModes_C N) E 0) : Blk Tryz.prog (law24_EspModes_C N) E [] law24_EspModes_S1 (law24_EspModes_L.drop 14) (fun y => law24_EspModes_5 N) (law24_EspModes_K N) :=
 Blk.chunkAt hb 2 (X := (law24_EspModes_K N .normal)) (NxOk.end (by kernel_rfl)) rfl (fun x => by kernel_rfl)
theorem law24_EspModes_3_b {E : Env} (N : Nat) (hb : Base Tryz.prog (law24_EspModes_C N) E 0) : Blk Tryz.prog (law24_EspModes_C N) E [12, 13, 14, 94, 95, 96] law24_EspModes_S2 (law24_EspModes_L.drop 13) (fun y => law24_EspModes_3 N y.1.1 y.1.2.1 y.2.1 y.2.2.1 y.2.2.2.1 y.2.2.2.2.1) (law24_EspModes_K N) :=
 Blk.loopAt (Nf := N) (hns := [12, 13, 14, 94, 95, 96]) (ans := []) (hc := law24_EspModes_S0) (ac := law24_EspModes_S1) (bid := 0) (step := (fun y => law24_EspModes_s4 N y.1.1 y.1.2.1 y.1.2.2.1 y.2.1 y.2.2.1 y.2.2.2.1)) (J := (fun e => (goK 0 [] law24_EspModes_S1 (fun y => law24_EspModes_5 N)) (law24_EspModes_S1.st [] e))) hb (by kernel_rfl) (Blk.into (X := (goK 0 [] law24_EspModes_S1 (fun y => law24_EspModes_5 N))) (NxOk.go hb (law24_EspModes_5_b N hb)) (fun x => by kernel_rfl)) (law24_EspModes_s4_b N hb) (fun x => by kernel_rfl)
theorem law24_EspModes_2_b {E : Env} (N : Nat) (hb : Base Tryz.prog (law24_EspModes_C N) E 0) : Blk Tryz.prog (law24_EspModes_C N) E [1, 12, 13, 14, 15, 16, 18, 20] law24_EspModes_S3 (law24_EspModes_L.drop 12) (fun y => law24_EspModes_2 N y.1.1 y.2.1 y.2.2.1 y.2.2.2.1 y.2.2.2.2.1 y.2.2.2.2.2.1 y.2.2.2.2.2.2.1 y.2.2.2.2.2.2.2.1) (law24_EspModes_K N) :=
 Blk.chunkAt hb 1 (X := (goK 0 [12, 13, 14, 94, 95, 96] law24_EspModes_S2 (fun y => law24_EspModes_3 N y.1.1 y.1.2.1 y.2.1 y.2.2.1 y.2.2.2.1 y.2.2.2.2.1))) (NxOk.go hb (law24_EspModes_3_b N hb)) rfl (fun x => by kernel_rfl)
theorem law24_EspModes_1_b {E : Env} (N : Nat) (hb : Base Tryz.prog (law24_EspModes_C N) E 0) : Blk Tryz.prog (law24_EspModes_C N) E [0, 1, 2, 3, 4, 38] law24_EspModes_S4 (law24_EspModes_L.drop 2) (fun y => law24_EspModes_1 N y.1.1 y.1.2.1 y.1.2.2.1 y.1.2.2.2.1 y.1.2.2.2.2.1 y.1.2.2.2.2.2.1) (law24_EspModes_K N) :=
 Blk.chunkAt hb 10 (X := (goK 0 [1, 12, 13, 14, 15, 16, 18, 20] law24_EspModes_S3 (fun y => law24_EspModes_2 N y.1.1 y.2.1 y.2.2.1 y.2.2.2.1 y.2.2.2.2.1 y.2.2.2.2.2.1 y.2.2.2.2.2.2.1 y.2.2.2.2.2.2.2.1))) (NxOk.go hb (law24_EspModes_2_b N hb)) rfl (fun x => by kernel_rfl)
theorem law24_EspModes_b {E : Env} (N : Nat) (hb : Base Tryz.prog (law24_EspModes_C N) E 0) : Blk Tryz.prog (law24_EspModes_C N) E (List.range law24_EspModes_S5.ks.length) law24_EspModes_S5 (law24_EspModes_L.drop 0) (fun y => law24_EspModes N y.1.1 y.1.2.1 y.1.2.2.1 y.1.2.2.2.1 y.1.2.2.2.2.1) (law24_EspModes_K N) :=
 Blk.chunkAt hb 2 (X := (goK 0 [0, 1, 2, 3, 4, 38] law24_EspModes_S4 (fun y => law24_EspModes_1 N y.1.1 y.1.2.1 y.1.2.2.1 y.1.2.2.2.1 y.1.2.2.2.2.1 y.1.2.2.2.2.2.1))) (NxOk.go hb (law24_EspModes_1_b N hb)) rfl (fun x => by kernel_rfl)
noncomputable def law24_EspModes_ctr (N : Nat) : Ctr := ⟨law24_EspModes_S5, law24_EspModes_S6.un [false], 0, (fun y => law24_EspModes N y.1.1 y.1.2.1 y.1.2.2.1 y.1.2.2.2.1 y.1.2.2.2.2.1)⟩
theorem law24_EspModes_ctrs (N : Nat) : CtrsOk Tryz.prog (law24_EspModes_C N) := ctrs_of (Γ := law24_EspModes_C N) G_ifs_ok (by
 intro p hp
 simp only [law24_EspModes_C, List.mem_cons, List.not_mem_nil, or_false] at hp
 rcases hp with rfl | rfl | rfl | rfl | rfl | rfl | rfl | rfl | rfl | rfl | rfl | rfl | rfl | rfl | rfl
 · exact law24_awake_ok N
 · exact draw_New_ok N
 · exact law24_key_ok N
 · exact draw_Codes_Packet_ok N
 · exact law24_packet_ok N
 · exact ref24_Tunnel_ok N
 · exact ref24_Transport_ok N
 · exact draw_Mod_ok N
 · exact esp_Tunnel_ok N
 · exact ref24_SameBytes_ok N
 · exact esp_Untunnel_ok N
 · exact ref24_Untunnel_ok N
 · exact esp_Transport_ok N
 · exact esp_Untransport_ok N
 · exact ref24_Untransport_ok N)
theorem law24_EspModes_ok (N : Nat) : Ctr.ok Tryz.prog G_globs 3 (law24_EspModes_ctr N) :=
 ctr_fn (Γ := law24_EspModes_C N) (rfit := law24_EspModes_S6) (bs := [false]) (res := [10]) (by kernel_rfl) (tys_ok G_tys_ok) (law24_EspModes_ctrs N) Tryz.func3 (by kernel_rfl) (by kernel_rfl) Tryz.ntmps3 (by kernel_rfl) (by kernel_rfl) (by kernel_rfl) (by kernel_rfl) (fun E hb => law24_EspModes_b N hb)
end Go.Proofs.YtofajgidjkjnpaaGreatDoor