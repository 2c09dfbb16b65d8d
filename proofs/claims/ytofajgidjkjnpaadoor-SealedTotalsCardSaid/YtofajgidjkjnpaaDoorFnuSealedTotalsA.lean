/- Functions of the program as plain functions, each with the proof that the text computes it. -/
import Derived.Test.YtofajgidjkjnpaaDoorFnsSealedTotalsA
import Derived.Test.YtofajgidjkjnpaaDoorFntSealedTotalsA
import Derived.Test.YtofajgidjkjnpaaDoorRngSealedTotals
set_option linter.unusedVariables false
set_option linter.unusedSimpArgs false
namespace Go.Proofs.YtofajgidjkjnpaaDoor
open Go
set_option maxRecDepth 100000
set_option linter.unusedVariables false
noncomputable section
/-! ipsecgate/sealed.Add -/
abbrev sealed_Add_R : Type := (((List D91) × Int × Unit) × (Unit))
def sealed_Add_2 (N : Nat) (l_0 : (List D91)) (f_3 : D91) : Option sealed_Add_R :=
 Option.bind (slices_BinarySearchFunc___api_Fragment_api_Fragment_int__sealed_Add_f1 N l_0 f_3.1) fun y10 =>
 bif y10.1.2.1 then
 some ((l_0, (9 : Int), ()), (()))
 else
 Option.bind (slices_Clone___api_Fragment_api_Fragment_ N l_0) fun y11 =>
 Option.bind (slices_Insert___api_Fragment_api_Fragment_ N y10.1.1 y11.2.1 ([f_3] : List D91)) fun y12 =>
 some ((y12.2.1, (0 : Int), ()), (()))
def sealed_Add_1 (N : Nat) (l_0 : (List D91)) (t_27 : Bool) (f_3 : D91) : Option sealed_Add_R :=
 bif t_27 then
 some ((([] : List D91), (5 : Int), ()), (()))
 else
 bif (decide ((0 : Int) < (l_0.length : Int))) then
 bif inR (0 : Int) l_0.length then
 bif (decide (f_3.2.1 < (l_0.getD 0 ((0 : Int), (0 : Int), (0 : Int), ([] : List UInt8), ())).2.1)) then
 some ((l_0, (7 : Int), ()), (()))
 else
 bif (decide ((0 : Int) < (l_0.length : Int))) then
 bif inR (0 : Int) l_0.length then
 bif (decide ((l_0.getD 0 ((0 : Int), (0 : Int), (0 : Int), ([] : List UInt8), ())).2.1 < f_3.2.1)) then
 some ((([f_3] : List D91), (0 : Int), ()), (()))
 else
 sealed_Add_2 N l_0 f_3
 else none
 else
 sealed_Add_2 N l_0 f_3
 else none
 else
 bif (decide ((0 : Int) < (l_0.length : Int))) then
 bif inR (0 : Int) l_0.length then
 bif (decide ((l_0.getD 0 ((0 : Int), (0 : Int), (0 : Int), ([] : List UInt8), ())).2.1 < f_3.2.1)) then
 some ((([f_3] : List D91), (0 : Int), ()), (()))
 else
 sealed_Add_2 N l_0 f_3
 else none
 else
 sealed_Add_2 N l_0 f_3
def sealed_Add (N : Nat) (l_0 : (List D91)) (f_1 : D91) : Option sealed_Add_R :=
 bif (decide (f_1.1 < (1 : Int))) then
 sealed_Add_1 N l_0 true f_1
 else
 bif (decide (f_1.2.1 < (1 : Int))) then
 sealed_Add_1 N l_0 true f_1
 else
 bif (decide ((16 : Int) < f_1.2.1)) then
 sealed_Add_1 N l_0 true f_1
 else
 sealed_Add_1 N l_0 (decide (f_1.2.1 < f_1.1)) f_1
def sealed_Add_C (N : Nat) : Ctx := ⟨72, G_tys, [(147, slices_BinarySearchFunc___api_Fragment_api_Fragment_int__sealed_Add_f1_ctr N), (150, slices_Clone___api_Fragment_api_Fragment__ctr N), (149, slices_Insert___api_Fragment_api_Fragment__ctr N)], G_globs, G_ifs⟩
def sealed_Add_S0 : Spec := ⟨[.val (.sl T91), .ref 0 T91], [(.box 92 T91, .pos 1)]⟩
def sealed_Add_S1 : Spec := ⟨[.val (.sl T91), .ref 0 T91, .val .bool], [(.box 92 T91, .pos 1)]⟩
def sealed_Add_S2 : Spec := ⟨[.val (.sl T91), .val T91], []⟩
def sealed_Add_S3 : Spec := ⟨[.val (.sl T91), .val .i64], []⟩
def sealed_Add_K (_N : Nat) : XE → GS → Option sealed_Add_R := retK 0 [4, 5] [false, false] sealed_Add_S3
def sealed_Add_L : List Code := (bodyOf (some Tryd.f79))
theorem sealed_Add_2_b {E : Env} (N : Nat) (hb : Base Tryd.prog (sealed_Add_C N) E 0) : Blk Tryd.prog (sealed_Add_C N) E [0, 3] sealed_Add_S0 (sealed_Add_L.drop 4) (fun y => sealed_Add_2 N y.1.1 y.2.1) (sealed_Add_K N) :=
 Blk.chunkAt hb 5 (X := (sealed_Add_K N .normal)) (NxOk.end (by kernel_rfl)) rfl (fun x => by kernel_rfl)
theorem sealed_Add_1_b {E : Env} (N : Nat) (hb : Base Tryd.prog (sealed_Add_C N) E 0) : Blk Tryd.prog (sealed_Add_C N) E [0, 3, 27] sealed_Add_S1 (sealed_Add_L.drop 2) (fun y => sealed_Add_1 N y.1.1 y.1.2.1 y.2.1) (sealed_Add_K N) :=
 Blk.chunkAt hb 2 (X := (goK 0 [0, 3] sealed_Add_S0 (fun y => sealed_Add_2 N y.1.1 y.2.1))) (NxOk.go hb (sealed_Add_2_b N hb)) rfl (fun x => by kernel_rfl)
theorem sealed_Add_b {E : Env} (N : Nat) (hb : Base Tryd.prog (sealed_Add_C N) E 0) : Blk Tryd.prog (sealed_Add_C N) E (List.range sealed_Add_S2.ks.length) sealed_Add_S2 (sealed_Add_L.drop 0) (fun y => sealed_Add N y.1.1 y.1.2.1) (sealed_Add_K N) :=
 Blk.chunkAt hb 2 (X := (goK 0 [0, 3, 27] sealed_Add_S1 (fun y => sealed_Add_1 N y.1.1 y.1.2.1 y.2.1))) (NxOk.go hb (sealed_Add_1_b N hb)) rfl (fun x => by kernel_rfl)
def sealed_Add_ctr (N : Nat) : Ctr := ⟨sealed_Add_S2, sealed_Add_S3.un [false, false], 0, (fun y => sealed_Add N y.1.1 y.1.2.1)⟩
theorem sealed_Add_ctrs (N : Nat) : CtrsOk Tryd.prog (sealed_Add_C N) := ctrs_of (Γ := sealed_Add_C N) G_ifs_ok (by
 intro p hp
 simp only [sealed_Add_C, List.mem_cons, List.not_mem_nil, or_false] at hp
 rcases hp with rfl | rfl | rfl
 · exact slices_BinarySearchFunc___api_Fragment_api_Fragment_int__sealed_Add_f1_ok N
 · exact slices_Clone___api_Fragment_api_Fragment__ok N
 · exact slices_Insert___api_Fragment_api_Fragment__ok N)
theorem sealed_Add_ok (N : Nat) : Ctr.ok Tryd.prog G_globs 79 (sealed_Add_ctr N) :=
 ctr_fn (Γ := sealed_Add_C N) (rfit := sealed_Add_S3) (bs := [false, false]) (res := [4, 5]) (by kernel_rfl) (tys_ok G_tys_ok) (sealed_Add_ctrs N) Tryd.func79 (by kernel_rfl) (by kernel_rfl) Tryd.ntmps79 (by kernel_rfl) (by kernel_rfl) (by kernel_rfl) (by kernel_rfl) (fun E hb => sealed_Add_b N hb)
/-! ipsecgate/sealed.Join -/
abbrev sealed_Join_R : Type := ((Int × Bool × Unit) × ((List UInt8) × Unit))
def sealed_Join_s3 (N : Nat) (l_0 : (List D91)) (t_20 : (List D91)) (t_21 : Int) (t_22 : Int) (b_5 : (List UInt8)) : Option (Lo (((List D91) × (List D91) × Int × Int × Unit) × ((List UInt8) × Unit)) (((List D91) × Unit) × ((List UInt8) × Unit)) sealed_Join_R) :=
 bif (decide (t_22 < t_21)) then
 bif inR t_22 t_20.length then
 let x5 := t_20.getD t_22.toNat ((0 : Int), (0 : Int), (0 : Int), ([] : List UInt8), ())
 bif room (b_5.length + x5.2.2.2.1.length) 1 then
 some (.go ((l_0, t_20, t_21, (w64 (t_22 + (1 : Int))), ()), ((b_5 ++ x5.2.2.2.1), ())))
 else none
 else none
 else
 some (.br ((l_0, ()), (b_5, ())))
def sealed_Join_4 (N : Nat) (l_0 : (List D91)) (b_5 : (List UInt8)) : Option sealed_Join_R :=
 bif inR (0 : Int) l_0.length then
 some (((l_0.getD 0 ((0 : Int), (0 : Int), (0 : Int), ([] : List UInt8), ())).2.2.1, true, ()), (b_5, ()))
 else none
def sealed_Join_2 (N : Nat) (l_0 : (List D91)) (t_20 : (List D91)) (t_21 : Int) (t_22 : Int) (b_5 : (List UInt8)) : Option sealed_Join_R :=
 loopK N (fun y => sealed_Join_s3 N y.1.1 y.1.2.1 y.1.2.2.1 y.1.2.2.2.1 y.2.1) (fun (e : (((List D91) × Unit) × ((List UInt8) × Unit))) => sealed_Join_4 N e.1.1 e.2.1) ((l_0, t_20, t_21, t_22, ()), (b_5, ()))
def sealed_Join_1 (N : Nat) (l_0 : (List D91)) (t_19 : Bool) : Option sealed_Join_R :=
 bif t_19 then
 some (((0 : Int), false, ()), (([] : List UInt8), ()))
 else
 sealed_Join_2 N l_0 l_0 (l_0.length : Int) (0 : Int) ([] : List UInt8)
def sealed_Join (N : Nat) (l_0 : (List D91)) : Option sealed_Join_R :=
 bif (decide ((l_0.length : Int) = (0 : Int))) then
 sealed_Join_1 N l_0 true
 else
 bif inR (0 : Int) l_0.length then
 sealed_Join_1 N l_0 (!(decide ((l_0.length : Int) = (l_0.getD 0 ((0 : Int), (0 : Int), (0 : Int), ([] : List UInt8), ())).2.1)))
 else none
def sealed_Join_C (N : Nat) : Ctx := ⟨36, G_tys, [], G_globs, G_ifs⟩
def sealed_Join_S0 : Spec := ⟨[.val (.sl T91), .row 0, .val (.sl T91), .val .i64, .val .i64], [(.row 5 .u8, .pos 1)]⟩
def sealed_Join_S1 : Spec := ⟨[.val (.sl T91), .row 0], [(.row 5 .u8, .pos 1)]⟩
def sealed_Join_S2 : Spec := ⟨[.val (.sl T91), .val .bool], []⟩
def sealed_Join_S3 : Spec := ⟨[.val (.sl T91)], []⟩
def sealed_Join_S4 : Spec := ⟨[.val .i64, .row 0, .val .bool], [(.row 5 .u8, .pos 1)]⟩
def sealed_Join_K (_N : Nat) : XE → GS → Option sealed_Join_R := retK 0 [2, 3, 4] [false, false, false] sealed_Join_S4
def sealed_Join_L : List Code := (bodyOf (some Tryd.f80))
def sealed_Join_L3 : List Code := (loopOf (sealed_Join_L[5]?))
def sealed_Join_K3 (N : Nat) : XE → GS → Option (Lo (((List D91) × (List D91) × Int × Int × Unit) × ((List UInt8) × Unit)) (((List D91) × Unit) × ((List UInt8) × Unit)) sealed_Join_R) := roundK (some 0) (fit 0 [0, 5, 20, 21, 22] sealed_Join_S0) (fit 0 [0, 5] sealed_Join_S1) (sealed_Join_K N)
theorem sealed_Join_s3_b {E : Env} (N : Nat) (hb : Base Tryd.prog (sealed_Join_C N) E 0) : Blk Tryd.prog (sealed_Join_C N) E [0, 5, 20, 21, 22] sealed_Join_S0 (sealed_Join_L3.drop 0) (fun y => sealed_Join_s3 N y.1.1 y.1.2.1 y.1.2.2.1 y.1.2.2.2.1 y.2.1) (sealed_Join_K3 N) :=
 Blk.chunkAt hb 4 (X := (sealed_Join_K3 N .normal)) (NxOk.end (by kernel_rfl)) rfl (fun x => by kernel_rfl)
theorem sealed_Join_4_b {E : Env} (N : Nat) (hb : Base Tryd.prog (sealed_Join_C N) E 0) : Blk Tryd.prog (sealed_Join_C N) E [0, 5] sealed_Join_S1 (sealed_Join_L.drop 6) (fun y => sealed_Join_4 N y.1.1 y.2.1) (sealed_Join_K N) :=
 Blk.chunkAt hb 2 (X := (sealed_Join_K N .normal)) (NxOk.end (by kernel_rfl)) rfl (fun x => by kernel_rfl)
theorem sealed_Join_2_b {E : Env} (N : Nat) (hb : Base Tryd.prog (sealed_Join_C N) E 0) : Blk Tryd.prog (sealed_Join_C N) E [0, 5, 20, 21, 22] sealed_Join_S0 (sealed_Join_L.drop 5) (fun y => sealed_Join_2 N y.1.1 y.1.2.1 y.1.2.2.1 y.1.2.2.2.1 y.2.1) (sealed_Join_K N) :=
 Blk.loopAt (Nf := N) (hns := [0, 5, 20, 21, 22]) (ans := [0, 5]) (hc := sealed_Join_S0) (ac := sealed_Join_S1) (bid := 0) (step := (fun y => sealed_Join_s3 N y.1.1 y.1.2.1 y.1.2.2.1 y.1.2.2.2.1 y.2.1)) (J := (fun e => (goK 0 [0, 5] sealed_Join_S1 (fun y => sealed_Join_4 N y.1.1 y.2.1)) (sealed_Join_S1.st [0, 5] e))) hb (by kernel_rfl) (Blk.into (X := (goK 0 [0, 5] sealed_Join_S1 (fun y => sealed_Join_4 N y.1.1 y.2.1))) (NxOk.go hb (sealed_Join_4_b N hb)) (fun x => by kernel_rfl)) (sealed_Join_s3_b N hb) (fun x => by kernel_rfl)
theorem sealed_Join_1_b {E : Env} (N : Nat) (hb : Base Tryd.prog (sealed_Join_C N) E 0) : Blk Tryd.prog (sealed_Join_C N) E [0, 19] sealed_Join_S2 (sealed_Join_L.drop 2) (fun y => sealed_Join_1 N y.1.1 y.1.2.1) (sealed_Join_K N) :=
 Blk.chunkAt hb 3 (X := (goK 0 [0, 5, 20, 21, 22] sealed_Join_S0 (fun y => sealed_Join_2 N y.1.1 y.1.2.1 y.1.2.2.1 y.1.2.2.2.1 y.2.1))) (NxOk.go hb (sealed_Join_2_b N hb)) rfl (fun x => by kernel_rfl)
theorem sealed_Join_b {E : Env} (N : Nat) (hb : Base Tryd.prog (sealed_Join_C N) E 0) : Blk Tryd.prog (sealed_Join_C N) E (List.range sealed_Join_S3.ks.length) sealed_Join_S3 (sealed_Join_L.drop 0) (fun y => sealed_Join N y.1.1) (sealed_Join_K N) :=
 Blk.chunkAt hb 2 (X := (goK 0 [0, 19] sealed_Join_S2 (fun y => sealed_Join_1 N y.1.1 y.1.2.1))) (NxOk.go hb (sealed_Join_1_b N hb)) rfl (fun x => by kernel_rfl)
def sealed_Join_ctr (N : Nat) : Ctr := ⟨sealed_Join_S3, sealed_Join_S4.un [false, false, false], 0, (fun y => sealed_Join N y.1.1)⟩
theorem sealed_Join_ctrs (N : Nat) : CtrsOk Tryd.prog (sealed_Join_C N) := ctrs_nil G_ifs_ok rfl
theorem sealed_Join_ok (N : Nat) : Ctr.ok Tryd.prog G_globs 80 (sealed_Join_ctr N) :=
 ctr_fn (Γ := sealed_Join_C N) (rfit := sealed_Join_S4) (bs := [false, false, false]) (res := [2, 3, 4]) (by kernel_rfl) (tys_ok G_tys_ok) (sealed_Join_ctrs N) Tryd.func80 (by kernel_rfl) (by kernel_rfl) Tryd.ntmps80 (by kernel_rfl) (by kernel_rfl) (by kernel_rfl) (by kernel_rfl) (fun E hb => sealed_Join_b N hb)
/-! ipsecgate/ipsecgatelaw17.SealedTotals -/
abbrev law17_SealedTotals_R : Type := ((Bool × Unit) × (Unit))
def law17_SealedTotals_s2 (N : Nat) (n_5 : Int) (m_6 : Int) (l_7 : (List D91)) (i_8 : Int) : Option (Lo ((Int × Int × (List D91) × Int × Unit) × (Unit)) ((Int × Int × (List D91) × Unit) × (Unit)) law17_SealedTotals_R) :=
 bif (decide (i_8 ≤ n_5)) then
 bif !(decide (n_5 = 0)) then
 Option.bind (sealed_Add N l_7 ((w64 ((w64 (n_5 + (1 : Int))) - i_8)), n_5, (w64 (i_8.tdiv n_5)), ([(iu8 (w64 ((w64 (n_5 + (1 : Int))) - i_8)))] : List UInt8), ())) fun y16 =>
 bif (!(decide (y16.1.2.1 = (0 : Int)))) then
 some (.rt ((false, ()), (())))
 else
 bif (!(decide ((y16.1.1.length : Int) = i_8))) then
 some (.rt ((false, ()), (())))
 else
 Option.bind (sealed_Join N y16.1.1) fun y20 =>
 bif (!(decide (y20.1.2.1 = (decide (i_8 = n_5))))) then
 some (.rt ((false, ()), (())))
 else
 some (.go ((n_5, m_6, y16.1.1, (w64 (i_8 + (1 : Int))), ()), (())))
 else none
 else
 some (.br ((n_5, m_6, l_7, ()), (())))
def law17_SealedTotals_3 (N : Nat) (n_5 : Int) (m_6 : Int) (l_7 : (List D91)) : Option law17_SealedTotals_R :=
 Option.bind (sealed_Add N l_7 ((1 : Int), m_6, (0 : Int), ([] : List UInt8), ())) fun y24 =>
 bif (decide (n_5 < m_6)) then
 bif (decide (y24.1.2.1 = (0 : Int))) then
 some (((decide ((y24.1.1.length : Int) = (1 : Int))), ()), (()))
 else
 some ((false, ()), (()))
 else
 bif (decide (m_6 < n_5)) then
 bif (decide (y24.1.2.1 = (7 : Int))) then
 some (((decide ((y24.1.1.length : Int) = n_5)), ()), (()))
 else
 some ((false, ()), (()))
 else
 bif (decide (y24.1.2.1 = (9 : Int))) then
 some (((decide ((y24.1.1.length : Int) = n_5)), ()), (()))
 else
 some ((false, ()), (()))
def law17_SealedTotals_1 (N : Nat) (n_5 : Int) (m_6 : Int) (i_8 : Int) (l_7 : (List D91)) : Option law17_SealedTotals_R :=
 loopK N (fun y => law17_SealedTotals_s2 N y.1.1 y.1.2.1 y.1.2.2.1 y.1.2.2.2.1) (fun (e : ((Int × Int × (List D91) × Unit) × (Unit))) => law17_SealedTotals_3 N e.1.1 e.1.2.1 e.1.2.2.1) ((n_5, m_6, l_7, i_8, ()), (()))
def law17_SealedTotals (N : Nat) (a_0 : UInt8) (b_1 : UInt8) : Option law17_SealedTotals_R :=
 Option.bind (law17_awake N) fun y1 =>
 bif (!y1.1.1) then
 some ((false, ()), (()))
 else
 law17_SealedTotals_1 N (w64 ((1 : Int) + ((a_0.toNat : Int).tmod (8 : Int)))) (w64 ((1 : Int) + ((b_1.toNat : Int).tmod (8 : Int)))) (1 : Int) ([] : List D91)
def law17_SealedTotals_C (N : Nat) : Ctx := ⟨109, G_tys, [(53, law17_awake_ctr N), (79, sealed_Add_ctr N), (80, sealed_Join_ctr N)], G_globs, G_ifs⟩
def law17_SealedTotals_S0 : Spec := ⟨[.val .i64, .val .i64, .val (.sl T91), .val .i64], []⟩
def law17_SealedTotals_S1 : Spec := ⟨[.val .i64, .val .i64, .val (.sl T91)], []⟩
def law17_SealedTotals_S2 : Spec := ⟨[.val .i64, .val .i64, .row 0, .val .i64], [(.row 92 T91, .pos 2)]⟩
def law17_SealedTotals_S3 : Spec := ⟨[.val .u8, .val .u8], []⟩
def law17_SealedTotals_S4 : Spec := ⟨[.val .bool], []⟩
def law17_SealedTotals_K (_N : Nat) : XE → GS → Option law17_SealedTotals_R := retK 0 [4] [false] law17_SealedTotals_S4
def law17_SealedTotals_L : List Code := (bodyOf (some Tryd.f13))
def law17_SealedTotals_L2 : List Code := (loopOf (law17_SealedTotals_L[6]?))
def law17_SealedTotals_K2 (N : Nat) : XE → GS → Option (Lo ((Int × Int × (List D91) × Int × Unit) × (Unit)) ((Int × Int × (List D91) × Unit) × (Unit)) law17_SealedTotals_R) := roundK (some 0) (fit 0 [5, 6, 7, 8] law17_SealedTotals_S0) (fit 0 [5, 6, 7] law17_SealedTotals_S1) (law17_SealedTotals_K N)
theorem law17_SealedTotals_s2_b {E : Env} (N : Nat) (hb : Base Tryd.prog (law17_SealedTotals_C N) E 0) : Blk Tryd.prog (law17_SealedTotals_C N) E [5, 6, 7, 8] law17_SealedTotals_S0 (law17_SealedTotals_L2.drop 0) (fun y => law17_SealedTotals_s2 N y.1.1 y.1.2.1 y.1.2.2.1 y.1.2.2.2.1) (law17_SealedTotals_K2 N) :=
 Blk.chunkAt hb 4 (X := (law17_SealedTotals_K2 N .normal)) (NxOk.end (by kernel_rfl)) rfl (fun x => by kernel_rfl)
theorem law17_SealedTotals_3_b {E : Env} (N : Nat) (hb : Base Tryd.prog (law17_SealedTotals_C N) E 0) : Blk Tryd.prog (law17_SealedTotals_C N) E [5, 6, 7] law17_SealedTotals_S1 (law17_SealedTotals_L.drop 7) (fun y => law17_SealedTotals_3 N y.1.1 y.1.2.1 y.1.2.2.1) (law17_SealedTotals_K N) :=
 Blk.chunkAt hb 4 (X := (law17_SealedTotals_K N .normal)) (NxOk.end (by kernel_rfl)) rfl (fun x => by kernel_rfl)
theorem law17_SealedTotals_1_b {E : Env} (N : Nat) (hb : Base Tryd.prog (law17_SealedTotals_C N) E 0) : Blk Tryd.prog (law17_SealedTotals_C N) E [5, 6, 7, 8] law17_SealedTotals_S2 (law17_SealedTotals_L.drop 6) (fun y => law17_SealedTotals_1 N y.1.1 y.1.2.1 y.1.2.2.1 y.2.1) (law17_SealedTotals_K N) :=
 Blk.loopAt (Nf := N) (hns := [5, 6, 7, 8]) (ans := [5, 6, 7]) (hc := law17_SealedTotals_S0) (ac := law17_SealedTotals_S1) (bid := 0) (step := (fun y => law17_SealedTotals_s2 N y.1.1 y.1.2.1 y.1.2.2.1 y.1.2.2.2.1)) (J := (fun e => (goK 0 [5, 6, 7] law17_SealedTotals_S1 (fun y => law17_SealedTotals_3 N y.1.1 y.1.2.1 y.1.2.2.1)) (law17_SealedTotals_S1.st [5, 6, 7] e))) hb (by kernel_rfl) (Blk.into (X := (goK 0 [5, 6, 7] law17_SealedTotals_S1 (fun y => law17_SealedTotals_3 N y.1.1 y.1.2.1 y.1.2.2.1))) (NxOk.go hb (law17_SealedTotals_3_b N hb)) (fun x => by kernel_rfl)) (law17_SealedTotals_s2_b N hb) (fun x => by kernel_rfl)
theorem law17_SealedTotals_b {E : Env} (N : Nat) (hb : Base Tryd.prog (law17_SealedTotals_C N) E 0) : Blk Tryd.prog (law17_SealedTotals_C N) E (List.range law17_SealedTotals_S3.ks.length) law17_SealedTotals_S3 (law17_SealedTotals_L.drop 0) (fun y => law17_SealedTotals N y.1.1 y.1.2.1) (law17_SealedTotals_K N) :=
 Blk.chunkAt hb 6 (X := (goK 0 [5, 6, 7, 8] law17_SealedTotals_S2 (fun y => law17_SealedTotals_1 N y.1.1 y.1.2.1 y.1.2.2.1 y.2.1))) (NxOk.go hb (law17_SealedTotals_1_b N hb)) rfl (fun x => by kernel_rfl)
def law17_SealedTotals_ctr (N : Nat) : Ctr := ⟨law17_SealedTotals_S3, law17_SealedTotals_S4.un [false], 0, (fun y => law17_SealedTotals N y.1.1 y.1.2.1)⟩
theorem law17_SealedTotals_ctrs (N : Nat) : CtrsOk Tryd.prog (law17_SealedTotals_C N) := ctrs_of (Γ := law17_SealedTotals_C N) G_ifs_ok (by
 intro p hp
 simp only [law17_SealedTotals_C, List.mem_cons, List.not_mem_nil, or_false] at hp
 rcases hp with rfl | rfl | rfl
 · exact law17_awake_ok N
 · exact sealed_Add_ok N
 · exact sealed_Join_ok N)
theorem law17_SealedTotals_ok (N : Nat) : Ctr.ok Tryd.prog G_globs 13 (law17_SealedTotals_ctr N) :=
 ctr_fn (Γ := law17_SealedTotals_C N) (rfit := law17_SealedTotals_S4) (bs := [false]) (res := [4]) (by kernel_rfl) (tys_ok G_tys_ok) (law17_SealedTotals_ctrs N) Tryd.func13 (by kernel_rfl) (by kernel_rfl) Tryd.ntmps13 (by kernel_rfl) (by kernel_rfl) (by kernel_rfl) (by kernel_rfl) (fun E hb => law17_SealedTotals_b N hb)
end
end Go.Proofs.YtofajgidjkjnpaaDoor