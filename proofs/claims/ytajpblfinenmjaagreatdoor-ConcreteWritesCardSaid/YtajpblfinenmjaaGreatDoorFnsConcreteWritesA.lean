/- Functions of the program as plain functions, each with the proof that the text computes it. -/
import Derived.Test.YtajpblfinenmjaaGreatDoorGmX
import Derived.Test.YtajpblfinenmjaaGreatDoorProg
set_option linter.unusedVariables false
set_option linter.unusedSimpArgs false
namespace Go.Proofs.YtajpblfinenmjaaGreatDoor
open Go
set_option maxRecDepth 100000
set_option linter.unusedVariables false
noncomputable section
abbrev D13 : Type := (List UInt8 × (UInt64 × Unit))
abbrev T13 : Ty := (.pair .str (.pair .u64 .unit))
abbrev D24 : Type := (Int × (Int × ((List Tree) × Unit)))
abbrev T24 : Ty := (.pair .i64 (.pair .i64 (.pair .trees .unit)))
abbrev D7 : Type := (Int × (Int × (Bool × (UInt8 × Unit))))
abbrev T7 : Ty := (.pair .i64 (.pair .i64 (.pair .bool (.pair .u8 .unit))))
abbrev D23 : Type := (Int × (Int × ((List D24) × Unit)))
abbrev T23 : Ty := (.pair .i64 (.pair .i64 (.pair (.sl T24) .unit)))
abbrev D91 : Type := (List UInt8 × ((List D24) × Unit))
abbrev T91 : Ty := (.pair (.sl .u8) (.pair (.sl T24) .unit))
def G_tys : List (Nat × TI) := [(2, ⟨.i64, 8, 0, false⟩), (3, ⟨.i64, 8, 0, false⟩), (4, ⟨.bool, 1, 0, false⟩), (5, ⟨.u8, 1, 0, false⟩), (6, ⟨.u8, 1, 0, false⟩), (7, ⟨T7, 24, 0, false⟩), (8, ⟨T7, 24, 0, false⟩), (9, ⟨.str, 16, 0, false⟩), (10, ⟨.str, 16, 0, false⟩), (11, ⟨.str, 16, 0, false⟩), (12, ⟨.u64, 8, 0, false⟩), (13, ⟨T13, 24, 0, false⟩), (14, ⟨T13, 24, 0, false⟩), (22, ⟨(.sl T24), 24, 24, false⟩), (23, ⟨T23, 40, 0, false⟩), (24, ⟨T24, 40, 0, false⟩), (25, ⟨(.sl .u8), 24, 5, false⟩), (31, ⟨.i64, 8, 0, false⟩), (35, ⟨.u64, 8, 0, false⟩), (49, ⟨(.pair (.sl .u8) (.pair .i64 .unit)), 32, 0, false⟩), (50, ⟨(.pair (.sl .u8) (.pair .i64 .unit)), 32, 0, false⟩), (66, ⟨.u64, 8, 0, false⟩), (67, ⟨(.sl (.sl .u8)), 24, 25, false⟩), (73, ⟨.i64, 8, 0, false⟩), (83, ⟨.u32, 4, 0, false⟩), (84, ⟨(.arr 8 .u32), 32, 83, false⟩), (91, ⟨T91, 48, 0, false⟩), (92, ⟨T91, 48, 0, false⟩), (100, ⟨(.arr 64 .u32), 256, 83, false⟩), (112, ⟨(.arr 2 .i64), 16, 3, false⟩), (113, ⟨(.arr 3 (.arr 2 .i64)), 48, 112, false⟩), (114, ⟨(.arr 64 .u8), 64, 5, false⟩), (116, ⟨(.arr 16 .u32), 64, 83, false⟩), (119, ⟨(.arr 17 .u32), 68, 83, false⟩), (130, ⟨(.arr 4 .i64), 32, 3, false⟩), (131, ⟨(.arr 8 (.arr 4 .i64)), 256, 130, false⟩), (132, ⟨(.arr 5 .u64), 40, 35, false⟩), (133, ⟨(.arr 5 .u64), 40, 35, false⟩), (151, ⟨.u8, 1, 0, false⟩), (152, ⟨.u8, 1, 0, false⟩), (159, ⟨(.pair .str .unit), 16, 0, false⟩), (160, ⟨(.pair .str .unit), 16, 0, false⟩)]
def zw15 : (List UInt32) := [1779033703, 3144134277, 1013904242, 2773480762, 1359893119, 2600822924, 528734635, 1541459225]
def zw1x : (List UInt32) := [1116352408, 1899447441, 3049323471, 3921009573, 961987163, 1508970993, 2453635748, 2870763221, 3624381080, 310598401, 607225278, 1426881987, 1925078388, 2162078206, 2614888103, 3248222580, 3835390401, 4022224774, 264347078, 604807628, 770255983, 1249150122, 1555081692, 1996064986, 2554220882, 2821834349, 2952996808, 3210313671, 3336571891, 3584528711, 113926993, 338241895, 666307205, 773529912, 1294757372, 1396182291, 1695183700, 1986661051, 2177026350, 2456956037, 2730485921, 2820302411, 3259730800, 3345764771, 3516065817, 3600352804, 4094571909, 275423344, 430227734, 506948616, 659060556, 883997877, 958139571, 1322822218, 1537002063, 1747873779, 1955562222, 2024104815, 2227730452, 2361852424, 2428436474, 2756734187, 3204031479, 3329325298]
def zwd : (List (List Int)) := [[0, 4, 8, 12], [1, 5, 9, 13], [2, 6, 10, 14], [3, 7, 11, 15], [0, 5, 10, 15], [1, 6, 11, 12], [2, 7, 8, 13], [3, 4, 9, 14]]
def zw8 : List (Nat × Dt) := [(0, ⟨(.arr 8 .u32), zw15⟩), (1, ⟨(.arr 64 .u32), zw1x⟩), (2, ⟨(.arr 8 (.arr 4 .i64)), zwd⟩)]
def G_ifs : IfT := ⟨[], [], [], [], [], [], none⟩
theorem zw2 : ifChk Tryz.prog G_ifs = true := by kernel_rfl
theorem zw8u : tyChk Tryz.prog G_tys = true := by kernel_rfl
abbrev COk (f : Nat) (c : Ctr) : Prop := Ctr.ok Tryz.prog zw8 f c
noncomputable abbrev Cx (n : Nat) (l : List (Nat × Ctr)) : Ctx := ⟨n, G_tys, l, zw8, G_ifs⟩
abbrev Bk {R : Type} := @BkP Tryz.prog R
theorem cF {Γ : Ctx} {np fn : Nat} {g : Func} {ps rfit : Spec} {res : List Nat} {bs : List Bool} {F : ps.den → Option (rfit.un bs).den} (hC : CtrsOk Tryz.prog Γ) (hf : Tryz.prog.funcs[fn]? = some g) (hN : g.ntmps = Γ.N) (hB : Bk np Γ (List.range ps.ks.length) ps ((bodyOf (some g)).drop 0) F (retK np res bs rfit))
  (hx : Γ.ifs.exc = none := by rfl) (hT : Γ.tys = G_tys := by rfl) (hG : Γ.globs = zw8 := by rfl) (hbody : g.body.isSome = true := by kernel_rfl) (hname : (g.name == "runtime.NumGoroutine") = false := by kernel_rfl) (hps : Nat.ble ps.ks.length Γ.N = true := by kernel_rfl) (hnp : Nat.ble np ps.os.length = true := by kernel_rfl) (hd : noDup res = true := by kernel_rfl) (hres : resOk Γ.tys g.results.toList res bs rfit.ks = true := by kernel_rfl) :
  COk fn ⟨ps, rfit.un bs, np, F⟩ := by
 show Ctr.ok _ zw8 fn _
 rw [← hG]
 exact ctr_fn (by kernel_rfl) (tys_ok (by rw [hT]; exact zw8u)) hC hf hbody hname hN hps hnp hd hres (fun _ hb => hB hb) hx
noncomputable abbrev Cxx (xv : Option Value) (n : Nat) (l : List (Nat × Ctr)) : Ctx := ⟨n, G_tys, l, zw8, { G_ifs with exc := xv }⟩
theorem cFx {xv : Option Value} {Γ : Ctx} {np fn : Nat} {g : Func} {ps rfit : Spec} {res : List Nat} {bs : List Bool} {F : ps.den → Option (rfit.un bs).den} (hC : CtrsOk Tryz.prog Γ) (hf : Tryz.prog.funcs[fn]? = some g) (hN : g.ntmps = Γ.N) (hB : Bk np Γ (List.range ps.ks.length) ps ((bodyOf (some g)).drop 0) F (retK np res bs rfit))
  (hx : Γ.ifs.exc = xv := by rfl) (hT : Γ.tys = G_tys := by rfl) (hG : Γ.globs = zw8 := by rfl) (hbody : g.body.isSome = true := by kernel_rfl) (hname : (g.name == "runtime.NumGoroutine") = false := by kernel_rfl) (hps : Nat.ble ps.ks.length Γ.N = true := by kernel_rfl) (hnp : Nat.ble np ps.os.length = true := by kernel_rfl) (hd : noDup res = true := by kernel_rfl) (hres : resOk Γ.tys g.results.toList res bs rfit.ks = true := by kernel_rfl) :
  Ctr.okx xv Tryz.prog zw8 fn ⟨ps, rfit.un bs, np, F⟩ := by
 rw [← hG, ← hx]
 exact zw8k (by kernel_rfl) (tys_ok (by rw [hT]; exact zw8u)) hC hf hbody hname hN hps hnp hd hres fun _ hb => hB hb
abbrev zq56_R : Type := ((D24 × Unit) × Unit)
def zq56 (N : Nat) (n_0 : Int) : Option zq56_R :=
 some ((((1 : Int), n_0, ([] : List Tree), ()), ()), ())
def zq56_C (N : Nat) := Cx 5 []
def zq56_S0 : Spec := ⟨[.val .i64], []⟩
def zq56_S1 : Spec := ⟨[.fp T24], []⟩
def zq56_K : XE → GS → Option zq56_R := retK 0 [2] [true] zq56_S1
noncomputable def zq56_L : List Code := (bodyOf (some Tryz.f28))
theorem zq56_b (N) : Bk 0 (zq56_C N) (List.range zq56_S0.ks.length) zq56_S0 (zq56_L.drop 0) (fun y => zq56 N y.1.1) zq56_K :=
 cE 3
def zq56_ctr (N : Nat) : Ctr := ⟨zq56_S0, zq56_S1.un [true], 0, (fun y => zq56 N y.1.1)⟩
theorem zq56_ok (N : Nat) : COk 28 (zq56_ctr N) :=
 cF (zw3 (Γ := zq56_C N) zw2 csn) Tryz.func28 Tryz.ntmps28 (zq56_b N)
abbrev zq43_R : Type := ((Int × Unit) × Unit)
def zq43_s2 (N : Nat) (rc : D24 → D24 → Option zq43_R) (t_27 : (List (List Int))) (t_28 : Int) (a_2 : D24) (b_3 : D24) : Option (Lo (((List (List Int)) × Int × Unit) × (D24 × D24 × Unit)) (Unit × (D24 × D24 × Unit)) zq43_R) :=
 bif (decide (t_28 < (3 : Int))) then
  bif inR t_28 3 then
  let x10 := t_27.getD t_28.toNat (List.replicate 2 (0 : Int))
  bif (decide ((x10.getD 0 (0 : Int)) < (x10.getD 1 (0 : Int)))) then
   some (.rt (((-1 : Int), ()), ()))
  else
   bif (decide ((x10.getD 1 (0 : Int)) < (x10.getD 0 (0 : Int)))) then
    some (.rt (((1 : Int), ()), ()))
   else
    some (.go ((t_27, (w64 (t_28 + (1 : Int))), ()), (a_2, b_3, ())))
  else none
 else
  some (.br ((), (a_2, b_3, ())))
def zq43_s5 (N : Nat) (rc : D24 → D24 → Option zq43_R) (t_43 : (List D24)) (t_44 : Int) (t_45 : Int) (b_3 : D24) : Option (Lo (((List D24) × Int × Int × Unit) × (D24 × Unit)) (Unit × Unit) zq43_R) :=
 bif (decide (t_45 < t_44)) then
  bif inR t_45 t_43.length then
  let x22 := List.map Tree.un b_3.2.2.1
  bif inR t_45 x22.length then
  Option.bind (rc (t_43.getD t_45.toNat ((0 : Int), (0 : Int), ([] : List Tree), ())) (x22.getD t_45.toNat ((0 : Int), (0 : Int), ([] : List Tree), ()))) fun y24 =>
  bif (!(decide (y24.1.1 = (0 : Int)))) then
   some (.rt ((y24.1.1, ()), ()))
  else
   some (.go ((t_43, t_44, (w64 (t_45 + (1 : Int))), ()), (b_3, ())))
  else none
  else none
 else
  some (.br ((), ()))
def zq43_6 (N : Nat) (rc : D24 → D24 → Option zq43_R) : Option zq43_R :=
 some (((0 : Int), ()), ())
def zq43_4 (N : Nat) (rc : D24 → D24 → Option zq43_R) (t_43 : (List D24)) (t_44 : Int) (t_45 : Int) (b_3 : D24) : Option zq43_R :=
 loopK N (fun y => zq43_s5 N rc y.1.1 y.1.2.1 y.1.2.2.1 y.2.1) (fun (e : (Unit × Unit)) => zq43_6 N rc) ((t_43, t_44, t_45, ()), (b_3, ()))
def zq43_3 (N : Nat) (rc : D24 → D24 → Option zq43_R) (a_2 : D24) (b_3 : D24) : Option zq43_R :=
 let x18 := List.map Tree.un a_2.2.2.1
 zq43_4 N rc x18 (x18.length : Int) (0 : Int) b_3
def zq43_1 (N : Nat) (rc : D24 → D24 → Option zq43_R) (t_27 : (List (List Int))) (t_28 : Int) (a_2 : D24) (b_3 : D24) : Option zq43_R :=
 loopK N (fun y => zq43_s2 N rc y.1.1 y.1.2.1 y.2.1 y.2.2.1) (fun (e : (Unit × (D24 × D24 × Unit))) => zq43_3 N rc e.2.1 e.2.2.1) ((t_27, t_28, ()), (a_2, b_3, ()))
def zq43 (N : Nat) (rc : D24 → D24 → Option zq43_R) (a_0 : D24) (b_1 : D24) : Option zq43_R :=
 zq43_1 N rc ([([a_0.1, b_1.1] : List Int), ([a_0.2.1, b_1.2.1] : List Int), ([((List.map Tree.un a_0.2.2.1).length : Int), ((List.map Tree.un b_1.2.2.1).length : Int)] : List Int)] : List (List Int)) (0 : Int) a_0 b_1
def zq43_S0 : Spec := ⟨[.ref 0 T24, .ref 1 T24, .val (.arr 3 (.arr 2 .i64)), .val .i64], [(.box 24 T24, .pos 0), (.box 24 T24, .pos 1)]⟩
def zq43_S1 : Spec := ⟨[.ref 0 T24, .val (.sl T24), .val .i64, .val .i64], [(.box 24 T24, .pos 0)]⟩
def zq43_S2 : Spec := ⟨[], []⟩
def zq43_S3 : Spec := ⟨[.ref 0 T24, .ref 1 T24], [(.box 24 T24, .pos 0), (.box 24 T24, .pos 1)]⟩
def zq43_S4 : Spec := ⟨[.val T24, .val T24], []⟩
def zq43_S5 : Spec := ⟨[.val .i64], []⟩
def zq43_ftr (N : Nat) (rc : D24 → D24 → Option zq43_R) : Ctr := ⟨zq43_S4, zq43_S5.un [false], 0, (fun y => rc y.1.1 y.1.2.1)⟩
def zq43_C (N : Nat) (rc : D24 → D24 → Option zq43_R) := Cx 61 [(107, zq43_ftr N rc)]
def zq43_K : XE → GS → Option zq43_R := retK 0 [4] [false] zq43_S5
noncomputable def zq43_L : List Code := (bodyOf (some Tryz.f107))
def zq43_L2 : List Code := (loopOf (zq43_L[2]?))
def zq43_L5 : List Code := (loopOf (zq43_L[4]?))
def zq43_K2 (N : Nat) (rc : D24 → D24 → Option zq43_R) := roundK (some 0) (fit 0 [2, 3, 27, 28] zq43_S0) (fit 0 [2, 3] zq43_S3) zq43_K
def zq43_K5 (N : Nat) (rc : D24 → D24 → Option zq43_R) := roundK (some 2) (fit 0 [3, 43, 44, 45] zq43_S1) (fit 0 [] zq43_S2) zq43_K
theorem zq43_s2_b (N) (rc) : Bk 0 (zq43_C N rc) [2, 3, 27, 28] zq43_S0 (zq43_L2.drop 0) (fun y => zq43_s2 N rc y.1.1 y.1.2.1 y.2.1 y.2.2.1) (zq43_K2 N rc) :=
 cE 4
theorem zq43_s5_b (N) (rc) : Bk 0 (zq43_C N rc) [3, 43, 44, 45] zq43_S1 (zq43_L5.drop 0) (fun y => zq43_s5 N rc y.1.1 y.1.2.1 y.1.2.2.1 y.2.1) (zq43_K5 N rc) :=
 cE 4
theorem zq43_6_b (N) (rc) : Bk 0 (zq43_C N rc) [] zq43_S2 (zq43_L.drop 5) (fun y => zq43_6 N rc) zq43_K :=
 cE 2
theorem zq43_4_b (N) (rc) : Bk 0 (zq43_C N rc) [3, 43, 44, 45] zq43_S1 (zq43_L.drop 4) (fun y => zq43_4 N rc y.1.1 y.1.2.1 y.1.2.2.1 y.2.1) zq43_K :=
 lG N zq43_S1 [] zq43_S2 (zq43_6_b N rc) (zq43_s5_b N rc)
theorem zq43_3_b (N) (rc) : Bk 0 (zq43_C N rc) [2, 3] zq43_S3 (zq43_L.drop 3) (fun y => zq43_3 N rc y.2.1 y.2.2.1) zq43_K :=
 cG 1 (zq43_4_b N rc)
theorem zq43_1_b (N) (rc) : Bk 0 (zq43_C N rc) [2, 3, 27, 28] zq43_S0 (zq43_L.drop 2) (fun y => zq43_1 N rc y.1.1 y.1.2.1 y.2.1 y.2.2.1) zq43_K :=
 lG N zq43_S0 [2, 3] zq43_S3 (zq43_3_b N rc) (zq43_s2_b N rc)
theorem zq43_b (N) (rc) : Bk 0 (zq43_C N rc) (List.range zq43_S4.ks.length) zq43_S4 (zq43_L.drop 0) (fun y => zq43 N rc y.1.1 y.1.2.1) zq43_K :=
 cG 2 (zq43_1_b N rc)
def zq43_octr (N : Nat) (rc : D24 → D24 → Option zq43_R) : Ctr := ⟨zq43_S4, zq43_S5.un [false], 0, (fun y => zq43 N rc y.1.1 y.1.2.1)⟩
theorem zq43_ook (N : Nat) (rc : D24 → D24 → Option zq43_R) (hf : COk 107 (zq43_ftr N rc))  : COk 107 (zq43_octr N rc) :=
 cF (zw3 (Γ := zq43_C N rc) zw2 (csc hf csn)) Tryz.func107 Tryz.ntmps107 (zq43_b N rc)
def zw1j (N : Nat) : Nat → D24 → D24 → Option zq43_R
 | 0 => fun _ _ => none
 | n + 1 => fun a_0 b_1 => zq43 N (zw1j N n) a_0 b_1
theorem zw8v (N : Nat) : ∀ n : Nat, COk 107 (zq43_ftr N (zw1j N n))
 | 0 => zw14 Tryz.func107 (by kernel_rfl) (by kernel_rfl) (fun x => rfl)
 | n + 1 => zq43_ook N (zw1j N n) (zw8v N n)
def zq43_ctr (N : Nat) : Ctr := zq43_ftr N (zw1j N N)
theorem zq43_ok (N : Nat) : COk 107 (zq43_ctr N) := zw8v N N
abbrev zq107_R : Type := ((Bool × Unit) × Unit)
def zq107 (N : Nat) (a_0 : D24) (b_1 : D24) : Option zq107_R :=
 Option.bind (zw1j N N a_0 b_1) fun y1 =>
 some (((decide (y1.1.1 < (0 : Int))), ()), ())
def zq107_C (N : Nat) := Cx 9 [(107, zq43_ctr N)]
def zq107_S0 : Spec := ⟨[.val T24, .val T24], []⟩
def zq107_S1 : Spec := ⟨[.val .bool], []⟩
def zq107_K : XE → GS → Option zq107_R := retK 0 [4] [false] zq107_S1
noncomputable def zq107_L : List Code := (bodyOf (some Tryz.f81))
theorem zq107_b (N) : Bk 0 (zq107_C N) (List.range zq107_S0.ks.length) zq107_S0 (zq107_L.drop 0) (fun y => zq107 N y.1.1 y.1.2.1) zq107_K :=
 cE 3
def zq107_ctr (N : Nat) : Ctr := ⟨zq107_S0, zq107_S1.un [false], 0, (fun y => zq107 N y.1.1 y.1.2.1)⟩
theorem zq107_ok (N : Nat) : COk 81 (zq107_ctr N) :=
 cF (zw3 (Γ := zq107_C N) zw2 (csc (zq43_ok N) csn)) Tryz.func81 Tryz.ntmps81 (zq107_b N)
abbrev zq94_R : Type := ((Bool × Unit) × Unit)
def zq94 (N : Nat) (t_0 : D24) : Option zq94_R :=
 let x2 := ((List.map Tree.un t_0.2.2.1).length : Int)
 bif (decide (t_0.1 = (1 : Int))) then
  some (((decide (x2 = (0 : Int))), ()), ())
 else
  bif (decide (t_0.1 = (2 : Int))) then
   bif (decide (x2 = (0 : Int))) then
    some (((decide ((0 : Int) ≤ t_0.2.1)), ()), ())
   else
    some ((false, ()), ())
  else
   bif (decide (t_0.1 = (9 : Int))) then
    bif (decide (x2 = (0 : Int))) then
     some (((decide ((0 : Int) ≤ t_0.2.1)), ()), ())
    else
     some ((false, ()), ())
   else
    bif (decide (t_0.1 = (10 : Int))) then
     bif (decide (x2 = (0 : Int))) then
      some (((decide ((0 : Int) ≤ t_0.2.1)), ()), ())
     else
      some ((false, ()), ())
    else
     bif (decide (t_0.1 = (3 : Int))) then
      some (((decide (t_0.2.1 = (0 : Int))), ()), ())
     else
      bif (decide (t_0.1 = (6 : Int))) then
       some (((decide ((0 : Int) ≤ t_0.2.1)), ()), ())
      else
       bif (decide (t_0.1 = (4 : Int))) then
        bif (decide (x2 = (1 : Int))) then
         some (((decide (t_0.2.1 = (0 : Int))), ()), ())
        else
         some ((false, ()), ())
       else
        bif (decide (t_0.1 = (8 : Int))) then
         bif (decide (x2 = (1 : Int))) then
          some (((decide ((0 : Int) ≤ t_0.2.1)), ()), ())
         else
          some ((false, ()), ())
        else
         bif (decide (t_0.1 = (5 : Int))) then
          bif (decide (x2 = (2 : Int))) then
           bif (decide (t_0.2.1 = (0 : Int))) then
            let x27 := List.map Tree.un t_0.2.2.1
            bif inR (1 : Int) x27.length then
            let x29 := List.map Tree.un t_0.2.2.1
            bif inR (0 : Int) x29.length then
            Option.bind (zq107 N (x27.getD 1 ((0 : Int), (0 : Int), ([] : List Tree), ())) (x29.getD 0 ((0 : Int), (0 : Int), ([] : List Tree), ()))) fun y31 =>
            some (((!y31.1.1), ()), ())
            else none
            else none
           else
            some ((false, ()), ())
          else
           some ((false, ()), ())
         else
          bif (decide (t_0.1 = (7 : Int))) then
           bif (decide (x2 = (2 : Int))) then
            some (((decide (t_0.2.1 = (0 : Int))), ()), ())
           else
            some ((false, ()), ())
          else
           some ((false, ()), ())
def zq94_C (N : Nat) := Cx 82 [(81, zq107_ctr N)]
def zq94_S0 : Spec := ⟨[.val T24], []⟩
def zq94_S1 : Spec := ⟨[.val .bool], []⟩
def zq94_K : XE → GS → Option zq94_R := retK 0 [2] [false] zq94_S1
noncomputable def zq94_L : List Code := (bodyOf (some Tryz.f55))
theorem zq94_b (N) : Bk 0 (zq94_C N) (List.range zq94_S0.ks.length) zq94_S0 (zq94_L.drop 0) (fun y => zq94 N y.1.1) zq94_K :=
 cE 6
def zq94_ctr (N : Nat) : Ctr := ⟨zq94_S0, zq94_S1.un [false], 0, (fun y => zq94 N y.1.1)⟩
theorem zq94_ok (N : Nat) : COk 55 (zq94_ctr N) :=
 cF (zw3 (Γ := zq94_C N) zw2 (csc (zq107_ok N) csn)) Tryz.func55 Tryz.ntmps55 (zq94_b N)
abbrev zq118_R : Type := (Unit × (List UInt8 × Unit))
def zq118_s3 (N : Nat) (v_1 : UInt64) (i_7 : Int) (b_0 : List UInt8) : Option (Lo ((UInt64 × Int × Unit) × (List UInt8 × Unit)) (Unit × (List UInt8 × Unit)) zq118_R) :=
 bif (decide ((0 : Int) ≤ i_7)) then
  let x4 := w64 ((8 : Int) * i_7)
  bif decide (0 ≤ x4) then
  let x5 := shr64 v_1 x4.toNat
  bif room (b_0.length + ([x5.toUInt8] : List UInt8).length) 1 then
  some (.go ((v_1, (w64 (i_7 - (1 : Int))), ()), ((b_0 ++ ([x5.toUInt8] : List UInt8)), ())))
  else none
  else none
 else
  some (.br ((), (b_0, ())))
def zq118_4 (N : Nat) (b_0 : List UInt8) : Option zq118_R :=
 some ((), (b_0, ()))
def zq118_2 (N : Nat) (v_1 : UInt64) (i_7 : Int) (b_0 : List UInt8) : Option zq118_R :=
 loopK N (fun y => zq118_s3 N y.1.1 y.1.2.1 y.2.1) (fun (e : (Unit × (List UInt8 × Unit))) => zq118_4 N e.2.1) ((v_1, i_7, ()), (b_0, ()))
def zq118_1 (N : Nat) (v_1 : UInt64) (width_2 : Int) (t_13 : Bool) (b_0 : List UInt8) : Option zq118_R :=
 bif t_13 then
  some ((), (b_0, ()))
 else
  zq118_2 N v_1 (w64 (width_2 - (1 : Int))) b_0
def zq118 (N : Nat) (v_1 : UInt64) (width_2 : Int) (b_0 : List UInt8) : Option zq118_R :=
 bif (decide (width_2 < (1 : Int))) then
  zq118_1 N v_1 width_2 true b_0
 else
  zq118_1 N v_1 width_2 (decide ((8 : Int) < width_2)) b_0
def zq118_C (N : Nat) := Cx 30 []
def zq118_S0 : Spec := ⟨[.row 0, .val .u64, .val .i64], [(.row 5 .u8, .pos 0)]⟩
def zq118_S1 : Spec := ⟨[.row 0], [(.row 5 .u8, .pos 0)]⟩
def zq118_S2 : Spec := ⟨[.row 0, .val .u64, .val .i64, .val .bool], [(.row 5 .u8, .pos 0)]⟩
def zq118_K : XE → GS → Option zq118_R := retK 0 [6] [false] zq118_S1
noncomputable def zq118_L : List Code := (bodyOf (some Tryz.f67))
def zq118_L3 : List Code := (loopOf (zq118_L[4]?))
def zq118_K3 (N : Nat) := roundK (some 0) (fit 0 [0, 1, 7] zq118_S0) (fit 0 [0] zq118_S1) zq118_K
theorem zq118_s3_b (N) : Bk 0 (zq118_C N) [0, 1, 7] zq118_S0 (zq118_L3.drop 0) (fun y => zq118_s3 N y.1.1 y.1.2.1 y.2.1) (zq118_K3 N) :=
 cE 4
theorem zq118_4_b (N) : Bk 0 (zq118_C N) [0] zq118_S1 (zq118_L.drop 5) (fun y => zq118_4 N y.2.1) zq118_K :=
 cE 2
theorem zq118_2_b (N) : Bk 0 (zq118_C N) [0, 1, 7] zq118_S0 (zq118_L.drop 4) (fun y => zq118_2 N y.1.1 y.1.2.1 y.2.1) zq118_K :=
 lG N zq118_S0 [0] zq118_S1 (zq118_4_b N) (zq118_s3_b N)
theorem zq118_1_b (N) : Bk 0 (zq118_C N) [0, 1, 2, 13] zq118_S2 (zq118_L.drop 2) (fun y => zq118_1 N y.1.1 y.1.2.1 y.1.2.2.1 y.2.1) zq118_K :=
 cG 2 (zq118_2_b N)
theorem zq118_b (N) : Bk 0 (zq118_C N) (List.range zq118_S0.ks.length) zq118_S0 (zq118_L.drop 0) (fun y => zq118 N y.1.1 y.1.2.1 y.2.1) zq118_K :=
 cG 2 (zq118_1_b N)
def zq118_ctr (N : Nat) : Ctr := ⟨zq118_S0, zq118_S1.un [false], 0, (fun y => zq118 N y.1.1 y.1.2.1 y.2.1)⟩
theorem zq118_ok (N : Nat) : COk 67 (zq118_ctr N) :=
 cF (zw3 (Γ := zq118_C N) zw2 csn) Tryz.func67 Tryz.ntmps67 (zq118_b N)
abbrev zq8_R : Type := (Unit × (List UInt8 × Unit))
def zq8 (N : Nat) (t_1 : D24) (b_0 : List UInt8) : Option zq8_R :=
 Option.bind (zq118 N (iu64 t_1.2.1) (8 : Int) b_0) fun y2 =>
 some ((), (y2.2.1, ()))
def zq8_C (N : Nat) := Cx 10 [(67, zq118_ctr N)]
def zq8_S0 : Spec := ⟨[.row 0, .val T24], [(.row 5 .u8, .pos 0)]⟩
def zq8_S1 : Spec := ⟨[.row 0], [(.row 5 .u8, .pos 0)]⟩
def zq8_K : XE → GS → Option zq8_R := retK 0 [4] [false] zq8_S1
noncomputable def zq8_L : List Code := (bodyOf (some Tryz.f82))
theorem zq8_b (N) : Bk 0 (zq8_C N) (List.range zq8_S0.ks.length) zq8_S0 (zq8_L.drop 0) (fun y => zq8 N y.1.1 y.2.1) zq8_K :=
 cE 3
def zq8_ctr (N : Nat) : Ctr := ⟨zq8_S0, zq8_S1.un [false], 0, (fun y => zq8 N y.1.1 y.2.1)⟩
theorem zq8_ok (N : Nat) : COk 82 (zq8_ctr N) :=
 cF (zw3 (Γ := zq8_C N) zw2 (csc (zq118_ok N) csn)) Tryz.func82 Tryz.ntmps82 (zq8_b N)
end
end Go.Proofs.YtajpblfinenmjaaGreatDoor