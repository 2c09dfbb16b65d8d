/- The law TopMoves: the states that its run goes through, as literals. -/
import Derived.Test.YtehbbcdhahnkgaaGreatHmTab
import Derived.Test.YtehbbcdhahnkgaaGreatHmV
set_option linter.unusedVariables false
set_option linter.unusedSimpArgs false
namespace Go.Proofs.YtehbbcdhahnkgaaGreat.Hm
open Go
noncomputable section
def uI (n : Nat) : HV := .i .u64 (.lit (.ofNat n))
def sI (j : Nat) : HV := .i .i64 (.sym j (.ofNat 0))
def rows5 (v72 v73 : IV) : List ((IV × Int) × (IV × IV)) := [((.sym 60 0, 6), (.sym 70 0, .sym 61 0)), ((.sym 61 0, 6), (.sym 71 0, .sym 62 0)), ((.sym 62 0, 8), (v72, .sym 63 0)), ((.sym 63 0, 4), (v73, .sym 64 0)), ((.sym 64 0, 16), (.sym 78 0, .sym 69 0))]
def rows9 (v72 v73 v76 : IV) : List ((IV × Int) × (IV × IV)) := [((.sym 60 0, 6), (.sym 70 0, .sym 61 0)), ((.sym 61 0, 6), (.sym 71 0, .sym 62 0)), ((.sym 62 0, 8), (v72, .sym 63 0)), ((.sym 63 0, 4), (v73, .sym 64 0)), ((.sym 64 0, 4), (.sym 74 0, .sym 65 0)), ((.sym 65 0, 3), (.sym 75 0, .sym 66 0)),
 ((.sym 66 0, 6), (v76, .sym 67 0)), ((.sym 67 0, 16), (.sym 77 0, .sym 68 0)), ((.sym 64 0, 16), (.sym 78 0, .sym 69 0))]
def nI (n : Nat) : HV := .i .i64 (.lit (.ofNat n))
def LL : Nat := 100000
def R0 : Rng := { rng := [], ne := [] }
def bdOf : Option Code → Code
 | some (.block _ (.loop c)) => c
 | _ => .skip
def blOf : Option Code → Code
 | some (.block _ c) => c
 | _ => .skip
noncomputable def bodyM : List Code := flat (Tryz.f5.body.getD .skip)
noncomputable def lA : List Code := bodyM.take 7
noncomputable def bd0 : Code := bdOf bodyM[7]?
noncomputable def lb0 : List Code := flat bd0
noncomputable def bk1 : Code := blOf lb0[2]?
noncomputable def lG : List Code := lb0.take 2
noncomputable def lH : List Code := lb0.take 2 ++ (flat bk1).take 4
noncomputable def lR : List Code := (flat bk1).drop 4 ++ lb0.drop 3
noncomputable def lM : List Code := (bodyM.drop 8).take 3
noncomputable def bd4 : Code := bdOf bodyM[11]?
noncomputable def lb4 : List Code := flat bd4
noncomputable def bk5 : Code := blOf lb4[2]?
noncomputable def lV : List Code := lb4.take 2
noncomputable def lP : List Code := lb4.take 2 ++ (flat bk5).take 4
noncomputable def lQ : List Code := (flat bk5).drop 4 ++ lb4.drop 3
noncomputable def lE : List Code := bodyM.drop 12
def isE : Nat → XE → Bool
 | 0, .normal => true
 | 1, .ret => true
 | n + 2, .exit i => Nat.beq n i
 | _, _ => false
def isTo : Option HV → Bool
 | some (.b true) => true
 | _ => false
def pS (T : St) (s2 : Sub) (src : List Nat) (kvs : List (Nat × HV)) (hd : List (Nat × HD)) (k : Nat) : XE → GS → Bool := fun e G => isE k e && satH T [] s2 src kvs hd G
def pR : XE → GS → Bool := fun e G => isE 1 e && isTo (G.slots.get 4)
def eAo10 : Ob := .cells 68 [nI 4, uI 0, uI 167772160, nI 4, uI 0, uI 184549375, nI 4, uI 0, uI 3232235520, nI 4, uI 0, uI 3232301055, nI 0, nI 255, .i .i64 (.lit (.negSucc 0)), nI 65535, .i .i64 (.lit (.negSucc 0)), nI 65535] true
def eAo11 : Ob := .cells 68 [nI 4, uI 0, uI 0, nI 4, uI 0, uI 4294967295, nI 4, uI 0, uI 0, nI 4, uI 0, uI 4294967295, nI 0, nI 255, .i .i64 (.lit (.negSucc 0)), nI 65535, .i .i64 (.lit (.negSucc 0)), nI 65535, nI 6, uI 0, uI 0, nI 6, uI 18446744073709551615, uI 18446744073709551615, nI 6, uI 0, uI 0, nI 6, uI 18446744073709551615, uI 18446744073709551615, nI 0, nI 255, .i .i64 (.lit (.negSucc 0)), nI 65535, .i .i64 (.lit (.negSucc 0)), nI 65535] true
def eAo12 : Ob := .cells 97 [nI 2, .s [103, 111, 108, 100], .sl 10 0 1 1 true, nI 0, .s [], .sl 11 0 2 2 true] true
def eA : Ent := ⟨46, [.s [112, 114, 111, 116, 101, 99, 116, 32, 103, 111, 108, 100, 32, 108, 111, 99, 97, 108, 32, 49, 48, 46, 48, 46, 48, 46, 48, 47, 56, 32, 114, 101, 109, 111, 116, 101, 32, 49, 57, 50, 46, 49, 54, 56, 46, 48, 46, 48, 47, 49, 54, 10, 100, 105, 115, 99, 97, 114, 100]], 10, .tup [.sl 12 0 2 2 true, nI 0, nI 0], [.obj 10 (some eAo10), .obj 11 (some eAo11), .obj 12 (some eAo12)], 172⟩
def eAs : List Nat := [98, 168, 171]
def eBo173 : Ob := .cells 68 [nI 4, uI 0, uI 3232235520, nI 4, uI 0, uI 3232301055, nI 4, uI 0, uI 167772160, nI 4, uI 0, uI 184549375, nI 0, nI 255, .i .i64 (.lit (.negSucc 0)), nI 65535, .i .i64 (.lit (.negSucc 0)), nI 65535] true
def eBo174 : Ob := .cells 68 [nI 4, uI 0, uI 0, nI 4, uI 0, uI 4294967295, nI 4, uI 0, uI 0, nI 4, uI 0, uI 4294967295, nI 0, nI 255, .i .i64 (.lit (.negSucc 0)), nI 65535, .i .i64 (.lit (.negSucc 0)), nI 65535, nI 6, uI 0, uI 0, nI 6, uI 18446744073709551615, uI 18446744073709551615, nI 6, uI 0, uI 0, nI 6, uI 18446744073709551615, uI 18446744073709551615, nI 0, nI 255, .i .i64 (.lit (.negSucc 0)), nI 65535, .i .i64 (.lit (.negSucc 0)), nI 65535] true
def eBo175 : Ob := .cells 97 [nI 2, .s [103, 111, 108, 100], .sl 173 0 1 1 true, nI 0, .s [], .sl 174 0 2 2 true] true
def eB : Ent := ⟨46, [.s [112, 114, 111, 116, 101, 99, 116, 32, 103, 111, 108, 100, 32, 108, 111, 99, 97, 108, 32, 49, 57, 50, 46, 49, 54, 56, 46, 48, 46, 48, 47, 49, 54, 32, 114, 101, 109, 111, 116, 101, 32, 49, 48, 46, 48, 46, 48, 46, 48, 47, 56, 10, 100, 105, 115, 99, 97, 114, 100]], 173, .tup [.sl 175 0 2 2 true, nI 0, nI 0], [.obj 173 (some eBo173), .obj 174 (some eBo174), .obj 175 (some eBo175)], 335⟩
def eBs : List Nat := [261, 331, 334]
def eCo0 : Ob := .cells 3 [nI 31, nI 1024] true
def eCo1 : Ob := .cells 68 [nI 4, uI 0, uI 167772160, nI 4, uI 0, uI 184549375, nI 4, uI 0, uI 3232235520, nI 4, uI 0, uI 3232301055, nI 0, nI 255, .i .i64 (.lit (.negSucc 0)), nI 65535, .i .i64 (.lit (.negSucc 0)), nI 65535] true
def eCo2 : Ob := .cells 68 [nI 4, uI 0, uI 0, nI 4, uI 0, uI 4294967295, nI 4, uI 0, uI 0, nI 4, uI 0, uI 4294967295, nI 0, nI 255, .i .i64 (.lit (.negSucc 0)), nI 65535, .i .i64 (.lit (.negSucc 0)), nI 65535, nI 6, uI 0, uI 0, nI 6, uI 18446744073709551615, uI 18446744073709551615, nI 6, uI 0, uI 0, nI 6, uI 18446744073709551615, uI 18446744073709551615, nI 0, nI 255, .i .i64 (.lit (.negSucc 0)), nI 65535, .i .i64 (.lit (.negSucc 0)), nI 65535] true
def eCo3 : Ob := .cells 97 [nI 2, .s [103, 111, 108, 100], .sl 1 0 1 1 true, nI 0, .s [], .sl 2 0 2 2 true] true
def eCo4 : Ob := .cells 3 [nI 31, nI 1024] true
def eCo5 : Ob := .cells 68 [nI 4, uI 0, uI 3232235520, nI 4, uI 0, uI 3232301055, nI 4, uI 0, uI 167772160, nI 4, uI 0, uI 184549375, nI 0, nI 255, .i .i64 (.lit (.negSucc 0)), nI 65535, .i .i64 (.lit (.negSucc 0)), nI 65535] true
def eCo6 : Ob := .cells 68 [nI 4, uI 0, uI 0, nI 4, uI 0, uI 4294967295, nI 4, uI 0, uI 0, nI 4, uI 0, uI 4294967295, nI 0, nI 255, .i .i64 (.lit (.negSucc 0)), nI 65535, .i .i64 (.lit (.negSucc 0)), nI 65535, nI 6, uI 0, uI 0, nI 6, uI 18446744073709551615, uI 18446744073709551615, nI 6, uI 0, uI 0, nI 6, uI 18446744073709551615, uI 18446744073709551615, nI 0, nI 255, .i .i64 (.lit (.negSucc 0)), nI 65535, .i .i64 (.lit (.negSucc 0)), nI 65535] true
def eCo7 : Ob := .cells 97 [nI 2, .s [103, 111, 108, 100], .sl 5 0 1 1 true, nI 0, .s [], .sl 6 0 2 2 true] true
def eCo8 : Ob := .cells 28 [nI 1, nI 1, .ns, nI 1, nI 31, .ns, nI 1, nI 1024, .ns] true
def eCo9 : Ob := .cells 28 [nI 2, nI 5, .ns] false
def eCo10 : Ob := .cells 28 [nI 1, nI 2, .ns, nI 1, nI 31, .ns, nI 4, nI 0, .sl 9 0 1 1 false] true
def eCo11 : Ob := .cells 28 [nI 1, nI 3, .ns, nI 2, nI 4, .ns] true
def eCo12 : Ob := .cells 28 [nI 1, nI 1003, .ns, nI 1, nI 1, .ns] true
def eCo13 : Ob := .cells 28 [nI 1, nI 1003, .ns, nI 1, nI 2, .ns] true
def eCo14 : Ob := .cells 28 [nI 1, nI 7, .ns, nI 6, nI 8, .sl 12 0 2 2 true, nI 6, nI 8, .sl 13 0 2 2 true] true
def eCo15 : Ob := .cells 28 [nI 3, nI 0, .sl 8 0 3 3 true, nI 3, nI 0, .sl 10 0 3 3 true, nI 3, nI 0, .sl 11 0 2 2 true, nI 3, nI 0, .sl 14 0 3 3 true] true
def eCo16 : Ob := .cells 28 [nI 1, nI 34, .ns, nI 1, nI 1003, .ns, nI 1, nI 0, .ns, nI 1, nI 2, .ns, nI 1, nI 0, .ns, nI 3, nI 0, .sl 15 0 4 4 true] true
def eCo17 : Ob := .cells 28 [nI 2, nI 5, .ns, nI 2, nI 1048581, .ns] false
def eCo18 : Ob := .cells 28 [nI 2, nI 4, .ns, nI 2, nI 1048580, .ns, nI 5, nI 0, .sl 17 0 2 2 false] true
def eCo19 : Ob := .cells 28 [nI 6, nI 1, .sl 18 0 3 3 true, nI 1, nI 1003, .ns, nI 1, nI 2003, .ns] true
def eCo20 : Ob := .cells 28 [nI 6, nI 1, .sl 18 0 3 3 true, nI 1, nI 1003, .ns, nI 1, nI 2003, .ns] true
def eCo21 : Ob := .cells 28 [nI 6, nI 1, .sl 18 0 3 3 true, nI 1, nI 1003, .ns, nI 1, nI 2003, .ns] true
def eCo22 : Ob := .cells 28 [nI 1, nI 1, .ns, nI 1, nI 31, .ns] true
def eCo23 : Ob := .cells 28 [nI 2, nI 1048581, .ns] false
def eCo24 : Ob := .cells 28 [nI 1, nI 2, .ns, nI 1, nI 31, .ns, nI 4, nI 0, .sl 23 0 1 1 false] true
def eCo25 : Ob := .cells 28 [nI 1, nI 3, .ns, nI 2, nI 1048580, .ns] true
def eCo26 : Ob := .cells 28 [nI 1, nI 1003, .ns, nI 1, nI 2, .ns] true
def eCo27 : Ob := .cells 28 [nI 1, nI 1003, .ns, nI 1, nI 1, .ns] true
def eCo28 : Ob := .cells 28 [nI 1, nI 7, .ns, nI 6, nI 8, .sl 26 0 2 2 true, nI 6, nI 8, .sl 27 0 2 2 true] true
def eCo29 : Ob := .cells 28 [nI 3, nI 0, .sl 22 0 2 2 true, nI 3, nI 0, .sl 24 0 3 3 true, nI 3, nI 0, .sl 25 0 2 2 true, nI 3, nI 0, .sl 28 0 3 3 true] true
def eCo30 : Ob := .cells 28 [nI 1, nI 34, .ns, nI 1, nI 1003, .ns, nI 1, nI 2003, .ns, nI 1, nI 1, .ns, nI 1, nI 0, .ns, nI 3, nI 0, .sl 29 0 4 4 true] true
def eCo31 : Ob := .cells 28 [nI 2, nI 5, .ns, nI 2, nI 1048581, .ns] false
def eCo32 : Ob := .cells 28 [nI 2, nI 4, .ns, nI 2, nI 1048580, .ns, nI 5, nI 0, .sl 31 0 2 2 false] true
def eCo33 : Ob := .cells 28 [nI 6, nI 1, .sl 32 0 3 3 true, nI 1, nI 1003, .ns, nI 1, nI 2003, .ns] true
def eCo34 : Ob := .cells 28 [nI 6, nI 1, .sl 32 0 3 3 true, nI 1, nI 1003, .ns, nI 1, nI 2003, .ns] true
def eCo35 : Ob := .cells 28 [nI 6, nI 1, .sl 32 0 3 3 true, nI 1, nI 1003, .ns, nI 1, nI 2003, .ns] true
def eCo36 : Ob := .cells 28 [nI 1, nI 8, .ns, nI 1, nI 0, .ns] true
def eCo37 : Ob := .cells 28 [nI 3, nI 0, .sl 16 0 6 6 true, nI 2, nI 1048580, .ns, nI 1, nI 0, .ns] true
def eCo38 : Ob := .cells 28 [nI 3, nI 0, .sl 37 0 3 3 true] false
def eCo39 : Ob := .cells 28 [nI 1, nI 9, .ns, nI 8, nI 0, .sl 38 0 1 1 false] true
def eCo40 : Ob := .cells 28 [nI 1, nI 10, .ns, nI 1, nI 1006, .ns] true
def eCo41 : Ob := .cells 28 [nI 1, nI 11, .ns, nI 1, nI 4, .ns, nI 1, nI 0, .ns, nI 1, nI 167772160, .ns, nI 1, nI 4, .ns, nI 1, nI 0, .ns, nI 1, nI 184549375, .ns, nI 1, nI 4, .ns, nI 1, nI 0, .ns, nI 1, nI 3232235520, .ns, nI 1, nI 4, .ns, nI 1, nI 0, .ns, nI 1, nI 3232301055, .ns, nI 1, nI 0, .ns, nI 1, nI 255, .ns, nI 1, .i .i64 (.lit (.negSucc 0)), .ns, nI 1, nI 65535, .ns, nI 1, .i .i64 (.lit (.negSucc 0)), .ns, nI 1, nI 65535, .ns, nI 1, nI 103, .ns, nI 1, nI 111, .ns, nI 1, nI 108, .ns, nI 1, nI 100, .ns] true
def eCo42 : Ob := .cells 28 [nI 3, nI 0, .sl 36 0 2 2 true, nI 3, nI 0, .sl 39 0 2 2 true, nI 3, nI 0, .sl 40 0 2 2 true, nI 3, nI 0, .sl 41 0 23 23 true] true
def eCo43 : Ob := .cells 28 [nI 1, nI 35, .ns, nI 1, nI 1003, .ns, nI 1, nI 2003, .ns, nI 1, nI 2, .ns, nI 1, nI 1, .ns, nI 3, nI 0, .sl 42 0 4 4 true] true
def eCo44 : Ob := .cells 28 [nI 6, nI 3, .sl 34 0 3 3 true, nI 3, nI 0, .sl 43 0 6 6 true] false
def eCo45 : Ob := .cells 28 [nI 1, nI 35, .ns, nI 1, nI 1003, .ns, nI 1, nI 2003, .ns, nI 1, nI 2, .ns, nI 1, nI 1, .ns, nI 7, nI 0, .sl 44 0 2 2 false] true
def eCo46 : Ob := .cells 48 [uI 0] false
def eCo47 : Ob := .cells 28 [nI 6, nI 2, .sl 19 0 3 3 true, nI 2, nI 4, .ns, nI 2, nI 1048580, .ns] true
def eCo48 : Ob := .cells 28 [nI 6, nI 2, .sl 19 0 3 3 true, nI 2, nI 4, .ns, nI 2, nI 1048580, .ns] true
def eCo49 : Ob := .cells 81 [nI 2006, nI 1006, nI 2003, nI 0, nI 4, uI 0, uI 3232235520, nI 4, uI 0, uI 3232301055, nI 4, uI 0, uI 167772160, nI 4, uI 0, uI 184549375, nI 0, nI 255, .i .i64 (.lit (.negSucc 0)), nI 65535, .i .i64 (.lit (.negSucc 0)), nI 65535, nI 6, nI 5, .sl 47 0 3 3 true, nI 6, nI 6, .sl 48 0 3 3 true, .b false, nI 2, nI 1048580, .ns, nI 2, nI 4, .ns, nI 1, nI 0, nI 6, uI 0, .sl 46 0 1 1 false, nI 0, nI 0] true
def eCo50 : Ob := .cells 28 [nI 1, nI 10, .ns, nI 1, nI 2006, .ns] true
def eCo51 : Ob := .cells 28 [nI 1, nI 11, .ns, nI 1, nI 4, .ns, nI 1, nI 0, .ns, nI 1, nI 3232235520, .ns, nI 1, nI 4, .ns, nI 1, nI 0, .ns, nI 1, nI 3232301055, .ns, nI 1, nI 4, .ns, nI 1, nI 0, .ns, nI 1, nI 167772160, .ns, nI 1, nI 4, .ns, nI 1, nI 0, .ns, nI 1, nI 184549375, .ns, nI 1, nI 0, .ns, nI 1, nI 255, .ns, nI 1, .i .i64 (.lit (.negSucc 0)), .ns, nI 1, nI 65535, .ns, nI 1, .i .i64 (.lit (.negSucc 0)), .ns, nI 1, nI 65535, .ns, nI 1, nI 103, .ns, nI 1, nI 111, .ns, nI 1, nI 108, .ns, nI 1, nI 100, .ns] true
def eCo52 : Ob := .cells 28 [nI 6, nI 2, .sl 19 0 3 3 true, nI 1, nI 0, .ns, nI 1, nI 40, .ns] true
def eCo53 : Ob := .cells 28 [nI 2, nI 1048578, .ns, nI 3, nI 0, .sl 52 0 3 3 true] false
def eCo54 : Ob := .cells 28 [nI 1, nI 8, .ns, nI 1, nI 1, .ns] true
def eCo55 : Ob := .cells 28 [nI 3, nI 0, .sl 30 0 6 6 true, nI 2, nI 4, .ns, nI 1, nI 1, .ns] true
def eCo56 : Ob := .cells 28 [nI 3, nI 0, .sl 55 0 3 3 true] false
def eCo57 : Ob := .cells 28 [nI 1, nI 9, .ns, nI 8, nI 1, .sl 56 0 1 1 false] true
def eCo58 : Ob := .cells 28 [nI 1, nI 18, .ns, nI 7, nI 0, .sl 53 0 2 2 false] true
def eCo59 : Ob := .cells 28 [nI 3, nI 0, .sl 54 0 2 2 true, nI 3, nI 0, .sl 57 0 2 2 true, nI 3, nI 0, .sl 50 0 2 2 true, nI 3, nI 0, .sl 51 0 23 23 true, nI 3, nI 0, .sl 58 0 2 2 true] true
def eCo60 : Ob := .cells 28 [nI 1, nI 35, .ns, nI 1, nI 1003, .ns, nI 1, nI 2003, .ns, nI 1, nI 1, .ns, nI 1, nI 1, .ns, nI 3, nI 0, .sl 59 0 5 5 true] true
def eCo61 : Ob := .cells 28 [nI 6, nI 4, .sl 21 0 3 3 true, nI 3, nI 0, .sl 60 0 6 6 true] false
def eCo62 : Ob := .cells 28 [nI 1, nI 35, .ns, nI 1, nI 1003, .ns, nI 1, nI 2003, .ns, nI 1, nI 1, .ns, nI 1, nI 1, .ns, nI 7, nI 0, .sl 61 0 2 2 false] true
def eCo63 : Ob := .cells 48 [uI 0] false
def eCo64 : Ob := .cells 28 [nI 6, nI 2, .sl 33 0 3 3 true, nI 2, nI 4, .ns, nI 2, nI 1048580, .ns] true
def eCo65 : Ob := .cells 28 [nI 6, nI 2, .sl 33 0 3 3 true, nI 2, nI 4, .ns, nI 2, nI 1048580, .ns] true
def eCo66 : Ob := .cells 81 [nI 1006, nI 2006, nI 1003, nI 0, nI 4, uI 0, uI 167772160, nI 4, uI 0, uI 184549375, nI 4, uI 0, uI 3232235520, nI 4, uI 0, uI 3232301055, nI 0, nI 255, .i .i64 (.lit (.negSucc 0)), nI 65535, .i .i64 (.lit (.negSucc 0)), nI 65535, nI 6, nI 6, .sl 65 0 3 3 true, nI 6, nI 5, .sl 64 0 3 3 true, .b true, nI 2, nI 4, .ns, nI 2, nI 1048580, .ns, nI 1, nI 0, nI 6, uI 0, .sl 63 0 1 1 false, nI 0, nI 0] true
def eCo67 : Ob := .cells 239 [nI 7, nI 0, .sl 53 0 2 2 false, nI 6, nI 2, .sl 33 0 3 3 true] true
def eCo68 : Ob := .cells 47 [] false
def eCo69 : Ob := .cells 28 [nI 3, nI 0, .sl 16 0 6 6 true, nI 3, nI 0, .sl 30 0 6 6 true, nI 3, nI 0, .sl 45 0 6 6 true, nI 3, nI 0, .sl 62 0 6 6 true] true
def eCo70 : Ob := .cells 72 [nI 1003, nI 2003, .b true, nI 3, nI 1, nI 2, nI 6, nI 2, .sl 33 0 3 3 true, nI 6, nI 3, .sl 34 0 3 3 true, nI 6, nI 4, .sl 35 0 3 3 true, nI 2, nI 4, .ns, nI 2, nI 1048580, .ns, nI 3, nI 0, .sl 16 0 6 6 true, nI 3, nI 0, .sl 30 0 6 6 true, nI 2, nI 0, nI 0, nI 0, nI 0, nI 0, .ns, nI 0, nI 0, nI 0, nI 0, nI 0, .ns, nI 0, nI 0, .ns, nI 0, nI 0, nI 0, nI 0, uI 0, uI 0, nI 0, uI 0, uI 0, nI 0, uI 0, uI 0, nI 0, uI 0, uI 0, nI 0, nI 0, nI 0, nI 0, nI 0, nI 0, nI 0, nI 0, .ns, .ns, .i .i64 (.lit (.negSucc 0)), nI 0, nI 0, .ns, nI 0, nI 0, nI 0, nI 0, nI 0, .b false, nI 0, .b false, nI 0] true
def eCo71 : Ob := .cells 284 [] false
def eCo72 : Ob := .cells 72 [nI 2003, nI 1003, .b false, nI 3, nI 2, nI 1, nI 6, nI 2, .sl 19 0 3 3 true, nI 6, nI 4, .sl 21 0 3 3 true, nI 6, nI 3, .sl 20 0 3 3 true, nI 2, nI 1048580, .ns, nI 2, nI 4, .ns, nI 3, nI 0, .sl 16 0 6 6 true, nI 3, nI 0, .sl 30 0 6 6 true, nI 0, nI 2, nI 0, nI 0, nI 0, nI 0, .ns, nI 0, nI 0, nI 0, nI 0, nI 0, .ns, nI 0, nI 0, .ns, nI 0, nI 0, nI 0, nI 0, uI 0, uI 0, nI 0, uI 0, uI 0, nI 0, uI 0, uI 0, nI 0, uI 0, uI 0, nI 0, nI 0, nI 0, nI 0, nI 0, nI 0, nI 0, nI 0, .ns, .ns, nI 1, nI 3, nI 0, .sl 62 0 6 6 true, nI 0, nI 0, nI 0, nI 0, nI 0, .b false, nI 0, .b false, nI 0] true
def eC : Ent := ⟨13, [], 0, .tup [.agg [nI 0, nI 1, nI 1, nI 2, .sl 3 0 2 2 true, .sl 0 0 2 2 true, nI 2, nI 6, nI 2, nI 1, .ns, nI 2, nI 2, .ns, nI 0, .ns, .sl 70 0 1 1 true, .sl 66 0 1 1 true, .sl 67 0 1 1 true, nI 1, nI 0, nI 2, nI 1, .sl 7 0 2 2 true, .sl 4 0 2 2 true, nI 2, nI 6, nI 2, nI 1048577, .ns, nI 2, nI 1048578, .ns, nI 0, .sl 71 0 0 0 false, .sl 72 0 1 1 true, .sl 49 0 1 1 true, .ns, .sl 68 0 0 0 false, .sl 69 0 4 4 true, nI 0, .ns, .ns, .ns], .b true], [.obj 0 (some eCo0), .obj 1 (some eCo1), .obj 2 (some eCo2), .obj 3 (some eCo3), .obj 4 (some eCo4), .obj 5 (some eCo5), .obj 6 (some eCo6), .obj 7 (some eCo7), .obj 8 (some eCo8), .obj 9 (some eCo9), .obj 10 (some eCo10), .obj 11 (some eCo11), .obj 12 (some eCo12), .obj 13 (some eCo13), .obj 14 (some eCo14), .obj 15 (some eCo15), .obj 16 (some eCo16), .obj 17 (some eCo17), .obj 18 (some eCo18), .obj 19 (some eCo19), .obj 20 (some eCo20), .obj 21 (some eCo21), .obj 22 (some eCo22), .obj 23 (some eCo23), .obj 24 (some eCo24), .obj 25 (some eCo25), .obj 26 (some eCo26), .obj 27 (some eCo27), .obj 28 (some eCo28), .obj 29 (some eCo29), .obj 30 (some eCo30), .obj 31 (some eCo31), .obj 32 (some eCo32), .obj 33 (some eCo33), .obj 34 (some eCo34), .obj 35 (some eCo35), .obj 36 (some eCo36), .obj 37 (some eCo37), .obj 38 (some eCo38), .obj 39 (some eCo39), .obj 40 (some eCo40), .obj 41 (some eCo41), .obj 42 (some eCo42), .obj 43 (some eCo43), .obj 44 (some eCo44), .obj 45 (some eCo45), .obj 46 (some eCo46), .obj 47 (some eCo47), .obj 48 (some eCo48), .obj 49 (some eCo49), .obj 50 (some eCo50), .obj 51 (some eCo51), .obj 52 (some eCo52), .obj 53 (some eCo53), .obj 54 (some eCo54), .obj 55 (some eCo55), .obj 56 (some eCo56), .obj 57 (some eCo57), .obj 58 (some eCo58), .obj 59 (some eCo59), .obj 60 (some eCo60), .obj 61 (some eCo61), .obj 62 (some eCo62), .obj 63 (some eCo63), .obj 64 (some eCo64), .obj 65 (some eCo65), .obj 66 (some eCo66), .obj 67 (some eCo67), .obj 68 (some eCo68), .obj 69 (some eCo69), .obj 70 (some eCo70), .obj 71 (some eCo71), .obj 72 (some eCo72)], 3317⟩
def eCs : List Nat := [407, 411, 416, 418, 499, 503, 508, 510, 575, 581, 589, 597, 605, 612, 620, 627, 652, 855, 860, 873, 880, 887, 901, 907, 915, 923, 931, 938, 946, 952, 977, 1233, 1238, 1251, 1258, 1265, 1288, 1298, 1301, 1310, 1325, 1391, 1401, 1426, 1430, 1455, 2125, 2133, 2137, 2142, 2155, 2221, 2228, 2232, 2244, 2254, 2257, 2266, 2278, 2289, 2314, 2318, 2343, 3011, 3019, 3023, 3028, 3038, 3195, 3197, 3237, 3272, 3296]
def po0 : Ob := .cells 3 [nI 31, nI 1024] true
def po1 : Ob := .cells 68 [nI 4, uI 0, uI 167772160, nI 4, uI 0, uI 184549375, nI 4, uI 0, uI 3232235520, nI 4, uI 0, uI 3232301055, nI 0, nI 255, .i .i64 (.lit (.negSucc 0)), nI 65535, .i .i64 (.lit (.negSucc 0)), nI 65535] true
def po2 : Ob := .cells 68 [nI 4, uI 0, uI 0, nI 4, uI 0, uI 4294967295, nI 4, uI 0, uI 0, nI 4, uI 0, uI 4294967295, nI 0, nI 255, .i .i64 (.lit (.negSucc 0)), nI 65535, .i .i64 (.lit (.negSucc 0)), nI 65535, nI 6, uI 0, uI 0, nI 6, uI 18446744073709551615, uI 18446744073709551615, nI 6, uI 0, uI 0, nI 6, uI 18446744073709551615, uI 18446744073709551615, nI 0, nI 255, .i .i64 (.lit (.negSucc 0)), nI 65535, .i .i64 (.lit (.negSucc 0)), nI 65535] true
def po3 : Ob := .cells 97 [nI 2, .s [103, 111, 108, 100], .sl 411 0 1 1 true, nI 0, .s [], .sl 416 0 2 2 true] true
def po4 : Ob := .cells 68 [nI 4, uI 0, uI 3232235520, nI 4, uI 0, uI 3232301055, nI 4, uI 0, uI 167772160, nI 4, uI 0, uI 184549375, nI 0, nI 255, .i .i64 (.lit (.negSucc 0)), nI 65535, .i .i64 (.lit (.negSucc 0)), nI 65535] true
def po5 : Ob := .cells 97 [nI 2, .s [103, 111, 108, 100], .sl 503 0 1 1 true, nI 0, .s [], .sl 508 0 2 2 true] true
def po6 : Ob := .cells 28 [nI 1, nI 1, .ns, nI 1, nI 31, .ns, nI 1, nI 1024, .ns] true
def po7 : Ob := .cells 28 [nI 2, nI 5, .ns] false
def po8 : Ob := .cells 28 [nI 1, nI 2, .ns, nI 1, nI 31, .ns, nI 4, nI 0, .sl 581 0 1 1 false] true
def po9 : Ob := .cells 28 [nI 1, nI 3, .ns, nI 2, nI 4, .ns] true
def po10 : Ob := .cells 28 [nI 1, nI 1003, .ns, nI 1, nI 1, .ns] true
def po11 : Ob := .cells 28 [nI 1, nI 1003, .ns, nI 1, nI 2, .ns] true
def po12 : Ob := .cells 28 [nI 1, nI 7, .ns, nI 6, nI 8, .sl 605 0 2 2 true, nI 6, nI 8, .sl 612 0 2 2 true] true
def po13 : Ob := .cells 28 [nI 3, nI 0, .sl 575 0 3 3 true, nI 3, nI 0, .sl 589 0 3 3 true, nI 3, nI 0, .sl 597 0 2 2 true, nI 3, nI 0, .sl 620 0 3 3 true] true
def po14 : Ob := .cells 28 [nI 1, nI 34, .ns, nI 1, nI 1003, .ns, nI 1, nI 0, .ns, nI 1, nI 2, .ns, nI 1, nI 0, .ns, nI 3, nI 0, .sl 627 0 4 4 true] true
def po15 : Ob := .cells 72 [nI 1003, nI 0, .b true, nI 1, nI 1, nI 2, nI 0, nI 0, .ns, nI 0, nI 0, .ns, nI 0, nI 0, .ns, nI 2, nI 4, .ns, nI 0, nI 0, .ns, nI 3, nI 0, .sl 652 0 6 6 true, nI 0, nI 0, .ns, nI 1, nI 0, nI 1, nI 0, nI 3, nI 0, .sl 652 0 6 6 true, nI 2, nI 1, nI 2, nI 2, nI 4, .ns, nI 2, nI 5, .ns, nI 0, nI 0, nI 0, nI 4, uI 0, uI 167772160, nI 4, uI 0, uI 184549375, nI 4, uI 0, uI 3232235520, nI 4, uI 0, uI 3232301055, nI 0, nI 255, .i .i64 (.lit (.negSucc 0)), nI 65535, .i .i64 (.lit (.negSucc 0)), nI 65535, nI 0, nI 0, .ns, .ns, .i .i64 (.lit (.negSucc 0)), nI 0, nI 0, .ns, nI 0, nI 0, nI 0, nI 0, nI 0, .b false, nI 0, .b false, nI 0] true
def po16 : Ob := .cells 47 [nI 2, nI 1, nI 3, nI 0, .sl 977 0 6 6 true] true
def po17 : Ob := .cells 28 [nI 2, nI 5, .ns, nI 2, nI 1048581, .ns] false
def po18 : Ob := .cells 28 [nI 2, nI 4, .ns, nI 2, nI 1048580, .ns, nI 5, nI 0, .sl 855 0 2 2 false] true
def po19 : Ob := .cells 28 [nI 6, nI 1, .sl 860 0 3 3 true, nI 1, nI 1003, .ns, nI 1, nI 2003, .ns] true
def po20 : Ob := .cells 28 [nI 1, nI 1, .ns, nI 1, nI 31, .ns] true
def po21 : Ob := .cells 28 [nI 2, nI 1048581, .ns] false
def po22 : Ob := .cells 28 [nI 1, nI 2, .ns, nI 1, nI 31, .ns, nI 4, nI 0, .sl 907 0 1 1 false] true
def po23 : Ob := .cells 28 [nI 1, nI 3, .ns, nI 2, nI 1048580, .ns] true
def po24 : Ob := .cells 28 [nI 1, nI 7, .ns, nI 6, nI 8, .sl 931 0 2 2 true, nI 6, nI 8, .sl 938 0 2 2 true] true
def po25 : Ob := .cells 28 [nI 3, nI 0, .sl 901 0 2 2 true, nI 3, nI 0, .sl 915 0 3 3 true, nI 3, nI 0, .sl 923 0 2 2 true, nI 3, nI 0, .sl 946 0 3 3 true] true
def po26 : Ob := .cells 28 [nI 1, nI 34, .ns, nI 1, nI 1003, .ns, nI 1, nI 2003, .ns, nI 1, nI 1, .ns, nI 1, nI 0, .ns, nI 3, nI 0, .sl 952 0 4 4 true] true
def po27 : Ob := .cells 284 [nI 2003, nI 1003, nI 1, nI 3, nI 0, .sl 652 0 6 6 true, nI 3, nI 0, .sl 977 0 6 6 true, nI 2, nI 1048580, .ns, nI 2, nI 4, .ns, nI 6, nI 2, .sl 873 0 3 3 true, nI 6, nI 4, .sl 887 0 3 3 true, nI 6, nI 3, .sl 880 0 3 3 true, nI 0, .b false] true
def po28 : Ob := .cells 28 [nI 3, nI 0, .sl 652 0 6 6 true, nI 3, nI 0, .sl 977 0 6 6 true] true
def po29 : Ob := .cells 47 [nI 1, nI 2, nI 3, nI 0, .sl 1455 0 6 6 true] true
def po30 : Ob := .cells 28 [nI 2, nI 4, .ns, nI 2, nI 1048580, .ns, nI 5, nI 0, .sl 1233 0 2 2 false] true
def po31 : Ob := .cells 28 [nI 6, nI 1, .sl 1238 0 3 3 true, nI 1, nI 1003, .ns, nI 1, nI 2003, .ns] true
def po32 : Ob := .cells 72 [nI 1003, nI 2003, .b true, nI 2, nI 1, nI 2, nI 6, nI 2, .sl 1251 0 3 3 true, nI 6, nI 3, .sl 1258 0 3 3 true, nI 6, nI 4, .sl 1265 0 3 3 true, nI 2, nI 4, .ns, nI 2, nI 1048580, .ns, nI 3, nI 0, .sl 652 0 6 6 true, nI 3, nI 0, .sl 977 0 6 6 true, nI 2, nI 0, nI 2, nI 1, nI 3, nI 0, .sl 1455 0 6 6 true, nI 2, nI 1, nI 2, nI 0, nI 0, .ns, nI 0, nI 0, .ns, nI 1006, nI 0, nI 0, nI 4, uI 0, uI 167772160, nI 4, uI 0, uI 184549375, nI 4, uI 0, uI 3232235520, nI 4, uI 0, uI 3232301055, nI 0, nI 255, .i .i64 (.lit (.negSucc 0)), nI 65535, .i .i64 (.lit (.negSucc 0)), nI 65535, nI 0, nI 0, .ns, .ns, .i .i64 (.lit (.negSucc 0)), nI 0, nI 0, .ns, nI 0, nI 0, nI 0, nI 0, nI 0, .b false, nI 0, .b false, nI 0] true
def po33 : Ob := .cells 28 [nI 1, nI 8, .ns, nI 1, nI 0, .ns] true
def po34 : Ob := .cells 28 [nI 3, nI 0, .sl 652 0 6 6 true, nI 2, nI 1048580, .ns, nI 1, nI 0, .ns] true
def po35 : Ob := .cells 28 [nI 3, nI 0, .sl 1298 0 3 3 true] false
def po36 : Ob := .cells 28 [nI 1, nI 9, .ns, nI 8, nI 0, .sl 1301 0 1 1 false] true
def po37 : Ob := .cells 28 [nI 1, nI 10, .ns, nI 1, nI 1006, .ns] true
def po38 : Ob := .cells 28 [nI 1, nI 11, .ns, nI 1, nI 4, .ns, nI 1, nI 0, .ns, nI 1, nI 167772160, .ns, nI 1, nI 4, .ns, nI 1, nI 0, .ns, nI 1, nI 184549375, .ns, nI 1, nI 4, .ns, nI 1, nI 0, .ns, nI 1, nI 3232235520, .ns, nI 1, nI 4, .ns, nI 1, nI 0, .ns, nI 1, nI 3232301055, .ns, nI 1, nI 0, .ns, nI 1, nI 255, .ns, nI 1, .i .i64 (.lit (.negSucc 0)), .ns, nI 1, nI 65535, .ns, nI 1, .i .i64 (.lit (.negSucc 0)), .ns, nI 1, nI 65535, .ns, nI 1, nI 103, .ns, nI 1, nI 111, .ns, nI 1, nI 108, .ns, nI 1, nI 100, .ns] true
def po39 : Ob := .cells 28 [nI 3, nI 0, .sl 1288 0 2 2 true, nI 3, nI 0, .sl 1310 0 2 2 true, nI 3, nI 0, .sl 1325 0 2 2 true, nI 3, nI 0, .sl 1391 0 23 23 true] true
def po40 : Ob := .cells 28 [nI 1, nI 35, .ns, nI 1, nI 1003, .ns, nI 1, nI 2003, .ns, nI 1, nI 2, .ns, nI 1, nI 1, .ns, nI 3, nI 0, .sl 1401 0 4 4 true] true
def po41 : Ob := .cells 28 [nI 6, nI 3, .sl 1258 0 3 3 true, nI 3, nI 0, .sl 1426 0 6 6 true] false
def po42 : Ob := .cells 28 [nI 1, nI 35, .ns, nI 1, nI 1003, .ns, nI 1, nI 2003, .ns, nI 1, nI 2, .ns, nI 1, nI 1, .ns, nI 7, nI 0, .sl 1430 0 2 2 false] true
def po43 : Ob := .cells 28 [nI 3, nI 0, .sl 652 0 6 6 true, nI 3, nI 0, .sl 977 0 6 6 true, nI 3, nI 0, .sl 1455 0 6 6 true] true
def p1036 : EntP := ⟨9, [.agg [nI 0, nI 1, nI 1, nI 2, .sl 418 0 2 2 true, .sl 407 0 2 2 true, nI 0, nI 5, nI 2, nI 1, .ns, nI 2, nI 2, .ns, nI 0, .ns, .sl 655 0 1 1 true, .ns, .ns, nI 1, nI 0, nI 2, nI 1, .sl 510 0 2 2 true, .sl 499 0 2 2 true, nI 0, nI 5, nI 2, nI 1048577, .ns, nI 2, nI 1048578, .ns, nI 0, .sl 1016 0 1 1 true, .ns, .ns, .ns, .sl 687 0 1 1 true, .sl 1034 0 2 2 true, nI 0, .ns, .ns, .ns], .agg [nI 1, nI 0, nI 0, nI 0, nI 0, nI 0, nI 0, .ns, nI 0, nI 0, nI 0, nI 0, nI 0, .ns, nI 0, uI 0, uI 0, nI 0, uI 0, uI 0, nI 0, nI 0, nI 0, nI 0, nI 0]], 1036, [(407, po0), (411, po1), (416, po2), (418, po3), (499, po0), (503, po4), (508, po2), (510, po5), (575, po6), (581, po7), (589, po8), (597, po9), (605, po10), (612, po11), (620, po12), (627, po13), (652, po14), (655, po15), (687, po16), (855, po17), (860, po18), (873, po19), (880, po19), (887, po19), (901, po20), (907, po21), (915, po22), (923, po23), (931, po11), (938, po10), (946, po24), (952, po25), (977, po26), (1016, po27), (1034, po28)], .tup [.agg [nI 0, nI 1, nI 1, nI 2, .sl 418 0 2 2 true, .sl 407 0 2 2 true, nI 0, nI 6, nI 2, nI 1, .ns, nI 2, nI 2, .ns, nI 0, .ns, .sl 1276 0 1 1 true, .ns, .ns, nI 1, nI 0, nI 2, nI 1, .sl 510 0 2 2 true, .sl 499 0 2 2 true, nI 0, nI 5, nI 2, nI 1048577, .ns, nI 2, nI 1048578, .ns, nI 0, .sl 1016 0 1 1 true, .ns, .ns, .ns, .sl 1045 0 1 1 true, .sl 1474 0 3 3 true, nI 0, .ns, .ns, .ns], nI 0], [.obj 1045 (some po29), .obj 1233 (some po17), .obj 1238 (some po30), .obj 1251 (some po31), .obj 1258 (some po31), .obj 1265 (some po31), .obj 1276 (some po32), .obj 1288 (some po33), .obj 1298 (some po34), .obj 1301 (some po35), .obj 1310 (some po36), .obj 1325 (some po37), .obj 1391 (some po38), .obj 1401 (some po39), .obj 1426 (some po40), .obj 1430 (some po41), .obj 1455 (some po42), .obj 1474 (some po43)], 1476⟩
def po44 : Ob := .cells 47 [nI 2, nI 1, nI 3, nI 0, .sl 2343 0 6 6 true] true
def po45 : Ob := .cells 284 [nI 0, nI 0, nI 0, nI 0, nI 0, .ns, nI 0, nI 0, .ns, nI 0, nI 0, .ns, nI 0, nI 0, .ns, nI 0, nI 0, .ns, nI 0, nI 0, .ns, nI 0, nI 0, .ns, nI 0, .b false] true
def po46 : Ob := .cells 48 [uI 0] false
def po47 : Ob := .cells 28 [nI 6, nI 2, .sl 873 0 3 3 true, nI 2, nI 4, .ns, nI 2, nI 1048580, .ns] true
def po48 : Ob := .cells 81 [nI 2006, nI 1006, nI 2003, nI 0, nI 4, uI 0, uI 3232235520, nI 4, uI 0, uI 3232301055, nI 4, uI 0, uI 167772160, nI 4, uI 0, uI 184549375, nI 0, nI 255, .i .i64 (.lit (.negSucc 0)), nI 65535, .i .i64 (.lit (.negSucc 0)), nI 65535, nI 6, nI 5, .sl 2133 0 3 3 true, nI 6, nI 6, .sl 2137 0 3 3 true, .b false, nI 2, nI 1048580, .ns, nI 2, nI 4, .ns, nI 1, nI 0, nI 6, uI 0, .sl 2125 0 1 1 false, nI 0, nI 0] true
def po49 : Ob := .cells 28 [nI 1, nI 10, .ns, nI 1, nI 2006, .ns] true
def po50 : Ob := .cells 28 [nI 1, nI 11, .ns, nI 1, nI 4, .ns, nI 1, nI 0, .ns, nI 1, nI 3232235520, .ns, nI 1, nI 4, .ns, nI 1, nI 0, .ns, nI 1, nI 3232301055, .ns, nI 1, nI 4, .ns, nI 1, nI 0, .ns, nI 1, nI 167772160, .ns, nI 1, nI 4, .ns, nI 1, nI 0, .ns, nI 1, nI 184549375, .ns, nI 1, nI 0, .ns, nI 1, nI 255, .ns, nI 1, .i .i64 (.lit (.negSucc 0)), .ns, nI 1, nI 65535, .ns, nI 1, .i .i64 (.lit (.negSucc 0)), .ns, nI 1, nI 65535, .ns, nI 1, nI 103, .ns, nI 1, nI 111, .ns, nI 1, nI 108, .ns, nI 1, nI 100, .ns] true
def po51 : Ob := .cells 28 [nI 6, nI 2, .sl 873 0 3 3 true, nI 1, nI 0, .ns, nI 1, nI 40, .ns] true
def po52 : Ob := .cells 28 [nI 2, nI 1048578, .ns, nI 3, nI 0, .sl 2228 0 3 3 true] false
def po53 : Ob := .cells 28 [nI 1, nI 8, .ns, nI 1, nI 1, .ns] true
def po54 : Ob := .cells 28 [nI 3, nI 0, .sl 977 0 6 6 true, nI 2, nI 4, .ns, nI 1, nI 1, .ns] true
def po55 : Ob := .cells 28 [nI 3, nI 0, .sl 2254 0 3 3 true] false
def po56 : Ob := .cells 28 [nI 1, nI 9, .ns, nI 8, nI 1, .sl 2257 0 1 1 false] true
def po57 : Ob := .cells 28 [nI 1, nI 18, .ns, nI 7, nI 0, .sl 2232 0 2 2 false] true
def po58 : Ob := .cells 28 [nI 3, nI 0, .sl 2244 0 2 2 true, nI 3, nI 0, .sl 2266 0 2 2 true, nI 3, nI 0, .sl 2155 0 2 2 true, nI 3, nI 0, .sl 2221 0 23 23 true, nI 3, nI 0, .sl 2278 0 2 2 true] true
def po59 : Ob := .cells 28 [nI 1, nI 35, .ns, nI 1, nI 1003, .ns, nI 1, nI 2003, .ns, nI 1, nI 1, .ns, nI 1, nI 1, .ns, nI 3, nI 0, .sl 2289 0 5 5 true] true
def po60 : Ob := .cells 28 [nI 6, nI 4, .sl 887 0 3 3 true, nI 3, nI 0, .sl 2314 0 6 6 true] false
def po61 : Ob := .cells 28 [nI 1, nI 35, .ns, nI 1, nI 1003, .ns, nI 1, nI 2003, .ns, nI 1, nI 1, .ns, nI 1, nI 1, .ns, nI 7, nI 0, .sl 2318 0 2 2 false] true
def po62 : Ob := .cells 72 [nI 2003, nI 1003, .b false, nI 3, nI 2, nI 1, nI 6, nI 2, .sl 873 0 3 3 true, nI 6, nI 4, .sl 887 0 3 3 true, nI 6, nI 3, .sl 880 0 3 3 true, nI 2, nI 1048580, .ns, nI 2, nI 4, .ns, nI 3, nI 0, .sl 652 0 6 6 true, nI 3, nI 0, .sl 977 0 6 6 true, nI 0, nI 2, nI 0, nI 0, nI 0, nI 0, .ns, nI 0, nI 0, nI 0, nI 0, nI 0, .ns, nI 0, nI 0, .ns, nI 0, nI 0, nI 0, nI 0, uI 0, uI 0, nI 0, uI 0, uI 0, nI 0, uI 0, uI 0, nI 0, uI 0, uI 0, nI 0, nI 0, nI 0, nI 0, nI 0, nI 0, nI 0, nI 0, .ns, .ns, nI 1, nI 3, nI 0, .sl 2343 0 6 6 true, nI 0, nI 0, nI 0, nI 0, nI 0, .b false, nI 0, .b false, nI 0] true
def po63 : Ob := .cells 28 [nI 3, nI 0, .sl 652 0 6 6 true, nI 3, nI 0, .sl 977 0 6 6 true, nI 3, nI 0, .sl 1455 0 6 6 true, nI 3, nI 0, .sl 2343 0 6 6 true] true
def p1476 : EntP := ⟨9, [.agg [nI 0, nI 1, nI 1, nI 2, .sl 418 0 2 2 true, .sl 407 0 2 2 true, nI 0, nI 6, nI 2, nI 1, .ns, nI 2, nI 2, .ns, nI 0, .ns, .sl 1276 0 1 1 true, .ns, .ns, nI 1, nI 0, nI 2, nI 1, .sl 510 0 2 2 true, .sl 499 0 2 2 true, nI 0, nI 5, nI 2, nI 1048577, .ns, nI 2, nI 1048578, .ns, nI 0, .sl 1016 0 1 1 true, .ns, .ns, .ns, .sl 1045 0 1 1 true, .sl 1474 0 3 3 true, nI 0, .ns, .ns, .ns], .agg [nI 1, nI 0, nI 0, nI 0, nI 0, nI 0, nI 0, .ns, nI 0, nI 0, nI 0, nI 0, nI 0, .ns, nI 0, uI 0, uI 0, nI 0, uI 0, uI 0, nI 0, nI 0, nI 0, nI 0, nI 0]], 1476, [(407, po0), (411, po1), (416, po2), (418, po3), (499, po0), (503, po4), (508, po2), (510, po5), (575, po6), (581, po7), (589, po8), (597, po9), (605, po10), (612, po11), (620, po12), (627, po13), (652, po14), (855, po17), (860, po18), (873, po19), (880, po19), (887, po19), (901, po20), (907, po21), (915, po22), (923, po23), (931, po11), (938, po10), (946, po24), (952, po25), (977, po26), (1016, po27), (1045, po29), (1233, po17), (1238, po30), (1251, po31), (1258, po31), (1265, po31), (1276, po32), (1288, po33), (1298, po34), (1301, po35), (1310, po36), (1325, po37), (1391, po38), (1401, po39), (1426, po40), (1430, po41), (1455, po42), (1474, po43)], .tup [.agg [nI 0, nI 1, nI 1, nI 2, .sl 418 0 2 2 true, .sl 407 0 2 2 true, nI 0, nI 6, nI 2, nI 1, .ns, nI 2, nI 2, .ns, nI 0, .ns, .sl 1276 0 1 1 true, .ns, .ns, nI 1, nI 0, nI 2, nI 1, .sl 510 0 2 2 true, .sl 499 0 2 2 true, nI 0, nI 6, nI 2, nI 1048577, .ns, nI 2, nI 1048578, .ns, nI 0, .sl 1667 0 0 1 true, .sl 2346 0 1 1 true, .sl 2142 0 1 1 true, .ns, .sl 1485 0 1 1 true, .sl 2369 0 4 4 true, nI 0, .ns, .ns, .ns], nI 0], [.obj 1485 (some po44), .obj 1667 (some po45), .obj 2125 (some po46), .obj 2133 (some po47), .obj 2137 (some po47), .obj 2142 (some po48), .obj 2155 (some po49), .obj 2221 (some po50), .obj 2228 (some po51), .obj 2232 (some po52), .obj 2244 (some po53), .obj 2254 (some po54), .obj 2257 (some po55), .obj 2266 (some po56), .obj 2278 (some po57), .obj 2289 (some po58), .obj 2314 (some po59), .obj 2318 (some po60), .obj 2343 (some po61), .obj 2346 (some po62), .obj 2369 (some po63)], 2371⟩
def po64 : Ob := .cells 47 [nI 0, nI 0, nI 0, nI 0, .ns] true
def po65 : Ob := .cells 72 [nI 1003, nI 2003, .b true, nI 3, nI 1, nI 2, nI 6, nI 2, .sl 1251 0 3 3 true, nI 6, nI 3, .sl 1258 0 3 3 true, nI 6, nI 4, .sl 1265 0 3 3 true, nI 2, nI 4, .ns, nI 2, nI 1048580, .ns, nI 3, nI 0, .sl 652 0 6 6 true, nI 3, nI 0, .sl 977 0 6 6 true, nI 2, nI 0, nI 0, nI 0, nI 0, nI 0, .ns, nI 0, nI 0, nI 0, nI 0, nI 0, .ns, nI 0, nI 0, .ns, nI 0, nI 0, nI 0, nI 0, uI 0, uI 0, nI 0, uI 0, uI 0, nI 0, uI 0, uI 0, nI 0, uI 0, uI 0, nI 0, nI 0, nI 0, nI 0, nI 0, nI 0, nI 0, nI 0, .ns, .ns, .i .i64 (.lit (.negSucc 0)), nI 0, nI 0, .ns, nI 0, nI 0, nI 0, nI 0, nI 0, .b false, nI 0, .b false, nI 0] true
def po66 : Ob := .cells 28 [nI 6, nI 2, .sl 1251 0 3 3 true, nI 2, nI 4, .ns, nI 2, nI 1048580, .ns] true
def po67 : Ob := .cells 81 [nI 1006, nI 2006, nI 1003, nI 0, nI 4, uI 0, uI 167772160, nI 4, uI 0, uI 184549375, nI 4, uI 0, uI 3232235520, nI 4, uI 0, uI 3232301055, nI 0, nI 255, .i .i64 (.lit (.negSucc 0)), nI 65535, .i .i64 (.lit (.negSucc 0)), nI 65535, nI 6, nI 6, .sl 3023 0 3 3 true, nI 6, nI 5, .sl 3019 0 3 3 true, .b true, nI 2, nI 4, .ns, nI 2, nI 1048580, .ns, nI 1, nI 0, nI 6, uI 0, .sl 3011 0 1 1 false, nI 0, nI 0] true
def po68 : Ob := .cells 239 [nI 7, nI 0, .sl 2232 0 2 2 false, nI 6, nI 2, .sl 1251 0 3 3 true] true
def p2371 : EntP := ⟨9, [.agg [nI 0, nI 1, nI 1, nI 2, .sl 418 0 2 2 true, .sl 407 0 2 2 true, nI 0, nI 6, nI 2, nI 1, .ns, nI 2, nI 2, .ns, nI 0, .ns, .sl 1276 0 1 1 true, .ns, .ns, nI 1, nI 0, nI 2, nI 1, .sl 510 0 2 2 true, .sl 499 0 2 2 true, nI 0, nI 6, nI 2, nI 1048577, .ns, nI 2, nI 1048578, .ns, nI 0, .sl 1667 0 0 1 true, .sl 2346 0 1 1 true, .sl 2142 0 1 1 true, .ns, .sl 1485 0 1 1 true, .sl 2369 0 4 4 true, nI 0, .ns, .ns, .ns], .agg [nI 1, nI 0, nI 0, nI 0, nI 0, nI 0, nI 0, .ns, nI 0, nI 0, nI 0, nI 0, nI 0, .ns, nI 0, uI 0, uI 0, nI 0, uI 0, uI 0, nI 0, nI 0, nI 0, nI 0, nI 0]], 2371, [(407, po0), (411, po1), (416, po2), (418, po3), (499, po0), (503, po4), (508, po2), (510, po5), (575, po6), (581, po7), (589, po8), (597, po9), (605, po10), (612, po11), (620, po12), (627, po13), (652, po14), (855, po17), (860, po18), (873, po19), (880, po19), (887, po19), (901, po20), (907, po21), (915, po22), (923, po23), (931, po11), (938, po10), (946, po24), (952, po25), (977, po26), (1233, po17), (1238, po30), (1251, po31), (1258, po31), (1265, po31), (1276, po32), (1288, po33), (1298, po34), (1301, po35), (1310, po36), (1325, po37), (1391, po38), (1401, po39), (1426, po40), (1430, po41), (1455, po42), (1485, po44), (1667, po45), (2125, po46), (2133, po47), (2137, po47), (2142, po48), (2155, po49), (2221, po50), (2228, po51), (2232, po52), (2244, po53), (2254, po54), (2257, po55), (2266, po56), (2278, po57), (2289, po58), (2314, po59), (2318, po60), (2343, po61), (2346, po62), (2369, po63)], .tup [.agg [nI 0, nI 1, nI 1, nI 2, .sl 418 0 2 2 true, .sl 407 0 2 2 true, nI 0, nI 6, nI 2, nI 1, .ns, nI 2, nI 2, .ns, nI 0, .ns, .sl 2564 0 1 1 true, .sl 3028 0 1 1 true, .sl 3038 0 1 1 true, nI 1, nI 0, nI 2, nI 1, .sl 510 0 2 2 true, .sl 499 0 2 2 true, nI 0, nI 6, nI 2, nI 1048577, .ns, nI 2, nI 1048578, .ns, nI 0, .sl 1667 0 0 1 true, .sl 2346 0 1 1 true, .sl 2142 0 1 1 true, .ns, .sl 2380 0 0 1 true, .sl 2382 0 4 4 true, nI 0, .ns, .ns, .ns], nI 0], [.obj 2380 (some po64), .obj 2382 (some po63), .obj 2564 (some po65), .obj 3011 (some po46), .obj 3019 (some po66), .obj 3023 (some po66), .obj 3028 (some po67), .obj 3038 (some po68)], 3057⟩
def q112 : Ob := .cells 81 [nI 2006, nI 1006, nI 2003, nI 0, nI 4, uI 0, uI 3232235520, nI 4, uI 0, uI 3232301055, nI 4, uI 0, uI 167772160, nI 4, uI 0, uI 184549375, nI 0, nI 255, .i .i64 (.lit (.negSucc 0)), nI 65535, .i .i64 (.lit (.negSucc 0)), nI 65535, nI 6, nI 5, .sl 37 0 3 3 true, nI 6, nI 6, .sl 38 0 3 3 true, .b false, nI 2, nI 1048580, .ns, nI 2, nI 4, .ns, nI 1, nI 0, nI 6, uI 0, .sl 36 0 1 1 false, nI 0, nI 0] true
def q113 : Ob := .cells 72 [nI 2003, nI 1003, .b false, nI 3, nI 2, sI 5, nI 6, nI 2, .sl 19 0 3 3 true, nI 6, nI 4, .sl 21 0 3 3 true, nI 6, nI 3, .sl 20 0 3 3 true, nI 2, nI 1048580, .ns, nI 2, nI 4, .ns, nI 3, nI 0, .sl 16 0 6 6 true, nI 3, nI 0, .sl 30 0 6 6 true, sI 8, sI 7, nI 0, nI 0, nI 0, nI 0, .ns, nI 0, nI 0, nI 0, nI 0, nI 0, .ns, nI 0, nI 0, .ns, nI 0, nI 0, nI 0, nI 0, uI 0, uI 0, nI 0, uI 0, uI 0, nI 0, uI 0, uI 0, nI 0, uI 0, uI 0, nI 0, nI 0, nI 0, nI 0, nI 0, nI 0, nI 0, nI 0, .ns, .ns, .i .i64 (.sym 7 (.negSucc 0)), .kv 13, .kv 14, .kv 15, sI 10, nI 0, nI 0, nI 0, nI 0, .b false, nI 0, .b false, nI 0] true
def q114 : Ob := .cells 72 [nI 1003, nI 2003, .b true, nI 3, sI 5, nI 2, nI 6, nI 2, .sl 33 0 3 3 true, nI 6, nI 3, .sl 34 0 3 3 true, nI 6, nI 4, .sl 35 0 3 3 true, nI 2, nI 4, .ns, nI 2, nI 1048580, .ns, nI 3, nI 0, .sl 16 0 6 6 true, nI 3, nI 0, .sl 30 0 6 6 true, sI 7, sI 8, nI 0, nI 0, nI 0, nI 0, .ns, nI 0, nI 0, nI 0, nI 0, nI 0, .ns, nI 0, nI 0, .ns, nI 0, nI 0, nI 0, nI 0, uI 0, uI 0, nI 0, uI 0, uI 0, nI 0, uI 0, uI 0, nI 0, uI 0, uI 0, nI 0, nI 0, nI 0, nI 0, nI 0, nI 0, nI 0, nI 0, .ns, .ns, .i .i64 (.sym 8 (.negSucc 0)), .kv 10, .kv 11, .kv 12, sI 9, nI 0, nI 0, nI 0, nI 0, .b false, nI 0, .b false, nI 0] true
def q115 : Ob := .cells 28 [nI 2, nI 1048578, .ns, nI 3, nI 0, .sl 40 0 3 3 true] false
def q116 : Ob := .cells 99 [.kv 6, nI 0] false
def q117 : Ob := .cells 81 [nI 1006, nI 2006, nI 1003, nI 0, nI 4, uI 0, uI 167772160, nI 4, uI 0, uI 184549375, nI 4, uI 0, uI 3232235520, nI 4, uI 0, uI 3232301055, nI 0, nI 255, .i .i64 (.lit (.negSucc 0)), nI 65535, .i .i64 (.lit (.negSucc 0)), nI 65535, nI 6, nI 6, .sl 44 0 3 3 true, nI 6, nI 5, .sl 43 0 3 3 true, .b true, nI 2, nI 4, .ns, nI 2, nI 1048580, .ns, nI 1, nI 0, nI 6, uI 0, .sl 42 0 1 1 false, nI 0, nI 0] true
def q118 : Ob := .hid 28
def q119 : Ob := .cells 39 [nI 0, nI 1, sI 5, nI 2, .sl 3 0 2 2 true, .sl 0 0 2 2 true, sI 6, nI 6, nI 2, nI 1, .ns, nI 2, nI 2, .ns, nI 0, .ns, .sl 49 0 1 1 true, .sl 45 0 1 1 true, .sl 46 0 1 1 true, nI 1, nI 0, nI 2, nI 1, .sl 7 0 2 2 true, .sl 4 0 2 2 true, sI 6, sI 11, nI 2, nI 1048577, .ns, nI 2, nI 1048578, .ns, nI 0, .sl 50 0 0 0 false, .sl 51 0 1 1 true, .sl 39 0 1 1 true, .ns, .sl 47 0 0 0 false, .os 48 (.sym 3 (.ofNat 0)), nI 0, .ns, .ns, .ns] false
def q120 : Ob := .cells 239 [nI 7, nI 0, .sl 41 0 2 2 false, nI 6, nI 2, .sl 33 0 3 3 true] true
def q121 : Ob := .cells 99 [.kv 6, sI 60] false
def q122 : Ob := .cells 54 [nI 4, uI 0, .i .u64 (.sym 20 (.ofNat 0)), nI 4, uI 0, .i .u64 (.sym 21 (.ofNat 0)), nI 50, .i .i64 (.lit (.negSucc 0)), .i .i64 (.lit (.negSucc 0)), nI 500] false
def q123 : Ob := .cells 72 [nI 2003, nI 1003, .b false, nI 3, nI 2, sI 5, nI 6, nI 2, .sl 19 0 3 3 true, nI 6, nI 4, .sl 21 0 3 3 true, nI 6, nI 3, .sl 20 0 3 3 true, nI 2, nI 1048580, .ns, nI 2, nI 4, .ns, nI 3, nI 0, .sl 16 0 6 6 true, nI 3, nI 0, .sl 30 0 6 6 true, sI 8, sI 7, nI 0, nI 0, nI 0, nI 0, .ns, nI 0, nI 0, nI 0, nI 0, nI 0, .ns, nI 0, nI 0, .ns, nI 0, nI 0, nI 0, nI 0, uI 0, uI 0, nI 0, uI 0, uI 0, nI 0, uI 0, uI 0, nI 0, uI 0, uI 0, nI 0, nI 0, nI 0, nI 0, nI 0, nI 0, nI 0, nI 0, .ns, .ns, .i .i64 (.sym 7 (.negSucc 0)), .kv 13, .kv 14, .kv 15, sI 9, nI 0, nI 0, nI 0, nI 0, .b false, nI 0, .b false, nI 0] true
def q124 : Ob := .cells 39 [nI 0, nI 1, sI 5, nI 2, .sl 3 0 2 2 true, .sl 0 0 2 2 true, .i .i64 (.sym 9 (.ofNat 2)), nI 6, nI 2, nI 1, .ns, nI 2, nI 2, .ns, nI 0, .ns, .sl 49 0 1 1 true, .sl 45 0 1 1 true, .sl 46 0 1 1 true, nI 1, nI 0, nI 2, nI 1, .sl 7 0 2 2 true, .sl 4 0 2 2 true, .i .i64 (.sym 9 (.ofNat 2)), sI 11, nI 2, nI 1048577, .ns, nI 2, nI 1048578, .ns, nI 0, .sl 50 0 0 0 false, .sl 51 0 1 1 true, .sl 39 0 1 1 true, .ns, .sl 47 0 0 0 false, .os 48 (.sym 3 (.ofNat 0)), nI 0, .ns, .ns, .ns] false
def q125 : Ob := .cells 48 [uI 1] false
def q126 : Ob := .cells 72 [nI 2003, nI 1003, .b false, nI 3, nI 2, sI 5, nI 6, nI 2, .sl 19 0 3 3 true, nI 6, nI 4, .sl 21 0 3 3 true, nI 6, nI 3, .sl 20 0 3 3 true, nI 2, nI 1048580, .ns, nI 2, nI 4, .ns, nI 3, nI 0, .sl 16 0 6 6 true, nI 3, nI 0, .sl 30 0 6 6 true, sI 8, sI 7, nI 0, nI 0, nI 0, nI 0, .ns, nI 0, nI 0, nI 0, nI 0, nI 0, .ns, nI 0, nI 0, .ns, nI 0, nI 0, nI 0, nI 0, uI 0, uI 0, nI 0, uI 0, uI 0, nI 0, uI 0, uI 0, nI 0, uI 0, uI 0, nI 0, nI 0, nI 0, nI 0, nI 0, nI 0, nI 0, nI 0, .ns, .ns, .i .i64 (.sym 7 (.negSucc 0)), .kv 13, .kv 14, .kv 15, .i .i64 (.sym 9 (.ofNat 2)), nI 0, nI 0, nI 0, nI 0, .b false, nI 0, .b false, nI 0] true
def q127 : Ob := .cells 85 [nI 0, nI 4, uI 0, .i .u64 (.sym 20 (.ofNat 0)), nI 4, uI 0, .i .u64 (.sym 21 (.ofNat 0)), nI 50, .i .i64 (.lit (.negSucc 0)), .i .i64 (.lit (.negSucc 0)), nI 500, nI 0, nI 1006] true
def q128 : Ob := .cells 81 [nI 2006, nI 1006, nI 2003, nI 0, nI 4, uI 0, uI 3232235520, nI 4, uI 0, uI 3232301055, nI 4, uI 0, uI 167772160, nI 4, uI 0, uI 184549375, nI 0, nI 255, .i .i64 (.lit (.negSucc 0)), nI 65535, .i .i64 (.lit (.negSucc 0)), nI 65535, nI 6, nI 5, .sl 37 0 3 3 true, nI 6, nI 6, .sl 38 0 3 3 true, .b false, nI 2, nI 1048580, .ns, nI 2, nI 4, .ns, nI 1, nI 0, nI 6, uI 1, .sl 39 0 1 1 false, nI 0, nI 0] true
def q129 : Ob := .cells 81 [nI 1006, nI 2006, nI 1003, nI 0, nI 4, uI 0, uI 167772160, nI 4, uI 0, uI 184549375, nI 4, uI 0, uI 3232235520, nI 4, uI 0, uI 3232301055, nI 0, nI 255, .i .i64 (.lit (.negSucc 0)), nI 65535, .i .i64 (.lit (.negSucc 0)), nI 65535, nI 6, nI 6, .sl 44 0 3 3 true, nI 6, nI 5, .sl 43 0 3 3 true, .b true, nI 2, nI 4, .ns, nI 2, nI 1048580, .ns, nI 1, nI 1, nI 6, uI 0, .sl 42 0 1 1 false, nI 0, nI 0] true
def q130 : Ob := .cells 39 [nI 0, nI 1, sI 5, nI 2, .sl 3 0 2 2 true, .sl 0 0 2 2 true, .i .i64 (.sym 9 (.ofNat 3)), nI 6, nI 2, nI 1, .ns, nI 2, nI 2, .ns, nI 0, .ns, .sl 51 0 1 1 true, .sl 36 0 1 1 true, .sl 46 0 1 1 true, nI 1, nI 0, nI 2, nI 1, .sl 7 0 2 2 true, .sl 4 0 2 2 true, .i .i64 (.sym 9 (.ofNat 3)), sI 11, nI 2, nI 1048577, .ns, nI 2, nI 1048578, .ns, nI 0, .sl 54 0 0 0 false, .sl 55 0 1 1 true, .sl 45 0 1 1 true, .ns, .sl 47 0 0 0 false, .os 48 (.sym 3 (.ofNat 1)), nI 0, .sl 49 0 1 1 true, .sl 50 0 1 1 true, .ns] false
def q131 : Ob := .cells 85 [nI 1, nI 4, uI 0, .i .u64 (.sym 20 (.ofNat 0)), nI 4, uI 0, .i .u64 (.sym 21 (.ofNat 0)), nI 50, .i .i64 (.lit (.negSucc 0)), .i .i64 (.lit (.negSucc 0)), nI 500, nI 0, nI 2006] true
def q132 : Ob := .cells 54 [nI 4, uI 0, .i .u64 (.sym 23 (.ofNat 0)), nI 4, uI 0, .i .u64 (.sym 22 (.ofNat 0)), nI 50, .i .i64 (.lit (.negSucc 0)), .i .i64 (.lit (.negSucc 0)), nI 501] false
def q133 : Ob := .cells 72 [nI 1003, nI 2003, .b true, nI 3, sI 5, nI 2, nI 6, nI 2, .sl 33 0 3 3 true, nI 6, nI 3, .sl 34 0 3 3 true, nI 6, nI 4, .sl 35 0 3 3 true, nI 2, nI 4, .ns, nI 2, nI 1048580, .ns, nI 3, nI 0, .sl 16 0 6 6 true, nI 3, nI 0, .sl 30 0 6 6 true, sI 7, sI 8, nI 0, nI 0, nI 0, nI 0, .ns, nI 0, nI 0, nI 0, nI 0, nI 0, .ns, nI 0, nI 0, .ns, nI 0, nI 0, nI 0, nI 0, uI 0, uI 0, nI 0, uI 0, uI 0, nI 0, uI 0, uI 0, nI 0, uI 0, uI 0, nI 0, nI 0, nI 0, nI 0, nI 0, nI 0, nI 0, nI 0, .ns, .ns, .i .i64 (.sym 8 (.negSucc 0)), .kv 10, .kv 11, .kv 12, .i .i64 (.sym 9 (.ofNat 3)), nI 0, nI 0, nI 0, nI 0, .b false, nI 0, .b false, nI 0] true
def q134 : Ob := .cells 85 [nI 0, nI 4, uI 0, .i .u64 (.sym 20 (.ofNat 0)), nI 4, uI 0, .i .u64 (.sym 21 (.ofNat 0)), nI 50, .i .i64 (.lit (.negSucc 0)), .i .i64 (.lit (.negSucc 0)), nI 500, nI 0, nI 1006, nI 1, nI 4, uI 0, .i .u64 (.sym 23 (.ofNat 0)), nI 4, uI 0, .i .u64 (.sym 22 (.ofNat 0)), nI 50, .i .i64 (.lit (.negSucc 0)), .i .i64 (.lit (.negSucc 0)), nI 501, nI 0, nI 2006] true
def q135 : Ob := .cells 81 [nI 1006, nI 2006, nI 1003, nI 0, nI 4, uI 0, uI 167772160, nI 4, uI 0, uI 184549375, nI 4, uI 0, uI 3232235520, nI 4, uI 0, uI 3232301055, nI 0, nI 255, .i .i64 (.lit (.negSucc 0)), nI 65535, .i .i64 (.lit (.negSucc 0)), nI 65535, nI 6, nI 6, .sl 44 0 3 3 true, nI 6, nI 5, .sl 43 0 3 3 true, .b true, nI 2, nI 4, .ns, nI 2, nI 1048580, .ns, nI 1, nI 1, nI 6, uI 1, .sl 42 0 1 1 false, nI 0, nI 0] true
def q136 : Ob := .cells 81 [nI 2006, nI 1006, nI 2003, nI 0, nI 4, uI 0, uI 3232235520, nI 4, uI 0, uI 3232301055, nI 4, uI 0, uI 167772160, nI 4, uI 0, uI 184549375, nI 0, nI 255, .i .i64 (.lit (.negSucc 0)), nI 65535, .i .i64 (.lit (.negSucc 0)), nI 65535, nI 6, nI 5, .sl 37 0 3 3 true, nI 6, nI 6, .sl 38 0 3 3 true, .b false, nI 2, nI 1048580, .ns, nI 2, nI 4, .ns, nI 1, nI 1, nI 6, uI 1, .sl 39 0 1 1 false, nI 0, nI 0] true
def q137 : Ob := .cells 39 [nI 0, nI 1, sI 5, nI 2, .sl 3 0 2 2 true, .sl 0 0 2 2 true, .i .i64 (.sym 9 (.ofNat 4)), nI 6, nI 2, nI 1, .ns, nI 2, nI 2, .ns, nI 0, .ns, .sl 51 0 1 1 true, .sl 45 0 1 1 true, .sl 46 0 1 1 true, nI 1, nI 0, nI 2, nI 1, .sl 7 0 2 2 true, .sl 4 0 2 2 true, .i .i64 (.sym 9 (.ofNat 4)), sI 11, nI 2, nI 1048577, .ns, nI 2, nI 1048578, .ns, nI 0, .sl 54 0 0 0 false, .sl 55 0 1 1 true, .sl 36 0 1 1 true, .ns, .sl 47 0 0 0 false, .os 48 (.sym 3 (.ofNat 2)), nI 0, .sl 49 0 2 2 true, .sl 50 0 2 2 true, .ns] false
def q138 : Ob := .cells 85 [nI 1, nI 4, uI 0, .i .u64 (.sym 20 (.ofNat 0)), nI 4, uI 0, .i .u64 (.sym 21 (.ofNat 0)), nI 50, .i .i64 (.lit (.negSucc 0)), .i .i64 (.lit (.negSucc 0)), nI 500, nI 0, nI 2006, nI 0, nI 4, uI 0, .i .u64 (.sym 23 (.ofNat 0)), nI 4, uI 0, .i .u64 (.sym 22 (.ofNat 0)), nI 50, .i .i64 (.lit (.negSucc 0)), .i .i64 (.lit (.negSucc 0)), nI 501, nI 0, nI 1006] true
def q139 : Ob := .cells 39 [nI 0, nI 1, sI 5, nI 2, .sl 3 0 2 2 true, .sl 0 0 2 2 true, .i .i64 (.sym 9 (.ofNat 4)), nI 6, nI 2, nI 1, .ns, nI 2, nI 2, .ns, nI 0, .ns, .sl 51 0 1 1 true, .sl 36 0 1 1 true, .sl 46 0 1 1 true, nI 1, nI 0, nI 2, nI 1, .sl 7 0 2 2 true, .sl 4 0 2 2 true, .i .i64 (.sym 9 (.ofNat 4)), sI 11, nI 2, nI 1048577, .ns, nI 2, nI 1048578, .ns, nI 0, .sl 54 0 0 0 false, .sl 55 0 1 1 true, .sl 45 0 1 1 true, .ns, .sl 47 0 0 0 false, .os 48 (.sym 3 (.ofNat 1)), nI 0, .sl 49 0 1 1 true, .sl 50 0 1 1 true, .ns] false
def q140 : Ob := .cells 39 [nI 0, nI 1, sI 5, nI 2, .sl 3 0 2 2 true, .sl 0 0 2 2 true, .i .i64 (.sym 9 (.ofNat 3)), nI 6, nI 2, nI 1, .ns, nI 2, nI 2, .ns, nI 0, .ns, .sl 49 0 1 1 true, .sl 45 0 1 1 true, .sl 46 0 1 1 true, nI 1, nI 0, nI 2, nI 1, .sl 7 0 2 2 true, .sl 4 0 2 2 true, .i .i64 (.sym 9 (.ofNat 3)), sI 11, nI 2, nI 1048577, .ns, nI 2, nI 1048578, .ns, nI 0, .sl 50 0 0 0 false, .sl 51 0 1 1 true, .sl 39 0 1 1 true, .ns, .sl 47 0 0 0 false, .os 48 (.sym 3 (.ofNat 0)), nI 0, .ns, .ns, .ns] false
def q141 : Ob := .cells 81 [nI 2006, nI 1006, nI 2003, nI 0, nI 4, uI 0, uI 3232235520, nI 4, uI 0, uI 3232301055, nI 4, uI 0, uI 167772160, nI 4, uI 0, uI 184549375, nI 0, nI 255, .i .i64 (.lit (.negSucc 0)), nI 65535, .i .i64 (.lit (.negSucc 0)), nI 65535, nI 6, nI 5, .sl 37 0 3 3 true, nI 6, nI 6, .sl 38 0 3 3 true, .b false, nI 2, nI 1048580, .ns, nI 2, nI 4, .ns, nI 1, nI 1, nI 6, uI 0, .sl 36 0 1 1 false, nI 0, nI 0] true
def q142 : Ob := .cells 85 [nI 1, nI 4, uI 0, .i .u64 (.sym 23 (.ofNat 0)), nI 4, uI 0, .i .u64 (.sym 22 (.ofNat 0)), nI 50, .i .i64 (.lit (.negSucc 0)), .i .i64 (.lit (.negSucc 0)), nI 501, nI 0, nI 2006] true
def q143 : Ob := .cells 81 [nI 1006, nI 2006, nI 1003, nI 0, nI 4, uI 0, uI 167772160, nI 4, uI 0, uI 184549375, nI 4, uI 0, uI 3232235520, nI 4, uI 0, uI 3232301055, nI 0, nI 255, .i .i64 (.lit (.negSucc 0)), nI 65535, .i .i64 (.lit (.negSucc 0)), nI 65535, nI 6, nI 6, .sl 44 0 3 3 true, nI 6, nI 5, .sl 43 0 3 3 true, .b true, nI 2, nI 4, .ns, nI 2, nI 1048580, .ns, nI 1, nI 0, nI 6, uI 1, .sl 42 0 1 1 false, nI 0, nI 0] true
def q144 : Ob := .cells 39 [nI 0, nI 1, sI 5, nI 2, .sl 3 0 2 2 true, .sl 0 0 2 2 true, .i .i64 (.sym 9 (.ofNat 4)), nI 6, nI 2, nI 1, .ns, nI 2, nI 2, .ns, nI 0, .ns, .sl 51 0 1 1 true, .sl 45 0 1 1 true, .sl 46 0 1 1 true, nI 1, nI 0, nI 2, nI 1, .sl 7 0 2 2 true, .sl 4 0 2 2 true, .i .i64 (.sym 9 (.ofNat 4)), sI 11, nI 2, nI 1048577, .ns, nI 2, nI 1048578, .ns, nI 0, .sl 54 0 0 0 false, .sl 55 0 1 1 true, .sl 39 0 1 1 true, .ns, .sl 47 0 0 0 false, .os 48 (.sym 3 (.ofNat 1)), nI 0, .sl 49 0 1 1 true, .sl 50 0 1 1 true, .ns] false
def q145 : Ob := .cells 85 [nI 0, nI 4, uI 0, .i .u64 (.sym 23 (.ofNat 0)), nI 4, uI 0, .i .u64 (.sym 22 (.ofNat 0)), nI 50, .i .i64 (.lit (.negSucc 0)), .i .i64 (.lit (.negSucc 0)), nI 501, nI 0, nI 1006] true
def q146 : Ob := .cells 39 [nI 0, nI 1, sI 5, nI 2, .sl 3 0 2 2 true, .sl 0 0 2 2 true, .i .i64 (.sym 9 (.ofNat 4)), nI 6, nI 2, nI 1, .ns, nI 2, nI 2, .ns, nI 0, .ns, .sl 49 0 1 1 true, .sl 45 0 1 1 true, .sl 46 0 1 1 true, nI 1, nI 0, nI 2, nI 1, .sl 7 0 2 2 true, .sl 4 0 2 2 true, .i .i64 (.sym 9 (.ofNat 4)), sI 11, nI 2, nI 1048577, .ns, nI 2, nI 1048578, .ns, nI 0, .sl 50 0 0 0 false, .sl 51 0 1 1 true, .sl 39 0 1 1 true, .ns, .sl 47 0 0 0 false, .os 48 (.sym 3 (.ofNat 0)), nI 0, .ns, .ns, .ns] false
def q147 : Ob := .cells 72 [nI 2003, nI 1003, .b false, nI 3, nI 2, sI 5, nI 6, nI 2, .sl 19 0 3 3 true, nI 6, nI 4, .sl 21 0 3 3 true, nI 6, nI 3, .sl 20 0 3 3 true, nI 2, nI 1048580, .ns, nI 2, nI 4, .ns, nI 3, nI 0, .sl 16 0 6 6 true, nI 3, nI 0, .sl 30 0 6 6 true, sI 8, sI 7, nI 0, nI 0, nI 0, nI 0, .ns, nI 0, nI 0, nI 0, nI 0, nI 0, .ns, nI 0, nI 0, .ns, nI 0, nI 0, nI 0, nI 0, uI 0, uI 0, nI 0, uI 0, uI 0, nI 0, uI 0, uI 0, nI 0, uI 0, uI 0, nI 0, nI 0, nI 0, nI 0, nI 0, nI 0, nI 0, nI 0, .ns, .ns, .i .i64 (.sym 7 (.negSucc 0)), .kv 13, .kv 14, .kv 15, .i .i64 (.sym 9 (.ofNat 3)), nI 0, nI 0, nI 0, nI 0, .b false, nI 0, .b false, nI 0] true
def q148 : Ob := .cells 72 [nI 1003, nI 2003, .b true, nI 3, sI 5, nI 2, nI 6, nI 2, .sl 33 0 3 3 true, nI 6, nI 3, .sl 34 0 3 3 true, nI 6, nI 4, .sl 35 0 3 3 true, nI 2, nI 4, .ns, nI 2, nI 1048580, .ns, nI 3, nI 0, .sl 16 0 6 6 true, nI 3, nI 0, .sl 30 0 6 6 true, sI 7, sI 8, nI 0, nI 0, nI 0, nI 0, .ns, nI 0, nI 0, nI 0, nI 0, nI 0, .ns, nI 0, nI 0, .ns, nI 0, nI 0, nI 0, nI 0, uI 0, uI 0, nI 0, uI 0, uI 0, nI 0, uI 0, uI 0, nI 0, uI 0, uI 0, nI 0, nI 0, nI 0, nI 0, nI 0, nI 0, nI 0, nI 0, .ns, .ns, .i .i64 (.sym 8 (.negSucc 0)), .kv 10, .kv 11, .kv 12, .i .i64 (.sym 9 (.ofNat 4)), nI 0, nI 0, nI 0, nI 0, .b false, nI 0, .b false, nI 0] true
def q149 : Ob := .cells 39 [nI 0, nI 1, sI 5, nI 2, .sl 3 0 2 2 true, .sl 0 0 2 2 true, .i .i64 (.sym 9 (.ofNat 5)), nI 6, nI 2, nI 1, .ns, nI 2, nI 2, .ns, nI 0, .ns, .sl 51 0 1 1 true, .sl 45 0 1 1 true, .sl 46 0 1 1 true, nI 1, nI 0, nI 2, nI 1, .sl 7 0 2 2 true, .sl 4 0 2 2 true, .i .i64 (.sym 9 (.ofNat 5)), sI 11, nI 2, nI 1048577, .ns, nI 2, nI 1048578, .ns, nI 0, .sl 54 0 0 0 false, .sl 55 0 1 1 true, .sl 36 0 1 1 true, .ns, .sl 47 0 0 0 false, .os 48 (.sym 3 (.ofNat 2)), nI 0, .sl 49 0 2 2 true, .sl 50 0 2 2 true, .ns] false
def q150 : Ob := .cells 39 [nI 0, nI 1, sI 5, nI 2, .sl 3 0 2 2 true, .sl 0 0 2 2 true, .i .i64 (.sym 9 (.ofNat 5)), nI 6, nI 2, nI 1, .ns, nI 2, nI 2, .ns, nI 0, .ns, .sl 51 0 1 1 true, .sl 36 0 1 1 true, .sl 46 0 1 1 true, nI 1, nI 0, nI 2, nI 1, .sl 7 0 2 2 true, .sl 4 0 2 2 true, .i .i64 (.sym 9 (.ofNat 5)), sI 11, nI 2, nI 1048577, .ns, nI 2, nI 1048578, .ns, nI 0, .sl 54 0 0 0 false, .sl 55 0 1 1 true, .sl 45 0 1 1 true, .ns, .sl 47 0 0 0 false, .os 48 (.sym 3 (.ofNat 1)), nI 0, .sl 49 0 1 1 true, .sl 50 0 1 1 true, .ns] false
def q151 : Ob := .cells 39 [nI 0, nI 1, sI 5, nI 2, .sl 3 0 2 2 true, .sl 0 0 2 2 true, .i .i64 (.sym 9 (.ofNat 5)), nI 6, nI 2, nI 1, .ns, nI 2, nI 2, .ns, nI 0, .ns, .sl 51 0 1 1 true, .sl 45 0 1 1 true, .sl 46 0 1 1 true, nI 1, nI 0, nI 2, nI 1, .sl 7 0 2 2 true, .sl 4 0 2 2 true, .i .i64 (.sym 9 (.ofNat 5)), sI 11, nI 2, nI 1048577, .ns, nI 2, nI 1048578, .ns, nI 0, .sl 54 0 0 0 false, .sl 55 0 1 1 true, .sl 39 0 1 1 true, .ns, .sl 47 0 0 0 false, .os 48 (.sym 3 (.ofNat 1)), nI 0, .sl 49 0 1 1 true, .sl 50 0 1 1 true, .ns] false
def q152 : Ob := .cells 39 [nI 0, nI 1, sI 5, nI 2, .sl 3 0 2 2 true, .sl 0 0 2 2 true, .i .i64 (.sym 9 (.ofNat 5)), nI 6, nI 2, nI 1, .ns, nI 2, nI 2, .ns, nI 0, .ns, .sl 49 0 1 1 true, .sl 45 0 1 1 true, .sl 46 0 1 1 true, nI 1, nI 0, nI 2, nI 1, .sl 7 0 2 2 true, .sl 4 0 2 2 true, .i .i64 (.sym 9 (.ofNat 5)), sI 11, nI 2, nI 1048577, .ns, nI 2, nI 1048578, .ns, nI 0, .sl 50 0 0 0 false, .sl 51 0 1 1 true, .sl 39 0 1 1 true, .ns, .sl 47 0 0 0 false, .os 48 (.sym 3 (.ofNat 0)), nI 0, .ns, .ns, .ns] false
def t0 : St := ⟨156, 0, (.nd (.nd .lf (some (.kv 1)) .lf) (some (.kv 0)) .lf), .lf⟩
def h0 : Tr HV := .nd (.nd .lf (some (sI 100)) .lf) none .lf
def h1 : Tr HV := .nd (.nd (.nd h0 (some (.p 53 0)) .lf) none .lf) none (.nd .lf (some (.p 52 0)) .lf)
def h2 : Tr HV := .nd (.nd .lf (some (sI 2)) .lf) none .lf
def h3 : Tr HV := .nd .lf none (.nd .lf none (.nd .lf (some (.kv 0)) .lf))
def h4 : Tr HV := .nd h1 none (.nd (.nd (.nd h2 (some (sI 5)) .lf) none .lf) none h3)
def h5 : Tr Ob := .nd (.nd .lf (some eCo17) .lf) (some eCo15) (.nd .lf (some eCo68) .lf)
def h6 : Tr Ob := .nd h5 (some eCo7) (.nd (.nd .lf (some q112) .lf) (some eCo23) .lf)
def h7 : Tr Ob := .nd (.nd .lf (some eCo64) .lf) (some eCo12) .lf
def h8 : Tr Ob := .nd h6 (some eCo3) (.nd (.nd (.nd .lf (some eCo33) .lf) (some eCo19) (.nd .lf (some q113) .lf)) (some eCo11) h7)
def h9 : Tr Ob := .nd (.nd .lf (some q115) .lf) (some eCo25) .lf
def h10 : Tr Ob := .nd (.nd (.nd .lf (some eCo33) .lf) (some eCo17) (.nd .lf (some q114) .lf)) (some eCo9) h9
def h11 : Tr Ob := .nd (.nd .lf (some q117) .lf) (some eCo29) .lf
def h12 : Tr Ob := .nd (.nd .lf (some eCo32) .lf) (some eCo16) (.nd .lf (some q118) .lf)
def h13 : Tr Ob := .nd h12 (some eCo8) (.nd (.nd .lf (some eCo52) .lf) (some eCo24) .lf)
def h14 : Tr Ob := .nd (.nd .lf (some eCo64) .lf) (some eCo28) .lf
def h15 : Tr Ob := .nd h13 (some eCo0) (.nd (.nd (.nd .lf (some eCo46) .lf) (some eCo19) (.nd .lf (some q119) .lf)) (some eCo12) h14)
def h16 : Tr Ob := .nd (.nd .lf (some eCo46) .lf) (some eCo13) .lf
def h17 : Tr Ob := .nd (.nd (.nd .lf (some eCo33) .lf) (some eCo18) (.nd .lf (some eCo71) .lf)) (some eCo10) h16
def h18 : Tr Ob := .nd (.nd .lf (some q120) .lf) (some eCo30) .lf
def h19 : Tr Ob := .nd h17 (some eAo11) (.nd (.nd (.nd .lf (some eCo47) .lf) (some eCo22) .lf) (some eCo14) h18)
def h20 : Tr Ob := .nd h15 (some eAo11) h19
def h21 : Tr Ob := .nd (.nd h8 (some eAo10) (.nd h10 (some eBo173) (.nd (.nd (.nd .lf (some eCo47) .lf) (some eCo19) (.nd .lf (some q116) .lf)) (some eCo13) h11))) (some eCo0) h20
def tT : St := ⟨156, 54, h4, h21⟩
def tH : St := ⟨156, 54, (.nd h1 none (.nd (.nd (.nd h2 (some (sI 4)) .lf) none .lf) none h3)), h21⟩
def tL : St := ⟨156, 54, (.nd h1 none (.nd (.nd (.nd h0 (some (sI 5)) .lf) none .lf) none h3)), h21⟩
def tU : St := ⟨156, 54, (.nd (.nd (.nd (.nd .lf (some (.p 53 0)) .lf) none .lf) none (.nd .lf (some (.p 52 0)) .lf)) none (.nd (.nd (.nd .lf (some (sI 5)) .lf) none .lf) none .lf)), h21⟩
def tS : St := ⟨156, 54, h4, h21⟩
def h22 : Tr HV := .nd (.nd (.nd (.nd .lf (some (nI 0)) .lf) (some (.p 53 0)) .lf) none .lf) none (.nd .lf (some (.p 52 0)) .lf)
def h23 : Tr Ob := .nd (.nd .lf (some eCo47) .lf) (some eCo19) (.nd .lf (some q121) .lf)
def h24 : Tr Ob := .nd h10 (some eBo173) (.nd h23 (some eCo13) h11)
def h25 : Tr Ob := .nd h8 (some eAo10) h24
def tW : St := ⟨156, 54, (.nd h22 none .lf), (.nd h25 (some eCo0) h20)⟩
def h26 : Tr HV := .nd (.nd (.nd (.nd .lf (some (.p 54 0)) .lf) none .lf) none .lf) none .lf
def h27 : Tr HV := .nd h22 none h26
def h28 : Tr Ob := .nd h17 (some eAo11) (.nd (.nd (.nd .lf (some eCo47) .lf) (some eCo22) (.nd .lf (some q122) .lf)) (some eCo14) h18)
def tP : St := ⟨156, 55, h27, (.nd h25 (some eCo0) (.nd h15 (some eAo11) h28))⟩
def h29 : Tr Ob := .nd h6 (some eCo3) (.nd (.nd (.nd .lf (some eCo33) .lf) (some eCo19) (.nd .lf (some q123) .lf)) (some eCo11) h7)
def h30 : Tr Ob := .nd h29 (some eAo10) h24
def tP2 : St := ⟨156, 55, h27, (.nd h30 (some eCo0) (.nd (.nd h13 (some eCo0) (.nd (.nd (.nd .lf (some eCo46) .lf) (some eCo19) (.nd .lf (some q124) .lf)) (some eCo12) h14)) (some eAo11) h28))⟩
def h31 : Tr HV := .nd (.nd (.nd (.nd .lf (some (nI 1)) .lf) (some (.p 53 0)) .lf) none .lf) none (.nd .lf (some (.p 52 0)) .lf)
def h32 : Tr HV := .nd h31 none .lf
def h33 : Tr Ob := .nd h5 (some eCo7) (.nd (.nd .lf (some q125) .lf) (some eCo23) (.nd .lf (some q126) .lf))
def h34 : Tr Ob := .nd (.nd (.nd .lf (some eCo33) .lf) (some eCo19) (.nd .lf (some q114) .lf)) (some eCo11) h7
def h35 : Tr Ob := .nd h33 (some eCo3) h34
def h36 : Tr Ob := .nd (.nd (.nd .lf (some eCo33) .lf) (some eCo17) (.nd .lf (some q127) .lf)) (some eCo9) h9
def h37 : Tr Ob := .nd (.nd .lf (some q128) .lf) (some eCo29) .lf
def h38 : Tr Ob := .nd h36 (some eBo173) (.nd h23 (some eCo13) h37)
def h39 : Tr Ob := .nd h35 (some eAo10) h38
def h40 : Tr Ob := .nd (.nd (.nd .lf (some q129) .lf) (some eCo19) (.nd .lf (some q130) .lf)) (some eCo12) h14
def h41 : Tr Ob := .nd (.nd (.nd .lf (some eCo47) .lf) (some eCo22) (.nd .lf (some eCo71) .lf)) (some eCo14) h18
def h42 : Tr Ob := .nd (.nd (.nd (.nd .lf (some eCo33) .lf) (some eCo18) (.nd .lf (some q131) .lf)) (some eCo10) h16) (some eAo11) h41
def tP20 : St := ⟨156, 56, h32, (.nd h39 (some eCo0) (.nd (.nd h13 (some eCo0) h40) (some eAo11) h42))⟩
def h43 : Tr HV := .nd h31 none (.nd (.nd (.nd (.nd .lf (some (.p 56 0)) .lf) none .lf) none .lf) none .lf)
def h44 : Tr Ob := .nd h12 (some eCo8) (.nd (.nd .lf (some eCo52) .lf) (some eCo24) (.nd .lf (some q132) .lf))
def tP20p : St := ⟨156, 57, h43, (.nd h39 (some eCo0) (.nd (.nd h44 (some eCo0) h40) (some eAo11) h42))⟩
def h45 : Tr HV := .nd (.nd (.nd (.nd (.nd .lf (some (nI 2)) .lf) (some (.p 53 0)) .lf) none .lf) none (.nd .lf (some (.p 52 0)) .lf)) none .lf
def h46 : Tr Ob := .nd (.nd (.nd .lf (some eCo33) .lf) (some eCo19) (.nd .lf (some q133) .lf)) (some eCo11) h7
def h47 : Tr Ob := .nd h33 (some eCo3) h46
def h48 : Tr Ob := .nd (.nd (.nd .lf (some eCo33) .lf) (some eCo17) (.nd .lf (some q134) .lf)) (some eCo9) h9
def h49 : Tr Ob := .nd (.nd .lf (some q135) .lf) (some eCo29) .lf
def h50 : Tr Ob := .nd h48 (some eBo173) (.nd h23 (some eCo13) h49)
def h51 : Tr Ob := .nd (.nd .lf (some q125) .lf) (some eCo13) .lf
def h52 : Tr Ob := .nd (.nd (.nd (.nd .lf (some eCo33) .lf) (some eCo18) (.nd .lf (some q138) .lf)) (some eCo10) h51) (some eAo11) h41
def h53 : Tr Ob := .nd (.nd h13 (some eCo0) (.nd (.nd (.nd .lf (some q136) .lf) (some eCo19) (.nd .lf (some q137) .lf)) (some eCo12) h14)) (some eAo11) h52
def tP20p0 : St := ⟨156, 56, h45, (.nd (.nd h47 (some eAo10) h50) (some eCo0) h53)⟩
def h54 : Tr HV := .nd (.nd .lf none (.nd .lf (some (.p 52 0)) .lf)) none .lf
def h55 : Tr Ob := .nd (.nd .lf (some eCo47) .lf) (some eCo19) .lf
def h56 : Tr Ob := .nd h48 (some eBo173) (.nd h55 (some eCo13) h49)
def tP20p0e : St := ⟨156, 56, h54, (.nd (.nd h47 (some eAo10) h56) (some eCo0) h53)⟩
def h57 : Tr Ob := .nd (.nd (.nd .lf (some q129) .lf) (some eCo19) (.nd .lf (some q139) .lf)) (some eCo12) h14
def h58 : Tr Ob := .nd (.nd h13 (some eCo0) h57) (some eAo11) h42
def tP20p1 : St := ⟨156, 56, h45, (.nd h39 (some eCo0) h58)⟩
def h59 : Tr Ob := .nd h36 (some eBo173) (.nd h55 (some eCo13) h37)
def tP20p1e : St := ⟨156, 56, h54, (.nd (.nd h35 (some eAo10) h59) (some eCo0) h58)⟩
def h60 : Tr Ob := .nd h13 (some eCo0) (.nd (.nd (.nd .lf (some eCo46) .lf) (some eCo19) (.nd .lf (some q140) .lf)) (some eCo12) h14)
def tP21 : St := ⟨156, 54, h32, (.nd h30 (some eCo0) (.nd h60 (some eAo11) h19))⟩
def h61 : Tr HV := .nd h31 none h26
def h62 : Tr Ob := .nd h17 (some eAo11) (.nd (.nd (.nd .lf (some eCo47) .lf) (some eCo22) (.nd .lf (some q132) .lf)) (some eCo14) h18)
def tP21p : St := ⟨156, 55, h61, (.nd h30 (some eCo0) (.nd h60 (some eAo11) h62))⟩
def h63 : Tr Ob := .nd h5 (some eCo7) (.nd (.nd .lf (some q141) .lf) (some eCo23) (.nd .lf (some q123) .lf))
def h64 : Tr Ob := .nd h63 (some eCo3) h46
def h65 : Tr Ob := .nd (.nd (.nd .lf (some eCo33) .lf) (some eCo17) (.nd .lf (some q142) .lf)) (some eCo9) h9
def h66 : Tr Ob := .nd (.nd .lf (some q143) .lf) (some eCo29) .lf
def h67 : Tr Ob := .nd h65 (some eBo173) (.nd h23 (some eCo13) h66)
def h68 : Tr Ob := .nd (.nd (.nd (.nd .lf (some eCo33) .lf) (some eCo18) (.nd .lf (some q145) .lf)) (some eCo10) h51) (some eAo11) h41
def h69 : Tr Ob := .nd (.nd h13 (some eCo0) (.nd (.nd (.nd .lf (some eCo46) .lf) (some eCo19) (.nd .lf (some q144) .lf)) (some eCo12) h14)) (some eAo11) h68
def tP21p0 : St := ⟨156, 56, h45, (.nd (.nd h64 (some eAo10) h67) (some eCo0) h69)⟩
def h70 : Tr Ob := .nd h65 (some eBo173) (.nd h55 (some eCo13) h66)
def tP21p0e : St := ⟨156, 56, h54, (.nd (.nd h64 (some eAo10) h70) (some eCo0) h69)⟩
def h71 : Tr Ob := .nd h13 (some eCo0) (.nd (.nd (.nd .lf (some eCo46) .lf) (some eCo19) (.nd .lf (some q146) .lf)) (some eCo12) h14)
def h72 : Tr Ob := .nd h71 (some eAo11) h19
def h73 : Tr Ob := .nd h30 (some eCo0) h72
def tP21p1 : St := ⟨156, 54, h45, h73⟩
def h74 : Tr Ob := .nd h29 (some eAo10) (.nd h10 (some eBo173) (.nd h55 (some eCo13) h11))
def tP21p1e : St := ⟨156, 54, h54, (.nd h74 (some eCo0) h72)⟩
def tP3 : St := ⟨156, 55, h27, (.nd h30 (some eCo0) (.nd h60 (some eAo11) h28))⟩
def h75 : Tr Ob := .nd h5 (some eCo7) (.nd (.nd .lf (some q125) .lf) (some eCo23) (.nd .lf (some q147) .lf))
def h76 : Tr Ob := .nd h75 (some eCo3) h34
def h77 : Tr Ob := .nd h76 (some eAo10) h38
def tP30 : St := ⟨156, 56, h32, (.nd h77 (some eCo0) h58)⟩
def tP30p : St := ⟨156, 57, h43, (.nd h77 (some eCo0) (.nd (.nd h44 (some eCo0) h57) (some eAo11) h42))⟩
def h78 : Tr Ob := .nd (.nd (.nd .lf (some eCo33) .lf) (some eCo19) (.nd .lf (some q148) .lf)) (some eCo11) h7
def h79 : Tr Ob := .nd h75 (some eCo3) h78
def h80 : Tr Ob := .nd (.nd h13 (some eCo0) (.nd (.nd (.nd .lf (some q136) .lf) (some eCo19) (.nd .lf (some q149) .lf)) (some eCo12) h14)) (some eAo11) h52
def tP30p0 : St := ⟨156, 56, h45, (.nd (.nd h79 (some eAo10) h50) (some eCo0) h80)⟩
def tP30p0e : St := ⟨156, 56, h54, (.nd (.nd h79 (some eAo10) h56) (some eCo0) h80)⟩
def h81 : Tr Ob := .nd (.nd h13 (some eCo0) (.nd (.nd (.nd .lf (some q129) .lf) (some eCo19) (.nd .lf (some q150) .lf)) (some eCo12) h14)) (some eAo11) h42
def tP30p1 : St := ⟨156, 56, h45, (.nd h77 (some eCo0) h81)⟩
def tP30p1e : St := ⟨156, 56, h54, (.nd (.nd h76 (some eAo10) h59) (some eCo0) h81)⟩
def tP31 : St := ⟨156, 54, h32, h73⟩
def tP31p : St := ⟨156, 55, h61, (.nd h30 (some eCo0) (.nd h71 (some eAo11) h62))⟩
def h82 : Tr Ob := .nd h63 (some eCo3) h78
def h83 : Tr Ob := .nd (.nd h13 (some eCo0) (.nd (.nd (.nd .lf (some eCo46) .lf) (some eCo19) (.nd .lf (some q151) .lf)) (some eCo12) h14)) (some eAo11) h68
def tP31p0 : St := ⟨156, 56, h45, (.nd (.nd h82 (some eAo10) h67) (some eCo0) h83)⟩
def tP31p0e : St := ⟨156, 56, h54, (.nd (.nd h82 (some eAo10) h70) (some eCo0) h83)⟩
def h84 : Tr Ob := .nd (.nd h13 (some eCo0) (.nd (.nd (.nd .lf (some eCo46) .lf) (some eCo19) (.nd .lf (some q152) .lf)) (some eCo12) h14)) (some eAo11) h19
def tP31p1 : St := ⟨156, 54, h45, (.nd h30 (some eCo0) h84)⟩
def tP31p1e : St := ⟨156, 54, h54, (.nd h74 (some eCo0) h84)⟩
def x0 : NX := ⟨30, 99, 6, rows9 (.lit (.ofNat 7)) (.lit (.ofNat 0)) (.lit (.ofNat 5))⟩
def x1 : NX := ⟨30, 99, 6, rows9 (.lit (.ofNat 7)) (.lit (.ofNat 0)) (.sym 76 (.ofNat 0))⟩
def x2 : NX := ⟨30, 99, 6, rows9 (.lit (.ofNat 7)) (.lit (.ofNat 1)) (.lit (.ofNat 5))⟩
def x3 : NX := ⟨30, 99, 6, rows9 (.lit (.ofNat 7)) (.lit (.ofNat 1)) (.sym 76 (.ofNat 0))⟩
def x4 : NX := ⟨30, 99, 6, rows9 (.lit (.ofNat 7)) (.lit (.ofNat 2)) (.lit (.ofNat 5))⟩
def x5 : NX := ⟨30, 99, 6, rows9 (.lit (.ofNat 7)) (.lit (.ofNat 2)) (.sym 76 (.ofNat 0))⟩
def x6 : NX := ⟨30, 99, 6, rows5 (.lit (.ofNat 7)) (.lit (.ofNat 3))⟩
def x7 : NX := ⟨30, 99, 6, rows9 (.sym 72 (.ofNat 0)) (.lit (.ofNat 0)) (.lit (.ofNat 5))⟩
def x8 : NX := ⟨30, 99, 6, rows9 (.sym 72 (.ofNat 0)) (.lit (.ofNat 0)) (.sym 76 (.ofNat 0))⟩
def x9 : NX := ⟨30, 99, 6, rows9 (.sym 72 (.ofNat 0)) (.lit (.ofNat 1)) (.lit (.ofNat 5))⟩
def x10 : NX := ⟨30, 99, 6, rows9 (.sym 72 (.ofNat 0)) (.lit (.ofNat 1)) (.sym 76 (.ofNat 0))⟩
def x11 : NX := ⟨30, 99, 6, rows9 (.sym 72 (.ofNat 0)) (.lit (.ofNat 2)) (.lit (.ofNat 5))⟩
def x12 : NX := ⟨30, 99, 6, rows9 (.sym 72 (.ofNat 0)) (.lit (.ofNat 2)) (.sym 76 (.ofNat 0))⟩
def x13 : NX := ⟨30, 99, 6, rows5 (.sym 72 (.ofNat 0)) (.lit (.ofNat 3))⟩
def v00e0 : EntV := ⟨194, [.agg [nI 4, uI 0, uI 167772160, nI 4, uI 0, uI 184549375, nI 4, uI 0, uI 3232235520, nI 4, uI 0, uI 3232301055, nI 0, nI 255, .i .i64 (.lit (.negSucc 0)), nI 65535, .i .i64 (.lit (.negSucc 0)), nI 65535], .agg [nI 4, uI 0, .i .u64 (.sym 20 (.ofNat 0)), nI 4, uI 0, .i .u64 (.sym 21 (.ofNat 0)), nI 50, .i .i64 (.lit (.negSucc 0)), .i .i64 (.lit (.negSucc 0))], .b true], .b true⟩
def v00e1 : EntV := ⟨194, [.agg [nI 4, uI 0, uI 3232235520, nI 4, uI 0, uI 3232301055, nI 4, uI 0, uI 167772160, nI 4, uI 0, uI 184549375, nI 0, nI 255, .i .i64 (.lit (.negSucc 0)), nI 65535, .i .i64 (.lit (.negSucc 0)), nI 65535], .agg [nI 4, uI 0, .i .u64 (.sym 20 (.ofNat 0)), nI 4, uI 0, .i .u64 (.sym 21 (.ofNat 0)), nI 50, .i .i64 (.lit (.negSucc 0)), .i .i64 (.lit (.negSucc 0))], .b false], .b true⟩
def v00 : List EntV := [v00e0, v00e1]
def c00 : CH := chX v00
def v01e0 : EntV := ⟨194, [.agg [nI 4, uI 0, uI 167772160, nI 4, uI 0, uI 184549375, nI 4, uI 0, uI 3232235520, nI 4, uI 0, uI 3232301055, nI 0, nI 255, .i .i64 (.lit (.negSucc 0)), nI 65535, .i .i64 (.lit (.negSucc 0)), nI 65535], .agg [nI 4, uI 0, .i .u64 (.sym 20 (.ofNat 0)), nI 4, uI 0, .i .u64 (.sym 21 (.ofNat 0)), nI 50, .i .i64 (.lit (.negSucc 0)), .i .i64 (.lit (.negSucc 0))], .b true], .b false⟩
def v01e1 : EntV := ⟨194, [.agg [nI 4, uI 0, uI 0, nI 4, uI 0, uI 4294967295, nI 4, uI 0, uI 0, nI 4, uI 0, uI 4294967295, nI 0, nI 255, .i .i64 (.lit (.negSucc 0)), nI 65535, .i .i64 (.lit (.negSucc 0)), nI 65535], .agg [nI 4, uI 0, .i .u64 (.sym 20 (.ofNat 0)), nI 4, uI 0, .i .u64 (.sym 21 (.ofNat 0)), nI 50, .i .i64 (.lit (.negSucc 0)), .i .i64 (.lit (.negSucc 0))], .b true], .b true⟩
def v01 : List EntV := [v01e0, v01e1]
def c01 : CH := chX v01
def v10e0 : EntV := ⟨194, [.agg [nI 4, uI 0, uI 3232235520, nI 4, uI 0, uI 3232301055, nI 4, uI 0, uI 167772160, nI 4, uI 0, uI 184549375, nI 0, nI 255, .i .i64 (.lit (.negSucc 0)), nI 65535, .i .i64 (.lit (.negSucc 0)), nI 65535], .agg [nI 4, uI 0, .i .u64 (.sym 23 (.ofNat 0)), nI 4, uI 0, .i .u64 (.sym 22 (.ofNat 0)), nI 50, .i .i64 (.lit (.negSucc 0)), .i .i64 (.lit (.negSucc 0))], .b true], .b true⟩
def v10e1 : EntV := ⟨194, [.agg [nI 4, uI 0, uI 167772160, nI 4, uI 0, uI 184549375, nI 4, uI 0, uI 3232235520, nI 4, uI 0, uI 3232301055, nI 0, nI 255, .i .i64 (.lit (.negSucc 0)), nI 65535, .i .i64 (.lit (.negSucc 0)), nI 65535], .agg [nI 4, uI 0, .i .u64 (.sym 23 (.ofNat 0)), nI 4, uI 0, .i .u64 (.sym 22 (.ofNat 0)), nI 50, .i .i64 (.lit (.negSucc 0)), .i .i64 (.lit (.negSucc 0))], .b false], .b true⟩
def v10 : List EntV := [v10e0, v10e1]
def c10 : CH := chX v10
def v11e0 : EntV := ⟨194, [.agg [nI 4, uI 0, uI 3232235520, nI 4, uI 0, uI 3232301055, nI 4, uI 0, uI 167772160, nI 4, uI 0, uI 184549375, nI 0, nI 255, .i .i64 (.lit (.negSucc 0)), nI 65535, .i .i64 (.lit (.negSucc 0)), nI 65535], .agg [nI 4, uI 0, .i .u64 (.sym 23 (.ofNat 0)), nI 4, uI 0, .i .u64 (.sym 22 (.ofNat 0)), nI 50, .i .i64 (.lit (.negSucc 0)), .i .i64 (.lit (.negSucc 0))], .b true], .b false⟩
def v11e1 : EntV := ⟨194, [.agg [nI 4, uI 0, uI 0, nI 4, uI 0, uI 4294967295, nI 4, uI 0, uI 0, nI 4, uI 0, uI 4294967295, nI 0, nI 255, .i .i64 (.lit (.negSucc 0)), nI 65535, .i .i64 (.lit (.negSucc 0)), nI 65535], .agg [nI 4, uI 0, .i .u64 (.sym 23 (.ofNat 0)), nI 4, uI 0, .i .u64 (.sym 22 (.ofNat 0)), nI 50, .i .i64 (.lit (.negSucc 0)), .i .i64 (.lit (.negSucc 0))], .b true], .b true⟩
def v11 : List EntV := [v11e0, v11e1]
def c11 : CH := chX v11
def q153 : Ob := .cells 28 [nI 1, nI 16, .ns] true
def q154 : Ob := .cells 72 [nI 1003, nI 2003, .b true, nI 3, sI 5, nI 2, nI 6, nI 2, .sl 33 0 3 3 true, nI 6, nI 3, .sl 34 0 3 3 true, nI 6, nI 4, .sl 35 0 3 3 true, nI 2, nI 4, .ns, nI 2, nI 1048580, .ns, nI 3, nI 0, .sl 16 0 6 6 true, nI 3, nI 0, .sl 30 0 6 6 true, .i .i64 (.sym 7 (.ofNat 1)), sI 8, nI 9, sI 7, nI 3, nI 0, .sl 182 0 6 6 true, nI 2, nI 1, .i .i64 (.sym 6 (.ofNat 2)), nI 0, nI 0, .ns, nI 0, nI 0, .ns, nI 0, nI 0, nI 0, nI 0, uI 0, uI 0, nI 0, uI 0, uI 0, nI 0, uI 0, uI 0, nI 0, uI 0, uI 0, nI 0, nI 0, nI 0, nI 0, nI 0, nI 0, nI 0, nI 0, .ns, .ns, .i .i64 (.sym 8 (.negSucc 0)), .kv 10, .kv 11, .kv 12, sI 9, nI 0, nI 0, nI 0, nI 0, .b false, nI 0, .b false, nI 0] true
def q155 : Ob := .cells 28 [nI 3, nI 0, .sl 104 0 1 1 true] true
def q156 : Ob := .cells 28 [nI 1, nI 37, .ns, nI 1, nI 1003, .ns, nI 1, nI 2003, .ns, nI 1, nI 2, .ns, nI 1, sI 7, .ns, nI 3, nI 0, .sl 128 0 1 1 true] true
def q157 : Ob := .cells 28 [nI 6, nI 3, .sl 34 0 3 3 true, nI 3, nI 0, .sl 153 0 6 6 true] false
def q158 : Ob := .cells 28 [nI 1, nI 37, .ns, nI 1, nI 1003, .ns, nI 1, nI 2003, .ns, nI 1, nI 2, .ns, nI 1, sI 7, .ns, nI 7, nI 0, .sl 157 0 2 2 false] true
def q159 : Ob := .cells 47 [sI 5, nI 2, nI 3, nI 0, .sl 182 0 6 6 true] true
def q160 : Ob := .cells 47 [nI 2, sI 5, nI 3, nI 0, .sl 484 0 6 6 true] true
def q161 : Ob := .cells 72 [nI 2003, nI 1003, .b false, nI 3, nI 2, sI 5, nI 6, nI 2, .sl 19 0 3 3 true, nI 6, nI 4, .sl 21 0 3 3 true, nI 6, nI 3, .sl 20 0 3 3 true, nI 2, nI 1048580, .ns, nI 2, nI 4, .ns, nI 3, nI 0, .sl 16 0 6 6 true, nI 3, nI 0, .sl 30 0 6 6 true, sI 8, .i .i64 (.sym 7 (.ofNat 1)), nI 0, nI 0, nI 0, nI 0, .ns, nI 0, nI 0, nI 0, nI 0, nI 0, .ns, nI 0, nI 0, .ns, nI 0, nI 0, nI 0, nI 0, uI 0, uI 0, nI 0, uI 0, uI 0, nI 0, uI 0, uI 0, nI 0, uI 0, uI 0, nI 0, nI 0, nI 0, nI 0, nI 0, nI 0, nI 0, nI 0, .ns, .ns, sI 7, nI 3, nI 0, .sl 484 0 6 6 true, sI 6, nI 0, nI 0, nI 0, nI 0, .b false, nI 0, .b false, nI 0] true
def q162 : Ob := .cells 28 [nI 1, nI 37, .ns, nI 1, nI 1003, .ns, nI 1, nI 2003, .ns, nI 1, nI 1, .ns, nI 1, sI 7, .ns, nI 3, nI 0, .ns] true
def q163 : Ob := .cells 28 [nI 6, nI 4, .sl 21 0 3 3 true, nI 3, nI 0, .sl 455 0 6 6 true] false
def q164 : Ob := .cells 28 [nI 1, nI 37, .ns, nI 1, nI 1003, .ns, nI 1, nI 2003, .ns, nI 1, nI 1, .ns, nI 1, sI 7, .ns, nI 7, nI 0, .sl 459 0 2 2 false] true
def kSp202 : EntP := ⟨9, [.agg [nI 0, nI 1, sI 5, nI 2, .sl 3 0 2 2 true, .sl 0 0 2 2 true, sI 6, nI 6, nI 2, nI 1, .ns, nI 2, nI 2, .ns, nI 0, .ns, .sl 118 0 1 1 true, .sl 45 0 1 1 true, .sl 46 0 1 1 true, nI 1, nI 0, nI 2, nI 1, .sl 7 0 2 2 true, .sl 4 0 2 2 true, sI 6, sI 11, nI 2, nI 1048577, .ns, nI 2, nI 1048578, .ns, nI 0, .sl 50 0 0 0 false, .sl 51 0 1 1 true, .sl 39 0 1 1 true, .ns, .sl 196 0 1 1 true, .os 194 (.sym 3 (.ofNat 1)), nI 0, .ns, .ns, .ns], .agg [nI 1, nI 0, nI 0, nI 0, nI 0, nI 0, nI 0, .ns, nI 0, nI 0, nI 0, nI 0, nI 0, .ns, nI 0, uI 0, uI 0, nI 0, uI 0, uI 0, nI 0, nI 0, nI 0, nI 0, nI 0]], 202, [(0, eCo0), (1, eAo10), (2, eAo11), (3, eCo3), (4, eCo0), (5, eBo173), (6, eAo11), (7, eCo7), (8, eCo8), (9, eCo9), (10, eCo10), (11, eCo11), (12, eCo12), (13, eCo13), (14, eCo14), (15, eCo15), (16, eCo16), (17, eCo17), (18, eCo18), (19, eCo19), (20, eCo19), (21, eCo19), (22, eCo22), (23, eCo23), (24, eCo24), (25, eCo25), (26, eCo13), (27, eCo12), (28, eCo28), (29, eCo29), (30, eCo30), (31, eCo17), (32, eCo32), (33, eCo33), (34, eCo33), (35, eCo33), (36, eCo46), (37, eCo47), (38, eCo47), (39, q112), (40, eCo52), (41, q115), (42, eCo46), (43, eCo64), (44, eCo64), (45, q117), (46, q120), (50, eCo71), (51, q113), (104, q153), (118, q154), (128, q155), (153, q156), (157, q157), (182, q158), (194, q118), (196, q159)], .tup [.agg [nI 0, nI 1, sI 5, nI 2, .sl 3 0 2 2 true, .sl 0 0 2 2 true, sI 6, nI 6, nI 2, nI 1, .ns, nI 2, nI 2, .ns, nI 0, .ns, .sl 118 0 1 1 true, .sl 45 0 1 1 true, .sl 46 0 1 1 true, nI 1, nI 0, nI 2, nI 1, .sl 7 0 2 2 true, .sl 4 0 2 2 true, sI 6, sI 11, nI 2, nI 1048577, .ns, nI 2, nI 1048578, .ns, nI 0, .sl 50 0 0 0 false, .sl 423 0 1 1 true, .sl 39 0 1 1 true, .ns, .sl 211 0 1 1 true, .os 506 (.sym 3 (.ofNat 2)), nI 0, .ns, .ns, .ns], nI 0], [.obj 211 (some q160), .obj 423 (some q161), .obj 455 (some q162), .obj 459 (some q163), .obj 484 (some q164), .obj 506 (some q118)], 508⟩
def q165 : Ob := .cells 72 [nI 1003, nI 2003, .b true, nI 3, sI 4, nI 2, nI 6, nI 2, .sl 33 0 3 3 true, nI 6, nI 3, .sl 34 0 3 3 true, nI 6, nI 4, .sl 35 0 3 3 true, nI 2, nI 4, .ns, nI 2, nI 1048580, .ns, nI 3, nI 0, .sl 16 0 6 6 true, nI 3, nI 0, .sl 30 0 6 6 true, .i .i64 (.sym 7 (.ofNat 1)), sI 8, nI 9, sI 7, nI 3, nI 0, .sl 182 0 6 6 true, nI 2, nI 1, .i .i64 (.sym 6 (.ofNat 2)), nI 0, nI 0, .ns, nI 0, nI 0, .ns, nI 0, nI 0, nI 0, nI 0, uI 0, uI 0, nI 0, uI 0, uI 0, nI 0, uI 0, uI 0, nI 0, uI 0, uI 0, nI 0, nI 0, nI 0, nI 0, nI 0, nI 0, nI 0, nI 0, .ns, .ns, .i .i64 (.sym 8 (.negSucc 0)), .kv 10, .kv 11, .kv 12, sI 9, nI 0, nI 0, nI 0, nI 0, .b false, nI 0, .b false, nI 0] true
def q166 : Ob := .cells 47 [sI 4, nI 2, nI 3, nI 0, .sl 182 0 6 6 true] true
def q167 : Ob := .cells 28 [nI 6, nI 4, .sl 21 0 3 3 true, nI 3, nI 0, .sl 457 0 6 6 true] false
def q168 : Ob := .cells 28 [nI 1, nI 37, .ns, nI 1, nI 1003, .ns, nI 1, nI 2003, .ns, nI 1, nI 1, .ns, nI 1, sI 7, .ns, nI 7, nI 0, .sl 461 0 2 2 false] true
def q169 : Ob := .cells 28 [nI 1, nI 17, .ns, nI 2, .i .i64 (.sym 11 (.ofNat 1048577)), .ns] true
def q170 : Ob := .cells 72 [nI 2003, nI 1003, .b false, nI 3, nI 2, sI 5, nI 6, nI 2, .sl 19 0 3 3 true, nI 6, nI 4, .sl 21 0 3 3 true, nI 6, nI 3, .sl 20 0 3 3 true, nI 2, nI 1048580, .ns, nI 2, nI 4, .ns, nI 3, nI 0, .sl 16 0 6 6 true, nI 3, nI 0, .sl 30 0 6 6 true, .i .i64 (.sym 8 (.ofNat 1)), .i .i64 (.sym 7 (.ofNat 1)), nI 10, sI 8, nI 3, nI 0, .sl 591 0 6 6 true, sI 4, nI 1, .i .i64 (.sym 6 (.ofNat 2)), nI 0, nI 0, .ns, nI 0, nI 0, .ns, nI 0, nI 0, nI 0, nI 0, uI 0, uI 0, nI 0, uI 0, uI 0, nI 0, uI 0, uI 0, nI 0, uI 0, uI 0, nI 0, nI 0, nI 0, nI 0, nI 0, nI 0, nI 2, .i .i64 (.sym 11 (.ofNat 1048577)), .ns, .ns, sI 7, nI 3, nI 0, .sl 486 0 6 6 true, sI 6, nI 0, nI 0, nI 0, nI 0, .b false, nI 0, .b false, sI 4] true
def q171 : Ob := .cells 28 [nI 3, nI 0, .sl 513 0 2 2 true] true
def q172 : Ob := .cells 28 [nI 1, nI 37, .ns, nI 1, nI 1003, .ns, nI 1, nI 2003, .ns, nI 1, nI 0, .ns, nI 1, sI 8, .ns, nI 3, nI 0, .sl 537 0 1 1 true] true
def q173 : Ob := .cells 28 [nI 6, nI 4, .sl 21 0 3 3 true, nI 3, nI 0, .sl 562 0 6 6 true] false
def q174 : Ob := .cells 28 [nI 1, nI 37, .ns, nI 1, nI 1003, .ns, nI 1, nI 2003, .ns, nI 1, nI 0, .ns, nI 1, sI 8, .ns, nI 7, nI 0, .sl 566 0 2 2 false] true
def q175 : Ob := .cells 47 [nI 2, sI 4, nI 3, nI 0, .sl 486 0 6 6 true, nI 2, sI 4, nI 3, nI 0, .sl 591 0 6 6 true] true
def kDp202 : EntP := ⟨9, [.agg [nI 0, nI 1, sI 4, nI 2, .sl 3 0 2 2 true, .sl 0 0 2 2 true, sI 6, nI 6, nI 2, nI 1, .ns, nI 2, nI 2, .ns, nI 0, .ns, .sl 118 0 1 1 true, .sl 45 0 1 1 true, .sl 46 0 1 1 true, nI 1, nI 0, nI 2, nI 1, .sl 7 0 2 2 true, .sl 4 0 2 2 true, sI 6, sI 11, nI 2, nI 1048577, .ns, nI 2, nI 1048578, .ns, nI 0, .sl 50 0 0 0 false, .sl 51 0 1 1 true, .sl 39 0 1 1 true, .ns, .sl 196 0 1 1 true, .os 194 (.sym 3 (.ofNat 1)), nI 0, .ns, .ns, .ns], .agg [nI 1, nI 0, nI 0, nI 0, nI 0, nI 0, nI 0, .ns, nI 0, nI 0, nI 0, nI 0, nI 0, .ns, nI 0, uI 0, uI 0, nI 0, uI 0, uI 0, nI 0, nI 0, nI 0, nI 0, nI 0]], 202, [(0, eCo0), (1, eAo10), (2, eAo11), (3, eCo3), (4, eCo0), (5, eBo173), (6, eAo11), (7, eCo7), (8, eCo8), (9, eCo9), (10, eCo10), (11, eCo11), (12, eCo12), (13, eCo13), (14, eCo14), (15, eCo15), (16, eCo16), (17, eCo17), (18, eCo18), (19, eCo19), (20, eCo19), (21, eCo19), (22, eCo22), (23, eCo23), (24, eCo24), (25, eCo25), (26, eCo13), (27, eCo12), (28, eCo28), (29, eCo29), (30, eCo30), (31, eCo17), (32, eCo32), (33, eCo33), (34, eCo33), (35, eCo33), (36, eCo46), (37, eCo47), (38, eCo47), (39, q112), (40, eCo52), (41, q115), (42, eCo46), (43, eCo64), (44, eCo64), (45, q117), (46, q120), (50, eCo71), (51, q113), (104, q153), (118, q165), (128, q155), (153, q156), (157, q157), (182, q158), (194, q118), (196, q166)], .tup [.agg [nI 0, nI 1, sI 4, nI 2, .sl 3 0 2 2 true, .sl 0 0 2 2 true, sI 6, nI 6, nI 2, nI 1, .ns, nI 2, nI 2, .ns, nI 0, .ns, .sl 118 0 1 1 true, .sl 45 0 1 1 true, .sl 46 0 1 1 true, nI 1, nI 0, nI 2, nI 1, .sl 7 0 2 2 true, .sl 4 0 2 2 true, sI 6, .i .i64 (.sym 11 (.ofNat 1)), nI 2, nI 1048577, .ns, nI 2, nI 1048578, .ns, nI 0, .sl 50 0 0 0 false, .sl 527 0 1 1 true, .sl 39 0 1 1 true, .ns, .sl 609 0 2 2 true, .os 607 (.sym 3 (.ofNat 3)), nI 0, .ns, .ns, .ns], nI 0], [.obj 457 (some q162), .obj 461 (some q167), .obj 486 (some q168), .obj 513 (some q169), .obj 527 (some q170), .obj 537 (some q171), .obj 562 (some q172), .obj 566 (some q173), .obj 591 (some q174), .obj 607 (some q118), .obj 609 (some q175)], 610⟩
def q176 : Ob := .cells 47 [nI 2, sI 4, nI 3, nI 0, .sl 591 0 6 6 true, nI 0, nI 0, nI 0, nI 0, .ns] true
def q177 : Ob := .cells 72 [nI 1003, nI 2003, .b true, nI 3, sI 4, nI 2, nI 6, nI 2, .sl 33 0 3 3 true, nI 6, nI 3, .sl 34 0 3 3 true, nI 6, nI 4, .sl 35 0 3 3 true, nI 2, nI 4, .ns, nI 2, nI 1048580, .ns, nI 3, nI 0, .sl 16 0 6 6 true, nI 3, nI 0, .sl 30 0 6 6 true, .i .i64 (.sym 7 (.ofNat 1)), sI 8, nI 0, nI 0, nI 0, nI 0, .ns, nI 0, nI 0, nI 0, nI 0, nI 0, .ns, nI 0, nI 0, .ns, nI 0, nI 0, nI 0, nI 0, uI 0, uI 0, nI 0, uI 0, uI 0, nI 0, uI 0, uI 0, nI 0, uI 0, uI 0, nI 0, nI 0, nI 0, nI 0, nI 0, nI 0, nI 0, nI 0, .ns, .ns, .i .i64 (.sym 8 (.negSucc 0)), .kv 10, .kv 11, .kv 12, sI 6, nI 0, nI 0, nI 0, nI 0, .b false, nI 0, .b false, nI 0] true
def q178 : Ob := .cells 47 [sI 4, nI 2, nI 3, nI 0, .sl 1139 0 6 6 true] true
def q179 : Ob := .cells 72 [nI 1003, nI 2003, .b true, nI 3, sI 4, nI 2, nI 6, nI 2, .sl 33 0 3 3 true, nI 6, nI 3, .sl 34 0 3 3 true, nI 6, nI 4, .sl 35 0 3 3 true, nI 2, nI 4, .ns, nI 2, nI 1048580, .ns, nI 3, nI 0, .sl 16 0 6 6 true, nI 3, nI 0, .sl 30 0 6 6 true, .i .i64 (.sym 7 (.ofNat 1)), .i .i64 (.sym 8 (.ofNat 1)), nI 0, nI 0, nI 0, nI 0, .ns, nI 0, nI 0, nI 0, nI 0, nI 0, .ns, nI 0, nI 0, .ns, nI 0, nI 0, nI 0, nI 0, uI 0, uI 0, nI 0, uI 0, uI 0, nI 0, uI 0, uI 0, nI 0, uI 0, uI 0, nI 0, nI 0, nI 0, nI 0, nI 0, nI 0, nI 0, nI 0, .ns, .ns, sI 8, nI 3, nI 0, .sl 1139 0 6 6 true, sI 6, nI 0, nI 0, nI 0, nI 0, .b false, nI 0, .b false, nI 0] true
def q180 : Ob := .cells 28 [nI 3, nI 0, .sl 1062 0 2 2 true] true
def q181 : Ob := .cells 28 [nI 1, nI 37, .ns, nI 1, nI 1003, .ns, nI 1, nI 2003, .ns, nI 1, nI 3, .ns, nI 1, sI 8, .ns, nI 3, nI 0, .sl 1085 0 1 1 true] true
def q182 : Ob := .cells 28 [nI 6, nI 3, .sl 34 0 3 3 true, nI 3, nI 0, .sl 1110 0 6 6 true] false
def q183 : Ob := .cells 28 [nI 1, nI 37, .ns, nI 1, nI 1003, .ns, nI 1, nI 2003, .ns, nI 1, nI 3, .ns, nI 1, sI 8, .ns, nI 7, nI 0, .sl 1114 0 2 2 false] true
def kDp846 : EntP := ⟨9, [.agg [nI 0, nI 1, sI 4, nI 2, .sl 3 0 2 2 true, .sl 0 0 2 2 true, sI 6, nI 6, nI 2, nI 1, .ns, nI 2, nI 2, .ns, nI 0, .ns, .sl 810 0 1 1 true, .sl 45 0 1 1 true, .sl 46 0 1 1 true, nI 1, nI 0, nI 2, nI 1, .sl 7 0 2 2 true, .sl 4 0 2 2 true, sI 6, .i .i64 (.sym 11 (.ofNat 1)), nI 2, nI 1048577, .ns, nI 2, nI 1048578, .ns, nI 0, .sl 50 0 0 0 false, .sl 527 0 1 1 true, .sl 39 0 1 1 true, .ns, .sl 619 0 1 2 true, .os 621 (.sym 3 (.ofNat 3)), nI 0, .ns, .ns, .ns], .agg [nI 1, nI 0, nI 0, nI 0, nI 0, nI 0, nI 0, .ns, nI 0, nI 0, nI 0, nI 0, nI 0, .ns, nI 0, uI 0, uI 0, nI 0, uI 0, uI 0, nI 0, nI 0, nI 0, nI 0, nI 0]], 846, [(0, eCo0), (1, eAo10), (2, eAo11), (3, eCo3), (4, eCo0), (5, eBo173), (6, eAo11), (7, eCo7), (8, eCo8), (9, eCo9), (10, eCo10), (11, eCo11), (12, eCo12), (13, eCo13), (14, eCo14), (15, eCo15), (16, eCo16), (17, eCo17), (18, eCo18), (19, eCo19), (20, eCo19), (21, eCo19), (22, eCo22), (23, eCo23), (24, eCo24), (25, eCo25), (26, eCo13), (27, eCo12), (28, eCo28), (29, eCo29), (30, eCo30), (31, eCo17), (32, eCo32), (33, eCo33), (34, eCo33), (35, eCo33), (36, eCo46), (37, eCo47), (38, eCo47), (39, q112), (40, eCo52), (41, q115), (42, eCo46), (43, eCo64), (44, eCo64), (45, q117), (46, q120), (50, eCo71), (457, q162), (461, q167), (486, q168), (513, q169), (527, q170), (537, q171), (562, q172), (566, q173), (591, q174), (619, q176), (621, q118), (810, q177)], .tup [.agg [nI 0, nI 1, sI 4, nI 2, .sl 3 0 2 2 true, .sl 0 0 2 2 true, sI 6, nI 6, nI 2, nI 1, .ns, nI 2, nI 2, .ns, nI 0, .ns, .sl 1076 0 1 1 true, .sl 45 0 1 1 true, .sl 46 0 1 1 true, nI 1, nI 0, nI 2, nI 1, .sl 7 0 2 2 true, .sl 4 0 2 2 true, sI 6, .i .i64 (.sym 11 (.ofNat 1)), nI 2, nI 1048577, .ns, nI 2, nI 1048578, .ns, nI 0, .sl 50 0 0 0 false, .sl 527 0 1 1 true, .sl 39 0 1 1 true, .ns, .sl 855 0 1 1 true, .os 1161 (.sym 3 (.ofNat 4)), nI 0, .ns, .ns, .ns], nI 0], [.obj 855 (some q178), .obj 1062 (some q169), .obj 1076 (some q179), .obj 1085 (some q180), .obj 1110 (some q181), .obj 1114 (some q182), .obj 1139 (some q183), .obj 1161 (some q118)], 1163⟩
def R1 : Rng := { rng := [(100, (0, 9223372036854775807)), (101, (0, 60))], ne := [], kl := [(0, .sym 100 (.ofNat 0)), (1, .sym 101 (.ofNat 0))] }
def s1 : Sub := [(2, .lit (.ofNat 0)), (5, .lit (.ofNat 1)), (6, .lit (.ofNat 2)), (11, .lit (.ofNat 6)), (3, .lit (.ofNat 4)), (8, .lit (.ofNat 0)), (7, .lit (.ofNat 2)), (10, .lit (.ofNat 0)), (9, .lit (.ofNat 0))]
def r1 : List Nat := [0, 1, 2, 3, 4, 5, 6, 7, 8, 9, 10, 11, 12, 13, 14, 15, 16, 17, 18, 19, 20, 21, 22, 23, 24, 25, 26, 27, 28, 29, 30, 31, 32, 33, 34, 35, 46, 47, 48, 49, 52, 53, 63, 64, 65, 66, 67, 68, 69, 70, 71, 72, 3317, 3318]
def kv1 : List (Nat × HV) := [(13, nI 3), (14, nI 0), (15, .sl 62 0 6 6 true), (10, nI 0), (11, nI 0), (12, .ns), (6, .kv 1)]
def hd1 : List (Nat × HD) := [(48, ⟨4, 4, 28, 3⟩)]
def R2 : Rng := { rng := [(100, (0, 9223372036854775807)), (101, (61, 9223372036854775807))], ne := [], kl := [(0, .sym 100 (.ofNat 0)), (1, .sym 101 (.ofNat 0))], ks := [((1, 60), 6)] }
def kv2 : List (Nat × HV) := [(13, nI 3), (14, nI 0), (15, .sl 62 0 6 6 true), (10, nI 0), (11, nI 0), (12, .ns)]
def R3 : Rng := { rng := [(13, (0, 0)), (2, (0, 3)), (3, (1, 1000)), (5, (1, 9)), (6, (2, 14)), (7, (2, 6)), (8, (0, 4)), (9, (0, 14)), (10, (0, 14)), (11, (6, 10)), (100, (0, 9223372036854775807)), (12, (0, 255))], ne := [], lt := [(2, 100)], kl := [(0, .sym 100 (.ofNat 0)), (1, .sym 101 (.ofNat 0))], kb := [((0, .sym 2 (.ofNat 0)), .sym 12 (.ofNat 0))], rm := [((12, 5), 13)] }
def s2 : Sub := [(4, .lit (.ofNat 1))]
def r2 : List Nat := [0, 1, 2, 3, 4, 5, 6, 7, 8, 9, 10, 11, 12, 13, 14, 15, 16, 17, 18, 19, 20, 21, 22, 23, 24, 25, 26, 27, 28, 29, 30, 31, 32, 33, 34, 35, 36, 37, 38, 39, 40, 41, 42, 43, 44, 45, 46, 47, 48, 49, 50, 51, 52, 53]
def R4 : Rng := { rng := [(13, (1, 1)), (2, (0, 3)), (3, (1, 1000)), (5, (1, 9)), (6, (2, 14)), (7, (2, 6)), (8, (0, 4)), (9, (0, 14)), (10, (0, 14)), (11, (6, 10)), (100, (0, 9223372036854775807)), (12, (0, 255))], ne := [], lt := [(2, 100)], kl := [(0, .sym 100 (.ofNat 0)), (1, .sym 101 (.ofNat 0))], kb := [((0, .sym 2 (.ofNat 0)), .sym 12 (.ofNat 0))], rm := [((12, 5), 13)] }
def s3 : Sub := [(4, .lit (.ofNat 3))]
def R5 : Rng := { rng := [(13, (2, 2)), (2, (0, 3)), (3, (1, 1000)), (5, (1, 9)), (6, (2, 14)), (7, (2, 6)), (8, (0, 4)), (9, (0, 14)), (10, (0, 14)), (11, (6, 10)), (100, (0, 9223372036854775807)), (12, (0, 255))], ne := [], lt := [(2, 100)], kl := [(0, .sym 100 (.ofNat 0)), (1, .sym 101 (.ofNat 0))], kb := [((0, .sym 2 (.ofNat 0)), .sym 12 (.ofNat 0))], rm := [((12, 5), 13)] }
def s4 : Sub := [(4, .lit (.ofNat 5))]
def R6 : Rng := { rng := [(13, (3, 3)), (2, (0, 3)), (3, (1, 1000)), (5, (1, 9)), (6, (2, 14)), (7, (2, 6)), (8, (0, 4)), (9, (0, 14)), (10, (0, 14)), (11, (6, 10)), (100, (0, 9223372036854775807)), (12, (0, 255))], ne := [], lt := [(2, 100)], kl := [(0, .sym 100 (.ofNat 0)), (1, .sym 101 (.ofNat 0))], kb := [((0, .sym 2 (.ofNat 0)), .sym 12 (.ofNat 0))], rm := [((12, 5), 13)] }
def s5 : Sub := [(4, .lit (.ofNat 7))]
def R7 : Rng := { rng := [(13, (4, 4)), (2, (0, 3)), (3, (1, 1000)), (5, (1, 9)), (6, (2, 14)), (7, (2, 6)), (8, (0, 4)), (9, (0, 14)), (10, (0, 14)), (11, (6, 10)), (100, (0, 9223372036854775807)), (12, (0, 255))], ne := [], lt := [(2, 100)], kl := [(0, .sym 100 (.ofNat 0)), (1, .sym 101 (.ofNat 0))], kb := [((0, .sym 2 (.ofNat 0)), .sym 12 (.ofNat 0))], rm := [((12, 5), 13)] }
def s6 : Sub := [(4, .lit (.ofNat 9))]
def R8 : Rng := { rng := [(2, (0, 3)), (3, (1, 1000)), (5, (1, 9)), (6, (2, 14)), (7, (2, 6)), (8, (0, 4)), (9, (0, 14)), (10, (0, 14)), (11, (6, 10)), (100, (0, 9223372036854775807)), (12, (0, 255))], ne := [], nl := [(5, 2)], kl := [(0, .sym 100 (.ofNat 0)), (1, .sym 101 (.ofNat 0))] }
def s7 : Sub := [(2, .sym 2 (.ofNat 1)), (6, .sym 6 (.ofNat 3)), (3, .sym 3 (.ofNat 2)), (7, .sym 7 (.ofNat 1)), (10, .sym 6 (.ofNat 0)), (9, .sym 6 (.ofNat 0))]
def r3 : List Nat := [0, 1, 2, 3, 4, 5, 6, 7, 8, 9, 10, 11, 12, 13, 14, 15, 16, 17, 18, 19, 20, 21, 22, 23, 24, 25, 26, 27, 28, 29, 30, 31, 32, 33, 34, 35, 36, 37, 38, 39, 40, 41, 42, 43, 44, 45, 46, 1012, 1014, 1054, 1089, 1113, 52, 53]
def kv3 : List (Nat × HV) := [(13, nI 3), (14, nI 0), (15, .sl 484 0 6 6 true)]
def R9 : Rng := { rng := [(4, (1, 9)), (2, (0, 3)), (3, (1, 1000)), (5, (1, 9)), (6, (2, 14)), (7, (2, 6)), (8, (0, 4)), (9, (0, 14)), (10, (0, 14)), (11, (6, 10)), (100, (0, 9223372036854775807)), (12, (0, 255))], ne := [(4, 5)], nl := [(4, 2), (5, 2)], kl := [(0, .sym 100 (.ofNat 0)), (1, .sym 101 (.ofNat 0))] }
def s8 : Sub := [(2, .sym 2 (.ofNat 1)), (5, .sym 4 (.ofNat 0)), (6, .sym 6 (.ofNat 3)), (11, .sym 11 (.ofNat 1)), (3, .sym 3 (.ofNat 4)), (8, .sym 8 (.ofNat 1)), (7, .sym 7 (.ofNat 1)), (10, .sym 6 (.ofNat 0)), (9, .sym 6 (.ofNat 0))]
def r4 : List Nat := [0, 1, 2, 3, 4, 5, 6, 7, 8, 9, 10, 11, 12, 13, 14, 15, 16, 17, 18, 19, 20, 21, 22, 23, 24, 25, 26, 27, 28, 29, 30, 31, 32, 33, 34, 35, 36, 37, 38, 39, 40, 41, 42, 43, 44, 45, 46, 1683, 1685, 1725, 1760, 1784, 52, 53]
def kv4 : List (Nat × HV) := [(13, nI 3), (14, nI 0), (15, .sl 486 0 6 6 true), (10, nI 3), (11, nI 0), (12, .sl 1139 0 6 6 true)]
def R10 : Rng := { rng := [(2, (4, 4)), (3, (1, 1000)), (5, (1, 9)), (6, (2, 14)), (7, (2, 6)), (8, (0, 4)), (9, (0, 14)), (10, (0, 14)), (11, (6, 10)), (100, (0, 9223372036854775807)), (12, (0, 255))], ne := [], lt := [(2, 100)], kl := [(0, .sym 100 (.ofNat 0)), (1, .sym 101 (.ofNat 0))], kb := [((0, .sym 2 (.ofNat 0)), .sym 12 (.ofNat 0))], rm := [((12, 5), 13)] }
def R11 : Rng := { rng := [(3, (1, 1000)), (5, (1, 9)), (6, (2, 14)), (7, (2, 6)), (8, (0, 4)), (9, (0, 14)), (10, (0, 14)), (11, (6, 10))], ne := [], kl := [(0, .sym 100 (.ofNat 0)), (1, .sym 101 (.ofNat 0))] }
def s9 : Sub := [(60, .lit (.ofNat 0))]
def R12 : Rng := { rng := [(60, (0, 100)), (61, (0, 100)), (62, (0, 100)), (63, (0, 100)), (64, (0, 100)), (65, (0, 100)), (66, (0, 100)), (67, (0, 100)), (68, (0, 100)), (69, (0, 100)), (70, (0, 5)), (71, (0, 5)), (72, (0, 7)), (74, (0, 3)), (75, (0, 2)), (76, (0, 5)), (77, (0, 15)), (78, (0, 15)), (79, (0, 16))], ne := [], nl := [(72, 7), (76, 5)], ml := [((75, 8), 79)], kl := [(0, .sym 100 (.ofNat 0)), (1, .sym 101 (.ofNat 0))] }
def s10 : Sub := [(20, .sym 70 (.ofNat 436207616)), (21, .sym 71 (.ofNat 3232235520)), (60, .sym 68 (.ofNat 0))]
def r5 : List Nat := [0, 1, 2, 3, 4, 5, 6, 7, 8, 9, 10, 11, 12, 13, 14, 15, 16, 17, 18, 19, 20, 21, 22, 23, 24, 25, 26, 27, 28, 29, 30, 31, 32, 33, 34, 35, 36, 37, 38, 39, 40, 41, 42, 43, 44, 45, 46, 47, 48, 49, 50, 51, 52, 53, 59]
def s11 : Sub := [(20, .sym 70 (.ofNat 436207616)), (21, .sym 71 (.ofNat 3232235520)), (60, .sym 69 (.ofNat 0))]
def R13 : Rng := { rng := [(20, (167772160, 167772165)), (21, (3232235520, 3232235525)), (3, (1, 1000)), (5, (1, 9)), (7, (2, 6)), (8, (0, 4)), (9, (0, 14)), (11, (6, 10))], ne := [], nl := [(5, 2)] }
def r6 : List Nat := [0, 1, 2, 3, 4, 5, 6, 7, 8, 9, 10, 11, 12, 13, 14, 15, 16, 17, 18, 19, 20, 21, 22, 23, 24, 25, 26, 27, 28, 29, 30, 31, 32, 33, 34, 35, 96, 37, 38, 264, 40, 41, 42, 43, 44, 380, 46, 419, 421, 423, 425, 465, 52, 53, 500, 524]
def r7 : List Nat := [0, 1, 2, 3, 4, 5, 6, 7, 8, 9, 10, 11, 12, 13, 14, 15, 16, 17, 18, 19, 20, 21, 22, 23, 24, 25, 26, 27, 28, 29, 30, 31, 32, 33, 34, 35, 36, 37, 38, 39, 40, 41, 42, 43, 44, 45, 46, 47, 48, 49, 50, 51, 52, 53, 54, 55, 61]
def R14 : Rng := { rng := [(22, (167772160, 167772165)), (23, (3232235520, 3232235525)), (20, (167772160, 167772165)), (21, (3232235520, 3232235525)), (3, (1, 1000)), (5, (1, 9)), (7, (2, 6)), (8, (0, 4)), (9, (0, 14)), (11, (6, 10))], ne := [], nl := [(5, 2)] }
def r8 : List Nat := [0, 1, 2, 3, 4, 5, 6, 7, 8, 9, 10, 11, 12, 13, 14, 15, 16, 17, 18, 19, 20, 21, 22, 23, 24, 25, 26, 27, 28, 29, 30, 31, 32, 33, 34, 35, 102, 37, 38, 39, 40, 41, 272, 43, 44, 388, 46, 427, 429, 431, 433, 473, 52, 53, 508, 532]
def r9 : List Nat := [0, 1, 2, 3, 4, 5, 6, 7, 8, 9, 10, 11, 12, 13, 14, 15, 16, 17, 18, 19, 20, 21, 22, 23, 24, 25, 26, 27, 28, 29, 30, 31, 32, 33, 34, 35, 36, 37, 38, 39, 40, 41, 42, 43, 44, 45, 46, 47, 48, 49, 50, 51, 52, 9000053, 54, 55]
def R15 : Rng := { rng := [(22, (436207616, 436207621)), (23, (3232235520, 3232235525)), (20, (167772160, 167772165)), (21, (3232235520, 3232235525)), (3, (1, 1000)), (5, (1, 9)), (7, (2, 6)), (8, (0, 4)), (9, (0, 14)), (11, (6, 10))], ne := [], nl := [(5, 2)] }
def r10 : List Nat := [0, 1, 2, 3, 4, 5, 6, 7, 8, 9, 10, 11, 12, 13, 14, 15, 16, 17, 18, 19, 20, 21, 22, 23, 24, 25, 26, 27, 28, 29, 30, 31, 32, 33, 34, 35, 36, 37, 38, 39, 40, 41, 42, 43, 44, 45, 46, 127, 129, 131, 133, 173, 52, 53, 208, 232]
def R16 : Rng := { rng := [(20, (436207616, 436207621)), (21, (3232235520, 3232235525)), (3, (1, 1000)), (5, (1, 9)), (7, (2, 6)), (8, (0, 4)), (9, (0, 14)), (11, (6, 10))], ne := [], nl := [(5, 2)] }
def r11 : List Nat := [0, 1, 2, 3, 4, 5, 6, 7, 8, 9, 10, 11, 12, 13, 14, 15, 16, 17, 18, 19, 20, 21, 22, 23, 24, 25, 26, 27, 28, 29, 30, 31, 32, 33, 34, 35, 36, 37, 38, 39, 40, 41, 42, 43, 44, 45, 46, 121, 123, 163, 198, 222, 52, 53]
def R17 : Rng := { rng := [(22, (167772160, 167772165)), (23, (3232235520, 3232235525)), (20, (436207616, 436207621)), (21, (3232235520, 3232235525)), (3, (1, 1000)), (5, (1, 9)), (7, (2, 6)), (8, (0, 4)), (9, (0, 14)), (11, (6, 10))], ne := [], nl := [(5, 2)] }
def r12 : List Nat := [0, 1, 2, 3, 4, 5, 6, 7, 8, 9, 10, 11, 12, 13, 14, 15, 16, 17, 18, 19, 20, 21, 22, 23, 24, 25, 26, 27, 28, 29, 30, 31, 32, 33, 34, 35, 36, 37, 38, 96, 40, 41, 264, 43, 44, 380, 46, 419, 421, 423, 425, 465, 52, 53, 500, 524]
def R18 : Rng := { rng := [(22, (436207616, 436207621)), (23, (3232235520, 3232235525)), (20, (436207616, 436207621)), (21, (3232235520, 3232235525)), (3, (1, 1000)), (5, (1, 9)), (7, (2, 6)), (8, (0, 4)), (9, (0, 14)), (11, (6, 10))], ne := [], nl := [(5, 2)] }
def r13 : List Nat := [0, 1, 2, 3, 4, 5, 6, 7, 8, 9, 10, 11, 12, 13, 14, 15, 16, 17, 18, 19, 20, 21, 22, 23, 24, 25, 26, 27, 28, 29, 30, 31, 32, 33, 34, 35, 36, 37, 38, 39, 40, 41, 42, 43, 44, 45, 46, 47, 48, 49, 50, 51, 52, 9000053]
def ps (x y : Nat) (b : Int) (e : Nat) : Sub := [(x, .sym 70 b), (y, .sym 71 3232235520), (60, .sym e 0)]
def pl (x y : Nat) : List (NX × Sub) := [(x0, ps x y 436207616 68), (x1, ps x y 436207616 68), (x2, ps x y 436207616 68), (x3, ps x y 436207616 68), (x4, ps x y 436207616 68), (x5, ps x y 436207616 68), (x6, ps x y 436207616 69), (x7, ps x y 167772160 68), (x8, ps x y 167772160 68), (x9, ps x y 167772160 68), (x10, ps x y 167772160 68), (x11, ps x y 167772160 68), (x12, ps x y 167772160 68), (x13, ps x y 167772160 69)]
def s18 : Sub := [(4, .sym 5 0)]
def s19 : Sub := [(2, .sym 100 0)]
def s20 : Sub := [(6, .sym 9 2), (10, .sym 9 0)]
def r14 : List Nat := [0, 1, 2, 3, 4, 5, 6, 7, 8, 9, 10, 11, 12, 13, 14, 15, 16, 17, 18, 19, 20, 21, 22, 23, 24, 25, 26, 27, 28, 29, 30, 31, 32, 33, 34, 35, 36, 37, 38, 39, 40, 41, 42, 43, 44, 45, 46, 47, 48, 49, 50, 51, 52, 53, 54]
def s21 : Sub := [(6, .sym 9 3), (10, .sym 9 0)]
def ups (f : Nat → Int) : Sub := [(61, .lit (f 61)), (62, .lit (f 62)), (63, .lit (f 63)), (64, .lit (f 64)), (65, .lit (f 65)), (66, .lit (f 66)), (67, .lit (f 67)), (68, .lit (f 68)), (69, .lit (f 69)), (70, .lit (f 70)), (71, .lit (f 71)), (72, .lit (f 72)), (73, .lit (f 73)), (74, .lit (f 74)), (75, .lit (f 75)), (76, .lit (f 76)), (77, .lit (f 77)), (78, .lit (f 78)), (79, .lit (f 79))]
def r15 : List Nat := [0, 1, 2, 3, 4, 5, 6, 7, 8, 9, 10, 11, 12, 13, 14, 15, 16, 17, 18, 19, 20, 21, 22, 23, 24, 25, 26, 27, 28, 29, 30, 31, 32, 33, 34, 35, 36, 37, 38, 39, 40, 41, 42, 43, 44, 45, 46, 47, 48, 49, 50, 51, 52, 53, 54, 55]
def R19 : Rng := { rng := [(20, (167772160, 167772160)), (21, (3232235520, 3232235520))], ne := [] }
def R20 : Rng := { rng := [(20, (167772161, 167772165)), (21, (3232235520, 3232235520))], ne := [] }
def R21 : Rng := { rng := [(20, (167772160, 167772160)), (21, (3232235521, 3232235525))], ne := [] }
def R22 : Rng := { rng := [(20, (167772161, 167772165)), (21, (3232235521, 3232235525))], ne := [] }
def R23 : Rng := { rng := [(20, (436207616, 436207616)), (21, (3232235520, 3232235520))], ne := [] }
def R24 : Rng := { rng := [(20, (436207617, 436207621)), (21, (3232235520, 3232235520))], ne := [] }
def R25 : Rng := { rng := [(20, (436207616, 436207616)), (21, (3232235521, 3232235525))], ne := [] }
def R26 : Rng := { rng := [(20, (436207617, 436207621)), (21, (3232235521, 3232235525))], ne := [] }
def R27 : Rng := { rng := [(22, (167772160, 167772160)), (23, (3232235520, 3232235520))], ne := [] }
def R28 : Rng := { rng := [(22, (167772161, 167772165)), (23, (3232235520, 3232235520))], ne := [] }
def R29 : Rng := { rng := [(22, (167772160, 167772160)), (23, (3232235521, 3232235525))], ne := [] }
def R30 : Rng := { rng := [(22, (167772161, 167772165)), (23, (3232235521, 3232235525))], ne := [] }
def R31 : Rng := { rng := [(22, (436207616, 436207616)), (23, (3232235520, 3232235520))], ne := [] }
def R32 : Rng := { rng := [(22, (436207617, 436207621)), (23, (3232235520, 3232235520))], ne := [] }
def R33 : Rng := { rng := [(22, (436207616, 436207616)), (23, (3232235521, 3232235525))], ne := [] }
def R34 : Rng := { rng := [(22, (436207617, 436207621)), (23, (3232235521, 3232235525))], ne := [] }
end
end Go.Proofs.YtehbbcdhahnkgaaGreat.Hm
