/- The ghost machine: an evaluator of the program's text over plain data, and its soundness. -/
import Derived.Test.YtgbkkfpheahdfaaHndIpfragLimitsA
import Derived.OwnWalk
set_option linter.unusedVariables false
set_option linter.unusedSimpArgs false
namespace Go.Proofs.Ytgbkkfpheahdfaa
open Go
open Go.RowKit
set_option maxRecDepth 100000
def add_c0 : Code := (.region 0 #[⟨some 4, .box 98 (.tmp 1), 0, "ipfrag.go:96", #[], none⟩, ⟨some 6, .assign (.const (.slice none 0 0)), 94, "ipfrag.go:96", #[], none⟩, ⟨some 7, .assign (.const (.slice none 0 0)), 22, "ipfrag.go:96", #[⟨1, .chain⟩], none⟩, ⟨some 8, .assign (.const (.int .i64 0)), 37, "ipfrag.go:96", #[⟨2, .chain⟩], none⟩] false)
def add_c1 : Code := (.region 1 #[⟨some 17, .move (.tmp 0), 94, "ipfrag.go:97", #[], none⟩, ⟨some 18, .call ⟨.value (.func 123), #[(.tmp 17)], #[94]⟩, 94, "ipfrag.go:97", #[⟨0, .data⟩], none⟩, ⟨some 9, .assign (.tmp 18), 94, "ipfrag.go:97", #[⟨1, .data⟩, ⟨1, .chain⟩, ⟨0, .phase⟩, ⟨1, .phase⟩], none⟩] false)
def add_c2 : Code := (.region 2 #[⟨some 19, .load 98 (.tmp 4), 98, "ipfrag.go:98", #[], none⟩, ⟨some 20, .call ⟨.value (.func 124), #[(.tmp 19)], #[98]⟩, 4, "ipfrag.go:98", #[⟨0, .data⟩], none⟩, ⟨some 21, .unOp .not 4 (.tmp 20), 4, "ipfrag.go:98", #[⟨1, .data⟩], none⟩] false)
def add_c3 : Code := (.cond (.tmp 21) (.seq (.region 3 #[⟨some 22, .move (.tmp 9), 94, "ipfrag.go:99", #[], none⟩, ⟨some 6, .assign (.tmp 22), 94, "ipfrag.go:99", #[⟨0, .data⟩, ⟨0, .phase⟩], none⟩, ⟨some 7, .assign (.const (.slice none 0 0)), 22, "ipfrag.go:99", #[⟨1, .chain⟩, ⟨0, .phase⟩, ⟨1, .phase⟩], none⟩, ⟨some 8, .assign (.const (.int .i64 5)), 37, "ipfrag.go:99", #[⟨2, .chain⟩, ⟨0, .phase⟩, ⟨1, .phase⟩, ⟨2, .phase⟩], none⟩] false) .ret) .skip)
def add_c4 : Code := (.region 4 #[⟨some 23, .fieldAddr 98 (.tmp 4) 5, 0, "ipfrag.go:101", #[], none⟩, ⟨some 24, .load 22 (.tmp 23), 22, "ipfrag.go:101", #[⟨0, .data⟩], none⟩, ⟨some 25, .call ⟨.value (.func 74), #[(.tmp 24)], #[22]⟩, 22, "ipfrag.go:101", #[⟨1, .data⟩], none⟩, ⟨some 26, .fieldAddr 98 (.tmp 4) 5, 0, "ipfrag.go:101", #[⟨0, .phase⟩, ⟨1, .phase⟩, ⟨2, .phase⟩], none⟩, ⟨none, .store 22 (.tmp 26) (.tmp 25), 0, "ipfrag.go:101", #[⟨3, .data⟩, ⟨2, .data⟩, ⟨2, .chain⟩, ⟨0, .phase⟩, ⟨1, .phase⟩, ⟨2, .phase⟩], none⟩] false)
def add_c5 : Code := (.region 5 #[⟨some 27, .move (.tmp 9), 94, "ipfrag.go:102", #[], none⟩, ⟨some 28, .makeFunc (.func 126) #[] #[(.tmp 4)], 169, "ipfrag.go:102", #[], none⟩, ⟨some 29, .call ⟨.value (.func 125), #[(.tmp 27), (.tmp 28)], #[94, 169]⟩, 3, "ipfrag.go:102", #[⟨0, .data⟩, ⟨1, .data⟩], none⟩, ⟨some 10, .assign (.tmp 29), 3, "ipfrag.go:102", #[⟨2, .data⟩, ⟨2, .chain⟩, ⟨0, .phase⟩, ⟨1, .phase⟩, ⟨2, .phase⟩], none⟩] false)
def add_c6 : Code := (.region 6 #[⟨some 30, .move (.tmp 10), 3, "ipfrag.go:103", #[], none⟩, ⟨some 31, .binOp .lss 3 (.tmp 30) (.const (.int .i64 0)) 3, 4, "ipfrag.go:103", #[⟨0, .data⟩], none⟩] false)
def add_c7 : Code := (.cond (.tmp 31) (.seq (.seq (.region 7 #[⟨some 32, .move (.tmp 9), 94, "ipfrag.go:104", #[], none⟩, ⟨some 33, .call ⟨.builtin .len, #[(.tmp 32)], #[94]⟩, 3, "ipfrag.go:104", #[⟨0, .data⟩], none⟩, ⟨some 34, .binOp .geq 3 (.tmp 33) (.const (.int .i64 6)) 3, 4, "ipfrag.go:104", #[⟨1, .data⟩], none⟩] false) (.cond (.tmp 34) (.seq (.region 8 #[⟨some 35, .move (.tmp 9), 94, "ipfrag.go:105", #[], none⟩, ⟨some 6, .assign (.tmp 35), 94, "ipfrag.go:105", #[⟨0, .data⟩, ⟨0, .phase⟩], none⟩, ⟨some 7, .assign (.const (.slice none 0 0)), 22, "ipfrag.go:105", #[⟨1, .chain⟩, ⟨0, .phase⟩, ⟨1, .phase⟩], none⟩, ⟨some 8, .assign (.const (.int .i64 25)), 37, "ipfrag.go:105", #[⟨2, .chain⟩, ⟨0, .phase⟩, ⟨1, .phase⟩, ⟨2, .phase⟩], none⟩] false) .ret) .skip)) (.seq (.region 9 #[⟨some 36, .move (.tmp 9), 94, "ipfrag.go:107", #[], none⟩, ⟨some 37, .call ⟨.builtin .len, #[(.tmp 36)], #[94]⟩, 3, "ipfrag.go:107", #[⟨0, .data⟩], none⟩, ⟨some 10, .assign (.tmp 37), 3, "ipfrag.go:107", #[⟨1, .data⟩, ⟨0, .phase⟩, ⟨1, .phase⟩], none⟩] false) (.region 10 #[⟨some 38, .move (.tmp 9), 94, "ipfrag.go:108", #[], none⟩, ⟨some 39, .fieldAddr 98 (.tmp 4) 0, 0, "ipfrag.go:108", #[], none⟩, ⟨some 40, .load 28 (.tmp 39), 28, "ipfrag.go:108", #[⟨1, .data⟩], none⟩, ⟨some 41, .fieldAddr 98 (.tmp 4) 1, 0, "ipfrag.go:108", #[], none⟩, ⟨some 42, .load 28 (.tmp 41), 28, "ipfrag.go:108", #[⟨3, .data⟩], none⟩, ⟨some 43, .fieldAddr 98 (.tmp 4) 2, 0, "ipfrag.go:108", #[], none⟩, ⟨some 44, .load 3 (.tmp 43), 3, "ipfrag.go:108", #[⟨5, .data⟩], none⟩, ⟨some 45, .move (.tmp 2), 3, "ipfrag.go:108", #[], none⟩, ⟨some 46, .build 100 #[(0, (.tmp 40)), (1, (.tmp 42)), (2, (.tmp 44)), (4, (.tmp 45))], 100, "ipfrag.go:108", #[⟨2, .data⟩, ⟨4, .data⟩, ⟨6, .data⟩, ⟨7, .data⟩], none⟩, ⟨some 47, .buildSlice 94 1 #[(0, (.tmp 46))], 94, "ipfrag.go:108", #[⟨8, .data⟩], none⟩, ⟨some 48, .call ⟨.builtin .append, #[(.tmp 38), (.tmp 47)], #[94, 94]⟩, 94, "ipfrag.go:108", #[⟨0, .data⟩, ⟨9, .data⟩], none⟩, ⟨some 9, .assign (.tmp 48), 94, "ipfrag.go:108", #[⟨10, .data⟩, ⟨10, .chain⟩, ⟨0, .phase⟩, ⟨1, .phase⟩, ⟨2, .phase⟩, ⟨3, .phase⟩, ⟨4, .phase⟩, ⟨5, .phase⟩, ⟨6, .phase⟩, ⟨7, .phase⟩, ⟨8, .phase⟩, ⟨9, .phase⟩, ⟨10, .phase⟩], none⟩] false))) .skip)
def add_c8 : Code := (.region 11 #[⟨some 49, .move (.tmp 9), 94, "ipfrag.go:110", #[], none⟩, ⟨some 50, .move (.tmp 10), 3, "ipfrag.go:110", #[], none⟩, ⟨some 51, .indexAddr 94 (.tmp 49) (.tmp 50), 0, "ipfrag.go:110", #[⟨0, .data⟩, ⟨1, .data⟩], none⟩, ⟨some 11, .alloc 170, 0, "ipfrag.go:110", #[], none⟩, ⟨none, .store 170 (.tmp 11) (.tmp 51), 0, "ipfrag.go:110", #[⟨3, .data⟩, ⟨2, .data⟩, ⟨0, .phase⟩, ⟨1, .phase⟩, ⟨2, .phase⟩, ⟨3, .phase⟩], none⟩] false)
def add_c9 : Code := (.region 12 #[⟨some 52, .makeFunc (.func 127) #[] #[(.tmp 11), (.tmp 4)], 172, "ipfrag.go:111", #[], none⟩, ⟨some 12, .assign (.tmp 52), 172, "ipfrag.go:111", #[⟨0, .data⟩, ⟨0, .phase⟩], none⟩] false)
def add_c10 : Code := (.block 0 (.seq (.region 13 #[⟨some 54, .move (.tmp 12), 172, "ipfrag.go:115", #[], none⟩, ⟨some 55, .call ⟨.value (.tmp 54), #[(.func 130)], #[111]⟩, 4, "ipfrag.go:115", #[⟨0, .data⟩], none⟩, ⟨some 53, .assign (.tmp 55), 4, "ipfrag.go:115", #[⟨1, .data⟩, ⟨1, .chain⟩], none⟩] false) (.cond (.tmp 53) (.seq (.region 14 #[⟨some 56, .move (.tmp 9), 94, "ipfrag.go:116", #[], none⟩, ⟨some 6, .assign (.tmp 56), 94, "ipfrag.go:116", #[⟨0, .data⟩, ⟨0, .phase⟩], none⟩, ⟨some 7, .assign (.const (.slice none 0 0)), 22, "ipfrag.go:116", #[⟨1, .chain⟩, ⟨0, .phase⟩, ⟨1, .phase⟩], none⟩, ⟨some 8, .assign (.const (.int .i64 0)), 37, "ipfrag.go:116", #[⟨2, .chain⟩, ⟨0, .phase⟩, ⟨1, .phase⟩, ⟨2, .phase⟩], none⟩] false) .ret) (.seq (.region 15 #[⟨some 58, .move (.tmp 12), 172, "ipfrag.go:117", #[], none⟩, ⟨some 59, .call ⟨.value (.tmp 58), #[(.func 131)], #[111]⟩, 4, "ipfrag.go:117", #[⟨0, .data⟩], none⟩, ⟨some 57, .assign (.tmp 59), 4, "ipfrag.go:117", #[⟨1, .data⟩, ⟨1, .chain⟩], none⟩] false) (.cond (.tmp 57) (.seq (.region 16 #[⟨some 60, .move (.tmp 9), 94, "ipfrag.go:118", #[], none⟩, ⟨some 61, .move (.tmp 10), 3, "ipfrag.go:118", #[], none⟩, ⟨some 62, .move (.tmp 10), 3, "ipfrag.go:118", #[], none⟩, ⟨some 63, .binOp .add 3 (.tmp 62) (.const (.int .i64 1)) 3, 3, "ipfrag.go:118", #[⟨2, .data⟩], none⟩, ⟨some 64, .call ⟨.value (.func 132), #[(.tmp 60), (.tmp 61), (.tmp 63)], #[94, 3, 3]⟩, 94, "ipfrag.go:118", #[⟨0, .data⟩, ⟨1, .data⟩, ⟨3, .data⟩], none⟩, ⟨some 6, .assign (.tmp 64), 94, "ipfrag.go:118", #[⟨4, .data⟩, ⟨4, .chain⟩, ⟨0, .phase⟩, ⟨1, .phase⟩, ⟨2, .phase⟩, ⟨3, .phase⟩, ⟨4, .phase⟩], none⟩, ⟨some 7, .assign (.const (.slice none 0 0)), 22, "ipfrag.go:118", #[⟨5, .chain⟩, ⟨0, .phase⟩, ⟨1, .phase⟩, ⟨2, .phase⟩, ⟨3, .phase⟩, ⟨4, .phase⟩, ⟨5, .phase⟩], none⟩, ⟨some 8, .assign (.const (.int .i64 9)), 37, "ipfrag.go:118", #[⟨6, .chain⟩, ⟨0, .phase⟩, ⟨1, .phase⟩, ⟨2, .phase⟩, ⟨3, .phase⟩, ⟨4, .phase⟩, ⟨5, .phase⟩, ⟨6, .phase⟩], none⟩] false) .ret) (.seq (.region 17 #[⟨some 66, .move (.tmp 12), 172, "ipfrag.go:119", #[], none⟩, ⟨some 67, .call ⟨.value (.tmp 66), #[(.func 133)], #[111]⟩, 4, "ipfrag.go:119", #[⟨0, .data⟩], none⟩, ⟨some 65, .assign (.tmp 67), 4, "ipfrag.go:119", #[⟨1, .data⟩, ⟨1, .chain⟩], none⟩] false) (.cond (.tmp 65) (.seq (.region 18 #[⟨some 68, .move (.tmp 9), 94, "ipfrag.go:120", #[], none⟩, ⟨some 69, .move (.tmp 10), 3, "ipfrag.go:120", #[], none⟩, ⟨some 70, .move (.tmp 10), 3, "ipfrag.go:120", #[], none⟩, ⟨some 71, .binOp .add 3 (.tmp 70) (.const (.int .i64 1)) 3, 3, "ipfrag.go:120", #[⟨2, .data⟩], none⟩, ⟨some 72, .call ⟨.value (.func 132), #[(.tmp 68), (.tmp 69), (.tmp 71)], #[94, 3, 3]⟩, 94, "ipfrag.go:120", #[⟨0, .data⟩, ⟨1, .data⟩, ⟨3, .data⟩], none⟩, ⟨some 6, .assign (.tmp 72), 94, "ipfrag.go:120", #[⟨4, .data⟩, ⟨4, .chain⟩, ⟨0, .phase⟩, ⟨1, .phase⟩, ⟨2, .phase⟩, ⟨3, .phase⟩, ⟨4, .phase⟩], none⟩, ⟨some 7, .assign (.const (.slice none 0 0)), 22, "ipfrag.go:120", #[⟨5, .chain⟩, ⟨0, .phase⟩, ⟨1, .phase⟩, ⟨2, .phase⟩, ⟨3, .phase⟩, ⟨4, .phase⟩, ⟨5, .phase⟩], none⟩, ⟨some 8, .assign (.const (.int .i64 2)), 37, "ipfrag.go:120", #[⟨6, .chain⟩, ⟨0, .phase⟩, ⟨1, .phase⟩, ⟨2, .phase⟩, ⟨3, .phase⟩, ⟨4, .phase⟩, ⟨5, .phase⟩, ⟨6, .phase⟩], none⟩] false) .ret) (.seq (.region 19 #[⟨some 74, .load 170 (.tmp 11), 170, "ipfrag.go:121", #[], none⟩, ⟨some 75, .nilCheck (.tmp 74), 0, "ipfrag.go:121", #[⟨0, .data⟩], none⟩, ⟨some 76, .fieldAddr 100 (.tmp 75) 3, 0, "ipfrag.go:121", #[⟨1, .data⟩], none⟩, ⟨some 77, .load 36 (.tmp 76), 36, "ipfrag.go:121", #[⟨2, .data⟩], none⟩, ⟨some 78, .call ⟨.builtin .len, #[(.tmp 77)], #[36]⟩, 3, "ipfrag.go:121", #[⟨3, .data⟩], none⟩, ⟨some 79, .binOp .geq 3 (.tmp 78) (.const (.int .i64 16)) 3, 4, "ipfrag.go:121", #[⟨4, .data⟩], none⟩, ⟨some 73, .assign (.tmp 79), 4, "ipfrag.go:121", #[⟨5, .data⟩], none⟩] false) (.cond (.tmp 73) (.seq (.region 20 #[⟨some 80, .move (.tmp 9), 94, "ipfrag.go:122", #[], none⟩, ⟨some 81, .move (.tmp 10), 3, "ipfrag.go:122", #[], none⟩, ⟨some 82, .move (.tmp 10), 3, "ipfrag.go:122", #[], none⟩, ⟨some 83, .binOp .add 3 (.tmp 82) (.const (.int .i64 1)) 3, 3, "ipfrag.go:122", #[⟨2, .data⟩], none⟩, ⟨some 84, .call ⟨.value (.func 132), #[(.tmp 80), (.tmp 81), (.tmp 83)], #[94, 3, 3]⟩, 94, "ipfrag.go:122", #[⟨0, .data⟩, ⟨1, .data⟩, ⟨3, .data⟩], none⟩, ⟨some 6, .assign (.tmp 84), 94, "ipfrag.go:122", #[⟨4, .data⟩, ⟨4, .chain⟩, ⟨0, .phase⟩, ⟨1, .phase⟩, ⟨2, .phase⟩, ⟨3, .phase⟩, ⟨4, .phase⟩], none⟩, ⟨some 7, .assign (.const (.slice none 0 0)), 22, "ipfrag.go:122", #[⟨5, .chain⟩, ⟨0, .phase⟩, ⟨1, .phase⟩, ⟨2, .phase⟩, ⟨3, .phase⟩, ⟨4, .phase⟩, ⟨5, .phase⟩], none⟩, ⟨some 8, .assign (.const (.int .i64 10)), 37, "ipfrag.go:122", #[⟨6, .chain⟩, ⟨0, .phase⟩, ⟨1, .phase⟩, ⟨2, .phase⟩, ⟨3, .phase⟩, ⟨4, .phase⟩, ⟨5, .phase⟩, ⟨6, .phase⟩], none⟩] false) .ret) .skip)))))))))
def add_c11 : Code := (.region 21 #[⟨some 86, .load 170 (.tmp 11), 170, "ipfrag.go:124", #[], none⟩, ⟨some 87, .nilCheck (.tmp 86), 0, "ipfrag.go:124", #[⟨0, .data⟩], none⟩, ⟨some 88, .fieldAddr 100 (.tmp 87) 3, 0, "ipfrag.go:124", #[⟨1, .data⟩], none⟩, ⟨some 89, .load 36 (.tmp 88), 36, "ipfrag.go:124", #[⟨2, .data⟩], none⟩, ⟨some 90, .fieldAddr 98 (.tmp 4) 3, 0, "ipfrag.go:124", #[], none⟩, ⟨some 91, .load 3 (.tmp 90), 3, "ipfrag.go:124", #[⟨4, .data⟩], none⟩, ⟨some 92, .binOp .add 3 (.tmp 91) (.const (.int .i64 1)) 3, 3, "ipfrag.go:124", #[⟨5, .data⟩], none⟩, ⟨some 93, .call ⟨.value (.func 134), #[(.tmp 89), (.tmp 92), (.func 135)], #[36, 3, 175]⟩, 61, "ipfrag.go:124", #[⟨3, .data⟩, ⟨6, .data⟩], none⟩, ⟨some 85, .move (.tmp 93), 61, "ipfrag.go:124", #[⟨7, .data⟩], none⟩, ⟨some 94, .extract (.tmp 85) 0, 3, "ipfrag.go:124", #[⟨8, .data⟩], none⟩, ⟨some 95, .extract (.tmp 85) 1, 4, "ipfrag.go:124", #[⟨8, .data⟩, ⟨11, .gcOnly .lateStores⟩], none⟩, ⟨some 13, .assign (.tmp 94), 3, "ipfrag.go:124", #[⟨9, .data⟩, ⟨7, .chain⟩, ⟨0, .phase⟩, ⟨1, .phase⟩, ⟨2, .phase⟩, ⟨3, .phase⟩, ⟨4, .phase⟩, ⟨5, .phase⟩, ⟨6, .phase⟩, ⟨7, .phase⟩, ⟨8, .phase⟩, ⟨9, .phase⟩, ⟨10, .textOnly .lateStores⟩], none⟩, ⟨some 14, .assign (.tmp 95), 4, "ipfrag.go:124", #[⟨10, .data⟩, ⟨11, .chain⟩, ⟨0, .phase⟩, ⟨1, .phase⟩, ⟨2, .phase⟩, ⟨3, .phase⟩, ⟨4, .phase⟩, ⟨5, .phase⟩, ⟨6, .phase⟩, ⟨7, .phase⟩, ⟨8, .phase⟩, ⟨9, .phase⟩, ⟨10, .phase⟩, ⟨11, .phase⟩], none⟩] true)
def add_c12 : Code := (.region 22 #[⟨some 96, .load 170 (.tmp 11), 170, "ipfrag.go:125", #[], none⟩, ⟨some 97, .load 170 (.tmp 11), 170, "ipfrag.go:125", #[], none⟩, ⟨some 98, .nilCheck (.tmp 97), 0, "ipfrag.go:125", #[⟨1, .data⟩], none⟩, ⟨some 99, .fieldAddr 100 (.tmp 98) 3, 0, "ipfrag.go:125", #[⟨2, .data⟩], none⟩, ⟨some 100, .load 36 (.tmp 99), 36, "ipfrag.go:125", #[⟨3, .data⟩], none⟩, ⟨some 101, .move (.tmp 13), 3, "ipfrag.go:125", #[], none⟩, ⟨some 102, .load 98 (.tmp 4), 98, "ipfrag.go:125", #[], none⟩, ⟨some 103, .buildSlice 36 1 #[(0, (.tmp 102))], 36, "ipfrag.go:125", #[⟨6, .data⟩], none⟩, ⟨some 104, .call ⟨.value (.func 136), #[(.tmp 100), (.tmp 101), (.tmp 103)], #[36, 3, 36]⟩, 36, "ipfrag.go:125", #[⟨4, .data⟩, ⟨5, .data⟩, ⟨7, .data⟩], none⟩, ⟨some 105, .nilCheck (.tmp 96), 0, "ipfrag.go:125", #[⟨0, .data⟩, ⟨0, .phase⟩, ⟨1, .phase⟩, ⟨2, .phase⟩, ⟨3, .phase⟩, ⟨4, .phase⟩, ⟨5, .phase⟩, ⟨6, .phase⟩, ⟨7, .phase⟩, ⟨8, .phase⟩], none⟩, ⟨some 106, .fieldAddr 100 (.tmp 105) 3, 0, "ipfrag.go:125", #[⟨9, .data⟩, ⟨0, .phase⟩, ⟨1, .phase⟩, ⟨2, .phase⟩, ⟨3, .phase⟩, ⟨4, .phase⟩, ⟨5, .phase⟩, ⟨6, .phase⟩, ⟨7, .phase⟩, ⟨8, .phase⟩], none⟩, ⟨none, .store 36 (.tmp 106) (.tmp 104), 0, "ipfrag.go:125", #[⟨10, .data⟩, ⟨8, .data⟩, ⟨8, .chain⟩, ⟨0, .phase⟩, ⟨1, .phase⟩, ⟨2, .phase⟩, ⟨3, .phase⟩, ⟨4, .phase⟩, ⟨5, .phase⟩, ⟨6, .phase⟩, ⟨7, .phase⟩, ⟨8, .phase⟩], none⟩] true)
def add_c13 : Code := (.region 23 #[⟨some 108, .load 170 (.tmp 11), 170, "ipfrag.go:126", #[], none⟩, ⟨some 109, .nilCheck (.tmp 108), 0, "ipfrag.go:126", #[⟨0, .data⟩], none⟩, ⟨some 110, .fieldAddr 100 (.tmp 109) 3, 0, "ipfrag.go:126", #[⟨1, .data⟩], none⟩, ⟨some 111, .load 36 (.tmp 110), 36, "ipfrag.go:126", #[⟨2, .data⟩], none⟩, ⟨some 112, .call ⟨.value (.func 137), #[(.tmp 111)], #[36]⟩, 177, "ipfrag.go:126", #[⟨3, .data⟩], none⟩, ⟨some 107, .move (.tmp 112), 177, "ipfrag.go:126", #[⟨4, .data⟩], none⟩, ⟨some 113, .extract (.tmp 107) 0, 22, "ipfrag.go:126", #[⟨5, .data⟩], none⟩, ⟨some 114, .extract (.tmp 107) 1, 4, "ipfrag.go:126", #[⟨5, .data⟩, ⟨8, .gcOnly .lateStores⟩], none⟩, ⟨some 15, .assign (.tmp 113), 22, "ipfrag.go:126", #[⟨6, .data⟩, ⟨4, .chain⟩, ⟨0, .phase⟩, ⟨1, .phase⟩, ⟨2, .phase⟩, ⟨3, .phase⟩, ⟨4, .phase⟩, ⟨5, .phase⟩, ⟨6, .phase⟩, ⟨7, .textOnly .lateStores⟩], none⟩, ⟨some 16, .assign (.tmp 114), 4, "ipfrag.go:126", #[⟨7, .data⟩, ⟨8, .chain⟩, ⟨0, .phase⟩, ⟨1, .phase⟩, ⟨2, .phase⟩, ⟨3, .phase⟩, ⟨4, .phase⟩, ⟨5, .phase⟩, ⟨6, .phase⟩, ⟨7, .phase⟩, ⟨8, .phase⟩], none⟩] false)
def add_c14 : Code := (.region 24 #[⟨some 115, .move (.tmp 16), 4, "ipfrag.go:127", #[], none⟩, ⟨some 116, .unOp .not 4 (.tmp 115), 4, "ipfrag.go:127", #[⟨0, .data⟩], none⟩] false)
def add_c15 : Code := (.cond (.tmp 116) (.seq (.region 25 #[⟨some 117, .move (.tmp 9), 94, "ipfrag.go:128", #[], none⟩, ⟨some 6, .assign (.tmp 117), 94, "ipfrag.go:128", #[⟨0, .data⟩, ⟨0, .phase⟩], none⟩, ⟨some 7, .assign (.const (.slice none 0 0)), 22, "ipfrag.go:128", #[⟨1, .chain⟩, ⟨0, .phase⟩, ⟨1, .phase⟩], none⟩, ⟨some 8, .assign (.const (.int .i64 0)), 37, "ipfrag.go:128", #[⟨2, .chain⟩, ⟨0, .phase⟩, ⟨1, .phase⟩, ⟨2, .phase⟩], none⟩] false) .ret) .skip)
def add_c16 : Code := (.region 26 #[⟨some 118, .move (.tmp 9), 94, "ipfrag.go:130", #[], none⟩, ⟨some 119, .move (.tmp 10), 3, "ipfrag.go:130", #[], none⟩, ⟨some 120, .move (.tmp 10), 3, "ipfrag.go:130", #[], none⟩, ⟨some 121, .binOp .add 3 (.tmp 120) (.const (.int .i64 1)) 3, 3, "ipfrag.go:130", #[⟨2, .data⟩], none⟩, ⟨some 122, .call ⟨.value (.func 132), #[(.tmp 118), (.tmp 119), (.tmp 121)], #[94, 3, 3]⟩, 94, "ipfrag.go:130", #[⟨0, .data⟩, ⟨1, .data⟩, ⟨3, .data⟩], none⟩, ⟨some 123, .move (.tmp 15), 22, "ipfrag.go:130", #[⟨6, .gcOnly .lateStores⟩], none⟩, ⟨some 6, .assign (.tmp 122), 94, "ipfrag.go:130", #[⟨4, .data⟩, ⟨4, .chain⟩, ⟨0, .phase⟩, ⟨1, .phase⟩, ⟨2, .phase⟩, ⟨3, .phase⟩, ⟨4, .phase⟩, ⟨5, .textOnly .lateStores⟩], none⟩, ⟨some 7, .assign (.tmp 123), 22, "ipfrag.go:130", #[⟨5, .data⟩, ⟨6, .chain⟩, ⟨0, .phase⟩, ⟨1, .phase⟩, ⟨2, .phase⟩, ⟨3, .phase⟩, ⟨4, .phase⟩, ⟨5, .phase⟩, ⟨6, .phase⟩], none⟩, ⟨some 8, .assign (.const (.int .i64 0)), 37, "ipfrag.go:130", #[⟨7, .chain⟩, ⟨0, .phase⟩, ⟨1, .phase⟩, ⟨2, .phase⟩, ⟨3, .phase⟩, ⟨4, .phase⟩, ⟨5, .phase⟩, ⟨6, .phase⟩, ⟨7, .phase⟩], none⟩] false)
def add_c17 : Code := .ret
noncomputable def add_L : List Code := (bodyOf (some Try.f66))
theorem add_flat : add_L = [add_c0, add_c1, add_c2, add_c3, add_c4, add_c5, add_c6, add_c7, add_c8, add_c9, add_c10, add_c11, add_c12, add_c13, add_c14, add_c15, add_c16, add_c17] := by kernel_rfl
theorem lit124 (x : Nat → Value) : Array.ofFn (n := 124) (fun i => x i.val) = (x 0 :: x 1 :: x 2 :: x 3 :: x 4 :: x 5 :: x 6 :: x 7 :: x 8 :: x 9 :: x 10 :: x 11 :: x 12 :: x 13 :: x 14 :: x 15 :: x 16 :: x 17 :: x 18 :: x 19 :: x 20 :: x 21 :: x 22 :: x 23 :: x 24 :: x 25 :: x 26 :: x 27 :: x 28 :: x 29 :: x 30 :: x 31 :: x 32 :: x 33 :: x 34 :: x 35 :: x 36 :: x 37 :: x 38 :: x 39 :: x 40 :: x 41 :: x 42 :: x 43 :: x 44 :: x 45 :: x 46 :: x 47 :: x 48 :: x 49 :: x 50 :: x 51 :: x 52 :: x 53 :: x 54 :: x 55 :: x 56 :: x 57 :: x 58 :: x 59 :: x 60 :: x 61 :: x 62 :: x 63 :: x 64 :: x 65 :: x 66 :: x 67 :: x 68 :: x 69 :: x 70 :: x 71 :: x 72 :: x 73 :: x 74 :: x 75 :: x 76 :: x 77 :: x 78 :: x 79 :: x 80 :: x 81 :: x 82 :: x 83 :: x 84 :: x 85 :: x 86 :: x 87 :: x 88 :: x 89 :: x 90 :: x 91 :: x 92 :: x 93 :: x 94 :: x 95 :: x 96 :: x 97 :: x 98 :: x 99 :: x 100 :: x 101 :: x 102 :: x 103 :: x 104 :: x 105 :: x 106 :: x 107 :: x 108 :: x 109 :: x 110 :: x 111 :: x 112 :: x 113 :: x 114 :: x 115 :: x 116 :: x 117 :: x 118 :: x 119 :: x 120 :: x 121 :: x 122 :: x 123 :: []).toArray := by kernel_rfl
theorem act124 {a : Act} (hd : a.defers = []) (hs : a.tmps.size = 124) : ∃ x : Nat → Value, a = ⟨(x 0 :: x 1 :: x 2 :: x 3 :: x 4 :: x 5 :: x 6 :: x 7 :: x 8 :: x 9 :: x 10 :: x 11 :: x 12 :: x 13 :: x 14 :: x 15 :: x 16 :: x 17 :: x 18 :: x 19 :: x 20 :: x 21 :: x 22 :: x 23 :: x 24 :: x 25 :: x 26 :: x 27 :: x 28 :: x 29 :: x 30 :: x 31 :: x 32 :: x 33 :: x 34 :: x 35 :: x 36 :: x 37 :: x 38 :: x 39 :: x 40 :: x 41 :: x 42 :: x 43 :: x 44 :: x 45 :: x 46 :: x 47 :: x 48 :: x 49 :: x 50 :: x 51 :: x 52 :: x 53 :: x 54 :: x 55 :: x 56 :: x 57 :: x 58 :: x 59 :: x 60 :: x 61 :: x 62 :: x 63 :: x 64 :: x 65 :: x 66 :: x 67 :: x 68 :: x 69 :: x 70 :: x 71 :: x 72 :: x 73 :: x 74 :: x 75 :: x 76 :: x 77 :: x 78 :: x 79 :: x 80 :: x 81 :: x 82 :: x 83 :: x 84 :: x 85 :: x 86 :: x 87 :: x 88 :: x 89 :: x 90 :: x 91 :: x 92 :: x 93 :: x 94 :: x 95 :: x 96 :: x 97 :: x 98 :: x 99 :: x 100 :: x 101 :: x 102 :: x 103 :: x 104 :: x 105 :: x 106 :: x 107 :: x 108 :: x 109 :: x 110 :: x 111 :: x 112 :: x 113 :: x 114 :: x 115 :: x 116 :: x 117 :: x 118 :: x 119 :: x 120 :: x 121 :: x 122 :: x 123 :: []).toArray, []⟩ ∧ ∀ k, x k = a.tmps.getD k undef := by
  obtain ⟨t, d⟩ := a
  subst hd
  obtain ⟨x, hx⟩ : ∃ x : Nat → Value, x = fun k => t.getD k undef := ⟨_, rfl⟩
  refine ⟨x, ?_, fun k => by rw [hx]⟩
  have hs' : t.size = 124 := hs
  have e : t = Array.ofFn (n := 124) fun i => x i.val := by
    rw [hx]
    refine Array.ext (by simp [hs']) fun i h1 h2 => ?_
    simp [h1]
  exact congrArg (fun t => (⟨t, []⟩ : Act)) (e.trans (lit124 x))
end Go.Proofs.Ytgbkkfpheahdfaa

namespace Go.Proofs.Ytgbkkfpheahdfaa
open Go
open Go.RowKit
set_option maxRecDepth 100000
abbrev AddR : Type := ((List D99) × ((List UInt8) × (Int × Unit))) × Unit
noncomputable def anyO (f : D97 → Option Bool) : List D97 → Option Bool
  | [] => some false
  | q :: l => (f q).bind fun b => (anyO f l).map fun c => b || c
theorem anyO_some {f : D97 → Option Bool} : ∀ {l : List D97} {b : Bool}, anyO f l = some b → ∃ r : Nat → Bool, (∀ (k : Nat) (q : D97), l[k]? = some q → f q = some (r k)) ∧ (List.range l.length).any r = b
  | [], b, h => ⟨fun _ => false, fun k q e => by simp at e, by cases h; rfl⟩
  | q :: l, b, h => by
    obtain ⟨b0, h0, h1⟩ := Option.bind_eq_some_iff.1 h
    obtain ⟨c, h2, h3⟩ := Option.map_eq_some_iff.1 h1
    obtain ⟨r, r1, r2⟩ := anyO_some h2
    refine ⟨fun k => match k with
      | 0 => b0
      | k + 1 => r k, fun k q' e => ?_, ?_⟩
    · cases k with
      | zero => simp at e; subst e; exact h0
      | succ k => exact r1 k q' (by simpa using e)
    · rw [List.length_cons, List.range_succ_eq_map, List.any_cons, List.any_map, ← h3, ← r2]
      rfl
def setPs (ps : List D97) (x : D99) : D99 := (x.1, x.2.1, x.2.2.1, ps, x.2.2.2.2)
noncomputable def addEnd (N : Nat) (l : List D99) (i : Nat) (ps : List D97) : Option AddR :=
  (ipfrag_complete N ps).bind fun c => bif c.1.1 then some ((l.eraseIdx i, c.2.1, 0, ()), ()) else some ((l.modify i (setPs ps), [], 0, ()), ())
noncomputable def addPut (N : Nat) (l : List D99) (i : Nat) (p : D97) : Option AddR :=
  (slices_BinarySearchFunc___api_Piece_api_Piece_int__ipfrag_Add_f3 N (psAt l i) (w64 (p.2.2.2.1 + 1))).bind fun s =>
  bif decide (0 ≤ s.1.1) && decide (s.1.1 ≤ ((psAt l i).length : Int)) then addEnd N l i ((psAt l i).take s.1.1.toNat ++ [p] ++ (psAt l i).drop s.1.1.toNat) else none
noncomputable def addCore (N : Nat) (l : List D99) (i : Nat) (p : D97) : Option AddR :=
  (anyO (fun q => (ipfrag_equal N p q).map (·.1.1)) (psAt l i)).bind fun b1 => bif b1 then some ((l, [], 0, ()), ()) else
  (anyO (fun q => (ipfrag_overlap N p q).map (·.1.1)) (psAt l i)).bind fun b2 => bif b2 then some ((l.eraseIdx i, [], 9, ()), ()) else
  (anyO (fun q => (ipfrag_beyond N p q).map (·.1.1)) (psAt l i)).bind fun b3 => bif b3 then some ((l.eraseIdx i, [], 2, ()), ()) else
  bif decide (16 ≤ (psAt l i).length) then some ((l.eraseIdx i, [], 10, ()), ()) else addPut N l i p
theorem tc_len {l : List D99} {us : List Value} : ∀ c ∈ TC l us, c.length = 9 := by
  intro c hc
  unfold TC at hc
  obtain ⟨i, hi⟩ := List.mem_iff_getElem?.1 hc
  rw [List.getElem?_zipWith] at hi
  split at hi
  · cases hi; rfl
  · cases hi
theorem tc_modify {t : Value} {q : List D97} : ∀ {l : List D99} {us : List Value} {i : Nat}, us.length = l.length → i < l.length → (TC l us).flatten.set (i * 9 + 7) t = (TC (l.modify i (setPs q)) (us.set i t)).flatten
  | [], _, _, _, h => absurd h (Nat.not_lt_zero _)
  | x :: l, [], i, h, _ => by simp at h
  | x :: l, u :: us, 0, h, hi => by
    show (AC x u ++ (TC l us).flatten).set 7 t = AC (setPs q x) t ++ (TC l us).flatten
    rfl
  | x :: l, u :: us, i + 1, h, hi => by
    have ih := tc_modify (t := t) (q := q) (l := l) (us := us) (i := i) (by simpa using h) (by simpa using hi)
    show (AC x u ++ (TC l us).flatten).set ((i + 1) * 9 + 7) t = AC x u ++ (TC (l.modify i (setPs q)) (us.set i t)).flatten
    rw [← ih, List.set_append_right _ _ (by show 9 ≤ _; omega)]
    congr 2
    show (i + 1) * 9 + 7 - 9 = _
    omega
section
variable {w w' w0 w1 : World} {Z Z' Z0 Y : Nat → Prop} {i : Nat} {v pv : Value} {l : List D99} {us : List Value}
theorem Deep.weak (h : Deep w0 Z0 l i w Z v pv us) {M : Nat → Prop} (hk : Kept M w w') (hM : ∀ b, M b → ¬ Z b ∧ blk v ≠ some b ∧ blk pv ≠ some b ∧ w0.heap.size ≤ b) (hY : ∀ b, Y b → b < w'.heap.size ∧ blk v ≠ some b ∧ blk pv ≠ some b ∧ (b < w0.heap.size → Z0 b)) :
    Deep w0 Z0 l i w' (fun b => Z b ∨ Y b) v pv us where
  kept := h.kept.trans hk fun b hb => .inr (hM b hb).2.2.2
  zlt b hb := hb.elim (fun hb => Nat.lt_of_lt_of_le (h.zlt b hb) hk.size) fun hb => (hY b hb).1
  zin b hb := .inl (h.zin b hb)
  zout b hb hl := hb.elim (fun hb => h.zout b hb hl) fun hb => (hY b hb).2.2.2 hl
  len := h.len
  row := own_keep h.row hk fun b hb hm => (hM b hm).2.1 hb
  els k x u hx hu := ⟨(h.els k x u hx hu).1, (h.els k x u hx hu).2.1, fun e => ((h.els k x u hx hu).2.2 e).mono (hk.same fun b hb hm => (hM b hm).1 hb) fun _ h => .inl h⟩
  pcs := by
    obtain ⟨css, h1, h2⟩ := h.pcs
    exact ⟨css, h1.mono fun _ _ hd => hd.mono (hk.same fun b hb hm => (hM b hm).1 hb) fun _ h => .inl h, own_keep h2 hk fun b hb hm => (hM b hm).2.2.1 hb⟩
  vz b hb := ⟨fun hz => hz.elim (h.vz b hb).1 fun hy => (hY b hy).2.1 hb, (h.vz b hb).2⟩
  pz b hb := ⟨fun hz => hz.elim (h.pz b hb).1 fun hy => (hY b hy).2.2.1 hb, (h.pz b hb).2⟩
  vp := h.vp
theorem Deep.rebase (h : Deep w1 Z0 l i w Z v pv us) (hk : Kept (fun _ => False) w0 w1) : Deep w0 Z0 l i w Z v pv us where
  kept := hk.trans h.kept fun _ h => h.elim
  zlt := h.zlt
  zin := h.zin
  zout b hb hl := h.zout b hb (Nat.lt_of_lt_of_le hl hk.size)
  len := h.len
  row := h.row
  els := h.els
  pcs := h.pcs
  vz b hb := ⟨(h.vz b hb).1, Nat.le_trans hk.size (h.vz b hb).2⟩
  pz b hb := ⟨(h.pz b hb).1, Nat.le_trans hk.size (h.pz b hb).2⟩
  vp := h.vp
/-- Where the pieces of assembly i hang. -/
theorem Deep.at (h : Deep w0 Z0 l i w Z v pv us) (hlt : i < l.length) : ∃ g c, v = .slice (some ⟨g, 0, none⟩) l.length c ∧ l.length ≤ c ∧ g < w.heap.size ∧ w.cell? ⟨g, i * 9 + 7, none⟩ = some pv := by
  rcases h.row.2 with ⟨_, e⟩ | ⟨g, c, cur, hv, _, hg, hc, _, _, ht⟩
  · omega
  refine ⟨g, c, hv, hc, (Array.getElem?_eq_some_iff.1 hg).1, cell_at hg ?_⟩
  obtain ⟨x, hx⟩ : ∃ x, l[i]? = some x := ⟨l[i], by simp [hlt]⟩
  obtain ⟨u, hu⟩ : ∃ u, us[i]? = some u := ⟨us[i]'(by rw [h.len]; exact hlt), by simp [h.len, hlt]⟩
  have hup := (h.els i x u hx hu).2.1 rfl
  have hf : (TC l us)[i]? = some (AC x u) := by
    unfold TC
    rw [List.getElem?_zipWith, hx, hu]
  have := flatten_at tc_len i 7 _ hf (by omega)
  rw [← ht, List.getElem?_take] at this
  split at this
  · rw [this, ← hup]; rfl
  · cases this
theorem Deep.hang (h : Deep w0 Z0 l i w Z v pv us) : ∃ A c, pv = .slice A (psAt l i).length c := by
  obtain ⟨css, _, ho⟩ := h.pcs
  rcases ho.2 with ⟨e, e2⟩ | ⟨gp, cp, cur, hv, _⟩
  · exact ⟨none, 0, by rw [e, e2]⟩
  · exact ⟨_, _, hv⟩
/-- A question about all pieces of assembly i. -/
theorem bad_calls {f : FuncId} {F : (Spec.mk [.val T97, .val T97] []).den → Option ((Spec.mk [.val .bool] []).un [false]).den} (hok : Ctr.ok Try.prog [] f ⟨⟨[.val T97, .val T97], []⟩, (Spec.mk [.val .bool] []).un [false], 0, F⟩)
    (hcf : ∀ args W, (callFunc f args).run Try.prog W = .ok (.enter f args) W) (h : Deep w0 Z0 l i w Z v pv us) (hsz : (psAt l i).length ≤ 1000) {p : D97} {ps : List Value} {b4 b11 g : Nat} (hp : DR w Z T97 p ps) (hb4 : w.heap[b4]? = some (.cells ps.toArray 98 (0, 0)))
    (hb11 : w.heap[b11]? = some (.cells #[.pointer (some ⟨g, i * 9, none⟩)] 170 (0, 0))) (hvp : w.cell? ⟨g, i * 9 + 7, none⟩ = some pv) {b : Bool} (hany : anyO (fun q => (F ((p, q, ()), ())).map (·.1.1)) (psAt l i) = some b) :
    Calls Try.prog 127 #[.func (.func f) #[] #[], .pointer (some ⟨b11, 0, none⟩), .pointer (some ⟨b4, 0, none⟩)] w fun e w' => e = .returned (.bool b) ∧ Kept (fun _ => False) w w' := by
  obtain ⟨r, hr, hrb⟩ := anyO_some hany
  obtain ⟨css, hc, ho⟩ := h.pcs
  obtain ⟨A, c, o, gp, hpv, hA, hcell⟩ : ∃ A c o gp, pv = .slice A (psAt l i).length c ∧ (0 < (psAt l i).length → A = some ⟨gp, o, none⟩) ∧ ∀ W, Kept (fun _ => False) w W → ∀ k, k < (psAt l i).length → ∀ j u, (css.getD k [])[j]? = some u → W.cell? ⟨gp, o + k * 10 + j, none⟩ = some u := by
    rcases ho.2 with ⟨e, e2⟩ | ⟨gp, cp, cur, hv, _, hg, _, _, _, ht⟩
    · exact ⟨none, 0, 0, 0, by rw [e, e2], fun h => by omega, fun W hW k hk => by omega⟩
    · refine ⟨some ⟨gp, 0, none⟩, cp, 0, gp, hv, fun _ => rfl, fun W hW k hk j u hu => ?_⟩
      have hg' : W.heap[gp]? = some (.cells cur 98 (0, 0)) := by
        rw [hW.block gp (Array.getElem?_eq_some_iff.1 hg).1 fun h => h]; exact hg
      have hkl : k < css.length := by rw [← hc.length]; exact hk
      have hck : css[k]? = some (css.getD k []) := by simp [List.getD, hkl]
      have hj : j < 10 := by
        have := (List.getElem?_eq_some_iff.1 hu).1
        rw [hc.lenD _ (List.mem_of_getElem? hck)] at this
        exact this
      have := flatten_at (k := 10) hc.lenD k j _ hck hj
      rw [hu, ← ht, List.getElem?_take] at this
      split at this
      · rw [Nat.zero_add]; exact cell_at hg' this
      · cases this
  rw [hpv] at hvp
  rw [← hrb]
  refine against_calls hA (by omega) (fun k hk => ?_) hcell hb11 hvp hp.len hb4 hcf fun k hk W hW => ?_
  · have hkl : k < css.length := by rw [← hc.length]; exact hk
    exact hc.lenD _ (List.mem_of_getElem? (show css[k]? = some (css.getD k []) by simp [List.getD, hkl]))
  · obtain ⟨q, hq⟩ : ∃ q, (psAt l i)[k]? = some q := ⟨(psAt l i)[k], by simp [hk]⟩
    obtain ⟨cs, hcs, hd⟩ := All2.get k q hc hq
    have e : css.getD k [] = cs := by simp [List.getD, hcs]
    rw [e]
    obtain ⟨y, hy, hyr⟩ := Option.map_eq_some_iff.1 (hr k q hq)
    obtain ⟨⟨y1, ⟨⟩⟩, ⟨⟩⟩ := y
    have hyr' : y1 = r k := hyr
    subst hyr'
    have hs : Same Z w W := hW.same fun _ _ h => h
    exact two_calls hok (fun b hb => Nat.lt_of_lt_of_le (h.zlt b hb) hW.size) (hp.mono hs fun _ h => h) (hd.mono hs fun _ h => h) hy
/-- Assembly i is taken out. -/
theorem erase_calls (h : Deep w0 Z0 l i w Z v pv us) (hlt : i < l.length) : Calls Try.prog 132 #[v, .int .i64 i, .int .i64 ((i : Int) + 1)] w fun e w' => ∃ tv, e = .returned tv ∧ Kept (fun b => blk v = some b) w w' ∧ DR w' (fun b => Z b ∨ blk v = some b) (.sl T99) (l.eraseIdx i) [tv] := by
  have hrow := h.row
  rcases hrow.2 with ⟨_, e⟩ | ⟨g, c, cur, rfl, _, hg, hnc, hcm, hcs, ht⟩
  · omega
  have hTl : (TC l us).length = l.length := by simp [TC, h.len]
  have h1 : ∀ u ∈ cur.toList.take (l.length * 9), u.oneCell' = true := by
    rw [ht]
    intro u hu
    have hd : ∀ (k : Nat) (x : D99) (u : Value), l[k]? = some x → us[k]? = some u → u.oneCell' = true := fun k x u hx hu => by
      obtain ⟨a1, a2, a3⟩ := h.els k x u hx hu
      by_cases e : k = i
      · rw [a2 e]
        obtain ⟨css, c1, c2⟩ := h.pcs
        rcases c2.2 with ⟨e, _⟩ | ⟨_, _, _, e, _⟩ <;> rw [e] <;> rfl
      · exact (a3 e).one u (by simp)
    obtain ⟨cs, hcs, huc⟩ := List.mem_flatten.1 hu
    obtain ⟨k, hk⟩ := List.mem_iff_getElem?.1 hcs
    unfold TC at hk
    rw [List.getElem?_zipWith] at hk
    split at hk
    · rename_i x t hx ht'
      cases hk
      exact ac_one (hd k x t hx ht') u huc
    · cases hk
  refine (delete_calls hlt hnc hcm hg hcs h1).mono ?_
  rintro e w' ⟨ROW, rfl, r1, r2, r3, r4⟩
  refine ⟨_, rfl, r4.weak fun b hb => by rw [hb]; rfl, ?_⟩
  have hcut : cur.toList.take (i * 9) = (TC l us).flatten.take (i * 9) := by
    rw [← ht, List.take_take]; congr 1; omega
  have hfl : ROW.toList.take ((l.length - 1) * 9) = (TC (l.take i) (us.take i) ++ TC (l.drop (i + 1)) (us.drop (i + 1))).flatten := by
    rw [r2, ht, hcut, List.flatten_append, ← flatten_take tc_len, ← flatten_drop tc_len]
    unfold TC
    rw [List.take_zipWith, List.drop_zipWith]
  have hk' : Kept (fun b => blk (Value.slice (some ⟨g, 0, none⟩) l.length c) = some b) w w' := r4.weak fun b hb => by rw [hb]; rfl
  have hs : Same Z w w' := hk'.same fun b hZ e => (h.vz b e).1 hZ
  have a1 : All2 (DR w' Z T99) (l.take i) (TC (l.take i) (us.take i)) := tab_all (by simp [h.len]) fun k x u hx hu => by
    rw [List.getElem?_take] at hx hu
    split at hx
    · rename_i hki
      rw [if_pos hki] at hu
      obtain ⟨a1, _, a3⟩ := h.els k x u hx hu
      exact ⟨a1, (a3 (by omega)).mono hs fun _ h => h⟩
    · cases hx
  have a2 : All2 (DR w' Z T99) (l.drop (i + 1)) (TC (l.drop (i + 1)) (us.drop (i + 1))) := tab_all (by simp [h.len]) fun k x u hx hu => by
    rw [List.getElem?_drop] at hx hu
    obtain ⟨a1, _, a3⟩ := h.els _ x u hx hu
    exact ⟨a1, (a3 (by omega)).mono hs fun _ h => h⟩
  have hle : (l.eraseIdx i).length = l.length - 1 := List.length_eraseIdx_of_lt hlt
  have hall := a1.append a2
  rw [← List.eraseIdx_eq_take_drop_succ] at hall
  refine own_DR (e := 100) hall ?_ (fun _ h => .inl h) (fun b hb => .inr hb)
  refine ⟨?_, .inr ⟨g, c, ROW, by rw [hle], Nat.zero_le _, r3, by rw [hle]; omega, hcm, r1, by rw [hle]; exact hfl⟩⟩
  rw [hall.flatD]
end
end Go.Proofs.Ytgbkkfpheahdfaa

namespace Go.Proofs.Ytgbkkfpheahdfaa
open Go
open Go.RowKit
set_option maxRecDepth 100000
set_option maxHeartbeats 4000000 in
theorem add_C1 {Q : Exit → Act → World → Prop} {a : Act} {w : World} {b4 g n c i : Nat} {rest : List Code} (hd : a.defers = []) (hs : a.tmps.size = 124) (h4 : a.tmps.getD 4 undef = .pointer (some ⟨b4, 0, none⟩)) (h9 : a.tmps.getD 9 undef = .slice (some ⟨g, 0, none⟩) n c)
    (h10 : a.tmps.getD 10 undef = .int .i64 i) (hi : i < n)
    (hK : ∀ a' w', a'.defers = [] → a'.tmps.size = 124 → a'.tmps.getD 4 undef = .pointer (some ⟨b4, 0, none⟩) → a'.tmps.getD 9 undef = .slice (some ⟨g, 0, none⟩) n c → a'.tmps.getD 10 undef = .int .i64 i → a'.tmps.getD 11 undef = .pointer (some ⟨w.heap.size, 0, none⟩) →
      a'.tmps.getD 12 undef = .func (.func 127) #[] #[.pointer (some ⟨w.heap.size, 0, none⟩), .pointer (some ⟨b4, 0, none⟩)] → Kept (fun _ => False) w w' → w'.heap[w.heap.size]? = some (.cells #[.pointer (some ⟨g, i * 9, none⟩)] 170 (0, 0)) → listWp Try.prog rest Q a' w') :
    listWp Try.prog (add_c8 :: add_c9 :: rest) Q a w := by
  have mixed := ip_mixed
  obtain ⟨x, rfl, hx⟩ := act124 hd hs
  have e4 : x 4 = .pointer (some ⟨b4, 0, none⟩) := h4
  have e9 : x 9 = .slice (some ⟨g, 0, none⟩) n c := h9
  have e10 : x 10 = .int .i64 i := h10
  clear h4 h9 h10 hx hd hs
  rw [e4, e9, e10]
  have hin : (i : Int) < (n : Int) := by omega
  show add_c8.wp Try.prog (Exit.then (listWp Try.prog (add_c9 :: rest) Q) Q) _ _
  unfold add_c8
  go_wp2
  show add_c9.wp Try.prog (Exit.then (listWp Try.prog rest Q) Q) _ _
  unfold add_c9
  go_wp2
  exact hK _ _ rfl rfl rfl rfl rfl rfl rfl (Kept.alloc _ _) (heap_alloc_new w _)
set_option maxHeartbeats 4000000 in
theorem add_C2 {N : Nat} {Q : Exit → Act → World → Prop} {a : Act} {w w0 : World} {Z Z0 : Nat → Prop} {l : List D99} {i b4 b11 g c : Nat} {pv : Value} {us : List Value} {p : D97} {ps : List Value} {y : AddR} {rest : List Code} (hd : a.defers = []) (hs : a.tmps.size = 124)
    (h4 : a.tmps.getD 4 undef = .pointer (some ⟨b4, 0, none⟩)) (h9 : a.tmps.getD 9 undef = .slice (some ⟨g, 0, none⟩) l.length c) (h10 : a.tmps.getD 10 undef = .int .i64 i) (h11 : a.tmps.getD 11 undef = .pointer (some ⟨b11, 0, none⟩))
    (h12 : a.tmps.getD 12 undef = .func (.func 127) #[] #[.pointer (some ⟨b11, 0, none⟩), .pointer (some ⟨b4, 0, none⟩)]) (hD : Deep w0 Z0 l i w Z (.slice (some ⟨g, 0, none⟩) l.length c) pv us) (hi : i < l.length) (hn : l.length ≤ 1001) (hps : (psAt l i).length ≤ 1000)
    (hp : DR w Z T97 p ps) (hb4 : w.heap[b4]? = some (.cells ps.toArray 98 (0, 0))) (hb11 : w.heap[b11]? = some (.cells #[.pointer (some ⟨g, i * 9, none⟩)] 170 (0, 0))) (hvp : w.cell? ⟨g, i * 9 + 7, none⟩ = some pv) (hF : addCore N l i p = some y)
    (hR0 : ∀ a' w', a'.defers = [] → a'.tmps.size = 124 → a'.tmps.getD 6 undef = .slice (some ⟨g, 0, none⟩) l.length c → a'.tmps.getD 7 undef = .slice none 0 0 → a'.tmps.getD 8 undef = .int .i64 0 → Kept (fun _ => False) w w' → y = ((l, [], 0, ()), ()) → Q .ret a' w')
    (hR : ∀ a' w' W tv e, a'.defers = [] → a'.tmps.size = 124 → a'.tmps.getD 6 undef = tv → a'.tmps.getD 7 undef = .slice none 0 0 → a'.tmps.getD 8 undef = .int .i64 e → Kept (fun _ => False) w W → Kept (fun b => b = g) W w' → DR w' (fun b => Z b ∨ b = g) (.sl T99) (l.eraseIdx i) [tv] → y = ((l.eraseIdx i, [], e, ()), ()) → I64 e → Q .ret a' w')
    (hK : ∀ a' w', a'.defers = [] → a'.tmps.size = 124 → a'.tmps.getD 4 undef = .pointer (some ⟨b4, 0, none⟩) → a'.tmps.getD 9 undef = .slice (some ⟨g, 0, none⟩) l.length c → a'.tmps.getD 10 undef = .int .i64 i → a'.tmps.getD 11 undef = .pointer (some ⟨b11, 0, none⟩) →
      Kept (fun _ => False) w w' → addPut N l i p = some y → listWp Try.prog rest Q a' w') :
    listWp Try.prog (add_c10 :: rest) Q a w := by
  have mixed := ip_mixed
  obtain ⟨x, rfl, hx⟩ := act124 hd hs
  have e4 : x 4 = .pointer (some ⟨b4, 0, none⟩) := h4
  have e9 : x 9 = .slice (some ⟨g, 0, none⟩) l.length c := h9
  have e10 : x 10 = .int .i64 i := h10
  have e11 : x 11 = .pointer (some ⟨b11, 0, none⟩) := h11
  have e12 : x 12 = .func (.func 127) #[] #[.pointer (some ⟨b11, 0, none⟩), .pointer (some ⟨b4, 0, none⟩)] := h12
  clear h4 h9 h10 h11 h12 hx hd hs
  rw [e4, e9, e10, e11, e12]
  have hin : (i : Int) < (l.length : Int) := by omega
  have hw1 : IntKind.i64.wrap ((i : Int) + 1) = (i : Int) + 1 := by rw [IntKind.wrap_i64]; omega
  obtain ⟨A, c', hpv⟩ := hD.hang
  subst hpv
  have keep : ∀ {W : World}, Kept (fun _ => False) w W → Deep w0 Z0 l i W Z (.slice (some ⟨g, 0, none⟩) l.length c) (.slice A (psAt l i).length c') us ∧ DR W Z T97 p ps ∧ W.heap[b4]? = some (.cells ps.toArray 98 (0, 0)) ∧ W.heap[b11]? = some (.cells #[.pointer (some ⟨g, i * 9, none⟩)] 170 (0, 0)) ∧ W.cell? ⟨g, i * 9 + 7, none⟩ = some (.slice A (psAt l i).length c') := fun {W} hk =>
    ⟨hD.world hk, hp.mono (hk.same fun _ _ h => h) fun _ h => h, by rw [hk.block b4 (Array.getElem?_eq_some_iff.1 hb4).1 fun h => h]; exact hb4, by rw [hk.block b11 (Array.getElem?_eq_some_iff.1 hb11).1 fun h => h]; exact hb11, cell_keep (fun k hk' => hk.block k hk' fun h => h) hvp⟩
  have er : ∀ {W : World}, Kept (fun _ => False) w W → Calls Try.prog 132 #[.slice (some ⟨g, 0, none⟩) l.length c, .int .i64 i, .int .i64 ((i : Int) + 1)] W fun e w' => ∃ tv, e = .returned tv ∧ Kept (fun b => b = g) W w' ∧ DR w' (fun b => Z b ∨ b = g) (.sl T99) (l.eraseIdx i) [tv] := fun {W} hk =>
    (erase_calls (keep hk).1 hi).mono fun e w' ⟨tv, q1, q2, q3⟩ => ⟨tv, q1, q2.weak fun b hb => by cases hb; rfl, q3.mono (Same.refl _ _) fun b hb => hb.imp id fun hb => by cases hb; rfl⟩
  unfold addCore at hF
  obtain ⟨q1, h1, hF⟩ := Option.bind_eq_some_iff.1 hF
  have k1 := bad_calls (F := fun y => ipfrag_equal N y.1.1 y.1.2.1) (ipfrag_equal_ok N) (fun args W => by kernel_rfl) hD hps hp hb4 hb11 hvp h1
  show add_c10.wp Try.prog (Exit.then (listWp Try.prog rest Q) Q) _ _
  unfold add_c10
  clear hp hb4 hb11 hvp hn e4 e9 e10 e11 e12
  go_wp2_with fail
  refine k1.mono ?_
  rintro e W1 ⟨rfl, hk1⟩
  clear k1 h1
  cases q1 with
  | true =>
    clear er keep
    go_wp2_with fail
    exact hR0 _ _ rfl rfl rfl rfl rfl hk1 (Option.some.inj hF).symm
  | false =>
    simp only [cond_false] at hF
    obtain ⟨q2, h2, hF⟩ := Option.bind_eq_some_iff.1 hF
    obtain ⟨d1, d2, d3, d4, d5⟩ := keep hk1
    have k2 := bad_calls (F := fun y => ipfrag_overlap N y.1.1 y.1.2.1) (ipfrag_overlap_ok N) (fun args W => by kernel_rfl) d1 hps d2 d3 d4 d5 h2
    clear d1 d2 d3 d4 d5 h2
    go_wp2_with fail
    refine k2.mono ?_
    rintro e W2 ⟨rfl, hk2⟩
    have hk2 := hk1.trans hk2 fun _ h => h.elim
    clear k2
    cases q2 with
    | true =>
      have er := er hk2
      clear keep
      go_wp2_with fail
      refine er.mono ?_
      rintro e W3 ⟨tv, rfl, hk3, hd3⟩
      go_wp2_with fail
      exact hR _ _ W2 tv 9 rfl rfl rfl rfl rfl hk2 hk3 hd3 (Option.some.inj hF).symm ⟨by decide, by decide⟩
    | false =>
      simp only [cond_false] at hF
      obtain ⟨q3, h3, hF⟩ := Option.bind_eq_some_iff.1 hF
      obtain ⟨d1, d2, d3, d4, d5⟩ := keep hk2
      have k3 := bad_calls (F := fun y => ipfrag_beyond N y.1.1 y.1.2.1) (ipfrag_beyond_ok N) (fun args W => by kernel_rfl) d1 hps d2 d3 d4 d5 h3
      clear d1 d2 d3 d4 d5 h3
      go_wp2_with fail
      refine k3.mono ?_
      rintro e W3 ⟨rfl, hk3⟩
      have hk3 := hk2.trans hk3 fun _ h => h.elim
      clear k3 hk2
      cases q3 with
      | true =>
        have er := er hk3
        clear keep
        go_wp2_with fail
        refine er.mono ?_
        rintro e W4 ⟨tv, rfl, hk4, hd4⟩
        go_wp2_with fail
        exact hR _ _ W3 tv 2 rfl rfl rfl rfl rfl hk3 hk4 hd4 (Option.some.inj hF).symm ⟨by decide, by decide⟩
      | false =>
        obtain ⟨d1, d2, d3, d4, d5⟩ := keep hk3
        have er := er hk3
        have d4' : W3.cell? ⟨b11, 0, none⟩ = some (.pointer (some ⟨g, i * 9, none⟩)) := cell_at d4 rfl
        clear keep d1 d2 d3 d4 hk1
        by_cases h16 : 16 ≤ (psAt l i).length
        · have h16' : (16 : Int) ≤ ((psAt l i).length : Int) := by omega
          have hy : y = ((l.eraseIdx i, [], 10, ()), ()) := by
            rw [decide_eq_true h16] at hF
            exact (Option.some.inj hF).symm
          clear hF hK
          go_wp2_with fail
          refine er.mono ?_
          rintro e W4 ⟨tv, rfl, hk4, hd4⟩
          go_wp2_with fail
          exact hR _ _ W3 tv 10 rfl rfl rfl rfl rfl hk3 hk4 hd4 hy ⟨by decide, by decide⟩
        · have h16' : ¬ (16 : Int) ≤ ((psAt l i).length : Int) := by omega
          have hy : addPut N l i p = some y := by
            rw [decide_eq_false h16] at hF
            exact hF
          clear hF hR er
          go_wp2_with fail
          exact hK _ _ rfl rfl rfl rfl rfl rfl hk3 hy
end Go.Proofs.Ytgbkkfpheahdfaa

namespace Go.Proofs.Ytgbkkfpheahdfaa
open Go
open Go.RowKit
set_option maxRecDepth 100000
/-- The cells of a piece whose data lie at u. -/
def PC (x : D97) (u : Value) : List Value := [.int .i64 x.1.1, .int .u64 (x.1.2.1.toNat : Int), .int .u64 (x.1.2.2.1.toNat : Int), .int .i64 x.2.1.1, .int .u64 (x.2.1.2.1.toNat : Int), .int .u64 (x.2.1.2.2.1.toNat : Int), .int .i64 x.2.2.1, .int .i64 x.2.2.2.1, .bool x.2.2.2.2.1, u]
def PB (x : D97) : Prop := I64 x.1.1 ∧ I64 x.2.1.1 ∧ I64 x.2.2.1 ∧ I64 x.2.2.2.1
theorem dr_pc {w : World} {Z : Nat → Prop} {x : D97} {vs : List Value} (h : DR w Z T97 x vs) : ∃ u, vs = PC x u ∧ PB x ∧ DR w Z (.sl .u8) x.2.2.2.2.2.1 [u] := by
  obtain ⟨_, _, rfl, ⟨_, _, rfl, ⟨rfl, f1⟩, _, _, rfl, rfl, _, _, rfl, rfl, rfl⟩, _, _, rfl, ⟨_, _, rfl, ⟨rfl, f2⟩, _, _, rfl, rfl, _, _, rfl, rfl, rfl⟩, _, _, rfl, ⟨rfl, f3⟩, _, _, rfl, ⟨rfl, f4⟩, _, _, rfl, rfl, us, _, rfl, h4, rfl⟩ := h
  obtain ⟨u, rfl⟩ := List.length_eq_one_iff.1 h4.len
  exact ⟨u, rfl, ⟨f1, f2, f3, f4⟩, h4⟩
theorem dr_pc_mk {w : World} {Z : Nat → Prop} {x : D97} {u : Value} (h : PB x) (hd : DR w Z (.sl .u8) x.2.2.2.2.2.1 [u]) : DR w Z T97 x (PC x u) :=
  ⟨[_, _, _], [_, _, _, _, _, _, _], rfl, ⟨[_], [_, _], rfl, ⟨rfl, h.1⟩, [_], [_], rfl, rfl, [_], [], rfl, rfl, rfl⟩, [_, _, _], [_, _, _, _], rfl, ⟨[_], [_, _], rfl, ⟨rfl, h.2.1⟩, [_], [_], rfl, rfl, [_], [], rfl, rfl, rfl⟩, [_], [_, _, _], rfl, ⟨rfl, h.2.2.1⟩, [_], [_, _], rfl, ⟨rfl, h.2.2.2⟩, [_], [_], rfl, rfl, [_], [], rfl, hd, rfl⟩
theorem w64_I64 (x : Int) : I64 (w64 x) := by
  unfold w64 I64
  rw [IntKind.wrap_i64]
  omega
/-- A call of a function as one step of a region that draws. -/
theorem step_fn_I {P : Program} {ops : Array Oper} {o : Oper} {a : Act} {w : World} {K : Act → World → Prop} {Q : Exit → Act → World → Prop} {E : Prop} {f : FuncId} {args : Array Operand} {tys : Array TypeId} {vs : Array Value} {R : Ending → World → Prop}
    (hg : o.guard = none) (hop : o.op = Op.call { callee := Callee.value (Operand.func f), args := args, argTypes := tys }) (hev : args.map a.eval = vs) (hcf : ∀ W, (callFunc f vs).run P W = .ok (.enter f vs) W) (h : Calls P f vs w R)
    (hR : ∀ e w', R e w' → ∃ v, e = .returned v ∧ K (a.put o.dst v) w') : if Region.wanted o (yielded ops a.tmps) = true then Oper.wp P o a w K Q else E := by
  have hw : Region.wanted o (yielded ops a.tmps) = true := by simp [Region.wanted, hg]
  rw [if_pos hw]
  unfold Oper.wp
  have e : (execOp a.eval o).run P w = .ok (.enter f vs) w := by
    simp [execOp, hop, resolve, invoke, Act.eval, hcf, hev, Deferred.ofValue]
  rw [e, Oper.upon_enter]
  refine h.mono fun e w' hr => ?_
  obtain ⟨v, rfl, hk⟩ := hR e w' hr
  exact hk
set_option maxHeartbeats 4000000 in
theorem add_D1 {N : Nat} {R : Ending → World → Prop} {a : Act} {w : World} {Z : Nat → Prop} {i b4 b11 g : Nat} {v pv u : Value} {ps : List D97} {p : D97} {k : Int} {f : Bool} {rest : List Code} (hd : a.defers = []) (hs : a.tmps.size = 124)
    (h4 : a.tmps.getD 4 undef = .pointer (some ⟨b4, 0, none⟩)) (h9 : a.tmps.getD 9 undef = v) (h10 : a.tmps.getD 10 undef = .int .i64 i) (h11 : a.tmps.getD 11 undef = .pointer (some ⟨b11, 0, none⟩))
    (hb4 : w.heap[b4]? = some (.cells (PC p u).toArray 98 (0, 0))) (hb11 : w.heap[b11]? = some (.cells #[.pointer (some ⟨g, i * 9, none⟩)] 170 (0, 0))) (hvp : w.cell? ⟨g, i * 9 + 7, none⟩ = some pv) (hZ : ∀ b, Z b → b < w.heap.size) (hpd : DR w Z (.sl T97) ps [pv])
    (hF : slices_BinarySearchFunc___api_Piece_api_Piece_int__ipfrag_Add_f3 N ps (w64 (p.2.2.2.1 + 1)) = some ((k, f, ()), ()))
    (hK : ∀ a' w', a'.defers = [] → a'.tmps.size = 124 → a'.tmps.getD 4 undef = .pointer (some ⟨b4, 0, none⟩) → a'.tmps.getD 9 undef = v → a'.tmps.getD 10 undef = .int .i64 i → a'.tmps.getD 11 undef = .pointer (some ⟨b11, 0, none⟩) → a'.tmps.getD 13 undef = .int .i64 k →
      Kept (fun _ => False) w w' → listWp Try.prog rest (bodyPost Try.prog Try.f66 R) a' w') :
    listWp Try.prog (add_c11 :: rest) (bodyPost Try.prog Try.f66 R) a w := by
  have mixed := ip_mixed
  obtain ⟨x, rfl, hx⟩ := act124 hd hs
  have e4 : x 4 = .pointer (some ⟨b4, 0, none⟩) := h4
  have e9 : x 9 = v := h9
  have e10 : x 10 = .int .i64 i := h10
  have e11 : x 11 = .pointer (some ⟨b11, 0, none⟩) := h11
  clear h4 h9 h10 h11 hx hd hs
  rw [e4, e9, e10, e11]
  have sc := fun (W : World) (hk : Kept (fun _ => False) w W) => search_calls (N := N) (w := W) (Z := Z) (fun b hb => Nat.lt_of_lt_of_le (hZ b hb) hk.size) (hpd.mono (hk.same fun _ _ h => h) fun _ h => h) (w64_I64 _) hF
  have c1 : w.cell? ⟨b11, 0, none⟩ = some (.pointer (some ⟨g, i * 9, none⟩)) := cell_at hb11 rfl
  have c2 : w.cell? ⟨b4, 7, none⟩ = some (.int .i64 p.2.2.2.1) := cell_at hb4 rfl
  show add_c11.wp Try.prog (Exit.then (listWp Try.prog rest (bodyPost Try.prog Try.f66 R)) (bodyPost Try.prog Try.f66 R)) _ _
  unfold add_c11
  go_region_law_o (refine step_fn_I rfl rfl (vs := #[pv, .int .i64 (w64 (p.2.2.2.1 + 1)), .func (.func 135) #[] #[]]) (by simp [Act.eval, Act.put, w64]) (fun W => by kernel_rfl) (sc _ (Kept.drew w)) ?_; rintro e W ⟨rfl, hk⟩; refine ⟨_, rfl, ?_⟩)
  all_goals (show listWp Try.prog rest (bodyPost Try.prog Try.f66 R) _ _)
  all_goals go_simp
  all_goals exact hK _ _ rfl rfl rfl rfl rfl rfl rfl ((Kept.drew w).trans hk fun _ h => h.elim)
end Go.Proofs.Ytgbkkfpheahdfaa

namespace Go.Proofs.Ytgbkkfpheahdfaa
open Go
open Go.RowKit
set_option maxRecDepth 100000
theorem pc_one {x : D97} {u : Value} (h : u.oneCell' = true) : ∀ v ∈ PC x u, v.oneCell' = true := by
  intro v hv
  simp only [PC, List.mem_cons, List.not_mem_nil, or_false] at hv
  rcases hv with rfl | rfl | rfl | rfl | rfl | rfl | rfl | rfl | rfl | rfl <;> first | rfl | exact h
set_option maxHeartbeats 4000000 in
theorem add_D2 {R : Ending → World → Prop} {a : Act} {w : World} {i b4 b11 g n k : Nat} {v pv u : Value} {p : D97} {xs : List Value} {cur : Array Value} {rest : List Code} (hd : a.defers = []) (hs : a.tmps.size = 124)
    (h4 : a.tmps.getD 4 undef = .pointer (some ⟨b4, 0, none⟩)) (h9 : a.tmps.getD 9 undef = v) (h10 : a.tmps.getD 10 undef = .int .i64 i) (h11 : a.tmps.getD 11 undef = .pointer (some ⟨b11, 0, none⟩)) (h13 : a.tmps.getD 13 undef = .int .i64 k)
    (hb4 : w.heap[b4]? = some (.cells (PC p u).toArray 98 (0, 0))) (hu : u.oneCell' = true) (hb11 : w.heap[b11]? = some (.cells #[.pointer (some ⟨g, i * 9, none⟩)] 170 (0, 0))) (hg : w.heap[g]? = some (.cells cur 100 (0, 0))) (hcur : cur.toList[i * 9 + 7]? = some pv)
    (ho : w.ownsRow 0 98 10 pv n xs) (hk : k ≤ n) (hn : n ≤ 1000) (hpg : blk pv ≠ some g) (h1x : ∀ u ∈ xs, u.oneCell' = true) (h11p : blk pv ≠ some b11)
    (hK : ∀ a' w' W pv', a'.defers = [] → a'.tmps.size = 124 → a'.tmps.getD 9 undef = v → a'.tmps.getD 10 undef = .int .i64 i → a'.tmps.getD 11 undef = .pointer (some ⟨b11, 0, none⟩) →
      Kept (fun b => blk pv = some b) w W → W.ownsRow 0 98 10 pv' (n + 1) (xs.take (k * 10) ++ PC p u ++ xs.drop (k * 10)) → (∀ b, blk pv' = some b → blk pv = some b ∨ w.heap.size ≤ b) → W.heap[g]? = some (.cells cur 100 (0, 0)) → w' = W.setCell ⟨g, i * 9 + 7, none⟩ pv' → listWp Try.prog rest (bodyPost Try.prog Try.f66 R) a' w') :
    listWp Try.prog (add_c12 :: rest) (bodyPost Try.prog Try.f66 R) a w := by
  have mixed := ip_mixed
  obtain ⟨x, rfl, hx⟩ := act124 hd hs
  have e4 : x 4 = .pointer (some ⟨b4, 0, none⟩) := h4
  have e9 : x 9 = v := h9
  have e10 : x 10 = .int .i64 i := h10
  have e11 : x 11 = .pointer (some ⟨b11, 0, none⟩) := h11
  have e13 : x 13 = .int .i64 k := h13
  clear h4 h9 h10 h11 h13 hx hd hs
  rw [e4, e9, e10, e11, e13]
  clear e4 e9 e10 e11 e13
  have hvp : w.cell? ⟨g, i * 9 + 7, none⟩ = some pv := cell_at hg hcur
  have c1 : w.cell? ⟨b11, 0, none⟩ = some (.pointer (some ⟨g, i * 9, none⟩)) := cell_at hb11 rfl
  have hvp2 : ∀ o, (w.alloc o).cell? ⟨g, i * 9 + 7, none⟩ = some pv := fun o => by rw [blk_cell hg o (i * 9 + 7), ← Array.getElem?_toList]; exact hcur
  have c2 : ∀ o, (w.alloc o).cell? ⟨b11, 0, none⟩ = some (.pointer (some ⟨g, i * 9, none⟩)) := fun o => by rw [blk_cell hb11 o 0]; rfl
  have k0 := cell_of_row w b4 0 _ 98 (0, 0) hb4
  have k1 := cell_of_row w b4 1 _ 98 (0, 0) hb4
  have k2 := cell_of_row w b4 2 _ 98 (0, 0) hb4
  have k3 := cell_of_row w b4 3 _ 98 (0, 0) hb4
  have k4 := cell_of_row w b4 4 _ 98 (0, 0) hb4
  have k5 := cell_of_row w b4 5 _ 98 (0, 0) hb4
  have k6 := cell_of_row w b4 6 _ 98 (0, 0) hb4
  have k7 := cell_of_row w b4 7 _ 98 (0, 0) hb4
  have k8 := cell_of_row w b4 8 _ 98 (0, 0) hb4
  have k9 := cell_of_row w b4 9 _ 98 (0, 0) hb4
  have sc : Calls Try.prog 136 #[pv, .int .i64 k, .slice (some ⟨w.heap.size, 0, none⟩) 1 1] (w.drew.alloc (.cells (PC p u).toArray 98)) fun e W => ∃ A c pv', pv' = .slice A (n + 1) c ∧ e = .returned (.slice A (n + 1) c) ∧ Kept (fun b => blk pv = some b) w W ∧ W.ownsRow 0 98 10 pv' (n + 1) (xs.take (k * 10) ++ PC p u ++ xs.drop (k * 10)) ∧
      (∀ b, blk pv' = some b → blk pv = some b ∨ w.heap.size ≤ b) ∧ W.cell? ⟨g, i * 9 + 7, none⟩ = some pv ∧ W.frozen? ⟨g, i * 9 + 7, none⟩ = false ∧ W.heap[g]? = some (.cells cur 100 (0, 0)) ∧ W.cell? ⟨b11, 0, none⟩ = some (.pointer (some ⟨g, i * 9, none⟩)) := by
    have hk1 : Kept (fun _ => False) w (w.drew.alloc (.cells (PC p u).toArray 98)) := (Kept.drew w).trans (Kept.alloc _ _) fun _ h => h.elim
    refine (insert_calls (vb := w.heap.size) (vc := 1) (vcur := (PC p u).toArray) (vs := PC p u) (own_keep ho hk1 fun _ _ h => h) hk (by omega) (heap_alloc_new w.drew _) rfl rfl (fun b hb => by have := own_lt ho b hb; omega) h1x (pc_one hu)).mono ?_
    rintro e W ⟨pv', rfl, q1, q2, q3⟩
    have hkk : Kept (fun b => blk pv = some b) w W := (hk1.weak fun _ h => h.elim).trans q2 fun b hb => .inl hb
    have hgW : W.heap[g]? = some (.cells cur 100 (0, 0)) := by
      rw [hkk.block g (Array.getElem?_eq_some_iff.1 hg).1 hpg]; exact hg
    have hbW : W.heap[b11]? = some (.cells #[.pointer (some ⟨g, i * 9, none⟩)] 170 (0, 0)) := by
      rw [hkk.block b11 (Array.getElem?_eq_some_iff.1 hb11).1 h11p]; exact hb11
    obtain ⟨A, c, hpv'⟩ : ∃ A c, pv' = .slice A (n + 1) c := by
      rcases q1.2 with ⟨_, e⟩ | ⟨g', cp, _, e, _⟩
      · omega
      · exact ⟨_, _, e⟩
    refine ⟨A, c, pv', hpv', by rw [hpv'], hkk, q1, fun b hb => (q3 b hb).imp id fun e => ?_, cell_at hgW hcur, frozen00 hgW, hgW, cell_at hbW rfl⟩
    rw [e]
    exact hk1.size
  simp only [PC, List.getElem?_toArray, List.getElem?_cons_zero, List.getElem?_cons_succ] at k0 k1 k2 k3 k4 k5 k6 k7 k8 k9
  clear hb4 hb11 hg hcur ho hk hn hpg h1x hu h11p
  show add_c12.wp Try.prog (Exit.then (listWp Try.prog rest (bodyPost Try.prog Try.f66 R)) (bodyPost Try.prog Try.f66 R)) _ _
  unfold add_c12
  go_region_law_o (refine step_fn_I rfl rfl (vs := #[pv, .int .i64 k, .slice (some ⟨w.heap.size, 0, none⟩) 1 1]) (by simp [Act.eval]) (fun W => by kernel_rfl) sc ?_; rintro e W ⟨A, c, pv', hpv', rfl, hk1, hk2, hk3, hk4, hk5, hk6, hk7⟩; refine ⟨_, rfl, ?_⟩)
  all_goals (show listWp Try.prog rest (bodyPost Try.prog Try.f66 R) _ _)
  all_goals go_simp
  all_goals (subst hpv'; exact hK _ _ W _ rfl rfl rfl rfl rfl hk1 hk2 hk3 hk6 rfl)
end Go.Proofs.Ytgbkkfpheahdfaa

namespace Go.Proofs.Ytgbkkfpheahdfaa
open Go
open Go.RowKit
set_option maxRecDepth 100000
theorem setCell_at {W : World} {g e o : Nat} {cur : Array Value} {t : Value} (hg : W.heap[g]? = some (.cells cur e (0, 0))) : (W.setCell ⟨g, o, none⟩ t).heap[g]? = some (.cells (cur.setIfInBounds o t) e (0, 0)) := by
  unfold World.setCell
  simp [Array.getElem?_modify, hg]
theorem setCell_kept {W : World} {g o : Nat} {t : Value} : Kept (fun b => b = g) W (W.setCell ⟨g, o, none⟩ t) := ⟨rfl, rfl, rfl, by simp [World.setCell], fun k _ hn => Below.heap_setCell W _ _ k hn⟩
theorem modify_erase {f : D99 → D99} : ∀ {l : List D99} {i : Nat}, (l.modify i f).eraseIdx i = l.eraseIdx i
  | [], i => by cases i <;> rfl
  | x :: l, 0 => rfl
  | x :: l, i + 1 => by
    show x :: (l.modify i f).eraseIdx i = x :: l.eraseIdx i
    rw [modify_erase]
theorem psAt_modify {l : List D99} {i : Nat} (h : i < l.length) {ps : List D97} : psAt (l.modify i (setPs ps)) i = ps := by
  unfold psAt
  rw [List.getElem?_modify]
  simp [h, setPs]
section
variable {w W w0 : World} {Z Z0 : Nat → Prop} {i g c : Nat} {pv pv' : Value} {l : List D99} {us : List Value}
/-- The pieces of assembly i are others now. -/
theorem Deep.put {v : Value} (h : Deep w0 Z0 l i w Z v pv us) (hv : v = .slice (some ⟨g, 0, none⟩) l.length c) (hlt : i < l.length) (hk : Kept (fun b => blk pv = some b) w W) {ps : List D97} {css : List (List Value)} (hc : All2 (DR W Z T97) ps css)
    (ho : W.ownsRow 0 98 10 pv' ps.length css.flatten) (hb : ∀ b, blk pv' = some b → blk pv = some b ∨ w.heap.size ≤ b) : Deep w0 Z0 (l.modify i (setPs ps)) i (W.setCell ⟨g, i * 9 + 7, none⟩ pv') Z v pv' (us.set i pv') := by
  subst hv
  have hgv : blk (Value.slice (some ⟨g, 0, none⟩) l.length c) = some g := rfl
  have hg1 := h.vz g hgv
  have hgw := own_lt h.row g hgv
  have hpg : blk pv ≠ some g := h.vp g hgv
  have hp'g : blk pv' ≠ some g := fun e => (hb g e).elim hpg fun h => by omega
  have hsW : Same Z w W := hk.same fun b hZ e => (h.pz b e).1 hZ
  have hsS : Same Z W (W.setCell ⟨g, i * 9 + 7, none⟩ pv') := setCell_kept.same fun b hZ e => by subst e; exact hg1.1 hZ
  have hs : Same Z w (W.setCell ⟨g, i * 9 + 7, none⟩ pv') := ⟨Nat.le_trans hsW.size hsS.size, fun b o hZ hl => (hsS.cell b o hZ (Nat.lt_of_lt_of_le hl hsW.size)).trans (hsW.cell b o hZ hl)⟩
  have hrow : W.ownsRow 0 100 9 (.slice (some ⟨g, 0, none⟩) l.length c) l.length (TC l us).flatten := own_keep h.row hk fun b hb1 hb2 => h.vp b hb1 hb2
  exact {
    kept := (h.kept.trans hk fun b hb => .inr (h.pz b hb).2).trans setCell_kept fun b hb => .inr (by subst hb; exact hg1.2)
    zlt := fun b hb => Nat.lt_of_lt_of_le (h.zlt b hb) hs.size
    zin := h.zin
    zout := h.zout
    len := by simp [h.len]
    row := by
      rw [List.length_modify, ← tc_modify h.len hlt]
      refine ⟨by rw [List.length_set]; exact hrow.1, ?_⟩
      rcases hrow.2 with ⟨e, _⟩ | ⟨g', cp, cur, e, h0, hg, q1, q2, q3, q4⟩
      · cases e
      · cases e
        refine .inr ⟨g, c, _, rfl, h0, setCell_at hg, q1, q2, by rw [Array.size_setIfInBounds]; exact q3, ?_⟩
        rw [Array.toList_setIfInBounds, List.take_set, q4]
    els := fun k x u hx hu => by
      rw [List.getElem?_modify] at hx
      by_cases e : i = k
      · subst e
        rw [List.getElem?_set_self (by rw [h.len]; exact hlt)] at hu
        obtain ⟨x0, hx0⟩ : ∃ x0, l[i]? = some x0 := ⟨l[i], by simp [hlt]⟩
        obtain ⟨u0, hu0⟩ : ∃ u0, us[i]? = some u0 := ⟨us[i]'(by rw [h.len]; exact hlt), by simp [h.len, hlt]⟩
        simp only [if_true, hx0] at hx
        cases hu
        obtain rfl : setPs ps x0 = x := Option.some.inj hx
        exact ⟨(h.els i x0 u0 hx0 hu0).1, fun _ => rfl, fun e => absurd rfl e⟩
      · rw [List.getElem?_set_ne e] at hu
        simp only [if_neg e] at hx
        obtain ⟨a1, a2, a3⟩ := h.els k x u (by simpa using hx) hu
        exact ⟨a1, fun e' => absurd e'.symm e, fun e' => (a3 e').mono hs fun _ h => h⟩
    pcs := by
      rw [psAt_modify hlt]
      exact ⟨css, hc.mono fun _ _ hd => hd.mono hsS fun _ h => h, own_keep ho setCell_kept fun b hb' e => by subst e; exact hp'g hb'⟩
    vz := h.vz
    pz := fun b hb' => by
      rcases hb b hb' with q | q
      · exact h.pz b q
      · exact ⟨fun hZ => by have := h.zlt b hZ; omega, by have := h.kept.size; omega⟩
    vp := fun b hb1 hb2 => by
      cases hb1
      exact hp'g hb2 }
end
set_option maxHeartbeats 4000000 in
theorem add_D3 {N : Nat} {R : Ending → World → Prop} {a : Act} {w w0 : World} {Z Z0 : Nat → Prop} {l : List D99} {i b11 g c : Nat} {pv : Value} {us : List Value} {ok : Bool} {d : List UInt8} (hd : a.defers = []) (hs : a.tmps.size = 124)
    (h9 : a.tmps.getD 9 undef = .slice (some ⟨g, 0, none⟩) l.length c) (h10 : a.tmps.getD 10 undef = .int .i64 i) (h11 : a.tmps.getD 11 undef = .pointer (some ⟨b11, 0, none⟩))
    (hD : Deep w0 Z0 l i w Z (.slice (some ⟨g, 0, none⟩) l.length c) pv us) (hi : i < l.length) (hn : l.length ≤ 1001)
    (hb11 : w.heap[b11]? = some (.cells #[.pointer (some ⟨g, i * 9, none⟩)] 170 (0, 0))) (hvp : w.cell? ⟨g, i * 9 + 7, none⟩ = some pv) (hF : ipfrag_complete N (psAt l i) = some ((ok, ()), (d, ())))
    (hR0 : ∀ a' w', a'.defers = [] → a'.tmps.size = 124 → a'.tmps.getD 6 undef = .slice (some ⟨g, 0, none⟩) l.length c → a'.tmps.getD 7 undef = .slice none 0 0 → a'.tmps.getD 8 undef = .int .i64 0 → Kept (fun _ => False) w w' → ok = false → bodyPost Try.prog Try.f66 R .ret a' w')
    (hR : ∀ a' w' W tv dv Z2, a'.defers = [] → a'.tmps.size = 124 → a'.tmps.getD 6 undef = tv → a'.tmps.getD 7 undef = dv → a'.tmps.getD 8 undef = .int .i64 0 → Kept (fun _ => False) w W → Kept (fun b => b = g) W w' → DR w' (fun b => Z b ∨ b = g) (.sl T99) (l.eraseIdx i) [tv] →
      DR W Z2 (.sl .u8) d [dv] → Zok w (fun b => Z b ∨ blk pv = some b) W Z2 → ok = true → bodyPost Try.prog Try.f66 R .ret a' w') :
    listWp Try.prog [add_c13, add_c14, add_c15, add_c16, add_c17] (bodyPost Try.prog Try.f66 R) a w := by
  have mixed := ip_mixed
  obtain ⟨x, rfl, hx⟩ := act124 hd hs
  have e9 : x 9 = .slice (some ⟨g, 0, none⟩) l.length c := h9
  have e10 : x 10 = .int .i64 i := h10
  have e11 : x 11 = .pointer (some ⟨b11, 0, none⟩) := h11
  clear h9 h10 h11 hx hd hs
  rw [e9, e10, e11]
  clear e9 e10 e11
  have hin : (i : Int) < (l.length : Int) := by omega
  have hw1 : IntKind.i64.wrap ((i : Int) + 1) = (i : Int) + 1 := by rw [IntKind.wrap_i64]; omega
  have c1 : w.cell? ⟨b11, 0, none⟩ = some (.pointer (some ⟨g, i * 9, none⟩)) := cell_at hb11 rfl
  have er : ∀ {W : World}, Kept (fun _ => False) w W → Calls Try.prog 132 #[.slice (some ⟨g, 0, none⟩) l.length c, .int .i64 i, .int .i64 ((i : Int) + 1)] W fun e w' => ∃ tv, e = .returned tv ∧ Kept (fun b => b = g) W w' ∧ DR w' (fun b => Z b ∨ b = g) (.sl T99) (l.eraseIdx i) [tv] := fun {W} hk =>
    (erase_calls (hD.world hk) hi).mono fun e w' ⟨tv, q1, q2, q3⟩ => ⟨tv, q1, q2.weak fun b hb => by cases hb; rfl, q3.mono (Same.refl _ _) fun b hb => hb.imp id fun hb => by cases hb; rfl⟩
  have cc := complete_calls (N := N) (w := w) (Z := fun b => Z b ∨ blk pv = some b) (fun b hb => hb.elim (hD.zlt b) (hD.plt b)) (hD.pieces (fun _ h => .inl h) fun _ h => .inr h) hF
  clear hb11 hn hD hF
  show add_c13.wp Try.prog (Exit.then (listWp Try.prog [add_c14, add_c15, add_c16, add_c17] (bodyPost Try.prog Try.f66 R)) (bodyPost Try.prog Try.f66 R)) _ _
  unfold add_c13
  go_wp2_with fail
  refine cc.mono ?_
  rintro e W ⟨dv, Z2, rfl, hk, hdv, hz2⟩
  have er := er hk
  clear cc
  go_wp2_with fail
  show add_c14.wp Try.prog (Exit.then (listWp Try.prog [add_c15, add_c16, add_c17] (bodyPost Try.prog Try.f66 R)) (bodyPost Try.prog Try.f66 R)) _ _
  unfold add_c14
  go_wp2_with fail
  show add_c15.wp Try.prog (Exit.then (listWp Try.prog [add_c16, add_c17] (bodyPost Try.prog Try.f66 R)) (bodyPost Try.prog Try.f66 R)) _ _
  unfold add_c15
  cases ok with
  | false =>
    clear hR er
    go_wp2_with fail
  | true =>
    clear hR0
    go_wp2_with fail
    show add_c16.wp Try.prog (Exit.then (listWp Try.prog [add_c17] (bodyPost Try.prog Try.f66 R)) (bodyPost Try.prog Try.f66 R)) _ _
    unfold add_c16
    go_wp2_with fail
    refine er.mono ?_
    rintro e W4 ⟨tv, rfl, hk4, hd4⟩
    go_wp2_with fail
    show add_c17.wp Try.prog (Exit.then (listWp Try.prog [] (bodyPost Try.prog Try.f66 R)) (bodyPost Try.prog Try.f66 R)) _ _
    unfold add_c17
    go_wp2_with fail
    exact hR _ _ W tv dv Z2 rfl rfl rfl rfl rfl hk hk4 hd4 hdv hz2 trivial
end Go.Proofs.Ytgbkkfpheahdfaa

namespace Go.Proofs.Ytgbkkfpheahdfaa
open Go
open Go.RowKit
set_option maxRecDepth 100000
/-- What Add hands back. -/
def Fin (w0 : World) (Z0 : Nat → Prop) (y : AddR) (a : Act) (w : World) : Prop :=
  a.defers = [] ∧ a.tmps.size = 124 ∧ ∃ tv dv Z, a.tmps.getD 6 undef = tv ∧ a.tmps.getD 7 undef = dv ∧ a.tmps.getD 8 undef = .int .i64 y.1.2.2.1 ∧ I64 y.1.2.2.1 ∧ Kept (fun _ => False) w0 w ∧ DR w Z (.sl T99) y.1.1 [tv] ∧ DR w Z (.sl .u8) y.1.2.1 [dv] ∧ Zok w0 Z0 w Z
section
variable {w w0 : World} {Z Z0 : Nat → Prop} {i g c : Nat} {pv : Value} {l : List D99} {us : List Value}
theorem Deep.at2 (h : Deep w0 Z0 l i w Z (.slice (some ⟨g, 0, none⟩) l.length c) pv us) (hlt : i < l.length) : ∃ cur, w.heap[g]? = some (.cells cur 100 (0, 0)) ∧ cur.toList[i * 9 + 7]? = some pv := by
  rcases h.row.2 with ⟨_, e⟩ | ⟨g', c', cur, hv, _, hg, hc, _, _, ht⟩
  · omega
  cases hv
  refine ⟨cur, hg, ?_⟩
  obtain ⟨x, hx⟩ : ∃ x, l[i]? = some x := ⟨l[i], by simp [hlt]⟩
  obtain ⟨u, hu⟩ : ∃ u, us[i]? = some u := ⟨us[i]'(by rw [h.len]; exact hlt), by simp [h.len, hlt]⟩
  have hup := (h.els i x u hx hu).2.1 rfl
  have hf : (TC l us)[i]? = some (AC x u) := by
    unfold TC
    rw [List.getElem?_zipWith, hx, hu]
  have := flatten_at tc_len i 7 _ hf (by omega)
  rw [← ht, List.getElem?_take] at this
  split at this
  · rw [this, ← hup]; rfl
  · cases this
theorem Deep.zok {v : Value} (h : Deep w0 Z0 l i w Z v pv us) : Zok w0 Z0 w (fun b => Z b ∨ blk pv = some b ∨ blk v = some b) := fun b hb => by
  rcases hb with q | q | q
  · exact ⟨h.zlt b q, h.zout b q⟩
  · exact ⟨h.plt b q, fun hl => by have := (h.pz b q).2; omega⟩
  · exact ⟨own_lt h.row b q, fun hl => by have := (h.vz b q).2; omega⟩
theorem dr_nil {w : World} {Z : Nat → Prop} {t : Ty} : DR w Z (.sl t) [] [.slice none 0 0] := ⟨none, 0, rfl, Nat.le_refl _, by simp [maxLen], fun h => absurd h (by simp)⟩
/-- The table as it stands is handed back, without data. -/
theorem fin_keep {w' : World} {a : Act} {v : Value} {e : Int} (h : Deep w0 Z0 l i w Z v pv us) (hk : Kept (fun _ => False) w w') (hd : a.defers = []) (hs : a.tmps.size = 124) (h6 : a.tmps.getD 6 undef = v) (h7 : a.tmps.getD 7 undef = .slice none 0 0) (h8 : a.tmps.getD 8 undef = .int .i64 e) (he : I64 e) :
    Fin w0 Z0 ((l, [], e, ()), ()) a w' :=
  ⟨hd, hs, v, _, _, h6, h7, h8, he, (h.world hk).kept, (h.world hk).frozen, dr_nil, (h.world hk).zok⟩
/-- The table without an assembly is handed back. -/
theorem fin_erase {w' W : World} {a : Act} {v tv dv : Value} {e : Int} {t : List D99} {d : List UInt8} {Z2 : Nat → Prop} (h : Deep w0 Z0 l i w Z v pv us) (hv : blk v = some g) (hk : Kept (fun _ => False) w W) (hk2 : Kept (fun b => b = g) W w') (hd : a.defers = []) (hs : a.tmps.size = 124)
    (h6 : a.tmps.getD 6 undef = tv) (h7 : a.tmps.getD 7 undef = dv) (h8 : a.tmps.getD 8 undef = .int .i64 e) (he : I64 e) (ht : DR w' (fun b => Z b ∨ b = g) (.sl T99) t [tv]) (hdv : DR W Z2 (.sl .u8) d [dv]) (hz : Zok w (fun b => Z b ∨ blk pv = some b) W Z2) : Fin w0 Z0 ((t, d, e, ()), ()) a w' := by
  have hgz := h.vz g hv
  have hgw := own_lt h.row g hv
  have hz2 : ¬ Z2 g := fun q => by
    rcases (hz g q).2 hgw with r | r
    · exact hgz.1 r
    · exact h.vp g hv r
  refine ⟨hd, hs, tv, dv, fun b => (Z b ∨ b = g) ∨ Z2 b, h6, h7, h8, he, (h.kept.trans hk fun _ q => q.elim).trans hk2 fun b hb => .inr (by subst hb; exact hgz.2), ht.mono (Same.refl _ _) fun _ q => .inl q, hdv.mono (hk2.same fun b hb e => by subst e; exact hz2 hb) fun _ q => .inr q, fun b hb => ?_⟩
  rcases hb with (q | q) | q
  · exact ⟨Nat.lt_of_lt_of_le (h.zlt b q) (Nat.le_trans hk.size hk2.size), h.zout b q⟩
  · subst q
    exact ⟨Nat.lt_of_lt_of_le hgw (Nat.le_trans hk.size hk2.size), fun hl => by have := hgz.2; omega⟩
  · refine ⟨Nat.lt_of_lt_of_le (hz b q).1 hk2.size, fun hl => ?_⟩
    rcases (hz b q).2 (Nat.lt_of_lt_of_le hl h.kept.size) with r | r
    · exact h.zout b r hl
    · have := (h.pz b r).2; omega
end
theorem add_put {N : Nat} {R : Ending → World → Prop} {a : Act} {w w0 : World} {Z Z0 : Nat → Prop} {l : List D99} {i b4 b11 g c : Nat} {pv : Value} {us : List Value} {p : D97} {ps : List Value} {y : AddR} (hd : a.defers = []) (hs : a.tmps.size = 124)
    (h4 : a.tmps.getD 4 undef = .pointer (some ⟨b4, 0, none⟩)) (h9 : a.tmps.getD 9 undef = .slice (some ⟨g, 0, none⟩) l.length c) (h10 : a.tmps.getD 10 undef = .int .i64 i) (h11 : a.tmps.getD 11 undef = .pointer (some ⟨b11, 0, none⟩))
    (hD : Deep w0 Z0 l i w Z (.slice (some ⟨g, 0, none⟩) l.length c) pv us) (hi : i < l.length) (hn : l.length ≤ 1001) (hps : (psAt l i).length ≤ 1000)
    (hp : DR w Z T97 p ps) (hb4 : w.heap[b4]? = some (.cells ps.toArray 98 (0, 0))) (hb11 : w.heap[b11]? = some (.cells #[.pointer (some ⟨g, i * 9, none⟩)] 170 (0, 0))) (h11p : blk pv ≠ some b11) (h11g : b11 ≠ g) (hF : addPut N l i p = some y)
    (hR : ∀ a' w', Fin w0 Z0 y a' w' → bodyPost Try.prog Try.f66 R .ret a' w') :
    listWp Try.prog [add_c11, add_c12, add_c13, add_c14, add_c15, add_c16, add_c17] (bodyPost Try.prog Try.f66 R) a w := by
  obtain ⟨u, rfl, hpb, hpd⟩ := dr_pc hp
  obtain ⟨cur, hg, hcur⟩ := hD.at2 hi
  obtain ⟨css, hc, ho⟩ := hD.pcs
  unfold addPut at hF
  obtain ⟨⟨⟨k, f, ⟨⟩⟩, ⟨⟩⟩, h1, hF⟩ := Option.bind_eq_some_iff.1 hF
  have hkk : (decide (0 ≤ k) && decide (k ≤ ((psAt l i).length : Int))) = true := by
    cases hb : (decide (0 ≤ k) && decide (k ≤ ((psAt l i).length : Int))) with
    | true => rfl
    | false => simp only [hb, cond_false] at hF; cases hF
  simp only [hkk, cond_true] at hF
  simp only [Bool.and_eq_true, decide_eq_true_eq] at hkk
  obtain ⟨m, rfl⟩ := Int.eq_ofNat_of_zero_le hkk.1
  have hm : m ≤ (psAt l i).length := Int.ofNat_le.1 hkk.2
  rw [Int.toNat_natCast] at hF
  have hgv : blk (Value.slice (some ⟨g, 0, none⟩) l.length c) = some g := rfl
  refine add_D1 (N := N) (Z := fun b => Z b ∨ blk pv = some b) (f := f) hd hs h4 h9 h10 h11 hb4 hb11 (cell_at hg hcur) (fun b hb => hb.elim (hD.zlt b) (hD.plt b)) (hD.pieces (fun _ h => .inl h) fun _ h => .inr h) h1 ?_
  intro a1 w1 d1 s1 p4 p9 p10 p11 p13 hk1
  have kp : ∀ {b : Nat} {o : Obj}, w.heap[b]? = some o → w1.heap[b]? = some o := fun {b o} h => by
    rw [hk1.block b (Array.getElem?_eq_some_iff.1 h).1 fun h => h]; exact h
  have hD1 := hD.world hk1
  have hp1 : DR w1 Z T97 p (PC p u) := hp.mono (hk1.same fun _ _ h => h) fun _ h => h
  have hc1 : All2 (DR w1 Z T97) (psAt l i) css := hc.mono fun _ _ h => h.mono (hk1.same fun _ _ h => h) fun _ h => h
  refine add_D2 (n := (psAt l i).length) (xs := css.flatten) d1 s1 p4 p9 p10 p11 p13 (kp hb4) (hp1.one u (by simp [PC])) (kp hb11) (kp hg) hcur (own_keep ho hk1 fun _ _ h => h) hm hps (hD.vp g hgv) hc1.oneD h11p ?_
  intro a2 w2 W pv' d2 s2 q9 q10 q11 hk2 ho2 hb2 hgW hw2
  have hsW : Same Z w1 W := hk2.same fun b hZ e => (hD.pz b e).1 hZ
  have hall : All2 (DR W Z T97) ((psAt l i).take m ++ [p] ++ (psAt l i).drop m) (css.take m ++ [PC p u] ++ css.drop m) :=
    (((hc1.take m).append (show All2 (DR w1 Z T97) [p] [PC p u] from ⟨hp1, trivial⟩)).append (hc1.drop m)).mono fun _ _ h => h.mono hsW fun _ h => h
  have hlen : ((psAt l i).take m ++ [p] ++ (psAt l i).drop m).length = (psAt l i).length + 1 := by simp; omega
  have hfl : (css.take m ++ [PC p u] ++ css.drop m).flatten = css.flatten.take (m * 10) ++ PC p u ++ css.flatten.drop (m * 10) := by
    rw [List.flatten_append, List.flatten_append, flatten_take hc.lenD, flatten_drop hc.lenD]
    simp only [List.flatten_cons, List.flatten_nil, List.append_nil]
    rfl
  have hD2 := hD1.put rfl hi hk2 (pv' := pv') hall (by rw [hlen, hfl]; exact ho2) hb2
  rw [← hw2] at hD2
  have hl' : (l.modify i (setPs ((psAt l i).take m ++ [p] ++ (psAt l i).drop m))).length = l.length := List.length_modify ..
  generalize hps' : (psAt l i).take m ++ [p] ++ (psAt l i).drop m = ps' at *
  have hpe : psAt (l.modify i (setPs ps')) i = ps' := psAt_modify hi
  unfold addEnd at hF
  obtain ⟨⟨⟨ok, ⟨⟩⟩, d, ⟨⟩⟩, h3, hF⟩ := Option.bind_eq_some_iff.1 hF
  have hb11' : w2.heap[b11]? = some (.cells #[.pointer (some ⟨g, i * 9, none⟩)] 170 (0, 0)) := by
    have h1 := kp hb11
    rw [hw2, Below.heap_setCell W _ _ b11 h11g, hk2.block b11 (Array.getElem?_eq_some_iff.1 h1).1 h11p]
    exact h1
  rw [← hl'] at q9 hD2
  obtain ⟨cur', hg', hcur'⟩ := hD2.at2 (by rw [hl']; exact hi)
  refine add_D3 (N := N) d2 s2 q9 q10 q11 hD2 (by rw [hl']; exact hi) (by rw [hl']; exact hn) hb11' (cell_at hg' hcur') (by rw [hpe]; exact h3) ?_ ?_
  · intro a3 w3 d3 s3 r6 r7 r8 hk3 hok
    subst hok
    obtain rfl := Option.some.inj hF
    exact hR a3 w3 (fin_keep hD2 hk3 d3 s3 r6 r7 r8 ⟨by decide, by decide⟩)
  · intro a3 w3 W3 tv dv Z2 d3 s3 r6 r7 r8 hk3 hk4 ht hdv hz hok
    subst hok
    obtain rfl := Option.some.inj hF
    rw [modify_erase] at ht
    exact hR a3 w3 (fin_erase hD2 (by rw [hl']; rfl) hk3 hk4 d3 s3 r6 r7 r8 ⟨by decide, by decide⟩ ht hdv hz)
theorem add_core {N : Nat} {R : Ending → World → Prop} {a : Act} {w w0 : World} {Z Z0 : Nat → Prop} {l : List D99} {i b4 : Nat} {v pv : Value} {us : List Value} {p : D97} {ps : List Value} {y : AddR} (hd : a.defers = []) (hs : a.tmps.size = 124)
    (h4 : a.tmps.getD 4 undef = .pointer (some ⟨b4, 0, none⟩)) (h9 : a.tmps.getD 9 undef = v) (h10 : a.tmps.getD 10 undef = .int .i64 i)
    (hD : Deep w0 Z0 l i w Z v pv us) (hi : i < l.length) (hn : l.length ≤ 1001) (hps : (psAt l i).length ≤ 1000) (hp : DR w Z T97 p ps) (hb4 : w.heap[b4]? = some (.cells ps.toArray 98 (0, 0))) (hF : addCore N l i p = some y)
    (hR : ∀ a' w', Fin w0 Z0 y a' w' → bodyPost Try.prog Try.f66 R .ret a' w') :
    listWp Try.prog [add_c8, add_c9, add_c10, add_c11, add_c12, add_c13, add_c14, add_c15, add_c16, add_c17] (bodyPost Try.prog Try.f66 R) a w := by
  obtain ⟨g, c, rfl, _, hgw, hvp⟩ := hD.at hi
  refine add_C1 hd hs h4 h9 h10 hi ?_
  intro a1 w1 d1 s1 p4 p9 p10 p11 p12 hk1 hb11
  have hD1 := hD.world hk1
  have hp1 : DR w1 Z T97 p ps := hp.mono (hk1.same fun _ _ h => h) fun _ h => h
  have kp : ∀ {b : Nat} {o : Obj}, w.heap[b]? = some o → w1.heap[b]? = some o := fun {b o} h => by
    rw [hk1.block b (Array.getElem?_eq_some_iff.1 h).1 fun h => h]; exact h
  refine add_C2 d1 s1 p4 p9 p10 p11 p12 hD1 hi hn hps hp1 (kp hb4) hb11 (cell_keep (fun k hk => hk1.block k hk fun h => h) hvp) hF ?_ ?_ ?_
  · intro a2 w2 d2 s2 r6 r7 r8 hk2 hy
    subst hy
    exact hR a2 w2 (fin_keep hD1 hk2 d2 s2 r6 r7 r8 ⟨by decide, by decide⟩)
  · intro a2 w2 W tv e d2 s2 r6 r7 r8 hk2 hk3 ht hy he
    subst hy
    exact hR a2 w2 (fin_erase (Z2 := fun _ => False) hD1 rfl hk2 hk3 d2 s2 r6 r7 r8 he ht dr_nil (fun b hb => hb.elim))
  · intro a2 w2 d2 s2 r4 r9 r10 r11 hk2 hF2
    refine add_put d2 s2 r4 r9 r10 r11 (hD1.world hk2) hi hn hps (hp1.mono (hk2.same fun _ _ h => h) fun _ h => h) ?_ ?_ (fun e => by have := hD.plt _ e; omega) (by omega) hF2 hR
    · have h := kp hb4
      rw [hk2.block b4 (Array.getElem?_eq_some_iff.1 h).1 fun h => h]; exact h
    · rw [hk2.block _ (Array.getElem?_eq_some_iff.1 hb11).1 fun h => h]; exact hb11
end Go.Proofs.Ytgbkkfpheahdfaa

namespace Go.Proofs.Ytgbkkfpheahdfaa
open Go
open Go.RowKit
def sameB (a : D99) (p : D97) : Bool := dq T27 a.1 p.1 && (dq T27 a.2.1 p.2.1 && decide (a.2.2.1 = p.2.2.1))
theorem f1_eq (N : Nat) (a : D99) (p : D97) : ipfrag_Add_f1 N a p = some ((sameB a p, ()), ()) := by
  unfold ipfrag_Add_f1 sameB
  cases dq T27 a.1 p.1 <;> cases dq T27 a.2.1 p.2.1 <;> rfl
def sameAt (l : List D99) (p : D97) (k : Nat) : Bool := match l[k]? with
  | some a => sameB a p
  | none => false
def findAt (l : List D99) (p : D97) : Option Nat := (List.range l.length).find? (sameAt l p)
def idxInt : Option Nat → Int
  | some k => (k : Int)
  | none => -1
theorem same_calls {w : World} {Z : Nat → Prop} {x : D99} {p : D97} {cs ps : List Value} {b4 : Nat} (hZ : ∀ b, Z b → b < w.heap.size) (hx : DR w Z T99 x cs) (hp : DR w Z T97 p ps) (hb : w.heap[b4]? = some (.cells ps.toArray 98 (0, 0))) :
    Calls Try.prog 126 #[.agg cs.toArray, .pointer (some ⟨b4, 0, none⟩)] w fun e w' => e = .returned (.bool (sameB x p)) ∧ Kept (fun _ => False) w w' := by
  have hlt := (Array.getElem?_eq_some_iff.1 hb).1
  have hs : Same Z w w := Same.refl _ _
  refine (ctr_call (M := fun _ => False) (Z := fun b => Z b ∨ b = b4) (ob := fun _ => undef) (ipfrag_Add_f1_ok 0) (Nat.le_refl _) (args := [.agg cs.toArray, .pointer (some ⟨b4, 0, none⟩)]) (x := ((x, p, ()), ())) (y := ((sameB x p, ()), ())) rfl (fun b hb => hb.elim (hZ b) fun e => by omega)
    ⟨⟨cs, hx.mono hs fun _ h => .inl h, rfl⟩, ⟨b4, 0, ps, rfl, .inr rfl, hlt, hp.mono hs fun _ h => .inl h, fun j u hj => by rw [Nat.zero_add]; exact cell_at hb hj⟩, trivial⟩ (fun g hg => ?_) (fun i o hl => by simp [ipfrag_Add_f1_ctr, ipfrag_Add_f1_S0, stOs] at hl) (fun i j h1 h2 => absurd h2 (Nat.not_lt_zero _)) (f1_eq 0 x p)).mono ?_
  · have hg' : g ∈ [GV.sv (.data T99 x), .sv (.fp T97 p)] := hg
    simp only [List.mem_cons, List.not_mem_nil, or_false] at hg'
    rcases hg' with rfl | rfl <;> trivial
  · rintro e w' ⟨vs, ob', Z', rfl, hl, hr⟩
    match vs, hl with
    | [v], _ =>
    have h1 : v = .bool (sameB x p) := SR.bool (ob := ob') (hr.slots 0 (.sv (.data .bool (sameB x p))) rfl).2.1
    exact ⟨by rw [h1]; rfl, hr.kept⟩
theorem find_lt {n k : Nat} {r : Nat → Bool} (hk : k < n) (h : r k = true) (hno : ∀ q, q < k → r q = false) : (List.range n).find? r = some k := by
  rw [List.find?_range_eq_some]
  exact ⟨h, List.mem_range.2 hk, fun j hj => by rw [hno j hj]; rfl⟩
theorem find_no {n : Nat} {r : Nat → Bool} (hno : ∀ q, q < n → r q = false) : (List.range n).find? r = none := by
  rw [List.find?_range_eq_none]
  intro j hj
  rw [hno j hj]; rfl
set_option maxRecDepth 100000 in
set_option maxHeartbeats 1000000 in
/-- slices.IndexFunc over assemblies, with the closure that compares. -/
theorem index_asm {w : World} {g o n c b4 : Nat} {css : List (List Value)} {A : Option Addr} (hA : 0 < n → A = some ⟨g, o, none⟩) (hn : n ≤ 9223372036854775807) (hl : ∀ k, k < n → (css.getD k []).length = 9)
    (hcell : ∀ W, Kept (fun _ => False) w W → ∀ k, k < n → ∀ j u, (css.getD k [])[j]? = some u → W.cell? ⟨g, o + k * 9 + j, none⟩ = some u) {r : Nat → Bool}
    (hc : ∀ k, k < n → ∀ W, Kept (fun _ => False) w W → Calls Try.prog 126 #[.agg (css.getD k []).toArray, .pointer (some ⟨b4, 0, none⟩)] W fun e w' => e = .returned (.bool (r k)) ∧ Kept (fun _ => False) W w') :
    Calls Try.prog 125 #[.slice A n c, .func (.func 126) #[] #[.pointer (some ⟨b4, 0, none⟩)]] w fun e w' => e = .returned (.int .i64 (idxInt ((List.range n).find? r))) ∧ Kept (fun _ => False) w w' := by
  go_enter Try.func125, Try.ntmps125
  go_wp2_with fail
  go_loopw [8] (fun i wr => ∃ k : Nat, k ≤ n ∧ i = .int .i64 k ∧ Kept (fun _ => False) w wr ∧ ∀ q, q < k → r q = false) (fun i _ => n - (intOf i).toNat)
  case atStart => exact ⟨0, by omega, rfl, Kept.refl _ _, fun q hq => by omega⟩
  case round =>
    obtain ⟨k, hk, rfl, hkp, hno⟩ := hrel
    by_cases h1 : k < n
    · obtain rfl := hA (by omega)
      clear hA
      obtain ⟨q0, q1, q2, q3, q4, q5, q6, q7, q8, hq⟩ := len9 (hl k h1)
      have hcell := hcell wr hkp k h1
      have hc := hc k h1 wr hkp
      rw [hq] at hcell hc
      have c0 : wr.cell? ⟨g, o + k * 9, none⟩ = some q0 := hcell 0 q0 rfl
      have c1 := hcell 1 q1 rfl
      have c2 := hcell 2 q2 rfl
      have c3 := hcell 3 q3 rfl
      have c4 := hcell 4 q4 rfl
      have c5 := hcell 5 q5 rfl
      have c6 := hcell 6 q6 rfl
      have c7 := hcell 7 q7 rfl
      have c8 := hcell 8 q8 rfl
      have hw : IntKind.i64.wrap ((k : Int) + 1) = (k : Int) + 1 := by rw [IntKind.wrap_i64]; omega
      clear hcell hq hl
      cases hr : r k with
      | true =>
        rw [hr] at hc
        have hany := find_lt h1 hr hno
        clear hno hr
        go_wp2_with (refine hc.mono ?_; rintro e W ⟨rfl, hk2⟩)
        go_ret
        refine ⟨?_, hkp.trans hk2 fun _ h => h.elim⟩
        rw [hany]; rfl
      | false =>
        rw [hr] at hc
        have hno' : ∀ q, q < k + 1 → r q = false := fun q hq => by
          rcases Nat.lt_or_ge q k with h | h
          · exact hno q h
          · obtain rfl : q = k := by omega
            exact hr
        clear hno hr
        go_wp2_with (refine hc.mono ?_; rintro e W ⟨rfl, hk2⟩)
        go_roundw
        case rel => exact ⟨k + 1, by omega, by go_num, hkp.trans hk2 fun _ h => h.elim, hno'⟩
        case measure => simp [intOf]; omega
    · obtain rfl : k = n := by omega
      have hany := find_no hno
      clear hno hcell hc hl hA
      go_wp2_with fail
      go_ret
      exact ⟨by rw [hany]; rfl, hkp⟩
/-- The search for the assembly of a piece. -/
theorem find_asm {w w0 : World} {Z Z0 : Nat → Prop} {l : List D99} {i : Nat} {v pv : Value} {us : List Value} (h : Deep w0 Z0 l i w Z v pv us) (hn : l.length ≤ 1000) {p : D97} {ps : List Value} {b4 : Nat} (hp : DR w Z T97 p ps) (hb : w.heap[b4]? = some (.cells ps.toArray 98 (0, 0))) :
    Calls Try.prog 125 #[v, .func (.func 126) #[] #[.pointer (some ⟨b4, 0, none⟩)]] w fun e w' => e = .returned (.int .i64 (idxInt (findAt l p))) ∧ Kept (fun _ => False) w w' := by
  obtain ⟨A, c, o, g, hv, hA, hcell⟩ : ∃ A c o g, v = .slice A l.length c ∧ (0 < l.length → A = some ⟨g, o, none⟩) ∧ ∀ W, Kept (fun _ => False) w W → ∀ k, k < l.length → ∀ j u, ((TC l us).getD k [])[j]? = some u → W.cell? ⟨g, o + k * 9 + j, none⟩ = some u := by
    rcases h.row.2 with ⟨e, e2⟩ | ⟨g, cp, cur, hv, _, hg, _, _, _, ht⟩
    · exact ⟨none, 0, 0, 0, by rw [e, e2], fun h => by omega, fun W hW k hk => by omega⟩
    · refine ⟨some ⟨g, 0, none⟩, cp, 0, g, hv, fun _ => rfl, fun W hW k hk j u hu => ?_⟩
      have hg' : W.heap[g]? = some (.cells cur 100 (0, 0)) := by
        rw [hW.block g (Array.getElem?_eq_some_iff.1 hg).1 fun h => h]; exact hg
      have hkl : k < (TC l us).length := by simp [TC, h.len]; exact hk
      have hck : (TC l us)[k]? = some ((TC l us).getD k []) := by simp [List.getD, hkl]
      have hj : j < 9 := by
        have := (List.getElem?_eq_some_iff.1 hu).1
        rw [tc_len _ (List.mem_of_getElem? hck)] at this
        exact this
      have := flatten_at (k := 9) tc_len k j _ hck hj
      rw [hu, ← ht, List.getElem?_take] at this
      split at this
      · rw [Nat.zero_add]; exact cell_at hg' this
      · cases this
  rw [hv]
  have hlen : ∀ k, k < l.length → (TC l us)[k]? = some ((TC l us).getD k []) := fun k hk => by
    have hkl : k < (TC l us).length := by simp [TC, h.len]; exact hk
    simp [List.getD, hkl]
  refine index_asm (r := sameAt l p) hA (by omega) (fun k hk => tc_len _ (List.mem_of_getElem? (hlen k hk))) hcell fun k hk W hW => ?_
  obtain ⟨x, hx⟩ : ∃ x, l[k]? = some x := ⟨l[k], by simp [hk]⟩
  have hall : All2 (DR W (fun b => Z b ∨ blk pv = some b) T99) l (TC l us) := tab_all h.len fun k x u hx hu => by
    obtain ⟨h1, h2, h3⟩ := (h.world hW).els k x u hx hu
    refine ⟨h1, ?_⟩
    by_cases e : k = i
    · have := (h.world hW).pieces (Z' := fun b => Z b ∨ blk pv = some b) (fun _ h => .inl h) (fun _ h => .inr h)
      rw [h2 e]
      simpa only [psAt, ← e, hx] using this
    · exact (h3 e).mono (Same.refl _ _) fun _ h => .inl h
  obtain ⟨cs, hcs, hd⟩ := All2.get k x hall hx
  have e : (TC l us).getD k [] = cs := by simp [List.getD, hcs]
  have er : sameAt l p k = sameB x p := by simp [sameAt, hx]
  rw [e, er]
  refine same_calls (Z := fun b => Z b ∨ blk pv = some b) (fun b hb => Nat.lt_of_lt_of_le (hb.elim (h.zlt b) (h.plt b)) hW.size) hd (hp.mono (hW.same fun _ _ h => h) fun _ h => .inl h) ?_
  rw [hW.block b4 (Array.getElem?_eq_some_iff.1 hb).1 fun h => h]; exact hb
end Go.Proofs.Ytgbkkfpheahdfaa

namespace Go.Proofs.Ytgbkkfpheahdfaa
open Go
open Go.RowKit
set_option maxRecDepth 100000
def smallA (l : List D99) (p : D97) : Bool := decide (l.length ≤ 1000) && (decide (p.2.2.2.2.2.1.length ≤ 100000) && l.all fun x => decide (x.2.2.2.1.length ≤ 1000) && x.2.2.2.1.all fun q => decide (q.2.2.2.2.2.1.length ≤ 100000))
def newA (p : D97) (now : Int) : D99 := (p.1, p.2.1, p.2.2.1, [], now, ())
/-- The box of the piece, apart from the table. -/
structure Box (w0 w : World) (Z : Nat → Prop) (v pv : Value) (p : D97) (u : Value) (b4 : Nat) : Prop where
  heap : w.heap[b4]? = some (.cells (PC p u).toArray 98 (0, 0))
  dr : DR w Z T97 p (PC p u)
  z : ¬ Z b4
  v : blk v ≠ some b4
  p : blk pv ≠ some b4
  lo : w0.heap.size ≤ b4
set_option maxHeartbeats 4000000 in
theorem add_H1 {N : Nat} {R : Ending → World → Prop} {a : Act} {w0 : World} {Z0 : Nat → Prop} {l : List D99} {lv u : Value} {p : D97} {now : Int} {r : Bool} {rest : List Code} (i : Nat) (hd : a.defers = []) (hs : a.tmps.size = 124)
    (h0 : a.tmps.getD 0 undef = lv) (h1 : a.tmps.getD 1 undef = .agg (PC p u).toArray) (h2 : a.tmps.getD 2 undef = .int .i64 now) (hl : DR w0 Z0 (.sl T99) l [lv]) (hp : DR w0 Z0 T97 p (PC p u)) (hz : ∀ b, Z0 b → b < w0.heap.size) (hsz : l.length ≤ 1000)
    (hps : ∀ x ∈ l, x.2.2.2.1.length ≤ 1000 ∧ ∀ p ∈ x.2.2.2.1, p.2.2.2.2.2.1.length ≤ 100000) (hF : ipfrag_right N p = some ((r, ()), ())) (hR : ∀ a' w', Fin w0 Z0 ((l, [], 5, ()), ()) a' w' → r = false → bodyPost Try.prog Try.f66 R .ret a' w')
    (hK : ∀ a' w' v pv Z us b4, a'.defers = [] → a'.tmps.size = 124 → a'.tmps.getD 2 undef = .int .i64 now → a'.tmps.getD 4 undef = .pointer (some ⟨b4, 0, none⟩) → a'.tmps.getD 9 undef = v → Deep w0 Z0 l i w' Z v pv us → Box w0 w' Z v pv p u b4 → r = true →
      listWp Try.prog rest (bodyPost Try.prog Try.f66 R) a' w') :
    listWp Try.prog (add_c0 :: add_c1 :: add_c2 :: add_c3 :: rest) (bodyPost Try.prog Try.f66 R) a w0 := by
  have mixed := ip_mixed
  have hk1 : Kept (fun _ => False) w0 (w0.alloc (.cells (PC p u).toArray 98)) := Kept.alloc _ _
  have hb1 : (w0.alloc (.cells (PC p u).toArray 98)).heap[w0.heap.size]? = some (.cells (PC p u).toArray 98 (0, 0)) := heap_alloc_new w0 _
  have cc := copies_calls (w0 := w0.alloc (.cells (PC p u).toArray 98)) i (hl.mono (hk1.same fun _ _ h => h) fun _ h => h) (fun b hb => Nat.lt_of_lt_of_le (hz b hb) hk1.size) hsz hps
  have hp1 : DR (w0.alloc (.cells (PC p u).toArray 98)) Z0 T97 p (PC p u) := hp.mono (hk1.same fun _ _ h => h) fun _ h => h
  obtain ⟨x, rfl, hx⟩ := act124 hd hs
  have e0 : x 0 = lv := h0
  have e1 : x 1 = .agg (PC p u).toArray := h1
  have e2 : x 2 = .int .i64 now := h2
  clear h0 h1 h2 hx hd hs
  rw [e0, e1, e2]
  clear e0 e1 e2 hps hl
  generalize hw1 : w0.alloc (.cells (PC p u).toArray 98) = w1 at *
  show add_c0.wp Try.prog (Exit.then (listWp Try.prog (add_c1 :: add_c2 :: add_c3 :: rest) (bodyPost Try.prog Try.f66 R)) (bodyPost Try.prog Try.f66 R)) _ _
  unfold add_c0
  go_wp2_with fail
  show add_c1.wp Try.prog (Exit.then (listWp Try.prog (add_c2 :: add_c3 :: rest) (bodyPost Try.prog Try.f66 R)) (bodyPost Try.prog Try.f66 R)) _ _
  unfold add_c1
  go_wp2_with fail
  refine cc.mono ?_
  rintro e W ⟨v, pv, Z, us, rfl, hD⟩
  clear cc
  have hbW : W.heap[w0.heap.size]? = some (.cells (PC p u).toArray 98 (0, 0)) := by
    rw [hD.kept.block _ (Array.getElem?_eq_some_iff.1 hb1).1 fun h => h]; exact hb1
  have hb1l := (Array.getElem?_eq_some_iff.1 hb1).1
  have hbox : Box w0 W Z v pv p u w0.heap.size := ⟨hbW, hp1.mono (hD.kept.same fun _ _ h => h) hD.zin, fun h => by have := hz _ (hD.zout _ h hb1l); omega, fun e => by have := (hD.vz _ e).2; omega, fun e => by have := (hD.pz _ e).2; omega, Nat.le_refl _⟩
  have rc := right_calls (N := N) hD.zlt hbox.dr hF
  have hD0 := hD.rebase hk1
  have k0 := cell_of_row W w0.heap.size 0 _ 98 (0, 0) hbW
  have k1 := cell_of_row W w0.heap.size 1 _ 98 (0, 0) hbW
  have k2 := cell_of_row W w0.heap.size 2 _ 98 (0, 0) hbW
  have k3 := cell_of_row W w0.heap.size 3 _ 98 (0, 0) hbW
  have k4 := cell_of_row W w0.heap.size 4 _ 98 (0, 0) hbW
  have k5 := cell_of_row W w0.heap.size 5 _ 98 (0, 0) hbW
  have k6 := cell_of_row W w0.heap.size 6 _ 98 (0, 0) hbW
  have k7 := cell_of_row W w0.heap.size 7 _ 98 (0, 0) hbW
  have k8 := cell_of_row W w0.heap.size 8 _ 98 (0, 0) hbW
  have k9 := cell_of_row W w0.heap.size 9 _ 98 (0, 0) hbW
  simp only [PC, List.getElem?_toArray, List.getElem?_cons_zero, List.getElem?_cons_succ] at k0 k1 k2 k3 k4 k5 k6 k7 k8 k9
  clear hp hz hF hp1 hb1 hbW hb1l hD hk1 hsz
  go_wp2_with fail
  show add_c2.wp Try.prog (Exit.then (listWp Try.prog (add_c3 :: rest) (bodyPost Try.prog Try.f66 R)) (bodyPost Try.prog Try.f66 R)) _ _
  unfold add_c2
  go_wp2_with fail
  refine rc.mono ?_
  rintro e W2 ⟨rfl, hk2⟩
  clear rc k0 k1 k2 k3 k4 k5 k6 k7 k8 k9
  have hD2 := hD0.world hk2
  have hbox2 : Box w0 W2 Z v pv p u w0.heap.size := ⟨by rw [hk2.block _ (Array.getElem?_eq_some_iff.1 hbox.heap).1 fun h => h]; exact hbox.heap, hbox.dr.mono (hk2.same fun _ _ h => h) fun _ h => h, hbox.z, hbox.v, hbox.p, hbox.lo⟩
  clear hD0 hbox hk2
  go_wp2_with fail
  show add_c3.wp Try.prog (Exit.then (listWp Try.prog rest (bodyPost Try.prog Try.f66 R)) (bodyPost Try.prog Try.f66 R)) _ _
  unfold add_c3
  cases r with
  | false =>
    clear hK
    go_wp2_with fail
    exact hR _ _ (fin_keep hD2 (Kept.refl _ _) rfl rfl rfl rfl rfl ⟨by decide, by decide⟩) trivial
  | true =>
    clear hR
    go_wp2_with fail
    exact hK _ _ v pv Z us _ rfl rfl rfl rfl rfl hD2 hbox2 trivial
set_option maxHeartbeats 4000000 in
theorem add_H2 {R : Ending → World → Prop} {a : Act} {w w0 : World} {Z Z0 : Nat → Prop} {l : List D99} {i b4 : Nat} {v pv u : Value} {us : List Value} {p : D97} {now : Int} {rest : List Code} (hd : a.defers = []) (hs : a.tmps.size = 124)
    (h2 : a.tmps.getD 2 undef = .int .i64 now) (h4 : a.tmps.getD 4 undef = .pointer (some ⟨b4, 0, none⟩)) (h9 : a.tmps.getD 9 undef = v) (hD : Deep w0 Z0 l i w Z v pv us) (hB : Box w0 w Z v pv p u b4) (hsz : l.length ≤ 1000) (hdl : p.2.2.2.2.2.1.length ≤ 100000)
    (hK : ∀ a' w' Z' u', a'.defers = [] → a'.tmps.size = 124 → a'.tmps.getD 2 undef = .int .i64 now → a'.tmps.getD 4 undef = .pointer (some ⟨b4, 0, none⟩) → a'.tmps.getD 9 undef = v → a'.tmps.getD 10 undef = .int .i64 (idxInt (findAt l p)) → a'.tmps.getD 31 undef = .bool (decide (idxInt (findAt l p) < 0)) →
      Deep w0 Z0 l i w' Z' v pv us → Box w0 w' Z' v pv p u' b4 → listWp Try.prog rest (bodyPost Try.prog Try.f66 R) a' w') :
    listWp Try.prog (add_c4 :: add_c5 :: add_c6 :: rest) (bodyPost Try.prog Try.f66 R) a w := by
  have mixed := ip_mixed
  obtain ⟨u0, e0, hpb, hud⟩ := dr_pc hB.dr
  have hu0 : u0 = u := by
    have := congrArg (fun l => l[9]?) e0
    simp [PC] at this
    exact this.symm
  subst hu0
  have hcl : slices_Clone___byte_byte_ 0 p.2.2.2.2.2.1 = some ((), (p.2.2.2.2.2.1, ())) := by
    unfold slices_Clone___byte_byte_
    have : room (([] : List UInt8).length + p.2.2.2.2.2.1.length) 1 = true := by simp [room]; omega
    rw [this]; rfl
  have cc := clone_calls hD.zlt hud hcl
  obtain ⟨x, rfl, hx⟩ := act124 hd hs
  have e2 : x 2 = .int .i64 now := h2
  have e4 : x 4 = .pointer (some ⟨b4, 0, none⟩) := h4
  have e9 : x 9 = v := h9
  clear h2 h4 h9 hx hd hs
  rw [e2, e4, e9]
  have k9 : w.cell? ⟨b4, 9, none⟩ = some u0 := cell_at hB.heap rfl
  clear e0 e2 e4 e9 hcl hud
  show add_c4.wp Try.prog (Exit.then (listWp Try.prog (add_c5 :: add_c6 :: rest) (bodyPost Try.prog Try.f66 R)) (bodyPost Try.prog Try.f66 R)) _ _
  unfold add_c4
  go_wp2_with fail
  refine cc.mono ?_
  rintro e W ⟨dv, Z2, rfl, hk, hdv, hz2⟩
  clear cc k9
  obtain ⟨A, c, hdvs⟩ : ∃ A c, dv = .slice A p.2.2.2.2.2.1.length c := by
    obtain ⟨A, c, e, _⟩ := hdv
    exact ⟨A, c, List.head_eq_of_cons_eq e⟩
  have hbW : W.heap[b4]? = some (.cells (PC p u0).toArray 98 (0, 0)) := by
    rw [hk.block _ (Array.getElem?_eq_some_iff.1 hB.heap).1 fun h => h]; exact hB.heap
  have k9 : W.cell? ⟨b4, 9, none⟩ = some u0 := cell_at hbW rfl
  have f9 : W.frozen? ⟨b4, 9, none⟩ = false := frozen00 hbW
  have hks : Kept (fun b => b = b4) w (W.setCell ⟨b4, 9, none⟩ dv) := (hk.weak fun _ h => h.elim).trans setCell_kept fun b hb => .inl hb
  have hz2' : ∀ b, Z2 b → b < W.heap.size ∧ blk v ≠ some b ∧ blk pv ≠ some b ∧ (b < w0.heap.size → Z0 b) := fun b hb =>
    ⟨(hz2 b hb).1, fun e => (hD.vz b e).1 ((hz2 b hb).2 (own_lt hD.row b e)), fun e => (hD.pz b e).1 ((hz2 b hb).2 (hD.plt b e)), fun hl => hD.zout b ((hz2 b hb).2 (Nat.lt_of_lt_of_le hl hD.kept.size)) hl⟩
  have h4w := (Array.getElem?_eq_some_iff.1 hB.heap).1
  have hz24 : ¬ Z2 b4 := fun h => hB.z ((hz2 b4 h).2 h4w)
  have hD2 := hD.weak (Y := Z2) hks (fun b hb => by subst hb; exact ⟨hB.z, hB.v, hB.p, hB.lo⟩) (fun b hb => ⟨Nat.lt_of_lt_of_le (hz2' b hb).1 (setCell_kept (W := W) (g := b4) (o := 9) (t := dv)).size, (hz2' b hb).2⟩)
  have hB2 : Box w0 (W.setCell ⟨b4, 9, none⟩ dv) (fun b => Z b ∨ Z2 b) v pv p dv b4 := ⟨setCell_at hbW, dr_pc_mk hpb (hdv.mono (setCell_kept.same fun b hb e => by subst e; exact hz24 hb) fun _ h => .inr h), fun h => h.elim hB.z hz24, hB.v, hB.p, hB.lo⟩
  have fc := find_asm hD2 hsz hB2.dr hB2.heap
  generalize hws : W.setCell ⟨b4, 9, none⟩ dv = ws at hD2 hB2 fc
  subst hdvs
  clear hD hB hdv hz2 hbW hks hz2' h4w hz24 hk hpb hsz hdl
  go_wp2_with fail
  show add_c5.wp Try.prog (Exit.then (listWp Try.prog (add_c6 :: rest) (bodyPost Try.prog Try.f66 R)) (bodyPost Try.prog Try.f66 R)) _ _
  unfold add_c5
  clear hws
  go_wp2_with fail
  refine fc.mono ?_
  rintro e W2 ⟨rfl, hk2⟩
  have hD3 := hD2.world hk2
  have hB3 : Box w0 W2 (fun b => Z b ∨ Z2 b) v pv p _ b4 := ⟨by rw [hk2.block _ (Array.getElem?_eq_some_iff.1 hB2.heap).1 fun h => h]; exact hB2.heap, hB2.dr.mono (hk2.same fun _ _ h => h) fun _ h => h, hB2.z, hB2.v, hB2.p, hB2.lo⟩
  clear fc hD2 hB2 hk2 k9 f9
  go_wp2_with fail
  show add_c6.wp Try.prog (Exit.then (listWp Try.prog rest (bodyPost Try.prog Try.f66 R)) (bodyPost Try.prog Try.f66 R)) _ _
  unfold add_c6
  go_wp2_with fail
  exact hK _ _ _ _ rfl rfl rfl rfl rfl rfl rfl hD3 hB3
end Go.Proofs.Ytgbkkfpheahdfaa

namespace Go.Proofs.Ytgbkkfpheahdfaa
open Go
open Go.RowKit
set_option maxRecDepth 100000
set_option maxHeartbeats 4000000 in
theorem add_H3a {R : Ending → World → Prop} {a : Act} {w : World} {k : Nat} {rest : List Code} (h31 : a.tmps.getD 31 undef = .bool (decide (((k : Nat) : Int) < 0))) (hK : listWp Try.prog rest (bodyPost Try.prog Try.f66 R) a w) :
    listWp Try.prog (add_c7 :: rest) (bodyPost Try.prog Try.f66 R) a w := by
  have hk : decide (((k : Nat) : Int) < 0) = false := decide_eq_false (by omega)
  rw [hk] at h31
  show add_c7.wp Try.prog (Exit.then (listWp Try.prog rest (bodyPost Try.prog Try.f66 R)) (bodyPost Try.prog Try.f66 R)) _ _
  unfold add_c7
  exact wp_cond_false h31 (wp_skip hK)
set_option maxHeartbeats 4000000 in
theorem add_H3b {R : Ending → World → Prop} {a : Act} {w w0 : World} {Z Z0 : Nat → Prop} {l : List D99} {i b4 : Nat} {v pv u : Value} {us : List Value} {p : D97} {now : Int} {rest : List Code} (hd : a.defers = []) (hs : a.tmps.size = 124)
    (h2 : a.tmps.getD 2 undef = .int .i64 now) (h4 : a.tmps.getD 4 undef = .pointer (some ⟨b4, 0, none⟩)) (h9 : a.tmps.getD 9 undef = v) (h31 : a.tmps.getD 31 undef = .bool (decide ((-1 : Int) < 0))) (hD : Deep w0 Z0 l i w Z v pv us) (hB : Box w0 w Z v pv p u b4) (hsz : l.length ≤ 1000) (hi : i = l.length) (hnow : I64 now)
    (hR : 6 ≤ l.length → ∀ a' w', Fin w0 Z0 ((l, [], 25, ()), ()) a' w' → bodyPost Try.prog Try.f66 R .ret a' w')
    (hK : ¬ 6 ≤ l.length → ∀ a' w' Z' v' pv' us', a'.defers = [] → a'.tmps.size = 124 → a'.tmps.getD 4 undef = .pointer (some ⟨b4, 0, none⟩) → a'.tmps.getD 9 undef = v' → a'.tmps.getD 10 undef = .int .i64 (i : Nat) →
      Deep w0 Z0 (l ++ [newA p now]) i w' Z' v' pv' us' → Box w0 w' Z' v' pv' p u b4 → listWp Try.prog rest (bodyPost Try.prog Try.f66 R) a' w') :
    listWp Try.prog (add_c7 :: rest) (bodyPost Try.prog Try.f66 R) a w := by
  have mixed := ip_mixed
  obtain ⟨A, c, hv⟩ : ∃ A c, v = .slice A l.length c := by
    rcases hD.row.2 with ⟨e, e2⟩ | ⟨g, cp, _, e, _⟩
    · exact ⟨none, 0, by rw [e, e2]⟩
    · exact ⟨_, _, e⟩
  obtain ⟨x, rfl, hx⟩ := act124 hd hs
  have e2 : x 2 = .int .i64 now := h2
  have e4 : x 4 = .pointer (some ⟨b4, 0, none⟩) := h4
  have e9 : x 9 = v := h9
  have e31 : x 31 = .bool true := h31
  clear h2 h4 h9 h31 hx hd hs
  subst hv
  rw [e2, e4, e9, e31]
  clear e2 e4 e9 e31
  show add_c7.wp Try.prog (Exit.then (listWp Try.prog rest (bodyPost Try.prog Try.f66 R)) (bodyPost Try.prog Try.f66 R)) _ _
  unfold add_c7
  by_cases h6 : 6 ≤ l.length
  · have h6' : (6 : Int) ≤ (l.length : Int) := by omega
    have hR := hR h6
    clear hK
    go_wp2_with fail
    exact hR _ _ (fin_keep hD (Kept.refl _ _) rfl rfl rfl rfl rfl ⟨by decide, by decide⟩)
  · have h6' : ¬ (6 : Int) ≤ (l.length : Int) := by omega
    have hK := hK h6
    clear hR
    obtain ⟨i0, hi0, hzs, hzb, hz0⟩ := i100
    obtain ⟨u0, e0, hpb, hud⟩ := dr_pc hB.dr
    obtain ⟨W, hW⟩ : ∃ W, W = w.alloc (.cells (AC (newA p now) (.slice none 0 0)).toArray 100) := ⟨_, rfl⟩
    have hk1 : Kept (fun _ => False) w W := by rw [hW]; exact Kept.alloc _ _
    have hcells : ∀ k t, (AC (newA p now) (.slice none 0 0))[k]? = some t → W.cell? ((⟨w.heap.size, 0, none⟩ : Addr).add k) = some t := fun k t hk => by
      rw [Addr.add_lit, Nat.zero_add, hW]
      exact cell_at (heap_alloc_new w _) hk
    obtain ⟨v', w', hr, q1, q2, _, q5⟩ := run_append_own_at (P := Try.prog) W 0 94 94 100 i0 Z100 9 88 u94 hi0 hz0 hzs hzb rfl (by omega) (.slice A l.length c) l.length _ (own_keep hD.row hk1 fun _ _ h => h) ⟨w.heap.size, 0, none⟩ 1 1 (AC (newA p now) (.slice none 0 0)) rfl hcells (ac_one rfl) (by unfold maxLen; omega) (by omega) (Nat.zero_le _)
    have hk2 : Kept (fun b => blk (.slice A l.length c) = some b) W w' := (Kept.of_grown q2).weak fun b hb => by rw [rowBlk hD.row] at hb; exact hb
    have hvb : ∀ b, blk v' = some b → blk (.slice A l.length c) = some b ∨ W.heap.size ≤ b := fun b hb => by
      rw [← rowBlk q1] at hb
      rcases q5 with q | q
      · rw [q, rowBlk hD.row] at hb; exact .inl hb
      · rw [q] at hb; cases hb; exact .inr (Nat.le_refl _)
    obtain ⟨Z', pv', hD', hz', hz2, hp2⟩ := hD.snoc (x := newA p now) (Z1 := Z) (css := []) (u := .slice none 0 0) hk1 (fun b hb => ⟨Nat.lt_of_lt_of_le (hD.zlt b hb) hk1.size, fun e => (hD.vz b e).1 hb, fun _ => hb⟩) ⟨hpb.1, hpb.2.1, hpb.2.2.1, hnow⟩ trivial ⟨rfl, .inl ⟨rfl, rfl⟩⟩ (fun b hb => by cases hb) hk2 q1 hvb
    have hbl := (Array.getElem?_eq_some_iff.1 hB.heap).1
    have hBW : w'.heap[b4]? = some (.cells (PC p u).toArray 98 (0, 0)) := by
      rw [hk2.block b4 (Nat.lt_of_lt_of_le hbl hk1.size) hB.v, hk1.block b4 hbl fun h => h]; exact hB.heap
    have hsz : Same Z w w' := ⟨Nat.le_trans hk1.size hk2.size, fun b o hZ hl => ((hk2.same (Z := Z) fun b hb e => (hD.vz b e).1 hb).cell b o hZ (Nat.lt_of_lt_of_le hl hk1.size)).trans ((hk1.same (Z := Z) fun _ _ h => h).cell b o hZ hl)⟩
    have n1 : ¬ Z' b4 := fun h => by
      rcases hz2 b4 h with q | q | q
      · exact hB.z q
      · exact hB.z q
      · cases q
    have n2 : blk v' ≠ some b4 := fun e => by
      rcases hvb b4 e with q | q
      · exact hB.v q
      · have := hk1.size; omega
    have n3 : blk pv' ≠ some b4 := fun e => by
      rcases hp2 b4 e with q | q
      · exact hB.p q
      · cases q
    have hB' : Box w0 w' Z' v' pv' p u b4 := ⟨hBW, hB.dr.mono hsz hz', n1, n2, n3, hB.lo⟩
    have k0 := cell_of_row w b4 0 _ 98 (0, 0) hB.heap
    have k1 := cell_of_row w b4 1 _ 98 (0, 0) hB.heap
    have k2 := cell_of_row w b4 2 _ 98 (0, 0) hB.heap
    have k3 := cell_of_row w b4 3 _ 98 (0, 0) hB.heap
    have k4 := cell_of_row w b4 4 _ 98 (0, 0) hB.heap
    have k5 := cell_of_row w b4 5 _ 98 (0, 0) hB.heap
    have k6 := cell_of_row w b4 6 _ 98 (0, 0) hB.heap
    simp only [PC, List.getElem?_toArray, List.getElem?_cons_zero, List.getElem?_cons_succ] at k0 k1 k2 k3 k4 k5 k6
    subst hi
    subst hW
    simp only [AC, newA] at hr
    clear hD hB q1 q2 q5 hk1 hk2 hvb hcells hz' hz2 hp2 hbl hBW hsz n1 n2 n3 hpb hud e0 hnow
    go_wp2_with (at_builtin; refine Lib.wpList_append_run _ rfl _ _ _ _ rfl _ _ rfl rfl _ _ hr ?_)
    exact hK _ _ Z' v' pv' _ rfl rfl rfl rfl rfl hD' hB'
end Go.Proofs.Ytgbkkfpheahdfaa

namespace Go.Proofs.Ytgbkkfpheahdfaa
open Go
open Go.RowKit
set_option maxRecDepth 100000
noncomputable def addF (N : Nat) (l : List D99) (p : D97) (now : Int) : Option AddR :=
  bif smallA l p then
    (ipfrag_right N p).bind fun r => bif r.1.1 then
      (match findAt l p with
      | some k => addCore N l k p
      | none => bif decide (6 ≤ l.length) then some ((l, [], 25, ()), ()) else addCore N (l ++ [newA p now]) l.length p)
    else some ((l, [], 5, ()), ())
  else none
theorem smallA_ok {l : List D99} {p : D97} (h : smallA l p = true) : l.length ≤ 1000 ∧ p.2.2.2.2.2.1.length ≤ 100000 ∧ ∀ x ∈ l, x.2.2.2.1.length ≤ 1000 ∧ ∀ p ∈ x.2.2.2.1, p.2.2.2.2.2.1.length ≤ 100000 := by
  unfold smallA at h
  simp only [Bool.and_eq_true, decide_eq_true_eq, List.all_eq_true] at h
  exact ⟨h.1, h.2.1, fun x hx => ⟨(h.2.2 x hx).1, fun q hq => (h.2.2 x hx).2 q hq⟩⟩
theorem findAt_lt {l : List D99} {p : D97} {k : Nat} (h : findAt l p = some k) : k < l.length := by
  unfold findAt at h
  rw [List.find?_range_eq_some] at h
  exact List.mem_range.1 h.2.1
theorem fin_ret {w0 w : World} {Z0 : Nat → Prop} {y : AddR} {a : Act} {R : Ending → World → Prop} (h : Fin w0 Z0 y a w)
    (hR : ∀ tv dv Z, I64 y.1.2.2.1 → Kept (fun _ => False) w0 w → DR w Z (.sl T99) y.1.1 [tv] → DR w Z (.sl .u8) y.1.2.1 [dv] → Zok w0 Z0 w Z → R (.returned (.tuple #[tv, dv, .int .i64 y.1.2.2.1])) w) : bodyPost Try.prog Try.f66 R .ret a w := by
  obtain ⟨hd, hs, tv, dv, Z, h6, h7, h8, he, hk, ht, hdv, hz⟩ := h
  refine ⟨hd, _, results_tmp3 rfl _ _ _, ?_⟩
  rw [h6, h7, h8]
  exact hR tv dv Z he hk ht hdv hz
set_option maxHeartbeats 1000000 in
/-- ipfrag.Add. -/
theorem add_calls {N : Nat} {w0 : World} {Z0 : Nat → Prop} {l : List D99} {lv : Value} {p : D97} {ps : List Value} {now : Int} {y : AddR} (hl : DR w0 Z0 (.sl T99) l [lv]) (hp : DR w0 Z0 T97 p ps) (hnow : I64 now) (hz : ∀ b, Z0 b → b < w0.heap.size) (hF : addF N l p now = some y) :
    Calls Try.prog 66 #[lv, .agg ps.toArray, .int .i64 now] w0 fun e w' => ∃ tv dv Z, e = .returned (.tuple #[tv, dv, .int .i64 y.1.2.2.1]) ∧ I64 y.1.2.2.1 ∧ Kept (fun _ => False) w0 w' ∧ DR w' Z (.sl T99) y.1.1 [tv] ∧ DR w' Z (.sl .u8) y.1.2.1 [dv] ∧ Zok w0 Z0 w' Z := by
  obtain ⟨u, rfl, _, _⟩ := dr_pc hp
  unfold addF at hF
  have hsm : smallA l p = true := by
    cases hb : smallA l p with
    | true => rfl
    | false => rw [hb] at hF; cases hF
  rw [hsm, cond_true] at hF
  obtain ⟨hn, hdl, hps⟩ := smallA_ok hsm
  obtain ⟨⟨⟨r, ⟨⟩⟩, ⟨⟩⟩, hr, hF⟩ := Option.bind_eq_some_iff.1 hF
  obtain ⟨i, hi⟩ : ∃ i : Nat, match findAt l p with
    | some k => i = k
    | none => i = l.length := by
    cases findAt l p with
    | some k => exact ⟨k, rfl⟩
    | none => exact ⟨l.length, rfl⟩
  obtain ⟨c, hc⟩ : ∃ c, Try.f66.body = some c := ⟨_, rfl⟩
  have hL : flat c = add_L := by
    unfold add_L bodyOf
    simp only [hc]
  refine calls_of_wp (fn := Try.f66) (by kernel_rfl) hc (flat_wp ?_)
  rw [hL, add_flat]
  clear hL hc c
  have hfin : ∀ a' w', Fin w0 Z0 y a' w' → bodyPost Try.prog Try.f66 (fun e w' => ∃ tv dv Z, e = .returned (.tuple #[tv, dv, .int .i64 y.1.2.2.1]) ∧ I64 y.1.2.2.1 ∧ Kept (fun _ => False) w0 w' ∧ DR w' Z (.sl T99) y.1.1 [tv] ∧ DR w' Z (.sl .u8) y.1.2.1 [dv] ∧ Zok w0 Z0 w' Z) .ret a' w' :=
    fun a' w' h => fin_ret h fun tv dv Z h1 h2 h3 h4 h5 => ⟨tv, dv, Z, rfl, h1, h2, h3, h4, h5⟩
  refine add_H1 (N := N) (now := now) i rfl (by kernel_rfl) (by kernel_rfl) (by kernel_rfl) (by kernel_rfl) hl hp hz hn hps hr (fun a' w' h e => ?_) ?_
  · subst e
    obtain rfl := Option.some.inj hF
    exact hfin a' w' h
  · intro a1 w1 v pv Z us b4 d1 s1 p2 p4 p9 hD hB hrt
    subst hrt
    simp only [cond_true] at hF
    refine add_H2 d1 s1 p2 p4 p9 hD hB hn hdl ?_
    intro a2 w2 Z2 u2 d2 s2 q2 q4 q9 q10 q31 hD2 hB2
    cases hf : findAt l p with
    | some k =>
      rw [hf] at hi hF q10 q31
      obtain rfl : i = k := hi
      have hk := findAt_lt hf
      have hpk : (psAt l i).length ≤ 1000 := by
        unfold psAt
        cases hx : l[i]? with
        | none => exact Nat.zero_le _
        | some x => exact (hps x (List.mem_of_getElem? hx)).1
      exact add_H3a q31 (add_core d2 s2 q4 q9 q10 hD2 hk (by omega) hpk hB2.dr hB2.heap hF hfin)
    | none =>
      rw [hf] at hi hF q10 q31
      have hi' : i = l.length := hi
      refine add_H3b d2 s2 q2 q4 q9 q31 hD2 hB2 hn hi' hnow (fun h6 a' w' h => ?_) (fun h6 a3 w3 Z3 v3 pv3 us3 d3 s3 r4 r9 r10 hD3 hB3 => ?_)
      · simp only [decide_eq_true h6, cond_true] at hF
        obtain rfl := Option.some.inj hF
        exact hfin a' w' h
      · simp only [decide_eq_false h6, cond_false] at hF
        rw [← hi'] at hF
        refine add_core d3 s3 r4 r9 r10 hD3 (by simp; omega) (by simp; omega) ?_ hB3.dr hB3.heap hF hfin
        rw [hi', psAt_eq]
        exact Nat.zero_le _
end Go.Proofs.Ytgbkkfpheahdfaa
