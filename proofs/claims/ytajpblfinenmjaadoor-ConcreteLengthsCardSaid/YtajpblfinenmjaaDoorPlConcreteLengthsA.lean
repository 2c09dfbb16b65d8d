/- The ghost machine: an evaluator of the program's text over plain data, and its soundness. -/
import Derived.Test.YtajpblfinenmjaaDoorGmLoop
import Derived.Test.YtajpblfinenmjaaDoorGmInt
import Derived.KernelRfl
import Derived.Test.YtajpblfinenmjaaDoorFnvConcreteLengthsA
import Derived.Test.YtajpblfinenmjaaDoorFnsConcreteLengthsA
import Derived.Test.YtajpblfinenmjaaDoorRngConcreteLengthsA
import Derived.Test.YtajpblfinenmjaaDoorFntConcreteLengthsA
import Derived.Lib.Mul64
import Derived.Test.YtajpblfinenmjaaDoorNum
import Derived.Test.YtajpblfinenmjaaDoorFntConcreteLengthsB
import Derived.Test.YtajpblfinenmjaaDoorPolyTag
import Derived.Test.YtajpblfinenmjaaDoorRngConcreteLengthsC
set_option linter.unusedVariables false
set_option linter.unusedSimpArgs false
/- Plain: rules by which a walk over shallow functions is decided. -/
namespace Go.Proofs.YtajpblfinenmjaaDoor.Pl
open Go
theorem dpos {p : Prop} [Decidable p] (h : p) : decide p = true := decide_eq_true h
theorem dneg {p : Prop} [Decidable p] (h : ¬ p) : decide p = false := decide_eq_false h
theorem w64_of {x : Int} (h : -9223372036854775808 ≤ x) (h' : x ≤ 9223372036854775807) : w64 x = x := w64_id h h'
theorem inR_of {i : Int} {n : Nat} (h : 0 ≤ i) (h' : i < (n : Int)) : inR i n = true := by simp [inR, h, h']
theorem room_of {n k : Nat} (h : n * k ≤ 140737488355328) : room n k = true := by simp [room, h]
theorem tmod_of {a b : Int} (h : 0 ≤ a) : a.tmod b = a % b := Int.tmod_eq_emod_of_nonneg h

theorem take_snoc {α : Type} (l : List α) (d : α) {i : Nat} (h : i < l.length) : l.take (i + 1) = l.take i ++ [l.getD i d] := by
  rw [List.take_add_one, List.getElem?_eq_getElem h]
  simp [List.getD, h]
theorem cut_at (b : List UInt8) (k w : Nat) : cut b k (k + w) = (b.drop k).take w := by
  unfold cut; rw [List.drop_take]; congr 1; omega
end Go.Proofs.YtajpblfinenmjaaDoor.Pl

/- Plain: names, pair by pair. -/
namespace Go.Proofs.YtajpblfinenmjaaDoor.Pl
open Go
/-- The name number i. -/
def nmD (i : Nat) : TT.den := (2, ((i / 5 * 1048576 + i % 5 + 1 : Nat) : Int), [], ())
def shD (i j : Nat) : TT.den := (5, 0, [mkT (nmD i), mkT (nmD j)], ())
noncomputable def agQ (i j : Nat) : Option (Int × Int × List Tree × Unit) := (ref26_Agree 18446744073709551616 (4, 0, [mkT (nmD i)], ()) (nmD j)).map fun q => q.1.1
theorem agp_0_0 : agQ 0 0 = some (shD (min 0 0) (max 0 0)) := by kernel_rfl
theorem agp_0_1 : agQ 0 1 = some (shD (min 0 1) (max 0 1)) := by kernel_rfl
theorem agp_0_2 : agQ 0 2 = some (shD (min 0 2) (max 0 2)) := by kernel_rfl
theorem agp_0_3 : agQ 0 3 = some (shD (min 0 3) (max 0 3)) := by kernel_rfl
theorem agp_0_4 : agQ 0 4 = some (shD (min 0 4) (max 0 4)) := by kernel_rfl
theorem agp_0_5 : agQ 0 5 = some (shD (min 0 5) (max 0 5)) := by kernel_rfl
theorem agp_0_6 : agQ 0 6 = some (shD (min 0 6) (max 0 6)) := by kernel_rfl
theorem agp_0_7 : agQ 0 7 = some (shD (min 0 7) (max 0 7)) := by kernel_rfl
theorem agp_0_8 : agQ 0 8 = some (shD (min 0 8) (max 0 8)) := by kernel_rfl
theorem agp_0_9 : agQ 0 9 = some (shD (min 0 9) (max 0 9)) := by kernel_rfl
theorem agp_0_10 : agQ 0 10 = some (shD (min 0 10) (max 0 10)) := by kernel_rfl
theorem agp_0_11 : agQ 0 11 = some (shD (min 0 11) (max 0 11)) := by kernel_rfl
theorem agp_0_12 : agQ 0 12 = some (shD (min 0 12) (max 0 12)) := by kernel_rfl
theorem agp_0_13 : agQ 0 13 = some (shD (min 0 13) (max 0 13)) := by kernel_rfl
theorem agp_0_14 : agQ 0 14 = some (shD (min 0 14) (max 0 14)) := by kernel_rfl
theorem agp_0 (j : Nat) (h2 : j < 15) : agQ 0 j = some (shD (min 0 j) (max 0 j)) := by
  match j, h2 with
  | 0, _ => exact agp_0_0
  | 1, _ => exact agp_0_1
  | 2, _ => exact agp_0_2
  | 3, _ => exact agp_0_3
  | 4, _ => exact agp_0_4
  | 5, _ => exact agp_0_5
  | 6, _ => exact agp_0_6
  | 7, _ => exact agp_0_7
  | 8, _ => exact agp_0_8
  | 9, _ => exact agp_0_9
  | 10, _ => exact agp_0_10
  | 11, _ => exact agp_0_11
  | 12, _ => exact agp_0_12
  | 13, _ => exact agp_0_13
  | 14, _ => exact agp_0_14
  | n + 15, h => exact absurd h (by omega)
theorem agp_1_0 : agQ 1 0 = some (shD (min 1 0) (max 1 0)) := by kernel_rfl
theorem agp_1_1 : agQ 1 1 = some (shD (min 1 1) (max 1 1)) := by kernel_rfl
theorem agp_1_2 : agQ 1 2 = some (shD (min 1 2) (max 1 2)) := by kernel_rfl
theorem agp_1_3 : agQ 1 3 = some (shD (min 1 3) (max 1 3)) := by kernel_rfl
theorem agp_1_4 : agQ 1 4 = some (shD (min 1 4) (max 1 4)) := by kernel_rfl
theorem agp_1_5 : agQ 1 5 = some (shD (min 1 5) (max 1 5)) := by kernel_rfl
theorem agp_1_6 : agQ 1 6 = some (shD (min 1 6) (max 1 6)) := by kernel_rfl
theorem agp_1_7 : agQ 1 7 = some (shD (min 1 7) (max 1 7)) := by kernel_rfl
theorem agp_1_8 : agQ 1 8 = some (shD (min 1 8) (max 1 8)) := by kernel_rfl
theorem agp_1_9 : agQ 1 9 = some (shD (min 1 9) (max 1 9)) := by kernel_rfl
theorem agp_1_10 : agQ 1 10 = some (shD (min 1 10) (max 1 10)) := by kernel_rfl
theorem agp_1_11 : agQ 1 11 = some (shD (min 1 11) (max 1 11)) := by kernel_rfl
theorem agp_1_12 : agQ 1 12 = some (shD (min 1 12) (max 1 12)) := by kernel_rfl
theorem agp_1_13 : agQ 1 13 = some (shD (min 1 13) (max 1 13)) := by kernel_rfl
theorem agp_1_14 : agQ 1 14 = some (shD (min 1 14) (max 1 14)) := by kernel_rfl
theorem agp_1 (j : Nat) (h2 : j < 15) : agQ 1 j = some (shD (min 1 j) (max 1 j)) := by
  match j, h2 with
  | 0, _ => exact agp_1_0
  | 1, _ => exact agp_1_1
  | 2, _ => exact agp_1_2
  | 3, _ => exact agp_1_3
  | 4, _ => exact agp_1_4
  | 5, _ => exact agp_1_5
  | 6, _ => exact agp_1_6
  | 7, _ => exact agp_1_7
  | 8, _ => exact agp_1_8
  | 9, _ => exact agp_1_9
  | 10, _ => exact agp_1_10
  | 11, _ => exact agp_1_11
  | 12, _ => exact agp_1_12
  | 13, _ => exact agp_1_13
  | 14, _ => exact agp_1_14
  | n + 15, h => exact absurd h (by omega)
theorem agp_2_0 : agQ 2 0 = some (shD (min 2 0) (max 2 0)) := by kernel_rfl
theorem agp_2_1 : agQ 2 1 = some (shD (min 2 1) (max 2 1)) := by kernel_rfl
theorem agp_2_2 : agQ 2 2 = some (shD (min 2 2) (max 2 2)) := by kernel_rfl
theorem agp_2_3 : agQ 2 3 = some (shD (min 2 3) (max 2 3)) := by kernel_rfl
theorem agp_2_4 : agQ 2 4 = some (shD (min 2 4) (max 2 4)) := by kernel_rfl
theorem agp_2_5 : agQ 2 5 = some (shD (min 2 5) (max 2 5)) := by kernel_rfl
theorem agp_2_6 : agQ 2 6 = some (shD (min 2 6) (max 2 6)) := by kernel_rfl
theorem agp_2_7 : agQ 2 7 = some (shD (min 2 7) (max 2 7)) := by kernel_rfl
theorem agp_2_8 : agQ 2 8 = some (shD (min 2 8) (max 2 8)) := by kernel_rfl
theorem agp_2_9 : agQ 2 9 = some (shD (min 2 9) (max 2 9)) := by kernel_rfl
theorem agp_2_10 : agQ 2 10 = some (shD (min 2 10) (max 2 10)) := by kernel_rfl
theorem agp_2_11 : agQ 2 11 = some (shD (min 2 11) (max 2 11)) := by kernel_rfl
theorem agp_2_12 : agQ 2 12 = some (shD (min 2 12) (max 2 12)) := by kernel_rfl
theorem agp_2_13 : agQ 2 13 = some (shD (min 2 13) (max 2 13)) := by kernel_rfl
theorem agp_2_14 : agQ 2 14 = some (shD (min 2 14) (max 2 14)) := by kernel_rfl
theorem agp_2 (j : Nat) (h2 : j < 15) : agQ 2 j = some (shD (min 2 j) (max 2 j)) := by
  match j, h2 with
  | 0, _ => exact agp_2_0
  | 1, _ => exact agp_2_1
  | 2, _ => exact agp_2_2
  | 3, _ => exact agp_2_3
  | 4, _ => exact agp_2_4
  | 5, _ => exact agp_2_5
  | 6, _ => exact agp_2_6
  | 7, _ => exact agp_2_7
  | 8, _ => exact agp_2_8
  | 9, _ => exact agp_2_9
  | 10, _ => exact agp_2_10
  | 11, _ => exact agp_2_11
  | 12, _ => exact agp_2_12
  | 13, _ => exact agp_2_13
  | 14, _ => exact agp_2_14
  | n + 15, h => exact absurd h (by omega)
theorem agp_3_0 : agQ 3 0 = some (shD (min 3 0) (max 3 0)) := by kernel_rfl
theorem agp_3_1 : agQ 3 1 = some (shD (min 3 1) (max 3 1)) := by kernel_rfl
theorem agp_3_2 : agQ 3 2 = some (shD (min 3 2) (max 3 2)) := by kernel_rfl
theorem agp_3_3 : agQ 3 3 = some (shD (min 3 3) (max 3 3)) := by kernel_rfl
theorem agp_3_4 : agQ 3 4 = some (shD (min 3 4) (max 3 4)) := by kernel_rfl
theorem agp_3_5 : agQ 3 5 = some (shD (min 3 5) (max 3 5)) := by kernel_rfl
theorem agp_3_6 : agQ 3 6 = some (shD (min 3 6) (max 3 6)) := by kernel_rfl
theorem agp_3_7 : agQ 3 7 = some (shD (min 3 7) (max 3 7)) := by kernel_rfl
theorem agp_3_8 : agQ 3 8 = some (shD (min 3 8) (max 3 8)) := by kernel_rfl
theorem agp_3_9 : agQ 3 9 = some (shD (min 3 9) (max 3 9)) := by kernel_rfl
theorem agp_3_10 : agQ 3 10 = some (shD (min 3 10) (max 3 10)) := by kernel_rfl
theorem agp_3_11 : agQ 3 11 = some (shD (min 3 11) (max 3 11)) := by kernel_rfl
theorem agp_3_12 : agQ 3 12 = some (shD (min 3 12) (max 3 12)) := by kernel_rfl
theorem agp_3_13 : agQ 3 13 = some (shD (min 3 13) (max 3 13)) := by kernel_rfl
theorem agp_3_14 : agQ 3 14 = some (shD (min 3 14) (max 3 14)) := by kernel_rfl
theorem agp_3 (j : Nat) (h2 : j < 15) : agQ 3 j = some (shD (min 3 j) (max 3 j)) := by
  match j, h2 with
  | 0, _ => exact agp_3_0
  | 1, _ => exact agp_3_1
  | 2, _ => exact agp_3_2
  | 3, _ => exact agp_3_3
  | 4, _ => exact agp_3_4
  | 5, _ => exact agp_3_5
  | 6, _ => exact agp_3_6
  | 7, _ => exact agp_3_7
  | 8, _ => exact agp_3_8
  | 9, _ => exact agp_3_9
  | 10, _ => exact agp_3_10
  | 11, _ => exact agp_3_11
  | 12, _ => exact agp_3_12
  | 13, _ => exact agp_3_13
  | 14, _ => exact agp_3_14
  | n + 15, h => exact absurd h (by omega)
theorem agp_4_0 : agQ 4 0 = some (shD (min 4 0) (max 4 0)) := by kernel_rfl
theorem agp_4_1 : agQ 4 1 = some (shD (min 4 1) (max 4 1)) := by kernel_rfl
theorem agp_4_2 : agQ 4 2 = some (shD (min 4 2) (max 4 2)) := by kernel_rfl
theorem agp_4_3 : agQ 4 3 = some (shD (min 4 3) (max 4 3)) := by kernel_rfl
theorem agp_4_4 : agQ 4 4 = some (shD (min 4 4) (max 4 4)) := by kernel_rfl
theorem agp_4_5 : agQ 4 5 = some (shD (min 4 5) (max 4 5)) := by kernel_rfl
theorem agp_4_6 : agQ 4 6 = some (shD (min 4 6) (max 4 6)) := by kernel_rfl
theorem agp_4_7 : agQ 4 7 = some (shD (min 4 7) (max 4 7)) := by kernel_rfl
theorem agp_4_8 : agQ 4 8 = some (shD (min 4 8) (max 4 8)) := by kernel_rfl
theorem agp_4_9 : agQ 4 9 = some (shD (min 4 9) (max 4 9)) := by kernel_rfl
theorem agp_4_10 : agQ 4 10 = some (shD (min 4 10) (max 4 10)) := by kernel_rfl
theorem agp_4_11 : agQ 4 11 = some (shD (min 4 11) (max 4 11)) := by kernel_rfl
theorem agp_4_12 : agQ 4 12 = some (shD (min 4 12) (max 4 12)) := by kernel_rfl
theorem agp_4_13 : agQ 4 13 = some (shD (min 4 13) (max 4 13)) := by kernel_rfl
theorem agp_4_14 : agQ 4 14 = some (shD (min 4 14) (max 4 14)) := by kernel_rfl
theorem agp_4 (j : Nat) (h2 : j < 15) : agQ 4 j = some (shD (min 4 j) (max 4 j)) := by
  match j, h2 with
  | 0, _ => exact agp_4_0
  | 1, _ => exact agp_4_1
  | 2, _ => exact agp_4_2
  | 3, _ => exact agp_4_3
  | 4, _ => exact agp_4_4
  | 5, _ => exact agp_4_5
  | 6, _ => exact agp_4_6
  | 7, _ => exact agp_4_7
  | 8, _ => exact agp_4_8
  | 9, _ => exact agp_4_9
  | 10, _ => exact agp_4_10
  | 11, _ => exact agp_4_11
  | 12, _ => exact agp_4_12
  | 13, _ => exact agp_4_13
  | 14, _ => exact agp_4_14
  | n + 15, h => exact absurd h (by omega)
theorem agp_5_0 : agQ 5 0 = some (shD (min 5 0) (max 5 0)) := by kernel_rfl
theorem agp_5_1 : agQ 5 1 = some (shD (min 5 1) (max 5 1)) := by kernel_rfl
theorem agp_5_2 : agQ 5 2 = some (shD (min 5 2) (max 5 2)) := by kernel_rfl
theorem agp_5_3 : agQ 5 3 = some (shD (min 5 3) (max 5 3)) := by kernel_rfl
theorem agp_5_4 : agQ 5 4 = some (shD (min 5 4) (max 5 4)) := by kernel_rfl
theorem agp_5_5 : agQ 5 5 = some (shD (min 5 5) (max 5 5)) := by kernel_rfl
theorem agp_5_6 : agQ 5 6 = some (shD (min 5 6) (max 5 6)) := by kernel_rfl
theorem agp_5_7 : agQ 5 7 = some (shD (min 5 7) (max 5 7)) := by kernel_rfl
theorem agp_5_8 : agQ 5 8 = some (shD (min 5 8) (max 5 8)) := by kernel_rfl
theorem agp_5_9 : agQ 5 9 = some (shD (min 5 9) (max 5 9)) := by kernel_rfl
theorem agp_5_10 : agQ 5 10 = some (shD (min 5 10) (max 5 10)) := by kernel_rfl
theorem agp_5_11 : agQ 5 11 = some (shD (min 5 11) (max 5 11)) := by kernel_rfl
theorem agp_5_12 : agQ 5 12 = some (shD (min 5 12) (max 5 12)) := by kernel_rfl
theorem agp_5_13 : agQ 5 13 = some (shD (min 5 13) (max 5 13)) := by kernel_rfl
theorem agp_5_14 : agQ 5 14 = some (shD (min 5 14) (max 5 14)) := by kernel_rfl
theorem agp_5 (j : Nat) (h2 : j < 15) : agQ 5 j = some (shD (min 5 j) (max 5 j)) := by
  match j, h2 with
  | 0, _ => exact agp_5_0
  | 1, _ => exact agp_5_1
  | 2, _ => exact agp_5_2
  | 3, _ => exact agp_5_3
  | 4, _ => exact agp_5_4
  | 5, _ => exact agp_5_5
  | 6, _ => exact agp_5_6
  | 7, _ => exact agp_5_7
  | 8, _ => exact agp_5_8
  | 9, _ => exact agp_5_9
  | 10, _ => exact agp_5_10
  | 11, _ => exact agp_5_11
  | 12, _ => exact agp_5_12
  | 13, _ => exact agp_5_13
  | 14, _ => exact agp_5_14
  | n + 15, h => exact absurd h (by omega)
theorem agp_6_0 : agQ 6 0 = some (shD (min 6 0) (max 6 0)) := by kernel_rfl
theorem agp_6_1 : agQ 6 1 = some (shD (min 6 1) (max 6 1)) := by kernel_rfl
theorem agp_6_2 : agQ 6 2 = some (shD (min 6 2) (max 6 2)) := by kernel_rfl
theorem agp_6_3 : agQ 6 3 = some (shD (min 6 3) (max 6 3)) := by kernel_rfl
theorem agp_6_4 : agQ 6 4 = some (shD (min 6 4) (max 6 4)) := by kernel_rfl
theorem agp_6_5 : agQ 6 5 = some (shD (min 6 5) (max 6 5)) := by kernel_rfl
theorem agp_6_6 : agQ 6 6 = some (shD (min 6 6) (max 6 6)) := by kernel_rfl
theorem agp_6_7 : agQ 6 7 = some (shD (min 6 7) (max 6 7)) := by kernel_rfl
theorem agp_6_8 : agQ 6 8 = some (shD (min 6 8) (max 6 8)) := by kernel_rfl
theorem agp_6_9 : agQ 6 9 = some (shD (min 6 9) (max 6 9)) := by kernel_rfl
theorem agp_6_10 : agQ 6 10 = some (shD (min 6 10) (max 6 10)) := by kernel_rfl
theorem agp_6_11 : agQ 6 11 = some (shD (min 6 11) (max 6 11)) := by kernel_rfl
theorem agp_6_12 : agQ 6 12 = some (shD (min 6 12) (max 6 12)) := by kernel_rfl
theorem agp_6_13 : agQ 6 13 = some (shD (min 6 13) (max 6 13)) := by kernel_rfl
theorem agp_6_14 : agQ 6 14 = some (shD (min 6 14) (max 6 14)) := by kernel_rfl
theorem agp_6 (j : Nat) (h2 : j < 15) : agQ 6 j = some (shD (min 6 j) (max 6 j)) := by
  match j, h2 with
  | 0, _ => exact agp_6_0
  | 1, _ => exact agp_6_1
  | 2, _ => exact agp_6_2
  | 3, _ => exact agp_6_3
  | 4, _ => exact agp_6_4
  | 5, _ => exact agp_6_5
  | 6, _ => exact agp_6_6
  | 7, _ => exact agp_6_7
  | 8, _ => exact agp_6_8
  | 9, _ => exact agp_6_9
  | 10, _ => exact agp_6_10
  | 11, _ => exact agp_6_11
  | 12, _ => exact agp_6_12
  | 13, _ => exact agp_6_13
  | 14, _ => exact agp_6_14
  | n + 15, h => exact absurd h (by omega)
theorem agp_7_0 : agQ 7 0 = some (shD (min 7 0) (max 7 0)) := by kernel_rfl
theorem agp_7_1 : agQ 7 1 = some (shD (min 7 1) (max 7 1)) := by kernel_rfl
theorem agp_7_2 : agQ 7 2 = some (shD (min 7 2) (max 7 2)) := by kernel_rfl
theorem agp_7_3 : agQ 7 3 = some (shD (min 7 3) (max 7 3)) := by kernel_rfl
theorem agp_7_4 : agQ 7 4 = some (shD (min 7 4) (max 7 4)) := by kernel_rfl
theorem agp_7_5 : agQ 7 5 = some (shD (min 7 5) (max 7 5)) := by kernel_rfl
theorem agp_7_6 : agQ 7 6 = some (shD (min 7 6) (max 7 6)) := by kernel_rfl
theorem agp_7_7 : agQ 7 7 = some (shD (min 7 7) (max 7 7)) := by kernel_rfl
theorem agp_7_8 : agQ 7 8 = some (shD (min 7 8) (max 7 8)) := by kernel_rfl
theorem agp_7_9 : agQ 7 9 = some (shD (min 7 9) (max 7 9)) := by kernel_rfl
theorem agp_7_10 : agQ 7 10 = some (shD (min 7 10) (max 7 10)) := by kernel_rfl
theorem agp_7_11 : agQ 7 11 = some (shD (min 7 11) (max 7 11)) := by kernel_rfl
theorem agp_7_12 : agQ 7 12 = some (shD (min 7 12) (max 7 12)) := by kernel_rfl
theorem agp_7_13 : agQ 7 13 = some (shD (min 7 13) (max 7 13)) := by kernel_rfl
theorem agp_7_14 : agQ 7 14 = some (shD (min 7 14) (max 7 14)) := by kernel_rfl
theorem agp_7 (j : Nat) (h2 : j < 15) : agQ 7 j = some (shD (min 7 j) (max 7 j)) := by
  match j, h2 with
  | 0, _ => exact agp_7_0
  | 1, _ => exact agp_7_1
  | 2, _ => exact agp_7_2
  | 3, _ => exact agp_7_3
  | 4, _ => exact agp_7_4
  | 5, _ => exact agp_7_5
  | 6, _ => exact agp_7_6
  | 7, _ => exact agp_7_7
  | 8, _ => exact agp_7_8
  | 9, _ => exact agp_7_9
  | 10, _ => exact agp_7_10
  | 11, _ => exact agp_7_11
  | 12, _ => exact agp_7_12
  | 13, _ => exact agp_7_13
  | 14, _ => exact agp_7_14
  | n + 15, h => exact absurd h (by omega)
theorem agp_8_0 : agQ 8 0 = some (shD (min 8 0) (max 8 0)) := by kernel_rfl
theorem agp_8_1 : agQ 8 1 = some (shD (min 8 1) (max 8 1)) := by kernel_rfl
theorem agp_8_2 : agQ 8 2 = some (shD (min 8 2) (max 8 2)) := by kernel_rfl
theorem agp_8_3 : agQ 8 3 = some (shD (min 8 3) (max 8 3)) := by kernel_rfl
theorem agp_8_4 : agQ 8 4 = some (shD (min 8 4) (max 8 4)) := by kernel_rfl
theorem agp_8_5 : agQ 8 5 = some (shD (min 8 5) (max 8 5)) := by kernel_rfl
theorem agp_8_6 : agQ 8 6 = some (shD (min 8 6) (max 8 6)) := by kernel_rfl
theorem agp_8_7 : agQ 8 7 = some (shD (min 8 7) (max 8 7)) := by kernel_rfl
theorem agp_8_8 : agQ 8 8 = some (shD (min 8 8) (max 8 8)) := by kernel_rfl
theorem agp_8_9 : agQ 8 9 = some (shD (min 8 9) (max 8 9)) := by kernel_rfl
theorem agp_8_10 : agQ 8 10 = some (shD (min 8 10) (max 8 10)) := by kernel_rfl
theorem agp_8_11 : agQ 8 11 = some (shD (min 8 11) (max 8 11)) := by kernel_rfl
theorem agp_8_12 : agQ 8 12 = some (shD (min 8 12) (max 8 12)) := by kernel_rfl
theorem agp_8_13 : agQ 8 13 = some (shD (min 8 13) (max 8 13)) := by kernel_rfl
theorem agp_8_14 : agQ 8 14 = some (shD (min 8 14) (max 8 14)) := by kernel_rfl
theorem agp_8 (j : Nat) (h2 : j < 15) : agQ 8 j = some (shD (min 8 j) (max 8 j)) := by
  match j, h2 with
  | 0, _ => exact agp_8_0
  | 1, _ => exact agp_8_1
  | 2, _ => exact agp_8_2
  | 3, _ => exact agp_8_3
  | 4, _ => exact agp_8_4
  | 5, _ => exact agp_8_5
  | 6, _ => exact agp_8_6
  | 7, _ => exact agp_8_7
  | 8, _ => exact agp_8_8
  | 9, _ => exact agp_8_9
  | 10, _ => exact agp_8_10
  | 11, _ => exact agp_8_11
  | 12, _ => exact agp_8_12
  | 13, _ => exact agp_8_13
  | 14, _ => exact agp_8_14
  | n + 15, h => exact absurd h (by omega)
theorem agp_9_0 : agQ 9 0 = some (shD (min 9 0) (max 9 0)) := by kernel_rfl
theorem agp_9_1 : agQ 9 1 = some (shD (min 9 1) (max 9 1)) := by kernel_rfl
theorem agp_9_2 : agQ 9 2 = some (shD (min 9 2) (max 9 2)) := by kernel_rfl
theorem agp_9_3 : agQ 9 3 = some (shD (min 9 3) (max 9 3)) := by kernel_rfl
theorem agp_9_4 : agQ 9 4 = some (shD (min 9 4) (max 9 4)) := by kernel_rfl
theorem agp_9_5 : agQ 9 5 = some (shD (min 9 5) (max 9 5)) := by kernel_rfl
theorem agp_9_6 : agQ 9 6 = some (shD (min 9 6) (max 9 6)) := by kernel_rfl
theorem agp_9_7 : agQ 9 7 = some (shD (min 9 7) (max 9 7)) := by kernel_rfl
theorem agp_9_8 : agQ 9 8 = some (shD (min 9 8) (max 9 8)) := by kernel_rfl
theorem agp_9_9 : agQ 9 9 = some (shD (min 9 9) (max 9 9)) := by kernel_rfl
theorem agp_9_10 : agQ 9 10 = some (shD (min 9 10) (max 9 10)) := by kernel_rfl
theorem agp_9_11 : agQ 9 11 = some (shD (min 9 11) (max 9 11)) := by kernel_rfl
theorem agp_9_12 : agQ 9 12 = some (shD (min 9 12) (max 9 12)) := by kernel_rfl
theorem agp_9_13 : agQ 9 13 = some (shD (min 9 13) (max 9 13)) := by kernel_rfl
theorem agp_9_14 : agQ 9 14 = some (shD (min 9 14) (max 9 14)) := by kernel_rfl
theorem agp_9 (j : Nat) (h2 : j < 15) : agQ 9 j = some (shD (min 9 j) (max 9 j)) := by
  match j, h2 with
  | 0, _ => exact agp_9_0
  | 1, _ => exact agp_9_1
  | 2, _ => exact agp_9_2
  | 3, _ => exact agp_9_3
  | 4, _ => exact agp_9_4
  | 5, _ => exact agp_9_5
  | 6, _ => exact agp_9_6
  | 7, _ => exact agp_9_7
  | 8, _ => exact agp_9_8
  | 9, _ => exact agp_9_9
  | 10, _ => exact agp_9_10
  | 11, _ => exact agp_9_11
  | 12, _ => exact agp_9_12
  | 13, _ => exact agp_9_13
  | 14, _ => exact agp_9_14
  | n + 15, h => exact absurd h (by omega)
theorem agp_10_0 : agQ 10 0 = some (shD (min 10 0) (max 10 0)) := by kernel_rfl
theorem agp_10_1 : agQ 10 1 = some (shD (min 10 1) (max 10 1)) := by kernel_rfl
theorem agp_10_2 : agQ 10 2 = some (shD (min 10 2) (max 10 2)) := by kernel_rfl
theorem agp_10_3 : agQ 10 3 = some (shD (min 10 3) (max 10 3)) := by kernel_rfl
theorem agp_10_4 : agQ 10 4 = some (shD (min 10 4) (max 10 4)) := by kernel_rfl
theorem agp_10_5 : agQ 10 5 = some (shD (min 10 5) (max 10 5)) := by kernel_rfl
theorem agp_10_6 : agQ 10 6 = some (shD (min 10 6) (max 10 6)) := by kernel_rfl
theorem agp_10_7 : agQ 10 7 = some (shD (min 10 7) (max 10 7)) := by kernel_rfl
theorem agp_10_8 : agQ 10 8 = some (shD (min 10 8) (max 10 8)) := by kernel_rfl
theorem agp_10_9 : agQ 10 9 = some (shD (min 10 9) (max 10 9)) := by kernel_rfl
theorem agp_10_10 : agQ 10 10 = some (shD (min 10 10) (max 10 10)) := by kernel_rfl
theorem agp_10_11 : agQ 10 11 = some (shD (min 10 11) (max 10 11)) := by kernel_rfl
theorem agp_10_12 : agQ 10 12 = some (shD (min 10 12) (max 10 12)) := by kernel_rfl
theorem agp_10_13 : agQ 10 13 = some (shD (min 10 13) (max 10 13)) := by kernel_rfl
theorem agp_10_14 : agQ 10 14 = some (shD (min 10 14) (max 10 14)) := by kernel_rfl
theorem agp_10 (j : Nat) (h2 : j < 15) : agQ 10 j = some (shD (min 10 j) (max 10 j)) := by
  match j, h2 with
  | 0, _ => exact agp_10_0
  | 1, _ => exact agp_10_1
  | 2, _ => exact agp_10_2
  | 3, _ => exact agp_10_3
  | 4, _ => exact agp_10_4
  | 5, _ => exact agp_10_5
  | 6, _ => exact agp_10_6
  | 7, _ => exact agp_10_7
  | 8, _ => exact agp_10_8
  | 9, _ => exact agp_10_9
  | 10, _ => exact agp_10_10
  | 11, _ => exact agp_10_11
  | 12, _ => exact agp_10_12
  | 13, _ => exact agp_10_13
  | 14, _ => exact agp_10_14
  | n + 15, h => exact absurd h (by omega)
theorem agp_11_0 : agQ 11 0 = some (shD (min 11 0) (max 11 0)) := by kernel_rfl
theorem agp_11_1 : agQ 11 1 = some (shD (min 11 1) (max 11 1)) := by kernel_rfl
theorem agp_11_2 : agQ 11 2 = some (shD (min 11 2) (max 11 2)) := by kernel_rfl
theorem agp_11_3 : agQ 11 3 = some (shD (min 11 3) (max 11 3)) := by kernel_rfl
theorem agp_11_4 : agQ 11 4 = some (shD (min 11 4) (max 11 4)) := by kernel_rfl
theorem agp_11_5 : agQ 11 5 = some (shD (min 11 5) (max 11 5)) := by kernel_rfl
theorem agp_11_6 : agQ 11 6 = some (shD (min 11 6) (max 11 6)) := by kernel_rfl
theorem agp_11_7 : agQ 11 7 = some (shD (min 11 7) (max 11 7)) := by kernel_rfl
theorem agp_11_8 : agQ 11 8 = some (shD (min 11 8) (max 11 8)) := by kernel_rfl
theorem agp_11_9 : agQ 11 9 = some (shD (min 11 9) (max 11 9)) := by kernel_rfl
theorem agp_11_10 : agQ 11 10 = some (shD (min 11 10) (max 11 10)) := by kernel_rfl
theorem agp_11_11 : agQ 11 11 = some (shD (min 11 11) (max 11 11)) := by kernel_rfl
theorem agp_11_12 : agQ 11 12 = some (shD (min 11 12) (max 11 12)) := by kernel_rfl
theorem agp_11_13 : agQ 11 13 = some (shD (min 11 13) (max 11 13)) := by kernel_rfl
theorem agp_11_14 : agQ 11 14 = some (shD (min 11 14) (max 11 14)) := by kernel_rfl
theorem agp_11 (j : Nat) (h2 : j < 15) : agQ 11 j = some (shD (min 11 j) (max 11 j)) := by
  match j, h2 with
  | 0, _ => exact agp_11_0
  | 1, _ => exact agp_11_1
  | 2, _ => exact agp_11_2
  | 3, _ => exact agp_11_3
  | 4, _ => exact agp_11_4
  | 5, _ => exact agp_11_5
  | 6, _ => exact agp_11_6
  | 7, _ => exact agp_11_7
  | 8, _ => exact agp_11_8
  | 9, _ => exact agp_11_9
  | 10, _ => exact agp_11_10
  | 11, _ => exact agp_11_11
  | 12, _ => exact agp_11_12
  | 13, _ => exact agp_11_13
  | 14, _ => exact agp_11_14
  | n + 15, h => exact absurd h (by omega)
theorem agp_12_0 : agQ 12 0 = some (shD (min 12 0) (max 12 0)) := by kernel_rfl
theorem agp_12_1 : agQ 12 1 = some (shD (min 12 1) (max 12 1)) := by kernel_rfl
theorem agp_12_2 : agQ 12 2 = some (shD (min 12 2) (max 12 2)) := by kernel_rfl
theorem agp_12_3 : agQ 12 3 = some (shD (min 12 3) (max 12 3)) := by kernel_rfl
theorem agp_12_4 : agQ 12 4 = some (shD (min 12 4) (max 12 4)) := by kernel_rfl
theorem agp_12_5 : agQ 12 5 = some (shD (min 12 5) (max 12 5)) := by kernel_rfl
theorem agp_12_6 : agQ 12 6 = some (shD (min 12 6) (max 12 6)) := by kernel_rfl
theorem agp_12_7 : agQ 12 7 = some (shD (min 12 7) (max 12 7)) := by kernel_rfl
theorem agp_12_8 : agQ 12 8 = some (shD (min 12 8) (max 12 8)) := by kernel_rfl
theorem agp_12_9 : agQ 12 9 = some (shD (min 12 9) (max 12 9)) := by kernel_rfl
theorem agp_12_10 : agQ 12 10 = some (shD (min 12 10) (max 12 10)) := by kernel_rfl
theorem agp_12_11 : agQ 12 11 = some (shD (min 12 11) (max 12 11)) := by kernel_rfl
theorem agp_12_12 : agQ 12 12 = some (shD (min 12 12) (max 12 12)) := by kernel_rfl
theorem agp_12_13 : agQ 12 13 = some (shD (min 12 13) (max 12 13)) := by kernel_rfl
theorem agp_12_14 : agQ 12 14 = some (shD (min 12 14) (max 12 14)) := by kernel_rfl
theorem agp_12 (j : Nat) (h2 : j < 15) : agQ 12 j = some (shD (min 12 j) (max 12 j)) := by
  match j, h2 with
  | 0, _ => exact agp_12_0
  | 1, _ => exact agp_12_1
  | 2, _ => exact agp_12_2
  | 3, _ => exact agp_12_3
  | 4, _ => exact agp_12_4
  | 5, _ => exact agp_12_5
  | 6, _ => exact agp_12_6
  | 7, _ => exact agp_12_7
  | 8, _ => exact agp_12_8
  | 9, _ => exact agp_12_9
  | 10, _ => exact agp_12_10
  | 11, _ => exact agp_12_11
  | 12, _ => exact agp_12_12
  | 13, _ => exact agp_12_13
  | 14, _ => exact agp_12_14
  | n + 15, h => exact absurd h (by omega)
theorem agp_13_0 : agQ 13 0 = some (shD (min 13 0) (max 13 0)) := by kernel_rfl
theorem agp_13_1 : agQ 13 1 = some (shD (min 13 1) (max 13 1)) := by kernel_rfl
theorem agp_13_2 : agQ 13 2 = some (shD (min 13 2) (max 13 2)) := by kernel_rfl
theorem agp_13_3 : agQ 13 3 = some (shD (min 13 3) (max 13 3)) := by kernel_rfl
theorem agp_13_4 : agQ 13 4 = some (shD (min 13 4) (max 13 4)) := by kernel_rfl
theorem agp_13_5 : agQ 13 5 = some (shD (min 13 5) (max 13 5)) := by kernel_rfl
theorem agp_13_6 : agQ 13 6 = some (shD (min 13 6) (max 13 6)) := by kernel_rfl
theorem agp_13_7 : agQ 13 7 = some (shD (min 13 7) (max 13 7)) := by kernel_rfl
theorem agp_13_8 : agQ 13 8 = some (shD (min 13 8) (max 13 8)) := by kernel_rfl
theorem agp_13_9 : agQ 13 9 = some (shD (min 13 9) (max 13 9)) := by kernel_rfl
theorem agp_13_10 : agQ 13 10 = some (shD (min 13 10) (max 13 10)) := by kernel_rfl
theorem agp_13_11 : agQ 13 11 = some (shD (min 13 11) (max 13 11)) := by kernel_rfl
theorem agp_13_12 : agQ 13 12 = some (shD (min 13 12) (max 13 12)) := by kernel_rfl
theorem agp_13_13 : agQ 13 13 = some (shD (min 13 13) (max 13 13)) := by kernel_rfl
theorem agp_13_14 : agQ 13 14 = some (shD (min 13 14) (max 13 14)) := by kernel_rfl
theorem agp_13 (j : Nat) (h2 : j < 15) : agQ 13 j = some (shD (min 13 j) (max 13 j)) := by
  match j, h2 with
  | 0, _ => exact agp_13_0
  | 1, _ => exact agp_13_1
  | 2, _ => exact agp_13_2
  | 3, _ => exact agp_13_3
  | 4, _ => exact agp_13_4
  | 5, _ => exact agp_13_5
  | 6, _ => exact agp_13_6
  | 7, _ => exact agp_13_7
  | 8, _ => exact agp_13_8
  | 9, _ => exact agp_13_9
  | 10, _ => exact agp_13_10
  | 11, _ => exact agp_13_11
  | 12, _ => exact agp_13_12
  | 13, _ => exact agp_13_13
  | 14, _ => exact agp_13_14
  | n + 15, h => exact absurd h (by omega)
theorem agp_14_0 : agQ 14 0 = some (shD (min 14 0) (max 14 0)) := by kernel_rfl
theorem agp_14_1 : agQ 14 1 = some (shD (min 14 1) (max 14 1)) := by kernel_rfl
theorem agp_14_2 : agQ 14 2 = some (shD (min 14 2) (max 14 2)) := by kernel_rfl
theorem agp_14_3 : agQ 14 3 = some (shD (min 14 3) (max 14 3)) := by kernel_rfl
theorem agp_14_4 : agQ 14 4 = some (shD (min 14 4) (max 14 4)) := by kernel_rfl
theorem agp_14_5 : agQ 14 5 = some (shD (min 14 5) (max 14 5)) := by kernel_rfl
theorem agp_14_6 : agQ 14 6 = some (shD (min 14 6) (max 14 6)) := by kernel_rfl
theorem agp_14_7 : agQ 14 7 = some (shD (min 14 7) (max 14 7)) := by kernel_rfl
theorem agp_14_8 : agQ 14 8 = some (shD (min 14 8) (max 14 8)) := by kernel_rfl
theorem agp_14_9 : agQ 14 9 = some (shD (min 14 9) (max 14 9)) := by kernel_rfl
theorem agp_14_10 : agQ 14 10 = some (shD (min 14 10) (max 14 10)) := by kernel_rfl
theorem agp_14_11 : agQ 14 11 = some (shD (min 14 11) (max 14 11)) := by kernel_rfl
theorem agp_14_12 : agQ 14 12 = some (shD (min 14 12) (max 14 12)) := by kernel_rfl
theorem agp_14_13 : agQ 14 13 = some (shD (min 14 13) (max 14 13)) := by kernel_rfl
theorem agp_14_14 : agQ 14 14 = some (shD (min 14 14) (max 14 14)) := by kernel_rfl
theorem agp_14 (j : Nat) (h2 : j < 15) : agQ 14 j = some (shD (min 14 j) (max 14 j)) := by
  match j, h2 with
  | 0, _ => exact agp_14_0
  | 1, _ => exact agp_14_1
  | 2, _ => exact agp_14_2
  | 3, _ => exact agp_14_3
  | 4, _ => exact agp_14_4
  | 5, _ => exact agp_14_5
  | 6, _ => exact agp_14_6
  | 7, _ => exact agp_14_7
  | 8, _ => exact agp_14_8
  | 9, _ => exact agp_14_9
  | 10, _ => exact agp_14_10
  | 11, _ => exact agp_14_11
  | 12, _ => exact agp_14_12
  | 13, _ => exact agp_14_13
  | 14, _ => exact agp_14_14
  | n + 15, h => exact absurd h (by omega)
theorem agp_all (i j : Nat) (h : i < 15) (h2 : j < 15) : agQ i j = some (shD (min i j) (max i j)) := by
  match i, h with
  | 0, _ => exact agp_0 j h2
  | 1, _ => exact agp_1 j h2
  | 2, _ => exact agp_2 j h2
  | 3, _ => exact agp_3 j h2
  | 4, _ => exact agp_4 j h2
  | 5, _ => exact agp_5 j h2
  | 6, _ => exact agp_6 j h2
  | 7, _ => exact agp_7 j h2
  | 8, _ => exact agp_8 j h2
  | 9, _ => exact agp_9 j h2
  | 10, _ => exact agp_10 j h2
  | 11, _ => exact agp_11 j h2
  | 12, _ => exact agp_12 j h2
  | 13, _ => exact agp_13 j h2
  | 14, _ => exact agp_14 j h2
  | n + 15, h => exact absurd h (by omega)
theorem snd_0_0 : term_sound 18446744073709551616 (shD 0 0) = some ((true, ()), ()) := by kernel_rfl
theorem snd_0_1 : term_sound 18446744073709551616 (shD 0 1) = some ((true, ()), ()) := by kernel_rfl
theorem snd_0_2 : term_sound 18446744073709551616 (shD 0 2) = some ((true, ()), ()) := by kernel_rfl
theorem snd_0_3 : term_sound 18446744073709551616 (shD 0 3) = some ((true, ()), ()) := by kernel_rfl
theorem snd_0_4 : term_sound 18446744073709551616 (shD 0 4) = some ((true, ()), ()) := by kernel_rfl
theorem snd_0_5 : term_sound 18446744073709551616 (shD 0 5) = some ((true, ()), ()) := by kernel_rfl
theorem snd_0_6 : term_sound 18446744073709551616 (shD 0 6) = some ((true, ()), ()) := by kernel_rfl
theorem snd_0_7 : term_sound 18446744073709551616 (shD 0 7) = some ((true, ()), ()) := by kernel_rfl
theorem snd_0_8 : term_sound 18446744073709551616 (shD 0 8) = some ((true, ()), ()) := by kernel_rfl
theorem snd_0_9 : term_sound 18446744073709551616 (shD 0 9) = some ((true, ()), ()) := by kernel_rfl
theorem snd_0_10 : term_sound 18446744073709551616 (shD 0 10) = some ((true, ()), ()) := by kernel_rfl
theorem snd_0_11 : term_sound 18446744073709551616 (shD 0 11) = some ((true, ()), ()) := by kernel_rfl
theorem snd_0_12 : term_sound 18446744073709551616 (shD 0 12) = some ((true, ()), ()) := by kernel_rfl
theorem snd_0_13 : term_sound 18446744073709551616 (shD 0 13) = some ((true, ()), ()) := by kernel_rfl
theorem snd_0_14 : term_sound 18446744073709551616 (shD 0 14) = some ((true, ()), ()) := by kernel_rfl
theorem snd_0 (j : Nat) (h : 0 ≤ j) (h2 : j < 15) : term_sound 18446744073709551616 (shD 0 j) = some ((true, ()), ()) := by
  match j, h, h2 with
  | 0, h, _ => exact snd_0_0
  | 1, h, _ => exact snd_0_1
  | 2, h, _ => exact snd_0_2
  | 3, h, _ => exact snd_0_3
  | 4, h, _ => exact snd_0_4
  | 5, h, _ => exact snd_0_5
  | 6, h, _ => exact snd_0_6
  | 7, h, _ => exact snd_0_7
  | 8, h, _ => exact snd_0_8
  | 9, h, _ => exact snd_0_9
  | 10, h, _ => exact snd_0_10
  | 11, h, _ => exact snd_0_11
  | 12, h, _ => exact snd_0_12
  | 13, h, _ => exact snd_0_13
  | 14, h, _ => exact snd_0_14
  | n + 15, _, h => exact absurd h (by omega)
theorem snd_1_1 : term_sound 18446744073709551616 (shD 1 1) = some ((true, ()), ()) := by kernel_rfl
theorem snd_1_2 : term_sound 18446744073709551616 (shD 1 2) = some ((true, ()), ()) := by kernel_rfl
theorem snd_1_3 : term_sound 18446744073709551616 (shD 1 3) = some ((true, ()), ()) := by kernel_rfl
theorem snd_1_4 : term_sound 18446744073709551616 (shD 1 4) = some ((true, ()), ()) := by kernel_rfl
theorem snd_1_5 : term_sound 18446744073709551616 (shD 1 5) = some ((true, ()), ()) := by kernel_rfl
theorem snd_1_6 : term_sound 18446744073709551616 (shD 1 6) = some ((true, ()), ()) := by kernel_rfl
theorem snd_1_7 : term_sound 18446744073709551616 (shD 1 7) = some ((true, ()), ()) := by kernel_rfl
theorem snd_1_8 : term_sound 18446744073709551616 (shD 1 8) = some ((true, ()), ()) := by kernel_rfl
theorem snd_1_9 : term_sound 18446744073709551616 (shD 1 9) = some ((true, ()), ()) := by kernel_rfl
theorem snd_1_10 : term_sound 18446744073709551616 (shD 1 10) = some ((true, ()), ()) := by kernel_rfl
theorem snd_1_11 : term_sound 18446744073709551616 (shD 1 11) = some ((true, ()), ()) := by kernel_rfl
theorem snd_1_12 : term_sound 18446744073709551616 (shD 1 12) = some ((true, ()), ()) := by kernel_rfl
theorem snd_1_13 : term_sound 18446744073709551616 (shD 1 13) = some ((true, ()), ()) := by kernel_rfl
theorem snd_1_14 : term_sound 18446744073709551616 (shD 1 14) = some ((true, ()), ()) := by kernel_rfl
theorem snd_1 (j : Nat) (h : 1 ≤ j) (h2 : j < 15) : term_sound 18446744073709551616 (shD 1 j) = some ((true, ()), ()) := by
  match j, h, h2 with
  | 0, h, _ => exact absurd h (by decide)
  | 1, h, _ => exact snd_1_1
  | 2, h, _ => exact snd_1_2
  | 3, h, _ => exact snd_1_3
  | 4, h, _ => exact snd_1_4
  | 5, h, _ => exact snd_1_5
  | 6, h, _ => exact snd_1_6
  | 7, h, _ => exact snd_1_7
  | 8, h, _ => exact snd_1_8
  | 9, h, _ => exact snd_1_9
  | 10, h, _ => exact snd_1_10
  | 11, h, _ => exact snd_1_11
  | 12, h, _ => exact snd_1_12
  | 13, h, _ => exact snd_1_13
  | 14, h, _ => exact snd_1_14
  | n + 15, _, h => exact absurd h (by omega)
theorem snd_2_2 : term_sound 18446744073709551616 (shD 2 2) = some ((true, ()), ()) := by kernel_rfl
theorem snd_2_3 : term_sound 18446744073709551616 (shD 2 3) = some ((true, ()), ()) := by kernel_rfl
theorem snd_2_4 : term_sound 18446744073709551616 (shD 2 4) = some ((true, ()), ()) := by kernel_rfl
theorem snd_2_5 : term_sound 18446744073709551616 (shD 2 5) = some ((true, ()), ()) := by kernel_rfl
theorem snd_2_6 : term_sound 18446744073709551616 (shD 2 6) = some ((true, ()), ()) := by kernel_rfl
theorem snd_2_7 : term_sound 18446744073709551616 (shD 2 7) = some ((true, ()), ()) := by kernel_rfl
theorem snd_2_8 : term_sound 18446744073709551616 (shD 2 8) = some ((true, ()), ()) := by kernel_rfl
theorem snd_2_9 : term_sound 18446744073709551616 (shD 2 9) = some ((true, ()), ()) := by kernel_rfl
theorem snd_2_10 : term_sound 18446744073709551616 (shD 2 10) = some ((true, ()), ()) := by kernel_rfl
theorem snd_2_11 : term_sound 18446744073709551616 (shD 2 11) = some ((true, ()), ()) := by kernel_rfl
theorem snd_2_12 : term_sound 18446744073709551616 (shD 2 12) = some ((true, ()), ()) := by kernel_rfl
theorem snd_2_13 : term_sound 18446744073709551616 (shD 2 13) = some ((true, ()), ()) := by kernel_rfl
theorem snd_2_14 : term_sound 18446744073709551616 (shD 2 14) = some ((true, ()), ()) := by kernel_rfl
theorem snd_2 (j : Nat) (h : 2 ≤ j) (h2 : j < 15) : term_sound 18446744073709551616 (shD 2 j) = some ((true, ()), ()) := by
  match j, h, h2 with
  | 0, h, _ => exact absurd h (by decide)
  | 1, h, _ => exact absurd h (by decide)
  | 2, h, _ => exact snd_2_2
  | 3, h, _ => exact snd_2_3
  | 4, h, _ => exact snd_2_4
  | 5, h, _ => exact snd_2_5
  | 6, h, _ => exact snd_2_6
  | 7, h, _ => exact snd_2_7
  | 8, h, _ => exact snd_2_8
  | 9, h, _ => exact snd_2_9
  | 10, h, _ => exact snd_2_10
  | 11, h, _ => exact snd_2_11
  | 12, h, _ => exact snd_2_12
  | 13, h, _ => exact snd_2_13
  | 14, h, _ => exact snd_2_14
  | n + 15, _, h => exact absurd h (by omega)
theorem snd_3_3 : term_sound 18446744073709551616 (shD 3 3) = some ((true, ()), ()) := by kernel_rfl
theorem snd_3_4 : term_sound 18446744073709551616 (shD 3 4) = some ((true, ()), ()) := by kernel_rfl
theorem snd_3_5 : term_sound 18446744073709551616 (shD 3 5) = some ((true, ()), ()) := by kernel_rfl
theorem snd_3_6 : term_sound 18446744073709551616 (shD 3 6) = some ((true, ()), ()) := by kernel_rfl
theorem snd_3_7 : term_sound 18446744073709551616 (shD 3 7) = some ((true, ()), ()) := by kernel_rfl
theorem snd_3_8 : term_sound 18446744073709551616 (shD 3 8) = some ((true, ()), ()) := by kernel_rfl
theorem snd_3_9 : term_sound 18446744073709551616 (shD 3 9) = some ((true, ()), ()) := by kernel_rfl
theorem snd_3_10 : term_sound 18446744073709551616 (shD 3 10) = some ((true, ()), ()) := by kernel_rfl
theorem snd_3_11 : term_sound 18446744073709551616 (shD 3 11) = some ((true, ()), ()) := by kernel_rfl
theorem snd_3_12 : term_sound 18446744073709551616 (shD 3 12) = some ((true, ()), ()) := by kernel_rfl
theorem snd_3_13 : term_sound 18446744073709551616 (shD 3 13) = some ((true, ()), ()) := by kernel_rfl
theorem snd_3_14 : term_sound 18446744073709551616 (shD 3 14) = some ((true, ()), ()) := by kernel_rfl
theorem snd_3 (j : Nat) (h : 3 ≤ j) (h2 : j < 15) : term_sound 18446744073709551616 (shD 3 j) = some ((true, ()), ()) := by
  match j, h, h2 with
  | 0, h, _ => exact absurd h (by decide)
  | 1, h, _ => exact absurd h (by decide)
  | 2, h, _ => exact absurd h (by decide)
  | 3, h, _ => exact snd_3_3
  | 4, h, _ => exact snd_3_4
  | 5, h, _ => exact snd_3_5
  | 6, h, _ => exact snd_3_6
  | 7, h, _ => exact snd_3_7
  | 8, h, _ => exact snd_3_8
  | 9, h, _ => exact snd_3_9
  | 10, h, _ => exact snd_3_10
  | 11, h, _ => exact snd_3_11
  | 12, h, _ => exact snd_3_12
  | 13, h, _ => exact snd_3_13
  | 14, h, _ => exact snd_3_14
  | n + 15, _, h => exact absurd h (by omega)
theorem snd_4_4 : term_sound 18446744073709551616 (shD 4 4) = some ((true, ()), ()) := by kernel_rfl
theorem snd_4_5 : term_sound 18446744073709551616 (shD 4 5) = some ((true, ()), ()) := by kernel_rfl
theorem snd_4_6 : term_sound 18446744073709551616 (shD 4 6) = some ((true, ()), ()) := by kernel_rfl
theorem snd_4_7 : term_sound 18446744073709551616 (shD 4 7) = some ((true, ()), ()) := by kernel_rfl
theorem snd_4_8 : term_sound 18446744073709551616 (shD 4 8) = some ((true, ()), ()) := by kernel_rfl
theorem snd_4_9 : term_sound 18446744073709551616 (shD 4 9) = some ((true, ()), ()) := by kernel_rfl
theorem snd_4_10 : term_sound 18446744073709551616 (shD 4 10) = some ((true, ()), ()) := by kernel_rfl
theorem snd_4_11 : term_sound 18446744073709551616 (shD 4 11) = some ((true, ()), ()) := by kernel_rfl
theorem snd_4_12 : term_sound 18446744073709551616 (shD 4 12) = some ((true, ()), ()) := by kernel_rfl
theorem snd_4_13 : term_sound 18446744073709551616 (shD 4 13) = some ((true, ()), ()) := by kernel_rfl
theorem snd_4_14 : term_sound 18446744073709551616 (shD 4 14) = some ((true, ()), ()) := by kernel_rfl
theorem snd_4 (j : Nat) (h : 4 ≤ j) (h2 : j < 15) : term_sound 18446744073709551616 (shD 4 j) = some ((true, ()), ()) := by
  match j, h, h2 with
  | 0, h, _ => exact absurd h (by decide)
  | 1, h, _ => exact absurd h (by decide)
  | 2, h, _ => exact absurd h (by decide)
  | 3, h, _ => exact absurd h (by decide)
  | 4, h, _ => exact snd_4_4
  | 5, h, _ => exact snd_4_5
  | 6, h, _ => exact snd_4_6
  | 7, h, _ => exact snd_4_7
  | 8, h, _ => exact snd_4_8
  | 9, h, _ => exact snd_4_9
  | 10, h, _ => exact snd_4_10
  | 11, h, _ => exact snd_4_11
  | 12, h, _ => exact snd_4_12
  | 13, h, _ => exact snd_4_13
  | 14, h, _ => exact snd_4_14
  | n + 15, _, h => exact absurd h (by omega)
theorem snd_5_5 : term_sound 18446744073709551616 (shD 5 5) = some ((true, ()), ()) := by kernel_rfl
theorem snd_5_6 : term_sound 18446744073709551616 (shD 5 6) = some ((true, ()), ()) := by kernel_rfl
theorem snd_5_7 : term_sound 18446744073709551616 (shD 5 7) = some ((true, ()), ()) := by kernel_rfl
theorem snd_5_8 : term_sound 18446744073709551616 (shD 5 8) = some ((true, ()), ()) := by kernel_rfl
theorem snd_5_9 : term_sound 18446744073709551616 (shD 5 9) = some ((true, ()), ()) := by kernel_rfl
theorem snd_5_10 : term_sound 18446744073709551616 (shD 5 10) = some ((true, ()), ()) := by kernel_rfl
theorem snd_5_11 : term_sound 18446744073709551616 (shD 5 11) = some ((true, ()), ()) := by kernel_rfl
theorem snd_5_12 : term_sound 18446744073709551616 (shD 5 12) = some ((true, ()), ()) := by kernel_rfl
theorem snd_5_13 : term_sound 18446744073709551616 (shD 5 13) = some ((true, ()), ()) := by kernel_rfl
theorem snd_5_14 : term_sound 18446744073709551616 (shD 5 14) = some ((true, ()), ()) := by kernel_rfl
theorem snd_5 (j : Nat) (h : 5 ≤ j) (h2 : j < 15) : term_sound 18446744073709551616 (shD 5 j) = some ((true, ()), ()) := by
  match j, h, h2 with
  | 0, h, _ => exact absurd h (by decide)
  | 1, h, _ => exact absurd h (by decide)
  | 2, h, _ => exact absurd h (by decide)
  | 3, h, _ => exact absurd h (by decide)
  | 4, h, _ => exact absurd h (by decide)
  | 5, h, _ => exact snd_5_5
  | 6, h, _ => exact snd_5_6
  | 7, h, _ => exact snd_5_7
  | 8, h, _ => exact snd_5_8
  | 9, h, _ => exact snd_5_9
  | 10, h, _ => exact snd_5_10
  | 11, h, _ => exact snd_5_11
  | 12, h, _ => exact snd_5_12
  | 13, h, _ => exact snd_5_13
  | 14, h, _ => exact snd_5_14
  | n + 15, _, h => exact absurd h (by omega)
theorem snd_6_6 : term_sound 18446744073709551616 (shD 6 6) = some ((true, ()), ()) := by kernel_rfl
theorem snd_6_7 : term_sound 18446744073709551616 (shD 6 7) = some ((true, ()), ()) := by kernel_rfl
theorem snd_6_8 : term_sound 18446744073709551616 (shD 6 8) = some ((true, ()), ()) := by kernel_rfl
theorem snd_6_9 : term_sound 18446744073709551616 (shD 6 9) = some ((true, ()), ()) := by kernel_rfl
theorem snd_6_10 : term_sound 18446744073709551616 (shD 6 10) = some ((true, ()), ()) := by kernel_rfl
theorem snd_6_11 : term_sound 18446744073709551616 (shD 6 11) = some ((true, ()), ()) := by kernel_rfl
theorem snd_6_12 : term_sound 18446744073709551616 (shD 6 12) = some ((true, ()), ()) := by kernel_rfl
theorem snd_6_13 : term_sound 18446744073709551616 (shD 6 13) = some ((true, ()), ()) := by kernel_rfl
theorem snd_6_14 : term_sound 18446744073709551616 (shD 6 14) = some ((true, ()), ()) := by kernel_rfl
theorem snd_6 (j : Nat) (h : 6 ≤ j) (h2 : j < 15) : term_sound 18446744073709551616 (shD 6 j) = some ((true, ()), ()) := by
  match j, h, h2 with
  | 0, h, _ => exact absurd h (by decide)
  | 1, h, _ => exact absurd h (by decide)
  | 2, h, _ => exact absurd h (by decide)
  | 3, h, _ => exact absurd h (by decide)
  | 4, h, _ => exact absurd h (by decide)
  | 5, h, _ => exact absurd h (by decide)
  | 6, h, _ => exact snd_6_6
  | 7, h, _ => exact snd_6_7
  | 8, h, _ => exact snd_6_8
  | 9, h, _ => exact snd_6_9
  | 10, h, _ => exact snd_6_10
  | 11, h, _ => exact snd_6_11
  | 12, h, _ => exact snd_6_12
  | 13, h, _ => exact snd_6_13
  | 14, h, _ => exact snd_6_14
  | n + 15, _, h => exact absurd h (by omega)
theorem snd_7_7 : term_sound 18446744073709551616 (shD 7 7) = some ((true, ()), ()) := by kernel_rfl
theorem snd_7_8 : term_sound 18446744073709551616 (shD 7 8) = some ((true, ()), ()) := by kernel_rfl
theorem snd_7_9 : term_sound 18446744073709551616 (shD 7 9) = some ((true, ()), ()) := by kernel_rfl
theorem snd_7_10 : term_sound 18446744073709551616 (shD 7 10) = some ((true, ()), ()) := by kernel_rfl
theorem snd_7_11 : term_sound 18446744073709551616 (shD 7 11) = some ((true, ()), ()) := by kernel_rfl
theorem snd_7_12 : term_sound 18446744073709551616 (shD 7 12) = some ((true, ()), ()) := by kernel_rfl
theorem snd_7_13 : term_sound 18446744073709551616 (shD 7 13) = some ((true, ()), ()) := by kernel_rfl
theorem snd_7_14 : term_sound 18446744073709551616 (shD 7 14) = some ((true, ()), ()) := by kernel_rfl
theorem snd_7 (j : Nat) (h : 7 ≤ j) (h2 : j < 15) : term_sound 18446744073709551616 (shD 7 j) = some ((true, ()), ()) := by
  match j, h, h2 with
  | 0, h, _ => exact absurd h (by decide)
  | 1, h, _ => exact absurd h (by decide)
  | 2, h, _ => exact absurd h (by decide)
  | 3, h, _ => exact absurd h (by decide)
  | 4, h, _ => exact absurd h (by decide)
  | 5, h, _ => exact absurd h (by decide)
  | 6, h, _ => exact absurd h (by decide)
  | 7, h, _ => exact snd_7_7
  | 8, h, _ => exact snd_7_8
  | 9, h, _ => exact snd_7_9
  | 10, h, _ => exact snd_7_10
  | 11, h, _ => exact snd_7_11
  | 12, h, _ => exact snd_7_12
  | 13, h, _ => exact snd_7_13
  | 14, h, _ => exact snd_7_14
  | n + 15, _, h => exact absurd h (by omega)
theorem snd_8_8 : term_sound 18446744073709551616 (shD 8 8) = some ((true, ()), ()) := by kernel_rfl
theorem snd_8_9 : term_sound 18446744073709551616 (shD 8 9) = some ((true, ()), ()) := by kernel_rfl
theorem snd_8_10 : term_sound 18446744073709551616 (shD 8 10) = some ((true, ()), ()) := by kernel_rfl
theorem snd_8_11 : term_sound 18446744073709551616 (shD 8 11) = some ((true, ()), ()) := by kernel_rfl
theorem snd_8_12 : term_sound 18446744073709551616 (shD 8 12) = some ((true, ()), ()) := by kernel_rfl
theorem snd_8_13 : term_sound 18446744073709551616 (shD 8 13) = some ((true, ()), ()) := by kernel_rfl
theorem snd_8_14 : term_sound 18446744073709551616 (shD 8 14) = some ((true, ()), ()) := by kernel_rfl
theorem snd_8 (j : Nat) (h : 8 ≤ j) (h2 : j < 15) : term_sound 18446744073709551616 (shD 8 j) = some ((true, ()), ()) := by
  match j, h, h2 with
  | 0, h, _ => exact absurd h (by decide)
  | 1, h, _ => exact absurd h (by decide)
  | 2, h, _ => exact absurd h (by decide)
  | 3, h, _ => exact absurd h (by decide)
  | 4, h, _ => exact absurd h (by decide)
  | 5, h, _ => exact absurd h (by decide)
  | 6, h, _ => exact absurd h (by decide)
  | 7, h, _ => exact absurd h (by decide)
  | 8, h, _ => exact snd_8_8
  | 9, h, _ => exact snd_8_9
  | 10, h, _ => exact snd_8_10
  | 11, h, _ => exact snd_8_11
  | 12, h, _ => exact snd_8_12
  | 13, h, _ => exact snd_8_13
  | 14, h, _ => exact snd_8_14
  | n + 15, _, h => exact absurd h (by omega)
theorem snd_9_9 : term_sound 18446744073709551616 (shD 9 9) = some ((true, ()), ()) := by kernel_rfl
theorem snd_9_10 : term_sound 18446744073709551616 (shD 9 10) = some ((true, ()), ()) := by kernel_rfl
theorem snd_9_11 : term_sound 18446744073709551616 (shD 9 11) = some ((true, ()), ()) := by kernel_rfl
theorem snd_9_12 : term_sound 18446744073709551616 (shD 9 12) = some ((true, ()), ()) := by kernel_rfl
theorem snd_9_13 : term_sound 18446744073709551616 (shD 9 13) = some ((true, ()), ()) := by kernel_rfl
theorem snd_9_14 : term_sound 18446744073709551616 (shD 9 14) = some ((true, ()), ()) := by kernel_rfl
theorem snd_9 (j : Nat) (h : 9 ≤ j) (h2 : j < 15) : term_sound 18446744073709551616 (shD 9 j) = some ((true, ()), ()) := by
  match j, h, h2 with
  | 0, h, _ => exact absurd h (by decide)
  | 1, h, _ => exact absurd h (by decide)
  | 2, h, _ => exact absurd h (by decide)
  | 3, h, _ => exact absurd h (by decide)
  | 4, h, _ => exact absurd h (by decide)
  | 5, h, _ => exact absurd h (by decide)
  | 6, h, _ => exact absurd h (by decide)
  | 7, h, _ => exact absurd h (by decide)
  | 8, h, _ => exact absurd h (by decide)
  | 9, h, _ => exact snd_9_9
  | 10, h, _ => exact snd_9_10
  | 11, h, _ => exact snd_9_11
  | 12, h, _ => exact snd_9_12
  | 13, h, _ => exact snd_9_13
  | 14, h, _ => exact snd_9_14
  | n + 15, _, h => exact absurd h (by omega)
theorem snd_10_10 : term_sound 18446744073709551616 (shD 10 10) = some ((true, ()), ()) := by kernel_rfl
theorem snd_10_11 : term_sound 18446744073709551616 (shD 10 11) = some ((true, ()), ()) := by kernel_rfl
theorem snd_10_12 : term_sound 18446744073709551616 (shD 10 12) = some ((true, ()), ()) := by kernel_rfl
theorem snd_10_13 : term_sound 18446744073709551616 (shD 10 13) = some ((true, ()), ()) := by kernel_rfl
theorem snd_10_14 : term_sound 18446744073709551616 (shD 10 14) = some ((true, ()), ()) := by kernel_rfl
theorem snd_10 (j : Nat) (h : 10 ≤ j) (h2 : j < 15) : term_sound 18446744073709551616 (shD 10 j) = some ((true, ()), ()) := by
  match j, h, h2 with
  | 0, h, _ => exact absurd h (by decide)
  | 1, h, _ => exact absurd h (by decide)
  | 2, h, _ => exact absurd h (by decide)
  | 3, h, _ => exact absurd h (by decide)
  | 4, h, _ => exact absurd h (by decide)
  | 5, h, _ => exact absurd h (by decide)
  | 6, h, _ => exact absurd h (by decide)
  | 7, h, _ => exact absurd h (by decide)
  | 8, h, _ => exact absurd h (by decide)
  | 9, h, _ => exact absurd h (by decide)
  | 10, h, _ => exact snd_10_10
  | 11, h, _ => exact snd_10_11
  | 12, h, _ => exact snd_10_12
  | 13, h, _ => exact snd_10_13
  | 14, h, _ => exact snd_10_14
  | n + 15, _, h => exact absurd h (by omega)
theorem snd_11_11 : term_sound 18446744073709551616 (shD 11 11) = some ((true, ()), ()) := by kernel_rfl
theorem snd_11_12 : term_sound 18446744073709551616 (shD 11 12) = some ((true, ()), ()) := by kernel_rfl
theorem snd_11_13 : term_sound 18446744073709551616 (shD 11 13) = some ((true, ()), ()) := by kernel_rfl
theorem snd_11_14 : term_sound 18446744073709551616 (shD 11 14) = some ((true, ()), ()) := by kernel_rfl
theorem snd_11 (j : Nat) (h : 11 ≤ j) (h2 : j < 15) : term_sound 18446744073709551616 (shD 11 j) = some ((true, ()), ()) := by
  match j, h, h2 with
  | 0, h, _ => exact absurd h (by decide)
  | 1, h, _ => exact absurd h (by decide)
  | 2, h, _ => exact absurd h (by decide)
  | 3, h, _ => exact absurd h (by decide)
  | 4, h, _ => exact absurd h (by decide)
  | 5, h, _ => exact absurd h (by decide)
  | 6, h, _ => exact absurd h (by decide)
  | 7, h, _ => exact absurd h (by decide)
  | 8, h, _ => exact absurd h (by decide)
  | 9, h, _ => exact absurd h (by decide)
  | 10, h, _ => exact absurd h (by decide)
  | 11, h, _ => exact snd_11_11
  | 12, h, _ => exact snd_11_12
  | 13, h, _ => exact snd_11_13
  | 14, h, _ => exact snd_11_14
  | n + 15, _, h => exact absurd h (by omega)
theorem snd_12_12 : term_sound 18446744073709551616 (shD 12 12) = some ((true, ()), ()) := by kernel_rfl
theorem snd_12_13 : term_sound 18446744073709551616 (shD 12 13) = some ((true, ()), ()) := by kernel_rfl
theorem snd_12_14 : term_sound 18446744073709551616 (shD 12 14) = some ((true, ()), ()) := by kernel_rfl
theorem snd_12 (j : Nat) (h : 12 ≤ j) (h2 : j < 15) : term_sound 18446744073709551616 (shD 12 j) = some ((true, ()), ()) := by
  match j, h, h2 with
  | 0, h, _ => exact absurd h (by decide)
  | 1, h, _ => exact absurd h (by decide)
  | 2, h, _ => exact absurd h (by decide)
  | 3, h, _ => exact absurd h (by decide)
  | 4, h, _ => exact absurd h (by decide)
  | 5, h, _ => exact absurd h (by decide)
  | 6, h, _ => exact absurd h (by decide)
  | 7, h, _ => exact absurd h (by decide)
  | 8, h, _ => exact absurd h (by decide)
  | 9, h, _ => exact absurd h (by decide)
  | 10, h, _ => exact absurd h (by decide)
  | 11, h, _ => exact absurd h (by decide)
  | 12, h, _ => exact snd_12_12
  | 13, h, _ => exact snd_12_13
  | 14, h, _ => exact snd_12_14
  | n + 15, _, h => exact absurd h (by omega)
theorem snd_13_13 : term_sound 18446744073709551616 (shD 13 13) = some ((true, ()), ()) := by kernel_rfl
theorem snd_13_14 : term_sound 18446744073709551616 (shD 13 14) = some ((true, ()), ()) := by kernel_rfl
theorem snd_13 (j : Nat) (h : 13 ≤ j) (h2 : j < 15) : term_sound 18446744073709551616 (shD 13 j) = some ((true, ()), ()) := by
  match j, h, h2 with
  | 0, h, _ => exact absurd h (by decide)
  | 1, h, _ => exact absurd h (by decide)
  | 2, h, _ => exact absurd h (by decide)
  | 3, h, _ => exact absurd h (by decide)
  | 4, h, _ => exact absurd h (by decide)
  | 5, h, _ => exact absurd h (by decide)
  | 6, h, _ => exact absurd h (by decide)
  | 7, h, _ => exact absurd h (by decide)
  | 8, h, _ => exact absurd h (by decide)
  | 9, h, _ => exact absurd h (by decide)
  | 10, h, _ => exact absurd h (by decide)
  | 11, h, _ => exact absurd h (by decide)
  | 12, h, _ => exact absurd h (by decide)
  | 13, h, _ => exact snd_13_13
  | 14, h, _ => exact snd_13_14
  | n + 15, _, h => exact absurd h (by omega)
theorem snd_14_14 : term_sound 18446744073709551616 (shD 14 14) = some ((true, ()), ()) := by kernel_rfl
theorem snd_14 (j : Nat) (h : 14 ≤ j) (h2 : j < 15) : term_sound 18446744073709551616 (shD 14 j) = some ((true, ()), ()) := by
  match j, h, h2 with
  | 0, h, _ => exact absurd h (by decide)
  | 1, h, _ => exact absurd h (by decide)
  | 2, h, _ => exact absurd h (by decide)
  | 3, h, _ => exact absurd h (by decide)
  | 4, h, _ => exact absurd h (by decide)
  | 5, h, _ => exact absurd h (by decide)
  | 6, h, _ => exact absurd h (by decide)
  | 7, h, _ => exact absurd h (by decide)
  | 8, h, _ => exact absurd h (by decide)
  | 9, h, _ => exact absurd h (by decide)
  | 10, h, _ => exact absurd h (by decide)
  | 11, h, _ => exact absurd h (by decide)
  | 12, h, _ => exact absurd h (by decide)
  | 13, h, _ => exact absurd h (by decide)
  | 14, h, _ => exact snd_14_14
  | n + 15, _, h => exact absurd h (by omega)
theorem snd_all (i j : Nat) (h : i ≤ j) (h2 : j < 15) : term_sound 18446744073709551616 (shD i j) = some ((true, ()), ()) := by
  have hi : i < 15 := by omega
  match i, hi with
  | 0, _ => exact snd_0 j h h2
  | 1, _ => exact snd_1 j h h2
  | 2, _ => exact snd_2 j h h2
  | 3, _ => exact snd_3 j h h2
  | 4, _ => exact snd_4 j h h2
  | 5, _ => exact snd_5 j h h2
  | 6, _ => exact snd_6 j h h2
  | 7, _ => exact snd_7 j h h2
  | 8, _ => exact snd_8 j h h2
  | 9, _ => exact snd_9 j h h2
  | 10, _ => exact snd_10 j h h2
  | 11, _ => exact snd_11 j h h2
  | 12, _ => exact snd_12 j h h2
  | 13, _ => exact snd_13 j h h2
  | 14, _ => exact snd_14 j h h2
  | n + 15, h => exact absurd h (by omega)
end Go.Proofs.YtajpblfinenmjaaDoor.Pl

/- Plain: drawn terms: they are valid. -/
namespace Go.Proofs.YtajpblfinenmjaaDoor.Pl
open Go
def args : Tree → List Tree
  | .mk _ _ l => l
/-- What a node is: its operator, its value and its children fit. -/
def SOk : Tree → Prop
  | .mk o v l => 0 ≤ v ∧ v ≤ 10000000 ∧ ((o = 1 ∧ l = []) ∨ (o = 2 ∧ l = []) ∨ (o = 9 ∧ l = []) ∨ (o = 3 ∧ v = 0) ∨ o = 6 ∨ (o = 4 ∧ v = 0 ∧ ∃ i, i < 15 ∧ l = [mkT (nmD i)]) ∨ (o = 8 ∧ ∃ a, l = [a]) ∨
      (o = 5 ∧ v = 0 ∧ ∃ i j, i ≤ j ∧ j < 15 ∧ l = [mkT (nmD i), mkT (nmD j)]) ∨ (o = 7 ∧ v = 0 ∧ ∃ a b, l = [a, b]))
/-- A drawn term of a depth of at most e. -/
def Gd : Nat → Tree → Prop
  | 0, _ => False
  | e + 1, t => SOk t ∧ (args t).length ≤ 4 ∧ ∀ a ∈ args t, Gd e a
theorem Gd.mono : ∀ {e : Nat} {t : Tree}, Gd e t → Gd (e + 1) t
  | 0, _, h => h.elim
  | e + 1, t, h => ⟨h.1, h.2.1, fun a ha => Gd.mono (h.2.2 a ha)⟩
theorem Gd.le {e f : Nat} {t : Tree} (h : Gd e t) (hf : e ≤ f) : Gd f t := by
  obtain ⟨k, rfl⟩ := Nat.exists_eq_add_of_le hf
  induction k with
  | zero => exact h
  | succ k ih => exact (ih (by omega)).mono
section
variable (N : Nat) (hsh : ∀ i j, i ≤ j → j < 15 → term_sound N (shD i j) = some ((true, ()), ()))
include hsh
theorem sound_ok {t : Tree} (h : SOk t) : term_sound N t.un = some ((true, ()), ()) := by
  obtain ⟨o, v, l⟩ := t
  obtain ⟨h0, h1, h⟩ := h
  have e0 : decide ((0 : Int) ≤ v) = true := decide_eq_true h0
  rcases h with ⟨rfl, rfl⟩ | ⟨rfl, rfl⟩ | ⟨rfl, rfl⟩ | ⟨rfl, rfl⟩ | rfl | ⟨rfl, rfl, i, hi, rfl⟩ | ⟨rfl, a, rfl⟩ | ⟨rfl, rfl, i, j, hij, hj, rfl⟩ | ⟨rfl, rfl, a, b, rfl⟩
  · rfl
  · show some ((decide ((0 : Int) ≤ v), ()), ()) = _
    rw [e0]
  · show some ((decide ((0 : Int) ≤ v), ()), ()) = _
    rw [e0]
  · rfl
  · show some ((decide ((0 : Int) ≤ v), ()), ()) = _
    rw [e0]
  · rfl
  · show some ((decide ((0 : Int) ≤ v), ()), ()) = _
    rw [e0]
  · exact hsh i j hij hj
  · rfl
theorem vAll_ok {l : List (Tree × Int)} (h : ∀ p ∈ l, p.2 ≤ 60 ∧ SOk p.1) : vAll N l = some true := by
  induction l with
  | nil => rfl
  | cons p l ih =>
    have h1 := h p (by simp)
    have h2 := ih fun q hq => h q (by simp [hq])
    unfold vAll
    rw [sound_ok N hsh h1.2, h2]
    show some (decide (p.2 ≤ 60) && true && true) = some true
    rw [decide_eq_true h1.1]
    rfl
omit hsh in
def nbd : Nat → Nat
  | 0 => 0
  | e + 1 => 1 + 4 * nbd e
omit hsh in
theorem vN_ok : ∀ (e : Nat) (t : Tree) (d : Int), Gd e t → (vN t d).length ≤ nbd e ∧ ∀ p ∈ vN t d, p.2 ≤ d + e ∧ SOk p.1
  | 0, _, _, h => h.elim
  | e + 1, .mk o v l, d, h => by
    obtain ⟨h1, h2, h3⟩ := h
    have key : ∀ l : List Tree, (∀ a ∈ l, Gd e a) → (vNL l (d + 1)).length ≤ l.length * nbd e ∧ ∀ p ∈ vNL l (d + 1), p.2 ≤ d + 1 + e ∧ SOk p.1 := by
      intro l
      induction l with
      | nil => intro _; exact ⟨by simp [vNL], by simp [vNL]⟩
      | cons a l ih =>
        intro hl
        have i1 := ih fun x hx => hl x (by simp [hx])
        have i2 := vN_ok e a (d + 1) (hl a (by simp))
        refine ⟨?_, fun p hp => ?_⟩
        · simp only [vNL, List.length_append, List.length_cons, Nat.add_mul]
          omega
        · simp only [vNL, List.mem_append] at hp
          exact hp.elim (i2.2 p) (i1.2 p)
    have k := key l h3
    have h2' : l.length ≤ 4 := h2
    refine ⟨?_, fun p hp => ?_⟩
    · have := Nat.mul_le_mul_right (nbd e) h2'
      simp only [vN, List.length_cons, nbd]
      omega
    · simp only [vN, List.mem_cons] at hp
      rcases hp with rfl | hp
      · exact ⟨by show d ≤ d + ((e + 1 : Nat) : Int); omega, h1⟩
      · have := k.2 p hp
        exact ⟨by have := this.1; omega, this.2⟩
theorem valid_ok {e : Nat} (he : e ≤ 5) {t : Tree} (h : Gd e t) : term_Valid N t.un = some ((true, ()), ()) := by
  obtain ⟨h1, h2⟩ := vN_ok e t 1 h
  have hn : nbd e ≤ 600 := by
    match e, he with
    | 0, _ => decide
    | 1, _ => decide
    | 2, _ => decide
    | 3, _ => decide
    | 4, _ => decide
    | 5, _ => decide
  unfold term_Valid
  have hT : mkT t.un = t := by cases t; rfl
  rw [hT, Nat.ble_eq_true_of_le (Nat.le_trans h1 hn), cond_true, vAll_ok N hsh fun p hp => ⟨by have := (h2 p hp).1; omega, (h2 p hp).2⟩]
  rfl
end
end Go.Proofs.YtajpblfinenmjaaDoor.Pl

/- Plain: rules by which a walk over shallow functions is decided; numbers in bytes (wire, ref01). -/
namespace Go.Proofs.YtajpblfinenmjaaDoor.Pl
open Go
/-- The number of bytes, the highest first. -/
def nbr (l : List UInt8) : UInt64 := l.foldl (fun v x => shl64 v 8 ||| x.toUInt64) 0
theorem nbr_snoc (l : List UInt8) (x : UInt8) : nbr (l ++ [x]) = shl64 (nbr l) 8 ||| x.toUInt64 := by simp [nbr]
theorem nbr_take (l : List UInt8) {i : Nat} (h : i < l.length) : nbr (l.take (i + 1)) = shl64 (nbr (l.take i)) 8 ||| (l.getD i 0).toUInt64 := by
  rw [List.take_add_one, List.getElem?_eq_getElem h]
  simp only [Option.toList_some, nbr_snoc]
  simp [List.getD, h]
theorem wire_number (N : Nat) {b : List UInt8} {at_ w : Int} (hw : 1 ≤ w) (hw8 : w ≤ 8) (h0 : 0 ≤ at_) (hb : at_ + w ≤ (b.length : Int)) (hl : b.length ≤ 4611686018427387904) (hN : 8 < N) :
    wire_Number N b at_ w = some ((nbr ((b.drop at_.toNat).take w.toNat), true, ()), ()) := by
  obtain ⟨k, rfl⟩ := Int.eq_ofNat_of_zero_le h0
  obtain ⟨m, rfl⟩ := Int.eq_ofNat_of_zero_le (show 0 ≤ w by omega)
  have hs : cut b k (k + m) = (b.drop k).take m := cut_at b k m
  have hlen : ((b.drop k).take m).length = m := by simp; omega
  have e1 : ((k : Int) + (m : Int)).toNat = k + m := by omega
  unfold wire_Number wire_Number_1 wire_Slice wire_Slice_1
  simp (disch := omega) only [dpos, dneg, w64_of, inR_of, room_of, tmod_of, cond_true, cond_false, Bool.and_self, Bool.and_true, Bool.true_and, Bool.and_false, Bool.false_and, Bool.not_true, Bool.not_false, Option.bind_some, List.length_cons, List.length_nil, Nat.zero_add, Int.toNat_natCast, e1, hs]
  generalize (b.drop k).take m = s at hlen
  subst hlen
  unfold wire_Number_2
  refine (loopK_run (fun i : Nat => ((nbr (s.take i), s, (s.length : Int), (i : Int), ()), ())) (n := s.length) ?_ (e := ((nbr s, ()), ())) ?_ (by omega)).trans rfl
  · intro i hi
    show wire_Number_s3 N _ s _ _ = _
    unfold wire_Number_s3
    simp (disch := omega) only [dpos, dneg, w64_of, inR_of, room_of, tmod_of, cond_true, cond_false, Bool.and_self, Bool.and_true, Bool.true_and, Bool.and_false, Bool.false_and, Bool.not_true, Bool.not_false, Option.bind_some, List.length_cons, List.length_nil, Nat.zero_add, Int.toNat_natCast, nbr_take s hi, Int.natCast_add, Int.natCast_one]
  · show wire_Number_s3 N _ s _ _ = _
    unfold wire_Number_s3
    simp (disch := omega) only [dpos, dneg, w64_of, inR_of, room_of, tmod_of, cond_true, cond_false, Bool.and_self, Bool.and_true, Bool.true_and, Bool.and_false, Bool.false_and, Bool.not_true, Bool.not_false, Option.bind_some, List.length_cons, List.length_nil, Nat.zero_add, List.take_length]

/-- The bytes of a number, the highest first. -/
def be (v : UInt64) : Nat → List UInt8
  | 0 => []
  | k + 1 => (shr64 v (8 * (k : Int)).toNat).toUInt8 :: be v k
theorem be_len (v : UInt64) (k : Nat) : (be v k).length = k := by induction k with | zero => rfl | succ k ih => simp [be, ih]
/-- The first i of w bytes. -/
theorem be_take (v : UInt64) {i w : Nat} (h : i < w) : (be v w).take (i + 1) = (be v w).take i ++ [(shr64 v (8 * ((w : Int) - 1 - (i : Int))).toNat).toUInt8] := by
  induction w generalizing i with
  | zero => omega
  | succ w ih =>
    cases i with
    | zero =>
      simp only [be, List.take_succ_cons, List.take_zero, List.nil_append]
      rw [show ((w + 1 : Nat) : Int) - 1 - ((0 : Nat) : Int) = (w : Int) by omega]
    | succ i =>
      rw [be, List.take_succ_cons, List.take_succ_cons, ih (by omega)]
      rw [show ((w + 1 : Nat) : Int) - 1 - ((i + 1 : Nat) : Int) = (w : Int) - 1 - (i : Int) by omega]
      rfl
theorem wire_put (N : Nat) {v : UInt64} {w : Int} {b : List UInt8} (hw : 1 ≤ w) (hw8 : w ≤ 8) (hl : b.length ≤ 70368744177664) (hN : 8 < N) :
    wire_Put N v w b = some ((), (b ++ be v w.toNat, ())) := by
  obtain ⟨m, rfl⟩ := Int.eq_ofNat_of_zero_le (show 0 ≤ w by omega)
  unfold wire_Put wire_Put_1
  simp (disch := omega) only [dpos, dneg, w64_of, inR_of, room_of, tmod_of, cond_true, cond_false, Bool.and_self, Bool.and_true, Bool.true_and, Bool.and_false, Bool.false_and, Bool.not_true, Bool.not_false, Option.bind_some, List.length_cons, List.length_nil, Nat.zero_add, Int.toNat_natCast]
  unfold wire_Put_2
  have h0 : b = b ++ (be v m).take 0 := by simp
  have := loopK_run (step := fun y => wire_Put_s3 N y.1.1 y.1.2.1 y.2.1) (J := fun (e : ((Unit) × ((List UInt8) × Unit))) => wire_Put_4 N e.2.1) (fun i : Nat => ((v, (m : Int) - 1 - (i : Int), ()), (b ++ (be v m).take i, ()))) (n := m) (e := ((), (b ++ be v m, ()))) ?_ ?_ (show m < N by omega)
  · simp only [Int.natCast_zero, Int.sub_zero, List.take_zero, List.append_nil] at this
    exact this
  · intro i hi
    have hlen := be_len v m
    have hle : ((be v m).take i).length = i := by simp; omega
    show wire_Put_s3 N v _ _ = _
    unfold wire_Put_s3
    simp (disch := omega) only [dpos, dneg, w64_of, inR_of, room_of, tmod_of, cond_true, cond_false, Bool.and_self, Bool.and_true, Bool.true_and, Bool.and_false, Bool.false_and, Bool.not_true, Bool.not_false, Option.bind_some, List.length_cons, List.length_nil, Nat.zero_add, List.length_append, hle]
    rw [be_take v hi, List.append_assoc, show (m : Int) - 1 - (i : Int) - 1 = (m : Int) - 1 - ((i + 1 : Nat) : Int) by omega]
  · show wire_Put_s3 N v _ _ = _
    unfold wire_Put_s3
    simp (disch := omega) only [dpos, dneg, w64_of, inR_of, room_of, tmod_of, cond_true, cond_false, Bool.and_self, Bool.and_true, Bool.true_and, Bool.and_false, Bool.false_and, Bool.not_true, Bool.not_false, Option.bind_some, List.length_cons, List.length_nil, Nat.zero_add]
    rw [List.take_of_length_le (by rw [be_len]; omega)]
end Go.Proofs.YtajpblfinenmjaaDoor.Pl

/- Plain: SHA-256, the program's and the reference's: both are one function of the bytes. -/
namespace Go.Proofs.YtajpblfinenmjaaDoor.Pl
open Go
noncomputable section
def rotr (x : UInt32) (n : Nat) : UInt32 := shl32 x (32 - n) ||| shr32 x n
theorem right2 (N : Nat) (x : UInt32) : sha256_right N x (2 : Int) = some ((rotr x 2, ()), ()) := by kernel_rfl
theorem right6 (N : Nat) (x : UInt32) : sha256_right N x (6 : Int) = some ((rotr x 6, ()), ()) := by kernel_rfl
theorem right7 (N : Nat) (x : UInt32) : sha256_right N x (7 : Int) = some ((rotr x 7, ()), ()) := by kernel_rfl
theorem right11 (N : Nat) (x : UInt32) : sha256_right N x (11 : Int) = some ((rotr x 11, ()), ()) := by kernel_rfl
theorem right13 (N : Nat) (x : UInt32) : sha256_right N x (13 : Int) = some ((rotr x 13, ()), ()) := by kernel_rfl
theorem right17 (N : Nat) (x : UInt32) : sha256_right N x (17 : Int) = some ((rotr x 17, ()), ()) := by kernel_rfl
theorem right18 (N : Nat) (x : UInt32) : sha256_right N x (18 : Int) = some ((rotr x 18, ()), ()) := by kernel_rfl
theorem right19 (N : Nat) (x : UInt32) : sha256_right N x (19 : Int) = some ((rotr x 19, ()), ()) := by kernel_rfl
theorem right22 (N : Nat) (x : UInt32) : sha256_right N x (22 : Int) = some ((rotr x 22, ()), ()) := by kernel_rfl
theorem right25 (N : Nat) (x : UInt32) : sha256_right N x (25 : Int) = some ((rotr x 25, ()), ()) := by kernel_rfl
/-- The word t of the schedule. -/
def sst (block : List UInt8) (w : List UInt32) (t : Nat) : UInt32 :=
  if t < 16 then (nbr ((block.drop (4 * (t : Int)).toNat).take (4 : Int).toNat)).toUInt32
  else ((((rotr (w.getD ((t : Int) - 2).toNat 0) 17 ^^^ rotr (w.getD ((t : Int) - 2).toNat 0) 19) ^^^ shr32 (w.getD ((t : Int) - 2).toNat 0) 10) + w.getD ((t : Int) - 7).toNat 0) +
    ((rotr (w.getD ((t : Int) - 15).toNat 0) 7 ^^^ rotr (w.getD ((t : Int) - 15).toNat 0) 18) ^^^ shr32 (w.getD ((t : Int) - 15).toNat 0) 3)) + w.getD ((t : Int) - 16).toNat 0
def sw (block : List UInt8) : Nat → List UInt32
  | 0 => List.replicate 64 0
  | t + 1 => (sw block t).set t (sst block (sw block t) t)
theorem sched (N : Nat) {block : List UInt8} (hb : block.length = 64) (hN : 4611686018427387904 ≤ N) : sha256_schedule N block = some ((sw block 64, ()), ()) := by
  unfold sha256_schedule sha256_schedule_1
  refine (loopK_run (fun t : Nat => ((block, (t : Int), ()), (List.replicate 64 0, sw block t, ()))) (n := 64) ?_ (e := ((), (List.replicate 64 0, sw block 64, ()))) ?_ (by omega)).trans ?_
  · intro t ht
    show sha256_schedule_s2 N block _ _ _ = _
    unfold sha256_schedule_s2
    by_cases h16 : t < 16
    · simp (disch := omega) only [dpos, dneg, w64_of, inR_of, room_of, tmod_of, cond_true, cond_false, Bool.and_self, Bool.and_true, Bool.true_and, Bool.and_false, Bool.false_and, Bool.not_true, Bool.not_false, Option.bind_some, List.length_cons, List.length_nil, Nat.zero_add, wire_number, Int.toNat_natCast, sw, sst, if_pos, Int.natCast_add, Int.natCast_one]
    · simp (disch := omega) only [dpos, dneg, w64_of, inR_of, room_of, tmod_of, cond_true, cond_false, Bool.and_self, Bool.and_true, Bool.true_and, Bool.and_false, Bool.false_and, Bool.not_true, Bool.not_false, Option.bind_some, List.length_cons, List.length_nil, Nat.zero_add, right17, right19, right7, right18, Int.toNat_natCast, sw, sst, if_neg, Int.natCast_add, Int.natCast_one]
  · show sha256_schedule_s2 N block _ _ _ = _
    unfold sha256_schedule_s2
    simp (disch := omega) only [dpos, dneg, w64_of, inR_of, room_of, tmod_of, cond_true, cond_false, Bool.and_self, Bool.and_true, Bool.true_and, Bool.and_false, Bool.false_and, Bool.not_true, Bool.not_false, Option.bind_some, List.length_cons, List.length_nil, Nat.zero_add]
  · simp only [sha256_schedule_3]

/-- A round. -/
def nx (k w : UInt32) : List UInt32 → List UInt32
  | [a, b, c, d, e, f, g, h] => [((((h + ((rotr e 6 ^^^ rotr e 11) ^^^ rotr e 25)) + ((e &&& f) ^^^ ((~~~ e) &&& g))) + k) + w) + (((rotr a 2 ^^^ rotr a 13) ^^^ rotr a 22) + (((a &&& b) ^^^ (a &&& c)) ^^^ (b &&& c))), a, b, c,
      d + ((((h + ((rotr e 6 ^^^ rotr e 11) ^^^ rotr e 25)) + ((e &&& f) ^^^ ((~~~ e) &&& g))) + k) + w), e, f, g]
  | l => l
def rd (w st : List UInt32) : Nat → List UInt32
  | 0 => st
  | t + 1 => nx (g_sha256_constants.getD t 0) (w.getD t 0) (rd w st t)
theorem list8 {α : Type} {l : List α} (h : l.length = 8) : ∃ a b c d e f g i, l = [a, b, c, d, e, f, g, i] := by
  match l, h with
  | [a, b, c, d, e, f, g, i], _ => exact ⟨a, b, c, d, e, f, g, i, rfl⟩
theorem nx_len (k w : UInt32) {l : List UInt32} (h : l.length = 8) : (nx k w l).length = 8 := by
  obtain ⟨a, b, c, d, e, f, g, i, rfl⟩ := list8 h; rfl
theorem rd_len (w : List UInt32) {st : List UInt32} (h : st.length = 8) (t : Nat) : (rd w st t).length = 8 := by
  induction t with
  | zero => exact h
  | succ t ih => exact nx_len _ _ ih
def add8 (l m : List UInt32) : List UInt32 := List.zipWith (· + ·) l m
def blk (st : List UInt32) (block : List UInt8) : List UInt32 := add8 st (rd (sw block 64) st 64)
theorem blk_len {st : List UInt32} (h : st.length = 8) (block : List UInt8) : (blk st block).length = 8 := by
  simp [blk, add8, h, rd_len _ h]
theorem sha_fin (M : Nat) (a b c d e f g h s0 s1 s2 s3 s4 s5 s6 s7 : UInt32) (t : List UInt32) :
    sha256_Block_4 (M + 9) [a, b, c, d, e, f, g, h] 0 [s0, s1, s2, s3, s4, s5, s6, s7] t = some (([s0 + a, s1 + b, s2 + c, s3 + d, s4 + e, s5 + f, s6 + g, s7 + h], true, ()), ()) := by kernel_rfl
theorem sha_block (N : Nat) {st : List UInt32} {block : List UInt8} (hs : st.length = 8) (hb : block.length = 64) (hN : 4611686018427387904 ≤ N) : sha256_Block N st block = some ((blk st block, true, ()), ()) := by
  unfold sha256_Block
  simp (disch := omega) only [dpos, dneg, w64_of, inR_of, room_of, tmod_of, cond_true, cond_false, Bool.and_self, Bool.and_true, Bool.true_and, Bool.and_false, Bool.false_and, Bool.not_true, Bool.not_false, Option.bind_some, List.length_cons, List.length_nil, Nat.zero_add, sched]
  unfold sha256_Block_1
  have h8 := rd_len (sw block 64) hs
  refine (loopK_run (fun t : Nat => (((rd (sw block 64) st t).getD 0 0, (rd (sw block 64) st t).getD 1 0, (rd (sw block 64) st t).getD 2 0, (rd (sw block 64) st t).getD 3 0, (rd (sw block 64) st t).getD 4 0, (rd (sw block 64) st t).getD 5 0, (rd (sw block 64) st t).getD 6 0, (rd (sw block 64) st t).getD 7 0, sw block 64, (t : Int), ()), (st, List.replicate 8 0, ()))) (n := 64) ?_
    (e := (((rd (sw block 64) st 64).getD 0 0, (rd (sw block 64) st 64).getD 1 0, (rd (sw block 64) st 64).getD 2 0, (rd (sw block 64) st 64).getD 3 0, (rd (sw block 64) st 64).getD 4 0, (rd (sw block 64) st 64).getD 5 0, (rd (sw block 64) st 64).getD 6 0, (rd (sw block 64) st 64).getD 7 0, ()), (st, List.replicate 8 0, ()))) ?_ (by omega)).trans ?_
  · intro t ht
    show sha256_Block_s2 N _ _ _ _ _ _ _ _ _ _ _ _ = _
    simp only [rd]
    obtain ⟨a, b, c, d, e, f, g, h, e1⟩ := list8 (h8 t)
    rw [e1]
    unfold sha256_Block_s2
    simp (disch := omega) only [dpos, dneg, w64_of, inR_of, room_of, tmod_of, cond_true, cond_false, Bool.and_self, Bool.and_true, Bool.true_and, Bool.and_false, Bool.false_and, Bool.not_true, Bool.not_false, Option.bind_some, List.length_cons, List.length_nil, Nat.zero_add, right2, right6, right11, right13, right22, right25, Int.toNat_natCast, nx, List.getD_cons_zero, List.getD_cons_succ, Int.natCast_add, Int.natCast_one]
  · show sha256_Block_s2 N _ _ _ _ _ _ _ _ _ _ _ _ = _
    unfold sha256_Block_s2
    simp (disch := omega) only [dpos, dneg, w64_of, inR_of, room_of, tmod_of, cond_true, cond_false, Bool.and_self, Bool.and_true, Bool.true_and, Bool.and_false, Bool.false_and, Bool.not_true, Bool.not_false, Option.bind_some, List.length_cons, List.length_nil, Nat.zero_add]
  · obtain ⟨a, b, c, d, e, f, g, h, e1⟩ := list8 (h8 64)
    obtain ⟨s0, s1, s2, s3, s4, s5, s6, s7, rfl⟩ := list8 hs
    obtain ⟨M, rfl⟩ := Nat.exists_eq_add_of_le' (show 9 ≤ N by omega)
    show sha256_Block_3 _ _ _ _ _ _ _ _ _ _ _ = _
    unfold sha256_Block_3
    simp only [blk, e1, List.getD_cons_zero, List.getD_cons_succ]
    rw [sha_fin]
    rfl
/-- What follows a message of n bytes. -/
def pad (n : Nat) : List UInt8 := (128 :: List.replicate ((119 - n % 64) % 64) 0) ++ be (iu64 (n : Int) * 8) 8
theorem pad_len (n : Nat) : (pad n).length = 9 + (119 - n % 64) % 64 := by simp [pad, be_len]; omega
theorem sha_pad (N : Nat) {n : Int} (h0 : 0 ≤ n) (h1 : n ≤ 35184372088832) (hN : 4611686018427387904 ≤ N) : sha256_Pad N n = some ((), (pad n.toNat, ())) := by
  obtain ⟨k, rfl⟩ := Int.eq_ofNat_of_zero_le h0
  unfold sha256_Pad
  simp (disch := omega) only [dpos, dneg, w64_of, inR_of, room_of, tmod_of, cond_true, cond_false, Bool.and_self, Bool.and_true, Bool.true_and, Bool.and_false, Bool.false_and, Bool.not_true, Bool.not_false, Option.bind_some, List.length_cons, List.length_nil, Nat.zero_add]
  unfold sha256_Pad_1
  obtain ⟨z, hz⟩ : ∃ z, z = (119 - k % 64) % 64 := ⟨_, rfl⟩
  have hzN : z < N := by omega
  refine (loopK_run (fun i : Nat => (((k : Int), ()), (128 :: List.replicate i 0, ()))) (n := z) ?_ (e := (((k : Int), ()), (128 :: List.replicate z 0, ()))) ?_ hzN).trans ?_
  · intro i hi
    show sha256_Pad_s2 N _ _ = _
    unfold sha256_Pad_s2
    simp (disch := omega) only [dpos, dneg, w64_of, inR_of, room_of, tmod_of, cond_true, cond_false, Bool.and_self, Bool.and_true, Bool.true_and, Bool.and_false, Bool.false_and, Bool.not_true, Bool.not_false, Option.bind_some, List.length_cons, List.length_nil, Nat.zero_add, List.length_append, List.length_replicate, Int.natCast_add, Int.natCast_one]
    rw [List.cons_append, ← List.replicate_succ']
  · show sha256_Pad_s2 N _ _ = _
    unfold sha256_Pad_s2
    simp (disch := omega) only [dpos, dneg, w64_of, inR_of, room_of, tmod_of, cond_true, cond_false, Bool.and_self, Bool.and_true, Bool.true_and, Bool.and_false, Bool.false_and, Bool.not_true, Bool.not_false, Option.bind_some, List.length_cons, List.length_nil, Nat.zero_add, List.length_append, List.length_replicate, Int.natCast_add, Int.natCast_one]
  · show sha256_Pad_3 N _ _ = _
    unfold sha256_Pad_3
    have hl : ((128 : UInt8) :: List.replicate z 0).length ≤ 70368744177664 := by simp; omega
    simp (disch := omega) only [dpos, dneg, w64_of, inR_of, room_of, tmod_of, cond_true, cond_false, Bool.and_self, Bool.and_true, Bool.true_and, Bool.and_false, Bool.false_and, Bool.not_true, Bool.not_false, Option.bind_some, List.length_cons, List.length_nil, Nat.zero_add, wire_put, pad, Int.toNat_natCast, ← hz]
    rfl
/-- The states behind the blocks of a message. -/
def chain (all : List UInt8) (st : List UInt32) : Nat → List UInt32
  | 0 => st
  | i + 1 => blk (chain all st i) ((all.drop (64 * i)).take 64)
theorem chain_len (all : List UInt8) {st : List UInt32} (h : st.length = 8) (i : Nat) : (chain all st i).length = 8 := by
  induction i with
  | zero => exact h
  | succ i ih => exact blk_len ih _
def out8 (l : List UInt32) : List UInt8 := (l.map fun x => be x.toUInt64 4).flatten
/-- The hash. -/
def sha (b : List UInt8) : List UInt8 := out8 (chain (b ++ pad b.length) g_sha256_initial ((b ++ pad b.length).length / 64))
theorem sha_out (M : Nat) (a b c d e f g h : UInt32) : sha256_Sum_4 (M + 20) [a, b, c, d, e, f, g, h] 0 [] = some ((), (out8 [a, b, c, d, e, f, g, h], ())) := by kernel_rfl
theorem out8_len {l : List UInt32} (h : l.length = 8) : (out8 l).length = 32 := by
  obtain ⟨a, b, c, d, e, f, g, h, rfl⟩ := list8 h
  simp [out8, be_len]
theorem sha_len (b : List UInt8) : (sha b).length = 32 := out8_len (chain_len _ rfl _)
theorem all_len (b : List UInt8) : (b ++ pad b.length).length = 64 * ((b ++ pad b.length).length / 64) := by
  rw [List.length_append, pad_len]; omega
theorem sha_sum (N : Nat) {b : List UInt8} (hb : b.length ≤ 35184372088832) (hN : 4611686018427387904 ≤ N) : sha256_Sum N b = some ((), (sha b, ())) := by
  unfold sha256_Sum
  have hp := pad_len b.length
  simp (disch := omega) only [dpos, dneg, w64_of, inR_of, room_of, tmod_of, cond_true, cond_false, Bool.and_self, Bool.and_true, Bool.true_and, Bool.and_false, Bool.false_and, Bool.not_true, Bool.not_false, Option.bind_some, List.length_cons, List.length_nil, Nat.zero_add, sha_pad, Int.toNat_natCast]
  have ha := all_len b
  unfold sha
  have hal : (b ++ pad b.length).length ≤ 35184372088932 := by rw [List.length_append]; omega
  generalize b ++ pad b.length = all at ha hal
  generalize all.length / 64 = n at ha
  have hst : g_sha256_initial.length = 8 := rfl
  generalize g_sha256_initial = st at hst
  unfold sha256_Sum_1
  refine (loopK_run (fun i : Nat => ((all, ((64 * i : Nat) : Int), ()), (chain all st i, ()))) (n := n) ?_ (e := ((), (chain all st n, ()))) ?_ (by omega)).trans ?_
  · intro i hi
    have hc := chain_len all hst i
    have e2 : ((64 * i : Nat) : Int) + 64 = ((64 * (i + 1) : Nat) : Int) := by omega
    have e3 : cut all (64 * i) (64 * (i + 1)) = (all.drop (64 * i)).take 64 := cut_at all (64 * i) 64
    have e4 : ((all.drop (64 * i)).take 64).length = 64 := by simp; omega
    show sha256_Sum_s2 N _ _ _ = _
    unfold sha256_Sum_s2
    simp (disch := omega) only [dpos, dneg, w64_of, inR_of, room_of, tmod_of, cond_true, cond_false, Bool.and_self, Bool.and_true, Bool.true_and, Bool.and_false, Bool.false_and, Bool.not_true, Bool.not_false, Option.bind_some, List.length_cons, List.length_nil, Nat.zero_add, e2, Int.toNat_natCast, e3, sha_block, hc, e4, chain]
  · show sha256_Sum_s2 N _ _ _ = _
    unfold sha256_Sum_s2
    simp (disch := omega) only [dpos, dneg, w64_of, inR_of, room_of, tmod_of, cond_true, cond_false, Bool.and_self, Bool.and_true, Bool.true_and, Bool.and_false, Bool.false_and, Bool.not_true, Bool.not_false, Option.bind_some, List.length_cons, List.length_nil, Nat.zero_add]
  · show sha256_Sum_3 N (chain all st n) = _
    unfold sha256_Sum_3
    obtain ⟨a, b, c, d, e, f, g, h, e1⟩ := list8 (chain_len all hst n)
    obtain ⟨M, rfl⟩ := Nat.exists_eq_add_of_le' (show 20 ≤ N by omega)
    rw [e1, sha_out]
end
end Go.Proofs.YtajpblfinenmjaaDoor.Pl

/- Plain: the keyed hash, the program's and the reference's: one function of the bytes. -/
namespace Go.Proofs.YtajpblfinenmjaaDoor.Pl
open Go
noncomputable section
/-- The key in 64 bytes. -/
def pk64 (k : List UInt8) : List UInt8 := splice (List.replicate 64 0) k
theorem pk64_len (k : List UInt8) (h : k.length ≤ 64) : (pk64 k).length = 64 := by simp [pk64, splice]; omega
def hk (k : List UInt8) : List UInt8 := if 64 < k.length then sha k else k
def mk (m : UInt8) (k : List UInt8) : List UInt8 := (pk64 k).map (· ^^^ m)
def hmac (k b : List UInt8) : List UInt8 := sha (mk 92 (hk k) ++ sha (mk 54 (hk k) ++ b))
theorem hmac_len (k b : List UInt8) : (hmac k b).length = 32 := sha_len _
theorem hmac_f1 (N : Nat) (m : UInt8) {b t : List UInt8} (ht : t.length = 64) (hb : b.length ≤ 17592186044416) (hN : 4611686018427387904 ≤ N) : prf_Hmac_f1 N m b t = some ((), (sha (t.map (· ^^^ m) ++ b), ())) := by
  unfold prf_Hmac_f1 prf_Hmac_f1_1
  have hl : (t.map (· ^^^ m)).length = 64 := by simp [ht]
  generalize hT : t.map (· ^^^ m) = T at hl
  refine (loopK_run (fun i : Nat => ((m, b, t, (i : Int), ()), (T.take i, ()))) (n := 64) ?_ (e := ((b, ()), (T, ()))) ?_ (by omega)).trans ?_
  · intro i hi
    have hti : (T.take i).length = i := by simp; omega
    have hg : T.getD i 0 = t.getD i 0 ^^^ m := by
      rw [← hT]; simp [List.getD, List.getElem?_eq_getElem (show i < t.length by omega)]
    show prf_Hmac_f1_s2 N m b t _ _ = _
    unfold prf_Hmac_f1_s2
    simp (disch := omega) only [dpos, dneg, w64_of, inR_of, room_of, tmod_of, cond_true, cond_false, Bool.and_self, Bool.and_true, Bool.true_and, Bool.and_false, Bool.false_and, Bool.not_true, Bool.not_false, Option.bind_some, List.length_cons, List.length_nil, Nat.zero_add, Int.toNat_natCast, Int.natCast_add, Int.natCast_one, hti]
    rw [take_snoc T 0 (by omega), hg]
  · show prf_Hmac_f1_s2 N m b t _ _ = _
    unfold prf_Hmac_f1_s2
    simp (disch := omega) only [dpos, dneg, w64_of, inR_of, room_of, tmod_of, cond_true, cond_false, Bool.and_self, Bool.and_true, Bool.true_and, Bool.and_false, Bool.false_and, Bool.not_true, Bool.not_false, Option.bind_some, List.length_cons, List.length_nil, Nat.zero_add, List.take_of_length_le (show T.length ≤ 64 by omega)]
  · show prf_Hmac_f1_3 N b T = _
    unfold prf_Hmac_f1_3
    have ha : (T ++ b).length ≤ 17592186044516 := by rw [List.length_append]; omega
    simp (disch := omega) only [dpos, dneg, w64_of, inR_of, room_of, tmod_of, cond_true, cond_false, Bool.and_self, Bool.and_true, Bool.true_and, Bool.and_false, Bool.false_and, Bool.not_true, Bool.not_false, Option.bind_some, List.length_cons, List.length_nil, Nat.zero_add, sha_sum]
theorem prf_hmac (N : Nat) {k b : List UInt8} (hk' : k.length ≤ 17592186044416) (hb : b.length ≤ 17592186044416) (hN : 4611686018427387904 ≤ N) : prf_Hmac N k b = some ((), (hmac k b, ())) := by
  have h1 : ∀ k : List UInt8, k.length ≤ 64 → prf_Hmac_1 N k b (List.replicate 64 0) = some ((), (sha (mk 92 k ++ sha (mk 54 k ++ b)), ())) := by
    intro k hk
    have hp := pk64_len k hk
    have hs := sha_len (mk 54 k ++ b)
    unfold prf_Hmac_1
    show (prf_Hmac_f1 N 54 b (pk64 k)).bind _ = _
    rw [hmac_f1 N 54 hp hb hN, Option.bind_some]
    show (prf_Hmac_f1 N 92 (sha (mk 54 k ++ b)) (pk64 k)).bind _ = _
    rw [hmac_f1 N 92 hp (by omega) hN, Option.bind_some]
    rfl
  unfold prf_Hmac hmac hk
  by_cases h : (64 : Int) < (k.length : Int)
  · have hs := sha_len k
    simp (disch := omega) only [dpos, dneg, w64_of, inR_of, room_of, tmod_of, cond_true, cond_false, Bool.and_self, Bool.and_true, Bool.true_and, Bool.and_false, Bool.false_and, Bool.not_true, Bool.not_false, Option.bind_some, List.length_cons, List.length_nil, Nat.zero_add, sha_sum, h1, if_pos]
  · simp (disch := omega) only [dpos, dneg, w64_of, inR_of, room_of, tmod_of, cond_true, cond_false, Bool.and_self, Bool.and_true, Bool.true_and, Bool.and_false, Bool.false_and, Bool.not_true, Bool.not_false, Option.bind_some, List.length_cons, List.length_nil, Nat.zero_add, h1, if_neg]
end
end Go.Proofs.YtajpblfinenmjaaDoor.Pl

/- Plain: products and powers in the small group (group.Mul, group.Power). -/
namespace Go.Proofs.YtajpblfinenmjaaDoor.Pl
open Go
noncomputable section
theorem u64add {x y : UInt64} (h : x.toNat + y.toNat < 18446744073709551616) : (x + y).toNat = x.toNat + y.toNat := by
  rw [UInt64.toNat_add]; exact Nat.mod_eq_of_lt h
theorem u64mul {x y : UInt64} (h : x.toNat * y.toNat < 18446744073709551616) : (x * y).toNat = x.toNat * y.toNat := by
  rw [UInt64.toNat_mul]; exact Nat.mod_eq_of_lt h
theorem u64sub {x y : UInt64} (h : y.toNat ≤ x.toNat) : (x - y).toNat = x.toNat - y.toNat := UInt64.toNat_sub_of_le _ _ (UInt64.le_iff_toNat_le.2 h)
theorem u64shr (x : UInt64) (n : Nat) : (shr64 x n).toNat = x.toNat / 2 ^ n := by
  show (x.toBitVec >>> n).toNat = _
  rw [BitVec.toNat_ushiftRight, Nat.shiftRight_eq_div_pow]; rfl
theorem u64lo (x : UInt64) : (x &&& 4294967295).toNat = x.toNat % 4294967296 := by
  rw [UInt64.toNat_and]; exact Nat.and_two_pow_sub_one_eq_mod _ 32
theorem mul64_ok (N : Nat) (x y : UInt64) : ∃ h l, math_bits_Mul64 N x y = some ((h, l, ()), ()) ∧ h.toNat = x.toNat * y.toNat / 18446744073709551616 ∧ l.toNat = x.toNat * y.toNat % 18446744073709551616 := by
  have hx := x.toNat_lt; have hy := y.toNat_lt
  obtain ⟨bd, bt, bw, hhi⟩ := Lib.mul64_hi x.toNat y.toNat hx hy
  have ba := Lib.half_mul_le (a := x.toNat / 4294967296) (b := y.toNat / 4294967296) (by omega) (by omega)
  have bb := Lib.half_mul_le (a := x.toNat / 4294967296) (b := y.toNat % 4294967296) (by omega) (by omega)
  have bc := Lib.half_mul_le (a := x.toNat % 4294967296) (b := y.toNat / 4294967296) (by omega) (by omega)
  have be := Lib.half_mul_le (a := x.toNat % 4294967296) (b := y.toNat % 4294967296) (by omega) (by omega)
  have s32 : ∀ z : UInt64, (shr64 z 32).toNat = z.toNat / 4294967296 := fun z => u64shr z 32
  have m1 : (shr64 x 32 * shr64 y 32).toNat = x.toNat / 4294967296 * (y.toNat / 4294967296) := by rw [u64mul (by rw [s32, s32]; omega), s32, s32]
  have m2 : (shr64 x 32 * (y &&& 4294967295)).toNat = x.toNat / 4294967296 * (y.toNat % 4294967296) := by rw [u64mul (by rw [s32, u64lo]; omega), s32, u64lo]
  have m3 : ((x &&& 4294967295) * (y &&& 4294967295)).toNat = x.toNat % 4294967296 * (y.toNat % 4294967296) := by rw [u64mul (by rw [u64lo, u64lo]; omega), u64lo, u64lo]
  have m4 : ((x &&& 4294967295) * shr64 y 32).toNat = x.toNat % 4294967296 * (y.toNat / 4294967296) := by rw [u64mul (by rw [u64lo, s32]; omega), u64lo, s32]
  have t1 : (shr64 x 32 * (y &&& 4294967295) + shr64 ((x &&& 4294967295) * (y &&& 4294967295)) 32).toNat = x.toNat / 4294967296 * (y.toNat % 4294967296) + x.toNat % 4294967296 * (y.toNat % 4294967296) / 4294967296 := by
    rw [u64add (by rw [s32, m2, m3]; omega), s32, m2, m3]
  have t2 : ((shr64 x 32 * (y &&& 4294967295) + shr64 ((x &&& 4294967295) * (y &&& 4294967295)) 32 &&& 4294967295) + (x &&& 4294967295) * shr64 y 32).toNat = (x.toNat / 4294967296 * (y.toNat % 4294967296) + x.toNat % 4294967296 * (y.toNat % 4294967296) / 4294967296) % 4294967296 + x.toNat % 4294967296 * (y.toNat / 4294967296) := by
    rw [u64add (by rw [u64lo, t1, m4]; omega), u64lo, t1, m4]
  refine ⟨_, _, rfl, ?_, UInt64.toNat_mul ..⟩
  rw [← hhi]
  rw [u64add (by rw [u64add (by rw [m1, s32, t1]; omega), m1, s32, t1, s32, t2]; omega), u64add (by rw [m1, s32, t1]; omega), m1, s32, t1, s32, t2]
theorem c_0 : (4294967295 : UInt64).toNat = 4294967295 := rfl
theorem c_1 : (4294967296 : UInt64).toNat = 4294967296 := rfl
theorem c_2 : (4294925036 : UInt64).toNat = 4294925036 := rfl
theorem c_3 : (1 : UInt64).toNat = 1 := rfl
theorem c_4 : (18446744073709509356 : UInt64).toNat = 18446744073709509356 := rfl
theorem k_z {z : UInt64} (h : z.toNat ≤ 4294967295) : ∃ z1, z + 4294967295 = z1 ∧ z1.toNat = z.toNat + 4294967295 := ⟨_, rfl, by rw [u64add (by rw [c_0]; omega), c_0]⟩
theorem k_x {x : UInt64} (h : 1 ≤ x.toNat) : ∃ x1, x - 1 = x1 ∧ x1.toNat = x.toNat - 1 := ⟨_, rfl, by rw [u64sub (by rw [c_3]; omega), c_3]⟩
theorem k_m {x : UInt64} (h : x.toNat ≤ 4294967298) : ∃ m, x * 4294925036 = m ∧ m.toNat = x.toNat * 4294925036 := ⟨_, rfl, by rw [u64mul (by rw [c_2]; omega), c_2]⟩
theorem k_s {z : UInt64} (h : z.toNat ≤ 4294967295) : ∃ m, 4294967296 * z = m ∧ m.toNat = 4294967296 * z.toNat := ⟨_, rfl, by rw [u64mul (by rw [c_1]; omega), c_1]⟩
theorem k_a {m u : UInt64} (h : m.toNat + u.toNat < 18446744073709551616) : ∃ a, m + u = a ∧ a.toNat = m.toNat + u.toNat := ⟨_, rfl, u64add h⟩
theorem k_le {z : UInt64} : (4294967296 : UInt64) ≤ z ↔ 4294967296 ≤ z.toNat := by rw [UInt64.le_iff_toNat_le, c_1]
theorem div_10 (N : Nat) {u0 q1 V q0 : UInt64} (h1 : q0.toNat * 18446744073709509356 ≤ V.toNat * 4294967296 + u0.toNat) (h2 : V.toNat * 4294967296 + u0.toNat < (q0.toNat + 1) * 18446744073709509356) :
    ∃ r, math_bits_Div64_10 N 18446744073709509356 2 u0 q1 V q0 = some r ∧ r.1.2.1.toNat = (V.toNat * 4294967296 + u0.toNat - q0.toNat * 18446744073709509356) / 4 := by
  refine ⟨_, rfl, ?_⟩
  show (shr64 (V * 4294967296 + u0 - q0 * 18446744073709509356) (2 : UInt64).toNat).toNat = _
  rw [u64shr]
  show _ / 4 = _
  congr 1
  rw [UInt64.toNat_sub, UInt64.toNat_add, UInt64.toNat_mul, UInt64.toNat_mul, c_1, c_4]
  have := u0.toNat_lt; have := q0.toNat_lt; have := V.toNat_lt
  omega
theorem ar1 {x1 z V u : Nat} (i1 : (x1 + 1) * 4294967295 + z = V) (i2 : z ≤ 4294967295) (hx : x1 + 1 ≤ 4294967298) (hb : 4294967296 ≤ z + 4294967295) : x1 * 18446744073709509356 ≤ V * 4294967296 + u := by
  subst i1; omega
theorem ar2 {x z V u : Nat} (i1 : x * 4294967295 + z = V) (g : ¬ 4294967296 * z + u < x * 4294925036) : x * 18446744073709509356 ≤ V * 4294967296 + u := by
  subst i1; omega
theorem ar3 {x1 z V u : Nat} (i1 : (x1 + 1) * 4294967295 + z = V) (g : 4294967296 ≤ x1 + 1 ∨ 4294967296 * z + u < (x1 + 1) * 4294925036) (hu : u ≤ 4294967295) (hV : V < 18446744073709509356): V * 4294967296 + u < (x1 + 1) * 18446744073709509356 := by
  rcases g with g | g
  · clear i1; omega
  · subst i1; clear hu hV; omega
theorem ar4 {x1 z z1 V : Nat} (i1 : (x1 + 1) * 4294967295 + z = V) (h : z1 = z + 4294967295) : x1 * 4294967295 + z1 = V := by
  subst i1 h; omega
theorem ar5 {z z1 : Nat} (i2 : z ≤ 4294967295) (h : z1 = z + 4294967295) (hb : ¬ 4294967296 ≤ z1) : z1 ≤ 4294967295 := by subst h; omega
set_option maxRecDepth 20000 in
/-- The second digit. -/
theorem div_7 (N : Nat) (hN : 4611686018427387904 ≤ N) {u0 q1 V : UInt64} (hV : V.toNat < 18446744073709509356) (hu : u0.toNat ≤ 4294967295) :
    ∃ r, math_bits_Div64_7 N 18446744073709509356 2 4294967295 4294925036 u0 q1 (V - V / 4294967295 * 4294967295) V (V / 4294967295) = some r ∧ r.1.2.1.toNat = (V.toNat * 4294967296 + u0.toNat) % 18446744073709509356 / 4 := by
  unfold math_bits_Div64_7
  have hq0 : (V / 4294967295).toNat = V.toNat / 4294967295 := by rw [UInt64.toNat_div, c_0]
  have hm0 : (V / 4294967295 * 4294967295).toNat = V.toNat / 4294967295 * 4294967295 := by rw [u64mul (by rw [hq0, c_0]; omega), hq0, c_0]
  have hr0 : (V - V / 4294967295 * 4294967295).toNat = V.toNat - V.toNat / 4294967295 * 4294967295 := by rw [u64sub (by rw [hm0]; omega), hm0]
  have fin : ∀ q0 : UInt64, q0.toNat * 18446744073709509356 ≤ V.toNat * 4294967296 + u0.toNat → V.toNat * 4294967296 + u0.toNat < (q0.toNat + 1) * 18446744073709509356 → ∃ r, math_bits_Div64_10 N 18446744073709509356 2 u0 q1 V q0 = some r ∧ r.1.2.1.toNat = (V.toNat * 4294967296 + u0.toNat) % 18446744073709509356 / 4 := by
    intro q0 a b
    obtain ⟨r, e, hr⟩ := div_10 N (q1 := q1) a b
    refine ⟨r, e, ?_⟩
    rw [hr]
    congr 1
    omega
  clear hm0
  generalize V - V / 4294967295 * 4294967295 = Z0 at *
  generalize V / 4294967295 = X0 at *
  refine loopK_of (I := fun y => ∃ x z : UInt64, y = ((18446744073709509356, 2, 4294967295, 4294925036, u0, q1, z, V, x, ()), ()) ∧ x.toNat * 4294967295 + z.toNat = V.toNat ∧ z.toNat ≤ 4294967295 ∧ V.toNat * 4294967296 + u0.toNat < (x.toNat + 1) * 18446744073709509356)
    (μ := fun y => (y.1.2.2.2.2.2.2.2.2.1 : UInt64).toNat) (T := fun (r : math_bits_Div64_R) => r.1.2.1.toNat = (V.toNat * 4294967296 + u0.toNat) % 18446744073709509356 / 4) ?_ ⟨X0, Z0, rfl, by rw [hq0, hr0]; omega, by rw [hr0]; omega, by rw [hq0]; omega⟩ (by simp only [hq0]; omega)
  rintro y ⟨x, z, rfl, i1, i2, i3⟩
  show ∃ o, math_bits_Div64_s8 N 18446744073709509356 2 4294967295 4294925036 u0 q1 z V x = some o ∧ _
  unfold math_bits_Div64_s8 math_bits_Div64_9
  have hx : x.toNat ≤ 4294967298 := by omega
  obtain ⟨m1, f1, hm1⟩ := k_s i2
  obtain ⟨m2, f2, hm2⟩ := k_a (m := m1) (u := u0) (by omega)
  obtain ⟨m3, f3, hm3⟩ := k_m (show x.toNat ≤ 4294967298 by omega)
  obtain ⟨z1, f4, hz1⟩ := k_z i2
  rw [f1, f2, f3, f4]
  have d1 := @k_le x
  have d2 : m2 < m3 ↔ m2.toNat < m3.toNat := UInt64.lt_iff_toNat_lt
  have d3 := @k_le z1
  have body : (4294967296 ≤ x.toNat ∨ m2.toNat < m3.toNat) → ∃ o, (bif decide ((4294967296 : UInt64) ≤ z1) then some (Lo.br ((18446744073709509356, 2, u0, q1, V, x - 1, ()), ())) else some (Lo.go ((18446744073709509356, 2, 4294967295, 4294925036, u0, q1, z1, V, x - 1, ()), ())) : Option (Lo ((UInt64 × UInt64 × UInt64 × UInt64 × UInt64 × UInt64 × UInt64 × UInt64 × UInt64 × Unit) × (Unit)) ((UInt64 × UInt64 × UInt64 × UInt64 × UInt64 × UInt64 × Unit) × (Unit)) math_bits_Div64_R)) = some o ∧ match o with
      | .go x' => (∃ x z : UInt64, x' = ((18446744073709509356, 2, 4294967295, 4294925036, u0, q1, z, V, x, ()), ()) ∧ x.toNat * 4294967295 + z.toNat = V.toNat ∧ z.toNat ≤ 4294967295 ∧ V.toNat * 4294967296 + u0.toNat < (x.toNat + 1) * 18446744073709509356) ∧ x'.1.2.2.2.2.2.2.2.2.1.toNat < x.toNat
      | .br e => ∃ r, math_bits_Div64_10 N e.1.1 e.1.2.1 e.1.2.2.1 e.1.2.2.2.1 e.1.2.2.2.2.1 e.1.2.2.2.2.2.1 = some r ∧ r.1.2.1.toNat = (V.toNat * 4294967296 + u0.toNat) % 18446744073709509356 / 4
      | .rt r => r.1.2.1.toNat = (V.toNat * 4294967296 + u0.toNat) % 18446744073709509356 / 4 := by
    intro hg
    obtain ⟨x1, f5, hx1⟩ := k_x (x := x) (by omega)
    rw [f5]
    have y1 : (x1.toNat + 1) * 4294967295 + z.toNat = V.toNat := by rw [hx1, Nat.sub_add_cancel (by omega)]; exact i1
    have y2 : x1.toNat + 1 ≤ 4294967298 := by omega
    have y3 : 4294967296 ≤ x1.toNat + 1 ∨ 4294967296 * z.toNat + u0.toNat < (x1.toNat + 1) * 4294925036 := by
      rw [hx1, Nat.sub_add_cancel (by omega)]
      rw [hm2, hm1, hm3] at hg
      exact hg
    have y4 : V.toNat * 4294967296 + u0.toNat < (x1.toNat + 1) * 18446744073709509356 := ar3 y1 y3 hu hV
    by_cases hb : (4294967296 : UInt64) ≤ z1
    · rw [dpos hb, cond_true]
      have hb' := d3.1 hb
      exact ⟨_, rfl, fin x1 (ar1 y1 i2 y2 (by omega)) y4⟩
    · rw [dneg hb, cond_false]
      have hb' : ¬ 4294967296 ≤ z1.toNat := fun e => hb (d3.2 e)
      exact ⟨_, rfl, ⟨x1, z1, rfl, ar4 y1 hz1, ar5 i2 hz1 hb', y4⟩, by show x1.toNat < x.toNat; omega⟩
  by_cases g1 : (4294967296 : UInt64) ≤ x
  · rw [dpos g1]
    simp only [cond_true, cond_false]
    obtain ⟨o, ho, h⟩ := body (.inl (d1.1 g1))
    exact ⟨o, ho, by cases o <;> exact h⟩
  · rw [dneg g1]
    by_cases g2 : m2 < m3
    · rw [dpos g2]
      simp only [cond_true, cond_false]
      obtain ⟨o, ho, h⟩ := body (.inr (d2.1 g2))
      exact ⟨o, ho, by cases o <;> exact h⟩
    · rw [dneg g2]
      have g1' : ¬ 4294967296 ≤ x.toNat := fun e => g1 (d1.2 e)
      have g2' : ¬ m2.toNat < m3.toNat := fun e => g2 (d2.2 e)
      exact ⟨_, rfl, fin x (ar2 i1 (by rw [hm2, hm1, hm3] at g2'; exact g2')) i3⟩
set_option maxRecDepth 20000 in
/-- The first digit, and all. -/
theorem div_3 (N : Nat) (hN : 4611686018427387904 ≤ N) {U u1 u0 : UInt64} (hU : U.toNat < 4611686018427387904) (hu1 : u1.toNat ≤ 4294967295) (hu0 : u0.toNat ≤ 4294967295) :
    ∃ r, math_bits_Div64_3 N 18446744073709509356 2 4294967295 4294925036 U u1 u0 (U / 4294967295) (U - U / 4294967295 * 4294967295) = some r ∧ r.1.2.1.toNat = ((U.toNat * 4294967296 + u1.toNat) % 18446744073709509356 * 4294967296 + u0.toNat) % 18446744073709509356 / 4 := by
  unfold math_bits_Div64_3
  have hq0 : (U / 4294967295).toNat = U.toNat / 4294967295 := by rw [UInt64.toNat_div, c_0]
  have hm0 : (U / 4294967295 * 4294967295).toNat = U.toNat / 4294967295 * 4294967295 := by rw [u64mul (by rw [hq0, c_0]; omega), hq0, c_0]
  have hr0 : (U - U / 4294967295 * 4294967295).toNat = U.toNat - U.toNat / 4294967295 * 4294967295 := by rw [u64sub (by rw [hm0]; omega), hm0]
  have fin : ∀ q : UInt64, q.toNat * 18446744073709509356 ≤ U.toNat * 4294967296 + u1.toNat → U.toNat * 4294967296 + u1.toNat < (q.toNat + 1) * 18446744073709509356 → ∃ r, math_bits_Div64_6 N 18446744073709509356 2 4294967295 4294925036 U u1 u0 q = some r ∧ r.1.2.1.toNat = ((U.toNat * 4294967296 + u1.toNat) % 18446744073709509356 * 4294967296 + u0.toNat) % 18446744073709509356 / 4 := by
    intro q a b
    unfold math_bits_Div64_6
    have hnz : ¬ (4294967295 : UInt64) = 0 := by decide
    have hV : (U * 4294967296 + u1 - q * 18446744073709509356).toNat = (U.toNat * 4294967296 + u1.toNat) % 18446744073709509356 := by
      rw [UInt64.toNat_sub, UInt64.toNat_add, UInt64.toNat_mul, UInt64.toNat_mul, c_1, c_4]
      have := u1.toNat_lt; have := q.toNat_lt
      omega
    rw [dneg hnz]
    obtain ⟨r, e, hr⟩ := div_7 N hN (u0 := u0) (q1 := q) (V := U * 4294967296 + u1 - q * 18446744073709509356) (by rw [hV]; exact Nat.mod_lt _ (by decide)) hu0
    exact ⟨r, e, by rw [hr, hV]⟩
  clear hm0
  generalize U - U / 4294967295 * 4294967295 = Z0 at *
  generalize U / 4294967295 = X0 at *
  refine loopK_of (I := fun y => ∃ x z : UInt64, y = ((18446744073709509356, 2, 4294967295, 4294925036, U, u1, u0, x, z, ()), ()) ∧ x.toNat * 4294967295 + z.toNat = U.toNat ∧ z.toNat ≤ 4294967295 ∧ U.toNat * 4294967296 + u1.toNat < (x.toNat + 1) * 18446744073709509356)
    (μ := fun y => y.1.2.2.2.2.2.2.2.1.toNat) (T := fun (r : math_bits_Div64_R) => r.1.2.1.toNat = ((U.toNat * 4294967296 + u1.toNat) % 18446744073709509356 * 4294967296 + u0.toNat) % 18446744073709509356 / 4) ?_ ⟨X0, Z0, rfl, by rw [hq0, hr0]; omega, by rw [hr0]; omega, by rw [hq0]; omega⟩ (by simp only [hq0]; omega)
  rintro y ⟨x, z, rfl, i1, i2, i3⟩
  show ∃ o, math_bits_Div64_s4 N 18446744073709509356 2 4294967295 4294925036 U u1 u0 x z = some o ∧ _
  unfold math_bits_Div64_s4 math_bits_Div64_5
  have hx : x.toNat ≤ 2147483648 := by omega
  obtain ⟨m1, f1, hm1⟩ := k_s i2
  obtain ⟨m2, f2, hm2⟩ := k_a (m := m1) (u := u1) (by omega)
  obtain ⟨m3, f3, hm3⟩ := k_m (show x.toNat ≤ 4294967298 by omega)
  obtain ⟨z1, f4, hz1⟩ := k_z i2
  rw [f1, f2, f3, f4]
  have d1 : ¬ (4294967296 : UInt64) ≤ x := fun e => by have := k_le.1 e; omega
  have d2 : m2 < m3 ↔ m2.toNat < m3.toNat := UInt64.lt_iff_toNat_lt
  have d3 := @k_le z1
  rw [dneg d1]
  by_cases g2 : m2 < m3
  · have hg := d2.1 g2
    obtain ⟨x1, f5, hx1⟩ := k_x (x := x) (by omega)
    rw [f5]
    have y1 : (x1.toNat + 1) * 4294967295 + z.toNat = U.toNat := by rw [hx1, Nat.sub_add_cancel (by omega)]; exact i1
    have y2 : x1.toNat + 1 ≤ 4294967298 := by omega
    have y3 : 4294967296 ≤ x1.toNat + 1 ∨ 4294967296 * z.toNat + u1.toNat < (x1.toNat + 1) * 4294925036 := by
      rw [hx1, Nat.sub_add_cancel (by omega)]
      rw [hm2, hm1, hm3] at hg
      exact Or.inr hg
    have y4 : U.toNat * 4294967296 + u1.toNat < (x1.toNat + 1) * 18446744073709509356 := ar3 y1 y3 hu1 (by omega)
    rw [dpos g2]
    by_cases hb : (4294967296 : UInt64) ≤ z1
    · have hb' := d3.1 hb
      simp only [dpos hb, cond_true, cond_false]
      exact ⟨_, rfl, fin x1 (ar1 y1 i2 y2 (by omega)) y4⟩
    · have hb' : ¬ 4294967296 ≤ z1.toNat := fun e => hb (d3.2 e)
      simp only [dneg hb, cond_true, cond_false]
      exact ⟨_, rfl, ⟨x1, z1, rfl, ar4 y1 hz1, ar5 i2 hz1 hb', y4⟩, by show x1.toNat < x.toNat; omega⟩
  · have g2' : ¬ m2.toNat < m3.toNat := fun e => g2 (d2.2 e)
    rw [dneg g2]
    exact ⟨_, rfl, fin x (ar2 i1 (by rw [hm2, hm1, hm3] at g2'; exact g2')) i3⟩
theorem lz_ok (N : Nat) : math_bits_LeadingZeros64 N 4611686018427377339 = some ((2, ()), ()) := by kernel_rfl
theorem div64_ok (N : Nat) (hN : 4611686018427387904 ≤ N) {hi lo : UInt64} (h : hi.toNat < 1152921504606846976) : ∃ r, math_bits_Div64 N hi lo 4611686018427377339 = some r ∧ r.1.2.1.toNat = (hi.toNat * 18446744073709551616 + lo.toNat) % 4611686018427377339 := by
  have hp : (4611686018427377339 : UInt64).toNat = 4611686018427377339 := rfl
  unfold math_bits_Div64 math_bits_Div64_1 math_bits_Div64_2
  have n0 : ¬ (4611686018427377339 : UInt64) = 0 := by decide
  have n1 : ¬ (4611686018427377339 : UInt64) ≤ hi := by rw [UInt64.le_iff_toNat_le, hp]; omega
  simp only [dneg n0, dneg n1, cond_false, Bool.not_false, cond_true]
  by_cases hz : hi = 0
  · subst hz
    rw [dpos rfl, cond_true]
    refine ⟨_, rfl, ?_⟩
    show (lo % 4611686018427377339).toNat = _
    rw [UInt64.toNat_mod, hp]
    have : (0 : UInt64).toNat = 0 := rfl
    rw [this, Nat.zero_mul, Nat.zero_add]
  · rw [dneg hz, lz_ok]
    simp only [cond_false, Option.bind_some]
    have e1 : (iu64 2).toNat = 2 := rfl
    have e2 : ((64 : UInt64) - iu64 2).toNat = 62 := rfl
    have e3 : iu64 2 = 2 := rfl
    have y1 : shl64 4611686018427377339 2 = 18446744073709509356 := rfl
    have y2 : shr64 18446744073709509356 32 = 4294967295 := rfl
    have y3 : (18446744073709509356 : UInt64) &&& 4294967295 = 4294925036 := rfl
    have n2 : ¬ (4294967295 : UInt64) = 0 := by decide
    rw [e1, e2, e3, y1, y2, y3]
    simp only [dneg n2, Bool.not_false, cond_true]
    have hlo := lo.toNat_lt
    have hsl : (shl64 hi 2).toNat = hi.toNat * 4 := by
      show (hi.toBitVec <<< 2).toNat = _
      rw [BitVec.toNat_shiftLeft, Nat.shiftLeft_eq]
      have : hi.toBitVec.toNat = hi.toNat := rfl
      rw [this]
      exact Nat.mod_eq_of_lt (by omega)
    have hsr : (shr64 lo 62).toNat = lo.toNat / 4611686018427387904 := u64shr lo 62
    have hU : (shl64 hi 2 ||| shr64 lo 62).toNat = hi.toNat * 4 + lo.toNat / 4611686018427387904 := by
      rw [UInt64.toNat_or, hsl, hsr, show hi.toNat * 4 = hi.toNat <<< 2 by rw [Nat.shiftLeft_eq], ← Nat.shiftLeft_add_eq_or_of_lt (show lo.toNat / 4611686018427387904 < 2 ^ 2 by omega)]
    have hL : (shl64 lo 2).toNat = lo.toNat * 4 % 18446744073709551616 := by
      show (lo.toBitVec <<< 2).toNat = _
      rw [BitVec.toNat_shiftLeft, Nat.shiftLeft_eq]; rfl
    have hu1 : (shr64 (shl64 lo 2) 32).toNat = lo.toNat * 4 % 18446744073709551616 / 4294967296 := by rw [u64shr, hL]
    have hu0 : (shl64 lo 2 &&& 4294967295).toNat = lo.toNat * 4 % 18446744073709551616 % 4294967296 := by rw [u64lo, hL]
    obtain ⟨r, e, hr⟩ := div_3 N hN (U := shl64 hi 2 ||| shr64 lo 62) (u1 := shr64 (shl64 lo 2) 32) (u0 := shl64 lo 2 &&& 4294967295) (by rw [hU]; omega) (by rw [hu1]; omega) (by rw [hu0]; omega)
    refine ⟨r, e, ?_⟩
    rw [hr, hU, hu1, hu0]
    generalize hi.toNat = H at *
    generalize lo.toNat = L at *
    omega
theorem gmul_ok (N : Nat) (hN : 4611686018427387904 ≤ N) (a b : UInt64) : ∃ r, group_Mul N a b = some ((r, ()), ()) ∧ r.toNat = a.toNat * b.toNat % 4611686018427377339 := by
  have hp : (4611686018427377339 : UInt64).toNat = 4611686018427377339 := rfl
  obtain ⟨h, l, e1, h1, h2⟩ := mul64_ok N (a % 4611686018427377339) (b % 4611686018427377339)
  rw [UInt64.toNat_mod, UInt64.toNat_mod, hp] at h1 h2
  have hb := Nat.mul_le_mul (show a.toNat % 4611686018427377339 ≤ 4611686018427377338 by omega) (show b.toNat % 4611686018427377339 ≤ 4611686018427377338 by omega)
  obtain ⟨r, e2, h3⟩ := div64_ok N hN (hi := h) (lo := l) (by rw [h1]; omega)
  unfold group_Mul
  rw [e1, Option.bind_some]
  simp only [e2, Option.bind_some]
  refine ⟨_, rfl, ?_⟩
  rw [h3, h1, h2, Nat.div_add_mod', ← Nat.mul_mod]
theorem gpow_ok (N : Nat) (hN : 4611686018427387904 ≤ N) (a e : UInt64) : ∃ r, group_Power N a e = some ((r, ()), ()) ∧ r.toNat = a.toNat ^ e.toNat % 4611686018427377339 := by
  unfold group_Power group_Power_1
  have := loopK_of (N := N) (step := fun y => group_Power_s2 N y.1.1 y.1.2.1 y.1.2.2.1) (J := fun (e : ((UInt64 × Unit) × (Unit))) => group_Power_3 N e.1.1)
    (I := fun y => y.1.2.2.1.toNat * y.1.1.toNat ^ y.1.2.1.toNat % 4611686018427377339 = a.toNat ^ e.toNat % 4611686018427377339 ∧ y.1.2.2.1.toNat < 4611686018427377339 ∧ y.1.2.1.toNat < 2 ^ 64 ) (μ := fun y => y.1.2.1.toNat.log2 + (if y.1.2.1.toNat = 0 then 0 else 1)) (T := fun r => ∃ v, r = ((v, ()), ()) ∧ v.toNat = a.toNat ^ e.toNat % 4611686018427377339) ?_
    (x := ((a, e, 1, ()), ())) ⟨by show 1 * _ % _ = _; rw [Nat.one_mul], by show (1 : UInt64).toNat < _; decide, e.toNat_lt⟩ (by
      simp only
      have : e.toNat.log2 < 64 := by
        by_cases h : e.toNat = 0
        · rw [h]; decide
        · exact (Nat.log2_lt h).2 e.toNat_lt
      split <;> omega)
  · obtain ⟨r, h1, v, rfl, h2⟩ := this
    exact ⟨v, h1, h2⟩
  · rintro ⟨⟨x, k, r, _⟩, _⟩ ⟨h1, h2, h3⟩
    simp only at h1 h2 h3
    show ∃ o, group_Power_s2 N x k r = some o ∧ _
    unfold group_Power_s2
    have z : (0 : UInt64).toNat = 0 := rfl
    have o1 : (1 : UInt64).toNat = 1 := rfl
    by_cases hk : (0 : UInt64) < k
    · have hk' : 0 < k.toNat := by rw [UInt64.lt_iff_toNat_lt, z] at hk; exact hk
      obtain ⟨x2, ex, hx2⟩ := gmul_ok N hN x x
      obtain ⟨rx, er, hrx⟩ := gmul_ok N hN r x
      have hs : (shr64 k 1).toNat = k.toNat / 2 := u64shr k 1
      have hbit : (k &&& 1).toNat = k.toNat % 2 := by rw [UInt64.toNat_and, o1]; exact Nat.and_two_pow_sub_one_eq_mod _ 1
      have hmeas : (shr64 k 1).toNat.log2 + (if (shr64 k 1).toNat = 0 then 0 else 1) < k.toNat.log2 + (if k.toNat = 0 then 0 else 1) := by
        rw [hs, if_neg (show ¬ k.toNat = 0 by omega)]
        by_cases h : k.toNat / 2 = 0
        · rw [h, if_pos rfl]; simp
        · rw [if_neg h]
          have : k.toNat.log2 = (k.toNat / 2).log2 + 1 := by
            rw [Nat.log2_def k.toNat, if_pos (by omega)]
          omega
      have hpow : ∀ q : Nat, x2.toNat ^ q % 4611686018427377339 = x.toNat ^ (2 * q) % 4611686018427377339 := by
        intro q
        rw [hx2, ← Nat.pow_mod, Nat.pow_mul, Nat.pow_two]
      by_cases hb : k &&& 1 = 1
      · have hodd : k.toNat % 2 = 1 := by rw [← hbit, hb]; rfl
        simp only [dpos hk, dpos hb, cond_true, er, ex, Option.bind_some]
        refine ⟨_, rfl, ⟨?_, by simp only [hrx]; exact Nat.mod_lt _ (by decide), by simp only [hs]; omega⟩, by simpa only using hmeas⟩
        simp only
        rw [← h1, hs, Nat.mul_mod, hpow, hrx, Nat.mod_mod, ← Nat.mul_mod, Nat.mul_assoc, ← Nat.pow_succ', show (2 * (k.toNat / 2)).succ = k.toNat by omega]
      · have heven : k.toNat % 2 = 0 := by
          rcases (by omega : k.toNat % 2 = 0 ∨ k.toNat % 2 = 1) with h | h
          · exact h
          · exact absurd (UInt64.toNat_inj.1 (by rw [hbit, h]; rfl)) hb
        simp only [dpos hk, dneg hb, cond_true, cond_false, ex, Option.bind_some]
        refine ⟨_, rfl, ⟨?_, h2, by simp only [hs]; omega⟩, by simpa only using hmeas⟩
        simp only
        rw [← h1, hs, Nat.mul_mod, hpow, ← Nat.mul_mod, show 2 * (k.toNat / 2) = k.toNat by omega]
    · have hk' : k.toNat = 0 := by
        have : ¬ 0 < k.toNat := fun h => hk (by rw [UInt64.lt_iff_toNat_lt, z]; exact h)
        omega
      simp only [dneg hk, cond_false]
      refine ⟨_, rfl, _, rfl, r, rfl, ?_⟩
      rw [hk', Nat.pow_zero, Nat.mul_one, Nat.mod_eq_of_lt h2] at h1
      exact h1
end
end Go.Proofs.YtajpblfinenmjaaDoor.Pl

/- Plain: what stands for a drawn term has 32 bytes. -/
namespace Go.Proofs.YtajpblfinenmjaaDoor.Pl
open Go
theorem getD_un (l : List Tree) {i : Int} (h0 : 0 ≤ i) (h : i < (l.length : Int)) (z : TT.den) : ∃ a, a ∈ l ∧ l[i.toNat]? = some a ∧ (List.map Tree.un l).getD i.toNat z = a.un := by
  have hi : i.toNat < l.length := by omega
  refine ⟨l[i.toNat], List.getElem_mem hi, List.getElem?_eq_getElem hi, ?_⟩
  simp [List.getD, List.getElem?_map, List.getElem?_eq_getElem hi]
theorem enc_ok {N : Nat} (hN : 4611686018427387904 ≤ N) : ∀ (e n : Nat) (t : Tree) (b : List UInt8), e ≤ n → Gd e t → b.length + 11 * nbd e ≤ 1000000 → ∃ out, concrete_encodeR N n t.un b = some ((), (out, ())) ∧ out.length ≤ b.length + 11 * nbd e
  | 0, _, _, _, _, h, _ => h.elim
  | e + 1, 0, _, _, hn, _, _ => absurd hn (by omega)
  | e + 1, n + 1, .mk o v l, b, hn, h, hb => by
    obtain ⟨h1, h2, h3⟩ := h
    have h2' : l.length ≤ 4 := h2
    have ih := fun t b h hb => enc_ok hN e n t b (by omega) h hb
    show ∃ out, concrete_encode N (concrete_encodeR N n) (o, v, l, ()) b = _ ∧ _
    unfold concrete_encode
    have er : room (b.length + ([iu8 o] : List UInt8).length) 1 = true := room_of (by simp only [List.length_cons, List.length_nil]; omega)
    have p1 := wire_put N (v := iu64 v) (w := 8) (b := b ++ [iu8 o]) (by omega) (by omega) (by simp only [List.length_append, List.length_cons, List.length_nil]; omega) (by omega)
    have l1 : (b ++ [iu8 o] ++ be (iu64 v) (8 : Int).toNat).length = b.length + 9 := by simp only [List.length_append, List.length_cons, List.length_nil, be_len]; omega
    have p2 := wire_put N (v := iu64 ((List.map Tree.un l).length : Int)) (w := 2) (b := b ++ [iu8 o] ++ be (iu64 v) (8 : Int).toNat) (by omega) (by omega) (by rw [l1]; omega) (by omega)
    have l2 : (b ++ [iu8 o] ++ be (iu64 v) (8 : Int).toNat ++ be (iu64 ((List.map Tree.un l).length : Int)) (2 : Int).toNat).length = b.length + 11 := by rw [List.length_append, l1, be_len]; omega
    simp only [er, cond_true, p1, p2, Option.bind_some]
    generalize b ++ [iu8 o] ++ be (iu64 v) (8 : Int).toNat ++ be (iu64 ((List.map Tree.un l).length : Int)) (2 : Int).toNat = b0 at l2
    unfold concrete_encode_1
    obtain ⟨M, hM⟩ : ∃ M, M = 11 * nbd e := ⟨_, rfl⟩
    have hM2 : 11 * nbd (e + 1) = 11 + 4 * M := by rw [hM]; simp only [nbd]; omega
    rw [hM2] at hb ⊢
    have hlen : (List.map Tree.un l).length = l.length := List.length_map ..
    have hl := loopK_of (N := N) (step := fun y => concrete_encode_s2 N (concrete_encodeR N n) y.1.1 y.1.2.1 y.1.2.2.1 y.2.1) (J := fun (e : ((Unit) × ((List UInt8) × Unit))) => concrete_encode_3 N (concrete_encodeR N n) e.2.1)
      (I := fun y => y.1.1 = List.map Tree.un l ∧ y.1.2.1 = (l.length : Int) ∧ 0 ≤ y.1.2.2.1 ∧ y.1.2.2.1 ≤ (l.length : Int) ∧ y.2.1.length ≤ b.length + 11 + y.1.2.2.1.toNat * M) (μ := fun y => ((l.length : Int) - y.1.2.2.1).toNat)
      (T := fun r => ∃ out, r = ((), (out, ())) ∧ out.length ≤ b.length + (11 + 4 * M)) ?_
      (x := ((List.map Tree.un l, ((List.map Tree.un l).length : Int), 0, ()), (b0, ()))) ⟨rfl, by simp only [hlen], Int.le_refl _, by simp only; omega, by simp only [l2]; omega⟩ (by simp only; omega)
    · obtain ⟨r, q1, out, rfl, ho⟩ := hl
      exact ⟨out, q1, ho⟩
    · rintro ⟨⟨xs, m, i, ⟨⟩⟩, b', ⟨⟩⟩ ⟨g1, g2, g3, g4, g5⟩
      simp only at g1 g2 g3 g4 g5
      subst g1
      subst g2
      simp only [concrete_encode_s2]
      by_cases hlt : i < (l.length : Int)
      · obtain ⟨a, ha, _, hg⟩ := getD_un l g3 hlt ((0 : Int), (0 : Int), ([] : List Tree), ())
        have e1 : decide (i < (l.length : Int)) = true := decide_eq_true hlt
        have e2 : inR i (List.map Tree.un l).length = true := inR_of g3 (by rw [hlen]; exact hlt)
        have hle : i.toNat * M + M ≤ 4 * M := by
          have := Nat.mul_le_mul_right M (show i.toNat + 1 ≤ 4 by omega)
          rw [Nat.succ_mul] at this
          exact this
        obtain ⟨out, r1, r2⟩ := ih a b' (h3 a ha) (by rw [← hM]; omega)
        have e4 : w64 (i + 1) = i + 1 := w64_of (by omega) (by omega)
        rw [e1, e2, hg, r1, e4]
        refine ⟨_, rfl, ⟨rfl, rfl, by simp only; omega, by simp only; omega, ?_⟩, by simp only; omega⟩
        have e5 : (i + 1).toNat = i.toNat + 1 := by omega
        simp only [e5, Nat.succ_mul]
        rw [← hM] at r2
        omega
      · have e1 : decide (i < (l.length : Int)) = false := decide_eq_false hlt
        rw [e1]
        refine ⟨_, rfl, _, rfl, _, rfl, ?_⟩
        have hle : i.toNat * M ≤ 4 * M := Nat.mul_le_mul_right M (by omega)
        simp only
        omega
section
variable (N : Nat) (hN : 4611686018427387904 ≤ N) (hsh : ∀ i j, i ≤ j → j < 15 → term_sound N (shD i j) = some ((true, ()), ()))
include hN hsh
theorem secret_ok {e : Nat} (he : e ≤ 5) {t : Tree} (h : Gd e t) : ∃ k, concrete_Secret N t.un = some ((0, ()), (k, ())) ∧ k.length = 32 := by
  have hn : 11 * nbd e ≤ 10000 := by
    match e, he with
    | 0, _ => decide
    | 1, _ => decide
    | 2, _ => decide
    | 3, _ => decide
    | 4, _ => decide
    | 5, _ => decide
  obtain ⟨out, h1, h2⟩ := enc_ok hN e N t [] (by omega) h (by simp only [List.length_nil]; omega)
  refine ⟨sha out, ?_, sha_len out⟩
  unfold concrete_Secret concrete_Encode
  rw [valid_ok N hsh he h]
  simp only [Option.bind_some, Bool.not_true, cond_false, h1, decide_true, sha_sum N (show out.length ≤ 35184372088832 by simp only [List.length_nil] at h2; omega) hN]
theorem must_ok {e : Nat} (he : e ≤ 5) {t : Tree} (h : Gd e t) : ∃ k, concrete_must N t.un = some ((), (k, ())) ∧ k.length = 32 := by
  obtain ⟨k, h1, h2⟩ := secret_ok N hN hsh he h
  refine ⟨k, ?_, h2⟩
  unfold concrete_must
  simp only [h1, Option.bind_some, decide_true, Bool.not_true, cond_false]
theorem signed_ok {v : Int} (h0 : 0 ≤ v) (h1 : v ≤ 10000000) {b : List UInt8} (hb : b.length ≤ 10000) : ∃ k, concrete_signed N v b = some ((0, ()), (k, ())) ∧ k.length = 32 := by
  obtain ⟨k, h1, h2⟩ := secret_ok N hN hsh (e := 1) (by omega) (t := .mk 9 v []) ⟨⟨h0, h1, .inr (.inr (.inl ⟨rfl, rfl⟩))⟩, by simp [args], fun a ha => by simp [args] at ha⟩
  refine ⟨hmac k b, ?_, hmac_len k b⟩
  unfold concrete_signed
  have h1' : concrete_Secret N ((9 : Int), v, ([] : List Tree), ()) = some ((0, ()), (k, ())) := h1
  simp only [h1', Option.bind_some, decide_true, Bool.not_true, cond_false, prf_hmac N (show k.length ≤ 17592186044416 by omega) (show b.length ≤ 17592186044416 by omega) hN]
theorem public_ok {e : Nat} (he : e ≤ 5) {t : Tree} (h : Gd e t) : ∃ x, concrete_public N t.un = some ((x, ()), ()) := by
  obtain ⟨k, h1, h2⟩ := secret_ok N hN hsh he h
  have hn := wire_number N (b := k) (at_ := 0) (w := 8) (by omega) (by omega) (by omega) (by omega) (by omega) (by omega)
  unfold concrete_public concrete_Exponent
  simp only [h1, Option.bind_some, decide_true, Bool.not_true, cond_false, hn]
  generalize nbr _ = z
  unfold group_Public group_valid
  obtain ⟨r, hr, _⟩ := gpow_ok N hN 4 ((1 : UInt64) + (z % (2305843009213688668 : UInt64)))
  have hz : (z % (2305843009213688668 : UInt64)).toNat < 2305843009213688668 := by rw [UInt64.toNat_mod]; exact Nat.mod_lt _ (by decide)
  have hz1 : ((1 : UInt64) + (z % (2305843009213688668 : UInt64))).toNat = 1 + (z % (2305843009213688668 : UInt64)).toNat := by
    rw [UInt64.toNat_add]; exact Nat.mod_eq_of_lt (by show 1 + _ < _; omega)
  have c1 : decide ((1 : UInt64) ≤ (1 : UInt64) + (z % (2305843009213688668 : UInt64))) = true := decide_eq_true (by rw [UInt64.le_iff_toNat_le, hz1]; show 1 ≤ 1 + _; omega)
  have c2 : decide ((1 : UInt64) + (z % (2305843009213688668 : UInt64)) < (2305843009213688669 : UInt64)) = true := decide_eq_true (by rw [UInt64.lt_iff_toNat_lt, hz1]; show 1 + _ < 2305843009213688669; omega)
  simp only [c1, c2, cond_true, Option.bind_some, Bool.not_true, cond_false, hr]
  exact ⟨_, rfl⟩
end
theorem title_ok (N : Nat) (hN : 4611686018427387904 ≤ N) {k : List UInt8} (hk : k.length ≤ 10000) : ∃ x, concrete_title N k = some ((x, ()), ()) ∧ x.length = 8 := by
  unfold concrete_title
  rw [prf_hmac N (show k.length ≤ 17592186044416 by omega) (show [(1 : UInt8)].length ≤ 17592186044416 by decide) hN, Option.bind_some]
  have hl := hmac_len k [(1 : UInt8)]
  generalize hmac k [(1 : UInt8)] = z at hl
  have e1 : decide ((8 : Int) ≤ (z.length : Int)) = true := decide_eq_true (by omega)
  have e0 : decide (0 ≤ (0 : Int)) = true := by decide
  have e8 : decide ((0 : Int) ≤ (8 : Int)) = true := by decide
  simp only [e0, e1, e8, Bool.and_self, cond_true]
  exact ⟨_, rfl, by simp only [cut, List.drop_zero, List.length_take]; omega⟩
end Go.Proofs.YtajpblfinenmjaaDoor.Pl

/- Plain: a block of ChaCha20, the program's and the reference's: one function. -/
namespace Go.Proofs.YtajpblfinenmjaaDoor.Pl
open Go
noncomputable section
def rl (x : UInt32) (n : Nat) : UInt32 := shl32 x n ||| shr32 x (32 - n)
def q3 (a b d : UInt32) : UInt32 := rl (d ^^^ (a + b)) 16
def q6 (a b c d : UInt32) : UInt32 := rl (b ^^^ (c + q3 a b d)) 12
def q9 (a b c d : UInt32) : UInt32 := rl (q3 a b d ^^^ ((a + b) + q6 a b c d)) 8
def q12 (a b c d : UInt32) : UInt32 := rl (q6 a b c d ^^^ ((c + q3 a b d) + q9 a b c d)) 7
theorem quarter_ok (N : Nat) (a b c d : UInt32) : chacha_Quarter N a b c d = some (((a + b) + q6 a b c d, q12 a b c d, (c + q3 a b d) + q9 a b c d, q9 a b c d, ()), ()) := by kernel_rfl
/-- Four words of a state are mixed. -/
def mixl (s : List UInt32) (i j k l : Nat) : List UInt32 :=
  (((s.set i ((s.getD i 0 + s.getD j 0) + q6 (s.getD i 0) (s.getD j 0) (s.getD k 0) (s.getD l 0))).set j (q12 (s.getD i 0) (s.getD j 0) (s.getD k 0) (s.getD l 0))).set k ((s.getD k 0 + q3 (s.getD i 0) (s.getD j 0) (s.getD l 0)) + q9 (s.getD i 0) (s.getD j 0) (s.getD k 0) (s.getD l 0))).set l
    (q9 (s.getD i 0) (s.getD j 0) (s.getD k 0) (s.getD l 0))
def d1 (s : List UInt32) : List UInt32 := mixl (mixl (mixl (mixl s 0 4 8 12) 1 5 9 13) 2 6 10 14) 3 7 11 15
def d2 (s : List UInt32) : List UInt32 := mixl (mixl (mixl (mixl s 0 5 10 15) 1 6 11 12) 2 7 8 13) 3 4 9 14
/-- A double round. -/
def dr (s : List UInt32) : List UInt32 := d2 (d1 s)
theorem loopK_go {S E R : Type} {step : S → Option (Lo S E R)} {J : E → Option R} {N M : Nat} {x x' : S} (hN : N = M + 1) (h : step x = some (.go x')) : loopK N step J x = loopK M step J x' := by
  rw [hN, loopK_succ, h]; rfl
theorem loopK_br {S E R : Type} {step : S → Option (Lo S E R)} {J : E → Option R} {N M : Nat} {x : S} {e : E} (hN : N = M + 1) (h : step x = some (.br e)) : loopK N step J x = J e := by
  rw [hN, loopK_succ, h]; rfl
theorem s7_ok (N : Nat) (t : Int) (f s : List UInt32) (i a b c d : Nat) (hi : i < 8) (hq : g_chacha_quarters.getD i (List.replicate 4 0) = [(a : Int), (b : Int), (c : Int), (d : Int)]) (ha : a < 16) (hb : b < 16) (hc : c < 16) (hd : d < 16) :
    chacha_Block_s7 N t g_chacha_quarters (i : Int) f s = some (.go ((t, g_chacha_quarters, (i : Int) + 1, ()), (f, mixl s a b c d, ()))) := by
  unfold chacha_Block_s7
  simp (disch := omega) only [dpos, dneg, w64_of, inR_of, room_of, tmod_of, cond_true, cond_false, Bool.and_self, Bool.and_true, Bool.true_and, Bool.and_false, Bool.false_and, Bool.not_true, Bool.not_false, Option.bind_some, List.length_cons, List.length_nil, Nat.zero_add, Int.toNat_natCast, hq, List.getD_cons_zero, List.getD_cons_succ, quarter_ok, mixl]
theorem double_ok (N : Nat) (hN : 4611686018427387904 ≤ N) (t : Int) (ht : 0 ≤ t) (ht' : t < 10) (f s : List UInt32) : chacha_Block_6 N t g_chacha_quarters 0 f s = some (.go ((t + 1, ()), (f, dr s, ()))) := by
  obtain ⟨M, hM⟩ : ∃ M, N = M + 8 + 1 := ⟨N - 9, by omega⟩
  have s0 : ∀ s, chacha_Block_s7 N t g_chacha_quarters 0 f s = some (.go ((t, g_chacha_quarters, 1, ()), (f, mixl s 0 4 8 12, ()))) := fun s => s7_ok N t f s 0 0 4 8 12 (by decide) (by kernel_rfl) (by decide) (by decide) (by decide) (by decide)
  have s1 : ∀ s, chacha_Block_s7 N t g_chacha_quarters 1 f s = some (.go ((t, g_chacha_quarters, 2, ()), (f, mixl s 1 5 9 13, ()))) := fun s => s7_ok N t f s 1 1 5 9 13 (by decide) (by kernel_rfl) (by decide) (by decide) (by decide) (by decide)
  have s2 : ∀ s, chacha_Block_s7 N t g_chacha_quarters 2 f s = some (.go ((t, g_chacha_quarters, 3, ()), (f, mixl s 2 6 10 14, ()))) := fun s => s7_ok N t f s 2 2 6 10 14 (by decide) (by kernel_rfl) (by decide) (by decide) (by decide) (by decide)
  have s3 : ∀ s, chacha_Block_s7 N t g_chacha_quarters 3 f s = some (.go ((t, g_chacha_quarters, 4, ()), (f, mixl s 3 7 11 15, ()))) := fun s => s7_ok N t f s 3 3 7 11 15 (by decide) (by kernel_rfl) (by decide) (by decide) (by decide) (by decide)
  have s4 : ∀ s, chacha_Block_s7 N t g_chacha_quarters 4 f s = some (.go ((t, g_chacha_quarters, 5, ()), (f, mixl s 0 5 10 15, ()))) := fun s => s7_ok N t f s 4 0 5 10 15 (by decide) (by kernel_rfl) (by decide) (by decide) (by decide) (by decide)
  have s5 : ∀ s, chacha_Block_s7 N t g_chacha_quarters 5 f s = some (.go ((t, g_chacha_quarters, 6, ()), (f, mixl s 1 6 11 12, ()))) := fun s => s7_ok N t f s 5 1 6 11 12 (by decide) (by kernel_rfl) (by decide) (by decide) (by decide) (by decide)
  have s6 : ∀ s, chacha_Block_s7 N t g_chacha_quarters 6 f s = some (.go ((t, g_chacha_quarters, 7, ()), (f, mixl s 2 7 8 13, ()))) := fun s => s7_ok N t f s 6 2 7 8 13 (by decide) (by kernel_rfl) (by decide) (by decide) (by decide) (by decide)
  have s7 : ∀ s, chacha_Block_s7 N t g_chacha_quarters 7 f s = some (.go ((t, g_chacha_quarters, 8, ()), (f, mixl s 3 4 9 14, ()))) := fun s => s7_ok N t f s 7 3 4 9 14 (by decide) (by kernel_rfl) (by decide) (by decide) (by decide) (by decide)
  have s8 : ∀ s, chacha_Block_s7 N t g_chacha_quarters 8 f s = some (.br ((t, ()), (f, s, ()))) := fun s => by
    unfold chacha_Block_s7
    simp (disch := omega) only [dpos, dneg, w64_of, inR_of, room_of, tmod_of, cond_true, cond_false, Bool.and_self, Bool.and_true, Bool.true_and, Bool.and_false, Bool.false_and, Bool.not_true, Bool.not_false, Option.bind_some, List.length_cons, List.length_nil, Nat.zero_add]
  unfold chacha_Block_6
  rw [loopK_go (M := M + 8) hM (s0 s), loopK_go (M := M + 7) rfl (s1 _), loopK_go (M := M + 6) rfl (s2 _), loopK_go (M := M + 5) rfl (s3 _), loopK_go (M := M + 4) rfl (s4 _), loopK_go (M := M + 3) rfl (s5 _), loopK_go (M := M + 2) rfl (s6 _), loopK_go (M := M + 1) rfl (s7 _), loopK_br (M := M) rfl (s8 _)]
  unfold chacha_Block_8 dr d2 d1
  simp (disch := omega) only [dpos, dneg, w64_of, inR_of, room_of, tmod_of, cond_true, cond_false, Bool.and_self, Bool.and_true, Bool.true_and, Bool.and_false, Bool.false_and, Bool.not_true, Bool.not_false, Option.bind_some, List.length_cons, List.length_nil, Nat.zero_add]
def drs (f : List UInt32) : Nat → List UInt32
  | 0 => f
  | i + 1 => dr (drs f i)
/-- The bytes of a block. -/
def bout (f s : List UInt32) : List UInt8 := (List.range 16).flatMap fun i => let v := s.getD i 0 + f.getD i 0; [v.toUInt8, (shr32 v 8).toUInt8, (shr32 v 16).toUInt8, (shr32 v 24).toUInt8]
theorem bout_len (f s : List UInt32) : (bout f s).length = 64 := rfl
theorem bout_un (M : Nat) (s f : List UInt32) : chacha_Block_10 (M + 20) s 0 f [] = some ((true, ()), (bout f s, ())) := by kernel_rfl
theorem list12 {α : Type} {l : List α} (h : l.length = 12) : ∃ a b c d e f g i j k m n, l = [a, b, c, d, e, f, g, i, j, k, m, n] := by
  match l, h with
  | [a, b, c, d, e, f, g, i, j, k, m, n], _ => exact ⟨a, b, c, d, e, f, g, i, j, k, m, n, rfl⟩
theorem list16c {α : Type} {l : List α} (h : l.length = 16) : ∃ a b c d e f g i j k m n o p q r, l = [a, b, c, d, e, f, g, i, j, k, m, n, o, p, q, r] := by
  match l, h with
  | [a, b, c, d, e, f, g, i, j, k, m, n, o, p, q, r], _ => exact ⟨a, b, c, d, e, f, g, i, j, k, m, n, o, p, q, r, rfl⟩
def wd (l : List UInt8) (i : Nat) : UInt32 := (((l.getD (4 * i) 0).toUInt32 ||| shl32 (l.getD (4 * i + 1) 0).toUInt32 8) ||| shl32 (l.getD (4 * i + 2) 0).toUInt32 16) ||| shl32 (l.getD (4 * i + 3) 0).toUInt32 24
/-- The words at the beginning. -/
def stw (k : List UInt8) (c : UInt32) (n : List UInt8) : List UInt32 := [1634760805, 857760878, 2036477234, 1797285236, wd k 0, wd k 1, wd k 2, wd k 3, wd k 4, wd k 5, wd k 6, wd k 7, c, wd n 0, wd n 1, wd n 2]
theorem state_un (M : Nat) (c : UInt32) (k0 k1 k2 k3 k4 k5 k6 k7 k8 k9 k10 k11 k12 k13 k14 k15 k16 k17 k18 k19 k20 k21 k22 k23 k24 k25 k26 k27 k28 k29 k30 k31 n0 n1 n2 n3 n4 n5 n6 n7 n8 n9 n10 n11 : UInt8) :
    chacha_state (M + 20) [k0, k1, k2, k3, k4, k5, k6, k7, k8, k9, k10, k11, k12, k13, k14, k15, k16, k17, k18, k19, k20, k21, k22, k23, k24, k25, k26, k27, k28, k29, k30, k31] c [n0, n1, n2, n3, n4, n5, n6, n7, n8, n9, n10, n11] =
    some ((stw [k0, k1, k2, k3, k4, k5, k6, k7, k8, k9, k10, k11, k12, k13, k14, k15, k16, k17, k18, k19, k20, k21, k22, k23, k24, k25, k26, k27, k28, k29, k30, k31] c [n0, n1, n2, n3, n4, n5, n6, n7, n8, n9, n10, n11], true, ()), ()) := by kernel_rfl
def cblk (k : List UInt8) (c : UInt32) (n : List UInt8) : List UInt8 := bout (stw k c n) (drs (stw k c n) 10)
theorem cblk_len (k : List UInt8) (c : UInt32) (n : List UInt8) : (cblk k c n).length = 64 := bout_len _ _
section
variable (N : Nat) (hN : 4611686018427387904 ≤ N) {k n : List UInt8} (c : UInt32) (hk : k.length = 32) (hn : n.length = 12)
include hN hk hn
theorem state_ok : chacha_state N k c n = some ((stw k c n, true, ()), ()) := by
  obtain ⟨k0, k1, k2, k3, k4, k5, k6, k7, k8, k9, k10, k11, k12, k13, k14, k15, e1⟩ := list16c (l := k.take 16) (by simp; omega)
  obtain ⟨k16, k17, k18, k19, k20, k21, k22, k23, k24, k25, k26, k27, k28, k29, k30, k31, e2⟩ := list16c (l := k.drop 16) (by simp; omega)
  obtain ⟨n0, n1, n2, n3, n4, n5, n6, n7, n8, n9, n10, n11, rfl⟩ := list12 hn
  obtain ⟨M, rfl⟩ := Nat.exists_eq_add_of_le' (show 20 ≤ N by omega)
  have e : k = [k0, k1, k2, k3, k4, k5, k6, k7, k8, k9, k10, k11, k12, k13, k14, k15, k16, k17, k18, k19, k20, k21, k22, k23, k24, k25, k26, k27, k28, k29, k30, k31] := by
    rw [← List.take_append_drop 16 k, e1, e2]; rfl
  subst e
  exact state_un M c k0 k1 k2 k3 k4 k5 k6 k7 k8 k9 k10 k11 k12 k13 k14 k15 k16 k17 k18 k19 k20 k21 k22 k23 k24 k25 k26 k27 k28 k29 k30 k31 n0 n1 n2 n3 n4 n5 n6 n7 n8 n9 n10 n11
theorem cblock_ok : chacha_Block N k c n = some ((true, ()), (cblk k c n, ())) := by
  unfold chacha_Block cblk
  rw [(state_ok N hN c hk hn)]
  simp only [dpos, dneg, w64_of, inR_of, room_of, tmod_of, cond_true, cond_false, Bool.and_self, Bool.and_true, Bool.true_and, Bool.and_false, Bool.false_and, Bool.not_true, Bool.not_false, Option.bind_some, List.length_cons, List.length_nil, Nat.zero_add]
  generalize stw k c n = f
  unfold chacha_Block_1
  have h10N : 10 < N := by omega
  obtain ⟨M, hM⟩ := Nat.exists_eq_add_of_le' (show 20 ≤ N by omega)
  refine (loopK_run (fun i : Nat => (((i : Int), ()), (f, drs f i, ()))) (n := 10) ?_ (e := ((), (f, drs f 10, ()))) ?_ h10N).trans ?_
  · intro i hi
    show chacha_Block_s2 N (i : Int) f _ = _
    unfold chacha_Block_s2 chacha_Block_3 chacha_Block_5
    simp (disch := omega) only [dpos, dneg, w64_of, inR_of, room_of, tmod_of, cond_true, cond_false, Bool.and_self, Bool.and_true, Bool.true_and, Bool.and_false, Bool.false_and, Bool.not_true, Bool.not_false, Option.bind_some, List.length_cons, List.length_nil, Nat.zero_add, double_ok, drs, Int.natCast_add, Int.natCast_one]
  · show chacha_Block_s2 N _ f _ = _
    unfold chacha_Block_s2
    simp (disch := omega) only [dpos, dneg, w64_of, inR_of, room_of, tmod_of, cond_true, cond_false, Bool.and_self, Bool.and_true, Bool.true_and, Bool.and_false, Bool.false_and, Bool.not_true, Bool.not_false, Option.bind_some, List.length_cons, List.length_nil, Nat.zero_add]
  · generalize drs f 10 = s
    show chacha_Block_9 N f s = _
    unfold chacha_Block_9
    rw [hM, bout_un]
end
end
end Go.Proofs.YtajpblfinenmjaaDoor.Pl

/- Plain: ChaCha20 over bytes, the program's and the reference's. -/
namespace Go.Proofs.YtajpblfinenmjaaDoor.Pl
open Go
noncomputable section
/-- The encrypted bytes. -/
def cx (k : List UInt8) (c : UInt32) (n b : List UInt8) : List UInt8 := (List.range b.length).map fun i => b.getD i 0 ^^^ (cblk k (c + UInt32.ofNat (i / 64)) n).getD (i % 64) 0
theorem cx_len (k : List UInt8) (c : UInt32) (n b : List UInt8) : (cx k c n b).length = b.length := by simp [cx]
theorem cx_get (k : List UInt8) (c : UInt32) (n b : List UInt8) {i : Nat} (h : i < b.length) : (cx k c n b).getD i 0 = b.getD i 0 ^^^ (cblk k (c + UInt32.ofNat (i / 64)) n).getD (i % 64) 0 := by
  simp [cx, List.getD, h]
def ctr (c : UInt32) : Nat → UInt32
  | 0 => c
  | i + 1 => if i % 64 = 0 then ctr c i + 1 else ctr c i
theorem ctr_val (c : UInt32) (i : Nat) : ctr c i = c + UInt32.ofNat ((i + 63) / 64) := by
  induction i with
  | zero => simp [ctr]
  | succ i ih =>
    rw [ctr]
    split
    · rename_i h
      rw [ih, show (i + 1 + 63) / 64 = (i + 63) / 64 + 1 by omega, UInt32.ofNat_add, UInt32.add_assoc]; rfl
    · rename_i h
      rw [ih, show (i + 1 + 63) / 64 = (i + 63) / 64 by omega]
def msk (k : List UInt8) (c : UInt32) (n : List UInt8) : Nat → List UInt8
  | 0 => []
  | i + 1 => cblk k (c + UInt32.ofNat (i / 64)) n
section
variable (N : Nat) (hN : 4611686018427387904 ≤ N) {k n : List UInt8} (c : UInt32) (hk : k.length = 32) (hn : n.length = 12)
include hN hk hn
theorem xor_ok {b : List UInt8} (hb : b.length ≤ 17592186044416) : chacha_Xor N k c n b = some ((true, ()), (cx k c n b, ())) := by
  unfold chacha_Xor
  rw [(state_ok N hN c hk hn)]
  simp only [dpos, dneg, w64_of, inR_of, room_of, tmod_of, cond_true, cond_false, Bool.and_self, Bool.and_true, Bool.true_and, Bool.and_false, Bool.false_and, Bool.not_true, Bool.not_false, Option.bind_some, List.length_cons, List.length_nil, Nat.zero_add]
  unfold chacha_Xor_1
  have hT := cx_len k c n b
  have hg := fun i h => cx_get k c n b (i := i) h
  generalize cx k c n b = T at hT hg
  have hbN : b.length < N := by omega
  refine (loopK_run (fun i : Nat => ((k, ctr c i, n, b, (b.length : Int), (i : Int), ()), (T.take i, msk k c n i, ()))) (n := b.length) ?_ (e := ((), (T, ()))) ?_ hbN).trans rfl
  · intro i hi
    have hti : (T.take i).length = i := by simp; omega
    have hcl := cblk_len k (c + UInt32.ofNat (i / 64)) n
    have ht := hg i hi
    show chacha_Xor_s2 N k _ n b _ _ _ _ = _
    unfold chacha_Xor_s2
    rw [take_snoc T 0 (by omega), ht]
    have e64 : ((i : Int) % 64).toNat = i % 64 := by omega
    by_cases hm : i % 64 = 0
    · have hbl : chacha_Block N k (ctr c i) n = some ((true, ()), (cblk k (c + UInt32.ofNat (i / 64)) n, ())) := by
        rw [cblock_ok N hN _ hk hn, ctr_val, show (i + 63) / 64 = i / 64 by omega]
      simp (disch := omega) only [dpos, dneg, w64_of, inR_of, room_of, tmod_of, cond_true, cond_false, Bool.and_self, Bool.and_true, Bool.true_and, Bool.and_false, Bool.false_and, Bool.not_true, Bool.not_false, Option.bind_some, List.length_cons, List.length_nil, Nat.zero_add, Int.toNat_natCast, e64, hbl, hti, ctr, msk, if_pos, Int.natCast_add, Int.natCast_one]
    · have hms : msk k c n i = cblk k (c + UInt32.ofNat (i / 64)) n := by
        cases i with
        | zero => simp at hm
        | succ i => rw [msk, show (i + 1) / 64 = i / 64 by omega]
      rw [hms]
      simp (disch := omega) only [dpos, dneg, w64_of, inR_of, room_of, tmod_of, cond_true, cond_false, Bool.and_self, Bool.and_true, Bool.true_and, Bool.and_false, Bool.false_and, Bool.not_true, Bool.not_false, Option.bind_some, List.length_cons, List.length_nil, Nat.zero_add, Int.toNat_natCast, e64, hti, ctr, msk, if_neg, Int.natCast_add, Int.natCast_one]
  · show chacha_Xor_s2 N k _ n b _ _ _ _ = _
    unfold chacha_Xor_s2
    simp (disch := omega) only [dpos, dneg, w64_of, inR_of, room_of, tmod_of, cond_true, cond_false, Bool.and_self, Bool.and_true, Bool.true_and, Bool.and_false, Bool.false_and, Bool.not_true, Bool.not_false, Option.bind_some, List.length_cons, List.length_nil, Nat.zero_add]
    rw [List.take_of_length_le (by omega)]
end
end
end Go.Proofs.YtajpblfinenmjaaDoor.Pl

/- Plain: the number of bytes in five limbs (poly1305.number). -/
namespace Go.Proofs.YtajpblfinenmjaaDoor.Pl
open Go Poly
def us (l : List UInt64) : List Nat := l.map UInt64.toNat
def ns (l : List UInt8) : List Nat := l.map UInt8.toNat
theorem lo_add (a : UInt64) (x : UInt8) {k c : Nat} (hk : k ≤ 25) (hc : 2 ^ k = c) (h : a.toNat < 67108864) : (a + (shl64 x.toUInt64 k &&& 67108863)).toNat = a.toNat + x.toNat * c % 67108864 := by
  have hx : x.toNat < 256 := x.toNat_lt
  have h1 : (shl64 x.toUInt64 k).toNat = x.toNat * c := by
    show (x.toUInt64.toBitVec <<< k).toNat = _
    rw [BitVec.toNat_shiftLeft, Nat.shiftLeft_eq, hc]
    have e : x.toUInt64.toBitVec.toNat = x.toNat := UInt8.toNat_toUInt64 x
    rw [e]
    apply Nat.mod_eq_of_lt
    have : c ≤ 2 ^ 25 := by rw [← hc]; exact Nat.pow_le_pow_right (by decide) hk
    have := Nat.mul_le_mul (Nat.le_of_lt hx) this
    omega
  have h2 : (shl64 x.toUInt64 k &&& 67108863).toNat = x.toNat * c % 67108864 := by
    rw [UInt64.toNat_and, h1]
    exact Nat.and_two_pow_sub_one_eq_mod _ 26
  rw [UInt64.toNat_add, h2]
  apply Nat.mod_eq_of_lt
  omega
theorem hi_add (a : UInt64) (x : UInt8) {k c : Nat} (hc : 2 ^ k = c) (h : a.toNat < 67108864) : (a + shr64 x.toUInt64 k).toNat = a.toNat + x.toNat / c := by
  have hx : x.toNat < 256 := x.toNat_lt
  have h1 : (shr64 x.toUInt64 k).toNat = x.toNat / c := by
    show (x.toUInt64.toBitVec >>> k).toNat = _
    rw [BitVec.toNat_ushiftRight, Nat.shiftRight_eq_div_pow, hc]
    have e : x.toUInt64.toBitVec.toNat = x.toNat := UInt8.toNat_toUInt64 x
    rw [e]
  rw [UInt64.toNat_add, h1]
  have : x.toNat / c ≤ x.toNat := Nat.div_le_self ..
  apply Nat.mod_eq_of_lt
  omega
theorem low_of {bs l : List Nat} {i : Nat} (h : NInv bs l i) {j : Nat} (hj : j < 5) : l.getD j 0 < 67108864 := by
  refine Nat.lt_of_lt_of_le (h.low j hj) ?_
  unfold Poly.room
  exact Nat.pow_le_pow_right (by decide : 0 < 2) (Nat.min_le_left 26 _)
theorem list5u {l : List UInt64} (h : l.length = 5) : ∃ a b c d e, l = [a, b, c, d, e] := by
  match l, h with
  | [a, b, c, d, e], _ => exact ⟨a, b, c, d, e, rfl⟩
theorem congr5 {a b c d e a' b' c' d' e' : Nat} (h0 : a = a') (h1 : b = b') (h2 : c = c') (h3 : d = d') (h4 : e = e') : [a, b, c, d, e] = [a', b', c', d', e'] := by
  subst h0; subst h1; subst h2; subst h3; subst h4; rfl
theorem num_0 (N : Nat) (b : List UInt8) (n : Int) (t : List UInt64) (a0 a1 a2 a3 a4 : UInt64) : poly1305_number_s2 N b n 0 t [a0, a1, a2, a3, a4] = bif decide ((0 : Int) < n) then (bif inR (0 : Int) b.length then some (.go ((b, n, (1 : Int), ()), (t, [a0 + (shl64 (b.getD 0 0).toUInt64 0 &&& 67108863), a1, a2, a3, a4], ()))) else none) else some (.br ((), (t, [a0, a1, a2, a3, a4], ()))) := by kernel_rfl
theorem nus_0 {a0 a1 a2 a3 a4 : UInt64} (x : UInt8) (h0 : a0.toNat < 67108864) (h1 : a1.toNat < 67108864) (h2 : a2.toNat < 67108864) (h3 : a3.toNat < 67108864) (h4 : a4.toNat < 67108864) : us [a0 + (shl64 x.toUInt64 0 &&& 67108863), a1, a2, a3, a4] = nstep (us [a0, a1, a2, a3, a4]) 0 x.toNat :=
  (congr5 (lo_add _ _ (by decide) rfl h0) rfl rfl rfl rfl).trans (nstep_0 _ _ _ _ _ _).symm
theorem num_1 (N : Nat) (b : List UInt8) (n : Int) (t : List UInt64) (a0 a1 a2 a3 a4 : UInt64) : poly1305_number_s2 N b n 1 t [a0, a1, a2, a3, a4] = bif decide ((1 : Int) < n) then (bif inR (1 : Int) b.length then some (.go ((b, n, (2 : Int), ()), (t, [a0 + (shl64 (b.getD 1 0).toUInt64 8 &&& 67108863), a1, a2, a3, a4], ()))) else none) else some (.br ((), (t, [a0, a1, a2, a3, a4], ()))) := by kernel_rfl
theorem nus_1 {a0 a1 a2 a3 a4 : UInt64} (x : UInt8) (h0 : a0.toNat < 67108864) (h1 : a1.toNat < 67108864) (h2 : a2.toNat < 67108864) (h3 : a3.toNat < 67108864) (h4 : a4.toNat < 67108864) : us [a0 + (shl64 x.toUInt64 8 &&& 67108863), a1, a2, a3, a4] = nstep (us [a0, a1, a2, a3, a4]) 1 x.toNat :=
  (congr5 (lo_add _ _ (by decide) rfl h0) rfl rfl rfl rfl).trans (nstep_1 _ _ _ _ _ _).symm
theorem num_2 (N : Nat) (b : List UInt8) (n : Int) (t : List UInt64) (a0 a1 a2 a3 a4 : UInt64) : poly1305_number_s2 N b n 2 t [a0, a1, a2, a3, a4] = bif decide ((2 : Int) < n) then (bif inR (2 : Int) b.length then some (.go ((b, n, (3 : Int), ()), (t, [a0 + (shl64 (b.getD 2 0).toUInt64 16 &&& 67108863), a1, a2, a3, a4], ()))) else none) else some (.br ((), (t, [a0, a1, a2, a3, a4], ()))) := by kernel_rfl
theorem nus_2 {a0 a1 a2 a3 a4 : UInt64} (x : UInt8) (h0 : a0.toNat < 67108864) (h1 : a1.toNat < 67108864) (h2 : a2.toNat < 67108864) (h3 : a3.toNat < 67108864) (h4 : a4.toNat < 67108864) : us [a0 + (shl64 x.toUInt64 16 &&& 67108863), a1, a2, a3, a4] = nstep (us [a0, a1, a2, a3, a4]) 2 x.toNat :=
  (congr5 (lo_add _ _ (by decide) rfl h0) rfl rfl rfl rfl).trans (nstep_2 _ _ _ _ _ _).symm
theorem num_3 (N : Nat) (b : List UInt8) (n : Int) (t : List UInt64) (a0 a1 a2 a3 a4 : UInt64) : poly1305_number_s2 N b n 3 t [a0, a1, a2, a3, a4] = bif decide ((3 : Int) < n) then (bif inR (3 : Int) b.length then some (.go ((b, n, (4 : Int), ()), (t, [a0 + (shl64 (b.getD 3 0).toUInt64 24 &&& 67108863), a1 + shr64 (b.getD 3 0).toUInt64 2, a2, a3, a4], ()))) else none) else some (.br ((), (t, [a0, a1, a2, a3, a4], ()))) := by kernel_rfl
theorem nus_3 {a0 a1 a2 a3 a4 : UInt64} (x : UInt8) (h0 : a0.toNat < 67108864) (h1 : a1.toNat < 67108864) (h2 : a2.toNat < 67108864) (h3 : a3.toNat < 67108864) (h4 : a4.toNat < 67108864) : us [a0 + (shl64 x.toUInt64 24 &&& 67108863), a1 + shr64 x.toUInt64 2, a2, a3, a4] = nstep (us [a0, a1, a2, a3, a4]) 3 x.toNat :=
  (congr5 (lo_add _ _ (by decide) rfl h0) (hi_add _ _ rfl h1) rfl rfl rfl).trans (nstep_3 _ _ _ _ _ _).symm
theorem num_4 (N : Nat) (b : List UInt8) (n : Int) (t : List UInt64) (a0 a1 a2 a3 a4 : UInt64) : poly1305_number_s2 N b n 4 t [a0, a1, a2, a3, a4] = bif decide ((4 : Int) < n) then (bif inR (4 : Int) b.length then some (.go ((b, n, (5 : Int), ()), (t, [a0, a1 + (shl64 (b.getD 4 0).toUInt64 6 &&& 67108863), a2, a3, a4], ()))) else none) else some (.br ((), (t, [a0, a1, a2, a3, a4], ()))) := by kernel_rfl
theorem nus_4 {a0 a1 a2 a3 a4 : UInt64} (x : UInt8) (h0 : a0.toNat < 67108864) (h1 : a1.toNat < 67108864) (h2 : a2.toNat < 67108864) (h3 : a3.toNat < 67108864) (h4 : a4.toNat < 67108864) : us [a0, a1 + (shl64 x.toUInt64 6 &&& 67108863), a2, a3, a4] = nstep (us [a0, a1, a2, a3, a4]) 4 x.toNat :=
  (congr5 rfl (lo_add _ _ (by decide) rfl h1) rfl rfl rfl).trans (nstep_4 _ _ _ _ _ _).symm
theorem num_5 (N : Nat) (b : List UInt8) (n : Int) (t : List UInt64) (a0 a1 a2 a3 a4 : UInt64) : poly1305_number_s2 N b n 5 t [a0, a1, a2, a3, a4] = bif decide ((5 : Int) < n) then (bif inR (5 : Int) b.length then some (.go ((b, n, (6 : Int), ()), (t, [a0, a1 + (shl64 (b.getD 5 0).toUInt64 14 &&& 67108863), a2, a3, a4], ()))) else none) else some (.br ((), (t, [a0, a1, a2, a3, a4], ()))) := by kernel_rfl
theorem nus_5 {a0 a1 a2 a3 a4 : UInt64} (x : UInt8) (h0 : a0.toNat < 67108864) (h1 : a1.toNat < 67108864) (h2 : a2.toNat < 67108864) (h3 : a3.toNat < 67108864) (h4 : a4.toNat < 67108864) : us [a0, a1 + (shl64 x.toUInt64 14 &&& 67108863), a2, a3, a4] = nstep (us [a0, a1, a2, a3, a4]) 5 x.toNat :=
  (congr5 rfl (lo_add _ _ (by decide) rfl h1) rfl rfl rfl).trans (nstep_5 _ _ _ _ _ _).symm
theorem num_6 (N : Nat) (b : List UInt8) (n : Int) (t : List UInt64) (a0 a1 a2 a3 a4 : UInt64) : poly1305_number_s2 N b n 6 t [a0, a1, a2, a3, a4] = bif decide ((6 : Int) < n) then (bif inR (6 : Int) b.length then some (.go ((b, n, (7 : Int), ()), (t, [a0, a1 + (shl64 (b.getD 6 0).toUInt64 22 &&& 67108863), a2 + shr64 (b.getD 6 0).toUInt64 4, a3, a4], ()))) else none) else some (.br ((), (t, [a0, a1, a2, a3, a4], ()))) := by kernel_rfl
theorem nus_6 {a0 a1 a2 a3 a4 : UInt64} (x : UInt8) (h0 : a0.toNat < 67108864) (h1 : a1.toNat < 67108864) (h2 : a2.toNat < 67108864) (h3 : a3.toNat < 67108864) (h4 : a4.toNat < 67108864) : us [a0, a1 + (shl64 x.toUInt64 22 &&& 67108863), a2 + shr64 x.toUInt64 4, a3, a4] = nstep (us [a0, a1, a2, a3, a4]) 6 x.toNat :=
  (congr5 rfl (lo_add _ _ (by decide) rfl h1) (hi_add _ _ rfl h2) rfl rfl).trans (nstep_6 _ _ _ _ _ _).symm
theorem num_7 (N : Nat) (b : List UInt8) (n : Int) (t : List UInt64) (a0 a1 a2 a3 a4 : UInt64) : poly1305_number_s2 N b n 7 t [a0, a1, a2, a3, a4] = bif decide ((7 : Int) < n) then (bif inR (7 : Int) b.length then some (.go ((b, n, (8 : Int), ()), (t, [a0, a1, a2 + (shl64 (b.getD 7 0).toUInt64 4 &&& 67108863), a3, a4], ()))) else none) else some (.br ((), (t, [a0, a1, a2, a3, a4], ()))) := by kernel_rfl
theorem nus_7 {a0 a1 a2 a3 a4 : UInt64} (x : UInt8) (h0 : a0.toNat < 67108864) (h1 : a1.toNat < 67108864) (h2 : a2.toNat < 67108864) (h3 : a3.toNat < 67108864) (h4 : a4.toNat < 67108864) : us [a0, a1, a2 + (shl64 x.toUInt64 4 &&& 67108863), a3, a4] = nstep (us [a0, a1, a2, a3, a4]) 7 x.toNat :=
  (congr5 rfl rfl (lo_add _ _ (by decide) rfl h2) rfl rfl).trans (nstep_7 _ _ _ _ _ _).symm
theorem num_8 (N : Nat) (b : List UInt8) (n : Int) (t : List UInt64) (a0 a1 a2 a3 a4 : UInt64) : poly1305_number_s2 N b n 8 t [a0, a1, a2, a3, a4] = bif decide ((8 : Int) < n) then (bif inR (8 : Int) b.length then some (.go ((b, n, (9 : Int), ()), (t, [a0, a1, a2 + (shl64 (b.getD 8 0).toUInt64 12 &&& 67108863), a3, a4], ()))) else none) else some (.br ((), (t, [a0, a1, a2, a3, a4], ()))) := by kernel_rfl
theorem nus_8 {a0 a1 a2 a3 a4 : UInt64} (x : UInt8) (h0 : a0.toNat < 67108864) (h1 : a1.toNat < 67108864) (h2 : a2.toNat < 67108864) (h3 : a3.toNat < 67108864) (h4 : a4.toNat < 67108864) : us [a0, a1, a2 + (shl64 x.toUInt64 12 &&& 67108863), a3, a4] = nstep (us [a0, a1, a2, a3, a4]) 8 x.toNat :=
  (congr5 rfl rfl (lo_add _ _ (by decide) rfl h2) rfl rfl).trans (nstep_8 _ _ _ _ _ _).symm
theorem num_9 (N : Nat) (b : List UInt8) (n : Int) (t : List UInt64) (a0 a1 a2 a3 a4 : UInt64) : poly1305_number_s2 N b n 9 t [a0, a1, a2, a3, a4] = bif decide ((9 : Int) < n) then (bif inR (9 : Int) b.length then some (.go ((b, n, (10 : Int), ()), (t, [a0, a1, a2 + (shl64 (b.getD 9 0).toUInt64 20 &&& 67108863), a3 + shr64 (b.getD 9 0).toUInt64 6, a4], ()))) else none) else some (.br ((), (t, [a0, a1, a2, a3, a4], ()))) := by kernel_rfl
theorem nus_9 {a0 a1 a2 a3 a4 : UInt64} (x : UInt8) (h0 : a0.toNat < 67108864) (h1 : a1.toNat < 67108864) (h2 : a2.toNat < 67108864) (h3 : a3.toNat < 67108864) (h4 : a4.toNat < 67108864) : us [a0, a1, a2 + (shl64 x.toUInt64 20 &&& 67108863), a3 + shr64 x.toUInt64 6, a4] = nstep (us [a0, a1, a2, a3, a4]) 9 x.toNat :=
  (congr5 rfl rfl (lo_add _ _ (by decide) rfl h2) (hi_add _ _ rfl h3) rfl).trans (nstep_9 _ _ _ _ _ _).symm
theorem num_10 (N : Nat) (b : List UInt8) (n : Int) (t : List UInt64) (a0 a1 a2 a3 a4 : UInt64) : poly1305_number_s2 N b n 10 t [a0, a1, a2, a3, a4] = bif decide ((10 : Int) < n) then (bif inR (10 : Int) b.length then some (.go ((b, n, (11 : Int), ()), (t, [a0, a1, a2, a3 + (shl64 (b.getD 10 0).toUInt64 2 &&& 67108863), a4], ()))) else none) else some (.br ((), (t, [a0, a1, a2, a3, a4], ()))) := by kernel_rfl
theorem nus_10 {a0 a1 a2 a3 a4 : UInt64} (x : UInt8) (h0 : a0.toNat < 67108864) (h1 : a1.toNat < 67108864) (h2 : a2.toNat < 67108864) (h3 : a3.toNat < 67108864) (h4 : a4.toNat < 67108864) : us [a0, a1, a2, a3 + (shl64 x.toUInt64 2 &&& 67108863), a4] = nstep (us [a0, a1, a2, a3, a4]) 10 x.toNat :=
  (congr5 rfl rfl rfl (lo_add _ _ (by decide) rfl h3) rfl).trans (nstep_10 _ _ _ _ _ _).symm
theorem num_11 (N : Nat) (b : List UInt8) (n : Int) (t : List UInt64) (a0 a1 a2 a3 a4 : UInt64) : poly1305_number_s2 N b n 11 t [a0, a1, a2, a3, a4] = bif decide ((11 : Int) < n) then (bif inR (11 : Int) b.length then some (.go ((b, n, (12 : Int), ()), (t, [a0, a1, a2, a3 + (shl64 (b.getD 11 0).toUInt64 10 &&& 67108863), a4], ()))) else none) else some (.br ((), (t, [a0, a1, a2, a3, a4], ()))) := by kernel_rfl
theorem nus_11 {a0 a1 a2 a3 a4 : UInt64} (x : UInt8) (h0 : a0.toNat < 67108864) (h1 : a1.toNat < 67108864) (h2 : a2.toNat < 67108864) (h3 : a3.toNat < 67108864) (h4 : a4.toNat < 67108864) : us [a0, a1, a2, a3 + (shl64 x.toUInt64 10 &&& 67108863), a4] = nstep (us [a0, a1, a2, a3, a4]) 11 x.toNat :=
  (congr5 rfl rfl rfl (lo_add _ _ (by decide) rfl h3) rfl).trans (nstep_11 _ _ _ _ _ _).symm
theorem num_12 (N : Nat) (b : List UInt8) (n : Int) (t : List UInt64) (a0 a1 a2 a3 a4 : UInt64) : poly1305_number_s2 N b n 12 t [a0, a1, a2, a3, a4] = bif decide ((12 : Int) < n) then (bif inR (12 : Int) b.length then some (.go ((b, n, (13 : Int), ()), (t, [a0, a1, a2, a3 + (shl64 (b.getD 12 0).toUInt64 18 &&& 67108863), a4], ()))) else none) else some (.br ((), (t, [a0, a1, a2, a3, a4], ()))) := by kernel_rfl
theorem nus_12 {a0 a1 a2 a3 a4 : UInt64} (x : UInt8) (h0 : a0.toNat < 67108864) (h1 : a1.toNat < 67108864) (h2 : a2.toNat < 67108864) (h3 : a3.toNat < 67108864) (h4 : a4.toNat < 67108864) : us [a0, a1, a2, a3 + (shl64 x.toUInt64 18 &&& 67108863), a4] = nstep (us [a0, a1, a2, a3, a4]) 12 x.toNat :=
  (congr5 rfl rfl rfl (lo_add _ _ (by decide) rfl h3) rfl).trans (nstep_12 _ _ _ _ _ _).symm
theorem num_13 (N : Nat) (b : List UInt8) (n : Int) (t : List UInt64) (a0 a1 a2 a3 a4 : UInt64) : poly1305_number_s2 N b n 13 t [a0, a1, a2, a3, a4] = bif decide ((13 : Int) < n) then (bif inR (13 : Int) b.length then some (.go ((b, n, (14 : Int), ()), (t, [a0, a1, a2, a3, a4 + (shl64 (b.getD 13 0).toUInt64 0 &&& 67108863)], ()))) else none) else some (.br ((), (t, [a0, a1, a2, a3, a4], ()))) := by kernel_rfl
theorem nus_13 {a0 a1 a2 a3 a4 : UInt64} (x : UInt8) (h0 : a0.toNat < 67108864) (h1 : a1.toNat < 67108864) (h2 : a2.toNat < 67108864) (h3 : a3.toNat < 67108864) (h4 : a4.toNat < 67108864) : us [a0, a1, a2, a3, a4 + (shl64 x.toUInt64 0 &&& 67108863)] = nstep (us [a0, a1, a2, a3, a4]) 13 x.toNat :=
  (congr5 rfl rfl rfl rfl (lo_add _ _ (by decide) rfl h4)).trans (nstep_13 _ _ _ _ _ _).symm
theorem num_14 (N : Nat) (b : List UInt8) (n : Int) (t : List UInt64) (a0 a1 a2 a3 a4 : UInt64) : poly1305_number_s2 N b n 14 t [a0, a1, a2, a3, a4] = bif decide ((14 : Int) < n) then (bif inR (14 : Int) b.length then some (.go ((b, n, (15 : Int), ()), (t, [a0, a1, a2, a3, a4 + (shl64 (b.getD 14 0).toUInt64 8 &&& 67108863)], ()))) else none) else some (.br ((), (t, [a0, a1, a2, a3, a4], ()))) := by kernel_rfl
theorem nus_14 {a0 a1 a2 a3 a4 : UInt64} (x : UInt8) (h0 : a0.toNat < 67108864) (h1 : a1.toNat < 67108864) (h2 : a2.toNat < 67108864) (h3 : a3.toNat < 67108864) (h4 : a4.toNat < 67108864) : us [a0, a1, a2, a3, a4 + (shl64 x.toUInt64 8 &&& 67108863)] = nstep (us [a0, a1, a2, a3, a4]) 14 x.toNat :=
  (congr5 rfl rfl rfl rfl (lo_add _ _ (by decide) rfl h4)).trans (nstep_14 _ _ _ _ _ _).symm
theorem num_15 (N : Nat) (b : List UInt8) (n : Int) (t : List UInt64) (a0 a1 a2 a3 a4 : UInt64) : poly1305_number_s2 N b n 15 t [a0, a1, a2, a3, a4] = bif decide ((15 : Int) < n) then (bif inR (15 : Int) b.length then some (.go ((b, n, (16 : Int), ()), (t, [a0, a1, a2, a3, a4 + (shl64 (b.getD 15 0).toUInt64 16 &&& 67108863)], ()))) else none) else some (.br ((), (t, [a0, a1, a2, a3, a4], ()))) := by kernel_rfl
theorem nus_15 {a0 a1 a2 a3 a4 : UInt64} (x : UInt8) (h0 : a0.toNat < 67108864) (h1 : a1.toNat < 67108864) (h2 : a2.toNat < 67108864) (h3 : a3.toNat < 67108864) (h4 : a4.toNat < 67108864) : us [a0, a1, a2, a3, a4 + (shl64 x.toUInt64 16 &&& 67108863)] = nstep (us [a0, a1, a2, a3, a4]) 15 x.toNat :=
  (congr5 rfl rfl rfl rfl (lo_add _ _ (by decide) rfl h4)).trans (nstep_15 _ _ _ _ _ _).symm
theorem num_16 (N : Nat) (b : List UInt8) (n : Int) (t : List UInt64) (a0 a1 a2 a3 a4 : UInt64) : poly1305_number_s2 N b n 16 t [a0, a1, a2, a3, a4] = bif decide ((16 : Int) < n) then (bif inR (16 : Int) b.length then some (.go ((b, n, (17 : Int), ()), (t, [a0, a1, a2, a3, a4 + (shl64 (b.getD 16 0).toUInt64 24 &&& 67108863)], ()))) else none) else some (.br ((), (t, [a0, a1, a2, a3, a4], ()))) := by kernel_rfl
theorem nus_16 {a0 a1 a2 a3 a4 : UInt64} (x : UInt8) (h0 : a0.toNat < 67108864) (h1 : a1.toNat < 67108864) (h2 : a2.toNat < 67108864) (h3 : a3.toNat < 67108864) (h4 : a4.toNat < 67108864) : us [a0, a1, a2, a3, a4 + (shl64 x.toUInt64 24 &&& 67108863)] = nstep (us [a0, a1, a2, a3, a4]) 16 x.toNat :=
  (congr5 rfl rfl rfl rfl (lo_add _ _ (by decide) rfl h4)).trans (nstep_16 _ _ _ _ _ _).symm
theorem num_step (N : Nat) {b : List UInt8} {l : List UInt64} (t : List UInt64) {i : Nat} (h : NInv (ns b) (us l) i) (hi : i < 17) (hb : i < b.length) (h16 : i = 16 → (b.getD i 0).toNat ≤ 3) :
    ∃ l', poly1305_number_s2 N b (b.length : Int) (i : Int) t l = some (.go ((b, (b.length : Int), ((i + 1 : Nat) : Int), ()), (t, l', ()))) ∧ NInv (ns b) (us l') (i + 1) := by
  have hlen : l.length = 5 := by have := h.len; simpa [us] using this
  have hx : (ns b).getD i 0 = (b.getD i 0).toNat := by simp [ns, List.getD, hb]
  have hs := h.step hi (by simpa [ns] using hb) (by rw [hx]; exact (b.getD i 0).toNat_lt) (by rw [hx]; exact h16)
  rw [hx] at hs
  have l0 := low_of h (j := 0) (by omega); have l1 := low_of h (j := 1) (by omega); have l2 := low_of h (j := 2) (by omega); have l3 := low_of h (j := 3) (by omega); have l4 := low_of h (j := 4) (by omega)
  obtain ⟨a0, a1, a2, a3, a4, rfl⟩ := list5u hlen
  have hd : decide ((i : Int) < (b.length : Int)) = true := dpos (by omega)
  have hr : inR (i : Int) b.length = true := inR_of (by omega) (by omega)
  rcases (by omega : i = 0 ∨ i = 1 ∨ i = 2 ∨ i = 3 ∨ i = 4 ∨ i = 5 ∨ i = 6 ∨ i = 7 ∨ i = 8 ∨ i = 9 ∨ i = 10 ∨ i = 11 ∨ i = 12 ∨ i = 13 ∨ i = 14 ∨ i = 15 ∨ i = 16) with rfl | rfl | rfl | rfl | rfl | rfl | rfl | rfl | rfl | rfl | rfl | rfl | rfl | rfl | rfl | rfl | rfl
  · exact ⟨_, (num_0 N b _ t a0 a1 a2 a3 a4).trans (by rw [show decide ((0 : Int) < (b.length : Int)) = true from hd, show inR (0 : Int) b.length = true from hr]; rfl), by rw [nus_0 _ l0 l1 l2 l3 l4]; exact hs⟩
  · exact ⟨_, (num_1 N b _ t a0 a1 a2 a3 a4).trans (by rw [show decide ((1 : Int) < (b.length : Int)) = true from hd, show inR (1 : Int) b.length = true from hr]; rfl), by rw [nus_1 _ l0 l1 l2 l3 l4]; exact hs⟩
  · exact ⟨_, (num_2 N b _ t a0 a1 a2 a3 a4).trans (by rw [show decide ((2 : Int) < (b.length : Int)) = true from hd, show inR (2 : Int) b.length = true from hr]; rfl), by rw [nus_2 _ l0 l1 l2 l3 l4]; exact hs⟩
  · exact ⟨_, (num_3 N b _ t a0 a1 a2 a3 a4).trans (by rw [show decide ((3 : Int) < (b.length : Int)) = true from hd, show inR (3 : Int) b.length = true from hr]; rfl), by rw [nus_3 _ l0 l1 l2 l3 l4]; exact hs⟩
  · exact ⟨_, (num_4 N b _ t a0 a1 a2 a3 a4).trans (by rw [show decide ((4 : Int) < (b.length : Int)) = true from hd, show inR (4 : Int) b.length = true from hr]; rfl), by rw [nus_4 _ l0 l1 l2 l3 l4]; exact hs⟩
  · exact ⟨_, (num_5 N b _ t a0 a1 a2 a3 a4).trans (by rw [show decide ((5 : Int) < (b.length : Int)) = true from hd, show inR (5 : Int) b.length = true from hr]; rfl), by rw [nus_5 _ l0 l1 l2 l3 l4]; exact hs⟩
  · exact ⟨_, (num_6 N b _ t a0 a1 a2 a3 a4).trans (by rw [show decide ((6 : Int) < (b.length : Int)) = true from hd, show inR (6 : Int) b.length = true from hr]; rfl), by rw [nus_6 _ l0 l1 l2 l3 l4]; exact hs⟩
  · exact ⟨_, (num_7 N b _ t a0 a1 a2 a3 a4).trans (by rw [show decide ((7 : Int) < (b.length : Int)) = true from hd, show inR (7 : Int) b.length = true from hr]; rfl), by rw [nus_7 _ l0 l1 l2 l3 l4]; exact hs⟩
  · exact ⟨_, (num_8 N b _ t a0 a1 a2 a3 a4).trans (by rw [show decide ((8 : Int) < (b.length : Int)) = true from hd, show inR (8 : Int) b.length = true from hr]; rfl), by rw [nus_8 _ l0 l1 l2 l3 l4]; exact hs⟩
  · exact ⟨_, (num_9 N b _ t a0 a1 a2 a3 a4).trans (by rw [show decide ((9 : Int) < (b.length : Int)) = true from hd, show inR (9 : Int) b.length = true from hr]; rfl), by rw [nus_9 _ l0 l1 l2 l3 l4]; exact hs⟩
  · exact ⟨_, (num_10 N b _ t a0 a1 a2 a3 a4).trans (by rw [show decide ((10 : Int) < (b.length : Int)) = true from hd, show inR (10 : Int) b.length = true from hr]; rfl), by rw [nus_10 _ l0 l1 l2 l3 l4]; exact hs⟩
  · exact ⟨_, (num_11 N b _ t a0 a1 a2 a3 a4).trans (by rw [show decide ((11 : Int) < (b.length : Int)) = true from hd, show inR (11 : Int) b.length = true from hr]; rfl), by rw [nus_11 _ l0 l1 l2 l3 l4]; exact hs⟩
  · exact ⟨_, (num_12 N b _ t a0 a1 a2 a3 a4).trans (by rw [show decide ((12 : Int) < (b.length : Int)) = true from hd, show inR (12 : Int) b.length = true from hr]; rfl), by rw [nus_12 _ l0 l1 l2 l3 l4]; exact hs⟩
  · exact ⟨_, (num_13 N b _ t a0 a1 a2 a3 a4).trans (by rw [show decide ((13 : Int) < (b.length : Int)) = true from hd, show inR (13 : Int) b.length = true from hr]; rfl), by rw [nus_13 _ l0 l1 l2 l3 l4]; exact hs⟩
  · exact ⟨_, (num_14 N b _ t a0 a1 a2 a3 a4).trans (by rw [show decide ((14 : Int) < (b.length : Int)) = true from hd, show inR (14 : Int) b.length = true from hr]; rfl), by rw [nus_14 _ l0 l1 l2 l3 l4]; exact hs⟩
  · exact ⟨_, (num_15 N b _ t a0 a1 a2 a3 a4).trans (by rw [show decide ((15 : Int) < (b.length : Int)) = true from hd, show inR (15 : Int) b.length = true from hr]; rfl), by rw [nus_15 _ l0 l1 l2 l3 l4]; exact hs⟩
  · exact ⟨_, (num_16 N b _ t a0 a1 a2 a3 a4).trans (by rw [show decide ((16 : Int) < (b.length : Int)) = true from hd, show inR (16 : Int) b.length = true from hr]; rfl), by rw [nus_16 _ l0 l1 l2 l3 l4]; exact hs⟩
/-- The number of at most 17 bytes. -/
theorem number_ok (N : Nat) {b : List UInt8} (hb : b.length ≤ 17) (h16 : 16 < b.length → (b.getD 16 0).toNat ≤ 3) (hN : 4611686018427387904 ≤ N) :
    ∃ l, poly1305_number N b = some ((l, ()), ()) ∧ Le 67108863 (us l) ∧ v5 (us l) = le (ns b) := by
  unfold poly1305_number poly1305_number_1
  have := loopK_of (N := N) (step := fun y => poly1305_number_s2 N y.1.1 y.1.2.1 y.1.2.2.1 y.2.1 y.2.2.1) (J := fun (e : ((Unit) × ((List UInt64) × (List UInt64) × Unit))) => poly1305_number_3 N e.2.1 e.2.2.1)
    (I := fun y => ∃ i : Nat, y = ((b, (b.length : Int), (i : Int), ()), (List.replicate 5 0, y.2.2.1, ())) ∧ i ≤ b.length ∧ NInv (ns b) (us y.2.2.1) i) (μ := fun y => ((b.length : Int) - y.1.2.2.1).toNat)
    (T := fun r => ∃ l, r = ((l, ()), ()) ∧ Le 67108863 (us l) ∧ v5 (us l) = le (ns b)) ?_
    (x := ((b, (b.length : Int), 0, ()), (List.replicate 5 0, List.replicate 5 0, ()))) ⟨0, rfl, by omega, NInv.start _⟩ (by simp; omega)
  · obtain ⟨r, h1, l, rfl, h2, h3⟩ := this
    exact ⟨l, h1, h2, h3⟩
  · rintro ⟨⟨b', n, j, _⟩, ⟨t, l, _⟩⟩ ⟨i, h1, h2, h3⟩
    simp only [Prod.mk.injEq] at h1
    obtain ⟨⟨rfl, rfl, rfl, _⟩, rfl, _⟩ := h1
    simp only at h3 ⊢
    by_cases hi : i < b'.length
    · obtain ⟨l', e, h4⟩ := num_step N (List.replicate 5 0) h3 (by omega) hi (fun e => by subst e; exact h16 hi)
      exact ⟨_, e, ⟨i + 1, rfl, by omega, h4⟩, by simp only; omega⟩
    · have e : i = b'.length := by omega
      subst e
      refine ⟨.br ((), (List.replicate 5 0, l, ())), ?_, _, rfl, l, rfl, ⟨h3.len, fun j hj => by have := low_of h3 hj; omega⟩, ?_⟩
      · unfold poly1305_number_s2
        simp (disch := omega) only [dneg, cond_false]
      · rw [h3.val, List.take_of_length_le (by simp [ns])]
end Go.Proofs.YtajpblfinenmjaaDoor.Pl

/- Plain: the limbs of Poly1305: carry, sum, product, the number below the modulus. -/
namespace Go.Proofs.YtajpblfinenmjaaDoor.Pl
open Go Poly
/-- A round of carry. -/
def cr : List UInt64 → List UInt64
  | [a, b, c, d, e] =>
    [((a + 0) &&& 67108863) + 5 * shr64 (e + shr64 (d + shr64 (c + shr64 (b + shr64 (a + 0) 26) 26) 26) 26) 26, (b + shr64 (a + 0) 26) &&& 67108863, (c + shr64 (b + shr64 (a + 0) 26) 26) &&& 67108863,
      (d + shr64 (c + shr64 (b + shr64 (a + 0) 26) 26) 26) &&& 67108863, (e + shr64 (d + shr64 (c + shr64 (b + shr64 (a + 0) 26) 26) 26) 26) &&& 67108863]
  | l => l
theorem carry_un (M : Nat) (a b c d e : UInt64) : poly1305_limbs_carry (M + 20) [a, b, c, d, e] = some ((cr (cr [a, b, c, d, e]), ()), ()) := by kernel_rfl
theorem add_un (M : Nat) (a b c d e a' b' c' d' e' : UInt64) : poly1305_limbs_add (M + 20) [a, b, c, d, e] [a', b', c', d', e'] = some ((cr (cr [a + a', b + b', c + c', d + d', e + e']), ()), ()) := by kernel_rfl
theorem mul_un (M : Nat) (a0 a1 a2 a3 a4 b0 b1 b2 b3 b4 : UInt64) : poly1305_limbs_mul (M + 20) [a0, a1, a2, a3, a4] [b0, b1, b2, b3, b4] =
    some ((cr (cr [0 + a0 * b0 + a1 * b4 * 5 + a2 * b3 * 5 + a3 * b2 * 5 + a4 * b1 * 5, 0 + a0 * b1 + a1 * b0 + a2 * b4 * 5 + a3 * b3 * 5 + a4 * b2 * 5, 0 + a0 * b2 + a1 * b1 + a2 * b0 + a3 * b4 * 5 + a4 * b3 * 5,
      0 + a0 * b3 + a1 * b2 + a2 * b1 + a3 * b0 + a4 * b4 * 5, 0 + a0 * b4 + a1 * b3 + a2 * b2 + a3 * b1 + a4 * b0]), ()), ()) := by kernel_rfl
/-- A carry that stops at the last limb. -/
def cq : List UInt64 → List UInt64
  | [a, b, c, d, e] => [a &&& 67108863, (b + shr64 a 26) &&& 67108863, (c + shr64 (b + shr64 a 26) 26) &&& 67108863, (d + shr64 (c + shr64 (b + shr64 a 26) 26) 26) &&& 67108863, e + shr64 (d + shr64 (c + shr64 (b + shr64 a 26) 26) 26) 26]
  | l => l
theorem red_un (M : Nat) (a b c d e : UInt64) (l t : List UInt64) : poly1305_limbs_reduced_1 (M + 20) 0 l t [a, b, c, d, e] = bif decide (shr64 ((cq [a, b, c, d, e]).getD 4 0) 26 = 0) then some ((l, ()), ()) else some (((cq [a, b, c, d, e]).set 4 ((cq [a, b, c, d, e]).getD 4 0 &&& 67108863), ()), ()) := by kernel_rfl

theorem shr26 (x : UInt64) : (shr64 x 26).toNat = x.toNat / 67108864 := by
  show (x.toBitVec >>> 26).toNat = _
  rw [BitVec.toNat_ushiftRight, Nat.shiftRight_eq_div_pow]; rfl
theorem and26 (x : UInt64) : (x &&& 67108863).toNat = x.toNat % 67108864 := by
  rw [UInt64.toNat_and]; exact Nat.and_two_pow_sub_one_eq_mod _ 26
theorem addN {x y : UInt64} (h : x.toNat + y.toNat < 18446744073709551616) : (x + y).toNat = x.toNat + y.toNat := by
  rw [UInt64.toNat_add]; exact Nat.mod_eq_of_lt h
theorem mulN {x y : UInt64} (h : x.toNat * y.toNat < 18446744073709551616) : (x * y).toNat = x.toNat * y.toNat := by
  rw [UInt64.toNat_mul]; exact Nat.mod_eq_of_lt h
theorem cr_us {l : List UInt64} (h : Le 4611686018427387904 (us l)) : us (cr l) = rnd (us l) := by
  have h0 := h.2 0 (by omega); have h1 := h.2 1 (by omega); have h2 := h.2 2 (by omega); have h3 := h.2 3 (by omega); have h4 := h.2 4 (by omega)
  obtain ⟨a, b, c, d, e, rfl⟩ := list5u (by simpa [us] using h.1)
  simp only [us, List.map_cons, List.map_nil, List.getD_cons_zero, List.getD_cons_succ] at h0 h1 h2 h3 h4
  have e0 : (a + 0).toNat = a.toNat + 0 := addN (by show a.toNat + 0 < _; omega)
  have e1 : (b + shr64 (a + 0) 26).toNat = b.toNat + (a.toNat + 0) / 67108864 := by rw [addN (by rw [shr26, e0]; omega), shr26, e0]
  have e2 : (c + shr64 (b + shr64 (a + 0) 26) 26).toNat = c.toNat + (b.toNat + (a.toNat + 0) / 67108864) / 67108864 := by rw [addN (by rw [shr26, e1]; omega), shr26, e1]
  have e3 : (d + shr64 (c + shr64 (b + shr64 (a + 0) 26) 26) 26).toNat = d.toNat + (c.toNat + (b.toNat + (a.toNat + 0) / 67108864) / 67108864) / 67108864 := by rw [addN (by rw [shr26, e2]; omega), shr26, e2]
  have e4 : (e + shr64 (d + shr64 (c + shr64 (b + shr64 (a + 0) 26) 26) 26) 26).toNat = e.toNat + (d.toNat + (c.toNat + (b.toNat + (a.toNat + 0) / 67108864) / 67108864) / 67108864) / 67108864 := by rw [addN (by rw [shr26, e3]; omega), shr26, e3]
  refine Eq.trans ?_ (rnd_five _ _ _ _ _).symm
  refine congr5 ?_ ?_ ?_ ?_ ?_
  · have e5 : (5 * shr64 (e + shr64 (d + shr64 (c + shr64 (b + shr64 (a + 0) 26) 26) 26) 26) 26).toNat = 5 * ((e.toNat + (d.toNat + (c.toNat + (b.toNat + (a.toNat + 0) / 67108864) / 67108864) / 67108864) / 67108864) / 67108864) := by
      have q : (5 : UInt64).toNat = 5 := rfl
      rw [mulN (by rw [q, shr26, e4]; omega), q, shr26, e4]
    rw [addN (by rw [and26, e5, e0]; omega), and26, e5, e0]
  · rw [and26, e1]
  · rw [and26, e2]
  · rw [and26, e3]
  · rw [and26, e4]
theorem rp_inv {r : Nat} {l : List Nat} (hb : Poly.Bd r l) : ∀ j, j ≤ 5 → CInv r l (rp j l).1 j (rp j l).2 := by
  intro j
  induction j with
  | zero => intro _; exact CInv.start hb
  | succ j ih => intro hj; exact (CInv.step hb (ih (by omega)) (by omega)).1
theorem rnd_bd {r : Nat} {l : List Nat} (hb : Poly.Bd r l) (hr : r < 2) : Poly.Bd (r + 1) (rnd l) ∧ v5 (rnd l) % pp = v5 l % pp := by
  have h := (rp_inv hb 5 (Nat.le_refl 5)).done hr
  exact ⟨h.1, h.2.1⟩
theorem bd_le {r : Nat} {l : List Nat} (h : Poly.Bd r l) : Le 4611686018427387904 l := ⟨h.len, h.all⟩
/-- Two rounds. -/
theorem cr2 {l : List UInt64} (h : Le 4611686018427387904 (us l)) : Poly.Bd 2 (us (cr (cr l))) ∧ v5 (us (cr (cr l))) % pp = v5 (us l) % pp := by
  have h1 := rnd_bd h.bd (by omega)
  rw [← cr_us h] at h1
  have h2 := rnd_bd h1.1 (by omega)
  rw [← cr_us (bd_le h1.1)] at h2
  exact ⟨h2.1, h2.2.trans h1.2⟩
def mst (a b l : List Nat) (i k : Nat) : List Nat := l.set ((i + k) % 5) (l.getD ((i + k) % 5) 0 + mterm a b i k)
/-- What one limb of the first factor adds. -/
def mrow (a b l : List Nat) (i : Nat) : List Nat := mst a b (mst a b (mst a b (mst a b (mst a b l i 0) i 1) i 2) i 3) i 4
theorem prod_bd {x y : UInt64} (hx : x.toNat ≤ 67108868) (hy : y.toNat ≤ 67108868) : (x * y).toNat = x.toNat * y.toNat ∧ x.toNat * y.toNat ≤ 4503600164241424 := by
  have := Nat.mul_le_mul hx hy
  exact ⟨mulN (by omega), by omega⟩
theorem prod5 {x y : UInt64} (hx : x.toNat ≤ 67108868) (hy : y.toNat ≤ 67108868) : (x * y * 5).toNat = x.toNat * y.toNat * 5 := by
  have h := prod_bd hx hy
  have q : (5 : UInt64).toNat = 5 := rfl
  rw [mulN (by rw [h.1, q]; omega), h.1, q]
theorem mrow_ok {a b l : List Nat} {i : Nat} (ha : Le 67108868 a) (hb : Le 67108868 b) (h : MInv a b l i 0) (hi : i < 5) : MInv a b (mrow a b l i) (i + 1) 0 :=
  ((h.step ha hb hi (by omega)).1.step ha hb hi (by omega)).1 |>.step ha hb hi (by omega) |>.1.step ha hb hi (by omega) |>.1.step ha hb hi (by omega) |>.1.next
section
variable (N : Nat) (hN : 4611686018427387904 ≤ N)
include hN
theorem carry_ok {l : List UInt64} (h : Le 4611686018427387904 (us l)) : ∃ l', poly1305_limbs_carry N l = some ((l', ()), ()) ∧ Poly.Bd 2 (us l') ∧ v5 (us l') % pp = v5 (us l) % pp ∧ us l' = rnd (rnd (us l)) := by
  obtain ⟨M, rfl⟩ := Nat.exists_eq_add_of_le' (show 20 ≤ N by omega)
  obtain ⟨a, b, c, d, e, rfl⟩ := list5u (by simpa [us] using h.1)
  have h1 := rnd_bd h.bd (by omega)
  refine ⟨_, carry_un M a b c d e, (cr2 h).1, (cr2 h).2, ?_⟩
  rw [cr_us (l := cr [a, b, c, d, e]) (by rw [cr_us h]; exact bd_le h1.1), cr_us h]
theorem add_ok {l m : List UInt64} (hl : Le 67108868 (us l)) (hm : Le 67108863 (us m)) : ∃ l', poly1305_limbs_add N l m = some ((l', ()), ()) ∧ Le 67108868 (us l') ∧ v5 (us l') % pp = (v5 (us l) + v5 (us m)) % pp := by
  obtain ⟨M, rfl⟩ := Nat.exists_eq_add_of_le' (show 20 ≤ N by omega)
  have h0 := hl.2 0 (by omega); have h1 := hl.2 1 (by omega); have h2 := hl.2 2 (by omega); have h3 := hl.2 3 (by omega); have h4 := hl.2 4 (by omega)
  have k0 := hm.2 0 (by omega); have k1 := hm.2 1 (by omega); have k2 := hm.2 2 (by omega); have k3 := hm.2 3 (by omega); have k4 := hm.2 4 (by omega)
  obtain ⟨a, b, c, d, f, rfl⟩ := list5u (by simpa [us] using hl.1)
  obtain ⟨a', b', c', d', e', rfl⟩ := list5u (by simpa [us] using hm.1)
  simp only [us, List.map_cons, List.map_nil, List.getD_cons_zero, List.getD_cons_succ] at h0 h1 h2 h3 h4 k0 k1 k2 k3 k4
  have e : us [a + a', b + b', c + c', d + d', f + e'] = [a.toNat + a'.toNat, b.toNat + b'.toNat, c.toNat + c'.toNat, d.toNat + d'.toNat, f.toNat + e'.toNat] :=
    congr5 (addN (by omega)) (addN (by omega)) (addN (by omega)) (addN (by omega)) (addN (by omega))
  have hle : Le 4611686018427387904 (us [a + a', b + b', c + c', d + d', f + e']) := by rw [e]; apply le5 <;> omega
  have h := cr2 hle
  refine ⟨_, add_un M a b c d f a' b' c' d' e', h.1.le, h.2.trans ?_⟩
  rw [e]
  simp only [us, List.map_cons, List.map_nil, v5, List.getD_cons_zero, List.getD_cons_succ]
  congr 1
  omega
theorem mul_ok {l m : List UInt64} (hl : Le 67108868 (us l)) (hm : Le 67108868 (us m)) : ∃ l', poly1305_limbs_mul N l m = some ((l', ()), ()) ∧ Le 67108868 (us l') ∧ v5 (us l') % pp = v5 (us l) * v5 (us m) % pp := by
  obtain ⟨M, rfl⟩ := Nat.exists_eq_add_of_le' (show 20 ≤ N by omega)
  have h0 := hl.2 0 (by omega); have h1 := hl.2 1 (by omega); have h2 := hl.2 2 (by omega); have h3 := hl.2 3 (by omega); have h4 := hl.2 4 (by omega)
  have k0 := hm.2 0 (by omega); have k1 := hm.2 1 (by omega); have k2 := hm.2 2 (by omega); have k3 := hm.2 3 (by omega); have k4 := hm.2 4 (by omega)
  obtain ⟨a0, a1, a2, a3, a4, rfl⟩ := list5u (by simpa [us] using hl.1)
  obtain ⟨b0, b1, b2, b3, b4, rfl⟩ := list5u (by simpa [us] using hm.1)
  simp only [us, List.map_cons, List.map_nil, List.getD_cons_zero, List.getD_cons_succ] at h0 h1 h2 h3 h4 k0 k1 k2 k3 k4
  have z0 : (0 : UInt64).toNat = 0 := rfl
  have p00 := prod_bd h0 k0
  have p01 := prod_bd h0 k1
  have p02 := prod_bd h0 k2
  have p03 := prod_bd h0 k3
  have p04 := prod_bd h0 k4
  have p10 := prod_bd h1 k0
  have p11 := prod_bd h1 k1
  have p12 := prod_bd h1 k2
  have p13 := prod_bd h1 k3
  have p14 := prod_bd h1 k4
  have q14 := prod5 h1 k4
  have p20 := prod_bd h2 k0
  have p21 := prod_bd h2 k1
  have p22 := prod_bd h2 k2
  have p23 := prod_bd h2 k3
  have q23 := prod5 h2 k3
  have p24 := prod_bd h2 k4
  have q24 := prod5 h2 k4
  have p30 := prod_bd h3 k0
  have p31 := prod_bd h3 k1
  have p32 := prod_bd h3 k2
  have q32 := prod5 h3 k2
  have p33 := prod_bd h3 k3
  have q33 := prod5 h3 k3
  have p34 := prod_bd h3 k4
  have q34 := prod5 h3 k4
  have p40 := prod_bd h4 k0
  have p41 := prod_bd h4 k1
  have q41 := prod5 h4 k1
  have p42 := prod_bd h4 k2
  have q42 := prod5 h4 k2
  have p43 := prod_bd h4 k3
  have q43 := prod5 h4 k3
  have p44 := prod_bd h4 k4
  have q44 := prod5 h4 k4
  have s00 : (0 + a0 * b0 : UInt64).toNat = 0 + a0.toNat * b0.toNat := by rw [addN (by rw [z0, p00.1]; omega), z0, p00.1]
  have s01 : (0 + a0 * b0 + a1 * b4 * 5 : UInt64).toNat = 0 + a0.toNat * b0.toNat + a1.toNat * b4.toNat * 5 := by rw [addN (by rw [s00, q14]; omega), s00, q14]
  have s02 : (0 + a0 * b0 + a1 * b4 * 5 + a2 * b3 * 5 : UInt64).toNat = 0 + a0.toNat * b0.toNat + a1.toNat * b4.toNat * 5 + a2.toNat * b3.toNat * 5 := by rw [addN (by rw [s01, q23]; omega), s01, q23]
  have s03 : (0 + a0 * b0 + a1 * b4 * 5 + a2 * b3 * 5 + a3 * b2 * 5 : UInt64).toNat = 0 + a0.toNat * b0.toNat + a1.toNat * b4.toNat * 5 + a2.toNat * b3.toNat * 5 + a3.toNat * b2.toNat * 5 := by rw [addN (by rw [s02, q32]; omega), s02, q32]
  have s04 : (0 + a0 * b0 + a1 * b4 * 5 + a2 * b3 * 5 + a3 * b2 * 5 + a4 * b1 * 5 : UInt64).toNat = 0 + a0.toNat * b0.toNat + a1.toNat * b4.toNat * 5 + a2.toNat * b3.toNat * 5 + a3.toNat * b2.toNat * 5 + a4.toNat * b1.toNat * 5 := by rw [addN (by rw [s03, q41]; omega), s03, q41]
  have s10 : (0 + a0 * b1 : UInt64).toNat = 0 + a0.toNat * b1.toNat := by rw [addN (by rw [z0, p01.1]; omega), z0, p01.1]
  have s11 : (0 + a0 * b1 + a1 * b0 : UInt64).toNat = 0 + a0.toNat * b1.toNat + a1.toNat * b0.toNat := by rw [addN (by rw [s10, p10.1]; omega), s10, p10.1]
  have s12 : (0 + a0 * b1 + a1 * b0 + a2 * b4 * 5 : UInt64).toNat = 0 + a0.toNat * b1.toNat + a1.toNat * b0.toNat + a2.toNat * b4.toNat * 5 := by rw [addN (by rw [s11, q24]; omega), s11, q24]
  have s13 : (0 + a0 * b1 + a1 * b0 + a2 * b4 * 5 + a3 * b3 * 5 : UInt64).toNat = 0 + a0.toNat * b1.toNat + a1.toNat * b0.toNat + a2.toNat * b4.toNat * 5 + a3.toNat * b3.toNat * 5 := by rw [addN (by rw [s12, q33]; omega), s12, q33]
  have s14 : (0 + a0 * b1 + a1 * b0 + a2 * b4 * 5 + a3 * b3 * 5 + a4 * b2 * 5 : UInt64).toNat = 0 + a0.toNat * b1.toNat + a1.toNat * b0.toNat + a2.toNat * b4.toNat * 5 + a3.toNat * b3.toNat * 5 + a4.toNat * b2.toNat * 5 := by rw [addN (by rw [s13, q42]; omega), s13, q42]
  have s20 : (0 + a0 * b2 : UInt64).toNat = 0 + a0.toNat * b2.toNat := by rw [addN (by rw [z0, p02.1]; omega), z0, p02.1]
  have s21 : (0 + a0 * b2 + a1 * b1 : UInt64).toNat = 0 + a0.toNat * b2.toNat + a1.toNat * b1.toNat := by rw [addN (by rw [s20, p11.1]; omega), s20, p11.1]
  have s22 : (0 + a0 * b2 + a1 * b1 + a2 * b0 : UInt64).toNat = 0 + a0.toNat * b2.toNat + a1.toNat * b1.toNat + a2.toNat * b0.toNat := by rw [addN (by rw [s21, p20.1]; omega), s21, p20.1]
  have s23 : (0 + a0 * b2 + a1 * b1 + a2 * b0 + a3 * b4 * 5 : UInt64).toNat = 0 + a0.toNat * b2.toNat + a1.toNat * b1.toNat + a2.toNat * b0.toNat + a3.toNat * b4.toNat * 5 := by rw [addN (by rw [s22, q34]; omega), s22, q34]
  have s24 : (0 + a0 * b2 + a1 * b1 + a2 * b0 + a3 * b4 * 5 + a4 * b3 * 5 : UInt64).toNat = 0 + a0.toNat * b2.toNat + a1.toNat * b1.toNat + a2.toNat * b0.toNat + a3.toNat * b4.toNat * 5 + a4.toNat * b3.toNat * 5 := by rw [addN (by rw [s23, q43]; omega), s23, q43]
  have s30 : (0 + a0 * b3 : UInt64).toNat = 0 + a0.toNat * b3.toNat := by rw [addN (by rw [z0, p03.1]; omega), z0, p03.1]
  have s31 : (0 + a0 * b3 + a1 * b2 : UInt64).toNat = 0 + a0.toNat * b3.toNat + a1.toNat * b2.toNat := by rw [addN (by rw [s30, p12.1]; omega), s30, p12.1]
  have s32 : (0 + a0 * b3 + a1 * b2 + a2 * b1 : UInt64).toNat = 0 + a0.toNat * b3.toNat + a1.toNat * b2.toNat + a2.toNat * b1.toNat := by rw [addN (by rw [s31, p21.1]; omega), s31, p21.1]
  have s33 : (0 + a0 * b3 + a1 * b2 + a2 * b1 + a3 * b0 : UInt64).toNat = 0 + a0.toNat * b3.toNat + a1.toNat * b2.toNat + a2.toNat * b1.toNat + a3.toNat * b0.toNat := by rw [addN (by rw [s32, p30.1]; omega), s32, p30.1]
  have s34 : (0 + a0 * b3 + a1 * b2 + a2 * b1 + a3 * b0 + a4 * b4 * 5 : UInt64).toNat = 0 + a0.toNat * b3.toNat + a1.toNat * b2.toNat + a2.toNat * b1.toNat + a3.toNat * b0.toNat + a4.toNat * b4.toNat * 5 := by rw [addN (by rw [s33, q44]; omega), s33, q44]
  have s40 : (0 + a0 * b4 : UInt64).toNat = 0 + a0.toNat * b4.toNat := by rw [addN (by rw [z0, p04.1]; omega), z0, p04.1]
  have s41 : (0 + a0 * b4 + a1 * b3 : UInt64).toNat = 0 + a0.toNat * b4.toNat + a1.toNat * b3.toNat := by rw [addN (by rw [s40, p13.1]; omega), s40, p13.1]
  have s42 : (0 + a0 * b4 + a1 * b3 + a2 * b2 : UInt64).toNat = 0 + a0.toNat * b4.toNat + a1.toNat * b3.toNat + a2.toNat * b2.toNat := by rw [addN (by rw [s41, p22.1]; omega), s41, p22.1]
  have s43 : (0 + a0 * b4 + a1 * b3 + a2 * b2 + a3 * b1 : UInt64).toNat = 0 + a0.toNat * b4.toNat + a1.toNat * b3.toNat + a2.toNat * b2.toNat + a3.toNat * b1.toNat := by rw [addN (by rw [s42, p31.1]; omega), s42, p31.1]
  have s44 : (0 + a0 * b4 + a1 * b3 + a2 * b2 + a3 * b1 + a4 * b0 : UInt64).toNat = 0 + a0.toNat * b4.toNat + a1.toNat * b3.toNat + a2.toNat * b2.toNat + a3.toNat * b1.toNat + a4.toNat * b0.toNat := by rw [addN (by rw [s43, p40.1]; omega), s43, p40.1]
  have eo : us [0 + a0 * b0 + a1 * b4 * 5 + a2 * b3 * 5 + a3 * b2 * 5 + a4 * b1 * 5, 0 + a0 * b1 + a1 * b0 + a2 * b4 * 5 + a3 * b3 * 5 + a4 * b2 * 5, 0 + a0 * b2 + a1 * b1 + a2 * b0 + a3 * b4 * 5 + a4 * b3 * 5, 0 + a0 * b3 + a1 * b2 + a2 * b1 + a3 * b0 + a4 * b4 * 5, 0 + a0 * b4 + a1 * b3 + a2 * b2 + a3 * b1 + a4 * b0] = [0 + a0.toNat * b0.toNat + a1.toNat * b4.toNat * 5 + a2.toNat * b3.toNat * 5 + a3.toNat * b2.toNat * 5 + a4.toNat * b1.toNat * 5, 0 + a0.toNat * b1.toNat + a1.toNat * b0.toNat + a2.toNat * b4.toNat * 5 + a3.toNat * b3.toNat * 5 + a4.toNat * b2.toNat * 5, 0 + a0.toNat * b2.toNat + a1.toNat * b1.toNat + a2.toNat * b0.toNat + a3.toNat * b4.toNat * 5 + a4.toNat * b3.toNat * 5, 0 + a0.toNat * b3.toNat + a1.toNat * b2.toNat + a2.toNat * b1.toNat + a3.toNat * b0.toNat + a4.toNat * b4.toNat * 5, 0 + a0.toNat * b4.toNat + a1.toNat * b3.toNat + a2.toNat * b2.toNat + a3.toNat * b1.toNat + a4.toNat * b0.toNat] := congr5 s04 s14 s24 s34 s44
  have hm5 := mrow_ok hl hm (mrow_ok hl hm (mrow_ok hl hm (mrow_ok hl hm (mrow_ok hl hm (MInv.start _ _) (by omega)) (by omega)) (by omega)) (by omega)) (by omega)
  have hd := hm5.done
  have em : us [0 + a0 * b0 + a1 * b4 * 5 + a2 * b3 * 5 + a3 * b2 * 5 + a4 * b1 * 5, 0 + a0 * b1 + a1 * b0 + a2 * b4 * 5 + a3 * b3 * 5 + a4 * b2 * 5, 0 + a0 * b2 + a1 * b1 + a2 * b0 + a3 * b4 * 5 + a4 * b3 * 5, 0 + a0 * b3 + a1 * b2 + a2 * b1 + a3 * b0 + a4 * b4 * 5, 0 + a0 * b4 + a1 * b3 + a2 * b2 + a3 * b1 + a4 * b0] = mrow (us [a0, a1, a2, a3, a4]) (us [b0, b1, b2, b3, b4]) (mrow (us [a0, a1, a2, a3, a4]) (us [b0, b1, b2, b3, b4]) (mrow (us [a0, a1, a2, a3, a4]) (us [b0, b1, b2, b3, b4]) (mrow (us [a0, a1, a2, a3, a4]) (us [b0, b1, b2, b3, b4]) (mrow (us [a0, a1, a2, a3, a4]) (us [b0, b1, b2, b3, b4]) [0, 0, 0, 0, 0] 0) 1) 2) 3) 4 := by
    rw [eo]
    simp [mrow, mst, mterm, us]
  rw [← em] at hd
  have h := cr2 hd.1
  exact ⟨_, mul_un M a0 a1 a2 a3 a4 b0 b1 b2 b3 b4, h.1.le, h.2.trans hd.2⟩
end
end Go.Proofs.YtajpblfinenmjaaDoor.Pl

/- Plain: the tag of Poly1305 (poly1305.Sum) as a number. -/
namespace Go.Proofs.YtajpblfinenmjaaDoor.Pl
open Go Poly
noncomputable section
theorem cq_us {l : List UInt64} (h : Le 1073741824 (us l)) : us (cq l) = rq 4 (us l) := by
  have h0 := h.2 0 (by omega); have h1 := h.2 1 (by omega); have h2 := h.2 2 (by omega); have h3 := h.2 3 (by omega); have h4 := h.2 4 (by omega)
  obtain ⟨a, b, c, d, e, rfl⟩ := list5u (by simpa [us] using h.1)
  simp only [us, List.map_cons, List.map_nil, List.getD_cons_zero, List.getD_cons_succ] at h0 h1 h2 h3 h4
  have e1 : (b + shr64 a 26).toNat = b.toNat + a.toNat / 67108864 := by rw [addN (by rw [shr26]; omega), shr26]
  have e2 : (c + shr64 (b + shr64 a 26) 26).toNat = c.toNat + (b.toNat + a.toNat / 67108864) / 67108864 := by rw [addN (by rw [shr26, e1]; omega), shr26, e1]
  have e3 : (d + shr64 (c + shr64 (b + shr64 a 26) 26) 26).toNat = d.toNat + (c.toNat + (b.toNat + a.toNat / 67108864) / 67108864) / 67108864 := by rw [addN (by rw [shr26, e2]; omega), shr26, e2]
  have e4 : (e + shr64 (d + shr64 (c + shr64 (b + shr64 a 26) 26) 26) 26).toNat = e.toNat + (d.toNat + (c.toNat + (b.toNat + a.toNat / 67108864) / 67108864) / 67108864) / 67108864 := by rw [addN (by rw [shr26, e3]; omega), shr26, e3]
  exact (congr5 (and26 _) (by rw [and26, e1]) (by rw [and26, e2]) (by rw [and26, e3]) e4).trans (rq_four _ _ _ _ _).symm
theorem reduced_ok (N : Nat) (hN : 4611686018427387904 ≤ N) {l : List UInt64} (h : Le 67108868 (us l)) : ∃ l', poly1305_limbs_reduced N l = some ((l', ()), ()) ∧ Le 67108863 (us l') ∧ v5 (us l') = v5 (us l) % pp := by
  obtain ⟨l1, e1, b1, v1, _⟩ := carry_ok N hN (h.mono (by decide))
  obtain ⟨l2, e2, b2, v2, u2⟩ := carry_ok N hN (bd_le b1)
  have hlow : Le 67108863 (us l2) := by rw [u2]; exact rnd2_low b1
  have hv : v5 (us l2) % pp = v5 (us l) % pp := v2.trans v1
  unfold poly1305_limbs_reduced
  simp only [e1, e2, Option.bind_some]
  have hl := hlow
  have h0 := hlow.2 0 (by omega); have h1 := hlow.2 1 (by omega); have h2 := hlow.2 2 (by omega); have h3 := hlow.2 3 (by omega); have h4 := hlow.2 4 (by omega)
  obtain ⟨a, b, c, d, e, rfl⟩ := list5u (by simpa [us] using hlow.1)
  simp only [us, List.map_cons, List.map_nil, List.getD_cons_zero, List.getD_cons_succ] at h0 h1 h2 h3 h4
  obtain ⟨M, rfl⟩ := Nat.exists_eq_add_of_le' (show 20 ≤ N by omega)
  have h5 : us [a + 5, b, c, d, e] = (us [a, b, c, d, e]).set 0 ((us [a, b, c, d, e]).getD 0 0 + 5) :=
    congr5 (addN (by show a.toNat + 5 < _; omega)) rfl rfl rfl rfl
  have h5l : Le 1073741824 (us [a + 5, b, c, d, e]) := by
    rw [h5]; show Le 1073741824 [a.toNat + 5, b.toNat, c.toNat, d.toNat, e.toNat]
    apply le5 <;> omega
  have hq := cq_us h5l
  rw [h5] at hq
  show ∃ l', poly1305_limbs_reduced_1 (M + 20) 0 [a, b, c, d, e] _ [a + 5, b, c, d, e] = _ ∧ _
  rw [red_un]
  obtain ⟨q0, q1, q2, q3, q4, hq5⟩ : ∃ q0 q1 q2 q3 q4, cq [a + 5, b, c, d, e] = [q0, q1, q2, q3, q4] := ⟨_, _, _, _, _, rfl⟩
  rw [hq5] at hq ⊢
  have hg : ((us [a, b, c, d, e]).set 0 ((us [a, b, c, d, e]).getD 0 0 + 5)) = ((us [a, b, c, d, e]).set 0 ((us [a, b, c, d, e]).getD 0 0 + 5)) := rfl
  have g4 : (rq 4 ((us [a, b, c, d, e]).set 0 ((us [a, b, c, d, e]).getD 0 0 + 5))).getD 4 0 = q4.toNat := by rw [← hq]; rfl
  have hz : shr64 q4 26 = 0 ↔ q4.toNat / 67108864 = 0 := by
    rw [← shr26]
    constructor
    · intro e; rw [e]; rfl
    · intro e; exact UInt64.toNat_inj.1 e
  simp only [List.getD_cons_zero, List.getD_cons_succ]
  by_cases hc : shr64 q4 26 = 0
  · rw [dpos hc]
    exact ⟨_, rfl, hl, by rw [← hv]; exact (red_no hl (by rw [g4]; exact hz.1 hc)).symm⟩
  · rw [dneg hc]
    have hy := red_yes hl (by rw [g4]; exact fun e => hc (hz.2 e))
    refine ⟨_, rfl, ?_⟩
    have e6 : us ([q0, q1, q2, q3, q4].set 4 (q4 &&& 67108863)) = (rq 4 ((us [a, b, c, d, e]).set 0 ((us [a, b, c, d, e]).getD 0 0 + 5))).set 4 ((rq 4 ((us [a, b, c, d, e]).set 0 ((us [a, b, c, d, e]).getD 0 0 + 5))).getD 4 0 % 67108864) := by
      rw [g4, ← hq]
      exact congr5 rfl rfl rfl rfl (and26 _)
    rw [e6]
    exact ⟨hy.1, by rw [← hv]; exact hy.2.symm⟩
theorem list16 {α : Type} {l : List α} (h : l.length = 16) : ∃ a b c d e f g i j k m n o p q r, l = [a, b, c, d, e, f, g, i, j, k, m, n, o, p, q, r] := by
  match l, h with
  | [a, b, c, d, e, f, g, i, j, k, m, n, o, p, q, r], _ => exact ⟨a, b, c, d, e, f, g, i, j, k, m, n, o, p, q, r, rfl⟩
/-- The first half of a key, some of its bits cleared. -/
def clm : List UInt8 → List UInt8
  | [a, b, c, d, e, f, g, i, j, k, m, n, o, p, q, r] => [a, b, c, d &&& 15, e &&& 252, f, g, i &&& 15, j &&& 252, k, m, n &&& 15, o &&& 252, p, q, r &&& 15]
  | l => l
theorem clamp_un (M : Nat) (a b c d e f g i j k m n o p q r : UInt8) : poly1305_clamp (M + 20) [a, b, c, d, e, f, g, i, j, k, m, n, o, p, q, r] = some ((), (clm [a, b, c, d, e, f, g, i, j, k, m, n, o, p, q, r], ())) := by kernel_rfl
theorem clm_len {l : List UInt8} (h : l.length = 16) : (clm l).length = 16 := by
  obtain ⟨a, b, c, d, e, f, g, i, j, k, m, n, o, p, q, r, rfl⟩ := list16 h; rfl
/-- The byte k that the program takes off the limbs. -/
def ob (l : List UInt64) (k : Nat) : UInt8 :=
  if 18 < 8 * k % 26 then (shr64 (l.getD (8 * k / 26) 0) (8 * k % 26) ||| shl64 (l.getD (8 * k / 26 + 1) 0) (26 - 8 * k % 26)).toUInt8 else (shr64 (l.getD (8 * k / 26) 0) (8 * k % 26)).toUInt8
theorem out_un (M : Nat) (a b c d e a' b' c' d' e' : UInt64) : poly1305_Sum_4 (M + 20) 0 [a, b, c, d, e] [a', b', c', d', e'] = some ((true, ()), ((List.range 16).map (ob (cq [a + a', b + b', c + c', d + d', e + e'])), ())) := by kernel_rfl
theorem ob_val {l : List UInt64} (hl : l.length = 5) (hlow : ∀ i, i < 4 → (us l).getD i 0 ≤ 67108863) (h4 : (us l).getD 4 0 ≤ 2147483648) {k : Nat} (hk : k < 16) : (ob l k).toNat = v5 (us l) / 256 ^ k % 256 := by
  rw [← outb_val (by simpa [us] using hl) hlow hk]
  have hg : ∀ j, (l.getD j 0).toNat = (us l).getD j 0 := fun j => by
    simp only [us, List.getD, List.getElem?_map]
    cases l[j]? <;> rfl
  have hs : ∀ (x : UInt64) (m : Nat), (shr64 x m).toNat = x.toNat / 2 ^ m := fun x m => by
    show (x.toBitVec >>> m).toNat = _
    rw [BitVec.toNat_ushiftRight, Nat.shiftRight_eq_div_pow]; rfl
  unfold ob outb
  split
  · rename_i h18
    have hj : 8 * k / 26 < 4 := by omega
    have hj' : 8 * k / 26 + 1 ≤ 4 := by omega
    have hx := hlow (8 * k / 26) hj
    have hy : (us l).getD (8 * k / 26 + 1) 0 ≤ 2147483648 := by
      rcases (by omega : 8 * k / 26 + 1 < 4 ∨ 8 * k / 26 + 1 = 4) with h | h
      · exact Nat.le_trans (hlow _ h) (by decide)
      · rw [h]; exact h4
    have h26 : 8 * k % 26 < 26 := Nat.mod_lt _ (by decide)
    generalize hm : 8 * k % 26 = m at *
    generalize 8 * k / 26 = j at *
    rw [UInt64.toNat_toUInt8, UInt64.toNat_or, hs, hg]
    have hsl : (shl64 (l.getD (j + 1) 0) (26 - m)).toNat = (us l).getD (j + 1) 0 <<< (26 - m) := by
      show ((l.getD (j + 1) 0).toBitVec <<< (26 - m)).toNat = _
      rw [BitVec.toNat_shiftLeft]
      have e : (l.getD (j + 1) 0).toBitVec.toNat = (us l).getD (j + 1) 0 := hg _
      rw [e, Nat.mod_eq_of_lt]
      rw [Nat.shiftLeft_eq]
      have : 2 ^ (26 - m) ≤ 2 ^ 8 := Nat.pow_le_pow_right (by decide) (by omega)
      have := Nat.mul_le_mul hy this
      omega
    have hlt : (us l).getD j 0 / 2 ^ m < 2 ^ (26 - m) := by
      rw [Nat.div_lt_iff_lt_mul (Nat.two_pow_pos m), ← Nat.pow_add, show 26 - m + m = 26 by omega]
      omega
    rw [hsl, Nat.or_comm, ← Nat.shiftLeft_add_eq_or_of_lt hlt, Nat.shiftLeft_eq, Nat.add_comm]
  · rw [UInt64.toNat_toUInt8, hs, hg, Nat.add_zero]
/-- The low 16 bytes of a number. -/
def tagB (v : Nat) : List UInt8 := (List.range 16).map fun k => UInt8.ofNat (v / 256 ^ k % 256)
theorem tagB_len (v : Nat) : (tagB v).length = 16 := by simp [tagB]
def kr (key : List UInt8) : Nat := le (ns (clm (key.take 16)))
def ks (key : List UInt8) : Nat := le (ns (key.drop 16))
/-- The tag. -/
def tag (key b : List UInt8) : List UInt8 := tagB (acc (kr key) 0 b + ks key)
theorem tag_len (key b : List UInt8) : (tag key b).length = 16 := tagB_len _
theorem sum_out (N : Nat) (hN : 4611686018427387904 ≤ N) {v s : List UInt64} (hv : Le 67108863 (us v)) (hs : Le 67108863 (us s)) : poly1305_Sum_4 N 0 v s = some ((true, ()), (tagB (v5 (us v) + v5 (us s)), ())) := by
  obtain ⟨M, rfl⟩ := Nat.exists_eq_add_of_le' (show 20 ≤ N by omega)
  have h0 := hv.2 0 (by omega); have h1 := hv.2 1 (by omega); have h2 := hv.2 2 (by omega); have h3 := hv.2 3 (by omega); have h4 := hv.2 4 (by omega)
  have k0 := hs.2 0 (by omega); have k1 := hs.2 1 (by omega); have k2 := hs.2 2 (by omega); have k3 := hs.2 3 (by omega); have k4 := hs.2 4 (by omega)
  obtain ⟨a, b, c, d, f, rfl⟩ := list5u (by simpa [us] using hv.1)
  obtain ⟨a', b', c', d', f', rfl⟩ := list5u (by simpa [us] using hs.1)
  simp only [us, List.map_cons, List.map_nil, List.getD_cons_zero, List.getD_cons_succ] at h0 h1 h2 h3 h4 k0 k1 k2 k3 k4
  have e : us [a + a', b + b', c + c', d + d', f + f'] = [a.toNat + a'.toNat, b.toNat + b'.toNat, c.toNat + c'.toNat, d.toNat + d'.toNat, f.toNat + f'.toNat] :=
    congr5 (addN (by omega)) (addN (by omega)) (addN (by omega)) (addN (by omega)) (addN (by omega))
  have hle : Le 1073741824 (us [a + a', b + b', c + c', d + d', f + f']) := by rw [e]; apply le5 <;> omega
  have hq := cq_us hle
  have hd := rq_done hle.1
  have hr4 := (rq_le hle (k := 4) (by omega)).2 4 (by omega)
  rw [← hq] at hd hr4
  rw [out_un]
  have hval : v5 (us (cq [a + a', b + b', c + c', d + d', f + f'])) = v5 (us [a, b, c, d, f]) + v5 (us [a', b', c', d', f']) := by
    rw [hd.1, e]
    simp only [us, List.map_cons, List.map_nil, v5, List.getD_cons_zero, List.getD_cons_succ]
    omega
  congr 3
  unfold tagB
  apply List.map_congr_left
  intro k hk
  rw [List.mem_range] at hk
  have := ob_val rfl hd.2 hr4 hk (l := cq [a + a', b + b', c + c', d + d', f + f'])
  rw [hval] at this
  rw [← this]
  exact (UInt8.ofNat_toNat).symm
theorem sum_ok (N : Nat) (hN : 4611686018427387904 ≤ N) {key b : List UInt8} (hk : key.length = 32) (hb : b.length ≤ 9223372036854775807) (hbN : b.length < N) : poly1305_Sum N key b = some ((true, ()), (tag key b, ())) := by
  unfold poly1305_Sum
  have hc : cut key 0 16 = key.take 16 := by simp [cut]
  have hc2 : cut key 16 key.length = key.drop 16 := by simp [cut]
  have ht : (key.take 16).length = 16 := by simp; omega
  have hcl : poly1305_clamp N (key.take 16) = some ((), (clm (key.take 16), ())) := by
    obtain ⟨a, b, c, d, e, f, g, i, j, k, m, n, o, p, q, r, e1⟩ := list16 ht
    obtain ⟨M, rfl⟩ := Nat.exists_eq_add_of_le' (show 20 ≤ N by omega)
    rw [e1]; exact clamp_un M a b c d e f g i j k m n o p q r
  have hcm := clm_len ht
  obtain ⟨r, er, rl, rv⟩ := number_ok N (b := clm (key.take 16)) (by omega) (by omega) hN
  obtain ⟨s, es, sl, sv⟩ := number_ok N (b := key.drop 16) (by simp; omega) (by simp; omega) hN
  simp (disch := omega) only [dpos, dneg, w64_of, inR_of, room_of, tmod_of, cond_true, cond_false, Bool.and_self, Bool.and_true, Bool.true_and, Bool.and_false, Bool.false_and, Bool.not_true, Bool.not_false, Option.bind_some, List.length_cons, List.length_nil, Nat.zero_add, hc, hcl, er]
  unfold poly1305_Sum_1
  have hz : acc (kr key) (v5 (us (List.replicate 5 0)) % pp) b = acc (kr key) 0 b := by
    have e : v5 (us (List.replicate 5 0)) = 0 := by decide
    rw [e, Nat.zero_mod]
  have := loopK_of (N := N) (step := fun y => poly1305_Sum_s2 N y.1.1 y.1.2.1 y.2.1 y.2.2.1) (J := fun (e : (((List UInt8) × Unit) × ((List UInt64) × Unit))) => poly1305_Sum_3 N e.1.1 e.2.1)
    (I := fun y => y.1.1 = key ∧ y.2.1 = r ∧ Le 67108868 (us y.2.2.1) ∧ y.1.2.1.length ≤ 9223372036854775807 ∧ acc (kr key) (v5 (us y.2.2.1) % pp) y.1.2.1 = acc (kr key) 0 b) (μ := fun y => y.1.2.1.length)
    (T := fun x => x = ((true, ()), (tag key b, ()))) ?_
    (x := ((key, b, ()), (r, List.replicate 5 0, ()))) ⟨rfl, rfl, ⟨rfl, fun i hi => by
      rcases (by omega : i = 0 ∨ i = 1 ∨ i = 2 ∨ i = 3 ∨ i = 4) with rfl | rfl | rfl | rfl | rfl <;> exact Nat.zero_le _⟩, hb, hz⟩ (by simp only; omega)
  · obtain ⟨x, h1, rfl⟩ := this
    exact h1
  · rintro ⟨⟨key', l, _⟩, ⟨r', v, _⟩⟩ ⟨h1, h2, h3, h4, h5⟩
    simp only at h1 h2 h3 h4 h5
    subst h1; subst h2
    show ∃ o, poly1305_Sum_s2 N key' l r' v = some o ∧ _
    unfold poly1305_Sum_s2
    by_cases hl : l = []
    · subst hl
      simp (disch := omega) only [dpos, dneg, w64_of, inR_of, room_of, tmod_of, cond_true, cond_false, Bool.and_self, Bool.and_true, Bool.true_and, Bool.and_false, Bool.false_and, Bool.not_true, Bool.not_false, Option.bind_some, List.length_cons, List.length_nil, Nat.zero_add]
      refine ⟨_, rfl, _, ?_, rfl⟩
      show poly1305_Sum_3 N key' v = _
      unfold poly1305_Sum_3
      obtain ⟨w, e1, w1, w2⟩ := reduced_ok N hN h3
      simp (disch := omega) only [dpos, dneg, w64_of, inR_of, room_of, tmod_of, cond_true, cond_false, Bool.and_self, Bool.and_true, Bool.true_and, Bool.and_false, Bool.false_and, Bool.not_true, Bool.not_false, Option.bind_some, List.length_cons, List.length_nil, Nat.zero_add, e1, hc2, es]
      rw [sum_out N hN w1 sl, w2, sv, acc_nil] at *
      rw [h5]
      rfl
    · have hp : 0 < l.length := List.length_pos_iff.2 hl
      have hx : (bif decide ((l.length : Int) < 16) then (l.length : Int) else 16) = ((min 16 l.length : Nat) : Int) := by
        by_cases h : (l.length : Int) < 16
        · rw [dpos h, cond_true]; omega
        · rw [dneg h, cond_false]; omega
      have hcut : cut l 0 (min 16 l.length) = l.take 16 := by
        unfold cut
        rw [List.drop_zero]
        by_cases h : l.length ≤ 16
        · rw [Nat.min_eq_right h, List.take_of_length_le h, List.take_of_length_le (Nat.le_refl _)]
        · rw [Nat.min_eq_left (by omega)]
      have hcut2 : cut l (min 16 l.length) l.length = l.drop 16 := by
        unfold cut
        rw [List.take_of_length_le (Nat.le_refl _)]
        by_cases h : l.length ≤ 16
        · rw [Nat.min_eq_right h, List.drop_of_length_le h, List.drop_of_length_le (Nat.le_refl _)]
        · rw [Nat.min_eq_left (by omega)]
      have htl : (l.take 16).length ≤ 16 := by simp; omega
      have hnl : (l.take 16 ++ [1]).length ≤ 17 := by simp; omega
      obtain ⟨p, ep, p1, p2⟩ := number_ok N (b := l.take 16 ++ [1]) hnl (fun h => by
        have : (l.take 16).length = 16 := by simp at h; simp; omega
        rw [List.getD, List.getElem?_append_right (by omega), this]
        decide) hN
      obtain ⟨v1, e1, a1, a2⟩ := add_ok N hN h3 p1
      obtain ⟨v2, e2, b1, b2⟩ := mul_ok N hN a1 (rl.mono (by decide))
      simp (disch := omega) only [dpos, dneg, w64_of, inR_of, room_of, tmod_of, cond_true, cond_false, Bool.and_self, Bool.and_true, Bool.true_and, Bool.and_false, Bool.false_and, Bool.not_true, Bool.not_false, Option.bind_some, List.length_cons, List.length_nil, Nat.zero_add, hx, Int.toNat_natCast, hcut, hcut2, ep, e1, e2]
      refine ⟨_, rfl, ⟨rfl, rfl, b1, by simp; omega, ?_⟩, by simp; omega⟩
      simp only
      rw [← h5, acc_step _ _ hl]
      congr 1
      have hn : ns (l.take 16 ++ [1]) = (l.take 16).map UInt8.toNat ++ [1] := by simp [ns]
      rw [b2, Nat.mul_mod, a2, p2, rv, hn, ← Nat.mul_mod, Nat.mul_mod (v5 (us v) % pp + _), Nat.mod_add_mod, ← Nat.mul_mod]
      rfl
end
end Go.Proofs.YtajpblfinenmjaaDoor.Pl

/- Plain: the reference's Poly1305: digits, their carry and their product. -/
namespace Go.Proofs.YtajpblfinenmjaaDoor.Pl
open Go Poly
noncomputable section
/-- A round of carry, a digit being carried in. -/
def rcg (u : UInt32) : List UInt32 → List UInt32 × UInt32
  | [] => ([], u)
  | [x] => ([(u + x) &&& 3], 5 * shr32 (u + x) 2)
  | x :: y :: l => (((u + x) &&& 255) :: (rcg (shr32 (u + x) 8) (y :: l)).1, (rcg (shr32 (u + x) 8) (y :: l)).2)
def rc (l : List UInt32) : List UInt32 := match rcg 0 l with
  | (x :: t, u) => (x + u) :: t
  | ([], _) => []
/-- A term of the product. -/
def tm (a b : List UInt32) (i j : Nat) : UInt32 := if j ≤ i then a.getD j 0 * b.getD ((i : Int) - (j : Int)).toNat 0 else 320 * a.getD j 0 * b.getD ((17 : Int) + (i : Int) - (j : Int)).toNat 0
def uu (a b : List UInt32) (i : Nat) : Nat → UInt32
  | 0 => 0
  | j + 1 => uu a b i j + tm a b i j
def ol (a b : List UInt32) : Nat → List UInt32
  | 0 => List.replicate 17 0
  | i + 1 => (ol a b i).set i (uu a b i 17)
end
end Go.Proofs.YtajpblfinenmjaaDoor.Pl

/- Plain: what is carried when two numbers are added byte for byte. -/
namespace Go.Proofs.YtajpblfinenmjaaDoor.Pl
open Go Poly
/-- What is carried into a byte. -/
def cc (A S : Nat) : Nat → Nat
  | 0 => 0
  | i + 1 => (A % 256 ^ (i + 1) + S % 256 ^ (i + 1)) / 256 ^ (i + 1)
end Go.Proofs.YtajpblfinenmjaaDoor.Pl

/- Plain: sealing and opening, the program's and the reference's. -/
namespace Go.Proofs.YtajpblfinenmjaaDoor.Pl
open Go Poly
noncomputable section
def keyed (k n : List UInt8) : Bool := decide (k.length = 32) && decide (n.length = 12)
theorem keyed_ok (N : Nat) (k n : List UInt8) : aead_keyed N k n = some ((keyed k n, ()), ()) := by
  unfold aead_keyed keyed
  by_cases h1 : k.length = 32
  · by_cases h2 : n.length = 12 <;> simp (disch := omega) only [dpos, dneg, w64_of, inR_of, room_of, tmod_of, cond_true, cond_false, Bool.and_self, Bool.and_true, Bool.true_and, Bool.and_false, Bool.false_and, Bool.not_true, Bool.not_false, Option.bind_some, List.length_cons, List.length_nil, Nat.zero_add]
  · simp (disch := omega) only [dpos, dneg, w64_of, inR_of, room_of, tmod_of, cond_true, cond_false, Bool.and_self, Bool.and_true, Bool.true_and, Bool.and_false, Bool.false_and, Bool.not_true, Bool.not_false, Option.bind_some, List.length_cons, List.length_nil, Nat.zero_add]
theorem keyed_iff {k n : List UInt8} : keyed k n = true ↔ k.length = 32 ∧ n.length = 12 := by simp [keyed]
/-- Zeros up to a multiple of 16. -/
def zs (n : Nat) : List UInt8 := List.replicate ((16 - n % 16) % 16) 0
theorem zs_len (n : Nat) : (zs n).length < 16 := by simp [zs]; omega
theorem padded_ok (N : Nat) {b l : List UInt8} (h : l.length + b.length ≤ 35184372088832) : aead_padded N b l = some ((), (l ++ b ++ zs b.length, ())) := by
  unfold aead_padded
  have e : ((16 - (b.length : Int) % 16) % 16).toNat = (16 - b.length % 16) % 16 := by omega
  simp (disch := omega) only [dpos, dneg, w64_of, inR_of, room_of, tmod_of, cond_true, cond_false, Bool.and_self, Bool.and_true, Bool.true_and, Bool.and_false, Bool.false_and, Bool.not_true, Bool.not_false, Option.bind_some, List.length_cons, List.length_nil, Nat.zero_add, e, List.length_replicate, List.length_append]
  rfl
/-- Eight bytes, the lowest one first. -/
def le8 (v : UInt64) : List UInt8 := (List.range 8).map fun (i : Nat) => (shr64 v (8 * (i : Int)).toNat).toUInt8
theorem le8_len (v : UInt64) : (le8 v).length = 8 := by simp [le8]
theorem le8_get (v : UInt64) {i : Nat} (h : i < 8) : (le8 v).getD i 0 = (shr64 v (8 * (i : Int)).toNat).toUInt8 := by simp [le8, List.getD, h]
theorem length_ok (N : Nat) (hN : 4611686018427387904 ≤ N) (n : Int) {l : List UInt8} (h : l.length ≤ 70368744177664) : aead_length N n l = some ((), (l ++ le8 (iu64 n), ())) := by
  unfold aead_length aead_length_1
  have hl := le8_len (iu64 n)
  have h8N : 8 < N := by omega
  have h0 : l ++ (le8 (iu64 n)).take 0 = l := by simp
  have := loopK_run (step := fun y => aead_length_s2 N y.1.1 y.1.2.1 y.2.1) (J := fun (e : ((Unit) × ((List UInt8) × Unit))) => aead_length_3 N e.2.1) (fun i : Nat => ((n, (i : Int), ()), (l ++ (le8 (iu64 n)).take i, ()))) (n := 8) ?_ (e := ((), (l ++ le8 (iu64 n), ()))) ?_ h8N
  · rw [h0] at this
    exact this
  · intro i hi
    have hti : ((le8 (iu64 n)).take i).length = i := by simp; omega
    show aead_length_s2 N n _ _ = _
    unfold aead_length_s2
    simp (disch := omega) only [dpos, dneg, w64_of, inR_of, room_of, tmod_of, cond_true, cond_false, Bool.and_self, Bool.and_true, Bool.true_and, Bool.and_false, Bool.false_and, Bool.not_true, Bool.not_false, Option.bind_some, List.length_cons, List.length_nil, Nat.zero_add, List.length_append, hti, Int.natCast_add, Int.natCast_one]
    rw [take_snoc _ 0 (by omega), le8_get _ hi, List.append_assoc]
  · show aead_length_s2 N n _ _ = _
    unfold aead_length_s2
    simp (disch := omega) only [dpos, dneg, w64_of, inR_of, room_of, tmod_of, cond_true, cond_false, Bool.and_self, Bool.and_true, Bool.true_and, Bool.and_false, Bool.false_and, Bool.not_true, Bool.not_false, Option.bind_some, List.length_cons, List.length_nil, Nat.zero_add]
    rw [List.take_of_length_le (by omega)]
/-- What the tag is taken of. -/
def tin (d c : List UInt8) : List UInt8 := d ++ zs d.length ++ c ++ zs c.length ++ le8 (iu64 (d.length : Int)) ++ le8 (iu64 (c.length : Int))
def atag (k n d c : List UInt8) : List UInt8 := tag ((cblk k 0 n).take 32) (tin d c)
theorem atag_len (k n d c : List UInt8) : (atag k n d c).length = 16 := tag_len _ _
theorem tin_len {d c : List UInt8} (hd : d.length ≤ 4398046511104) (hc : c.length ≤ 4398046511104) : (tin d c).length ≤ 8796093022308 := by
  have := zs_len d.length; have := zs_len c.length
  unfold tin
  simp only [List.length_append, le8_len]
  omega
section
variable (N : Nat) (hN : 4611686018427387904 ≤ N) {k n d c : List UInt8} (hd : d.length ≤ 4398046511104) (hc : c.length ≤ 4398046511104)
include hN hd hc
theorem tag_ok (hk : k.length = 32) (hn : n.length = 12) : aead_Tag N k n d c = some ((true, ()), (atag k n d c, ())) := by
  unfold aead_Tag atag
  have hkd : keyed k n = true := keyed_iff.2 ⟨hk, hn⟩
  have hcl := cblk_len k 0 n
  have hcut : cut (cblk k 0 n) 0 32 = (cblk k 0 n).take 32 := by simp [cut]
  have hz1 := zs_len d.length; have hz2 := zs_len c.length
  have hp1 : aead_padded N d [] = some ((), (d ++ zs d.length, ())) := padded_ok N (l := []) (by simp; omega)
  have hp2 : aead_padded N c (d ++ zs d.length) = some ((), (d ++ zs d.length ++ c ++ zs c.length, ())) := padded_ok N (by simp; omega)
  have h8 := le8_len (iu64 (d.length : Int))
  have hl1 : aead_length N (d.length : Int) (d ++ zs d.length ++ c ++ zs c.length) = some ((), (d ++ zs d.length ++ c ++ zs c.length ++ le8 (iu64 (d.length : Int)), ())) := length_ok N hN _ (by simp; omega)
  have hl2 : aead_length N (c.length : Int) (d ++ zs d.length ++ c ++ zs c.length ++ le8 (iu64 (d.length : Int))) = some ((), (tin d c, ())) := length_ok N hN _ (by simp; omega)
  have ht : ((cblk k 0 n).take 32).length = 32 := by simp; omega
  have htin := tin_len hd hc
  have hs : poly1305_Sum N ((cblk k 0 n).take 32) (tin d c) = some ((true, ()), (tag ((cblk k 0 n).take 32) (tin d c), ())) := sum_ok N hN ht (by omega) (by omega)
  simp (disch := omega) only [dpos, dneg, w64_of, inR_of, room_of, tmod_of, cond_true, cond_false, Bool.and_self, Bool.and_true, Bool.true_and, Bool.and_false, Bool.false_and, Bool.not_true, Bool.not_false, Option.bind_some, List.length_cons, List.length_nil, Nat.zero_add, keyed_ok, hkd, cblock_ok, hp1, hp2, hl1, hl2, hcut, hs]
/-- The sealed bytes. -/
theorem seal_ok (hk : k.length = 32) (hn : n.length = 12) : aead_Seal N k n d c = some ((0, ()), (cx k 1 n c ++ atag k n d (cx k 1 n c), ())) := by
  unfold aead_Seal
  have hkd : keyed k n = true := keyed_iff.2 ⟨hk, hn⟩
  have hxl := cx_len k 1 n c
  have htl := atag_len k n d (cx k 1 n c)
  simp (disch := omega) only [dpos, dneg, w64_of, inR_of, room_of, tmod_of, cond_true, cond_false, Bool.and_self, Bool.and_true, Bool.true_and, Bool.and_false, Bool.false_and, Bool.not_true, Bool.not_false, Option.bind_some, List.length_cons, List.length_nil, Nat.zero_add, keyed_ok, hkd, xor_ok, tag_ok]
end
section
variable (N : Nat) (hN : 4611686018427387904 ≤ N) {k n d s : List UInt8} (hd : d.length ≤ 4398046511104) (hs : s.length ≤ 4398046511104)
include hN hd hs
end
end
end Go.Proofs.YtajpblfinenmjaaDoor.Pl

/- Plain: how long the bytes of a drawn term are. -/
namespace Go.Proofs.YtajpblfinenmjaaDoor.Pl
open Go
def wlo (o : Int) (c : List Nat) : Nat := if o = 1 then 9 else if o = 2 then 25 else if o = 3 then 3 + (c.map (2 + ·)).sum else if o = 4 then 17 else if o = 7 then 37 + c.getD 1 0 else if o = 8 then 43 + c.getD 0 0 else 33
mutual
/-- How many bytes stand for a term. -/
def wl : Tree → Nat
  | .mk o _ l => wlo o (wll l)
def wll : List Tree → List Nat
  | [] => []
  | t :: l => wl t :: wll l
end
theorem wll_map (l : List Tree) : wll l = l.map wl := by
  induction l with
  | nil => rfl
  | cons t l ih => simp only [wll, List.map_cons, ih]
def LB : Nat → Nat
  | 0 => 11
  | e + 1 => 3 + 4 * (2 + LB e)
theorem LB_ge (e : Nat) : 11 ≤ LB e := by
  cases e with
  | zero => decide
  | succ e => simp only [LB]; omega
theorem sum_le {l : List Nat} {k : Nat} (h : ∀ x ∈ l, x ≤ k) : l.sum ≤ l.length * k := by
  induction l with
  | nil => simp
  | cons x l ih =>
    have h1 := h x (by simp)
    have h2 := ih fun y hy => h y (by simp [hy])
    simp only [List.sum_cons, List.length_cons, Nat.succ_mul]
    omega
theorem wl_le : ∀ {e : Nat} {t : Tree}, Gd e t → wl t ≤ LB e
  | 0, _, h => h.elim
  | e + 1, .mk o v l, h => by
    obtain ⟨h1, h2, h3⟩ := h
    have h2' : l.length ≤ 4 := h2
    have h3' : ∀ a ∈ l, wl a ≤ LB e := fun a ha => wl_le (h3 a ha)
    have hb := LB_ge e
    show wlo o (wll l) ≤ 3 + 4 * (2 + LB e)
    rw [wll_map]
    obtain ⟨_, _, h⟩ := h1
    rcases h with ⟨rfl, rfl⟩ | ⟨rfl, rfl⟩ | ⟨rfl, rfl⟩ | ⟨rfl, rfl⟩ | rfl | ⟨rfl, rfl, i, hi, rfl⟩ | ⟨rfl, a, rfl⟩ | ⟨rfl, rfl, i, j, hij, hj, rfl⟩ | ⟨rfl, rfl, a, b, rfl⟩
    · show 9 ≤ _; omega
    · show 25 ≤ _; omega
    · show 33 ≤ _; omega
    · show 3 + ((l.map wl).map (2 + ·)).sum ≤ _
      have := sum_le (l := (l.map wl).map (2 + ·)) (k := 2 + LB e) (by
        intro x hx
        simp only [List.map_map, List.mem_map, Function.comp] at hx
        obtain ⟨a, ha, rfl⟩ := hx
        have := h3' a ha
        omega)
      simp only [List.length_map] at this
      have := Nat.mul_le_mul_right (2 + LB e) h2'
      omega
    · show 33 ≤ _; omega
    · show 17 ≤ _; omega
    · show 43 + wl a ≤ _
      have := h3' a (by simp)
      omega
    · show 33 ≤ _; omega
    · show 37 + wl b ≤ _
      have := h3' b (by simp)
      omega
section
variable (N : Nat) (hN : 4611686018427387904 ≤ N) (hsh : ∀ i j, i ≤ j → j < 15 → term_sound N (shD i j) = some ((true, ()), ()))
include hN
theorem f1_ok (x : TT.den) {b : List UInt8} (hb : b.length ≤ 10000) : ∃ out, concrete_writers_f1 N x b = some ((), (out, ())) ∧ out.length = b.length + 8 := by
  refine ⟨b ++ be (iu64 x.2.1) (8 : Int).toNat, ?_, by rw [List.length_append, be_len]; rfl⟩
  unfold concrete_writers_f1
  rw [wire_put N (by omega) (by omega) (by omega) (by omega)]
  rfl
include hsh
theorem f2_ok {e : Nat} (he : e ≤ 5) {t : Tree} (h : Gd e t) {b : List UInt8} (hb : b.length ≤ 10000) : ∃ out, concrete_writers_f2 N t.un b = some ((), (out, ())) ∧ out.length = b.length + 32 := by
  obtain ⟨k, h1, h2⟩ := must_ok N hN hsh he h
  refine ⟨b ++ k, ?_, by rw [List.length_append, h2]⟩
  unfold concrete_writers_f2
  have er : room (b.length + k.length) 1 = true := room_of (by omega)
  simp only [h1, Option.bind_some, er, cond_true]
theorem nameW_ok {e : Nat} (he : e ≤ 5) {t : Tree} (h : Gd e t) {b : List UInt8} (hb : b.length ≤ 10000) : ∃ out, nameW N t.un b = some ((), (out, ())) ∧ out.length = b.length + 24 := by
  obtain ⟨k, h1, h2⟩ := must_ok N hN hsh he h
  obtain ⟨o1, h3, h4⟩ := f1_ok N hN t.un hb
  refine ⟨o1 ++ k.take 16, ?_, by rw [List.length_append, List.length_take]; omega⟩
  unfold nameW
  simp only [h1, h3, Option.bind_some, Nat.ble_eq_true_of_le (show 16 ≤ k.length by omega), Nat.ble_eq_true_of_le (show o1.length ≤ 100000 by omega), cond_true]
theorem public_w {i : Nat} (hi : i < 15) {b : List UInt8} (hb : b.length ≤ 10000) : ∃ out, concrete_writePublic N (4, 0, [mkT (nmD i)], ()) b = some ((), (out, ())) ∧ out.length = b.length + 16 := by
  have hg : Gd 1 (mkT (nmD i)) := ⟨⟨by show (0 : Int) ≤ ((_ : Nat) : Int); omega, by show ((_ : Nat) : Int) ≤ 10000000; omega, .inr (.inl ⟨rfl, rfl⟩)⟩, by simp [args, mkT, nmD], fun a ha => by simp [args, mkT, nmD] at ha⟩
  obtain ⟨x, hx⟩ := public_ok N hN hsh (by omega) hg
  have hx' : concrete_public N (nmD i) = some ((x, ()), ()) := hx
  obtain ⟨v, hv⟩ : ∃ v, v = (nmD i).2.1 := ⟨_, rfl⟩
  have p1 := wire_put N (v := iu64 v) (w := 8) (b := b) (by omega) (by omega) (by omega) (by omega)
  have p2 := wire_put N (v := x) (w := 8) (b := b ++ be (iu64 v) (8 : Int).toNat) (by omega) (by omega) (by rw [List.length_append, be_len]; have : (8 : Int).toNat = 8 := rfl; omega) (by omega)
  refine ⟨b ++ be (iu64 v) (8 : Int).toNat ++ be x (8 : Int).toNat, ?_, by simp only [List.length_append, be_len]; have : (8 : Int).toNat = 8 := rfl; omega⟩
  have e1 : (List.map Tree.un [mkT (nmD i)]) = [nmD i] := rfl
  have e2 : inR (0 : Int) [nmD i].length = true := rfl
  have e3 : ∀ z : TT.den, [nmD i].getD 0 z = nmD i := fun z => rfl
  have e4 : decide ((nmD i).1 = (2 : Int)) = true := rfl
  unfold concrete_writePublic
  simp only [e1, e2, e3, e4, cond_true, ← hv]
  unfold concrete_writePublic_1
  simp only [e1, e2, e3, cond_true, p1, p2, hx', Option.bind_some]
theorem seal_w {e : Nat} (he : e ≤ 5) {a c : Tree} (ha : Gd e a) {rc : TT.den → Option WrR} {body : List UInt8} (hrc : rc c.un = some ((), (body, ()))) (hbl : body.length ≤ 8192) {b : List UInt8} (hb : b.length ≤ 10000) :
    ∃ out, concrete_writeSeal N rc (7, 0, [a, c], ()) b = some ((), (out, ())) ∧ out.length = b.length + 36 + body.length := by
  obtain ⟨k, h1, h2⟩ := must_ok N hN hsh he ha
  obtain ⟨ti, h3, h4⟩ := title_ok N hN (k := k) (by omega)
  have hh := prf_hmac N (k := k) (b := body) (by omega) (by omega) hN
  have hhl := hmac_len k body
  have hon : (cut (hmac k body) 0 12).length = 12 := by simp only [cut, List.drop_zero, List.length_take]; omega
  have hs := seal_ok N hN (k := k) (n := cut (hmac k body) 0 12) (d := []) (c := body) (by simp) (by omega) h2 hon
  generalize hse : cx k 1 (cut (hmac k body) 0 12) body ++ atag k (cut (hmac k body) 0 12) [] (cx k 1 (cut (hmac k body) 0 12) body) = sealed at hs
  have hsl : sealed.length = body.length + 16 := by rw [← hse, List.length_append, cx_len, atag_len]
  clear hse
  have e1 : (List.map Tree.un [a, c]) = [a.un, c.un] := rfl
  have e2 : inR (0 : Int) [a.un, c.un].length = true := rfl
  have e2' : inR (1 : Int) [a.un, c.un].length = true := rfl
  have e3 : ∀ z : TT.den, [a.un, c.un].getD 0 z = a.un := fun z => rfl
  have e3' : ∀ z : TT.den, [a.un, c.un].getD 1 z = c.un := fun z => rfl
  have c0 : decide (0 ≤ (0 : Int)) = true := by decide
  have c1 : decide ((0 : Int) ≤ (12 : Int)) = true := by decide
  have c2 : decide ((12 : Int) ≤ ((hmac k body).length : Int)) = true := decide_eq_true (by omega)
  have r1 : room (b.length + ti.length) 1 = true := room_of (by omega)
  have r2 : room ((b ++ ti).length + (cut (hmac k body) 0 12).length) 1 = true := room_of (by rw [List.length_append]; omega)
  have r3 : room (((b ++ ti) ++ cut (hmac k body) 0 12).length + sealed.length) 1 = true := room_of (by rw [List.length_append, List.length_append]; omega)
  refine ⟨((b ++ ti) ++ cut (hmac k body) 0 12) ++ sealed, ?_, by simp only [List.length_append]; omega⟩
  unfold concrete_writeSeal
  simp only [e1, e2, e2', e3, e3', cond_true, h1, Option.bind_some, hrc, hh, c0, c1, c2, Bool.and_self, hs, decide_true, Bool.not_true, cond_false]
  unfold concrete_writeSeal_1
  simp only [h3, Option.bind_some, r1, r2, r3, cond_true]
theorem sign_w {v : Int} (h0 : 0 ≤ v) (h1 : v ≤ 10000000) {a : Tree} {rc : TT.den → Option WrR} {body : List UInt8} (hrc : rc a.un = some ((), (body, ()))) (hbl : body.length ≤ 8192) {b : List UInt8} (hb : b.length ≤ 10000) :
    ∃ out, concrete_writeSign N rc (8, v, [a], ()) b = some ((), (out, ())) ∧ out.length = b.length + 42 + body.length := by
  obtain ⟨k, h3, h4⟩ := signed_ok N hN hsh h0 h1 (b := body) (by omega)
  have w8 : (8 : Int).toNat = 8 := rfl
  have w2 : (2 : Int).toNat = 2 := rfl
  have p1 := wire_put N (v := iu64 v) (w := 8) (b := b) (by omega) (by omega) (by omega) (by omega)
  have p2 := wire_put N (v := iu64 (body.length : Int)) (w := 2) (b := b ++ be (iu64 v) (8 : Int).toNat) (by omega) (by omega) (by rw [List.length_append, be_len]; omega) (by omega)
  have l2 : (b ++ be (iu64 v) (8 : Int).toNat ++ be (iu64 (body.length : Int)) (2 : Int).toNat).length = b.length + 10 := by simp only [List.length_append, be_len]; omega
  generalize b ++ be (iu64 v) (8 : Int).toNat ++ be (iu64 (body.length : Int)) (2 : Int).toNat = b2 at p2 l2
  have r1 : room (b2.length + body.length) 1 = true := room_of (by omega)
  have r2 : room ((b2 ++ body).length + k.length) 1 = true := room_of (by rw [List.length_append]; omega)
  have e1 : (List.map Tree.un [a]) = [a.un] := rfl
  have e2 : inR (0 : Int) [a.un].length = true := rfl
  have e3 : ∀ z : TT.den, [a.un].getD 0 z = a.un := fun z => rfl
  refine ⟨b2 ++ body ++ k, ?_, by simp only [List.length_append]; omega⟩
  unfold concrete_writeSign
  simp only [e1, e2, e3, cond_true, hrc, Option.bind_some, h3, decide_true, Bool.not_true, cond_false]
  unfold concrete_writeSign_1
  simp only [p1, p2, r1, r2, Option.bind_some, cond_true]
omit hsh in
theorem list_w {l : List Tree} (h4 : l.length ≤ 4) {v : Int} {rc : TT.den → Option WrR} (hrc : ∀ a ∈ l, ∃ out, rc a.un = some ((), (out, ())) ∧ out.length = wl a) (hl : 3 + (l.map fun a => 2 + wl a).sum ≤ 8192) :
    ∃ out, concrete_writeList N rc (3, v, l, ()) [(3 : UInt8)] = some ((), (out, ())) ∧ out.length = 3 + (l.map fun a => 2 + wl a).sum := by
  have w2 : (2 : Int).toNat = 2 := rfl
  have hlen : (List.map Tree.un l).length = l.length := List.length_map ..
  have p1 := wire_put N (v := iu64 ((List.map Tree.un l).length : Int)) (w := 2) (b := [(3 : UInt8)]) (by omega) (by omega) (by simp) (by omega)
  have l1 : ([(3 : UInt8)] ++ be (iu64 ((List.map Tree.un l).length : Int)) (2 : Int).toNat).length = 3 := by simp only [List.length_append, be_len, List.length_cons, List.length_nil]; omega
  generalize [(3 : UInt8)] ++ be (iu64 ((List.map Tree.un l).length : Int)) (2 : Int).toNat = b0 at p1 l1
  unfold concrete_writeList
  simp only [p1, Option.bind_some]
  unfold concrete_writeList_1
  have hll := loopK_of (N := N) (step := fun y => concrete_writeList_s2 N rc y.1.1 y.1.2.1 y.1.2.2.1 y.2.1) (J := fun (e : ((Unit) × ((List UInt8) × Unit))) => concrete_writeList_3 N rc e.2.1)
    (I := fun y => y.1.1 = List.map Tree.un l ∧ y.1.2.1 = (l.length : Int) ∧ 0 ≤ y.1.2.2.1 ∧ y.1.2.2.1 ≤ (l.length : Int) ∧ y.2.1.length = 3 + ((l.take y.1.2.2.1.toNat).map fun a => 2 + wl a).sum) (μ := fun y => ((l.length : Int) - y.1.2.2.1).toNat)
    (T := fun r => ∃ out, r = ((), (out, ())) ∧ out.length = 3 + (l.map fun a => 2 + wl a).sum) ?_
    (x := ((List.map Tree.un l, ((List.map Tree.un l).length : Int), 0, ()), (b0, ()))) ⟨rfl, by simp only [hlen], Int.le_refl _, by simp only; omega, by simpa using l1⟩ (by simp only; omega)
  · obtain ⟨r, q1, out, rfl, ho⟩ := hll
    exact ⟨out, q1, ho⟩
  · rintro ⟨⟨xs, m, i, ⟨⟩⟩, b', ⟨⟩⟩ ⟨g1, g2, g3, g4, g5⟩
    simp only at g1 g2 g3 g4 g5
    subst g1
    subst g2
    simp only [concrete_writeList_s2]
    by_cases hlt : i < (l.length : Int)
    · obtain ⟨a, ha, hai, hg⟩ := getD_un l g3 hlt ((0 : Int), (0 : Int), ([] : List Tree), ())
      have e1 : decide (i < (l.length : Int)) = true := decide_eq_true hlt
      have e2 : inR i (List.map Tree.un l).length = true := inR_of g3 (by rw [hlen]; exact hlt)
      obtain ⟨out, r1, r2⟩ := hrc a ha
      have hs : l.take (i.toNat + 1) = l.take i.toNat ++ [a] := by rw [List.take_add_one, hai]; rfl
      have hs2 : ((l.take (i.toNat + 1)).map fun a => 2 + wl a).sum = ((l.take i.toNat).map fun a => 2 + wl a).sum + (2 + wl a) := by rw [hs]; simp
      have hs3 : ((l.take (i.toNat + 1)).map fun a => 2 + wl a).sum ≤ (l.map fun a => 2 + wl a).sum := by
        conv => rhs; rw [← List.take_append_drop (i.toNat + 1) l]
        rw [List.map_append, List.sum_append]
        omega
      have p2 := wire_put N (v := iu64 (out.length : Int)) (w := 2) (b := b') (by omega) (by omega) (by omega) (by omega)
      have l2 : (b' ++ be (iu64 (out.length : Int)) (2 : Int).toNat).length = b'.length + 2 := by rw [List.length_append, be_len, w2]
      generalize b' ++ be (iu64 (out.length : Int)) (2 : Int).toNat = b2 at p2 l2
      have er : room (b2.length + out.length) 1 = true := room_of (by omega)
      have e4 : w64 (i + 1) = i + 1 := w64_of (by omega) (by omega)
      rw [e1, e2, hg, r1]
      simp only [cond_true, Option.bind_some, p2, er, e4]
      refine ⟨_, rfl, ⟨rfl, rfl, by simp only; omega, by simp only; omega, ?_⟩, by simp only; omega⟩
      have e5 : (i + 1).toNat = i.toNat + 1 := by omega
      simp only [e5, List.length_append]
      rw [hs2]
      omega
    · have e1 : decide (i < (l.length : Int)) = false := decide_eq_false hlt
      rw [e1]
      refine ⟨_, rfl, _, rfl, _, rfl, ?_⟩
      have : i.toNat = l.length := by omega
      rw [this, List.take_length] at g5
      exact g5
end
end Go.Proofs.YtajpblfinenmjaaDoor.Pl

/- Plain: drawn terms. -/
namespace Go.Proofs.YtajpblfinenmjaaDoor.Pl
open Go
/-- A maker whose place lies in its list. -/
def COk (c : List UInt8 × (Int × Unit)) : Prop := 0 ≤ c.2.1 ∧ c.2.1 ≤ (c.1.length : Int) ∧ c.1.length ≤ 1000000000000000
theorem dnext_ok (N : Nat) {c : List UInt8 × (Int × Unit)} {n : Int} (h : COk c) (hn : 0 < n) (hn2 : n ≤ 1000000) : ∃ v c', draw_Codes_Next N n c = some ((v, ()), (c', ())) ∧ 0 ≤ v ∧ v < n ∧ COk c' := by
  obtain ⟨l, i, u⟩ := c
  obtain ⟨h1, h2, h3⟩ := h
  simp only at h1 h2 h3
  unfold draw_Codes_Next
  by_cases hlt : (l.length : Int) ≤ i
  · simp only [hlt, decide_true, cond_true]
    exact ⟨0, _, rfl, by omega, hn, h1, h2, h3⟩
  · have e1 : w64 (i + 1) = i + 1 := w64_of (by omega) (by omega)
    have e2 : w64 (i + 1 - 1) = i := by rw [w64_of (by omega) (by omega)]; omega
    simp only [hlt, decide_false, cond_false, e1, e2]
    have e3 : inR i l.length = true := by simp [inR, h1]; omega
    rw [e3, cond_true]
    obtain ⟨b, hb⟩ : ∃ b : Nat, b = (l.getD i.toNat 0).toNat := ⟨_, rfl⟩
    have hb2 : b < 256 := by rw [hb]; exact UInt8.toNat_lt _
    rw [← hb]
    have hm0 : 0 ≤ (b : Int) * n := Int.mul_nonneg (by omega) (by omega)
    have hm1 : (b : Int) * n ≤ 255 * n := Int.mul_le_mul_of_nonneg_right (by omega) (by omega)
    have e4 : w64 ((b : Int) * n) = (b : Int) * n := w64_of (by omega) (by omega)
    have e5 : ((b : Int) * n).tdiv 256 = ((b : Int) * n) / 256 := Int.tdiv_eq_ediv_of_nonneg hm0
    have e6 : w64 (((b : Int) * n) / 256) = ((b : Int) * n) / 256 := w64_of (by omega) (by omega)
    rw [e4, e5, e6]
    exact ⟨_, _, rfl, by omega, by omega, by simp only; omega, by simp only; omega, h3⟩
theorem dname_ok (N : Nat) {c : List UInt8 × (Int × Unit)} (h : COk c) : ∃ i c', draw_Codes_Name N c = some ((nmD i, ()), (c', ())) ∧ i < 15 ∧ COk c' := by
  obtain ⟨v, c1, e1, a1, a2, h1⟩ := dnext_ok N (n := 3) h (by omega) (by omega)
  obtain ⟨u, c2, e2, b1, b2, h2⟩ := dnext_ok N (n := 5) h1 (by omega) (by omega)
  refine ⟨v.toNat * 5 + u.toNat, c2, ?_, by omega, h2⟩
  unfold draw_Codes_Name ref26_Name
  simp only [e1, e2, Option.bind_some]
  have f1 : w64 ((1 : Int) + u) = 1 + u := w64_of (by omega) (by omega)
  have f2 : w64 (v * (1048576 : Int)) = v * 1048576 := w64_of (by omega) (by omega)
  have f3 : w64 (v * 1048576 + (1 + u)) = v * 1048576 + (1 + u) := w64_of (by omega) (by omega)
  rw [f1, f2, f3]
  have f4 : (((v.toNat * 5 + u.toNat) / 5 * 1048576 + (v.toNat * 5 + u.toNat) % 5 + 1 : Nat) : Int) = v * 1048576 + (1 + u) := by omega
  unfold nmD
  rw [f4]
theorem dnew_ok (N : Nat) (k : Nat) (hk : k ≤ 1000) (l : List UInt8) : ∃ c, draw_New N l (k : Int) = some ((), (c, ())) ∧ COk c := by
  unfold draw_New
  by_cases hlt : (k : Int) < (l.length : Int)
  · simp only [hlt, decide_true, cond_true]
    have e1 : decide ((k : Int) ≤ (l.length : Int)) = true := decide_eq_true (by omega)
    have e2 : cut l 0 (k : Int).toNat = l.take k := by simp [cut]
    have e3 : (l.take k).length = k := by rw [List.length_take]; omega
    have e0 : decide ((0 : Int) ≤ (k : Int)) = true := decide_eq_true (by omega)
    have e5 : decide (0 ≤ (0 : Int)) = true := by decide
    have e6 : room (0 + k) 1 = true := room_of (by omega)
    simp only [e1, e2, e3, e0, e5, e6, Bool.and_self, cond_true]
    exact ⟨_, rfl, by simp, by simp, by simp only [e3]; omega⟩
  · have hl : l.length ≤ k := by omega
    simp only [hlt, decide_false, cond_false]
    have e1 : decide ((0 : Int) ≤ (l.length : Int)) = true := decide_eq_true (by omega)
    have e4 : decide ((l.length : Int) ≤ (l.length : Int)) = true := decide_eq_true (by omega)
    have e2 : cut l 0 (l.length : Int).toNat = l := by simp [cut]
    have e3 : room (0 + l.length) 1 = true := room_of (by omega)
    rw [e1, e4, e2, e3]
    exact ⟨_, rfl, by simp, by simp, by simp only; omega⟩

theorem nm_gd {i : Nat} (hi : i < 15) : Gd 1 (mkT (nmD i)) := ⟨⟨by show (0 : Int) ≤ ((_ : Nat) : Int); omega, by show ((_ : Nat) : Int) ≤ 10000000; omega, .inr (.inl ⟨rfl, rfl⟩)⟩, by simp [args, mkT, nmD], fun a ha => by simp [args, mkT, nmD] at ha⟩
theorem leaf_gd {d : Nat} {o v : Int} (h0 : 0 ≤ v) (h1 : v ≤ 10000000) (ho : o = 1 ∨ o = 2 ∨ o = 9) : Gd (d + 1) (.mk o v []) := by
  refine ⟨⟨h0, h1, ?_⟩, by simp [args], fun a ha => by simp [args] at ha⟩
  rcases ho with rfl | rfl | rfl
  · exact .inl ⟨rfl, rfl⟩
  · exact .inr (.inl ⟨rfl, rfl⟩)
  · exact .inr (.inr (.inl ⟨rfl, rfl⟩))
abbrev TmR : Type := ((TT.den × Unit) × (((List UInt8) × (Int × Unit)) × Unit))
section
variable (N : Nat) (hN : 4611686018427387904 ≤ N) (hag : ∀ i j, i < 15 → j < 15 → ∃ t, ref26_Agree N (4, 0, [mkT (nmD i)], ()) (nmD j) = some ((shD (min i j) (max i j), t, ()), ()))
include hN hag
/-- One term of a depth of at most d + 1. -/
theorem pick_ok {d : Nat} (hd : d ≤ 100) {rc : Int → ((List UInt8) × (Int × Unit)) → Option TmR} (hrc : 0 < d → ∀ c, COk c → ∃ t c', rc (d : Int) c = some ((t, ()), (c', ())) ∧ Gd d (mkT t) ∧ COk c')
    {k : Int} (h0 : 0 ≤ k) (h1 : k < 12) (hk : k ≤ 3 ∨ 0 < d) {c : List UInt8 × (Int × Unit)} (hc : COk c) (t4 : TT.den) :
    ∃ t c', draw_Codes_Term_5 N rc ((d + 1 : Nat) : Int) k c t4 = some ((t, ()), (c', ())) ∧ Gd (d + 1) (mkT t) ∧ COk c' := by
  have w1 : w64 (((d + 1 : Nat) : Int) - 1) = (d : Int) := by rw [w64_of (by omega) (by omega)]; omega
  have hcase : k = 0 ∨ (k = 1 ∨ k = 2) ∨ k = 3 ∨ (k = 4 ∨ k = 5) ∨ k = 6 ∨ k = 7 ∨ k = 8 ∨ (k = 9 ∨ k = 10) ∨ k = 11 := by omega
  rcases hcase with rfl | hk2 | rfl | hk2 | rfl | rfl | rfl | hk2 | rfl
  · show ∃ t c', draw_Codes_Term_8 N rc c t4 = _ ∧ _
    obtain ⟨v, c1, e1, a1, a2, k1⟩ := dnext_ok N (n := 6) hc (by omega) (by omega)
    unfold draw_Codes_Term_8 ref26_Number
    simp only [e1, Option.bind_some]
    exact ⟨_, _, rfl, leaf_gd a1 (by show v ≤ (10000000 : Int); omega) (.inl rfl), k1⟩
  · have : draw_Codes_Term_5 N rc ((d + 1 : Nat) : Int) k c t4 = draw_Codes_Term_12 N rc c t4 := by rcases hk2 with rfl | rfl <;> rfl
    rw [this]
    obtain ⟨i, c1, e1, hi, k1⟩ := dname_ok N hc
    unfold draw_Codes_Term_12
    simp only [e1, Option.bind_some]
    exact ⟨_, _, rfl, (nm_gd hi).le (by omega), k1⟩
  · show ∃ t c', draw_Codes_Term_16 N rc c t4 = _ ∧ _
    obtain ⟨v, c1, e1, a1, a2, k1⟩ := dnext_ok N (n := 3) hc (by omega) (by omega)
    unfold draw_Codes_Term_16
    simp only [e1, Option.bind_some]
    exact ⟨_, _, rfl, leaf_gd a1 (by show v ≤ (10000000 : Int); omega) (.inr (.inr rfl)), k1⟩
  · have : draw_Codes_Term_5 N rc ((d + 1 : Nat) : Int) k c t4 = draw_Codes_Term_20 N rc ((d + 1 : Nat) : Int) c t4 := by rcases hk2 with rfl | rfl <;> rfl
    rw [this]
    have hd0 : 0 < d := by omega
    obtain ⟨v, c1, e1, a1, a2, k1⟩ := dnext_ok N (n := 4) hc (by omega) (by omega)
    unfold draw_Codes_Term_20
    simp only [e1, Option.bind_some]
    unfold draw_Codes_Term_21
    have hl := loopK_of (N := N) (step := fun y => draw_Codes_Term_s22 N rc y.1.1 y.1.2.1 y.2.1 y.2.2.1 y.2.2.2.1) (J := fun (e : ((Unit) × (((List UInt8) × (Int × Unit)) × TT.den × (List TT.den) × Unit))) => draw_Codes_Term_23 N rc e.2.1 e.2.2.1 e.2.2.2.1)
      (I := fun y => y.1.1 = ((d + 1 : Nat) : Int) ∧ 0 ≤ y.1.2.1 ∧ y.1.2.1 + (y.2.2.2.1.length : Int) ≤ 3 ∧ COk y.2.1 ∧ ∀ x ∈ y.2.2.2.1, Gd d (mkT x)) (μ := fun y => y.1.2.1.toNat)
      (T := fun r => ∃ t c', r = ((t, ()), (c', ())) ∧ Gd (d + 1) (mkT t) ∧ COk c') ?_
      (x := ((((d + 1 : Nat) : Int), v, ()), (c1, t4, ([] : List TT.den), ()))) ⟨rfl, a1, by simp only [List.length_nil]; omega, k1, fun x hx => by simp at hx⟩ (by simp only; omega)
    · obtain ⟨r, q1, t, c', rfl, q2, q3⟩ := hl
      exact ⟨t, c', q1, q2, q3⟩
    · rintro ⟨⟨dd, n, ⟨⟩⟩, p0, t5, l, ⟨⟩⟩ ⟨g1, g2, g3, g4, g5⟩
      simp only at g1 g2 g3 g4 g5
      subst g1
      simp only [draw_Codes_Term_s22]
      by_cases hlt : (0 : Int) < n
      · have e2 : decide ((0 : Int) < n) = true := decide_eq_true hlt
        obtain ⟨t, c2, r1, r2, r3⟩ := hrc hd0 p0 g4
        have er : room (l.length + ([t] : List TT.den).length) 40 = true := room_of (by simp only [List.length_cons, List.length_nil]; omega)
        have e4 : w64 (n - 1) = n - 1 := w64_of (by omega) (by omega)
        rw [e2, w1, r1]
        simp only [cond_true, Option.bind_some, er, e4]
        refine ⟨_, rfl, ⟨rfl, by simp only; omega, by simp only [List.length_append, List.length_cons, List.length_nil]; omega, r3, fun x hx => ?_⟩, by simp only; omega⟩
        simp only [List.mem_append, List.mem_cons, List.not_mem_nil, or_false] at hx
        rcases hx with hx | rfl
        · exact g5 x hx
        · exact r2
      · have e2 : decide ((0 : Int) < n) = false := decide_eq_false hlt
        rw [e2]
        have er : room (0 + l.length) 40 = true := room_of (by omega)
        refine ⟨_, rfl, ?_⟩
        unfold draw_Codes_Term_23 ref26_List
        simp only [er, cond_true, Option.bind_some]
        refine ⟨_, rfl, _, _, rfl, ⟨⟨Int.le_refl _, (by decide : (0 : Int) ≤ 10000000), .inr (.inr (.inr (.inl ⟨rfl, rfl⟩)))⟩, by simp only [args, mkT, List.length_map]; omega, fun a ha => ?_⟩, g4⟩
        simp only [args, mkT, List.mem_map] at ha
        obtain ⟨x, hx, rfl⟩ := ha
        exact g5 x hx
  · have hd0 : 0 < d := by omega
    show ∃ t c', (Option.bind (draw_Codes_Name N c) fun y21 => Option.bind (ref26_Public N y21.1.1) fun y22 => some ((y22.1.1, ()), (y21.2.1, ()))) = _ ∧ _
    obtain ⟨i, c1, e1, hi, k1⟩ := dname_ok N hc
    unfold ref26_Public
    simp only [e1, Option.bind_some]
    refine ⟨_, _, rfl, ⟨⟨Int.le_refl _, (by decide : (0 : Int) ≤ 10000000), .inr (.inr (.inr (.inr (.inr (.inl ⟨rfl, rfl, i, hi, rfl⟩)))))⟩, by simp [args, mkT], fun a ha => ?_⟩, k1⟩
    simp only [args, mkT, List.map_cons, List.map_nil, List.mem_cons, List.not_mem_nil, or_false] at ha
    subst ha
    exact (nm_gd hi).le hd0
  · have hd0 : 0 < d := by omega
    show ∃ t c', (Option.bind (draw_Codes_Name N c) fun y24 => Option.bind (ref26_Public N y24.1.1) fun y25 => Option.bind (draw_Codes_Name N y24.2.1) fun y26 => Option.bind (ref26_Agree N y25.1.1 y26.1.1) fun y27 => some ((y27.1.1, ()), (y26.2.1, ()))) = _ ∧ _
    obtain ⟨i, c1, e1, hi, k1⟩ := dname_ok N hc
    obtain ⟨j, c2, e2, hj, k2⟩ := dname_ok N k1
    obtain ⟨tt, ha⟩ := hag i j hi hj
    have ep : ref26_Public N (nmD i) = some (((4, 0, [mkT (nmD i)], ()), ()), ()) := rfl
    simp only [e1, Option.bind_some, ep, e2, ha]
    refine ⟨_, _, rfl, ⟨⟨Int.le_refl _, (by decide : (0 : Int) ≤ 10000000), .inr (.inr (.inr (.inr (.inr (.inr (.inr (.inl ⟨rfl, rfl, min i j, max i j, by omega, by omega, rfl⟩)))))))⟩, by simp [args, mkT, shD], fun a ha => ?_⟩, k2⟩
    simp only [args, mkT, shD, List.mem_cons, List.not_mem_nil, or_false] at ha
    rcases ha with rfl | rfl
    · exact (nm_gd (i := min i j) (by omega)).le hd0
    · exact (nm_gd (i := max i j) (by omega)).le hd0
  · have hd0 : 0 < d := by omega
    show ∃ t c', (Option.bind (draw_Codes_Next N (9 : Int) c) fun y29 => Option.bind (rc (w64 (((d + 1 : Nat) : Int) - (1 : Int))) y29.2.1) fun y32 => Option.bind (ref26_Derive N (w64 ((1 : Int) + y29.1.1)) ([y32.1.1] : List TT.den)) fun y33 => some ((y33.1.1, ()), (y32.2.1, ()))) = _ ∧ _
    obtain ⟨v, c1, e1, a1, a2, k1⟩ := dnext_ok N (n := 9) hc (by omega) (by omega)
    obtain ⟨t, c2, r1, r2, r3⟩ := hrc hd0 c1 k1
    have e4 : w64 (1 + v) = 1 + v := w64_of (by omega) (by omega)
    have er : room (0 + ([t] : List TT.den).length) 40 = true := room_of (by simp only [List.length_cons, List.length_nil]; omega)
    unfold ref26_Derive
    rw [w1]
    simp only [e1, Option.bind_some, r1, e4, er, cond_true]
    refine ⟨_, _, rfl, ⟨⟨by show (0 : Int) ≤ 1 + v; omega, by show 1 + v ≤ (10000000 : Int); omega, .inr (.inr (.inr (.inr (.inl rfl))))⟩, by simp [args, mkT], fun a ha => ?_⟩, r3⟩
    simp only [args, mkT, List.map_cons, List.map_nil, List.mem_cons, List.not_mem_nil, or_false] at ha
    subst ha
    exact r2
  · have hd0 : 0 < d := by omega
    have : draw_Codes_Term_5 N rc ((d + 1 : Nat) : Int) k c t4 = (Option.bind (rc (w64 (((d + 1 : Nat) : Int) - (1 : Int))) c) fun y36 => Option.bind (rc (w64 (((d + 1 : Nat) : Int) - (1 : Int))) y36.2.1) fun y38 => Option.bind (ref26_Seal N y36.1.1 y38.1.1) fun y39 => some ((y39.1.1, ()), (y38.2.1, ()))) := by rcases hk2 with rfl | rfl <;> rfl
    rw [this]
    obtain ⟨t, c1, r1, r2, r3⟩ := hrc hd0 c hc
    obtain ⟨u, c2, s1, s2, s3⟩ := hrc hd0 c1 r3
    unfold ref26_Seal
    rw [w1]
    simp only [Option.bind_some, r1, s1]
    refine ⟨_, _, rfl, ⟨⟨Int.le_refl _, (by decide : (0 : Int) ≤ 10000000), .inr (.inr (.inr (.inr (.inr (.inr (.inr (.inr ⟨rfl, rfl, mkT t, mkT u, rfl⟩)))))))⟩, by simp [args, mkT], fun a ha => ?_⟩, s3⟩
    simp only [args, mkT, List.map_cons, List.map_nil, List.mem_cons, List.not_mem_nil, or_false] at ha
    rcases ha with rfl | rfl
    · exact r2
    · exact s2
  · have hd0 : 0 < d := by omega
    show ∃ t c', draw_Codes_Term_25 N rc ((d + 1 : Nat) : Int) c t4 = _ ∧ _
    obtain ⟨v, c1, e1, a1, a2, k1⟩ := dnext_ok N (n := 3) hc (by omega) (by omega)
    obtain ⟨t, c2, r1, r2, r3⟩ := hrc hd0 c1 k1
    unfold draw_Codes_Term_25 ref26_Sign
    rw [w1]
    simp only [e1, Option.bind_some, r1]
    refine ⟨_, _, rfl, ⟨⟨a1, by show v ≤ (10000000 : Int); omega, .inr (.inr (.inr (.inr (.inr (.inr (.inl ⟨rfl, mkT t, rfl⟩))))))⟩, by simp [args, mkT], fun a ha => ?_⟩, r3⟩
    simp only [args, mkT, List.map_cons, List.map_nil, List.mem_cons, List.not_mem_nil, or_false] at ha
    subst ha
    exact r2
theorem term_ok : ∀ (d n : Nat), d ≤ 100 → d + 1 ≤ n → ∀ c, COk c → ∃ t c', draw_Codes_TermR N n ((d + 1 : Nat) : Int) c = some ((t, ()), (c', ())) ∧ Gd (d + 1) (mkT t) ∧ COk c'
  | d, 0, _, h, _, _ => absurd h (by omega)
  | d, n + 1, hd, hn, c, hc => by
    show ∃ t c', draw_Codes_Term N (draw_Codes_TermR N n) ((d + 1 : Nat) : Int) c = _ ∧ _
    have hrc : 0 < d → ∀ c, COk c → ∃ t c', draw_Codes_TermR N n (d : Int) c = some ((t, ()), (c', ())) ∧ Gd d (mkT t) ∧ COk c' := by
      intro h0 c hc
      obtain ⟨d', rfl⟩ : ∃ d', d = d' + 1 := ⟨d - 1, by omega⟩
      exact term_ok d' n (by omega) (by omega) c hc
    obtain ⟨k, c1, e1, a1, a2, k1⟩ := dnext_ok N (n := 12) hc (by omega) (by omega)
    unfold draw_Codes_Term
    simp only [e1, Option.bind_some]
    by_cases hd1 : d = 0
    · subst hd1
      have e2 : decide (((0 + 1 : Nat) : Int) ≤ 1) = true := rfl
      rw [e2, cond_true]
      unfold draw_Codes_Term_1
      by_cases h3 : 3 < k
      · rw [decide_eq_true h3, cond_true]
        have e5 : k.tmod 4 = k % 4 := tmod_of a1
        rw [e5]
        exact pick_ok N hN hag (by omega) hrc (by omega) (by omega) (.inl (by omega)) k1 _
      · rw [decide_eq_false h3, cond_false]
        exact pick_ok N hN hag (by omega) hrc a1 a2 (.inl (by omega)) k1 _
    · have e2 : decide (((d + 1 : Nat) : Int) ≤ 1) = false := decide_eq_false (by omega)
      rw [e2, cond_false]
      exact pick_ok N hN hag (by omega) hrc a1 a2 (.inr (by omega)) k1 _
theorem terms_ok (d : Nat) (hd : d ≤ 100) (m : Nat) (hm : m ≤ 4) {c : List UInt8 × (Int × Unit)} (hc : COk c) : ∃ c' l, draw_Codes_Terms N (m : Int) ((d + 1 : Nat) : Int) c = some ((), (c', l, ())) ∧ l.length ≤ m ∧ (∀ x ∈ l, Gd (d + 1) (mkT x)) ∧ COk c' := by
  have w1 : w64 ((m : Int) + 1) = (m : Int) + 1 := w64_of (by omega) (by omega)
  obtain ⟨v, c1, e1, a1, a2, k1⟩ := dnext_ok N (n := (m : Int) + 1) hc (by omega) (by omega)
  unfold draw_Codes_Terms
  rw [w1]
  simp only [e1, Option.bind_some]
  unfold draw_Codes_Terms_1
  have hl := loopK_of (N := N) (step := fun y => draw_Codes_Terms_s2 N y.1.1 y.1.2.1 y.2.1 y.2.2.1) (J := fun (e : ((Unit) × (((List UInt8) × (Int × Unit)) × (List TT.den) × Unit))) => draw_Codes_Terms_3 N e.2.1 e.2.2.1)
    (I := fun y => y.1.1 = ((d + 1 : Nat) : Int) ∧ 0 ≤ y.1.2.1 ∧ y.1.2.1 + (y.2.2.1.length : Int) ≤ m ∧ COk y.2.1 ∧ ∀ x ∈ y.2.2.1, Gd (d + 1) (mkT x)) (μ := fun y => y.1.2.1.toNat)
    (T := fun r => ∃ c' l, r = ((), (c', l, ())) ∧ l.length ≤ m ∧ (∀ x ∈ l, Gd (d + 1) (mkT x)) ∧ COk c') ?_
    (x := ((((d + 1 : Nat) : Int), v, ()), (c1, ([] : List TT.den), ()))) ⟨rfl, a1, by simp only [List.length_nil]; omega, k1, fun x hx => by simp at hx⟩ (by simp only; omega)
  · obtain ⟨r, q1, c', l, rfl, q2, q3, q4⟩ := hl
    exact ⟨c', l, q1, q2, q3, q4⟩
  · rintro ⟨⟨dd, n, ⟨⟩⟩, p0, l, ⟨⟩⟩ ⟨g1, g2, g3, g4, g5⟩
    simp only at g1 g2 g3 g4 g5
    subst g1
    simp only [draw_Codes_Terms_s2]
    by_cases hlt : (0 : Int) < n
    · have e2 : decide ((0 : Int) < n) = true := decide_eq_true hlt
      obtain ⟨t, c2, r1, r2, r3⟩ := term_ok N hN hag d N hd (by omega) p0 g4
      have er : room (l.length + ([t] : List TT.den).length) 40 = true := room_of (by simp only [List.length_cons, List.length_nil]; omega)
      have e4 : w64 (n - 1) = n - 1 := w64_of (by omega) (by omega)
      rw [e2, r1]
      simp only [cond_true, Option.bind_some, er, e4]
      refine ⟨_, rfl, ⟨rfl, by simp only; omega, by simp only [List.length_append, List.length_cons, List.length_nil]; omega, r3, fun x hx => ?_⟩, by simp only; omega⟩
      simp only [List.mem_append, List.mem_cons, List.not_mem_nil, or_false] at hx
      rcases hx with hx | rfl
      · exact g5 x hx
      · exact r2
    · have e2 : decide ((0 : Int) < n) = false := decide_eq_false hlt
      rw [e2]
      exact ⟨_, rfl, _, rfl, _, _, rfl, by show l.length ≤ m; omega, g5, g4⟩
end
end Go.Proofs.YtajpblfinenmjaaDoor.Pl

/- Plain: the law ConcreteLengths. -/
namespace Go.Proofs.YtajpblfinenmjaaDoor.Pl
open Go
section
variable (N : Nat) (hN : 4611686018427387904 ≤ N) (hsh : ∀ i j, i ≤ j → j < 15 → term_sound N (shD i j) = some ((true, ()), ()))
include hN hsh
theorem write_ok : ∀ (e n : Nat) (t : Tree), e ≤ n → e ≤ 5 → Gd e t → wl t ≤ 8192 → ∃ out, concrete_writeR N n t.un = some ((), (out, ())) ∧ out.length = wl t
  | 0, _, _, _, _, h, _ => h.elim
  | e + 1, 0, _, h, _, _, _ => absurd h (by omega)
  | e + 1, n + 1, .mk o v l, hn, he, h, hw => by
    have ih := fun t h hw => write_ok e n t (by omega) (by omega) h hw
    have hh := h
    obtain ⟨h1, h2, h3⟩ := h
    have h2' : l.length ≤ 4 := h2
    show ∃ out, writeG N (concrete_writeR N n) (o, v, l, ()) = _ ∧ _
    have key : ∃ out, writeOp N (concrete_writeR N n) (o, v, l, ()) = some ((), (out, ())) ∧ out.length = wl (.mk o v l) := by
      obtain ⟨g0, g1, h⟩ := h1
      rcases h with ⟨rfl, rfl⟩ | ⟨rfl, rfl⟩ | ⟨rfl, rfl⟩ | ⟨rfl, rfl⟩ | rfl | ⟨rfl, rfl, i, hi, rfl⟩ | ⟨rfl, a, rfl⟩ | ⟨rfl, rfl, i, j, hij, hj, rfl⟩ | ⟨rfl, rfl, a, b, rfl⟩
      · exact f1_ok N hN ((1 : Int), v, ([] : List Tree), ()) (b := [(1 : UInt8)]) (by decide)
      · exact nameW_ok N hN hsh he hh (b := [(2 : UInt8)]) (by decide)
      · exact f2_ok N hN hsh he hh (b := [(9 : UInt8)]) (by decide)
      · have hm : wl (.mk 3 0 l) = 3 + (l.map fun a => 2 + wl a).sum := by
          show 3 + ((wll l).map (2 + ·)).sum = _
          rw [wll_map, List.map_map]
          rfl
        rw [hm] at hw ⊢
        refine list_w N hN h2' (fun a ha => ih a (h3 a ha) ?_) hw
        obtain ⟨l1, l2, rfl⟩ := List.append_of_mem ha
        simp only [List.map_append, List.map_cons, List.sum_append, List.sum_cons] at hw
        omega
      · exact f2_ok N hN hsh he hh (b := [(6 : UInt8)]) (by decide)
      · exact public_w N hN hsh hi (b := [(4 : UInt8)]) (by decide)
      · have hm : wl (.mk 8 v [a]) = 43 + wl a := rfl
        rw [hm] at hw ⊢
        obtain ⟨body, b1, b2⟩ := ih a (h3 a (by simp [args])) (by omega)
        obtain ⟨out, o1, o2⟩ := sign_w N hN hsh g0 g1 b1 (by omega) (b := [(8 : UInt8)]) (by decide)
        exact ⟨out, o1, by rw [o2, b2]; show 1 + 42 + _ = _; omega⟩
      · exact f2_ok N hN hsh he hh (b := [(5 : UInt8)]) (by decide)
      · have hm : wl (.mk 7 0 [a, b]) = 37 + wl b := rfl
        rw [hm] at hw ⊢
        obtain ⟨body, b1, b2⟩ := ih b (h3 b (by simp [args])) (by omega)
        obtain ⟨out, o1, o2⟩ := seal_w N hN hsh (e := e) (by omega) (h3 a (by simp [args])) b1 (by omega) (b := [(7 : UInt8)]) (by decide)
        exact ⟨out, o1, by rw [o2, b2]; show 1 + 36 + _ = _; omega⟩
    obtain ⟨out, k1, k2⟩ := key
    refine ⟨out, ?_, k2⟩
    unfold writeG
    rw [k1, Option.bind_some, Nat.ble_eq_true_of_le (show out.length ≤ 8192 by omega), cond_true]
theorem Write_len {e : Nat} (he : e ≤ 5) {t : Tree} (h : Gd e t) (hw : wl t ≤ 8192) : ∃ out, concrete_Write N t.un = some ((0, ()), (out, ())) ∧ out.length = wl t := by
  obtain ⟨out, h1, h2⟩ := write_ok N hN hsh e N t (by omega) he h hw
  refine ⟨out, ?_, h2⟩
  unfold concrete_Write
  simp only [valid_ok N hsh he h, Option.bind_some, Bool.not_true, cond_false, h1]
end
section
variable (N : Nat) (hN : 4611686018427387904 ≤ N) (hsh : ∀ i j, i ≤ j → j < 15 → term_sound N (shD i j) = some ((true, ()), ())) (hag : ∀ i j, i < 15 → j < 15 → ∃ t, ref26_Agree N (4, 0, [mkT (nmD i)], ()) (nmD j) = some ((shD (min i j) (max i j), t, ()), ()))
include hN hsh
theorem awake_of : law44_awake N = some ((true, ()), ()) := by
  have hg : Gd 1 (.mk 1 5 []) := leaf_gd (by omega) (by omega) (.inl rfl)
  have hv := valid_ok N hsh (e := 1) (by omega) hg
  have hv' : term_Valid N ((1 : Int), (5 : Int), ([] : List Tree), ()) = some ((true, ()), ()) := hv
  obtain ⟨n, rfl⟩ : ∃ n, N = n + 1 := ⟨N - 1, by omega⟩
  have hp := wire_put (n + 1) (v := iu64 5) (w := 8) (b := [(1 : UInt8)]) (by omega) (by omega) (by decide) (by omega)
  have hb : [(1 : UInt8)] ++ be (iu64 5) (8 : Int).toNat = [1, 0, 0, 0, 0, 0, 0, 0, 5] := by decide
  have hw : concrete_Write (n + 1) ((1 : Int), (5 : Int), ([] : List Tree), ()) = some (((0 : Int), ()), ([1, 0, 0, 0, 0, 0, 0, 0, 5], ())) := by
    unfold concrete_Write
    simp only [hv', Option.bind_some, Bool.not_true, cond_false]
    have hf : concrete_writeR (n + 1) (n + 1) ((1 : Int), (5 : Int), ([] : List Tree), ()) = some ((), ([1, 0, 0, 0, 0, 0, 0, 0, 5], ())) := by
      show writeG (n + 1) (concrete_writeR (n + 1) n) ((1 : Int), (5 : Int), ([] : List Tree), ()) = _
      unfold writeG
      have ho : writeOp (n + 1) (concrete_writeR (n + 1) n) ((1 : Int), (5 : Int), ([] : List Tree), ()) = some ((), ([1, 0, 0, 0, 0, 0, 0, 0, 5], ())) := by
        show concrete_writers_f1 (n + 1) ((1 : Int), (5 : Int), ([] : List Tree), ()) [(1 : UInt8)] = _
        unfold concrete_writers_f1
        rw [hp, hb]
        rfl
      rw [ho]
      rfl
    rw [hf]
    rfl
  unfold law44_awake
  have e1 : ref26_Number (n + 1) (5 : Int) = some ((((1 : Int), (5 : Int), ([] : List Tree), ()), ()), ()) := rfl
  rw [e1, Option.bind_some]
  rw [hw]
  rfl
include hag
theorem lengths (codes : List UInt8) : law44_ConcreteLengths N codes = some ((true, ()), ()) := by
  unfold law44_ConcreteLengths
  obtain ⟨c0, n0, k0⟩ := dnew_ok N 150 (by omega) codes
  obtain ⟨c1, l, n1, hl4, hlg, k1⟩ := terms_ok N hN hag 2 (by omega) 4 (by omega) k0
  obtain ⟨key, c2, n2, hkg, k2⟩ := term_ok N hN hag 1 N (by omega) (by omega) c1 k1
  have n0' : draw_New N codes (150 : Int) = some ((), (c0, ())) := n0
  have n1' : draw_Codes_Terms N (4 : Int) (3 : Int) c0 = some ((), (c1, l, ())) := n1
  have n2' : draw_Codes_TermR N N (2 : Int) c1 = some ((key, ()), (c2, ())) := n2
  rw [awake_of N hN hsh]
  simp only [Option.bind_some, Bool.not_true, cond_false, n0', n1', n2']
  obtain ⟨L, hL⟩ : ∃ L, L = l.map mkT := ⟨_, rfl⟩
  have hLl : L.length = l.length := by rw [hL, List.length_map]
  have hLg : ∀ a ∈ L, Gd 3 a := fun a ha => by
    rw [hL, List.mem_map] at ha
    obtain ⟨x, hx, rfl⟩ := ha
    exact hlg x hx
  have hTg : Gd 4 (.mk 3 0 L) := ⟨⟨Int.le_refl _, (by decide : (0 : Int) ≤ 10000000), .inr (.inr (.inr (.inl ⟨rfl, rfl⟩)))⟩, by show L.length ≤ 4; omega, hLg⟩
  have hwT : wl (.mk 3 0 L) = 3 + (L.map fun a => 2 + wl a).sum := by
    show 3 + ((wll L).map (2 + ·)).sum = _
    rw [wll_map, List.map_map]
    rfl
  have hb4 : wl (.mk 3 0 L) ≤ 3803 := Nat.le_trans (wl_le hTg) (by decide)
  have hDg : Gd 4 (.mk 6 1 L) := ⟨⟨(by decide : (0 : Int) ≤ 1), (by decide : (1 : Int) ≤ 10000000), .inr (.inr (.inr (.inr (.inl rfl))))⟩, by show L.length ≤ 4; omega, hLg⟩
  have hSg : Gd 5 (.mk 7 0 [mkT key, .mk 3 0 L]) := ⟨⟨Int.le_refl _, (by decide : (0 : Int) ≤ 10000000), .inr (.inr (.inr (.inr (.inr (.inr (.inr (.inr ⟨rfl, rfl, _, _, rfl⟩)))))))⟩, by simp [args], fun a ha => by
    simp only [args, List.mem_cons, List.not_mem_nil, or_false] at ha
    rcases ha with rfl | rfl
    · exact hkg.le (show 1 + 1 ≤ 4 by decide)
    · exact hTg⟩
  have hGg : Gd 5 (.mk 8 1 [.mk 3 0 L]) := ⟨⟨(by decide : (0 : Int) ≤ 1), (by decide : (1 : Int) ≤ 10000000), .inr (.inr (.inr (.inr (.inr (.inr (.inl ⟨rfl, _, rfl⟩))))))⟩, by simp [args], fun a ha => by
    simp only [args, List.mem_cons, List.not_mem_nil, or_false] at ha
    subst ha
    exact hTg⟩
  have hwS : wl (.mk 7 0 [mkT key, .mk 3 0 L]) = 37 + wl (.mk 3 0 L) := rfl
  have hwG : wl (.mk 8 1 [.mk 3 0 L]) = 43 + wl (.mk 3 0 L) := rfl
  have hwD : wl (.mk 6 1 L) = 33 := rfl
  obtain ⟨oT, w1, w2⟩ := Write_len N hN hsh (by omega) hTg (by omega)
  obtain ⟨oS, w3, w4⟩ := Write_len N hN hsh (by omega) hSg (by omega)
  obtain ⟨oG, w5, w6⟩ := Write_len N hN hsh (by omega) hGg (by omega)
  obtain ⟨oD, w7, w8⟩ := Write_len N hN hsh (by omega) hDg (by omega)
  unfold law44_ConcreteLengths_1
  have hll := loopK_of (N := N) (step := fun y => law44_ConcreteLengths_s2 N y.1.1 y.1.2.1 y.2.1 y.2.2.1) (J := fun (e : ((Int × Unit) × ((List TT.den) × TT.den × Unit))) => law44_ConcreteLengths_3 N e.1.1 e.2.1 e.2.2.1)
    (I := fun y => y.2.1 = l ∧ y.2.2.1 = key ∧ 0 ≤ y.1.2.1 ∧ y.1.2.1 ≤ (l.length : Int) ∧ y.1.1 = 3 + (((L.take y.1.2.1.toNat).map fun a => 2 + wl a).sum : Nat)) (μ := fun y => ((l.length : Int) - y.1.2.1).toNat)
    (T := fun r => r = ((true, ()), ())) ?_
    (x := (((3 : Int), (0 : Int), ()), (l, key, ()))) ⟨rfl, rfl, Int.le_refl _, by simp only; omega, by simp⟩ (by simp only; omega)
  · obtain ⟨r, q1, rfl⟩ := hll
    exact q1
  · rintro ⟨⟨n, i, ⟨⟩⟩, l', key', ⟨⟩⟩ ⟨g1, g2, g3, g4, g5⟩
    simp only at g1 g2 g3 g4 g5
    subst g1
    subst g2
    simp only [law44_ConcreteLengths_s2]
    have hpart : ∀ k, ((L.take k).map fun a => 2 + wl a).sum ≤ (L.map fun a => 2 + wl a).sum := fun k => by
      conv => rhs; rw [← List.take_append_drop k L]
      rw [List.map_append, List.sum_append]
      omega
    by_cases hlt : i < (l'.length : Int)
    · have e1 : decide (i < (l'.length : Int)) = true := decide_eq_true hlt
      have e2 : inR i l'.length = true := inR_of g3 hlt
      have hi : i.toNat < l'.length := by omega
      have hx : ∀ z : TT.den, l'.getD i.toNat z = l'[i.toNat] := fun z => by simp [List.getD, hi]
      have hxm : mkT l'[i.toNat] ∈ L := by rw [hL]; exact List.mem_map.2 ⟨_, List.getElem_mem hi, rfl⟩
      have hxs : L.take (i.toNat + 1) = L.take i.toNat ++ [mkT l'[i.toNat]] := by
        rw [List.take_add_one, hL, List.getElem?_map, List.getElem?_eq_getElem hi]
        rfl
      have hs2 : ((L.take (i.toNat + 1)).map fun a => 2 + wl a).sum = ((L.take i.toNat).map fun a => 2 + wl a).sum + (2 + wl (mkT l'[i.toNat])) := by rw [hxs]; simp
      have hp := hpart (i.toNat + 1)
      obtain ⟨ox, x1, x2⟩ := Write_len N hN hsh (e := 3) (by omega) (hLg _ hxm) (by omega)
      have x1' : concrete_Write N l'[i.toNat] = some ((0, ()), (ox, ())) := x1
      have e4 : w64 (i + 1) = i + 1 := w64_of (by omega) (by omega)
      have e5 : w64 (2 + (ox.length : Int)) = 2 + (ox.length : Int) := w64_of (by omega) (by omega)
      have e6 : w64 (n + (2 + (ox.length : Int))) = n + (2 + (ox.length : Int)) := w64_of (by omega) (by omega)
      rw [e1, e2, hx, x1']
      simp only [cond_true, Option.bind_some, decide_true, Bool.not_true, cond_false, e4, e5, e6]
      refine ⟨_, rfl, ⟨rfl, rfl, by simp only; omega, by simp only; omega, ?_⟩, by simp only; omega⟩
      have e7 : (i + 1).toNat = i.toNat + 1 := by omega
      simp only [e7]
      rw [hs2]
      omega
    · have e1 : decide (i < (l'.length : Int)) = false := decide_eq_false hlt
      rw [e1]
      refine ⟨_, rfl, _, ?_, rfl⟩
      have hi : i.toNat = L.length := by omega
      rw [hi, List.take_length] at g5
      have hr : ref26_List N l' = some (((3, 0, L, ()), ()), ()) := by
        unfold ref26_List
        have er : room (0 + l'.length) 40 = true := room_of (by omega)
        rw [er, hL]
        rfl
      have hd : ref26_Derive N 1 l' = some (((6, 1, L, ()), ()), ()) := by
        unfold ref26_Derive
        have er : room (0 + l'.length) 40 = true := room_of (by omega)
        rw [er, hL]
        rfl
      have hs : ref26_Seal N key' (3, 0, L, ()) = some (((7, 0, [mkT key', .mk 3 0 L], ()), ()), ()) := rfl
      have hg : ref26_Sign N 1 (3, 0, L, ()) = some (((8, 1, [.mk 3 0 L], ()), ()), ()) := rfl
      have w1' : concrete_Write N ((3 : Int), (0 : Int), L, ()) = some ((0, ()), (oT, ())) := w1
      have w3' : concrete_Write N ((7 : Int), (0 : Int), [mkT key', .mk 3 0 L], ()) = some ((0, ()), (oS, ())) := w3
      have w5' : concrete_Write N ((8 : Int), (1 : Int), [.mk 3 0 L], ()) = some ((0, ()), (oG, ())) := w5
      have w7' : concrete_Write N ((6 : Int), (1 : Int), L, ()) = some ((0, ()), (oD, ())) := w7
      have c1 : decide ((oT.length : Int) = n) = true := decide_eq_true (by omega)
      have u1 : w64 (n + 37) = n + 37 := w64_of (by omega) (by omega)
      have u2 : w64 (n + 43) = n + 43 := w64_of (by omega) (by omega)
      have c2 : decide ((oS.length : Int) = n + 37) = true := decide_eq_true (by omega)
      have c3 : decide ((oG.length : Int) = n + 43) = true := decide_eq_true (by omega)
      have c4 : decide ((oD.length : Int) = 33) = true := decide_eq_true (by omega)
      show law44_ConcreteLengths_3 N n l' key' = _
      unfold law44_ConcreteLengths_3
      simp only [hr, hd, hs, hg, w1', w3', w5', w7', Option.bind_some, decide_true, cond_true, c1, u1, u2, c2, c3, c4]
end
theorem lengths_all (codes : List UInt8) (_h : codes.length ≤ 9223372036854775807) : law44_ConcreteLengths 18446744073709551616 codes = some ((true, ()), ()) :=
  lengths 18446744073709551616 (by omega) snd_all (fun i j hi hj => by
    have h := agp_all i j hi hj
    unfold agQ at h
    rw [Option.map_eq_some_iff] at h
    obtain ⟨⟨⟨q, t, ⟨⟩⟩, ⟨⟩⟩, h3, h4⟩ := h
    exact ⟨t, by rw [h3]; simp only at h4; rw [h4]⟩) codes
end Go.Proofs.YtajpblfinenmjaaDoor.Pl
