/- The ghost machine: an evaluator of the program's text over plain data, and its soundness. -/
import Derived.Test.YtajpblfinenmjaaGreatDoorGmLoop
import Derived.Test.YtajpblfinenmjaaGreatDoorGmInt
import Derived.KernelRfl
import Derived.Test.YtajpblfinenmjaaGreatDoorFnvConcreteHidesA
import Derived.Test.YtajpblfinenmjaaGreatDoorFnsConcreteHidesA
import Derived.Test.YtajpblfinenmjaaGreatDoorRngConcreteHidesA
import Derived.Test.YtajpblfinenmjaaGreatDoorFntConcreteHidesA
import Derived.Lib.Mul64
import Init
import Derived.Test.YtajpblfinenmjaaGreatDoorPoly
import Derived.Test.YtajpblfinenmjaaGreatDoorRngConcreteHidesC
set_option linter.unusedVariables false
set_option linter.unusedSimpArgs false
namespace Go.Proofs.YtajpblfinenmjaaGreatDoor.Pl
open Go
theorem dpos {p : Prop} [Decidable p] (h : p) : decide p = true := decide_eq_true h
theorem dneg {p : Prop} [Decidable p] (h : ¬ p) : decide p = false := decide_eq_false h
theorem w64_of {x : Int} (h : -9223372036854775808 ≤ x) (h' : x ≤ 9223372036854775807) : w64 x = x := w64_id h h'
theorem inR_of {i : Int} {n : Nat} (h : 0 ≤ i) (h' : i < (n : Int)) : inR i n = true := by simp [inR, h, h']
theorem zw3 {n k : Nat} (h : n * k ≤ 140737488355328) : room n k = true := by simp [room, h]
theorem zw4 {a b : Int} (h : 0 ≤ a) : a.tmod b = a % b := Int.tmod_eq_emod_of_nonneg h

theorem zw1k {α : Type} (l : List α) (d : α) {i : Nat} (h : i < l.length) : l.take (i + 1) = l.take i ++ [l.getD i d] := by
 rw [List.take_add_one, List.getElem?_eq_getElem h]
 simp [List.getD, h]
theorem cut_at (b : List UInt8) (k w : Nat) : cut b k (k + w) = (b.drop k).take w := by
 unfold cut; rw [List.drop_take]; congr 1; omega
end Go.Proofs.YtajpblfinenmjaaGreatDoor.Pl

namespace Go.Proofs.YtajpblfinenmjaaGreatDoor.Pl
open Go
def nmD (i : Nat) : TT.den := (2, ((i / 5 * 1048576 + i % 5 + 1 : Nat) : Int), [], ())
def shD (i j : Nat) : TT.den := (5, 0, [mkT (nmD i), mkT (nmD j)], ())
noncomputable def agQ (i j : Nat) : Option (Int × Int × List Tree × Unit) := (zq76 18446744073709551616 (4, 0, [mkT (nmD i)], ()) (nmD j)).map fun q => q.1.1
theorem agp_0 (j : Nat) (h2 : j < 15) : agQ 0 j = some (shD (min 0 j) (max 0 j)) := by
 match j, h2 with
 | 0, _ => show _ = _; kernel_rfl
 | 1, _ => show _ = _; kernel_rfl
 | 2, _ => show _ = _; kernel_rfl
 | 3, _ => show _ = _; kernel_rfl
 | 4, _ => show _ = _; kernel_rfl
 | 5, _ => show _ = _; kernel_rfl
 | 6, _ => show _ = _; kernel_rfl
 | 7, _ => show _ = _; kernel_rfl
 | 8, _ => show _ = _; kernel_rfl
 | 9, _ => show _ = _; kernel_rfl
 | 10, _ => show _ = _; kernel_rfl
 | 11, _ => show _ = _; kernel_rfl
 | 12, _ => show _ = _; kernel_rfl
 | 13, _ => show _ = _; kernel_rfl
 | 14, _ => show _ = _; kernel_rfl
 | n + 15, h => exact absurd h (by omega)
theorem agp_1 (j : Nat) (h2 : j < 15) : agQ 1 j = some (shD (min 1 j) (max 1 j)) := by
 match j, h2 with
 | 0, _ => show _ = _; kernel_rfl
 | 1, _ => show _ = _; kernel_rfl
 | 2, _ => show _ = _; kernel_rfl
 | 3, _ => show _ = _; kernel_rfl
 | 4, _ => show _ = _; kernel_rfl
 | 5, _ => show _ = _; kernel_rfl
 | 6, _ => show _ = _; kernel_rfl
 | 7, _ => show _ = _; kernel_rfl
 | 8, _ => show _ = _; kernel_rfl
 | 9, _ => show _ = _; kernel_rfl
 | 10, _ => show _ = _; kernel_rfl
 | 11, _ => show _ = _; kernel_rfl
 | 12, _ => show _ = _; kernel_rfl
 | 13, _ => show _ = _; kernel_rfl
 | 14, _ => show _ = _; kernel_rfl
 | n + 15, h => exact absurd h (by omega)
theorem agp_2 (j : Nat) (h2 : j < 15) : agQ 2 j = some (shD (min 2 j) (max 2 j)) := by
 match j, h2 with
 | 0, _ => show _ = _; kernel_rfl
 | 1, _ => show _ = _; kernel_rfl
 | 2, _ => show _ = _; kernel_rfl
 | 3, _ => show _ = _; kernel_rfl
 | 4, _ => show _ = _; kernel_rfl
 | 5, _ => show _ = _; kernel_rfl
 | 6, _ => show _ = _; kernel_rfl
 | 7, _ => show _ = _; kernel_rfl
 | 8, _ => show _ = _; kernel_rfl
 | 9, _ => show _ = _; kernel_rfl
 | 10, _ => show _ = _; kernel_rfl
 | 11, _ => show _ = _; kernel_rfl
 | 12, _ => show _ = _; kernel_rfl
 | 13, _ => show _ = _; kernel_rfl
 | 14, _ => show _ = _; kernel_rfl
 | n + 15, h => exact absurd h (by omega)
theorem agp_3 (j : Nat) (h2 : j < 15) : agQ 3 j = some (shD (min 3 j) (max 3 j)) := by
 match j, h2 with
 | 0, _ => show _ = _; kernel_rfl
 | 1, _ => show _ = _; kernel_rfl
 | 2, _ => show _ = _; kernel_rfl
 | 3, _ => show _ = _; kernel_rfl
 | 4, _ => show _ = _; kernel_rfl
 | 5, _ => show _ = _; kernel_rfl
 | 6, _ => show _ = _; kernel_rfl
 | 7, _ => show _ = _; kernel_rfl
 | 8, _ => show _ = _; kernel_rfl
 | 9, _ => show _ = _; kernel_rfl
 | 10, _ => show _ = _; kernel_rfl
 | 11, _ => show _ = _; kernel_rfl
 | 12, _ => show _ = _; kernel_rfl
 | 13, _ => show _ = _; kernel_rfl
 | 14, _ => show _ = _; kernel_rfl
 | n + 15, h => exact absurd h (by omega)
theorem agp_4 (j : Nat) (h2 : j < 15) : agQ 4 j = some (shD (min 4 j) (max 4 j)) := by
 match j, h2 with
 | 0, _ => show _ = _; kernel_rfl
 | 1, _ => show _ = _; kernel_rfl
 | 2, _ => show _ = _; kernel_rfl
 | 3, _ => show _ = _; kernel_rfl
 | 4, _ => show _ = _; kernel_rfl
 | 5, _ => show _ = _; kernel_rfl
 | 6, _ => show _ = _; kernel_rfl
 | 7, _ => show _ = _; kernel_rfl
 | 8, _ => show _ = _; kernel_rfl
 | 9, _ => show _ = _; kernel_rfl
 | 10, _ => show _ = _; kernel_rfl
 | 11, _ => show _ = _; kernel_rfl
 | 12, _ => show _ = _; kernel_rfl
 | 13, _ => show _ = _; kernel_rfl
 | 14, _ => show _ = _; kernel_rfl
 | n + 15, h => exact absurd h (by omega)
theorem agp_5 (j : Nat) (h2 : j < 15) : agQ 5 j = some (shD (min 5 j) (max 5 j)) := by
 match j, h2 with
 | 0, _ => show _ = _; kernel_rfl
 | 1, _ => show _ = _; kernel_rfl
 | 2, _ => show _ = _; kernel_rfl
 | 3, _ => show _ = _; kernel_rfl
 | 4, _ => show _ = _; kernel_rfl
 | 5, _ => show _ = _; kernel_rfl
 | 6, _ => show _ = _; kernel_rfl
 | 7, _ => show _ = _; kernel_rfl
 | 8, _ => show _ = _; kernel_rfl
 | 9, _ => show _ = _; kernel_rfl
 | 10, _ => show _ = _; kernel_rfl
 | 11, _ => show _ = _; kernel_rfl
 | 12, _ => show _ = _; kernel_rfl
 | 13, _ => show _ = _; kernel_rfl
 | 14, _ => show _ = _; kernel_rfl
 | n + 15, h => exact absurd h (by omega)
theorem agp_6 (j : Nat) (h2 : j < 15) : agQ 6 j = some (shD (min 6 j) (max 6 j)) := by
 match j, h2 with
 | 0, _ => show _ = _; kernel_rfl
 | 1, _ => show _ = _; kernel_rfl
 | 2, _ => show _ = _; kernel_rfl
 | 3, _ => show _ = _; kernel_rfl
 | 4, _ => show _ = _; kernel_rfl
 | 5, _ => show _ = _; kernel_rfl
 | 6, _ => show _ = _; kernel_rfl
 | 7, _ => show _ = _; kernel_rfl
 | 8, _ => show _ = _; kernel_rfl
 | 9, _ => show _ = _; kernel_rfl
 | 10, _ => show _ = _; kernel_rfl
 | 11, _ => show _ = _; kernel_rfl
 | 12, _ => show _ = _; kernel_rfl
 | 13, _ => show _ = _; kernel_rfl
 | 14, _ => show _ = _; kernel_rfl
 | n + 15, h => exact absurd h (by omega)
theorem agp_7 (j : Nat) (h2 : j < 15) : agQ 7 j = some (shD (min 7 j) (max 7 j)) := by
 match j, h2 with
 | 0, _ => show _ = _; kernel_rfl
 | 1, _ => show _ = _; kernel_rfl
 | 2, _ => show _ = _; kernel_rfl
 | 3, _ => show _ = _; kernel_rfl
 | 4, _ => show _ = _; kernel_rfl
 | 5, _ => show _ = _; kernel_rfl
 | 6, _ => show _ = _; kernel_rfl
 | 7, _ => show _ = _; kernel_rfl
 | 8, _ => show _ = _; kernel_rfl
 | 9, _ => show _ = _; kernel_rfl
 | 10, _ => show _ = _; kernel_rfl
 | 11, _ => show _ = _; kernel_rfl
 | 12, _ => show _ = _; kernel_rfl
 | 13, _ => show _ = _; kernel_rfl
 | 14, _ => show _ = _; kernel_rfl
 | n + 15, h => exact absurd h (by omega)
theorem agp_8 (j : Nat) (h2 : j < 15) : agQ 8 j = some (shD (min 8 j) (max 8 j)) := by
 match j, h2 with
 | 0, _ => show _ = _; kernel_rfl
 | 1, _ => show _ = _; kernel_rfl
 | 2, _ => show _ = _; kernel_rfl
 | 3, _ => show _ = _; kernel_rfl
 | 4, _ => show _ = _; kernel_rfl
 | 5, _ => show _ = _; kernel_rfl
 | 6, _ => show _ = _; kernel_rfl
 | 7, _ => show _ = _; kernel_rfl
 | 8, _ => show _ = _; kernel_rfl
 | 9, _ => show _ = _; kernel_rfl
 | 10, _ => show _ = _; kernel_rfl
 | 11, _ => show _ = _; kernel_rfl
 | 12, _ => show _ = _; kernel_rfl
 | 13, _ => show _ = _; kernel_rfl
 | 14, _ => show _ = _; kernel_rfl
 | n + 15, h => exact absurd h (by omega)
theorem agp_9 (j : Nat) (h2 : j < 15) : agQ 9 j = some (shD (min 9 j) (max 9 j)) := by
 match j, h2 with
 | 0, _ => show _ = _; kernel_rfl
 | 1, _ => show _ = _; kernel_rfl
 | 2, _ => show _ = _; kernel_rfl
 | 3, _ => show _ = _; kernel_rfl
 | 4, _ => show _ = _; kernel_rfl
 | 5, _ => show _ = _; kernel_rfl
 | 6, _ => show _ = _; kernel_rfl
 | 7, _ => show _ = _; kernel_rfl
 | 8, _ => show _ = _; kernel_rfl
 | 9, _ => show _ = _; kernel_rfl
 | 10, _ => show _ = _; kernel_rfl
 | 11, _ => show _ = _; kernel_rfl
 | 12, _ => show _ = _; kernel_rfl
 | 13, _ => show _ = _; kernel_rfl
 | 14, _ => show _ = _; kernel_rfl
 | n + 15, h => exact absurd h (by omega)
theorem agp_10 (j : Nat) (h2 : j < 15) : agQ 10 j = some (shD (min 10 j) (max 10 j)) := by
 match j, h2 with
 | 0, _ => show _ = _; kernel_rfl
 | 1, _ => show _ = _; kernel_rfl
 | 2, _ => show _ = _; kernel_rfl
 | 3, _ => show _ = _; kernel_rfl
 | 4, _ => show _ = _; kernel_rfl
 | 5, _ => show _ = _; kernel_rfl
 | 6, _ => show _ = _; kernel_rfl
 | 7, _ => show _ = _; kernel_rfl
 | 8, _ => show _ = _; kernel_rfl
 | 9, _ => show _ = _; kernel_rfl
 | 10, _ => show _ = _; kernel_rfl
 | 11, _ => show _ = _; kernel_rfl
 | 12, _ => show _ = _; kernel_rfl
 | 13, _ => show _ = _; kernel_rfl
 | 14, _ => show _ = _; kernel_rfl
 | n + 15, h => exact absurd h (by omega)
theorem agp_11 (j : Nat) (h2 : j < 15) : agQ 11 j = some (shD (min 11 j) (max 11 j)) := by
 match j, h2 with
 | 0, _ => show _ = _; kernel_rfl
 | 1, _ => show _ = _; kernel_rfl
 | 2, _ => show _ = _; kernel_rfl
 | 3, _ => show _ = _; kernel_rfl
 | 4, _ => show _ = _; kernel_rfl
 | 5, _ => show _ = _; kernel_rfl
 | 6, _ => show _ = _; kernel_rfl
 | 7, _ => show _ = _; kernel_rfl
 | 8, _ => show _ = _; kernel_rfl
 | 9, _ => show _ = _; kernel_rfl
 | 10, _ => show _ = _; kernel_rfl
 | 11, _ => show _ = _; kernel_rfl
 | 12, _ => show _ = _; kernel_rfl
 | 13, _ => show _ = _; kernel_rfl
 | 14, _ => show _ = _; kernel_rfl
 | n + 15, h => exact absurd h (by omega)
theorem agp_12 (j : Nat) (h2 : j < 15) : agQ 12 j = some (shD (min 12 j) (max 12 j)) := by
 match j, h2 with
 | 0, _ => show _ = _; kernel_rfl
 | 1, _ => show _ = _; kernel_rfl
 | 2, _ => show _ = _; kernel_rfl
 | 3, _ => show _ = _; kernel_rfl
 | 4, _ => show _ = _; kernel_rfl
 | 5, _ => show _ = _; kernel_rfl
 | 6, _ => show _ = _; kernel_rfl
 | 7, _ => show _ = _; kernel_rfl
 | 8, _ => show _ = _; kernel_rfl
 | 9, _ => show _ = _; kernel_rfl
 | 10, _ => show _ = _; kernel_rfl
 | 11, _ => show _ = _; kernel_rfl
 | 12, _ => show _ = _; kernel_rfl
 | 13, _ => show _ = _; kernel_rfl
 | 14, _ => show _ = _; kernel_rfl
 | n + 15, h => exact absurd h (by omega)
theorem agp_13 (j : Nat) (h2 : j < 15) : agQ 13 j = some (shD (min 13 j) (max 13 j)) := by
 match j, h2 with
 | 0, _ => show _ = _; kernel_rfl
 | 1, _ => show _ = _; kernel_rfl
 | 2, _ => show _ = _; kernel_rfl
 | 3, _ => show _ = _; kernel_rfl
 | 4, _ => show _ = _; kernel_rfl
 | 5, _ => show _ = _; kernel_rfl
 | 6, _ => show _ = _; kernel_rfl
 | 7, _ => show _ = _; kernel_rfl
 | 8, _ => show _ = _; kernel_rfl
 | 9, _ => show _ = _; kernel_rfl
 | 10, _ => show _ = _; kernel_rfl
 | 11, _ => show _ = _; kernel_rfl
 | 12, _ => show _ = _; kernel_rfl
 | 13, _ => show _ = _; kernel_rfl
 | 14, _ => show _ = _; kernel_rfl
 | n + 15, h => exact absurd h (by omega)
theorem agp_14 (j : Nat) (h2 : j < 15) : agQ 14 j = some (shD (min 14 j) (max 14 j)) := by
 match j, h2 with
 | 0, _ => show _ = _; kernel_rfl
 | 1, _ => show _ = _; kernel_rfl
 | 2, _ => show _ = _; kernel_rfl
 | 3, _ => show _ = _; kernel_rfl
 | 4, _ => show _ = _; kernel_rfl
 | 5, _ => show _ = _; kernel_rfl
 | 6, _ => show _ = _; kernel_rfl
 | 7, _ => show _ = _; kernel_rfl
 | 8, _ => show _ = _; kernel_rfl
 | 9, _ => show _ = _; kernel_rfl
 | 10, _ => show _ = _; kernel_rfl
 | 11, _ => show _ = _; kernel_rfl
 | 12, _ => show _ = _; kernel_rfl
 | 13, _ => show _ = _; kernel_rfl
 | 14, _ => show _ = _; kernel_rfl
 | n + 15, h => exact absurd h (by omega)
theorem zwf7 (i j : Nat) (h : i < 15) (h2 : j < 15) : agQ i j = some (shD (min i j) (max i j)) := by
 match i, h with
 | 0, _ => exact agp_0 j h2
 | 1, _ => exact agp_1 j h2
 | 2, _ => exact agp_2 j h2
 | 3, _ => exact agp_3 j h2
 | 4, _ => exact agp_4 j h2
 | 5, _ => exact agp_5 j h2
 | 6, _ => exact agp_6 j h2
 | 7, _ => exact agp_7 j h2
 | 8, _ => exact agp_8 j h2
 | 9, _ => exact agp_9 j h2
 | 10, _ => exact agp_10 j h2
 | 11, _ => exact agp_11 j h2
 | 12, _ => exact agp_12 j h2
 | 13, _ => exact agp_13 j h2
 | 14, _ => exact agp_14 j h2
 | n + 15, h => exact absurd h (by omega)
theorem snd_0 (j : Nat) (h : 0 ≤ j) (h2 : j < 15) : zq100 18446744073709551616 (shD 0 j) = some ((true, ()), ()) := by
 match j, h, h2 with
 | 0, h, _ => show _ = _; kernel_rfl
 | 1, h, _ => show _ = _; kernel_rfl
 | 2, h, _ => show _ = _; kernel_rfl
 | 3, h, _ => show _ = _; kernel_rfl
 | 4, h, _ => show _ = _; kernel_rfl
 | 5, h, _ => show _ = _; kernel_rfl
 | 6, h, _ => show _ = _; kernel_rfl
 | 7, h, _ => show _ = _; kernel_rfl
 | 8, h, _ => show _ = _; kernel_rfl
 | 9, h, _ => show _ = _; kernel_rfl
 | 10, h, _ => show _ = _; kernel_rfl
 | 11, h, _ => show _ = _; kernel_rfl
 | 12, h, _ => show _ = _; kernel_rfl
 | 13, h, _ => show _ = _; kernel_rfl
 | 14, h, _ => show _ = _; kernel_rfl
 | n + 15, _, h => exact absurd h (by omega)
theorem snd_1 (j : Nat) (h : 1 ≤ j) (h2 : j < 15) : zq100 18446744073709551616 (shD 1 j) = some ((true, ()), ()) := by
 match j, h, h2 with
 | 0, h, _ => exact absurd h (by decide)
 | 1, h, _ => show _ = _; kernel_rfl
 | 2, h, _ => show _ = _; kernel_rfl
 | 3, h, _ => show _ = _; kernel_rfl
 | 4, h, _ => show _ = _; kernel_rfl
 | 5, h, _ => show _ = _; kernel_rfl
 | 6, h, _ => show _ = _; kernel_rfl
 | 7, h, _ => show _ = _; kernel_rfl
 | 8, h, _ => show _ = _; kernel_rfl
 | 9, h, _ => show _ = _; kernel_rfl
 | 10, h, _ => show _ = _; kernel_rfl
 | 11, h, _ => show _ = _; kernel_rfl
 | 12, h, _ => show _ = _; kernel_rfl
 | 13, h, _ => show _ = _; kernel_rfl
 | 14, h, _ => show _ = _; kernel_rfl
 | n + 15, _, h => exact absurd h (by omega)
theorem snd_2 (j : Nat) (h : 2 ≤ j) (h2 : j < 15) : zq100 18446744073709551616 (shD 2 j) = some ((true, ()), ()) := by
 match j, h, h2 with
 | 0, h, _ => exact absurd h (by decide)
 | 1, h, _ => exact absurd h (by decide)
 | 2, h, _ => show _ = _; kernel_rfl
 | 3, h, _ => show _ = _; kernel_rfl
 | 4, h, _ => show _ = _; kernel_rfl
 | 5, h, _ => show _ = _; kernel_rfl
 | 6, h, _ => show _ = _; kernel_rfl
 | 7, h, _ => show _ = _; kernel_rfl
 | 8, h, _ => show _ = _; kernel_rfl
 | 9, h, _ => show _ = _; kernel_rfl
 | 10, h, _ => show _ = _; kernel_rfl
 | 11, h, _ => show _ = _; kernel_rfl
 | 12, h, _ => show _ = _; kernel_rfl
 | 13, h, _ => show _ = _; kernel_rfl
 | 14, h, _ => show _ = _; kernel_rfl
 | n + 15, _, h => exact absurd h (by omega)
theorem snd_3 (j : Nat) (h : 3 ≤ j) (h2 : j < 15) : zq100 18446744073709551616 (shD 3 j) = some ((true, ()), ()) := by
 match j, h, h2 with
 | 0, h, _ => exact absurd h (by decide)
 | 1, h, _ => exact absurd h (by decide)
 | 2, h, _ => exact absurd h (by decide)
 | 3, h, _ => show _ = _; kernel_rfl
 | 4, h, _ => show _ = _; kernel_rfl
 | 5, h, _ => show _ = _; kernel_rfl
 | 6, h, _ => show _ = _; kernel_rfl
 | 7, h, _ => show _ = _; kernel_rfl
 | 8, h, _ => show _ = _; kernel_rfl
 | 9, h, _ => show _ = _; kernel_rfl
 | 10, h, _ => show _ = _; kernel_rfl
 | 11, h, _ => show _ = _; kernel_rfl
 | 12, h, _ => show _ = _; kernel_rfl
 | 13, h, _ => show _ = _; kernel_rfl
 | 14, h, _ => show _ = _; kernel_rfl
 | n + 15, _, h => exact absurd h (by omega)
theorem snd_4 (j : Nat) (h : 4 ≤ j) (h2 : j < 15) : zq100 18446744073709551616 (shD 4 j) = some ((true, ()), ()) := by
 match j, h, h2 with
 | 0, h, _ => exact absurd h (by decide)
 | 1, h, _ => exact absurd h (by decide)
 | 2, h, _ => exact absurd h (by decide)
 | 3, h, _ => exact absurd h (by decide)
 | 4, h, _ => show _ = _; kernel_rfl
 | 5, h, _ => show _ = _; kernel_rfl
 | 6, h, _ => show _ = _; kernel_rfl
 | 7, h, _ => show _ = _; kernel_rfl
 | 8, h, _ => show _ = _; kernel_rfl
 | 9, h, _ => show _ = _; kernel_rfl
 | 10, h, _ => show _ = _; kernel_rfl
 | 11, h, _ => show _ = _; kernel_rfl
 | 12, h, _ => show _ = _; kernel_rfl
 | 13, h, _ => show _ = _; kernel_rfl
 | 14, h, _ => show _ = _; kernel_rfl
 | n + 15, _, h => exact absurd h (by omega)
theorem snd_5 (j : Nat) (h : 5 ≤ j) (h2 : j < 15) : zq100 18446744073709551616 (shD 5 j) = some ((true, ()), ()) := by
 match j, h, h2 with
 | 0, h, _ => exact absurd h (by decide)
 | 1, h, _ => exact absurd h (by decide)
 | 2, h, _ => exact absurd h (by decide)
 | 3, h, _ => exact absurd h (by decide)
 | 4, h, _ => exact absurd h (by decide)
 | 5, h, _ => show _ = _; kernel_rfl
 | 6, h, _ => show _ = _; kernel_rfl
 | 7, h, _ => show _ = _; kernel_rfl
 | 8, h, _ => show _ = _; kernel_rfl
 | 9, h, _ => show _ = _; kernel_rfl
 | 10, h, _ => show _ = _; kernel_rfl
 | 11, h, _ => show _ = _; kernel_rfl
 | 12, h, _ => show _ = _; kernel_rfl
 | 13, h, _ => show _ = _; kernel_rfl
 | 14, h, _ => show _ = _; kernel_rfl
 | n + 15, _, h => exact absurd h (by omega)
theorem snd_6 (j : Nat) (h : 6 ≤ j) (h2 : j < 15) : zq100 18446744073709551616 (shD 6 j) = some ((true, ()), ()) := by
 match j, h, h2 with
 | 0, h, _ => exact absurd h (by decide)
 | 1, h, _ => exact absurd h (by decide)
 | 2, h, _ => exact absurd h (by decide)
 | 3, h, _ => exact absurd h (by decide)
 | 4, h, _ => exact absurd h (by decide)
 | 5, h, _ => exact absurd h (by decide)
 | 6, h, _ => show _ = _; kernel_rfl
 | 7, h, _ => show _ = _; kernel_rfl
 | 8, h, _ => show _ = _; kernel_rfl
 | 9, h, _ => show _ = _; kernel_rfl
 | 10, h, _ => show _ = _; kernel_rfl
 | 11, h, _ => show _ = _; kernel_rfl
 | 12, h, _ => show _ = _; kernel_rfl
 | 13, h, _ => show _ = _; kernel_rfl
 | 14, h, _ => show _ = _; kernel_rfl
 | n + 15, _, h => exact absurd h (by omega)
theorem snd_7 (j : Nat) (h : 7 ≤ j) (h2 : j < 15) : zq100 18446744073709551616 (shD 7 j) = some ((true, ()), ()) := by
 match j, h, h2 with
 | 0, h, _ => exact absurd h (by decide)
 | 1, h, _ => exact absurd h (by decide)
 | 2, h, _ => exact absurd h (by decide)
 | 3, h, _ => exact absurd h (by decide)
 | 4, h, _ => exact absurd h (by decide)
 | 5, h, _ => exact absurd h (by decide)
 | 6, h, _ => exact absurd h (by decide)
 | 7, h, _ => show _ = _; kernel_rfl
 | 8, h, _ => show _ = _; kernel_rfl
 | 9, h, _ => show _ = _; kernel_rfl
 | 10, h, _ => show _ = _; kernel_rfl
 | 11, h, _ => show _ = _; kernel_rfl
 | 12, h, _ => show _ = _; kernel_rfl
 | 13, h, _ => show _ = _; kernel_rfl
 | 14, h, _ => show _ = _; kernel_rfl
 | n + 15, _, h => exact absurd h (by omega)
theorem snd_8 (j : Nat) (h : 8 ≤ j) (h2 : j < 15) : zq100 18446744073709551616 (shD 8 j) = some ((true, ()), ()) := by
 match j, h, h2 with
 | 0, h, _ => exact absurd h (by decide)
 | 1, h, _ => exact absurd h (by decide)
 | 2, h, _ => exact absurd h (by decide)
 | 3, h, _ => exact absurd h (by decide)
 | 4, h, _ => exact absurd h (by decide)
 | 5, h, _ => exact absurd h (by decide)
 | 6, h, _ => exact absurd h (by decide)
 | 7, h, _ => exact absurd h (by decide)
 | 8, h, _ => show _ = _; kernel_rfl
 | 9, h, _ => show _ = _; kernel_rfl
 | 10, h, _ => show _ = _; kernel_rfl
 | 11, h, _ => show _ = _; kernel_rfl
 | 12, h, _ => show _ = _; kernel_rfl
 | 13, h, _ => show _ = _; kernel_rfl
 | 14, h, _ => show _ = _; kernel_rfl
 | n + 15, _, h => exact absurd h (by omega)
theorem snd_9 (j : Nat) (h : 9 ≤ j) (h2 : j < 15) : zq100 18446744073709551616 (shD 9 j) = some ((true, ()), ()) := by
 match j, h, h2 with
 | 0, h, _ => exact absurd h (by decide)
 | 1, h, _ => exact absurd h (by decide)
 | 2, h, _ => exact absurd h (by decide)
 | 3, h, _ => exact absurd h (by decide)
 | 4, h, _ => exact absurd h (by decide)
 | 5, h, _ => exact absurd h (by decide)
 | 6, h, _ => exact absurd h (by decide)
 | 7, h, _ => exact absurd h (by decide)
 | 8, h, _ => exact absurd h (by decide)
 | 9, h, _ => show _ = _; kernel_rfl
 | 10, h, _ => show _ = _; kernel_rfl
 | 11, h, _ => show _ = _; kernel_rfl
 | 12, h, _ => show _ = _; kernel_rfl
 | 13, h, _ => show _ = _; kernel_rfl
 | 14, h, _ => show _ = _; kernel_rfl
 | n + 15, _, h => exact absurd h (by omega)
theorem snd_10 (j : Nat) (h : 10 ≤ j) (h2 : j < 15) : zq100 18446744073709551616 (shD 10 j) = some ((true, ()), ()) := by
 match j, h, h2 with
 | 0, h, _ => exact absurd h (by decide)
 | 1, h, _ => exact absurd h (by decide)
 | 2, h, _ => exact absurd h (by decide)
 | 3, h, _ => exact absurd h (by decide)
 | 4, h, _ => exact absurd h (by decide)
 | 5, h, _ => exact absurd h (by decide)
 | 6, h, _ => exact absurd h (by decide)
 | 7, h, _ => exact absurd h (by decide)
 | 8, h, _ => exact absurd h (by decide)
 | 9, h, _ => exact absurd h (by decide)
 | 10, h, _ => show _ = _; kernel_rfl
 | 11, h, _ => show _ = _; kernel_rfl
 | 12, h, _ => show _ = _; kernel_rfl
 | 13, h, _ => show _ = _; kernel_rfl
 | 14, h, _ => show _ = _; kernel_rfl
 | n + 15, _, h => exact absurd h (by omega)
theorem snd_11 (j : Nat) (h : 11 ≤ j) (h2 : j < 15) : zq100 18446744073709551616 (shD 11 j) = some ((true, ()), ()) := by
 match j, h, h2 with
 | 0, h, _ => exact absurd h (by decide)
 | 1, h, _ => exact absurd h (by decide)
 | 2, h, _ => exact absurd h (by decide)
 | 3, h, _ => exact absurd h (by decide)
 | 4, h, _ => exact absurd h (by decide)
 | 5, h, _ => exact absurd h (by decide)
 | 6, h, _ => exact absurd h (by decide)
 | 7, h, _ => exact absurd h (by decide)
 | 8, h, _ => exact absurd h (by decide)
 | 9, h, _ => exact absurd h (by decide)
 | 10, h, _ => exact absurd h (by decide)
 | 11, h, _ => show _ = _; kernel_rfl
 | 12, h, _ => show _ = _; kernel_rfl
 | 13, h, _ => show _ = _; kernel_rfl
 | 14, h, _ => show _ = _; kernel_rfl
 | n + 15, _, h => exact absurd h (by omega)
theorem snd_12 (j : Nat) (h : 12 ≤ j) (h2 : j < 15) : zq100 18446744073709551616 (shD 12 j) = some ((true, ()), ()) := by
 match j, h, h2 with
 | 0, h, _ => exact absurd h (by decide)
 | 1, h, _ => exact absurd h (by decide)
 | 2, h, _ => exact absurd h (by decide)
 | 3, h, _ => exact absurd h (by decide)
 | 4, h, _ => exact absurd h (by decide)
 | 5, h, _ => exact absurd h (by decide)
 | 6, h, _ => exact absurd h (by decide)
 | 7, h, _ => exact absurd h (by decide)
 | 8, h, _ => exact absurd h (by decide)
 | 9, h, _ => exact absurd h (by decide)
 | 10, h, _ => exact absurd h (by decide)
 | 11, h, _ => exact absurd h (by decide)
 | 12, h, _ => show _ = _; kernel_rfl
 | 13, h, _ => show _ = _; kernel_rfl
 | 14, h, _ => show _ = _; kernel_rfl
 | n + 15, _, h => exact absurd h (by omega)
theorem snd_13 (j : Nat) (h : 13 ≤ j) (h2 : j < 15) : zq100 18446744073709551616 (shD 13 j) = some ((true, ()), ()) := by
 match j, h, h2 with
 | 0, h, _ => exact absurd h (by decide)
 | 1, h, _ => exact absurd h (by decide)
 | 2, h, _ => exact absurd h (by decide)
 | 3, h, _ => exact absurd h (by decide)
 | 4, h, _ => exact absurd h (by decide)
 | 5, h, _ => exact absurd h (by decide)
 | 6, h, _ => exact absurd h (by decide)
 | 7, h, _ => exact absurd h (by decide)
 | 8, h, _ => exact absurd h (by decide)
 | 9, h, _ => exact absurd h (by decide)
 | 10, h, _ => exact absurd h (by decide)
 | 11, h, _ => exact absurd h (by decide)
 | 12, h, _ => exact absurd h (by decide)
 | 13, h, _ => show _ = _; kernel_rfl
 | 14, h, _ => show _ = _; kernel_rfl
 | n + 15, _, h => exact absurd h (by omega)
theorem snd_14 (j : Nat) (h : 14 ≤ j) (h2 : j < 15) : zq100 18446744073709551616 (shD 14 j) = some ((true, ()), ()) := by
 match j, h, h2 with
 | 0, h, _ => exact absurd h (by decide)
 | 1, h, _ => exact absurd h (by decide)
 | 2, h, _ => exact absurd h (by decide)
 | 3, h, _ => exact absurd h (by decide)
 | 4, h, _ => exact absurd h (by decide)
 | 5, h, _ => exact absurd h (by decide)
 | 6, h, _ => exact absurd h (by decide)
 | 7, h, _ => exact absurd h (by decide)
 | 8, h, _ => exact absurd h (by decide)
 | 9, h, _ => exact absurd h (by decide)
 | 10, h, _ => exact absurd h (by decide)
 | 11, h, _ => exact absurd h (by decide)
 | 12, h, _ => exact absurd h (by decide)
 | 13, h, _ => exact absurd h (by decide)
 | 14, h, _ => show _ = _; kernel_rfl
 | n + 15, _, h => exact absurd h (by omega)
theorem zwf8 (i j : Nat) (h : i ≤ j) (h2 : j < 15) : zq100 18446744073709551616 (shD i j) = some ((true, ()), ()) := by
 have hi : i < 15 := by omega
 match i, hi with
 | 0, _ => exact snd_0 j h h2
 | 1, _ => exact snd_1 j h h2
 | 2, _ => exact snd_2 j h h2
 | 3, _ => exact snd_3 j h h2
 | 4, _ => exact snd_4 j h h2
 | 5, _ => exact snd_5 j h h2
 | 6, _ => exact snd_6 j h h2
 | 7, _ => exact snd_7 j h h2
 | 8, _ => exact snd_8 j h h2
 | 9, _ => exact snd_9 j h h2
 | 10, _ => exact snd_10 j h h2
 | 11, _ => exact snd_11 j h h2
 | 12, _ => exact snd_12 j h h2
 | 13, _ => exact snd_13 j h h2
 | 14, _ => exact snd_14 j h h2
 | n + 15, h => exact absurd h (by omega)
end Go.Proofs.YtajpblfinenmjaaGreatDoor.Pl

namespace Go.Proofs.YtajpblfinenmjaaGreatDoor.Pl
open Go
def args : Tree → List Tree
 | .mk _ _ l => l
def SOk : Tree → Prop
 | .mk o v l => 0 ≤ v ∧ v ≤ 10000000 ∧ ((o = 1 ∧ l = []) ∨ (o = 2 ∧ l = []) ∨ (o = 9 ∧ l = []) ∨ (o = 3 ∧ v = 0) ∨ o = 6 ∨ (o = 4 ∧ v = 0 ∧ ∃ i, i < 15 ∧ l = [mkT (nmD i)]) ∨ (o = 8 ∧ ∃ a, l = [a]) ∨
   (o = 5 ∧ v = 0 ∧ ∃ i j, i ≤ j ∧ j < 15 ∧ l = [mkT (nmD i), mkT (nmD j)]) ∨ (o = 7 ∧ v = 0 ∧ ∃ a b, l = [a, b]))
def bdn (e : Nat) : Nat := if e < 4 then 3 else 4
theorem bdn_le (e : Nat) : bdn e ≤ 4 := by unfold bdn; split <;> omega
theorem bdn_ge (e : Nat) : 3 ≤ bdn e := by unfold bdn; split <;> omega
theorem zwf9 (e : Nat) : bdn e ≤ bdn (e + 1) := by unfold bdn; split <;> split <;> omega
theorem bdn1 (e : Nat) : 1 ≤ bdn e := Nat.le_trans (by omega) (bdn_ge e)
theorem bdn2 (e : Nat) : 2 ≤ bdn e := Nat.le_trans (by omega) (bdn_ge e)
def Gd : Nat → Tree → Prop
 | 0, _ => False
 | e + 1, t => SOk t ∧ (args t).length ≤ bdn e ∧ ∀ a ∈ args t, Gd e a
theorem Gd.mono : ∀ {e : Nat} {t : Tree}, Gd e t → Gd (e + 1) t
 | 0, _, h => h.elim
 | e + 1, t, h => ⟨h.1, Nat.le_trans h.2.1 (zwf9 _), fun a ha => Gd.mono (h.2.2 a ha)⟩
theorem Gd.le {e f : Nat} {t : Tree} (h : Gd e t) (hf : e ≤ f) : Gd f t := by
 obtain ⟨k, rfl⟩ := Nat.exists_eq_add_of_le hf
 induction k with
 | zero => exact h
 | succ k ih => exact (ih (by omega)).mono
section
variable (N : Nat) (hsh : ∀ i j, i ≤ j → j < 15 → zq100 N (shD i j) = some ((true, ()), ()))
include hsh
theorem zwfa {t : Tree} (h : SOk t) : zq100 N t.un = some ((true, ()), ()) := by
 obtain ⟨o, v, l⟩ := t
 obtain ⟨h0, h1, h⟩ := h
 have e0 : decide ((0 : Int) ≤ v) = true := decide_eq_true h0
 rcases h with ⟨rfl, rfl⟩ | ⟨rfl, rfl⟩ | ⟨rfl, rfl⟩ | ⟨rfl, rfl⟩ | rfl | ⟨rfl, rfl, i, hi, rfl⟩ | ⟨rfl, a, rfl⟩ | ⟨rfl, rfl, i, j, hij, hj, rfl⟩ | ⟨rfl, rfl, a, b, rfl⟩
 ·rfl
 ·show some ((decide ((0 : Int) ≤ v), ()), ()) = _
  rw [e0]
 ·show some ((decide ((0 : Int) ≤ v), ()), ()) = _
  rw [e0]
 ·rfl
 ·show some ((decide ((0 : Int) ≤ v), ()), ()) = _
  rw [e0]
 ·rfl
 ·show some ((decide ((0 : Int) ≤ v), ()), ()) = _
  rw [e0]
 ·exact hsh i j hij hj
 ·rfl
theorem zwfb {l : List (Tree × Int)} (h : ∀ p ∈ l, p.2 ≤ 60 ∧ SOk p.1) : vAll N l = some true := by
 induction l with
 | nil => rfl
 | cons p l ih =>
  have h1 := h p (by simp)
  have h2 := ih fun q hq => h q (by simp [hq])
  unfold vAll
  rw [zwfa N hsh h1.2, h2]
  show some (decide (p.2 ≤ 60) && true && true) = some true
  rw [decide_eq_true h1.1]
  rfl
omit hsh in
def nbd : Nat → Nat
 | 0 => 0
 | e + 1 => 1 + 4 * nbd e
omit hsh in
theorem vN_ok : ∀ (e : Nat) (t : Tree) (d : Int), Gd e t → (vN t d).length ≤ nbd e ∧ ∀ p ∈ vN t d, p.2 ≤ d + e ∧ SOk p.1
 | 0, _, _, h => h.elim
 | e + 1, .mk o v l, d, h => by
  obtain ⟨h1, h2, h3⟩ := h
  have key : ∀ l : List Tree, (∀ a ∈ l, Gd e a) → (vNL l (d + 1)).length ≤ l.length * nbd e ∧ ∀ p ∈ vNL l (d + 1), p.2 ≤ d + 1 + e ∧ SOk p.1 := by
   intro l
   induction l with
   | nil => intro _; exact ⟨by simp [vNL], by simp [vNL]⟩
   | cons a l ih =>
    intro hl
    have i1 := ih fun x hx => hl x (by simp [hx])
    have i2 := vN_ok e a (d + 1) (hl a (by simp))
    refine ⟨?_, fun p hp => ?_⟩
    ·simp only [vNL, List.length_append, List.length_cons, Nat.add_mul]
     omega
    ·simp only [vNL, List.mem_append] at hp
     exact hp.elim (i2.2 p) (i1.2 p)
  have k := key l h3
  have h2' : l.length ≤ 4 := Nat.le_trans h2 (bdn_le _)
  refine ⟨?_, fun p hp => ?_⟩
  ·have := Nat.mul_le_mul_right (nbd e) h2'
   simp only [vN, List.length_cons, nbd]
   omega
  ·simp only [vN, List.mem_cons] at hp
   rcases hp with rfl | hp
   ·exact ⟨by show d ≤ d + ((e + 1 : Nat) : Int); omega, h1⟩
   ·have := k.2 p hp
    exact ⟨by have := this.1; omega, this.2⟩
theorem zw2y {e : Nat} (he : e ≤ 5) {t : Tree} (h : Gd e t) : zq98 N t.un = some ((true, ()), ()) := by
 obtain ⟨h1, h2⟩ := vN_ok e t 1 h
 have hn : nbd e ≤ 600 := by
  match e, he with
  | 0, _ => decide
  | 1, _ => decide
  | 2, _ => decide
  | 3, _ => decide
  | 4, _ => decide
  | 5, _ => decide
 unfold zq98
 have hT : mkT t.un = t := by cases t; rfl
 rw [hT, Nat.ble_eq_true_of_le (Nat.le_trans h1 hn), cond_true, zwfb N hsh fun p hp => ⟨by have := (h2 p hp).1; omega, (h2 p hp).2⟩]
 rfl
end
end Go.Proofs.YtajpblfinenmjaaGreatDoor.Pl

namespace Go.Proofs.YtajpblfinenmjaaGreatDoor.Pl
open Go
def nbr (l : List UInt8) : UInt64 := l.foldl (fun v x => shl64 v 8 ||| x.toUInt64) 0
theorem zw98 (l : List UInt8) (x : UInt8) : nbr (l ++ [x]) = shl64 (nbr l) 8 ||| x.toUInt64 := by simp [nbr]
theorem zw99 (l : List UInt8) {i : Nat} (h : i < l.length) : nbr (l.take (i + 1)) = shl64 (nbr (l.take i)) 8 ||| (l.getD i 0).toUInt64 := by
 rw [List.take_add_one, List.getElem?_eq_getElem h]
 simp only [Option.toList_some, zw98]
 simp [List.getD, h]
theorem zw5q (N : Nat) {b : List UInt8} {at_ w : Int} (hw : 1 ≤ w) (hw8 : w ≤ 8) (h0 : 0 ≤ at_) (hb : at_ + w ≤ (b.length : Int)) (hl : b.length ≤ 4611686018427387904) (hN : 8 < N) :
  zq82 N b at_ w = some ((nbr ((b.drop at_.toNat).take w.toNat), true, ()), ()) := by
 obtain ⟨k, rfl⟩ := Int.eq_ofNat_of_zero_le h0
 obtain ⟨m, rfl⟩ := Int.eq_ofNat_of_zero_le (show 0 ≤ w by omega)
 have hs : cut b k (k + m) = (b.drop k).take m := cut_at b k m
 have hlen : ((b.drop k).take m).length = m := by simp; omega
 have e1 : ((k : Int) + (m : Int)).toNat = k + m := by omega
 unfold zq82 zq82_1 zq90 zq90_1
 simp (disch := omega) only [dpos, dneg, w64_of, inR_of, zw3, zw4, cond_true, cond_false, Bool.and_self, Bool.and_true, Bool.true_and, Bool.and_false, Bool.false_and, Bool.not_true, Bool.not_false, Option.bind_some, List.length_cons, List.length_nil, Nat.zero_add, Int.toNat_natCast, e1, hs]
 generalize (b.drop k).take m = s at hlen
 subst hlen
 unfold zq82_2
 refine (zwn (fun i : Nat => ((nbr (s.take i), s, (s.length : Int), (i : Int), ()), ())) (n := s.length) ?_ (e := ((nbr s, ()), ())) ?_ (by omega)).trans rfl
 ·intro i hi
  show zq82_s3 N _ s _ _ = _
  unfold zq82_s3
  simp (disch := omega) only [dpos, dneg, w64_of, inR_of, zw3, zw4, cond_true, cond_false, Bool.and_self, Bool.and_true, Bool.true_and, Bool.and_false, Bool.false_and, Bool.not_true, Bool.not_false, Option.bind_some, List.length_cons, List.length_nil, Nat.zero_add, Int.toNat_natCast, zw99 s hi, Int.natCast_add, Int.natCast_one]
 ·show zq82_s3 N _ s _ _ = _
  unfold zq82_s3
  simp (disch := omega) only [dpos, dneg, w64_of, inR_of, zw3, zw4, cond_true, cond_false, Bool.and_self, Bool.and_true, Bool.true_and, Bool.and_false, Bool.false_and, Bool.not_true, Bool.not_false, Option.bind_some, List.length_cons, List.length_nil, Nat.zero_add, List.take_length]

theorem zwfc (N : Nat) {b : List UInt8} {at_ w : Int} (hw : 1 ≤ w) (hw8 : w ≤ 8) (h0 : 0 ≤ at_) (hb : at_ + w ≤ (b.length : Int)) (hl : b.length ≤ 4611686018427387904) (hN : 8 < N) :
  zq59 N b at_ w = some ((nbr ((b.drop at_.toNat).take w.toNat), true, ()), ()) := by
 obtain ⟨k, rfl⟩ := Int.eq_ofNat_of_zero_le h0
 obtain ⟨m, rfl⟩ := Int.eq_ofNat_of_zero_le (show 0 ≤ w by omega)
 have hlen : ((b.drop k).take m).length = m := by simp; omega
 unfold zq59 zq59_1
 simp (disch := omega) only [dpos, dneg, w64_of, inR_of, zw3, zw4, cond_true, cond_false, Bool.and_self, Bool.and_true, Bool.true_and, Bool.and_false, Bool.false_and, Bool.not_true, Bool.not_false, Option.bind_some, List.length_cons, List.length_nil, Nat.zero_add, Int.toNat_natCast]
 unfold zq59_2
 refine (zwn (fun i : Nat => ((b, (k : Int), (m : Int), nbr (((b.drop k).take m).take i), ((k + i : Nat) : Int), ()), ())) (n := m) ?_ (e := ((nbr ((b.drop k).take m), ()), ())) ?_ (by omega)).trans rfl
 ·intro i hi
  have hg : ((b.drop k).take m).getD i 0 = b.getD (k + i) 0 := by
   simp [List.getD, hi]
  show zq59_s3 N b k m _ _ = _
  unfold zq59_s3
  simp (disch := omega) only [dpos, dneg, w64_of, inR_of, zw3, zw4, cond_true, cond_false, Bool.and_self, Bool.and_true, Bool.true_and, Bool.and_false, Bool.false_and, Bool.not_true, Bool.not_false, Option.bind_some, List.length_cons, List.length_nil, Nat.zero_add, Int.toNat_natCast, zw99 _ (show i < ((b.drop k).take m).length by omega), hg]
  congr 5
 ·show zq59_s3 N b k m _ _ = _
  unfold zq59_s3
  simp (disch := omega) only [dpos, dneg, w64_of, inR_of, zw3, zw4, cond_true, cond_false, Bool.and_self, Bool.and_true, Bool.true_and, Bool.and_false, Bool.false_and, Bool.not_true, Bool.not_false, Option.bind_some, List.length_cons, List.length_nil, Nat.zero_add]
  rw [List.take_of_length_le (by omega)]

def be (v : UInt64) : Nat → List UInt8
 | 0 => []
 | k + 1 => (shr64 v (8 * (k : Int)).toNat).toUInt8 :: be v k
theorem be_len (v : UInt64) (k : Nat) : (be v k).length = k := by induction k with | zero => rfl | succ k ih => simp [be, ih]
theorem zw9a (v : UInt64) {i w : Nat} (h : i < w) : (be v w).take (i + 1) = (be v w).take i ++ [(shr64 v (8 * ((w : Int) - 1 - (i : Int))).toNat).toUInt8] := by
 induction w generalizing i with
 | zero => omega
 | succ w ih =>
  cases i with
  | zero =>
   simp only [be, List.take_succ_cons, List.take_zero, List.nil_append]
   rw [show ((w + 1 : Nat) : Int) - 1 - ((0 : Nat) : Int) = (w : Int) by omega]
  | succ i =>
   rw [be, List.take_succ_cons, List.take_succ_cons, ih (by omega)]
   rw [show ((w + 1 : Nat) : Int) - 1 - ((i + 1 : Nat) : Int) = (w : Int) - 1 - (i : Int) by omega]
   rfl
theorem zw14 (N : Nat) {v : UInt64} {w : Int} {b : List UInt8} (hw : 1 ≤ w) (hw8 : w ≤ 8) (hl : b.length ≤ 70368744177664) (hN : 8 < N) :
  zq115 N v w b = some ((), (b ++ be v w.toNat, ())) := by
 obtain ⟨m, rfl⟩ := Int.eq_ofNat_of_zero_le (show 0 ≤ w by omega)
 unfold zq115 zq115_1
 simp (disch := omega) only [dpos, dneg, w64_of, inR_of, zw3, zw4, cond_true, cond_false, Bool.and_self, Bool.and_true, Bool.true_and, Bool.and_false, Bool.false_and, Bool.not_true, Bool.not_false, Option.bind_some, List.length_cons, List.length_nil, Nat.zero_add, Int.toNat_natCast]
 unfold zq115_2
 have h0 : b = b ++ (be v m).take 0 := by simp
 have := zwn (step := fun y => zq115_s3 N y.1.1 y.1.2.1 y.2.1) (J := fun (e : ((Unit) × ((List UInt8) × Unit))) => zq115_4 N e.2.1) (fun i : Nat => ((v, (m : Int) - 1 - (i : Int), ()), (b ++ (be v m).take i, ()))) (n := m) (e := ((), (b ++ be v m, ()))) ?_ ?_ (show m < N by omega)
 ·simp only [Int.natCast_zero, Int.sub_zero, List.take_zero, List.append_nil] at this
  exact this
 ·intro i hi
  have hlen := be_len v m
  have hle : ((be v m).take i).length = i := by simp; omega
  show zq115_s3 N v _ _ = _
  unfold zq115_s3
  simp (disch := omega) only [dpos, dneg, w64_of, inR_of, zw3, zw4, cond_true, cond_false, Bool.and_self, Bool.and_true, Bool.true_and, Bool.and_false, Bool.false_and, Bool.not_true, Bool.not_false, Option.bind_some, List.length_cons, List.length_nil, Nat.zero_add, List.length_append, hle]
  rw [zw9a v hi, List.append_assoc, show (m : Int) - 1 - (i : Int) - 1 = (m : Int) - 1 - ((i + 1 : Nat) : Int) by omega]
 ·show zq115_s3 N v _ _ = _
  unfold zq115_s3
  simp (disch := omega) only [dpos, dneg, w64_of, inR_of, zw3, zw4, cond_true, cond_false, Bool.and_self, Bool.and_true, Bool.true_and, Bool.and_false, Bool.false_and, Bool.not_true, Bool.not_false, Option.bind_some, List.length_cons, List.length_nil, Nat.zero_add]
  rw [List.take_of_length_le (by rw [be_len]; omega)]
theorem zwfd (N : Nat) {v : UInt64} {w : Int} {b : List UInt8} (hw : 1 ≤ w) (hw8 : w ≤ 8) (hl : b.length ≤ 70368744177664) (hN : 8 < N) :
  zq113 N b v w = some ((), (b ++ be v w.toNat, ())) := by
 obtain ⟨m, rfl⟩ := Int.eq_ofNat_of_zero_le (show 0 ≤ w by omega)
 unfold zq113 zq113_1
 simp (disch := omega) only [dpos, dneg, w64_of, inR_of, zw3, zw4, cond_true, cond_false, Bool.and_self, Bool.and_true, Bool.true_and, Bool.and_false, Bool.false_and, Bool.not_true, Bool.not_false, Option.bind_some, List.length_cons, List.length_nil, Nat.zero_add, Int.toNat_natCast, Nat.zero_add]
 unfold zq113_2
 have := zwn (step := fun y => zq113_s3 N y.1.1 y.1.2.1 y.2.1) (J := fun (e : ((Unit) × ((List UInt8) × Unit))) => zq113_4 N e.2.1) (fun i : Nat => ((v, (m : Int) - 1 - (i : Int), ()), (b ++ (be v m).take i, ()))) (n := m) (e := ((), (b ++ be v m, ()))) ?_ ?_ (show m < N by omega)
 ·simp only [Int.natCast_zero, Int.sub_zero, List.take_zero, List.append_nil] at this
  exact this
 ·intro i hi
  have hlen := be_len v m
  have hle : ((be v m).take i).length = i := by simp; omega
  have hu : ∀ x : Int, 0 ≤ x → x < 64 → (iu64 x).toNat = x.toNat := by
   intro x h0 h1
   obtain ⟨n, rfl⟩ := Int.eq_ofNat_of_zero_le h0
   have : n < 64 := by omega
   clear h0 h1 hle hlen hi
   revert n
   decide
  show zq113_s3 N v _ _ = _
  unfold zq113_s3
  simp (disch := omega) only [dpos, dneg, w64_of, inR_of, zw3, zw4, cond_true, cond_false, Bool.and_self, Bool.and_true, Bool.true_and, Bool.and_false, Bool.false_and, Bool.not_true, Bool.not_false, Option.bind_some, List.length_cons, List.length_nil, Nat.zero_add, List.length_append, hle, hu]
  rw [zw9a v hi, List.append_assoc, show (m : Int) - 1 - (i : Int) - 1 = (m : Int) - 1 - ((i + 1 : Nat) : Int) by omega]
 ·show zq113_s3 N v _ _ = _
  unfold zq113_s3
  simp (disch := omega) only [dpos, dneg, w64_of, inR_of, zw3, zw4, cond_true, cond_false, Bool.and_self, Bool.and_true, Bool.true_and, Bool.and_false, Bool.false_and, Bool.not_true, Bool.not_false, Option.bind_some, List.length_cons, List.length_nil, Nat.zero_add]
  rw [List.take_of_length_le (by rw [be_len]; omega)]
end Go.Proofs.YtajpblfinenmjaaGreatDoor.Pl

namespace Go.Proofs.YtajpblfinenmjaaGreatDoor.Pl
open Go
noncomputable section
def rotr (x : UInt32) (n : Nat) : UInt32 := shl32 x (32 - n) ||| shr32 x n
theorem right2 (N : Nat) (x : UInt32) : zq53 N x (2 : Int) = some ((rotr x 2, ()), ()) := by kernel_rfl
theorem right6 (N : Nat) (x : UInt32) : zq53 N x (6 : Int) = some ((rotr x 6, ()), ()) := by kernel_rfl
theorem right7 (N : Nat) (x : UInt32) : zq53 N x (7 : Int) = some ((rotr x 7, ()), ()) := by kernel_rfl
theorem zwfe (N : Nat) (x : UInt32) : zq53 N x (11 : Int) = some ((rotr x 11, ()), ()) := by kernel_rfl
theorem zwff (N : Nat) (x : UInt32) : zq53 N x (13 : Int) = some ((rotr x 13, ()), ()) := by kernel_rfl
theorem zwfg (N : Nat) (x : UInt32) : zq53 N x (17 : Int) = some ((rotr x 17, ()), ()) := by kernel_rfl
theorem zwfh (N : Nat) (x : UInt32) : zq53 N x (18 : Int) = some ((rotr x 18, ()), ()) := by kernel_rfl
theorem zwfi (N : Nat) (x : UInt32) : zq53 N x (19 : Int) = some ((rotr x 19, ()), ()) := by kernel_rfl
theorem zwfj (N : Nat) (x : UInt32) : zq53 N x (22 : Int) = some ((rotr x 22, ()), ()) := by kernel_rfl
theorem zwfk (N : Nat) (x : UInt32) : zq53 N x (25 : Int) = some ((rotr x 25, ()), ()) := by kernel_rfl
theorem zw1r {N : Nat} {x : UInt32} {n : UInt64} {k : Nat} (h : zq95 N x n = some ((shr32 x k ||| shl32 x (32 - k), ()), ())) : zq95 N x n = some ((rotr x k, ()), ()) := by
 rw [h, UInt32.or_comm]; rfl
theorem turn2 (N : Nat) (x : UInt32) : zq95 N x (2 : UInt64) = some ((rotr x 2, ()), ()) := zw1r (by kernel_rfl)
theorem turn6 (N : Nat) (x : UInt32) : zq95 N x (6 : UInt64) = some ((rotr x 6, ()), ()) := zw1r (by kernel_rfl)
theorem turn7 (N : Nat) (x : UInt32) : zq95 N x (7 : UInt64) = some ((rotr x 7, ()), ()) := zw1r (by kernel_rfl)
theorem turn11 (N : Nat) (x : UInt32) : zq95 N x (11 : UInt64) = some ((rotr x 11, ()), ()) := zw1r (by kernel_rfl)
theorem turn13 (N : Nat) (x : UInt32) : zq95 N x (13 : UInt64) = some ((rotr x 13, ()), ()) := zw1r (by kernel_rfl)
theorem turn17 (N : Nat) (x : UInt32) : zq95 N x (17 : UInt64) = some ((rotr x 17, ()), ()) := zw1r (by kernel_rfl)
theorem turn18 (N : Nat) (x : UInt32) : zq95 N x (18 : UInt64) = some ((rotr x 18, ()), ()) := zw1r (by kernel_rfl)
theorem turn19 (N : Nat) (x : UInt32) : zq95 N x (19 : UInt64) = some ((rotr x 19, ()), ()) := zw1r (by kernel_rfl)
theorem turn22 (N : Nat) (x : UInt32) : zq95 N x (22 : UInt64) = some ((rotr x 22, ()), ()) := zw1r (by kernel_rfl)
theorem turn25 (N : Nat) (x : UInt32) : zq95 N x (25 : UInt64) = some ((rotr x 25, ()), ()) := zw1r (by kernel_rfl)

def sst (block : List UInt8) (w : List UInt32) (t : Nat) : UInt32 :=
 if t < 16 then (nbr ((block.drop (4 * (t : Int)).toNat).take (4 : Int).toNat)).toUInt32
 else ((((rotr (w.getD ((t : Int) - 2).toNat 0) 17 ^^^ rotr (w.getD ((t : Int) - 2).toNat 0) 19) ^^^ shr32 (w.getD ((t : Int) - 2).toNat 0) 10) + w.getD ((t : Int) - 7).toNat 0) +
  ((rotr (w.getD ((t : Int) - 15).toNat 0) 7 ^^^ rotr (w.getD ((t : Int) - 15).toNat 0) 18) ^^^ shr32 (w.getD ((t : Int) - 15).toNat 0) 3)) + w.getD ((t : Int) - 16).toNat 0
def sw (block : List UInt8) : Nat → List UInt32
 | 0 => List.replicate 64 0
 | t + 1 => (sw block t).set t (sst block (sw block t) t)
theorem sched (N : Nat) {block : List UInt8} (hb : block.length = 64) (hN : 4611686018427387904 ≤ N) : zq32 N block = some ((sw block 64, ()), ()) := by
 unfold zq32 zq32_1
 refine (zwn (fun t : Nat => ((block, (t : Int), ()), (List.replicate 64 0, sw block t, ()))) (n := 64) ?_ (e := ((), (List.replicate 64 0, sw block 64, ()))) ?_ (by omega)).trans ?_
 ·intro t ht
  show zq32_s2 N block _ _ _ = _
  unfold zq32_s2
  by_cases h16 : t < 16
  ·simp (disch := omega) only [dpos, dneg, w64_of, inR_of, zw3, zw4, cond_true, cond_false, Bool.and_self, Bool.and_true, Bool.true_and, Bool.and_false, Bool.false_and, Bool.not_true, Bool.not_false, Option.bind_some, List.length_cons, List.length_nil, Nat.zero_add, zw5q, Int.toNat_natCast, sw, sst, if_pos, Int.natCast_add, Int.natCast_one]
  ·simp (disch := omega) only [dpos, dneg, w64_of, inR_of, zw3, zw4, cond_true, cond_false, Bool.and_self, Bool.and_true, Bool.true_and, Bool.and_false, Bool.false_and, Bool.not_true, Bool.not_false, Option.bind_some, List.length_cons, List.length_nil, Nat.zero_add, zwfg, zwfi, right7, zwfh, Int.toNat_natCast, sw, sst, if_neg, Int.natCast_add, Int.natCast_one]
 ·show zq32_s2 N block _ _ _ = _
  unfold zq32_s2
  simp (disch := omega) only [dpos, dneg, w64_of, inR_of, zw3, zw4, cond_true, cond_false, Bool.and_self, Bool.and_true, Bool.true_and, Bool.and_false, Bool.false_and, Bool.not_true, Bool.not_false, Option.bind_some, List.length_cons, List.length_nil, Nat.zero_add]
 ·simp only [zq32_3]

def nx (k w : UInt32) : List UInt32 → List UInt32
 | [a, b, c, d, e, f, g, h] => [((((h + ((rotr e 6 ^^^ rotr e 11) ^^^ rotr e 25)) + ((e &&& f) ^^^ ((~~~ e) &&& g))) + k) + w) + (((rotr a 2 ^^^ rotr a 13) ^^^ rotr a 22) + (((a &&& b) ^^^ (a &&& c)) ^^^ (b &&& c))), a, b, c,
   d + ((((h + ((rotr e 6 ^^^ rotr e 11) ^^^ rotr e 25)) + ((e &&& f) ^^^ ((~~~ e) &&& g))) + k) + w), e, f, g]
 | l => l
def rd (w st : List UInt32) : Nat → List UInt32
 | 0 => st
 | t + 1 => nx (zw1x.getD t 0) (w.getD t 0) (rd w st t)
theorem list8 {α : Type} {l : List α} (h : l.length = 8) : ∃ a b c d e f g i, l = [a, b, c, d, e, f, g, i] := by
 match l, h with
 | [a, b, c, d, e, f, g, i], _ => exact ⟨a, b, c, d, e, f, g, i, rfl⟩
theorem nx_len (k w : UInt32) {l : List UInt32} (h : l.length = 8) : (nx k w l).length = 8 := by
 obtain ⟨a, b, c, d, e, f, g, i, rfl⟩ := list8 h; rfl
theorem rd_len (w : List UInt32) {st : List UInt32} (h : st.length = 8) (t : Nat) : (rd w st t).length = 8 := by
 induction t with
 | zero => exact h
 | succ t ih => exact nx_len _ _ ih
def add8 (l m : List UInt32) : List UInt32 := List.zipWith (· + ·) l m
def blk (st : List UInt32) (block : List UInt8) : List UInt32 := add8 st (rd (sw block 64) st 64)
theorem zwfl {st : List UInt32} (h : st.length = 8) (block : List UInt8) : (blk st block).length = 8 := by
 simp [blk, add8, h, rd_len _ h]
theorem zwfm (M : Nat) (a b c d e f g h s0 s1 s2 s3 s4 s5 s6 s7 : UInt32) (t : List UInt32) :
  zq67_4 (M + 9) [a, b, c, d, e, f, g, h] 0 [s0, s1, s2, s3, s4, s5, s6, s7] t = some (([s0 + a, s1 + b, s2 + c, s3 + d, s4 + e, s5 + f, s6 + g, s7 + h], true, ()), ()) := by kernel_rfl
theorem zwfn (M : Nat) (a b c d e f g h s0 s1 s2 s3 s4 s5 s6 s7 : UInt32) (t : List UInt32) :
  zq80_7 (M + 9) 0 [s0, s1, s2, s3, s4, s5, s6, s7] t [a, b, c, d, e, f, g, h] = some (([a + s0, b + s1, c + s2, d + s3, e + s4, f + s5, g + s6, h + s7], true, ()), ()) := by kernel_rfl
theorem zwfo (N : Nat) {st : List UInt32} {block : List UInt8} (hs : st.length = 8) (hb : block.length = 64) (hN : 4611686018427387904 ≤ N) : zq67 N st block = some ((blk st block, true, ()), ()) := by
 unfold zq67
 simp (disch := omega) only [dpos, dneg, w64_of, inR_of, zw3, zw4, cond_true, cond_false, Bool.and_self, Bool.and_true, Bool.true_and, Bool.and_false, Bool.false_and, Bool.not_true, Bool.not_false, Option.bind_some, List.length_cons, List.length_nil, Nat.zero_add, sched]
 unfold zq67_1
 have h8 := rd_len (sw block 64) hs
 refine (zwn (fun t : Nat => (((rd (sw block 64) st t).getD 0 0, (rd (sw block 64) st t).getD 1 0, (rd (sw block 64) st t).getD 2 0, (rd (sw block 64) st t).getD 3 0, (rd (sw block 64) st t).getD 4 0, (rd (sw block 64) st t).getD 5 0, (rd (sw block 64) st t).getD 6 0, (rd (sw block 64) st t).getD 7 0, sw block 64, (t : Int), ()), (st, List.replicate 8 0, ()))) (n := 64) ?_
  (e := (((rd (sw block 64) st 64).getD 0 0, (rd (sw block 64) st 64).getD 1 0, (rd (sw block 64) st 64).getD 2 0, (rd (sw block 64) st 64).getD 3 0, (rd (sw block 64) st 64).getD 4 0, (rd (sw block 64) st 64).getD 5 0, (rd (sw block 64) st 64).getD 6 0, (rd (sw block 64) st 64).getD 7 0, ()), (st, List.replicate 8 0, ()))) ?_ (by omega)).trans ?_
 ·intro t ht
  show zq67_s2 N _ _ _ _ _ _ _ _ _ _ _ _ = _
  simp only [rd]
  obtain ⟨a, b, c, d, e, f, g, h, e1⟩ := list8 (h8 t)
  rw [e1]
  unfold zq67_s2
  simp (disch := omega) only [dpos, dneg, w64_of, inR_of, zw3, zw4, cond_true, cond_false, Bool.and_self, Bool.and_true, Bool.true_and, Bool.and_false, Bool.false_and, Bool.not_true, Bool.not_false, Option.bind_some, List.length_cons, List.length_nil, Nat.zero_add, right2, right6, zwfe, zwff, zwfj, zwfk, Int.toNat_natCast, nx, List.getD_cons_zero, List.getD_cons_succ, Int.natCast_add, Int.natCast_one]
 ·show zq67_s2 N _ _ _ _ _ _ _ _ _ _ _ _ = _
  unfold zq67_s2
  simp (disch := omega) only [dpos, dneg, w64_of, inR_of, zw3, zw4, cond_true, cond_false, Bool.and_self, Bool.and_true, Bool.true_and, Bool.and_false, Bool.false_and, Bool.not_true, Bool.not_false, Option.bind_some, List.length_cons, List.length_nil, Nat.zero_add]
 ·obtain ⟨a, b, c, d, e, f, g, h, e1⟩ := list8 (h8 64)
  obtain ⟨s0, s1, s2, s3, s4, s5, s6, s7, rfl⟩ := list8 hs
  obtain ⟨M, rfl⟩ := Nat.exists_eq_add_of_le' (show 9 ≤ N by omega)
  show zq67_3 _ _ _ _ _ _ _ _ _ _ _ = _
  unfold zq67_3
  simp only [blk, e1, List.getD_cons_zero, List.getD_cons_succ]
  rw [zwfm]
  rfl
theorem zwfp (N : Nat) : zq42 N = some ((zw1x, ()), ()) := by kernel_rfl
theorem zwfq (N : Nat) {st : List UInt32} {block : List UInt8} (hs : st.length = 8) (hb : block.length = 64) (hN : 4611686018427387904 ≤ N) : zq80 N st block = some ((blk st block, true, ()), ()) := by
 unfold zq80
 simp (disch := omega) only [dpos, dneg, w64_of, inR_of, zw3, zw4, cond_true, cond_false, Bool.and_self, Bool.and_true, Bool.true_and, Bool.and_false, Bool.false_and, Bool.not_true, Bool.not_false, Option.bind_some, List.length_cons, List.length_nil, Nat.zero_add]
 unfold zq80_1
 refine (zwn (fun t : Nat => ((block, (t : Int), ()), (st, List.replicate 8 0, sw block t, ()))) (n := 64) ?_ (e := ((), (st, List.replicate 8 0, sw block 64, ()))) ?_ (by omega)).trans ?_
 ·intro t ht
  show zq80_s2 N block _ _ _ _ = _
  unfold zq80_s2
  by_cases h16 : t < 16
  ·simp (disch := omega) only [dpos, dneg, w64_of, inR_of, zw3, zw4, cond_true, cond_false, Bool.and_self, Bool.and_true, Bool.true_and, Bool.and_false, Bool.false_and, Bool.not_true, Bool.not_false, Option.bind_some, List.length_cons, List.length_nil, Nat.zero_add, zwfc, Int.toNat_natCast, sw, sst, if_pos, Int.natCast_add, Int.natCast_one]
  ·simp (disch := omega) only [dpos, dneg, w64_of, inR_of, zw3, zw4, cond_true, cond_false, Bool.and_self, Bool.and_true, Bool.true_and, Bool.and_false, Bool.false_and, Bool.not_true, Bool.not_false, Option.bind_some, List.length_cons, List.length_nil, Nat.zero_add, turn17, turn19, turn7, turn18, Int.toNat_natCast, sw, sst, if_neg, Int.natCast_add, Int.natCast_one]
 ·show zq80_s2 N block _ _ _ _ = _
  unfold zq80_s2
  simp (disch := omega) only [dpos, dneg, w64_of, inR_of, zw3, zw4, cond_true, cond_false, Bool.and_self, Bool.and_true, Bool.true_and, Bool.and_false, Bool.false_and, Bool.not_true, Bool.not_false, Option.bind_some, List.length_cons, List.length_nil, Nat.zero_add]
 have h8 := rd_len (sw block 64) hs
 revert h8
 generalize hblk : blk st block = out
 unfold blk at hblk
 generalize sw block 64 = ww at hblk
 intro h8
 show zq80_3 N st (List.replicate 8 0) ww = _
 unfold zq80_3
 rw [zwfp, Option.bind_some]
 unfold zq80_4
 refine (zwn (fun t : Nat => (((t : Int), ()), (st, List.replicate 8 0, ww, zw1x, rd ww st t, ()))) (n := 64) ?_ (e := ((), (st, List.replicate 8 0, rd ww st 64, ()))) ?_ (by omega)).trans ?_
 ·intro t ht
  show zq80_s5 N _ _ _ _ _ _ = _
  simp only [rd]
  obtain ⟨a, b, c, d, e, f, g, h, e1⟩ := list8 (h8 t)
  rw [e1]
  unfold zq80_s5
  simp (disch := omega) only [dpos, dneg, w64_of, inR_of, zw3, zw4, cond_true, cond_false, Bool.and_self, Bool.and_true, Bool.true_and, Bool.and_false, Bool.false_and, Bool.not_true, Bool.not_false, Option.bind_some, List.length_cons, List.length_nil, Nat.zero_add, turn2, turn6, turn11, turn13, turn22, turn25, Int.toNat_natCast, nx, List.getD_cons_zero, List.getD_cons_succ, Int.natCast_add, Int.natCast_one]
 ·show zq80_s5 N _ _ _ _ _ _ = _
  unfold zq80_s5
  simp (disch := omega) only [dpos, dneg, w64_of, inR_of, zw3, zw4, cond_true, cond_false, Bool.and_self, Bool.and_true, Bool.true_and, Bool.and_false, Bool.false_and, Bool.not_true, Bool.not_false, Option.bind_some, List.length_cons, List.length_nil, Nat.zero_add]
 ·obtain ⟨a, b, c, d, e, f, g, h, e1⟩ := list8 (h8 64)
  obtain ⟨s0, s1, s2, s3, s4, s5, s6, s7, rfl⟩ := list8 hs
  obtain ⟨M, rfl⟩ := Nat.exists_eq_add_of_le' (show 9 ≤ N by omega)
  show zq80_6 _ _ _ _ = _
  unfold zq80_6
  rw [e1] at hblk ⊢
  rw [zwfn, ← hblk]
  show some (([_, _, _, _, _, _, _, _], true, ()), ()) = some (([_, _, _, _, _, _, _, _], true, ()), ())
  rw [UInt32.add_comm a, UInt32.add_comm b, UInt32.add_comm c, UInt32.add_comm d, UInt32.add_comm e, UInt32.add_comm f, UInt32.add_comm g, UInt32.add_comm h]

def pad (n : Nat) : List UInt8 := (128 :: List.replicate ((119 - n % 64) % 64) 0) ++ be (iu64 (n : Int) * 8) 8
theorem zw5r (n : Nat) : (pad n).length = 9 + (119 - n % 64) % 64 := by simp [pad, be_len]; omega
theorem zwfr (N : Nat) {n : Int} (h0 : 0 ≤ n) (h1 : n ≤ 35184372088832) (hN : 4611686018427387904 ≤ N) : zq99 N n = some ((), (pad n.toNat, ())) := by
 obtain ⟨k, rfl⟩ := Int.eq_ofNat_of_zero_le h0
 unfold zq99
 simp (disch := omega) only [dpos, dneg, w64_of, inR_of, zw3, zw4, cond_true, cond_false, Bool.and_self, Bool.and_true, Bool.true_and, Bool.and_false, Bool.false_and, Bool.not_true, Bool.not_false, Option.bind_some, List.length_cons, List.length_nil, Nat.zero_add]
 unfold zq99_1
 obtain ⟨z, hz⟩ : ∃ z, z = (119 - k % 64) % 64 := ⟨_, rfl⟩
 have hzN : z < N := by omega
 refine (zwn (fun i : Nat => (((k : Int), ()), (128 :: List.replicate i 0, ()))) (n := z) ?_ (e := (((k : Int), ()), (128 :: List.replicate z 0, ()))) ?_ hzN).trans ?_
 ·intro i hi
  show zq99_s2 N _ _ = _
  unfold zq99_s2
  simp (disch := omega) only [dpos, dneg, w64_of, inR_of, zw3, zw4, cond_true, cond_false, Bool.and_self, Bool.and_true, Bool.true_and, Bool.and_false, Bool.false_and, Bool.not_true, Bool.not_false, Option.bind_some, List.length_cons, List.length_nil, Nat.zero_add, List.length_append, List.length_replicate, Int.natCast_add, Int.natCast_one]
  rw [List.cons_append, ← List.replicate_succ']
 ·show zq99_s2 N _ _ = _
  unfold zq99_s2
  simp (disch := omega) only [dpos, dneg, w64_of, inR_of, zw3, zw4, cond_true, cond_false, Bool.and_self, Bool.and_true, Bool.true_and, Bool.and_false, Bool.false_and, Bool.not_true, Bool.not_false, Option.bind_some, List.length_cons, List.length_nil, Nat.zero_add, List.length_append, List.length_replicate, Int.natCast_add, Int.natCast_one]
 ·show zq99_3 N _ _ = _
  unfold zq99_3
  have hl : ((128 : UInt8) :: List.replicate z 0).length ≤ 70368744177664 := by simp; omega
  simp (disch := omega) only [dpos, dneg, w64_of, inR_of, zw3, zw4, cond_true, cond_false, Bool.and_self, Bool.and_true, Bool.true_and, Bool.and_false, Bool.false_and, Bool.not_true, Bool.not_false, Option.bind_some, List.length_cons, List.length_nil, Nat.zero_add, zw14, pad, Int.toNat_natCast, ← hz]
  rfl
theorem zwfs (N : Nat) {n : Int} (h0 : 0 ≤ n) (h1 : n ≤ 35184372088832) (hN : 4611686018427387904 ≤ N) : zq109 N n = some ((), (pad n.toNat, ())) := by
 obtain ⟨k, rfl⟩ := Int.eq_ofNat_of_zero_le h0
 unfold zq109
 simp (disch := omega) only [dpos, dneg, w64_of, inR_of, zw3, zw4, cond_true, cond_false, Bool.and_self, Bool.and_true, Bool.true_and, Bool.and_false, Bool.false_and, Bool.not_true, Bool.not_false, Option.bind_some, List.length_cons, List.length_nil, Nat.zero_add]
 unfold zq109_1
 obtain ⟨z, hz⟩ : ∃ z, z = (119 - k % 64) % 64 := ⟨_, rfl⟩
 have hzN : z < N := by omega
 refine (zwn (fun i : Nat => (((k : Int), ()), (128 :: List.replicate i 0, ()))) (n := z) ?_ (e := (((k : Int), ()), (128 :: List.replicate z 0, ()))) ?_ hzN).trans ?_
 ·intro i hi
  show zq109_s2 N _ _ = _
  unfold zq109_s2
  simp (disch := omega) only [dpos, dneg, w64_of, inR_of, zw3, zw4, cond_true, cond_false, Bool.and_self, Bool.and_true, Bool.true_and, Bool.and_false, Bool.false_and, Bool.not_true, Bool.not_false, Option.bind_some, List.length_cons, List.length_nil, Nat.zero_add, List.length_append, List.length_replicate, Int.natCast_add, Int.natCast_one]
  rw [List.cons_append, ← List.replicate_succ']
 ·show zq109_s2 N _ _ = _
  unfold zq109_s2
  simp (disch := omega) only [dpos, dneg, w64_of, inR_of, zw3, zw4, cond_true, cond_false, Bool.and_self, Bool.and_true, Bool.true_and, Bool.and_false, Bool.false_and, Bool.not_true, Bool.not_false, Option.bind_some, List.length_cons, List.length_nil, Nat.zero_add, List.length_append, List.length_replicate, Int.natCast_add, Int.natCast_one]
 ·show zq109_3 N _ _ = _
  unfold zq109_3
  have hl : ((128 : UInt8) :: List.replicate z 0).length ≤ 70368744177664 := by simp; omega
  simp (disch := omega) only [dpos, dneg, w64_of, inR_of, zw3, zw4, cond_true, cond_false, Bool.and_self, Bool.and_true, Bool.true_and, Bool.and_false, Bool.false_and, Bool.not_true, Bool.not_false, Option.bind_some, List.length_cons, List.length_nil, Nat.zero_add, zwfd, pad, Int.toNat_natCast, ← hz]
  rfl

def chain (all : List UInt8) (st : List UInt32) : Nat → List UInt32
 | 0 => st
 | i + 1 => blk (chain all st i) ((all.drop (64 * i)).take 64)
theorem zw3o (all : List UInt8) {st : List UInt32} (h : st.length = 8) (i : Nat) : (chain all st i).length = 8 := by
 induction i with
 | zero => exact h
 | succ i ih => exact zwfl ih _
def out8 (l : List UInt32) : List UInt8 := (l.map fun x => be x.toUInt64 4).flatten
def sha (b : List UInt8) : List UInt8 := out8 (chain (b ++ pad b.length) zw1b ((b ++ pad b.length).length / 64))
theorem zwft (M : Nat) (a b c d e f g h : UInt32) : zq88_4 (M + 20) [a, b, c, d, e, f, g, h] 0 [] = some ((), (out8 [a, b, c, d, e, f, g, h], ())) := by kernel_rfl
theorem zwfu (M : Nat) (a b c d e f g h : UInt32) : zq111_4 (M + 20) 0 [a, b, c, d, e, f, g, h] [] = some ((), (out8 [a, b, c, d, e, f, g, h], ())) := by kernel_rfl
theorem zwfv {l : List UInt32} (h : l.length = 8) : (out8 l).length = 32 := by
 obtain ⟨a, b, c, d, e, f, g, h, rfl⟩ := list8 h
 simp [out8, be_len]
theorem zw2b (b : List UInt8) : (sha b).length = 32 := zwfv (zw3o _ rfl _)
theorem zw9b (b : List UInt8) : (b ++ pad b.length).length = 64 * ((b ++ pad b.length).length / 64) := by
 rw [List.length_append, zw5r]; omega
theorem zw4j (N : Nat) {b : List UInt8} (hb : b.length ≤ 35184372088832) (hN : 4611686018427387904 ≤ N) : zq88 N b = some ((), (sha b, ())) := by
 unfold zq88
 have hp := zw5r b.length
 simp (disch := omega) only [dpos, dneg, w64_of, inR_of, zw3, zw4, cond_true, cond_false, Bool.and_self, Bool.and_true, Bool.true_and, Bool.and_false, Bool.false_and, Bool.not_true, Bool.not_false, Option.bind_some, List.length_cons, List.length_nil, Nat.zero_add, zwfr, Int.toNat_natCast]
 have ha := zw9b b
 unfold sha
 have hal : (b ++ pad b.length).length ≤ 35184372088932 := by rw [List.length_append]; omega
 generalize b ++ pad b.length = all at ha hal
 generalize all.length / 64 = n at ha
 have hst : zw1b.length = 8 := rfl
 generalize zw1b = st at hst
 unfold zq88_1
 refine (zwn (fun i : Nat => ((all, ((64 * i : Nat) : Int), ()), (chain all st i, ()))) (n := n) ?_ (e := ((), (chain all st n, ()))) ?_ (by omega)).trans ?_
 ·intro i hi
  have hc := zw3o all hst i
  have e2 : ((64 * i : Nat) : Int) + 64 = ((64 * (i + 1) : Nat) : Int) := by omega
  have e3 : cut all (64 * i) (64 * (i + 1)) = (all.drop (64 * i)).take 64 := cut_at all (64 * i) 64
  have e4 : ((all.drop (64 * i)).take 64).length = 64 := by simp; omega
  show zq88_s2 N _ _ _ = _
  unfold zq88_s2
  simp (disch := omega) only [dpos, dneg, w64_of, inR_of, zw3, zw4, cond_true, cond_false, Bool.and_self, Bool.and_true, Bool.true_and, Bool.and_false, Bool.false_and, Bool.not_true, Bool.not_false, Option.bind_some, List.length_cons, List.length_nil, Nat.zero_add, e2, Int.toNat_natCast, e3, zwfo, hc, e4, chain]
 ·show zq88_s2 N _ _ _ = _
  unfold zq88_s2
  simp (disch := omega) only [dpos, dneg, w64_of, inR_of, zw3, zw4, cond_true, cond_false, Bool.and_self, Bool.and_true, Bool.true_and, Bool.and_false, Bool.false_and, Bool.not_true, Bool.not_false, Option.bind_some, List.length_cons, List.length_nil, Nat.zero_add]
 ·show zq88_3 N (chain all st n) = _
  unfold zq88_3
  obtain ⟨a, b, c, d, e, f, g, h, e1⟩ := list8 (zw3o all hst n)
  obtain ⟨M, rfl⟩ := Nat.exists_eq_add_of_le' (show 20 ≤ N by omega)
  rw [e1, zwft]
theorem zw5s (N : Nat) {b : List UInt8} (hb : b.length ≤ 35184372088832) (hN : 4611686018427387904 ≤ N) : zq111 N b = some ((), (sha b, ())) := by
 unfold zq111
 have hp := zw5r b.length
 simp (disch := omega) only [dpos, dneg, w64_of, inR_of, zw3, zw4, cond_true, cond_false, Bool.and_self, Bool.and_true, Bool.true_and, Bool.and_false, Bool.false_and, Bool.not_true, Bool.not_false, Option.bind_some, List.length_cons, List.length_nil, Nat.zero_add, zwfs, Int.toNat_natCast]
 have ha := zw9b b
 unfold sha
 have hal : (b ++ pad b.length).length ≤ 35184372088932 := by rw [List.length_append]; omega
 generalize b ++ pad b.length = all at ha hal
 generalize all.length / 64 = n at ha
 show zq111_1 N 0 all zw1b = _
 have hst : zw1b.length = 8 := rfl
 generalize zw1b = st at hst
 unfold zq111_1
 refine (zwn (fun i : Nat => ((all, ((64 * i : Nat) : Int), ()), (chain all st i, ()))) (n := n) ?_ (e := ((), (chain all st n, ()))) ?_ (by omega)).trans ?_
 ·intro i hi
  have hc := zw3o all hst i
  have e2 : ((64 * i : Nat) : Int) + 64 = ((64 * (i + 1) : Nat) : Int) := by omega
  have e3 : cut all (64 * i) (64 * (i + 1)) = (all.drop (64 * i)).take 64 := cut_at all (64 * i) 64
  have e4 : ((all.drop (64 * i)).take 64).length = 64 := by simp; omega
  show zq111_s2 N _ _ _ = _
  unfold zq111_s2
  simp (disch := omega) only [dpos, dneg, w64_of, inR_of, zw3, zw4, cond_true, cond_false, Bool.and_self, Bool.and_true, Bool.true_and, Bool.and_false, Bool.false_and, Bool.not_true, Bool.not_false, Option.bind_some, List.length_cons, List.length_nil, Nat.zero_add, e2, Int.toNat_natCast, e3, zwfq, hc, e4, chain]
 ·show zq111_s2 N _ _ _ = _
  unfold zq111_s2
  simp (disch := omega) only [dpos, dneg, w64_of, inR_of, zw3, zw4, cond_true, cond_false, Bool.and_self, Bool.and_true, Bool.true_and, Bool.and_false, Bool.false_and, Bool.not_true, Bool.not_false, Option.bind_some, List.length_cons, List.length_nil, Nat.zero_add]
 ·show zq111_3 N (chain all st n) = _
  unfold zq111_3
  obtain ⟨a, b, c, d, e, f, g, h, e1⟩ := list8 (zw3o all hst n)
  obtain ⟨M, rfl⟩ := Nat.exists_eq_add_of_le' (show 20 ≤ N by omega)
  rw [e1, zwfu]
end
end Go.Proofs.YtajpblfinenmjaaGreatDoor.Pl

namespace Go.Proofs.YtajpblfinenmjaaGreatDoor.Pl
open Go
noncomputable section
def pk64 (k : List UInt8) : List UInt8 := splice (List.replicate 64 0) k
theorem zw5t (k : List UInt8) (h : k.length ≤ 64) : (pk64 k).length = 64 := by simp [pk64, splice]; omega
def hk (k : List UInt8) : List UInt8 := if 64 < k.length then sha k else k
theorem hk_len (k : List UInt8) : (hk k).length ≤ 64 := by
 unfold hk; split
 ·rw [zw2b]; decide
 ·omega
def mk (m : UInt8) (k : List UInt8) : List UInt8 := (pk64 k).map (· ^^^ m)
theorem mk_len (m : UInt8) {k : List UInt8} (h : k.length ≤ 64) : (mk m k).length = 64 := by simp [mk, zw5t k h]
def hmac (k b : List UInt8) : List UInt8 := sha (mk 92 (hk k) ++ sha (mk 54 (hk k) ++ b))
theorem zw2n (k b : List UInt8) : (hmac k b).length = 32 := zw2b _
theorem zw9c (N : Nat) (m : UInt8) {b t : List UInt8} (ht : t.length = 64) (hb : b.length ≤ 17592186044416) (hN : 4611686018427387904 ≤ N) : zq74 N m b t = some ((), (sha (t.map (· ^^^ m) ++ b), ())) := by
 unfold zq74 zq74_1
 have hl : (t.map (· ^^^ m)).length = 64 := by simp [ht]
 generalize hT : t.map (· ^^^ m) = T at hl
 refine (zwn (fun i : Nat => ((m, b, t, (i : Int), ()), (T.take i, ()))) (n := 64) ?_ (e := ((b, ()), (T, ()))) ?_ (by omega)).trans ?_
 ·intro i hi
  have hti : (T.take i).length = i := by simp; omega
  have hg : T.getD i 0 = t.getD i 0 ^^^ m := by
   rw [← hT]; simp [List.getD, List.getElem?_eq_getElem (show i < t.length by omega)]
  show zq74_s2 N m b t _ _ = _
  unfold zq74_s2
  simp (disch := omega) only [dpos, dneg, w64_of, inR_of, zw3, zw4, cond_true, cond_false, Bool.and_self, Bool.and_true, Bool.true_and, Bool.and_false, Bool.false_and, Bool.not_true, Bool.not_false, Option.bind_some, List.length_cons, List.length_nil, Nat.zero_add, Int.toNat_natCast, Int.natCast_add, Int.natCast_one, hti]
  rw [zw1k T 0 (by omega), hg]
 ·show zq74_s2 N m b t _ _ = _
  unfold zq74_s2
  simp (disch := omega) only [dpos, dneg, w64_of, inR_of, zw3, zw4, cond_true, cond_false, Bool.and_self, Bool.and_true, Bool.true_and, Bool.and_false, Bool.false_and, Bool.not_true, Bool.not_false, Option.bind_some, List.length_cons, List.length_nil, Nat.zero_add, List.take_of_length_le (show T.length ≤ 64 by omega)]
 ·show zq74_3 N b T = _
  unfold zq74_3
  have ha : (T ++ b).length ≤ 17592186044516 := by rw [List.length_append]; omega
  simp (disch := omega) only [dpos, dneg, w64_of, inR_of, zw3, zw4, cond_true, cond_false, Bool.and_self, Bool.and_true, Bool.true_and, Bool.and_false, Bool.false_and, Bool.not_true, Bool.not_false, Option.bind_some, List.length_cons, List.length_nil, Nat.zero_add, zw4j]
theorem zw4k (N : Nat) {k b : List UInt8} (hk' : k.length ≤ 17592186044416) (hb : b.length ≤ 17592186044416) (hN : 4611686018427387904 ≤ N) : zq114 N k b = some ((), (hmac k b, ())) := by
 have h1 : ∀ k : List UInt8, k.length ≤ 64 → zq114_1 N k b (List.replicate 64 0) = some ((), (sha (mk 92 k ++ sha (mk 54 k ++ b)), ())) := by
  intro k hk
  have hp := zw5t k hk
  have hs := zw2b (mk 54 k ++ b)
  unfold zq114_1
  show (zq74 N 54 b (pk64 k)).bind _ = _
  rw [zw9c N 54 hp hb hN, Option.bind_some]
  show (zq74 N 92 (sha (mk 54 k ++ b)) (pk64 k)).bind _ = _
  rw [zw9c N 92 hp (by omega) hN, Option.bind_some]
  rfl
 unfold zq114 hmac hk
 by_cases h : (64 : Int) < (k.length : Int)
 ·have hs := zw2b k
  simp (disch := omega) only [dpos, dneg, w64_of, inR_of, zw3, zw4, cond_true, cond_false, Bool.and_self, Bool.and_true, Bool.true_and, Bool.and_false, Bool.false_and, Bool.not_true, Bool.not_false, Option.bind_some, List.length_cons, List.length_nil, Nat.zero_add, zw4j, h1, if_pos]
 ·simp (disch := omega) only [dpos, dneg, w64_of, inR_of, zw3, zw4, cond_true, cond_false, Bool.and_self, Bool.and_true, Bool.true_and, Bool.and_false, Bool.false_and, Bool.not_true, Bool.not_false, Option.bind_some, List.length_cons, List.length_nil, Nat.zero_add, h1, if_neg]
theorem zwfw (N : Nat) {l : List (List UInt8)} (hl : l.length ≤ 1000000) (hf : l.flatten.length ≤ 35184372088832) (hN : 4611686018427387904 ≤ N) : zq92 N l = some ((), (l.flatten, ())) := by
 unfold zq92 zq92_1
 refine (zwn (fun i : Nat => ((l, (i : Int), ()), ((l.take i).flatten, ()))) (n := l.length) ?_ (e := ((), (l.flatten, ()))) ?_ (by omega)).trans rfl
 ·intro i hi
  have e : (l.take (i + 1)).flatten = (l.take i).flatten ++ l.getD i [] := by rw [zw1k l [] hi]; simp
  have h2 : ((l.take (i + 1)).flatten).length ≤ l.flatten.length := by
   have := congrArg (fun x => x.flatten.length) (List.take_append_drop (i + 1) l)
   simp only [List.flatten_append, List.length_append] at this
   omega
  rw [e, List.length_append] at h2
  show zq92_s2 N l _ _ = _
  unfold zq92_s2
  simp (disch := omega) only [dpos, dneg, w64_of, inR_of, zw3, zw4, cond_true, cond_false, Bool.and_self, Bool.and_true, Bool.true_and, Bool.and_false, Bool.false_and, Bool.not_true, Bool.not_false, Option.bind_some, List.length_cons, List.length_nil, Nat.zero_add, Int.toNat_natCast, Int.natCast_add, Int.natCast_one, e]
 ·show zq92_s2 N l _ _ = _
  unfold zq92_s2
  simp (disch := omega) only [dpos, dneg, w64_of, inR_of, zw3, zw4, cond_true, cond_false, Bool.and_self, Bool.and_true, Bool.true_and, Bool.and_false, Bool.false_and, Bool.not_true, Bool.not_false, Option.bind_some, List.length_cons, List.length_nil, Nat.zero_add, List.take_length]
theorem join2 (N : Nat) {a b : List UInt8} (h : a.length + b.length ≤ 35184372088832) (hN : 4611686018427387904 ≤ N) : zq92 N [a, b] = some ((), (a ++ b, ())) := by
 rw [zwfw N (by simp) (by simpa using h) hN]; simp
theorem zw9d (A : List UInt8) (x v : UInt8) (B : List UInt8) {i : Nat} (h : A.length = i) : (A ++ x :: B).set i v = A ++ v :: B := by
 subst h; simp
theorem zw9e (A : List UInt8) (x : UInt8) (B : List UInt8) {i : Nat} (h : A.length = i) : (A ++ x :: B).getD i 0 = x := by
 subst h; simp [List.getD]
theorem zwfx {k : List UInt8} (h : k.length ≤ 64) {i : Nat} (hi : i < 64) : (pk64 k).getD i 0 = if i < k.length then k.getD i 0 else 0 := by
 have e : pk64 k = k ++ List.replicate (64 - k.length) 0 := by
  unfold pk64 splice
  rw [List.take_of_length_le (by rw [List.length_replicate]; exact h), List.drop_replicate]
 rw [e]
 split
 ·simp [List.getD, List.getElem?_append_left ‹_›]
 ·simp only [List.getD, List.getElem?_append_right (by omega : k.length ≤ i)]
  rw [List.getElem?_replicate]
  split <;> rfl
theorem zw9f (N : Nat) {k : List UInt8} (m : UInt8) (h : k.length ≤ 64) (hN : 4611686018427387904 ≤ N) : zq96_1 N k m = some ((), (mk m k, ())) := by
 unfold zq96_1 zq96_2
 have hl := mk_len m h
 have hg : ∀ i, i < 64 → (mk m k).getD i 0 = if i < k.length then m ^^^ k.getD i 0 else m := by
  intro i hi
  have : (mk m k).getD i 0 = (pk64 k).getD i 0 ^^^ m := by
   unfold mk; simp [List.getD, List.getElem?_eq_getElem (show i < (pk64 k).length by rw [zw5t k h]; exact hi)]
  rw [this, zwfx h hi]
  split
  ·exact UInt8.xor_comm ..
  ·simp
 generalize mk m k = T at hl hg
 have h64N : 64 < N := by omega
 refine (zwn (fun i : Nat => ((k, m, (i : Int), ()), (T.take i ++ List.replicate (64 - i) 0, ()))) (n := 64) ?_ (e := ((), (T, ()))) ?_ h64N).trans rfl
 ·intro i hi
  have hti : (T.take i).length = i := by simp; omega
  have hr : List.replicate (64 - i) (0 : UInt8) = 0 :: List.replicate (64 - (i + 1)) 0 := by rw [show 64 - i = (64 - (i + 1)) + 1 by omega, List.replicate_succ]
  show zq96_s3 N k m _ _ = _
  unfold zq96_s3
  have h64 : (T.take i ++ m :: List.replicate (64 - (i + 1)) 0).length = 64 := by simp; omega
  have h64' : (T.take i ++ (0 : UInt8) :: List.replicate (64 - (i + 1)) 0).length = 64 := by simp; omega
  rw [zw1k T 0 (by omega), hg i hi, hr]
  simp only [Int.toNat_natCast, zw9d _ _ _ _ hti, zw9e _ _ _ hti]
  by_cases hik : i < k.length
  ·simp (disch := omega) only [dpos, dneg, w64_of, inR_of, zw3, zw4, cond_true, cond_false, Bool.and_self, Bool.and_true, Bool.true_and, Bool.and_false, Bool.false_and, Bool.not_true, Bool.not_false, Option.bind_some, List.length_cons, List.length_nil, Nat.zero_add, Int.natCast_add, Int.natCast_one, h64, h64', if_pos, List.append_assoc, List.cons_append, List.nil_append]
  ·simp (disch := omega) only [dpos, dneg, w64_of, inR_of, zw3, zw4, cond_true, cond_false, Bool.and_self, Bool.and_true, Bool.true_and, Bool.and_false, Bool.false_and, Bool.not_true, Bool.not_false, Option.bind_some, List.length_cons, List.length_nil, Nat.zero_add, Int.natCast_add, Int.natCast_one, h64, h64', if_neg, List.append_assoc, List.cons_append, List.nil_append]
 ·show zq96_s3 N k m _ _ = _
  unfold zq96_s3
  simp (disch := omega) only [dpos, dneg, w64_of, inR_of, zw3, zw4, cond_true, cond_false, Bool.and_self, Bool.and_true, Bool.true_and, Bool.and_false, Bool.false_and, Bool.not_true, Bool.not_false, Option.bind_some, List.length_cons, List.length_nil, Nat.zero_add, List.take_of_length_le (show T.length ≤ 64 by omega)]
  simp
theorem zwfy (N : Nat) {k : List UInt8} (m : UInt8) (h : k.length ≤ 17592186044416) (hN : 4611686018427387904 ≤ N) : zq96 N k m = some ((), (mk m (hk k), ())) := by
 unfold zq96 hk
 by_cases h64 : (64 : Int) < (k.length : Int)
 ·have hs := zw2b k
  simp (disch := omega) only [dpos, dneg, w64_of, inR_of, zw3, zw4, cond_true, cond_false, Bool.and_self, Bool.and_true, Bool.true_and, Bool.and_false, Bool.false_and, Bool.not_true, Bool.not_false, Option.bind_some, List.length_cons, List.length_nil, Nat.zero_add, zw5s, zw9f, if_pos]
 ·simp (disch := omega) only [dpos, dneg, w64_of, inR_of, zw3, zw4, cond_true, cond_false, Bool.and_self, Bool.and_true, Bool.true_and, Bool.and_false, Bool.false_and, Bool.not_true, Bool.not_false, Option.bind_some, List.length_cons, List.length_nil, Nat.zero_add, zw9f, if_neg]
theorem zwfz (N : Nat) {k b : List UInt8} (hk' : k.length ≤ 17592186044416) (hb : b.length ≤ 17592186044416) (hN : 4611686018427387904 ≤ N) : zq103 N k b = some ((), (hmac k b, ())) := by
 have h1 := mk_len 92 (hk_len k)
 have h2 := mk_len 54 (hk_len k)
 have h5 : (mk 54 (hk k) ++ b).length ≤ 17592186044516 := by simp; omega
 have h6 := zw2b (mk 54 (hk k) ++ b)
 have h7 : (mk 92 (hk k) ++ sha (mk 54 (hk k) ++ b)).length ≤ 17592186044516 := by rw [List.length_append]; omega
 unfold zq103 hmac
 simp (disch := omega) only [dpos, dneg, w64_of, inR_of, zw3, zw4, cond_true, cond_false, Bool.and_self, Bool.and_true, Bool.true_and, Bool.and_false, Bool.false_and, Bool.not_true, Bool.not_false, Option.bind_some, List.length_cons, List.length_nil, Nat.zero_add, zwfy, join2, zw5s]
end
end Go.Proofs.YtajpblfinenmjaaGreatDoor.Pl

namespace Go.Proofs.YtajpblfinenmjaaGreatDoor.Pl
open Go
noncomputable section
theorem u64add {x y : UInt64} (h : x.toNat + y.toNat < 18446744073709551616) : (x + y).toNat = x.toNat + y.toNat := by
 rw [UInt64.toNat_add]; exact Nat.mod_eq_of_lt h
theorem u64mul {x y : UInt64} (h : x.toNat * y.toNat < 18446744073709551616) : (x * y).toNat = x.toNat * y.toNat := by
 rw [UInt64.toNat_mul]; exact Nat.mod_eq_of_lt h
theorem u64sub {x y : UInt64} (h : y.toNat ≤ x.toNat) : (x - y).toNat = x.toNat - y.toNat := UInt64.toNat_sub_of_le _ _ (UInt64.le_iff_toNat_le.2 h)
theorem u64shr (x : UInt64) (n : Nat) : (shr64 x n).toNat = x.toNat / 2 ^ n := by
 show (x.toBitVec >>> n).toNat = _
 rw [BitVec.toNat_ushiftRight, Nat.shiftRight_eq_div_pow]; rfl
theorem u64lo (x : UInt64) : (x &&& 4294967295).toNat = x.toNat % 4294967296 := by
 rw [UInt64.toNat_and]; exact Nat.and_two_pow_sub_one_eq_mod _ 32
theorem zwg0 (N : Nat) (x y : UInt64) : ∃ h l, zq41 N x y = some ((h, l, ()), ()) ∧ h.toNat = x.toNat * y.toNat / 18446744073709551616 ∧ l.toNat = x.toNat * y.toNat % 18446744073709551616 := by
 have hx := x.toNat_lt; have hy := y.toNat_lt
 obtain ⟨bd, bt, bw, hhi⟩ := Lib.mul64_hi x.toNat y.toNat hx hy
 have ba := Lib.half_mul_le (a := x.toNat / 4294967296) (b := y.toNat / 4294967296) (by omega) (by omega)
 have bb := Lib.half_mul_le (a := x.toNat / 4294967296) (b := y.toNat % 4294967296) (by omega) (by omega)
 have bc := Lib.half_mul_le (a := x.toNat % 4294967296) (b := y.toNat / 4294967296) (by omega) (by omega)
 have be := Lib.half_mul_le (a := x.toNat % 4294967296) (b := y.toNat % 4294967296) (by omega) (by omega)
 have s32 : ∀ z : UInt64, (shr64 z 32).toNat = z.toNat / 4294967296 := fun z => u64shr z 32
 have m1 : (shr64 x 32 * shr64 y 32).toNat = x.toNat / 4294967296 * (y.toNat / 4294967296) := by rw [u64mul (by rw [s32, s32]; omega), s32, s32]
 have m2 : (shr64 x 32 * (y &&& 4294967295)).toNat = x.toNat / 4294967296 * (y.toNat % 4294967296) := by rw [u64mul (by rw [s32, u64lo]; omega), s32, u64lo]
 have m3 : ((x &&& 4294967295) * (y &&& 4294967295)).toNat = x.toNat % 4294967296 * (y.toNat % 4294967296) := by rw [u64mul (by rw [u64lo, u64lo]; omega), u64lo, u64lo]
 have m4 : ((x &&& 4294967295) * shr64 y 32).toNat = x.toNat % 4294967296 * (y.toNat / 4294967296) := by rw [u64mul (by rw [u64lo, s32]; omega), u64lo, s32]
 have t1 : (shr64 x 32 * (y &&& 4294967295) + shr64 ((x &&& 4294967295) * (y &&& 4294967295)) 32).toNat = x.toNat / 4294967296 * (y.toNat % 4294967296) + x.toNat % 4294967296 * (y.toNat % 4294967296) / 4294967296 := by
  rw [u64add (by rw [s32, m2, m3]; omega), s32, m2, m3]
 have t2 : ((shr64 x 32 * (y &&& 4294967295) + shr64 ((x &&& 4294967295) * (y &&& 4294967295)) 32 &&& 4294967295) + (x &&& 4294967295) * shr64 y 32).toNat = (x.toNat / 4294967296 * (y.toNat % 4294967296) + x.toNat % 4294967296 * (y.toNat % 4294967296) / 4294967296) % 4294967296 + x.toNat % 4294967296 * (y.toNat / 4294967296) := by
  rw [u64add (by rw [u64lo, t1, m4]; omega), u64lo, t1, m4]
 refine ⟨_, _, rfl, ?_, UInt64.toNat_mul ..⟩
 rw [← hhi]
 rw [u64add (by rw [u64add (by rw [m1, s32, t1]; omega), m1, s32, t1, s32, t2]; omega), u64add (by rw [m1, s32, t1]; omega), m1, s32, t1, s32, t2]
theorem c_0 : (4294967295 : UInt64).toNat = 4294967295 := rfl
theorem c_1 : (4294967296 : UInt64).toNat = 4294967296 := rfl
theorem c_2 : (4294925036 : UInt64).toNat = 4294925036 := rfl
theorem c_3 : (1 : UInt64).toNat = 1 := rfl
theorem c_4 : (18446744073709509356 : UInt64).toNat = 18446744073709509356 := rfl
theorem k_z {z : UInt64} (h : z.toNat ≤ 4294967295) : ∃ z1, z + 4294967295 = z1 ∧ z1.toNat = z.toNat + 4294967295 := ⟨_, rfl, by rw [u64add (by rw [c_0]; omega), c_0]⟩
theorem k_x {x : UInt64} (h : 1 ≤ x.toNat) : ∃ x1, x - 1 = x1 ∧ x1.toNat = x.toNat - 1 := ⟨_, rfl, by rw [u64sub (by rw [c_3]; omega), c_3]⟩
theorem k_m {x : UInt64} (h : x.toNat ≤ 4294967298) : ∃ m, x * 4294925036 = m ∧ m.toNat = x.toNat * 4294925036 := ⟨_, rfl, by rw [u64mul (by rw [c_2]; omega), c_2]⟩
theorem k_s {z : UInt64} (h : z.toNat ≤ 4294967295) : ∃ m, 4294967296 * z = m ∧ m.toNat = 4294967296 * z.toNat := ⟨_, rfl, by rw [u64mul (by rw [c_1]; omega), c_1]⟩
theorem k_a {m u : UInt64} (h : m.toNat + u.toNat < 18446744073709551616) : ∃ a, m + u = a ∧ a.toNat = m.toNat + u.toNat := ⟨_, rfl, u64add h⟩
theorem k_le {z : UInt64} : (4294967296 : UInt64) ≤ z ↔ 4294967296 ≤ z.toNat := by rw [UInt64.le_iff_toNat_le, c_1]
theorem div_10 (N : Nat) {u0 q1 V q0 : UInt64} (h1 : q0.toNat * 18446744073709509356 ≤ V.toNat * 4294967296 + u0.toNat) (h2 : V.toNat * 4294967296 + u0.toNat < (q0.toNat + 1) * 18446744073709509356) :
  ∃ r, zq31_10 N 18446744073709509356 2 u0 q1 V q0 = some r ∧ r.1.2.1.toNat = (V.toNat * 4294967296 + u0.toNat - q0.toNat * 18446744073709509356) / 4 := by
 refine ⟨_, rfl, ?_⟩
 show (shr64 (V * 4294967296 + u0 - q0 * 18446744073709509356) (2 : UInt64).toNat).toNat = _
 rw [u64shr]
 show _ / 4 = _
 congr 1
 rw [UInt64.toNat_sub, UInt64.toNat_add, UInt64.toNat_mul, UInt64.toNat_mul, c_1, c_4]
 have := u0.toNat_lt; have := q0.toNat_lt; have := V.toNat_lt
 omega
theorem ar1 {x1 z V u : Nat} (i1 : (x1 + 1) * 4294967295 + z = V) (i2 : z ≤ 4294967295) (hx : x1 + 1 ≤ 4294967298) (hb : 4294967296 ≤ z + 4294967295) : x1 * 18446744073709509356 ≤ V * 4294967296 + u := by
 subst i1; omega
theorem ar2 {x z V u : Nat} (i1 : x * 4294967295 + z = V) (g : ¬ 4294967296 * z + u < x * 4294925036) : x * 18446744073709509356 ≤ V * 4294967296 + u := by
 subst i1; omega
theorem ar3 {x1 z V u : Nat} (i1 : (x1 + 1) * 4294967295 + z = V) (g : 4294967296 ≤ x1 + 1 ∨ 4294967296 * z + u < (x1 + 1) * 4294925036) (hu : u ≤ 4294967295) (hV : V < 18446744073709509356): V * 4294967296 + u < (x1 + 1) * 18446744073709509356 := by
 rcases g with g | g
 ·clear i1; omega
 ·subst i1; clear hu hV; omega
theorem ar4 {x1 z z1 V : Nat} (i1 : (x1 + 1) * 4294967295 + z = V) (h : z1 = z + 4294967295) : x1 * 4294967295 + z1 = V := by
 subst i1 h; omega
theorem ar5 {z z1 : Nat} (i2 : z ≤ 4294967295) (h : z1 = z + 4294967295) (hb : ¬ 4294967296 ≤ z1) : z1 ≤ 4294967295 := by subst h; omega
set_option maxRecDepth 20000 in
theorem div_7 (N : Nat) (hN : 4611686018427387904 ≤ N) {u0 q1 V : UInt64} (hV : V.toNat < 18446744073709509356) (hu : u0.toNat ≤ 4294967295) :
  ∃ r, zq31_7 N 18446744073709509356 2 4294967295 4294925036 u0 q1 (V - V / 4294967295 * 4294967295) V (V / 4294967295) = some r ∧ r.1.2.1.toNat = (V.toNat * 4294967296 + u0.toNat) % 18446744073709509356 / 4 := by
 unfold zq31_7
 have hq0 : (V / 4294967295).toNat = V.toNat / 4294967295 := by rw [UInt64.toNat_div, c_0]
 have hm0 : (V / 4294967295 * 4294967295).toNat = V.toNat / 4294967295 * 4294967295 := by rw [u64mul (by rw [hq0, c_0]; omega), hq0, c_0]
 have hr0 : (V - V / 4294967295 * 4294967295).toNat = V.toNat - V.toNat / 4294967295 * 4294967295 := by rw [u64sub (by rw [hm0]; omega), hm0]
 have fin : ∀ q0 : UInt64, q0.toNat * 18446744073709509356 ≤ V.toNat * 4294967296 + u0.toNat → V.toNat * 4294967296 + u0.toNat < (q0.toNat + 1) * 18446744073709509356 → ∃ r, zq31_10 N 18446744073709509356 2 u0 q1 V q0 = some r ∧ r.1.2.1.toNat = (V.toNat * 4294967296 + u0.toNat) % 18446744073709509356 / 4 := by
  intro q0 a b
  obtain ⟨r, e, hr⟩ := div_10 N (q1 := q1) a b
  refine ⟨r, e, ?_⟩
  rw [hr]
  congr 1
  omega
 clear hm0
 generalize V - V / 4294967295 * 4294967295 = Z0 at *
 generalize V / 4294967295 = X0 at *
 refine zwc (I := fun y => ∃ x z : UInt64, y = ((18446744073709509356, 2, 4294967295, 4294925036, u0, q1, z, V, x, ()), ()) ∧ x.toNat * 4294967295 + z.toNat = V.toNat ∧ z.toNat ≤ 4294967295 ∧ V.toNat * 4294967296 + u0.toNat < (x.toNat + 1) * 18446744073709509356)
  (μ := fun y => (y.1.2.2.2.2.2.2.2.2.1 : UInt64).toNat) (T := fun (r : zq31_R) => r.1.2.1.toNat = (V.toNat * 4294967296 + u0.toNat) % 18446744073709509356 / 4) ?_ ⟨X0, Z0, rfl, by rw [hq0, hr0]; omega, by rw [hr0]; omega, by rw [hq0]; omega⟩ (by simp only [hq0]; omega)
 rintro y ⟨x, z, rfl, i1, i2, i3⟩
 show ∃ o, zq31_s8 N 18446744073709509356 2 4294967295 4294925036 u0 q1 z V x = some o ∧ _
 unfold zq31_s8 zq31_9
 have hx : x.toNat ≤ 4294967298 := by omega
 obtain ⟨m1, f1, hm1⟩ := k_s i2
 obtain ⟨m2, f2, hm2⟩ := k_a (m := m1) (u := u0) (by omega)
 obtain ⟨m3, f3, hm3⟩ := k_m (show x.toNat ≤ 4294967298 by omega)
 obtain ⟨z1, f4, hz1⟩ := k_z i2
 rw [f1, f2, f3, f4]
 have d1 := @k_le x
 have d2 : m2 < m3 ↔ m2.toNat < m3.toNat := UInt64.lt_iff_toNat_lt
 have d3 := @k_le z1
 have body : (4294967296 ≤ x.toNat ∨ m2.toNat < m3.toNat) → ∃ o, (bif decide ((4294967296 : UInt64) ≤ z1) then some (Lo.br ((18446744073709509356, 2, u0, q1, V, x - 1, ()), ())) else some (Lo.go ((18446744073709509356, 2, 4294967295, 4294925036, u0, q1, z1, V, x - 1, ()), ())) : Option (Lo ((UInt64 × UInt64 × UInt64 × UInt64 × UInt64 × UInt64 × UInt64 × UInt64 × UInt64 × Unit) × (Unit)) ((UInt64 × UInt64 × UInt64 × UInt64 × UInt64 × UInt64 × Unit) × (Unit)) zq31_R)) = some o ∧ match o with
   | .go x' => (∃ x z : UInt64, x' = ((18446744073709509356, 2, 4294967295, 4294925036, u0, q1, z, V, x, ()), ()) ∧ x.toNat * 4294967295 + z.toNat = V.toNat ∧ z.toNat ≤ 4294967295 ∧ V.toNat * 4294967296 + u0.toNat < (x.toNat + 1) * 18446744073709509356) ∧ x'.1.2.2.2.2.2.2.2.2.1.toNat < x.toNat
   | .br e => ∃ r, zq31_10 N e.1.1 e.1.2.1 e.1.2.2.1 e.1.2.2.2.1 e.1.2.2.2.2.1 e.1.2.2.2.2.2.1 = some r ∧ r.1.2.1.toNat = (V.toNat * 4294967296 + u0.toNat) % 18446744073709509356 / 4
   | .rt r => r.1.2.1.toNat = (V.toNat * 4294967296 + u0.toNat) % 18446744073709509356 / 4 := by
  intro hg
  obtain ⟨x1, f5, hx1⟩ := k_x (x := x) (by omega)
  rw [f5]
  have y1 : (x1.toNat + 1) * 4294967295 + z.toNat = V.toNat := by rw [hx1, Nat.sub_add_cancel (by omega)]; exact i1
  have y2 : x1.toNat + 1 ≤ 4294967298 := by omega
  have y3 : 4294967296 ≤ x1.toNat + 1 ∨ 4294967296 * z.toNat + u0.toNat < (x1.toNat + 1) * 4294925036 := by
   rw [hx1, Nat.sub_add_cancel (by omega)]
   rw [hm2, hm1, hm3] at hg
   exact hg
  have y4 : V.toNat * 4294967296 + u0.toNat < (x1.toNat + 1) * 18446744073709509356 := ar3 y1 y3 hu hV
  by_cases hb : (4294967296 : UInt64) ≤ z1
  ·rw [dpos hb, cond_true]
   have hb' := d3.1 hb
   exact ⟨_, rfl, fin x1 (ar1 y1 i2 y2 (by omega)) y4⟩
  ·rw [dneg hb, cond_false]
   have hb' : ¬ 4294967296 ≤ z1.toNat := fun e => hb (d3.2 e)
   exact ⟨_, rfl, ⟨x1, z1, rfl, ar4 y1 hz1, ar5 i2 hz1 hb', y4⟩, by show x1.toNat < x.toNat; omega⟩
 by_cases g1 : (4294967296 : UInt64) ≤ x
 ·rw [dpos g1]
  simp only [cond_true, cond_false]
  obtain ⟨o, ho, h⟩ := body (.inl (d1.1 g1))
  exact ⟨o, ho, by cases o <;> exact h⟩
 ·rw [dneg g1]
  by_cases g2 : m2 < m3
  ·rw [dpos g2]
   simp only [cond_true, cond_false]
   obtain ⟨o, ho, h⟩ := body (.inr (d2.1 g2))
   exact ⟨o, ho, by cases o <;> exact h⟩
  ·rw [dneg g2]
   have g1' : ¬ 4294967296 ≤ x.toNat := fun e => g1 (d1.2 e)
   have g2' : ¬ m2.toNat < m3.toNat := fun e => g2 (d2.2 e)
   exact ⟨_, rfl, fin x (ar2 i1 (by rw [hm2, hm1, hm3] at g2'; exact g2')) i3⟩
set_option maxRecDepth 20000 in
theorem div_3 (N : Nat) (hN : 4611686018427387904 ≤ N) {U u1 u0 : UInt64} (hU : U.toNat < 4611686018427387904) (hu1 : u1.toNat ≤ 4294967295) (hu0 : u0.toNat ≤ 4294967295) :
  ∃ r, zq31_3 N 18446744073709509356 2 4294967295 4294925036 U u1 u0 (U / 4294967295) (U - U / 4294967295 * 4294967295) = some r ∧ r.1.2.1.toNat = ((U.toNat * 4294967296 + u1.toNat) % 18446744073709509356 * 4294967296 + u0.toNat) % 18446744073709509356 / 4 := by
 unfold zq31_3
 have hq0 : (U / 4294967295).toNat = U.toNat / 4294967295 := by rw [UInt64.toNat_div, c_0]
 have hm0 : (U / 4294967295 * 4294967295).toNat = U.toNat / 4294967295 * 4294967295 := by rw [u64mul (by rw [hq0, c_0]; omega), hq0, c_0]
 have hr0 : (U - U / 4294967295 * 4294967295).toNat = U.toNat - U.toNat / 4294967295 * 4294967295 := by rw [u64sub (by rw [hm0]; omega), hm0]
 have fin : ∀ q : UInt64, q.toNat * 18446744073709509356 ≤ U.toNat * 4294967296 + u1.toNat → U.toNat * 4294967296 + u1.toNat < (q.toNat + 1) * 18446744073709509356 → ∃ r, zq31_6 N 18446744073709509356 2 4294967295 4294925036 U u1 u0 q = some r ∧ r.1.2.1.toNat = ((U.toNat * 4294967296 + u1.toNat) % 18446744073709509356 * 4294967296 + u0.toNat) % 18446744073709509356 / 4 := by
  intro q a b
  unfold zq31_6
  have hnz : ¬ (4294967295 : UInt64) = 0 := by decide
  have hV : (U * 4294967296 + u1 - q * 18446744073709509356).toNat = (U.toNat * 4294967296 + u1.toNat) % 18446744073709509356 := by
   rw [UInt64.toNat_sub, UInt64.toNat_add, UInt64.toNat_mul, UInt64.toNat_mul, c_1, c_4]
   have := u1.toNat_lt; have := q.toNat_lt
   omega
  rw [dneg hnz]
  obtain ⟨r, e, hr⟩ := div_7 N hN (u0 := u0) (q1 := q) (V := U * 4294967296 + u1 - q * 18446744073709509356) (by rw [hV]; exact Nat.mod_lt _ (by decide)) hu0
  exact ⟨r, e, by rw [hr, hV]⟩
 clear hm0
 generalize U - U / 4294967295 * 4294967295 = Z0 at *
 generalize U / 4294967295 = X0 at *
 refine zwc (I := fun y => ∃ x z : UInt64, y = ((18446744073709509356, 2, 4294967295, 4294925036, U, u1, u0, x, z, ()), ()) ∧ x.toNat * 4294967295 + z.toNat = U.toNat ∧ z.toNat ≤ 4294967295 ∧ U.toNat * 4294967296 + u1.toNat < (x.toNat + 1) * 18446744073709509356)
  (μ := fun y => y.1.2.2.2.2.2.2.2.1.toNat) (T := fun (r : zq31_R) => r.1.2.1.toNat = ((U.toNat * 4294967296 + u1.toNat) % 18446744073709509356 * 4294967296 + u0.toNat) % 18446744073709509356 / 4) ?_ ⟨X0, Z0, rfl, by rw [hq0, hr0]; omega, by rw [hr0]; omega, by rw [hq0]; omega⟩ (by simp only [hq0]; omega)
 rintro y ⟨x, z, rfl, i1, i2, i3⟩
 show ∃ o, zq31_s4 N 18446744073709509356 2 4294967295 4294925036 U u1 u0 x z = some o ∧ _
 unfold zq31_s4 zq31_5
 have hx : x.toNat ≤ 2147483648 := by omega
 obtain ⟨m1, f1, hm1⟩ := k_s i2
 obtain ⟨m2, f2, hm2⟩ := k_a (m := m1) (u := u1) (by omega)
 obtain ⟨m3, f3, hm3⟩ := k_m (show x.toNat ≤ 4294967298 by omega)
 obtain ⟨z1, f4, hz1⟩ := k_z i2
 rw [f1, f2, f3, f4]
 have d1 : ¬ (4294967296 : UInt64) ≤ x := fun e => by have := k_le.1 e; omega
 have d2 : m2 < m3 ↔ m2.toNat < m3.toNat := UInt64.lt_iff_toNat_lt
 have d3 := @k_le z1
 rw [dneg d1]
 by_cases g2 : m2 < m3
 ·have hg := d2.1 g2
  obtain ⟨x1, f5, hx1⟩ := k_x (x := x) (by omega)
  rw [f5]
  have y1 : (x1.toNat + 1) * 4294967295 + z.toNat = U.toNat := by rw [hx1, Nat.sub_add_cancel (by omega)]; exact i1
  have y2 : x1.toNat + 1 ≤ 4294967298 := by omega
  have y3 : 4294967296 ≤ x1.toNat + 1 ∨ 4294967296 * z.toNat + u1.toNat < (x1.toNat + 1) * 4294925036 := by
   rw [hx1, Nat.sub_add_cancel (by omega)]
   rw [hm2, hm1, hm3] at hg
   exact Or.inr hg
  have y4 : U.toNat * 4294967296 + u1.toNat < (x1.toNat + 1) * 18446744073709509356 := ar3 y1 y3 hu1 (by omega)
  rw [dpos g2]
  by_cases hb : (4294967296 : UInt64) ≤ z1
  ·have hb' := d3.1 hb
   simp only [dpos hb, cond_true, cond_false]
   exact ⟨_, rfl, fin x1 (ar1 y1 i2 y2 (by omega)) y4⟩
  ·have hb' : ¬ 4294967296 ≤ z1.toNat := fun e => hb (d3.2 e)
   simp only [dneg hb, cond_true, cond_false]
   exact ⟨_, rfl, ⟨x1, z1, rfl, ar4 y1 hz1, ar5 i2 hz1 hb', y4⟩, by show x1.toNat < x.toNat; omega⟩
 ·have g2' : ¬ m2.toNat < m3.toNat := fun e => g2 (d2.2 e)
  rw [dneg g2]
  exact ⟨_, rfl, fin x (ar2 i1 (by rw [hm2, hm1, hm3] at g2'; exact g2')) i3⟩
theorem lz_ok (N : Nat) : zq2 N 4611686018427377339 = some ((2, ()), ()) := by kernel_rfl
theorem zwg1 (N : Nat) (hN : 4611686018427387904 ≤ N) {hi lo : UInt64} (h : hi.toNat < 1152921504606846976) : ∃ r, zq31 N hi lo 4611686018427377339 = some r ∧ r.1.2.1.toNat = (hi.toNat * 18446744073709551616 + lo.toNat) % 4611686018427377339 := by
 have hp : (4611686018427377339 : UInt64).toNat = 4611686018427377339 := rfl
 unfold zq31 zq31_1 zq31_2
 have n0 : ¬ (4611686018427377339 : UInt64) = 0 := by decide
 have n1 : ¬ (4611686018427377339 : UInt64) ≤ hi := by rw [UInt64.le_iff_toNat_le, hp]; omega
 simp only [dneg n0, dneg n1, cond_false, Bool.not_false, cond_true]
 by_cases hz : hi = 0
 ·subst hz
  rw [dpos rfl, cond_true]
  refine ⟨_, rfl, ?_⟩
  show (lo % 4611686018427377339).toNat = _
  rw [UInt64.toNat_mod, hp]
  have : (0 : UInt64).toNat = 0 := rfl
  rw [this, Nat.zero_mul, Nat.zero_add]
 ·rw [dneg hz, lz_ok]
  simp only [cond_false, Option.bind_some]
  have e1 : (iu64 2).toNat = 2 := rfl
  have e2 : ((64 : UInt64) - iu64 2).toNat = 62 := rfl
  have e3 : iu64 2 = 2 := rfl
  have y1 : shl64 4611686018427377339 2 = 18446744073709509356 := rfl
  have y2 : shr64 18446744073709509356 32 = 4294967295 := rfl
  have y3 : (18446744073709509356 : UInt64) &&& 4294967295 = 4294925036 := rfl
  have n2 : ¬ (4294967295 : UInt64) = 0 := by decide
  rw [e1, e2, e3, y1, y2, y3]
  simp only [dneg n2, Bool.not_false, cond_true]
  have hlo := lo.toNat_lt
  have hsl : (shl64 hi 2).toNat = hi.toNat * 4 := by
   show (hi.toBitVec <<< 2).toNat = _
   rw [BitVec.toNat_shiftLeft, Nat.shiftLeft_eq]
   have : hi.toBitVec.toNat = hi.toNat := rfl
   rw [this]
   exact Nat.mod_eq_of_lt (by omega)
  have hsr : (shr64 lo 62).toNat = lo.toNat / 4611686018427387904 := u64shr lo 62
  have hU : (shl64 hi 2 ||| shr64 lo 62).toNat = hi.toNat * 4 + lo.toNat / 4611686018427387904 := by
   rw [UInt64.toNat_or, hsl, hsr, show hi.toNat * 4 = hi.toNat <<< 2 by rw [Nat.shiftLeft_eq], ← Nat.shiftLeft_add_eq_or_of_lt (show lo.toNat / 4611686018427387904 < 2 ^ 2 by omega)]
  have hL : (shl64 lo 2).toNat = lo.toNat * 4 % 18446744073709551616 := by
   show (lo.toBitVec <<< 2).toNat = _
   rw [BitVec.toNat_shiftLeft, Nat.shiftLeft_eq]; rfl
  have hu1 : (shr64 (shl64 lo 2) 32).toNat = lo.toNat * 4 % 18446744073709551616 / 4294967296 := by rw [u64shr, hL]
  have hu0 : (shl64 lo 2 &&& 4294967295).toNat = lo.toNat * 4 % 18446744073709551616 % 4294967296 := by rw [u64lo, hL]
  obtain ⟨r, e, hr⟩ := div_3 N hN (U := shl64 hi 2 ||| shr64 lo 62) (u1 := shr64 (shl64 lo 2) 32) (u0 := shl64 lo 2 &&& 4294967295) (by rw [hU]; omega) (by rw [hu1]; omega) (by rw [hu0]; omega)
  refine ⟨r, e, ?_⟩
  rw [hr, hU, hu1, hu0]
  generalize hi.toNat = H at *
  generalize lo.toNat = L at *
  omega
theorem zw9g (N : Nat) (hN : 4611686018427387904 ≤ N) (a b : UInt64) : ∃ r, zq107 N a b = some ((r, ()), ()) ∧ r.toNat = a.toNat * b.toNat % 4611686018427377339 := by
 have hp : (4611686018427377339 : UInt64).toNat = 4611686018427377339 := rfl
 obtain ⟨h, l, e1, h1, h2⟩ := zwg0 N (a % 4611686018427377339) (b % 4611686018427377339)
 rw [UInt64.toNat_mod, UInt64.toNat_mod, hp] at h1 h2
 have hb := Nat.mul_le_mul (show a.toNat % 4611686018427377339 ≤ 4611686018427377338 by omega) (show b.toNat % 4611686018427377339 ≤ 4611686018427377338 by omega)
 obtain ⟨r, e2, h3⟩ := zwg1 N hN (hi := h) (lo := l) (by rw [h1]; omega)
 unfold zq107
 rw [e1, Option.bind_some]
 simp only [e2, Option.bind_some]
 refine ⟨_, rfl, ?_⟩
 rw [h3, h1, h2, Nat.div_add_mod', ← Nat.mul_mod]
theorem zwg2 (N : Nat) (hN : 4611686018427387904 ≤ N) (a e : UInt64) : ∃ r, zq73 N a e = some ((r, ()), ()) ∧ r.toNat = a.toNat ^ e.toNat % 4611686018427377339 := by
 unfold zq73 zq73_1
 have := zwc (N := N) (step := fun y => zq73_s2 N y.1.1 y.1.2.1 y.1.2.2.1) (J := fun (e : ((UInt64 × Unit) × (Unit))) => zq73_3 N e.1.1)
  (I := fun y => y.1.2.2.1.toNat * y.1.1.toNat ^ y.1.2.1.toNat % 4611686018427377339 = a.toNat ^ e.toNat % 4611686018427377339 ∧ y.1.2.2.1.toNat < 4611686018427377339 ∧ y.1.2.1.toNat < 2 ^ 64 ) (μ := fun y => y.1.2.1.toNat.log2 + (if y.1.2.1.toNat = 0 then 0 else 1)) (T := fun r => ∃ v, r = ((v, ()), ()) ∧ v.toNat = a.toNat ^ e.toNat % 4611686018427377339) ?_
  (x := ((a, e, 1, ()), ())) ⟨by show 1 * _ % _ = _; rw [Nat.one_mul], by show (1 : UInt64).toNat < _; decide, e.toNat_lt⟩ (by
   simp only
   have : e.toNat.log2 < 64 := by
    by_cases h : e.toNat = 0
    ·rw [h]; decide
    ·exact (Nat.log2_lt h).2 e.toNat_lt
   split <;> omega)
 ·obtain ⟨r, h1, v, rfl, h2⟩ := this
  exact ⟨v, h1, h2⟩
 ·rintro ⟨⟨x, k, r, _⟩, _⟩ ⟨h1, h2, h3⟩
  simp only at h1 h2 h3
  show ∃ o, zq73_s2 N x k r = some o ∧ _
  unfold zq73_s2
  have z : (0 : UInt64).toNat = 0 := rfl
  have o1 : (1 : UInt64).toNat = 1 := rfl
  by_cases hk : (0 : UInt64) < k
  ·have hk' : 0 < k.toNat := by rw [UInt64.lt_iff_toNat_lt, z] at hk; exact hk
   obtain ⟨x2, ex, hx2⟩ := zw9g N hN x x
   obtain ⟨rx, er, hrx⟩ := zw9g N hN r x
   have hs : (shr64 k 1).toNat = k.toNat / 2 := u64shr k 1
   have hbit : (k &&& 1).toNat = k.toNat % 2 := by rw [UInt64.toNat_and, o1]; exact Nat.and_two_pow_sub_one_eq_mod _ 1
   have hmeas : (shr64 k 1).toNat.log2 + (if (shr64 k 1).toNat = 0 then 0 else 1) < k.toNat.log2 + (if k.toNat = 0 then 0 else 1) := by
    rw [hs, if_neg (show ¬ k.toNat = 0 by omega)]
    by_cases h : k.toNat / 2 = 0
    ·rw [h, if_pos rfl]; simp
    ·rw [if_neg h]
     have : k.toNat.log2 = (k.toNat / 2).log2 + 1 := by
      rw [Nat.log2_def k.toNat, if_pos (by omega)]
     omega
   have hpow : ∀ q : Nat, x2.toNat ^ q % 4611686018427377339 = x.toNat ^ (2 * q) % 4611686018427377339 := by
    intro q
    rw [hx2, ← Nat.pow_mod, Nat.pow_mul, Nat.pow_two]
   by_cases hb : k &&& 1 = 1
   ·have hodd : k.toNat % 2 = 1 := by rw [← hbit, hb]; rfl
    simp only [dpos hk, dpos hb, cond_true, er, ex, Option.bind_some]
    refine ⟨_, rfl, ⟨?_, by simp only [hrx]; exact Nat.mod_lt _ (by decide), by simp only [hs]; omega⟩, by simpa only using hmeas⟩
    simp only
    rw [← h1, hs, Nat.mul_mod, hpow, hrx, Nat.mod_mod, ← Nat.mul_mod, Nat.mul_assoc, ← Nat.pow_succ', show (2 * (k.toNat / 2)).succ = k.toNat by omega]
   ·have heven : k.toNat % 2 = 0 := by
     rcases (by omega : k.toNat % 2 = 0 ∨ k.toNat % 2 = 1) with h | h
     ·exact h
     ·exact absurd (UInt64.toNat_inj.1 (by rw [hbit, h]; rfl)) hb
    simp only [dpos hk, dneg hb, cond_true, cond_false, ex, Option.bind_some]
    refine ⟨_, rfl, ⟨?_, h2, by simp only [hs]; omega⟩, by simpa only using hmeas⟩
    simp only
    rw [← h1, hs, Nat.mul_mod, hpow, ← Nat.mul_mod, show 2 * (k.toNat / 2) = k.toNat by omega]
  ·have hk' : k.toNat = 0 := by
    have : ¬ 0 < k.toNat := fun h => hk (by rw [UInt64.lt_iff_toNat_lt, z]; exact h)
    omega
   simp only [dneg hk, cond_false]
   refine ⟨_, rfl, _, rfl, r, rfl, ?_⟩
   rw [hk', Nat.pow_zero, Nat.mul_one, Nat.mod_eq_of_lt h2] at h1
   exact h1
end
end Go.Proofs.YtajpblfinenmjaaGreatDoor.Pl

namespace Go.Proofs.YtajpblfinenmjaaGreatDoor.Pl
open Go
theorem zw1s (l : List Tree) {i : Int} (h0 : 0 ≤ i) (h : i < (l.length : Int)) (z : TT.den) : ∃ a, a ∈ l ∧ l[i.toNat]? = some a ∧ (List.map Tree.un l).getD i.toNat z = a.un := by
 have hi : i.toNat < l.length := by omega
 refine ⟨l[i.toNat], List.getElem_mem hi, List.getElem?_eq_getElem hi, ?_⟩
 simp [List.getD, List.getElem?_map, List.getElem?_eq_getElem hi]
theorem enc_ok {N : Nat} (hN : 4611686018427387904 ≤ N) : ∀ (e n : Nat) (t : Tree) (b : List UInt8), e ≤ n → Gd e t → b.length + 11 * nbd e ≤ 1000000 → ∃ out, zw13 N n t.un b = some ((), (out, ())) ∧ out.length ≤ b.length + 11 * nbd e
 | 0, _, _, _, _, h, _ => h.elim
 | e + 1, 0, _, _, hn, _, _ => absurd hn (by omega)
 | e + 1, n + 1, .mk o v l, b, hn, h, hb => by
  obtain ⟨h1, h2, h3⟩ := h
  have h2' : l.length ≤ 4 := Nat.le_trans h2 (bdn_le _)
  have ih := fun t b h hb => enc_ok hN e n t b (by omega) h hb
  show ∃ out, zq34 N (zw13 N n) (o, v, l, ()) b = _ ∧ _
  unfold zq34
  have er : room (b.length + ([iu8 o] : List UInt8).length) 1 = true := zw3 (by simp only [List.length_cons, List.length_nil]; omega)
  have p1 := zw14 N (v := iu64 v) (w := 8) (b := b ++ [iu8 o]) (by omega) (by omega) (by simp only [List.length_append, List.length_cons, List.length_nil]; omega) (by omega)
  have l1 : (b ++ [iu8 o] ++ be (iu64 v) (8 : Int).toNat).length = b.length + 9 := by simp only [List.length_append, List.length_cons, List.length_nil, be_len]; omega
  have p2 := zw14 N (v := iu64 ((List.map Tree.un l).length : Int)) (w := 2) (b := b ++ [iu8 o] ++ be (iu64 v) (8 : Int).toNat) (by omega) (by omega) (by rw [l1]; omega) (by omega)
  have l2 : (b ++ [iu8 o] ++ be (iu64 v) (8 : Int).toNat ++ be (iu64 ((List.map Tree.un l).length : Int)) (2 : Int).toNat).length = b.length + 11 := by rw [List.length_append, l1, be_len]; omega
  simp only [er, cond_true, p1, p2, Option.bind_some]
  generalize b ++ [iu8 o] ++ be (iu64 v) (8 : Int).toNat ++ be (iu64 ((List.map Tree.un l).length : Int)) (2 : Int).toNat = b0 at l2
  unfold zq34_1
  obtain ⟨M, hM⟩ : ∃ M, M = 11 * nbd e := ⟨_, rfl⟩
  have hM2 : 11 * nbd (e + 1) = 11 + 4 * M := by rw [hM]; simp only [nbd]; omega
  rw [hM2] at hb ⊢
  have hlen : (List.map Tree.un l).length = l.length := List.length_map ..
  have hl := zwc (N := N) (step := fun y => zq34_s2 N (zw13 N n) y.1.1 y.1.2.1 y.1.2.2.1 y.2.1) (J := fun (e : ((Unit) × ((List UInt8) × Unit))) => zq34_3 N (zw13 N n) e.2.1)
   (I := fun y => y.1.1 = List.map Tree.un l ∧ y.1.2.1 = (l.length : Int) ∧ 0 ≤ y.1.2.2.1 ∧ y.1.2.2.1 ≤ (l.length : Int) ∧ y.2.1.length ≤ b.length + 11 + y.1.2.2.1.toNat * M) (μ := fun y => ((l.length : Int) - y.1.2.2.1).toNat)
   (T := fun r => ∃ out, r = ((), (out, ())) ∧ out.length ≤ b.length + (11 + 4 * M)) ?_
   (x := ((List.map Tree.un l, ((List.map Tree.un l).length : Int), 0, ()), (b0, ()))) ⟨rfl, by simp only [hlen], Int.le_refl _, by simp only; omega, by simp only [l2]; omega⟩ (by simp only; omega)
  ·obtain ⟨r, q1, out, rfl, ho⟩ := hl
   exact ⟨out, q1, ho⟩
  ·rintro ⟨⟨xs, m, i, ⟨⟩⟩, b', ⟨⟩⟩ ⟨g1, g2, g3, g4, g5⟩
   simp only at g1 g2 g3 g4 g5
   subst g1
   subst g2
   simp only [zq34_s2]
   by_cases hlt : i < (l.length : Int)
   ·obtain ⟨a, ha, _, hg⟩ := zw1s l g3 hlt ((0 : Int), (0 : Int), ([] : List Tree), ())
    have e1 : decide (i < (l.length : Int)) = true := decide_eq_true hlt
    have e2 : inR i (List.map Tree.un l).length = true := inR_of g3 (by rw [hlen]; exact hlt)
    have hle : i.toNat * M + M ≤ 4 * M := by
     have := Nat.mul_le_mul_right M (show i.toNat + 1 ≤ 4 by omega)
     rw [Nat.succ_mul] at this
     exact this
    obtain ⟨out, r1, r2⟩ := ih a b' (h3 a ha) (by rw [← hM]; omega)
    have e4 : w64 (i + 1) = i + 1 := w64_of (by omega) (by omega)
    rw [e1, e2, hg, r1, e4]
    refine ⟨_, rfl, ⟨rfl, rfl, by simp only; omega, by simp only; omega, ?_⟩, by simp only; omega⟩
    have e5 : (i + 1).toNat = i.toNat + 1 := by omega
    simp only [e5, Nat.succ_mul]
    rw [← hM] at r2
    omega
   ·have e1 : decide (i < (l.length : Int)) = false := decide_eq_false hlt
    rw [e1]
    refine ⟨_, rfl, _, rfl, _, rfl, ?_⟩
    have hle : i.toNat * M ≤ 4 * M := Nat.mul_le_mul_right M (by omega)
    simp only
    omega
section
variable (N : Nat) (hN : 4611686018427387904 ≤ N) (hsh : ∀ i j, i ≤ j → j < 15 → zq100 N (shD i j) = some ((true, ()), ()))
include hN hsh
theorem zw3p {e : Nat} (he : e ≤ 5) {t : Tree} (h : Gd e t) : ∃ k, zq39 N t.un = some ((0, ()), (k, ())) ∧ k.length = 32 := by
 have hn : 11 * nbd e ≤ 10000 := by
  match e, he with
  | 0, _ => decide
  | 1, _ => decide
  | 2, _ => decide
  | 3, _ => decide
  | 4, _ => decide
  | 5, _ => decide
 obtain ⟨out, h1, h2⟩ := enc_ok hN e N t [] (by omega) h (by simp only [List.length_nil]; omega)
 refine ⟨sha out, ?_, zw2b out⟩
 unfold zq39 zq38
 rw [zw2y N hsh he h]
 simp only [Option.bind_some, Bool.not_true, cond_false, h1, decide_true, zw4j N (show out.length ≤ 35184372088832 by simp only [List.length_nil] at h2; omega) hN]
theorem zwg3 {v : Int} (h0 : 0 ≤ v) (h1 : v ≤ 10000000) {b : List UInt8} (hb : b.length ≤ 10000) : ∃ k, zq40 N v b = some ((0, ()), (k, ())) ∧ k.length = 32 := by
 obtain ⟨k, h1, h2⟩ := zw3p N hN hsh (e := 1) (by omega) (t := .mk 9 v []) ⟨⟨h0, h1, .inr (.inr (.inl ⟨rfl, rfl⟩))⟩, by simp [args], fun a ha => by simp [args] at ha⟩
 refine ⟨hmac k b, ?_, zw2n k b⟩
 unfold zq40
 have h1' : zq39 N ((9 : Int), v, ([] : List Tree), ()) = some ((0, ()), (k, ())) := h1
 simp only [h1', Option.bind_some, decide_true, Bool.not_true, cond_false, zw4k N (show k.length ≤ 17592186044416 by omega) (show b.length ≤ 17592186044416 by omega) hN]
theorem zwg4 {e : Nat} (he : e ≤ 5) {t : Tree} (h : Gd e t) : ∃ x, zq28 N t.un = some ((x, ()), ()) := by
 obtain ⟨k, h1, h2⟩ := zw3p N hN hsh he h
 have hn := zw5q N (b := k) (at_ := 0) (w := 8) (by omega) (by omega) (by omega) (by omega) (by omega) (by omega)
 unfold zq28 zq25
 simp only [h1, Option.bind_some, decide_true, Bool.not_true, cond_false, hn]
 generalize nbr _ = z
 unfold zq55 zq84
 obtain ⟨r, hr, _⟩ := zwg2 N hN 4 ((1 : UInt64) + (z % (2305843009213688668 : UInt64)))
 have hz : (z % (2305843009213688668 : UInt64)).toNat < 2305843009213688668 := by rw [UInt64.toNat_mod]; exact Nat.mod_lt _ (by decide)
 have hz1 : ((1 : UInt64) + (z % (2305843009213688668 : UInt64))).toNat = 1 + (z % (2305843009213688668 : UInt64)).toNat := by
  rw [UInt64.toNat_add]; exact Nat.mod_eq_of_lt (by show 1 + _ < _; omega)
 have c1 : decide ((1 : UInt64) ≤ (1 : UInt64) + (z % (2305843009213688668 : UInt64))) = true := decide_eq_true (by rw [UInt64.le_iff_toNat_le, hz1]; show 1 ≤ 1 + _; omega)
 have c2 : decide ((1 : UInt64) + (z % (2305843009213688668 : UInt64)) < (2305843009213688669 : UInt64)) = true := decide_eq_true (by rw [UInt64.lt_iff_toNat_lt, hz1]; show 1 + _ < 2305843009213688669; omega)
 simp only [c1, c2, cond_true, Option.bind_some, Bool.not_true, cond_false, hr]
 exact ⟨_, rfl⟩
end
theorem zwg5 (N : Nat) (hN : 4611686018427387904 ≤ N) {k : List UInt8} (hk : k.length ≤ 10000) : ∃ x, zq43 N k = some ((x, ()), ()) ∧ x.length = 8 := by
 unfold zq43
 rw [zw4k N (show k.length ≤ 17592186044416 by omega) (show [(1 : UInt8)].length ≤ 17592186044416 by decide) hN, Option.bind_some]
 have hl := zw2n k [(1 : UInt8)]
 generalize hmac k [(1 : UInt8)] = z at hl
 have e1 : decide ((8 : Int) ≤ (z.length : Int)) = true := decide_eq_true (by omega)
 have e0 : decide (0 ≤ (0 : Int)) = true := by decide
 have e8 : decide ((0 : Int) ≤ (8 : Int)) = true := by decide
 simp only [e0, e1, e8, Bool.and_self, cond_true]
 exact ⟨_, rfl, by simp only [cut, List.drop_zero, List.length_take]; omega⟩
end Go.Proofs.YtajpblfinenmjaaGreatDoor.Pl

namespace Go.Proofs.YtajpblfinenmjaaGreatDoor.Pl
open Go
def bnat (l : List UInt8) : Nat := l.foldl (fun v x => v * 256 + x.toNat) 0
theorem zw5u (l : List UInt8) (x : UInt8) : bnat (l ++ [x]) = bnat l * 256 + x.toNat := by simp [bnat]
theorem zw9h {α : Type} {l : List α} {n : Nat} (h : l.length = n + 1) : ∃ l' x, l = l' ++ [x] ∧ l'.length = n :=
 ⟨l.dropLast, l.getLast (by intro e; subst e; simp at h), (List.dropLast_concat_getLast _).symm, by simp [h]⟩
theorem zw9i : ∀ {n : Nat} {l : List UInt8}, l.length = n → bnat l < 256 ^ n
 | 0, l, h => by obtain rfl := List.length_eq_zero_iff.1 h; simp [bnat]
 | n + 1, l, h => by
  obtain ⟨l', x, rfl, h'⟩ := zw9h h
  have := zw9i h'
  have hx := x.toNat_lt
  rw [zw5u, Nat.pow_succ]; omega
theorem shl_or (v : UInt64) (x : UInt8) (h : v.toNat < 72057594037927936) : (shl64 v 8 ||| x.toUInt64).toNat = v.toNat * 256 + x.toNat := by
 have hx := x.toNat_lt
 rw [UInt64.toNat_or]
 have e : (shl64 v 8).toNat = v.toNat <<< 8 := by
  show (v.toBitVec <<< 8).toNat = _
  rw [BitVec.toNat_shiftLeft, UInt64.toNat_toBitVec, Nat.shiftLeft_eq]
  omega
 rw [e, UInt8.toNat_toUInt64, ← Nat.shiftLeft_add_eq_or_of_lt (b := x.toNat) (i := 8) (by omega), Nat.shiftLeft_eq]
theorem zw9j : ∀ {n : Nat} {l : List UInt8}, l.length = n → n ≤ 8 → (nbr l).toNat = bnat l
 | 0, l, h, _ => by obtain rfl := List.length_eq_zero_iff.1 h; rfl
 | n + 1, l, h, hn => by
  obtain ⟨l', x, rfl, h'⟩ := zw9h h
  have ih := zw9j h' (by omega)
  have hl := zw9i h'
  have hp : 256 ^ n ≤ 256 ^ 7 := Nat.pow_le_pow_right (by decide) (by omega)
  rw [zw98, shl_or _ _ (by rw [ih]; omega), zw5u, ih]
theorem zw3q (v : UInt64) (n : Nat) : (shr64 v n).toNat = v.toNat / 2 ^ n := by
 show (v.toBitVec >>> n).toNat = _
 rw [BitVec.toNat_ushiftRight, Nat.shiftRight_eq_div_pow]; rfl
theorem zw9k (v : UInt64) : ∀ k : Nat, be v (k + 1) = be (shr64 v 8) k ++ [v.toUInt8]
 | 0 => by
  show [(shr64 v (8 * ((0 : Nat) : Int)).toNat).toUInt8] = [v.toUInt8]
  have : shr64 v (8 * ((0 : Nat) : Int)).toNat = v := UInt64.toNat_inj.1 (by rw [zw3q]; simp)
  rw [this]
 | k + 1 => by
  rw [be, zw9k v k, be, List.cons_append]
  congr 2
  apply UInt64.toNat_inj.1
  rw [zw3q, zw3q, zw3q, Nat.div_div_eq_div_mul, ← Nat.pow_add, show (8 * ((k + 1 : Nat) : Int)).toNat = 8 + (8 * (k : Int)).toNat by omega]
theorem zw9l : ∀ (k : Nat) (v : UInt64), bnat (be v k) = v.toNat % 256 ^ k
 | 0, v => by simp [be, bnat, Nat.mod_one]
 | k + 1, v => by
  have e : v.toNat % 256 ^ (k + 1) = v.toNat % 256 + 256 * (v.toNat / 256 % 256 ^ k) := by rw [Nat.pow_succ, Nat.mul_comm (256 ^ k) 256, Nat.mod_mul]
  rw [zw9k, zw5u, zw9l k, zw3q, UInt64.toNat_toUInt8, e]
  have e2 : (2 : Nat) ^ 8 = 256 := rfl
  rw [e2]
  omega
theorem zwg6 {k : Nat} (hk : k ≤ 8) (v : UInt64) (hv : v.toNat < 256 ^ k) : nbr (be v k) = v := by
 apply UInt64.toNat_inj.1
 rw [zw9j (be_len v k) hk, zw9l, Nat.mod_eq_of_lt hv]
end Go.Proofs.YtajpblfinenmjaaGreatDoor.Pl

namespace Go.Proofs.YtajpblfinenmjaaGreatDoor.Pl
open Go
noncomputable section
def rl (x : UInt32) (n : Nat) : UInt32 := shl32 x n ||| shr32 x (32 - n)
def q3 (a b d : UInt32) : UInt32 := rl (d ^^^ (a + b)) 16
def q6 (a b c d : UInt32) : UInt32 := rl (b ^^^ (c + q3 a b d)) 12
def q9 (a b c d : UInt32) : UInt32 := rl (q3 a b d ^^^ ((a + b) + q6 a b c d)) 8
def q12 (a b c d : UInt32) : UInt32 := rl (q6 a b c d ^^^ ((c + q3 a b d) + q9 a b c d)) 7
theorem zwg7 (N : Nat) (a b c d : UInt32) : zq48 N a b c d = some (((a + b) + q6 a b c d, q12 a b c d, (c + q3 a b d) + q9 a b c d, q9 a b c d, ()), ()) := by kernel_rfl
def mixl (s : List UInt32) (i j k l : Nat) : List UInt32 :=
 (((s.set i ((s.getD i 0 + s.getD j 0) + q6 (s.getD i 0) (s.getD j 0) (s.getD k 0) (s.getD l 0))).set j (q12 (s.getD i 0) (s.getD j 0) (s.getD k 0) (s.getD l 0))).set k ((s.getD k 0 + q3 (s.getD i 0) (s.getD j 0) (s.getD l 0)) + q9 (s.getD i 0) (s.getD j 0) (s.getD k 0) (s.getD l 0))).set l
  (q9 (s.getD i 0) (s.getD j 0) (s.getD k 0) (s.getD l 0))
def d1 (s : List UInt32) : List UInt32 := mixl (mixl (mixl (mixl s 0 4 8 12) 1 5 9 13) 2 6 10 14) 3 7 11 15
def d2 (s : List UInt32) : List UInt32 := mixl (mixl (mixl (mixl s 0 5 10 15) 1 6 11 12) 2 7 8 13) 3 4 9 14
def dr (s : List UInt32) : List UInt32 := d2 (d1 s)
theorem zw2c {S E R : Type} {step : S → Option (Lo S E R)} {J : E → Option R} {N M : Nat} {x x' : S} (hN : N = M + 1) (h : step x = some (.go x')) : loopK N step J x = loopK M step J x' := by
 rw [hN, zw4i, h]; rfl
theorem zwg8 {S E R : Type} {step : S → Option (Lo S E R)} {J : E → Option R} {N M : Nat} {x : S} {e : E} (hN : N = M + 1) (h : step x = some (.br e)) : loopK N step J x = J e := by
 rw [hN, zw4i, h]; rfl
theorem s7_ok (N : Nat) (t : Int) (f s : List UInt32) (i a b c d : Nat) (hi : i < 8) (hq : zwb.getD i (List.replicate 4 0) = [(a : Int), (b : Int), (c : Int), (d : Int)]) (ha : a < 16) (hb : b < 16) (hc : c < 16) (hd : d < 16) :
  zq56_s7 N t zwb (i : Int) f s = some (.go ((t, zwb, (i : Int) + 1, ()), (f, mixl s a b c d, ()))) := by
 unfold zq56_s7
 simp (disch := omega) only [dpos, dneg, w64_of, inR_of, zw3, zw4, cond_true, cond_false, Bool.and_self, Bool.and_true, Bool.true_and, Bool.and_false, Bool.false_and, Bool.not_true, Bool.not_false, Option.bind_some, List.length_cons, List.length_nil, Nat.zero_add, Int.toNat_natCast, hq, List.getD_cons_zero, List.getD_cons_succ, zwg7, mixl]
theorem zwg9 (N : Nat) (hN : 4611686018427387904 ≤ N) (t : Int) (ht : 0 ≤ t) (ht' : t < 10) (f s : List UInt32) : zq56_6 N t zwb 0 f s = some (.go ((t + 1, ()), (f, dr s, ()))) := by
 obtain ⟨M, hM⟩ : ∃ M, N = M + 8 + 1 := ⟨N - 9, by omega⟩
 have s0 : ∀ s, zq56_s7 N t zwb 0 f s = some (.go ((t, zwb, 1, ()), (f, mixl s 0 4 8 12, ()))) := fun s => s7_ok N t f s 0 0 4 8 12 (by decide) (by kernel_rfl) (by decide) (by decide) (by decide) (by decide)
 have s1 : ∀ s, zq56_s7 N t zwb 1 f s = some (.go ((t, zwb, 2, ()), (f, mixl s 1 5 9 13, ()))) := fun s => s7_ok N t f s 1 1 5 9 13 (by decide) (by kernel_rfl) (by decide) (by decide) (by decide) (by decide)
 have s2 : ∀ s, zq56_s7 N t zwb 2 f s = some (.go ((t, zwb, 3, ()), (f, mixl s 2 6 10 14, ()))) := fun s => s7_ok N t f s 2 2 6 10 14 (by decide) (by kernel_rfl) (by decide) (by decide) (by decide) (by decide)
 have s3 : ∀ s, zq56_s7 N t zwb 3 f s = some (.go ((t, zwb, 4, ()), (f, mixl s 3 7 11 15, ()))) := fun s => s7_ok N t f s 3 3 7 11 15 (by decide) (by kernel_rfl) (by decide) (by decide) (by decide) (by decide)
 have s4 : ∀ s, zq56_s7 N t zwb 4 f s = some (.go ((t, zwb, 5, ()), (f, mixl s 0 5 10 15, ()))) := fun s => s7_ok N t f s 4 0 5 10 15 (by decide) (by kernel_rfl) (by decide) (by decide) (by decide) (by decide)
 have s5 : ∀ s, zq56_s7 N t zwb 5 f s = some (.go ((t, zwb, 6, ()), (f, mixl s 1 6 11 12, ()))) := fun s => s7_ok N t f s 5 1 6 11 12 (by decide) (by kernel_rfl) (by decide) (by decide) (by decide) (by decide)
 have s6 : ∀ s, zq56_s7 N t zwb 6 f s = some (.go ((t, zwb, 7, ()), (f, mixl s 2 7 8 13, ()))) := fun s => s7_ok N t f s 6 2 7 8 13 (by decide) (by kernel_rfl) (by decide) (by decide) (by decide) (by decide)
 have s7 : ∀ s, zq56_s7 N t zwb 7 f s = some (.go ((t, zwb, 8, ()), (f, mixl s 3 4 9 14, ()))) := fun s => s7_ok N t f s 7 3 4 9 14 (by decide) (by kernel_rfl) (by decide) (by decide) (by decide) (by decide)
 have s8 : ∀ s, zq56_s7 N t zwb 8 f s = some (.br ((t, ()), (f, s, ()))) := fun s => by
  unfold zq56_s7
  simp (disch := omega) only [dpos, dneg, w64_of, inR_of, zw3, zw4, cond_true, cond_false, Bool.and_self, Bool.and_true, Bool.true_and, Bool.and_false, Bool.false_and, Bool.not_true, Bool.not_false, Option.bind_some, List.length_cons, List.length_nil, Nat.zero_add]
 unfold zq56_6
 rw [zw2c (M := M + 8) hM (s0 s), zw2c (M := M + 7) rfl (s1 _), zw2c (M := M + 6) rfl (s2 _), zw2c (M := M + 5) rfl (s3 _), zw2c (M := M + 4) rfl (s4 _), zw2c (M := M + 3) rfl (s5 _), zw2c (M := M + 2) rfl (s6 _), zw2c (M := M + 1) rfl (s7 _), zwg8 (M := M) rfl (s8 _)]
 unfold zq56_8 dr d2 d1
 simp (disch := omega) only [dpos, dneg, w64_of, inR_of, zw3, zw4, cond_true, cond_false, Bool.and_self, Bool.and_true, Bool.true_and, Bool.and_false, Bool.false_and, Bool.not_true, Bool.not_false, Option.bind_some, List.length_cons, List.length_nil, Nat.zero_add]
def drs (f : List UInt32) : Nat → List UInt32
 | 0 => f
 | i + 1 => dr (drs f i)
def bout (f s : List UInt32) : List UInt8 := (List.range 16).flatMap fun i => let v := s.getD i 0 + f.getD i 0; [v.toUInt8, (shr32 v 8).toUInt8, (shr32 v 16).toUInt8, (shr32 v 24).toUInt8]
theorem zwga (f s : List UInt32) : (bout f s).length = 64 := rfl
theorem zwgb (M : Nat) (s f : List UInt32) : zq56_10 (M + 20) s 0 f [] = some ((true, ()), (bout f s, ())) := by kernel_rfl
theorem list12 {α : Type} {l : List α} (h : l.length = 12) : ∃ a b c d e f g i j k m n, l = [a, b, c, d, e, f, g, i, j, k, m, n] := by
 match l, h with
 | [a, b, c, d, e, f, g, i, j, k, m, n], _ => exact ⟨a, b, c, d, e, f, g, i, j, k, m, n, rfl⟩
theorem zw9m {α : Type} {l : List α} (h : l.length = 16) : ∃ a b c d e f g i j k m n o p q r, l = [a, b, c, d, e, f, g, i, j, k, m, n, o, p, q, r] := by
 match l, h with
 | [a, b, c, d, e, f, g, i, j, k, m, n, o, p, q, r], _ => exact ⟨a, b, c, d, e, f, g, i, j, k, m, n, o, p, q, r, rfl⟩
def wd (l : List UInt8) (i : Nat) : UInt32 := (((l.getD (4 * i) 0).toUInt32 ||| shl32 (l.getD (4 * i + 1) 0).toUInt32 8) ||| shl32 (l.getD (4 * i + 2) 0).toUInt32 16) ||| shl32 (l.getD (4 * i + 3) 0).toUInt32 24
def stw (k : List UInt8) (c : UInt32) (n : List UInt8) : List UInt32 := [1634760805, 857760878, 2036477234, 1797285236, wd k 0, wd k 1, wd k 2, wd k 3, wd k 4, wd k 5, wd k 6, wd k 7, c, wd n 0, wd n 1, wd n 2]
theorem zwgc (M : Nat) (c : UInt32) (k0 k1 k2 k3 k4 k5 k6 k7 k8 k9 k10 k11 k12 k13 k14 k15 k16 k17 k18 k19 k20 k21 k22 k23 k24 k25 k26 k27 k28 k29 k30 k31 n0 n1 n2 n3 n4 n5 n6 n7 n8 n9 n10 n11 : UInt8) :
  zq65 (M + 20) [k0, k1, k2, k3, k4, k5, k6, k7, k8, k9, k10, k11, k12, k13, k14, k15, k16, k17, k18, k19, k20, k21, k22, k23, k24, k25, k26, k27, k28, k29, k30, k31] c [n0, n1, n2, n3, n4, n5, n6, n7, n8, n9, n10, n11] =
  some ((stw [k0, k1, k2, k3, k4, k5, k6, k7, k8, k9, k10, k11, k12, k13, k14, k15, k16, k17, k18, k19, k20, k21, k22, k23, k24, k25, k26, k27, k28, k29, k30, k31] c [n0, n1, n2, n3, n4, n5, n6, n7, n8, n9, n10, n11], true, ()), ()) := by kernel_rfl
def cblk (k : List UInt8) (c : UInt32) (n : List UInt8) : List UInt8 := bout (stw k c n) (drs (stw k c n) 10)
theorem zw9n (k : List UInt8) (c : UInt32) (n : List UInt8) : (cblk k c n).length = 64 := zwga _ _
section
variable (N : Nat) (hN : 4611686018427387904 ≤ N) {k n : List UInt8} (c : UInt32) (hk : k.length = 32) (hn : n.length = 12)
include hN hk hn
theorem zw9o : zq65 N k c n = some ((stw k c n, true, ()), ()) := by
 obtain ⟨k0, k1, k2, k3, k4, k5, k6, k7, k8, k9, k10, k11, k12, k13, k14, k15, e1⟩ := zw9m (l := k.take 16) (by simp; omega)
 obtain ⟨k16, k17, k18, k19, k20, k21, k22, k23, k24, k25, k26, k27, k28, k29, k30, k31, e2⟩ := zw9m (l := k.drop 16) (by simp; omega)
 obtain ⟨n0, n1, n2, n3, n4, n5, n6, n7, n8, n9, n10, n11, rfl⟩ := list12 hn
 obtain ⟨M, rfl⟩ := Nat.exists_eq_add_of_le' (show 20 ≤ N by omega)
 have e : k = [k0, k1, k2, k3, k4, k5, k6, k7, k8, k9, k10, k11, k12, k13, k14, k15, k16, k17, k18, k19, k20, k21, k22, k23, k24, k25, k26, k27, k28, k29, k30, k31] := by
  rw [← List.take_append_drop 16 k, e1, e2]; rfl
 subst e
 exact zwgc M c k0 k1 k2 k3 k4 k5 k6 k7 k8 k9 k10 k11 k12 k13 k14 k15 k16 k17 k18 k19 k20 k21 k22 k23 k24 k25 k26 k27 k28 k29 k30 k31 n0 n1 n2 n3 n4 n5 n6 n7 n8 n9 n10 n11
theorem zw9p : zq56 N k c n = some ((true, ()), (cblk k c n, ())) := by
 unfold zq56 cblk
 rw [(zw9o N hN c hk hn)]
 simp only [dpos, dneg, w64_of, inR_of, zw3, zw4, cond_true, cond_false, Bool.and_self, Bool.and_true, Bool.true_and, Bool.and_false, Bool.false_and, Bool.not_true, Bool.not_false, Option.bind_some, List.length_cons, List.length_nil, Nat.zero_add]
 generalize stw k c n = f
 unfold zq56_1
 have h10N : 10 < N := by omega
 obtain ⟨M, hM⟩ := Nat.exists_eq_add_of_le' (show 20 ≤ N by omega)
 refine (zwn (fun i : Nat => (((i : Int), ()), (f, drs f i, ()))) (n := 10) ?_ (e := ((), (f, drs f 10, ()))) ?_ h10N).trans ?_
 ·intro i hi
  show zq56_s2 N (i : Int) f _ = _
  unfold zq56_s2 zq56_3 zq56_5
  simp (disch := omega) only [dpos, dneg, w64_of, inR_of, zw3, zw4, cond_true, cond_false, Bool.and_self, Bool.and_true, Bool.true_and, Bool.and_false, Bool.false_and, Bool.not_true, Bool.not_false, Option.bind_some, List.length_cons, List.length_nil, Nat.zero_add, zwg9, drs, Int.natCast_add, Int.natCast_one]
 ·show zq56_s2 N _ f _ = _
  unfold zq56_s2
  simp (disch := omega) only [dpos, dneg, w64_of, inR_of, zw3, zw4, cond_true, cond_false, Bool.and_self, Bool.and_true, Bool.true_and, Bool.and_false, Bool.false_and, Bool.not_true, Bool.not_false, Option.bind_some, List.length_cons, List.length_nil, Nat.zero_add]
 ·generalize drs f 10 = s
  show zq56_9 N f s = _
  unfold zq56_9
  rw [hM, zwgb]
end
end
end Go.Proofs.YtajpblfinenmjaaGreatDoor.Pl

namespace Go.Proofs.YtajpblfinenmjaaGreatDoor.Pl
open Go
noncomputable section
def cx (k : List UInt8) (c : UInt32) (n b : List UInt8) : List UInt8 := (List.range b.length).map fun i => b.getD i 0 ^^^ (cblk k (c + UInt32.ofNat (i / 64)) n).getD (i % 64) 0
theorem cx_len (k : List UInt8) (c : UInt32) (n b : List UInt8) : (cx k c n b).length = b.length := by simp [cx]
theorem cx_get (k : List UInt8) (c : UInt32) (n b : List UInt8) {i : Nat} (h : i < b.length) : (cx k c n b).getD i 0 = b.getD i 0 ^^^ (cblk k (c + UInt32.ofNat (i / 64)) n).getD (i % 64) 0 := by
 simp [cx, List.getD, h]
theorem zwgd (k : List UInt8) (c : UInt32) (n b : List UInt8) : cx k c n (cx k c n b) = b := by
 apply List.ext_getElem
 ·rw [cx_len, cx_len]
 ·intro i h1 h2
  have e1 : (cx k c n (cx k c n b)).getD i 0 = (cx k c n (cx k c n b))[i] := by simp [List.getD, h1]
  have e2 : b.getD i 0 = b[i] := by simp [List.getD, h2]
  rw [← e1, ← e2, cx_get _ _ _ _ (by rw [cx_len]; exact h2), cx_get _ _ _ _ h2, UInt8.xor_assoc, UInt8.xor_self, UInt8.xor_zero]
def ctr (c : UInt32) : Nat → UInt32
 | 0 => c
 | i + 1 => if i % 64 = 0 then ctr c i + 1 else ctr c i
theorem zwge (c : UInt32) (i : Nat) : ctr c i = c + UInt32.ofNat ((i + 63) / 64) := by
 induction i with
 | zero => simp [ctr]
 | succ i ih =>
  rw [ctr]
  split
  ·rename_i h
   rw [ih, show (i + 1 + 63) / 64 = (i + 63) / 64 + 1 by omega, UInt32.ofNat_add, UInt32.add_assoc]; rfl
  ·rename_i h
   rw [ih, show (i + 1 + 63) / 64 = (i + 63) / 64 by omega]
def msk (k : List UInt8) (c : UInt32) (n : List UInt8) : Nat → List UInt8
 | 0 => []
 | i + 1 => cblk k (c + UInt32.ofNat (i / 64)) n
section
variable (N : Nat) (hN : 4611686018427387904 ≤ N) {k n : List UInt8} (c : UInt32) (hk : k.length = 32) (hn : n.length = 12)
include hN hk hn
theorem xor_ok {b : List UInt8} (hb : b.length ≤ 17592186044416) : zq102 N k c n b = some ((true, ()), (cx k c n b, ())) := by
 unfold zq102
 rw [(zw9o N hN c hk hn)]
 simp only [dpos, dneg, w64_of, inR_of, zw3, zw4, cond_true, cond_false, Bool.and_self, Bool.and_true, Bool.true_and, Bool.and_false, Bool.false_and, Bool.not_true, Bool.not_false, Option.bind_some, List.length_cons, List.length_nil, Nat.zero_add]
 unfold zq102_1
 have hT := cx_len k c n b
 have hg := fun i h => cx_get k c n b (i := i) h
 generalize cx k c n b = T at hT hg
 have hbN : b.length < N := by omega
 refine (zwn (fun i : Nat => ((k, ctr c i, n, b, (b.length : Int), (i : Int), ()), (T.take i, msk k c n i, ()))) (n := b.length) ?_ (e := ((), (T, ()))) ?_ hbN).trans rfl
 ·intro i hi
  have hti : (T.take i).length = i := by simp; omega
  have hcl := zw9n k (c + UInt32.ofNat (i / 64)) n
  have ht := hg i hi
  show zq102_s2 N k _ n b _ _ _ _ = _
  unfold zq102_s2
  rw [zw1k T 0 (by omega), ht]
  have e64 : ((i : Int) % 64).toNat = i % 64 := by omega
  by_cases hm : i % 64 = 0
  ·have hbl : zq56 N k (ctr c i) n = some ((true, ()), (cblk k (c + UInt32.ofNat (i / 64)) n, ())) := by
    rw [zw9p N hN _ hk hn, zwge, show (i + 63) / 64 = i / 64 by omega]
   simp (disch := omega) only [dpos, dneg, w64_of, inR_of, zw3, zw4, cond_true, cond_false, Bool.and_self, Bool.and_true, Bool.true_and, Bool.and_false, Bool.false_and, Bool.not_true, Bool.not_false, Option.bind_some, List.length_cons, List.length_nil, Nat.zero_add, Int.toNat_natCast, e64, hbl, hti, ctr, msk, if_pos, Int.natCast_add, Int.natCast_one]
  ·have hms : msk k c n i = cblk k (c + UInt32.ofNat (i / 64)) n := by
    cases i with
    | zero => simp at hm
    | succ i => rw [msk, show (i + 1) / 64 = i / 64 by omega]
   rw [hms]
   simp (disch := omega) only [dpos, dneg, w64_of, inR_of, zw3, zw4, cond_true, cond_false, Bool.and_self, Bool.and_true, Bool.true_and, Bool.and_false, Bool.false_and, Bool.not_true, Bool.not_false, Option.bind_some, List.length_cons, List.length_nil, Nat.zero_add, Int.toNat_natCast, e64, hti, ctr, msk, if_neg, Int.natCast_add, Int.natCast_one]
 ·show zq102_s2 N k _ n b _ _ _ _ = _
  unfold zq102_s2
  simp (disch := omega) only [dpos, dneg, w64_of, inR_of, zw3, zw4, cond_true, cond_false, Bool.and_self, Bool.and_true, Bool.true_and, Bool.and_false, Bool.false_and, Bool.not_true, Bool.not_false, Option.bind_some, List.length_cons, List.length_nil, Nat.zero_add]
  rw [List.take_of_length_le (by omega)]
end
end
end Go.Proofs.YtajpblfinenmjaaGreatDoor.Pl

namespace Go.Proofs.YtajpblfinenmjaaGreatDoor.Pl
open Go Poly
def us (l : List UInt64) : List Nat := l.map UInt64.toNat
def ns (l : List UInt8) : List Nat := l.map UInt8.toNat
theorem lo_add (a : UInt64) (x : UInt8) {k c : Nat} (hk : k ≤ 25) (hc : 2 ^ k = c) (h : a.toNat < 67108864) : (a + (shl64 x.toUInt64 k &&& 67108863)).toNat = a.toNat + x.toNat * c % 67108864 := by
 have hx : x.toNat < 256 := x.toNat_lt
 have h1 : (shl64 x.toUInt64 k).toNat = x.toNat * c := by
  show (x.toUInt64.toBitVec <<< k).toNat = _
  rw [BitVec.toNat_shiftLeft, Nat.shiftLeft_eq, hc]
  have e : x.toUInt64.toBitVec.toNat = x.toNat := UInt8.toNat_toUInt64 x
  rw [e]
  apply Nat.mod_eq_of_lt
  have : c ≤ 2 ^ 25 := by rw [← hc]; exact Nat.pow_le_pow_right (by decide) hk
  have := Nat.mul_le_mul (Nat.le_of_lt hx) this
  omega
 have h2 : (shl64 x.toUInt64 k &&& 67108863).toNat = x.toNat * c % 67108864 := by
  rw [UInt64.toNat_and, h1]
  exact Nat.and_two_pow_sub_one_eq_mod _ 26
 rw [UInt64.toNat_add, h2]
 apply Nat.mod_eq_of_lt
 omega
theorem hi_add (a : UInt64) (x : UInt8) {k c : Nat} (hc : 2 ^ k = c) (h : a.toNat < 67108864) : (a + shr64 x.toUInt64 k).toNat = a.toNat + x.toNat / c := by
 have hx : x.toNat < 256 := x.toNat_lt
 have h1 : (shr64 x.toUInt64 k).toNat = x.toNat / c := by
  show (x.toUInt64.toBitVec >>> k).toNat = _
  rw [BitVec.toNat_ushiftRight, Nat.shiftRight_eq_div_pow, hc]
  have e : x.toUInt64.toBitVec.toNat = x.toNat := UInt8.toNat_toUInt64 x
  rw [e]
 rw [UInt64.toNat_add, h1]
 have : x.toNat / c ≤ x.toNat := Nat.div_le_self ..
 apply Nat.mod_eq_of_lt
 omega
theorem low_of {bs l : List Nat} {i : Nat} (h : NInv bs l i) {j : Nat} (hj : j < 5) : l.getD j 0 < 67108864 := by
 refine Nat.lt_of_lt_of_le (h.low j hj) ?_
 unfold Poly.room
 exact Nat.pow_le_pow_right (by decide : 0 < 2) (Nat.min_le_left 26 _)
theorem list5u {l : List UInt64} (h : l.length = 5) : ∃ a b c d e, l = [a, b, c, d, e] := by
 match l, h with
 | [a, b, c, d, e], _ => exact ⟨a, b, c, d, e, rfl⟩
theorem congr5 {a b c d e a' b' c' d' e' : Nat} (h0 : a = a') (h1 : b = b') (h2 : c = c') (h3 : d = d') (h4 : e = e') : [a, b, c, d, e] = [a', b', c', d', e'] := by
 subst h0; subst h1; subst h2; subst h3; subst h4; rfl
theorem num_0 (N : Nat) (b : List UInt8) (n : Int) (t : List UInt64) (a0 a1 a2 a3 a4 : UInt64) : zq33_s2 N b n 0 t [a0, a1, a2, a3, a4] = bif decide ((0 : Int) < n) then (bif inR (0 : Int) b.length then some (.go ((b, n, (1 : Int), ()), (t, [a0 + (shl64 (b.getD 0 0).toUInt64 0 &&& 67108863), a1, a2, a3, a4], ()))) else none) else some (.br ((), (t, [a0, a1, a2, a3, a4], ()))) := by kernel_rfl
theorem nus_0 {a0 a1 a2 a3 a4 : UInt64} (x : UInt8) (h0 : a0.toNat < 67108864) (h1 : a1.toNat < 67108864) (h2 : a2.toNat < 67108864) (h3 : a3.toNat < 67108864) (h4 : a4.toNat < 67108864) : us [a0 + (shl64 x.toUInt64 0 &&& 67108863), a1, a2, a3, a4] = nstep (us [a0, a1, a2, a3, a4]) 0 x.toNat :=
 (congr5 (lo_add _ _ (by decide) rfl h0) rfl rfl rfl rfl).trans (zw9r _ _ _ _ _ _).symm
theorem num_1 (N : Nat) (b : List UInt8) (n : Int) (t : List UInt64) (a0 a1 a2 a3 a4 : UInt64) : zq33_s2 N b n 1 t [a0, a1, a2, a3, a4] = bif decide ((1 : Int) < n) then (bif inR (1 : Int) b.length then some (.go ((b, n, (2 : Int), ()), (t, [a0 + (shl64 (b.getD 1 0).toUInt64 8 &&& 67108863), a1, a2, a3, a4], ()))) else none) else some (.br ((), (t, [a0, a1, a2, a3, a4], ()))) := by kernel_rfl
theorem nus_1 {a0 a1 a2 a3 a4 : UInt64} (x : UInt8) (h0 : a0.toNat < 67108864) (h1 : a1.toNat < 67108864) (h2 : a2.toNat < 67108864) (h3 : a3.toNat < 67108864) (h4 : a4.toNat < 67108864) : us [a0 + (shl64 x.toUInt64 8 &&& 67108863), a1, a2, a3, a4] = nstep (us [a0, a1, a2, a3, a4]) 1 x.toNat :=
 (congr5 (lo_add _ _ (by decide) rfl h0) rfl rfl rfl rfl).trans (zw9s _ _ _ _ _ _).symm
theorem num_2 (N : Nat) (b : List UInt8) (n : Int) (t : List UInt64) (a0 a1 a2 a3 a4 : UInt64) : zq33_s2 N b n 2 t [a0, a1, a2, a3, a4] = bif decide ((2 : Int) < n) then (bif inR (2 : Int) b.length then some (.go ((b, n, (3 : Int), ()), (t, [a0 + (shl64 (b.getD 2 0).toUInt64 16 &&& 67108863), a1, a2, a3, a4], ()))) else none) else some (.br ((), (t, [a0, a1, a2, a3, a4], ()))) := by kernel_rfl
theorem nus_2 {a0 a1 a2 a3 a4 : UInt64} (x : UInt8) (h0 : a0.toNat < 67108864) (h1 : a1.toNat < 67108864) (h2 : a2.toNat < 67108864) (h3 : a3.toNat < 67108864) (h4 : a4.toNat < 67108864) : us [a0 + (shl64 x.toUInt64 16 &&& 67108863), a1, a2, a3, a4] = nstep (us [a0, a1, a2, a3, a4]) 2 x.toNat :=
 (congr5 (lo_add _ _ (by decide) rfl h0) rfl rfl rfl rfl).trans (zw9t _ _ _ _ _ _).symm
theorem num_3 (N : Nat) (b : List UInt8) (n : Int) (t : List UInt64) (a0 a1 a2 a3 a4 : UInt64) : zq33_s2 N b n 3 t [a0, a1, a2, a3, a4] = bif decide ((3 : Int) < n) then (bif inR (3 : Int) b.length then some (.go ((b, n, (4 : Int), ()), (t, [a0 + (shl64 (b.getD 3 0).toUInt64 24 &&& 67108863), a1 + shr64 (b.getD 3 0).toUInt64 2, a2, a3, a4], ()))) else none) else some (.br ((), (t, [a0, a1, a2, a3, a4], ()))) := by kernel_rfl
theorem nus_3 {a0 a1 a2 a3 a4 : UInt64} (x : UInt8) (h0 : a0.toNat < 67108864) (h1 : a1.toNat < 67108864) (h2 : a2.toNat < 67108864) (h3 : a3.toNat < 67108864) (h4 : a4.toNat < 67108864) : us [a0 + (shl64 x.toUInt64 24 &&& 67108863), a1 + shr64 x.toUInt64 2, a2, a3, a4] = nstep (us [a0, a1, a2, a3, a4]) 3 x.toNat :=
 (congr5 (lo_add _ _ (by decide) rfl h0) (hi_add _ _ rfl h1) rfl rfl rfl).trans (zw9u _ _ _ _ _ _).symm
theorem num_4 (N : Nat) (b : List UInt8) (n : Int) (t : List UInt64) (a0 a1 a2 a3 a4 : UInt64) : zq33_s2 N b n 4 t [a0, a1, a2, a3, a4] = bif decide ((4 : Int) < n) then (bif inR (4 : Int) b.length then some (.go ((b, n, (5 : Int), ()), (t, [a0, a1 + (shl64 (b.getD 4 0).toUInt64 6 &&& 67108863), a2, a3, a4], ()))) else none) else some (.br ((), (t, [a0, a1, a2, a3, a4], ()))) := by kernel_rfl
theorem nus_4 {a0 a1 a2 a3 a4 : UInt64} (x : UInt8) (h0 : a0.toNat < 67108864) (h1 : a1.toNat < 67108864) (h2 : a2.toNat < 67108864) (h3 : a3.toNat < 67108864) (h4 : a4.toNat < 67108864) : us [a0, a1 + (shl64 x.toUInt64 6 &&& 67108863), a2, a3, a4] = nstep (us [a0, a1, a2, a3, a4]) 4 x.toNat :=
 (congr5 rfl (lo_add _ _ (by decide) rfl h1) rfl rfl rfl).trans (zw9v _ _ _ _ _ _).symm
theorem num_5 (N : Nat) (b : List UInt8) (n : Int) (t : List UInt64) (a0 a1 a2 a3 a4 : UInt64) : zq33_s2 N b n 5 t [a0, a1, a2, a3, a4] = bif decide ((5 : Int) < n) then (bif inR (5 : Int) b.length then some (.go ((b, n, (6 : Int), ()), (t, [a0, a1 + (shl64 (b.getD 5 0).toUInt64 14 &&& 67108863), a2, a3, a4], ()))) else none) else some (.br ((), (t, [a0, a1, a2, a3, a4], ()))) := by kernel_rfl
theorem nus_5 {a0 a1 a2 a3 a4 : UInt64} (x : UInt8) (h0 : a0.toNat < 67108864) (h1 : a1.toNat < 67108864) (h2 : a2.toNat < 67108864) (h3 : a3.toNat < 67108864) (h4 : a4.toNat < 67108864) : us [a0, a1 + (shl64 x.toUInt64 14 &&& 67108863), a2, a3, a4] = nstep (us [a0, a1, a2, a3, a4]) 5 x.toNat :=
 (congr5 rfl (lo_add _ _ (by decide) rfl h1) rfl rfl rfl).trans (zw9w _ _ _ _ _ _).symm
theorem num_6 (N : Nat) (b : List UInt8) (n : Int) (t : List UInt64) (a0 a1 a2 a3 a4 : UInt64) : zq33_s2 N b n 6 t [a0, a1, a2, a3, a4] = bif decide ((6 : Int) < n) then (bif inR (6 : Int) b.length then some (.go ((b, n, (7 : Int), ()), (t, [a0, a1 + (shl64 (b.getD 6 0).toUInt64 22 &&& 67108863), a2 + shr64 (b.getD 6 0).toUInt64 4, a3, a4], ()))) else none) else some (.br ((), (t, [a0, a1, a2, a3, a4], ()))) := by kernel_rfl
theorem nus_6 {a0 a1 a2 a3 a4 : UInt64} (x : UInt8) (h0 : a0.toNat < 67108864) (h1 : a1.toNat < 67108864) (h2 : a2.toNat < 67108864) (h3 : a3.toNat < 67108864) (h4 : a4.toNat < 67108864) : us [a0, a1 + (shl64 x.toUInt64 22 &&& 67108863), a2 + shr64 x.toUInt64 4, a3, a4] = nstep (us [a0, a1, a2, a3, a4]) 6 x.toNat :=
 (congr5 rfl (lo_add _ _ (by decide) rfl h1) (hi_add _ _ rfl h2) rfl rfl).trans (zw9x _ _ _ _ _ _).symm
theorem num_7 (N : Nat) (b : List UInt8) (n : Int) (t : List UInt64) (a0 a1 a2 a3 a4 : UInt64) : zq33_s2 N b n 7 t [a0, a1, a2, a3, a4] = bif decide ((7 : Int) < n) then (bif inR (7 : Int) b.length then some (.go ((b, n, (8 : Int), ()), (t, [a0, a1, a2 + (shl64 (b.getD 7 0).toUInt64 4 &&& 67108863), a3, a4], ()))) else none) else some (.br ((), (t, [a0, a1, a2, a3, a4], ()))) := by kernel_rfl
theorem nus_7 {a0 a1 a2 a3 a4 : UInt64} (x : UInt8) (h0 : a0.toNat < 67108864) (h1 : a1.toNat < 67108864) (h2 : a2.toNat < 67108864) (h3 : a3.toNat < 67108864) (h4 : a4.toNat < 67108864) : us [a0, a1, a2 + (shl64 x.toUInt64 4 &&& 67108863), a3, a4] = nstep (us [a0, a1, a2, a3, a4]) 7 x.toNat :=
 (congr5 rfl rfl (lo_add _ _ (by decide) rfl h2) rfl rfl).trans (zw9y _ _ _ _ _ _).symm
theorem num_8 (N : Nat) (b : List UInt8) (n : Int) (t : List UInt64) (a0 a1 a2 a3 a4 : UInt64) : zq33_s2 N b n 8 t [a0, a1, a2, a3, a4] = bif decide ((8 : Int) < n) then (bif inR (8 : Int) b.length then some (.go ((b, n, (9 : Int), ()), (t, [a0, a1, a2 + (shl64 (b.getD 8 0).toUInt64 12 &&& 67108863), a3, a4], ()))) else none) else some (.br ((), (t, [a0, a1, a2, a3, a4], ()))) := by kernel_rfl
theorem nus_8 {a0 a1 a2 a3 a4 : UInt64} (x : UInt8) (h0 : a0.toNat < 67108864) (h1 : a1.toNat < 67108864) (h2 : a2.toNat < 67108864) (h3 : a3.toNat < 67108864) (h4 : a4.toNat < 67108864) : us [a0, a1, a2 + (shl64 x.toUInt64 12 &&& 67108863), a3, a4] = nstep (us [a0, a1, a2, a3, a4]) 8 x.toNat :=
 (congr5 rfl rfl (lo_add _ _ (by decide) rfl h2) rfl rfl).trans (zw9z _ _ _ _ _ _).symm
theorem num_9 (N : Nat) (b : List UInt8) (n : Int) (t : List UInt64) (a0 a1 a2 a3 a4 : UInt64) : zq33_s2 N b n 9 t [a0, a1, a2, a3, a4] = bif decide ((9 : Int) < n) then (bif inR (9 : Int) b.length then some (.go ((b, n, (10 : Int), ()), (t, [a0, a1, a2 + (shl64 (b.getD 9 0).toUInt64 20 &&& 67108863), a3 + shr64 (b.getD 9 0).toUInt64 6, a4], ()))) else none) else some (.br ((), (t, [a0, a1, a2, a3, a4], ()))) := by kernel_rfl
theorem nus_9 {a0 a1 a2 a3 a4 : UInt64} (x : UInt8) (h0 : a0.toNat < 67108864) (h1 : a1.toNat < 67108864) (h2 : a2.toNat < 67108864) (h3 : a3.toNat < 67108864) (h4 : a4.toNat < 67108864) : us [a0, a1, a2 + (shl64 x.toUInt64 20 &&& 67108863), a3 + shr64 x.toUInt64 6, a4] = nstep (us [a0, a1, a2, a3, a4]) 9 x.toNat :=
 (congr5 rfl rfl (lo_add _ _ (by decide) rfl h2) (hi_add _ _ rfl h3) rfl).trans (zwa0 _ _ _ _ _ _).symm
theorem num_10 (N : Nat) (b : List UInt8) (n : Int) (t : List UInt64) (a0 a1 a2 a3 a4 : UInt64) : zq33_s2 N b n 10 t [a0, a1, a2, a3, a4] = bif decide ((10 : Int) < n) then (bif inR (10 : Int) b.length then some (.go ((b, n, (11 : Int), ()), (t, [a0, a1, a2, a3 + (shl64 (b.getD 10 0).toUInt64 2 &&& 67108863), a4], ()))) else none) else some (.br ((), (t, [a0, a1, a2, a3, a4], ()))) := by kernel_rfl
theorem nus_10 {a0 a1 a2 a3 a4 : UInt64} (x : UInt8) (h0 : a0.toNat < 67108864) (h1 : a1.toNat < 67108864) (h2 : a2.toNat < 67108864) (h3 : a3.toNat < 67108864) (h4 : a4.toNat < 67108864) : us [a0, a1, a2, a3 + (shl64 x.toUInt64 2 &&& 67108863), a4] = nstep (us [a0, a1, a2, a3, a4]) 10 x.toNat :=
 (congr5 rfl rfl rfl (lo_add _ _ (by decide) rfl h3) rfl).trans (zwa1 _ _ _ _ _ _).symm
theorem num_11 (N : Nat) (b : List UInt8) (n : Int) (t : List UInt64) (a0 a1 a2 a3 a4 : UInt64) : zq33_s2 N b n 11 t [a0, a1, a2, a3, a4] = bif decide ((11 : Int) < n) then (bif inR (11 : Int) b.length then some (.go ((b, n, (12 : Int), ()), (t, [a0, a1, a2, a3 + (shl64 (b.getD 11 0).toUInt64 10 &&& 67108863), a4], ()))) else none) else some (.br ((), (t, [a0, a1, a2, a3, a4], ()))) := by kernel_rfl
theorem nus_11 {a0 a1 a2 a3 a4 : UInt64} (x : UInt8) (h0 : a0.toNat < 67108864) (h1 : a1.toNat < 67108864) (h2 : a2.toNat < 67108864) (h3 : a3.toNat < 67108864) (h4 : a4.toNat < 67108864) : us [a0, a1, a2, a3 + (shl64 x.toUInt64 10 &&& 67108863), a4] = nstep (us [a0, a1, a2, a3, a4]) 11 x.toNat :=
 (congr5 rfl rfl rfl (lo_add _ _ (by decide) rfl h3) rfl).trans (zwa2 _ _ _ _ _ _).symm
theorem num_12 (N : Nat) (b : List UInt8) (n : Int) (t : List UInt64) (a0 a1 a2 a3 a4 : UInt64) : zq33_s2 N b n 12 t [a0, a1, a2, a3, a4] = bif decide ((12 : Int) < n) then (bif inR (12 : Int) b.length then some (.go ((b, n, (13 : Int), ()), (t, [a0, a1, a2, a3 + (shl64 (b.getD 12 0).toUInt64 18 &&& 67108863), a4], ()))) else none) else some (.br ((), (t, [a0, a1, a2, a3, a4], ()))) := by kernel_rfl
theorem nus_12 {a0 a1 a2 a3 a4 : UInt64} (x : UInt8) (h0 : a0.toNat < 67108864) (h1 : a1.toNat < 67108864) (h2 : a2.toNat < 67108864) (h3 : a3.toNat < 67108864) (h4 : a4.toNat < 67108864) : us [a0, a1, a2, a3 + (shl64 x.toUInt64 18 &&& 67108863), a4] = nstep (us [a0, a1, a2, a3, a4]) 12 x.toNat :=
 (congr5 rfl rfl rfl (lo_add _ _ (by decide) rfl h3) rfl).trans (zwa3 _ _ _ _ _ _).symm
theorem num_13 (N : Nat) (b : List UInt8) (n : Int) (t : List UInt64) (a0 a1 a2 a3 a4 : UInt64) : zq33_s2 N b n 13 t [a0, a1, a2, a3, a4] = bif decide ((13 : Int) < n) then (bif inR (13 : Int) b.length then some (.go ((b, n, (14 : Int), ()), (t, [a0, a1, a2, a3, a4 + (shl64 (b.getD 13 0).toUInt64 0 &&& 67108863)], ()))) else none) else some (.br ((), (t, [a0, a1, a2, a3, a4], ()))) := by kernel_rfl
theorem nus_13 {a0 a1 a2 a3 a4 : UInt64} (x : UInt8) (h0 : a0.toNat < 67108864) (h1 : a1.toNat < 67108864) (h2 : a2.toNat < 67108864) (h3 : a3.toNat < 67108864) (h4 : a4.toNat < 67108864) : us [a0, a1, a2, a3, a4 + (shl64 x.toUInt64 0 &&& 67108863)] = nstep (us [a0, a1, a2, a3, a4]) 13 x.toNat :=
 (congr5 rfl rfl rfl rfl (lo_add _ _ (by decide) rfl h4)).trans (zwa4 _ _ _ _ _ _).symm
theorem num_14 (N : Nat) (b : List UInt8) (n : Int) (t : List UInt64) (a0 a1 a2 a3 a4 : UInt64) : zq33_s2 N b n 14 t [a0, a1, a2, a3, a4] = bif decide ((14 : Int) < n) then (bif inR (14 : Int) b.length then some (.go ((b, n, (15 : Int), ()), (t, [a0, a1, a2, a3, a4 + (shl64 (b.getD 14 0).toUInt64 8 &&& 67108863)], ()))) else none) else some (.br ((), (t, [a0, a1, a2, a3, a4], ()))) := by kernel_rfl
theorem nus_14 {a0 a1 a2 a3 a4 : UInt64} (x : UInt8) (h0 : a0.toNat < 67108864) (h1 : a1.toNat < 67108864) (h2 : a2.toNat < 67108864) (h3 : a3.toNat < 67108864) (h4 : a4.toNat < 67108864) : us [a0, a1, a2, a3, a4 + (shl64 x.toUInt64 8 &&& 67108863)] = nstep (us [a0, a1, a2, a3, a4]) 14 x.toNat :=
 (congr5 rfl rfl rfl rfl (lo_add _ _ (by decide) rfl h4)).trans (zwa5 _ _ _ _ _ _).symm
theorem num_15 (N : Nat) (b : List UInt8) (n : Int) (t : List UInt64) (a0 a1 a2 a3 a4 : UInt64) : zq33_s2 N b n 15 t [a0, a1, a2, a3, a4] = bif decide ((15 : Int) < n) then (bif inR (15 : Int) b.length then some (.go ((b, n, (16 : Int), ()), (t, [a0, a1, a2, a3, a4 + (shl64 (b.getD 15 0).toUInt64 16 &&& 67108863)], ()))) else none) else some (.br ((), (t, [a0, a1, a2, a3, a4], ()))) := by kernel_rfl
theorem nus_15 {a0 a1 a2 a3 a4 : UInt64} (x : UInt8) (h0 : a0.toNat < 67108864) (h1 : a1.toNat < 67108864) (h2 : a2.toNat < 67108864) (h3 : a3.toNat < 67108864) (h4 : a4.toNat < 67108864) : us [a0, a1, a2, a3, a4 + (shl64 x.toUInt64 16 &&& 67108863)] = nstep (us [a0, a1, a2, a3, a4]) 15 x.toNat :=
 (congr5 rfl rfl rfl rfl (lo_add _ _ (by decide) rfl h4)).trans (zwa6 _ _ _ _ _ _).symm
theorem num_16 (N : Nat) (b : List UInt8) (n : Int) (t : List UInt64) (a0 a1 a2 a3 a4 : UInt64) : zq33_s2 N b n 16 t [a0, a1, a2, a3, a4] = bif decide ((16 : Int) < n) then (bif inR (16 : Int) b.length then some (.go ((b, n, (17 : Int), ()), (t, [a0, a1, a2, a3, a4 + (shl64 (b.getD 16 0).toUInt64 24 &&& 67108863)], ()))) else none) else some (.br ((), (t, [a0, a1, a2, a3, a4], ()))) := by kernel_rfl
theorem nus_16 {a0 a1 a2 a3 a4 : UInt64} (x : UInt8) (h0 : a0.toNat < 67108864) (h1 : a1.toNat < 67108864) (h2 : a2.toNat < 67108864) (h3 : a3.toNat < 67108864) (h4 : a4.toNat < 67108864) : us [a0, a1, a2, a3, a4 + (shl64 x.toUInt64 24 &&& 67108863)] = nstep (us [a0, a1, a2, a3, a4]) 16 x.toNat :=
 (congr5 rfl rfl rfl rfl (lo_add _ _ (by decide) rfl h4)).trans (zwa7 _ _ _ _ _ _).symm
theorem zwj5 (N : Nat) {b : List UInt8} {l : List UInt64} (t : List UInt64) {i : Nat} (h : NInv (ns b) (us l) i) (hi : i < 17) (hb : i < b.length) (h16 : i = 16 → (b.getD i 0).toNat ≤ 3) :
  ∃ l', zq33_s2 N b (b.length : Int) (i : Int) t l = some (.go ((b, (b.length : Int), ((i + 1 : Nat) : Int), ()), (t, l', ()))) ∧ NInv (ns b) (us l') (i + 1) := by
 have hlen : l.length = 5 := by have := h.len; simpa [us] using this
 have hx : (ns b).getD i 0 = (b.getD i 0).toNat := by simp [ns, List.getD, hb]
 have hs := h.step hi (by simpa [ns] using hb) (by rw [hx]; exact (b.getD i 0).toNat_lt) (by rw [hx]; exact h16)
 rw [hx] at hs
 have l0 := low_of h (j := 0) (by omega); have l1 := low_of h (j := 1) (by omega); have l2 := low_of h (j := 2) (by omega); have l3 := low_of h (j := 3) (by omega); have l4 := low_of h (j := 4) (by omega)
 obtain ⟨a0, a1, a2, a3, a4, rfl⟩ := list5u hlen
 have hd : decide ((i : Int) < (b.length : Int)) = true := dpos (by omega)
 have hr : inR (i : Int) b.length = true := inR_of (by omega) (by omega)
 rcases (by omega : i = 0 ∨ i = 1 ∨ i = 2 ∨ i = 3 ∨ i = 4 ∨ i = 5 ∨ i = 6 ∨ i = 7 ∨ i = 8 ∨ i = 9 ∨ i = 10 ∨ i = 11 ∨ i = 12 ∨ i = 13 ∨ i = 14 ∨ i = 15 ∨ i = 16) with rfl | rfl | rfl | rfl | rfl | rfl | rfl | rfl | rfl | rfl | rfl | rfl | rfl | rfl | rfl | rfl | rfl
 ·exact ⟨_, (num_0 N b _ t a0 a1 a2 a3 a4).trans (by rw [show decide ((0 : Int) < (b.length : Int)) = true from hd, show inR (0 : Int) b.length = true from hr]; rfl), by rw [nus_0 _ l0 l1 l2 l3 l4]; exact hs⟩
 ·exact ⟨_, (num_1 N b _ t a0 a1 a2 a3 a4).trans (by rw [show decide ((1 : Int) < (b.length : Int)) = true from hd, show inR (1 : Int) b.length = true from hr]; rfl), by rw [nus_1 _ l0 l1 l2 l3 l4]; exact hs⟩
 ·exact ⟨_, (num_2 N b _ t a0 a1 a2 a3 a4).trans (by rw [show decide ((2 : Int) < (b.length : Int)) = true from hd, show inR (2 : Int) b.length = true from hr]; rfl), by rw [nus_2 _ l0 l1 l2 l3 l4]; exact hs⟩
 ·exact ⟨_, (num_3 N b _ t a0 a1 a2 a3 a4).trans (by rw [show decide ((3 : Int) < (b.length : Int)) = true from hd, show inR (3 : Int) b.length = true from hr]; rfl), by rw [nus_3 _ l0 l1 l2 l3 l4]; exact hs⟩
 ·exact ⟨_, (num_4 N b _ t a0 a1 a2 a3 a4).trans (by rw [show decide ((4 : Int) < (b.length : Int)) = true from hd, show inR (4 : Int) b.length = true from hr]; rfl), by rw [nus_4 _ l0 l1 l2 l3 l4]; exact hs⟩
 ·exact ⟨_, (num_5 N b _ t a0 a1 a2 a3 a4).trans (by rw [show decide ((5 : Int) < (b.length : Int)) = true from hd, show inR (5 : Int) b.length = true from hr]; rfl), by rw [nus_5 _ l0 l1 l2 l3 l4]; exact hs⟩
 ·exact ⟨_, (num_6 N b _ t a0 a1 a2 a3 a4).trans (by rw [show decide ((6 : Int) < (b.length : Int)) = true from hd, show inR (6 : Int) b.length = true from hr]; rfl), by rw [nus_6 _ l0 l1 l2 l3 l4]; exact hs⟩
 ·exact ⟨_, (num_7 N b _ t a0 a1 a2 a3 a4).trans (by rw [show decide ((7 : Int) < (b.length : Int)) = true from hd, show inR (7 : Int) b.length = true from hr]; rfl), by rw [nus_7 _ l0 l1 l2 l3 l4]; exact hs⟩
 ·exact ⟨_, (num_8 N b _ t a0 a1 a2 a3 a4).trans (by rw [show decide ((8 : Int) < (b.length : Int)) = true from hd, show inR (8 : Int) b.length = true from hr]; rfl), by rw [nus_8 _ l0 l1 l2 l3 l4]; exact hs⟩
 ·exact ⟨_, (num_9 N b _ t a0 a1 a2 a3 a4).trans (by rw [show decide ((9 : Int) < (b.length : Int)) = true from hd, show inR (9 : Int) b.length = true from hr]; rfl), by rw [nus_9 _ l0 l1 l2 l3 l4]; exact hs⟩
 ·exact ⟨_, (num_10 N b _ t a0 a1 a2 a3 a4).trans (by rw [show decide ((10 : Int) < (b.length : Int)) = true from hd, show inR (10 : Int) b.length = true from hr]; rfl), by rw [nus_10 _ l0 l1 l2 l3 l4]; exact hs⟩
 ·exact ⟨_, (num_11 N b _ t a0 a1 a2 a3 a4).trans (by rw [show decide ((11 : Int) < (b.length : Int)) = true from hd, show inR (11 : Int) b.length = true from hr]; rfl), by rw [nus_11 _ l0 l1 l2 l3 l4]; exact hs⟩
 ·exact ⟨_, (num_12 N b _ t a0 a1 a2 a3 a4).trans (by rw [show decide ((12 : Int) < (b.length : Int)) = true from hd, show inR (12 : Int) b.length = true from hr]; rfl), by rw [nus_12 _ l0 l1 l2 l3 l4]; exact hs⟩
 ·exact ⟨_, (num_13 N b _ t a0 a1 a2 a3 a4).trans (by rw [show decide ((13 : Int) < (b.length : Int)) = true from hd, show inR (13 : Int) b.length = true from hr]; rfl), by rw [nus_13 _ l0 l1 l2 l3 l4]; exact hs⟩
 ·exact ⟨_, (num_14 N b _ t a0 a1 a2 a3 a4).trans (by rw [show decide ((14 : Int) < (b.length : Int)) = true from hd, show inR (14 : Int) b.length = true from hr]; rfl), by rw [nus_14 _ l0 l1 l2 l3 l4]; exact hs⟩
 ·exact ⟨_, (num_15 N b _ t a0 a1 a2 a3 a4).trans (by rw [show decide ((15 : Int) < (b.length : Int)) = true from hd, show inR (15 : Int) b.length = true from hr]; rfl), by rw [nus_15 _ l0 l1 l2 l3 l4]; exact hs⟩
 ·exact ⟨_, (num_16 N b _ t a0 a1 a2 a3 a4).trans (by rw [show decide ((16 : Int) < (b.length : Int)) = true from hd, show inR (16 : Int) b.length = true from hr]; rfl), by rw [nus_16 _ l0 l1 l2 l3 l4]; exact hs⟩
theorem zw5w (N : Nat) {b : List UInt8} (hb : b.length ≤ 17) (h16 : 16 < b.length → (b.getD 16 0).toNat ≤ 3) (hN : 4611686018427387904 ≤ N) :
  ∃ l, zq33 N b = some ((l, ()), ()) ∧ Le 67108863 (us l) ∧ v5 (us l) = le (ns b) := by
 unfold zq33 zq33_1
 have := zwc (N := N) (step := fun y => zq33_s2 N y.1.1 y.1.2.1 y.1.2.2.1 y.2.1 y.2.2.1) (J := fun (e : ((Unit) × ((List UInt64) × (List UInt64) × Unit))) => zq33_3 N e.2.1 e.2.2.1)
  (I := fun y => ∃ i : Nat, y = ((b, (b.length : Int), (i : Int), ()), (List.replicate 5 0, y.2.2.1, ())) ∧ i ≤ b.length ∧ NInv (ns b) (us y.2.2.1) i) (μ := fun y => ((b.length : Int) - y.1.2.2.1).toNat)
  (T := fun r => ∃ l, r = ((l, ()), ()) ∧ Le 67108863 (us l) ∧ v5 (us l) = le (ns b)) ?_
  (x := ((b, (b.length : Int), 0, ()), (List.replicate 5 0, List.replicate 5 0, ()))) ⟨0, rfl, by omega, NInv.start _⟩ (by simp; omega)
 ·obtain ⟨r, h1, l, rfl, h2, h3⟩ := this
  exact ⟨l, h1, h2, h3⟩
 ·rintro ⟨⟨b', n, j, _⟩, ⟨t, l, _⟩⟩ ⟨i, h1, h2, h3⟩
  simp only [Prod.mk.injEq] at h1
  obtain ⟨⟨rfl, rfl, rfl, _⟩, rfl, _⟩ := h1
  simp only at h3 ⊢
  by_cases hi : i < b'.length
  ·obtain ⟨l', e, h4⟩ := zwj5 N (List.replicate 5 0) h3 (by omega) hi (fun e => by subst e; exact h16 hi)
   exact ⟨_, e, ⟨i + 1, rfl, by omega, h4⟩, by simp only; omega⟩
  ·have e : i = b'.length := by omega
   subst e
   refine ⟨.br ((), (List.replicate 5 0, l, ())), ?_, _, rfl, l, rfl, ⟨h3.len, fun j hj => by have := low_of h3 hj; omega⟩, ?_⟩
   ·unfold zq33_s2
    simp (disch := omega) only [dneg, cond_false]
   ·rw [h3.val, List.take_of_length_le (by simp [ns])]
end Go.Proofs.YtajpblfinenmjaaGreatDoor.Pl

namespace Go.Proofs.YtajpblfinenmjaaGreatDoor.Pl
open Go Poly
def cr : List UInt64 → List UInt64
 | [a, b, c, d, e] =>
  [((a + 0) &&& 67108863) + 5 * shr64 (e + shr64 (d + shr64 (c + shr64 (b + shr64 (a + 0) 26) 26) 26) 26) 26, (b + shr64 (a + 0) 26) &&& 67108863, (c + shr64 (b + shr64 (a + 0) 26) 26) &&& 67108863,
   (d + shr64 (c + shr64 (b + shr64 (a + 0) 26) 26) 26) &&& 67108863, (e + shr64 (d + shr64 (c + shr64 (b + shr64 (a + 0) 26) 26) 26) 26) &&& 67108863]
 | l => l
theorem zwj6 (M : Nat) (a b c d e : UInt64) : zq14 (M + 20) [a, b, c, d, e] = some ((cr (cr [a, b, c, d, e]), ()), ()) := by kernel_rfl
theorem add_un (M : Nat) (a b c d e a' b' c' d' e' : UInt64) : zq24 (M + 20) [a, b, c, d, e] [a', b', c', d', e'] = some ((cr (cr [a + a', b + b', c + c', d + d', e + e']), ()), ()) := by kernel_rfl
theorem mul_un (M : Nat) (a0 a1 a2 a3 a4 b0 b1 b2 b3 b4 : UInt64) : zq22 (M + 20) [a0, a1, a2, a3, a4] [b0, b1, b2, b3, b4] =
  some ((cr (cr [0 + a0 * b0 + a1 * b4 * 5 + a2 * b3 * 5 + a3 * b2 * 5 + a4 * b1 * 5, 0 + a0 * b1 + a1 * b0 + a2 * b4 * 5 + a3 * b3 * 5 + a4 * b2 * 5, 0 + a0 * b2 + a1 * b1 + a2 * b0 + a3 * b4 * 5 + a4 * b3 * 5,
   0 + a0 * b3 + a1 * b2 + a2 * b1 + a3 * b0 + a4 * b4 * 5, 0 + a0 * b4 + a1 * b3 + a2 * b2 + a3 * b1 + a4 * b0]), ()), ()) := by kernel_rfl
def cq : List UInt64 → List UInt64
 | [a, b, c, d, e] => [a &&& 67108863, (b + shr64 a 26) &&& 67108863, (c + shr64 (b + shr64 a 26) 26) &&& 67108863, (d + shr64 (c + shr64 (b + shr64 a 26) 26) 26) &&& 67108863, e + shr64 (d + shr64 (c + shr64 (b + shr64 a 26) 26) 26) 26]
 | l => l
theorem red_un (M : Nat) (a b c d e : UInt64) (l t : List UInt64) : zq7_1 (M + 20) 0 l t [a, b, c, d, e] = bif decide (shr64 ((cq [a, b, c, d, e]).getD 4 0) 26 = 0) then some ((l, ()), ()) else some (((cq [a, b, c, d, e]).set 4 ((cq [a, b, c, d, e]).getD 4 0 &&& 67108863), ()), ()) := by kernel_rfl

theorem shr26 (x : UInt64) : (shr64 x 26).toNat = x.toNat / 67108864 := by
 show (x.toBitVec >>> 26).toNat = _
 rw [BitVec.toNat_ushiftRight, Nat.shiftRight_eq_div_pow]; rfl
theorem and26 (x : UInt64) : (x &&& 67108863).toNat = x.toNat % 67108864 := by
 rw [UInt64.toNat_and]; exact Nat.and_two_pow_sub_one_eq_mod _ 26
theorem addN {x y : UInt64} (h : x.toNat + y.toNat < 18446744073709551616) : (x + y).toNat = x.toNat + y.toNat := by
 rw [UInt64.toNat_add]; exact Nat.mod_eq_of_lt h
theorem mulN {x y : UInt64} (h : x.toNat * y.toNat < 18446744073709551616) : (x * y).toNat = x.toNat * y.toNat := by
 rw [UInt64.toNat_mul]; exact Nat.mod_eq_of_lt h
theorem cr_us {l : List UInt64} (h : Le 4611686018427387904 (us l)) : us (cr l) = rnd (us l) := by
 have h0 := h.2 0 (by omega); have h1 := h.2 1 (by omega); have h2 := h.2 2 (by omega); have h3 := h.2 3 (by omega); have h4 := h.2 4 (by omega)
 obtain ⟨a, b, c, d, e, rfl⟩ := list5u (by simpa [us] using h.1)
 simp only [us, List.map_cons, List.map_nil, List.getD_cons_zero, List.getD_cons_succ] at h0 h1 h2 h3 h4
 have e0 : (a + 0).toNat = a.toNat + 0 := addN (by show a.toNat + 0 < _; omega)
 have e1 : (b + shr64 (a + 0) 26).toNat = b.toNat + (a.toNat + 0) / 67108864 := by rw [addN (by rw [shr26, e0]; omega), shr26, e0]
 have e2 : (c + shr64 (b + shr64 (a + 0) 26) 26).toNat = c.toNat + (b.toNat + (a.toNat + 0) / 67108864) / 67108864 := by rw [addN (by rw [shr26, e1]; omega), shr26, e1]
 have e3 : (d + shr64 (c + shr64 (b + shr64 (a + 0) 26) 26) 26).toNat = d.toNat + (c.toNat + (b.toNat + (a.toNat + 0) / 67108864) / 67108864) / 67108864 := by rw [addN (by rw [shr26, e2]; omega), shr26, e2]
 have e4 : (e + shr64 (d + shr64 (c + shr64 (b + shr64 (a + 0) 26) 26) 26) 26).toNat = e.toNat + (d.toNat + (c.toNat + (b.toNat + (a.toNat + 0) / 67108864) / 67108864) / 67108864) / 67108864 := by rw [addN (by rw [shr26, e3]; omega), shr26, e3]
 refine Eq.trans ?_ (zw5v _ _ _ _ _).symm
 refine congr5 ?_ ?_ ?_ ?_ ?_
 ·have e5 : (5 * shr64 (e + shr64 (d + shr64 (c + shr64 (b + shr64 (a + 0) 26) 26) 26) 26) 26).toNat = 5 * ((e.toNat + (d.toNat + (c.toNat + (b.toNat + (a.toNat + 0) / 67108864) / 67108864) / 67108864) / 67108864) / 67108864) := by
   have q : (5 : UInt64).toNat = 5 := rfl
   rw [mulN (by rw [q, shr26, e4]; omega), q, shr26, e4]
  rw [addN (by rw [and26, e5, e0]; omega), and26, e5, e0]
 ·rw [and26, e1]
 ·rw [and26, e2]
 ·rw [and26, e3]
 ·rw [and26, e4]
theorem rp_inv {r : Nat} {l : List Nat} (hb : Poly.Bd r l) : ∀ j, j ≤ 5 → CInv r l (rp j l).1 j (rp j l).2 := by
 intro j
 induction j with
 | zero => intro _; exact CInv.start hb
 | succ j ih => intro hj; exact (CInv.step hb (ih (by omega)) (by omega)).1
theorem rnd_bd {r : Nat} {l : List Nat} (hb : Poly.Bd r l) (hr : r < 2) : Poly.Bd (r + 1) (rnd l) ∧ v5 (rnd l) % pp = v5 l % pp := by
 have h := (rp_inv hb 5 (Nat.le_refl 5)).done hr
 exact ⟨h.1, h.2.1⟩
theorem bd_le {r : Nat} {l : List Nat} (h : Poly.Bd r l) : Le 4611686018427387904 l := ⟨h.len, h.all⟩
theorem cr2 {l : List UInt64} (h : Le 4611686018427387904 (us l)) : Poly.Bd 2 (us (cr (cr l))) ∧ v5 (us (cr (cr l))) % pp = v5 (us l) % pp := by
 have h1 := rnd_bd h.bd (by omega)
 rw [← cr_us h] at h1
 have h2 := rnd_bd h1.1 (by omega)
 rw [← cr_us (bd_le h1.1)] at h2
 exact ⟨h2.1, h2.2.trans h1.2⟩
def mst (a b l : List Nat) (i k : Nat) : List Nat := l.set ((i + k) % 5) (l.getD ((i + k) % 5) 0 + mterm a b i k)
def mrow (a b l : List Nat) (i : Nat) : List Nat := mst a b (mst a b (mst a b (mst a b (mst a b l i 0) i 1) i 2) i 3) i 4
theorem zwd {x y : UInt64} (hx : x.toNat ≤ 67108868) (hy : y.toNat ≤ 67108868) : (x * y).toNat = x.toNat * y.toNat ∧ x.toNat * y.toNat ≤ 4503600164241424 := by
 have := Nat.mul_le_mul hx hy
 exact ⟨mulN (by omega), by omega⟩
theorem prod5 {x y : UInt64} (hx : x.toNat ≤ 67108868) (hy : y.toNat ≤ 67108868) : (x * y * 5).toNat = x.toNat * y.toNat * 5 := by
 have h := zwd hx hy
 have q : (5 : UInt64).toNat = 5 := rfl
 rw [mulN (by rw [h.1, q]; omega), h.1, q]
theorem zw3r {a b l : List Nat} {i : Nat} (ha : Le 67108868 a) (hb : Le 67108868 b) (h : MInv a b l i 0) (hi : i < 5) : MInv a b (mrow a b l i) (i + 1) 0 :=
 ((h.step ha hb hi (by omega)).1.step ha hb hi (by omega)).1 |>.step ha hb hi (by omega) |>.1.step ha hb hi (by omega) |>.1.step ha hb hi (by omega) |>.1.next
section
variable (N : Nat) (hN : 4611686018427387904 ≤ N)
include hN
theorem zwab {l : List UInt64} (h : Le 4611686018427387904 (us l)) : ∃ l', zq14 N l = some ((l', ()), ()) ∧ Poly.Bd 2 (us l') ∧ v5 (us l') % pp = v5 (us l) % pp ∧ us l' = rnd (rnd (us l)) := by
 obtain ⟨M, rfl⟩ := Nat.exists_eq_add_of_le' (show 20 ≤ N by omega)
 obtain ⟨a, b, c, d, e, rfl⟩ := list5u (by simpa [us] using h.1)
 have h1 := rnd_bd h.bd (by omega)
 refine ⟨_, zwj6 M a b c d e, (cr2 h).1, (cr2 h).2, ?_⟩
 rw [cr_us (l := cr [a, b, c, d, e]) (by rw [cr_us h]; exact bd_le h1.1), cr_us h]
theorem add_ok {l m : List UInt64} (hl : Le 67108868 (us l)) (hm : Le 67108863 (us m)) : ∃ l', zq24 N l m = some ((l', ()), ()) ∧ Le 67108868 (us l') ∧ v5 (us l') % pp = (v5 (us l) + v5 (us m)) % pp := by
 obtain ⟨M, rfl⟩ := Nat.exists_eq_add_of_le' (show 20 ≤ N by omega)
 have h0 := hl.2 0 (by omega); have h1 := hl.2 1 (by omega); have h2 := hl.2 2 (by omega); have h3 := hl.2 3 (by omega); have h4 := hl.2 4 (by omega)
 have k0 := hm.2 0 (by omega); have k1 := hm.2 1 (by omega); have k2 := hm.2 2 (by omega); have k3 := hm.2 3 (by omega); have k4 := hm.2 4 (by omega)
 obtain ⟨a, b, c, d, f, rfl⟩ := list5u (by simpa [us] using hl.1)
 obtain ⟨a', b', c', d', e', rfl⟩ := list5u (by simpa [us] using hm.1)
 simp only [us, List.map_cons, List.map_nil, List.getD_cons_zero, List.getD_cons_succ] at h0 h1 h2 h3 h4 k0 k1 k2 k3 k4
 have e : us [a + a', b + b', c + c', d + d', f + e'] = [a.toNat + a'.toNat, b.toNat + b'.toNat, c.toNat + c'.toNat, d.toNat + d'.toNat, f.toNat + e'.toNat] :=
  congr5 (addN (by omega)) (addN (by omega)) (addN (by omega)) (addN (by omega)) (addN (by omega))
 have hle : Le 4611686018427387904 (us [a + a', b + b', c + c', d + d', f + e']) := by rw [e]; apply le5 <;> omega
 have h := cr2 hle
 refine ⟨_, add_un M a b c d f a' b' c' d' e', h.1.le, h.2.trans ?_⟩
 rw [e]
 simp only [us, List.map_cons, List.map_nil, v5, List.getD_cons_zero, List.getD_cons_succ]
 congr 1
 omega
theorem mul_ok {l m : List UInt64} (hl : Le 67108868 (us l)) (hm : Le 67108868 (us m)) : ∃ l', zq22 N l m = some ((l', ()), ()) ∧ Le 67108868 (us l') ∧ v5 (us l') % pp = v5 (us l) * v5 (us m) % pp := by
 obtain ⟨M, rfl⟩ := Nat.exists_eq_add_of_le' (show 20 ≤ N by omega)
 have h0 := hl.2 0 (by omega); have h1 := hl.2 1 (by omega); have h2 := hl.2 2 (by omega); have h3 := hl.2 3 (by omega); have h4 := hl.2 4 (by omega)
 have k0 := hm.2 0 (by omega); have k1 := hm.2 1 (by omega); have k2 := hm.2 2 (by omega); have k3 := hm.2 3 (by omega); have k4 := hm.2 4 (by omega)
 obtain ⟨a0, a1, a2, a3, a4, rfl⟩ := list5u (by simpa [us] using hl.1)
 obtain ⟨b0, b1, b2, b3, b4, rfl⟩ := list5u (by simpa [us] using hm.1)
 simp only [us, List.map_cons, List.map_nil, List.getD_cons_zero, List.getD_cons_succ] at h0 h1 h2 h3 h4 k0 k1 k2 k3 k4
 have z0 : (0 : UInt64).toNat = 0 := rfl
 have p00 := zwd h0 k0
 have p01 := zwd h0 k1
 have p02 := zwd h0 k2
 have p03 := zwd h0 k3
 have p04 := zwd h0 k4
 have p10 := zwd h1 k0
 have p11 := zwd h1 k1
 have p12 := zwd h1 k2
 have p13 := zwd h1 k3
 have p14 := zwd h1 k4
 have q14 := prod5 h1 k4
 have p20 := zwd h2 k0
 have p21 := zwd h2 k1
 have p22 := zwd h2 k2
 have p23 := zwd h2 k3
 have q23 := prod5 h2 k3
 have p24 := zwd h2 k4
 have q24 := prod5 h2 k4
 have p30 := zwd h3 k0
 have p31 := zwd h3 k1
 have p32 := zwd h3 k2
 have q32 := prod5 h3 k2
 have p33 := zwd h3 k3
 have q33 := prod5 h3 k3
 have p34 := zwd h3 k4
 have q34 := prod5 h3 k4
 have p40 := zwd h4 k0
 have p41 := zwd h4 k1
 have q41 := prod5 h4 k1
 have p42 := zwd h4 k2
 have q42 := prod5 h4 k2
 have p43 := zwd h4 k3
 have q43 := prod5 h4 k3
 have p44 := zwd h4 k4
 have q44 := prod5 h4 k4
 have s00 : (0 + a0 * b0 : UInt64).toNat = 0 + a0.toNat * b0.toNat := by rw [addN (by rw [z0, p00.1]; omega), z0, p00.1]
 have s01 : (0 + a0 * b0 + a1 * b4 * 5 : UInt64).toNat = 0 + a0.toNat * b0.toNat + a1.toNat * b4.toNat * 5 := by rw [addN (by rw [s00, q14]; omega), s00, q14]
 have s02 : (0 + a0 * b0 + a1 * b4 * 5 + a2 * b3 * 5 : UInt64).toNat = 0 + a0.toNat * b0.toNat + a1.toNat * b4.toNat * 5 + a2.toNat * b3.toNat * 5 := by rw [addN (by rw [s01, q23]; omega), s01, q23]
 have s03 : (0 + a0 * b0 + a1 * b4 * 5 + a2 * b3 * 5 + a3 * b2 * 5 : UInt64).toNat = 0 + a0.toNat * b0.toNat + a1.toNat * b4.toNat * 5 + a2.toNat * b3.toNat * 5 + a3.toNat * b2.toNat * 5 := by rw [addN (by rw [s02, q32]; omega), s02, q32]
 have s04 : (0 + a0 * b0 + a1 * b4 * 5 + a2 * b3 * 5 + a3 * b2 * 5 + a4 * b1 * 5 : UInt64).toNat = 0 + a0.toNat * b0.toNat + a1.toNat * b4.toNat * 5 + a2.toNat * b3.toNat * 5 + a3.toNat * b2.toNat * 5 + a4.toNat * b1.toNat * 5 := by rw [addN (by rw [s03, q41]; omega), s03, q41]
 have s10 : (0 + a0 * b1 : UInt64).toNat = 0 + a0.toNat * b1.toNat := by rw [addN (by rw [z0, p01.1]; omega), z0, p01.1]
 have s11 : (0 + a0 * b1 + a1 * b0 : UInt64).toNat = 0 + a0.toNat * b1.toNat + a1.toNat * b0.toNat := by rw [addN (by rw [s10, p10.1]; omega), s10, p10.1]
 have s12 : (0 + a0 * b1 + a1 * b0 + a2 * b4 * 5 : UInt64).toNat = 0 + a0.toNat * b1.toNat + a1.toNat * b0.toNat + a2.toNat * b4.toNat * 5 := by rw [addN (by rw [s11, q24]; omega), s11, q24]
 have s13 : (0 + a0 * b1 + a1 * b0 + a2 * b4 * 5 + a3 * b3 * 5 : UInt64).toNat = 0 + a0.toNat * b1.toNat + a1.toNat * b0.toNat + a2.toNat * b4.toNat * 5 + a3.toNat * b3.toNat * 5 := by rw [addN (by rw [s12, q33]; omega), s12, q33]
 have s14 : (0 + a0 * b1 + a1 * b0 + a2 * b4 * 5 + a3 * b3 * 5 + a4 * b2 * 5 : UInt64).toNat = 0 + a0.toNat * b1.toNat + a1.toNat * b0.toNat + a2.toNat * b4.toNat * 5 + a3.toNat * b3.toNat * 5 + a4.toNat * b2.toNat * 5 := by rw [addN (by rw [s13, q42]; omega), s13, q42]
 have s20 : (0 + a0 * b2 : UInt64).toNat = 0 + a0.toNat * b2.toNat := by rw [addN (by rw [z0, p02.1]; omega), z0, p02.1]
 have s21 : (0 + a0 * b2 + a1 * b1 : UInt64).toNat = 0 + a0.toNat * b2.toNat + a1.toNat * b1.toNat := by rw [addN (by rw [s20, p11.1]; omega), s20, p11.1]
 have s22 : (0 + a0 * b2 + a1 * b1 + a2 * b0 : UInt64).toNat = 0 + a0.toNat * b2.toNat + a1.toNat * b1.toNat + a2.toNat * b0.toNat := by rw [addN (by rw [s21, p20.1]; omega), s21, p20.1]
 have s23 : (0 + a0 * b2 + a1 * b1 + a2 * b0 + a3 * b4 * 5 : UInt64).toNat = 0 + a0.toNat * b2.toNat + a1.toNat * b1.toNat + a2.toNat * b0.toNat + a3.toNat * b4.toNat * 5 := by rw [addN (by rw [s22, q34]; omega), s22, q34]
 have s24 : (0 + a0 * b2 + a1 * b1 + a2 * b0 + a3 * b4 * 5 + a4 * b3 * 5 : UInt64).toNat = 0 + a0.toNat * b2.toNat + a1.toNat * b1.toNat + a2.toNat * b0.toNat + a3.toNat * b4.toNat * 5 + a4.toNat * b3.toNat * 5 := by rw [addN (by rw [s23, q43]; omega), s23, q43]
 have s30 : (0 + a0 * b3 : UInt64).toNat = 0 + a0.toNat * b3.toNat := by rw [addN (by rw [z0, p03.1]; omega), z0, p03.1]
 have s31 : (0 + a0 * b3 + a1 * b2 : UInt64).toNat = 0 + a0.toNat * b3.toNat + a1.toNat * b2.toNat := by rw [addN (by rw [s30, p12.1]; omega), s30, p12.1]
 have s32 : (0 + a0 * b3 + a1 * b2 + a2 * b1 : UInt64).toNat = 0 + a0.toNat * b3.toNat + a1.toNat * b2.toNat + a2.toNat * b1.toNat := by rw [addN (by rw [s31, p21.1]; omega), s31, p21.1]
 have s33 : (0 + a0 * b3 + a1 * b2 + a2 * b1 + a3 * b0 : UInt64).toNat = 0 + a0.toNat * b3.toNat + a1.toNat * b2.toNat + a2.toNat * b1.toNat + a3.toNat * b0.toNat := by rw [addN (by rw [s32, p30.1]; omega), s32, p30.1]
 have s34 : (0 + a0 * b3 + a1 * b2 + a2 * b1 + a3 * b0 + a4 * b4 * 5 : UInt64).toNat = 0 + a0.toNat * b3.toNat + a1.toNat * b2.toNat + a2.toNat * b1.toNat + a3.toNat * b0.toNat + a4.toNat * b4.toNat * 5 := by rw [addN (by rw [s33, q44]; omega), s33, q44]
 have s40 : (0 + a0 * b4 : UInt64).toNat = 0 + a0.toNat * b4.toNat := by rw [addN (by rw [z0, p04.1]; omega), z0, p04.1]
 have s41 : (0 + a0 * b4 + a1 * b3 : UInt64).toNat = 0 + a0.toNat * b4.toNat + a1.toNat * b3.toNat := by rw [addN (by rw [s40, p13.1]; omega), s40, p13.1]
 have s42 : (0 + a0 * b4 + a1 * b3 + a2 * b2 : UInt64).toNat = 0 + a0.toNat * b4.toNat + a1.toNat * b3.toNat + a2.toNat * b2.toNat := by rw [addN (by rw [s41, p22.1]; omega), s41, p22.1]
 have s43 : (0 + a0 * b4 + a1 * b3 + a2 * b2 + a3 * b1 : UInt64).toNat = 0 + a0.toNat * b4.toNat + a1.toNat * b3.toNat + a2.toNat * b2.toNat + a3.toNat * b1.toNat := by rw [addN (by rw [s42, p31.1]; omega), s42, p31.1]
 have s44 : (0 + a0 * b4 + a1 * b3 + a2 * b2 + a3 * b1 + a4 * b0 : UInt64).toNat = 0 + a0.toNat * b4.toNat + a1.toNat * b3.toNat + a2.toNat * b2.toNat + a3.toNat * b1.toNat + a4.toNat * b0.toNat := by rw [addN (by rw [s43, p40.1]; omega), s43, p40.1]
 have eo : us [0 + a0 * b0 + a1 * b4 * 5 + a2 * b3 * 5 + a3 * b2 * 5 + a4 * b1 * 5, 0 + a0 * b1 + a1 * b0 + a2 * b4 * 5 + a3 * b3 * 5 + a4 * b2 * 5, 0 + a0 * b2 + a1 * b1 + a2 * b0 + a3 * b4 * 5 + a4 * b3 * 5, 0 + a0 * b3 + a1 * b2 + a2 * b1 + a3 * b0 + a4 * b4 * 5, 0 + a0 * b4 + a1 * b3 + a2 * b2 + a3 * b1 + a4 * b0] = [0 + a0.toNat * b0.toNat + a1.toNat * b4.toNat * 5 + a2.toNat * b3.toNat * 5 + a3.toNat * b2.toNat * 5 + a4.toNat * b1.toNat * 5, 0 + a0.toNat * b1.toNat + a1.toNat * b0.toNat + a2.toNat * b4.toNat * 5 + a3.toNat * b3.toNat * 5 + a4.toNat * b2.toNat * 5, 0 + a0.toNat * b2.toNat + a1.toNat * b1.toNat + a2.toNat * b0.toNat + a3.toNat * b4.toNat * 5 + a4.toNat * b3.toNat * 5, 0 + a0.toNat * b3.toNat + a1.toNat * b2.toNat + a2.toNat * b1.toNat + a3.toNat * b0.toNat + a4.toNat * b4.toNat * 5, 0 + a0.toNat * b4.toNat + a1.toNat * b3.toNat + a2.toNat * b2.toNat + a3.toNat * b1.toNat + a4.toNat * b0.toNat] := congr5 s04 s14 s24 s34 s44
 have hm5 := zw3r hl hm (zw3r hl hm (zw3r hl hm (zw3r hl hm (zw3r hl hm (MInv.start _ _) (by omega)) (by omega)) (by omega)) (by omega)) (by omega)
 have hd := hm5.done
 have em : us [0 + a0 * b0 + a1 * b4 * 5 + a2 * b3 * 5 + a3 * b2 * 5 + a4 * b1 * 5, 0 + a0 * b1 + a1 * b0 + a2 * b4 * 5 + a3 * b3 * 5 + a4 * b2 * 5, 0 + a0 * b2 + a1 * b1 + a2 * b0 + a3 * b4 * 5 + a4 * b3 * 5, 0 + a0 * b3 + a1 * b2 + a2 * b1 + a3 * b0 + a4 * b4 * 5, 0 + a0 * b4 + a1 * b3 + a2 * b2 + a3 * b1 + a4 * b0] = mrow (us [a0, a1, a2, a3, a4]) (us [b0, b1, b2, b3, b4]) (mrow (us [a0, a1, a2, a3, a4]) (us [b0, b1, b2, b3, b4]) (mrow (us [a0, a1, a2, a3, a4]) (us [b0, b1, b2, b3, b4]) (mrow (us [a0, a1, a2, a3, a4]) (us [b0, b1, b2, b3, b4]) (mrow (us [a0, a1, a2, a3, a4]) (us [b0, b1, b2, b3, b4]) [0, 0, 0, 0, 0] 0) 1) 2) 3) 4 := by
  rw [eo]
  simp [mrow, mst, mterm, us]
 rw [← em] at hd
 have h := cr2 hd.1
 exact ⟨_, mul_un M a0 a1 a2 a3 a4 b0 b1 b2 b3 b4, h.1.le, h.2.trans hd.2⟩
end
end Go.Proofs.YtajpblfinenmjaaGreatDoor.Pl

namespace Go.Proofs.YtajpblfinenmjaaGreatDoor.Pl
open Go Poly
noncomputable section
theorem cq_us {l : List UInt64} (h : Le 1073741824 (us l)) : us (cq l) = rq 4 (us l) := by
 have h0 := h.2 0 (by omega); have h1 := h.2 1 (by omega); have h2 := h.2 2 (by omega); have h3 := h.2 3 (by omega); have h4 := h.2 4 (by omega)
 obtain ⟨a, b, c, d, e, rfl⟩ := list5u (by simpa [us] using h.1)
 simp only [us, List.map_cons, List.map_nil, List.getD_cons_zero, List.getD_cons_succ] at h0 h1 h2 h3 h4
 have e1 : (b + shr64 a 26).toNat = b.toNat + a.toNat / 67108864 := by rw [addN (by rw [shr26]; omega), shr26]
 have e2 : (c + shr64 (b + shr64 a 26) 26).toNat = c.toNat + (b.toNat + a.toNat / 67108864) / 67108864 := by rw [addN (by rw [shr26, e1]; omega), shr26, e1]
 have e3 : (d + shr64 (c + shr64 (b + shr64 a 26) 26) 26).toNat = d.toNat + (c.toNat + (b.toNat + a.toNat / 67108864) / 67108864) / 67108864 := by rw [addN (by rw [shr26, e2]; omega), shr26, e2]
 have e4 : (e + shr64 (d + shr64 (c + shr64 (b + shr64 a 26) 26) 26) 26).toNat = e.toNat + (d.toNat + (c.toNat + (b.toNat + a.toNat / 67108864) / 67108864) / 67108864) / 67108864 := by rw [addN (by rw [shr26, e3]; omega), shr26, e3]
 exact (congr5 (and26 _) (by rw [and26, e1]) (by rw [and26, e2]) (by rw [and26, e3]) e4).trans (zwa9 _ _ _ _ _).symm
theorem zwj7 (N : Nat) (hN : 4611686018427387904 ≤ N) {l : List UInt64} (h : Le 67108868 (us l)) : ∃ l', zq7 N l = some ((l', ()), ()) ∧ Le 67108863 (us l') ∧ v5 (us l') = v5 (us l) % pp := by
 obtain ⟨l1, e1, b1, v1, _⟩ := zwab N hN (h.mono (by decide))
 obtain ⟨l2, e2, b2, v2, u2⟩ := zwab N hN (bd_le b1)
 have hlow : Le 67108863 (us l2) := by rw [u2]; exact zwj0 b1
 have hv : v5 (us l2) % pp = v5 (us l) % pp := v2.trans v1
 unfold zq7
 simp only [e1, e2, Option.bind_some]
 have hl := hlow
 have h0 := hlow.2 0 (by omega); have h1 := hlow.2 1 (by omega); have h2 := hlow.2 2 (by omega); have h3 := hlow.2 3 (by omega); have h4 := hlow.2 4 (by omega)
 obtain ⟨a, b, c, d, e, rfl⟩ := list5u (by simpa [us] using hlow.1)
 simp only [us, List.map_cons, List.map_nil, List.getD_cons_zero, List.getD_cons_succ] at h0 h1 h2 h3 h4
 obtain ⟨M, rfl⟩ := Nat.exists_eq_add_of_le' (show 20 ≤ N by omega)
 have h5 : us [a + 5, b, c, d, e] = (us [a, b, c, d, e]).set 0 ((us [a, b, c, d, e]).getD 0 0 + 5) :=
  congr5 (addN (by show a.toNat + 5 < _; omega)) rfl rfl rfl rfl
 have h5l : Le 1073741824 (us [a + 5, b, c, d, e]) := by
  rw [h5]; show Le 1073741824 [a.toNat + 5, b.toNat, c.toNat, d.toNat, e.toNat]
  apply le5 <;> omega
 have hq := cq_us h5l
 rw [h5] at hq
 show ∃ l', zq7_1 (M + 20) 0 [a, b, c, d, e] _ [a + 5, b, c, d, e] = _ ∧ _
 rw [red_un]
 obtain ⟨q0, q1, q2, q3, q4, hq5⟩ : ∃ q0 q1 q2 q3 q4, cq [a + 5, b, c, d, e] = [q0, q1, q2, q3, q4] := ⟨_, _, _, _, _, rfl⟩
 rw [hq5] at hq ⊢
 have hg : ((us [a, b, c, d, e]).set 0 ((us [a, b, c, d, e]).getD 0 0 + 5)) = ((us [a, b, c, d, e]).set 0 ((us [a, b, c, d, e]).getD 0 0 + 5)) := rfl
 have g4 : (rq 4 ((us [a, b, c, d, e]).set 0 ((us [a, b, c, d, e]).getD 0 0 + 5))).getD 4 0 = q4.toNat := by rw [← hq]; rfl
 have hz : shr64 q4 26 = 0 ↔ q4.toNat / 67108864 = 0 := by
  rw [← shr26]
  constructor
  ·intro e; rw [e]; rfl
  ·intro e; exact UInt64.toNat_inj.1 e
 simp only [List.getD_cons_zero, List.getD_cons_succ]
 by_cases hc : shr64 q4 26 = 0
 ·rw [dpos hc]
  exact ⟨_, rfl, hl, by rw [← hv]; exact (red_no hl (by rw [g4]; exact hz.1 hc)).symm⟩
 ·rw [dneg hc]
  have hy := zwj1 hl (by rw [g4]; exact fun e => hc (hz.2 e))
  refine ⟨_, rfl, ?_⟩
  have e6 : us ([q0, q1, q2, q3, q4].set 4 (q4 &&& 67108863)) = (rq 4 ((us [a, b, c, d, e]).set 0 ((us [a, b, c, d, e]).getD 0 0 + 5))).set 4 ((rq 4 ((us [a, b, c, d, e]).set 0 ((us [a, b, c, d, e]).getD 0 0 + 5))).getD 4 0 % 67108864) := by
   rw [g4, ← hq]
   exact congr5 rfl rfl rfl rfl (and26 _)
  rw [e6]
  exact ⟨hy.1, by rw [← hv]; exact hy.2.symm⟩
theorem list16 {α : Type} {l : List α} (h : l.length = 16) : ∃ a b c d e f g i j k m n o p q r, l = [a, b, c, d, e, f, g, i, j, k, m, n, o, p, q, r] := by
 match l, h with
 | [a, b, c, d, e, f, g, i, j, k, m, n, o, p, q, r], _ => exact ⟨a, b, c, d, e, f, g, i, j, k, m, n, o, p, q, r, rfl⟩
def clm : List UInt8 → List UInt8
 | [a, b, c, d, e, f, g, i, j, k, m, n, o, p, q, r] => [a, b, c, d &&& 15, e &&& 252, f, g, i &&& 15, j &&& 252, k, m, n &&& 15, o &&& 252, p, q, r &&& 15]
 | l => l
theorem zwj8 (M : Nat) (a b c d e f g i j k m n o p q r : UInt8) : zq45 (M + 20) [a, b, c, d, e, f, g, i, j, k, m, n, o, p, q, r] = some ((), (clm [a, b, c, d, e, f, g, i, j, k, m, n, o, p, q, r], ())) := by kernel_rfl
theorem zwj9 {l : List UInt8} (h : l.length = 16) : (clm l).length = 16 := by
 obtain ⟨a, b, c, d, e, f, g, i, j, k, m, n, o, p, q, r, rfl⟩ := list16 h; rfl
def ob (l : List UInt64) (k : Nat) : UInt8 :=
 if 18 < 8 * k % 26 then (shr64 (l.getD (8 * k / 26) 0) (8 * k % 26) ||| shl64 (l.getD (8 * k / 26 + 1) 0) (26 - 8 * k % 26)).toUInt8 else (shr64 (l.getD (8 * k / 26) 0) (8 * k % 26)).toUInt8
theorem out_un (M : Nat) (a b c d e a' b' c' d' e' : UInt64) : zq68_4 (M + 20) 0 [a, b, c, d, e] [a', b', c', d', e'] = some ((true, ()), ((List.range 16).map (ob (cq [a + a', b + b', c + c', d + d', e + e'])), ())) := by kernel_rfl
theorem ob_val {l : List UInt64} (hl : l.length = 5) (hlow : ∀ i, i < 4 → (us l).getD i 0 ≤ 67108863) (h4 : (us l).getD 4 0 ≤ 2147483648) {k : Nat} (hk : k < 16) : (ob l k).toNat = v5 (us l) / 256 ^ k % 256 := by
 rw [← zwj4 (by simpa [us] using hl) hlow hk]
 have hg : ∀ j, (l.getD j 0).toNat = (us l).getD j 0 := fun j => by
  simp only [us, List.getD, List.getElem?_map]
  cases l[j]? <;> rfl
 have hs : ∀ (x : UInt64) (m : Nat), (shr64 x m).toNat = x.toNat / 2 ^ m := fun x m => by
  show (x.toBitVec >>> m).toNat = _
  rw [BitVec.toNat_ushiftRight, Nat.shiftRight_eq_div_pow]; rfl
 unfold ob outb
 split
 ·rename_i h18
  have hj : 8 * k / 26 < 4 := by omega
  have hj' : 8 * k / 26 + 1 ≤ 4 := by omega
  have hx := hlow (8 * k / 26) hj
  have hy : (us l).getD (8 * k / 26 + 1) 0 ≤ 2147483648 := by
   rcases (by omega : 8 * k / 26 + 1 < 4 ∨ 8 * k / 26 + 1 = 4) with h | h
   ·exact Nat.le_trans (hlow _ h) (by decide)
   ·rw [h]; exact h4
  have h26 : 8 * k % 26 < 26 := Nat.mod_lt _ (by decide)
  generalize hm : 8 * k % 26 = m at *
  generalize 8 * k / 26 = j at *
  rw [UInt64.toNat_toUInt8, UInt64.toNat_or, hs, hg]
  have hsl : (shl64 (l.getD (j + 1) 0) (26 - m)).toNat = (us l).getD (j + 1) 0 <<< (26 - m) := by
   show ((l.getD (j + 1) 0).toBitVec <<< (26 - m)).toNat = _
   rw [BitVec.toNat_shiftLeft]
   have e : (l.getD (j + 1) 0).toBitVec.toNat = (us l).getD (j + 1) 0 := hg _
   rw [e, Nat.mod_eq_of_lt]
   rw [Nat.shiftLeft_eq]
   have : 2 ^ (26 - m) ≤ 2 ^ 8 := Nat.pow_le_pow_right (by decide) (by omega)
   have := Nat.mul_le_mul hy this
   omega
  have hlt : (us l).getD j 0 / 2 ^ m < 2 ^ (26 - m) := by
   rw [Nat.div_lt_iff_lt_mul (Nat.two_pow_pos m), ← Nat.pow_add, show 26 - m + m = 26 by omega]
   omega
  rw [hsl, Nat.or_comm, ← Nat.shiftLeft_add_eq_or_of_lt hlt, Nat.shiftLeft_eq, Nat.add_comm]
 ·rw [UInt64.toNat_toUInt8, hs, hg, Nat.add_zero]
def tagB (v : Nat) : List UInt8 := (List.range 16).map fun k => UInt8.ofNat (v / 256 ^ k % 256)
theorem zwja (v : Nat) : (tagB v).length = 16 := by simp [tagB]
def kr (key : List UInt8) : Nat := le (ns (clm (key.take 16)))
def ks (key : List UInt8) : Nat := le (ns (key.drop 16))
def tag (key b : List UInt8) : List UInt8 := tagB (acc (kr key) 0 b + ks key)
theorem zwjb (key b : List UInt8) : (tag key b).length = 16 := zwja _
theorem zwjc (N : Nat) (hN : 4611686018427387904 ≤ N) {v s : List UInt64} (hv : Le 67108863 (us v)) (hs : Le 67108863 (us s)) : zq68_4 N 0 v s = some ((true, ()), (tagB (v5 (us v) + v5 (us s)), ())) := by
 obtain ⟨M, rfl⟩ := Nat.exists_eq_add_of_le' (show 20 ≤ N by omega)
 have h0 := hv.2 0 (by omega); have h1 := hv.2 1 (by omega); have h2 := hv.2 2 (by omega); have h3 := hv.2 3 (by omega); have h4 := hv.2 4 (by omega)
 have k0 := hs.2 0 (by omega); have k1 := hs.2 1 (by omega); have k2 := hs.2 2 (by omega); have k3 := hs.2 3 (by omega); have k4 := hs.2 4 (by omega)
 obtain ⟨a, b, c, d, f, rfl⟩ := list5u (by simpa [us] using hv.1)
 obtain ⟨a', b', c', d', f', rfl⟩ := list5u (by simpa [us] using hs.1)
 simp only [us, List.map_cons, List.map_nil, List.getD_cons_zero, List.getD_cons_succ] at h0 h1 h2 h3 h4 k0 k1 k2 k3 k4
 have e : us [a + a', b + b', c + c', d + d', f + f'] = [a.toNat + a'.toNat, b.toNat + b'.toNat, c.toNat + c'.toNat, d.toNat + d'.toNat, f.toNat + f'.toNat] :=
  congr5 (addN (by omega)) (addN (by omega)) (addN (by omega)) (addN (by omega)) (addN (by omega))
 have hle : Le 1073741824 (us [a + a', b + b', c + c', d + d', f + f']) := by rw [e]; apply le5 <;> omega
 have hq := cq_us hle
 have hd := zw4m hle.1
 have hr4 := (rq_le hle (k := 4) (by omega)).2 4 (by omega)
 rw [← hq] at hd hr4
 rw [out_un]
 have hval : v5 (us (cq [a + a', b + b', c + c', d + d', f + f'])) = v5 (us [a, b, c, d, f]) + v5 (us [a', b', c', d', f']) := by
  rw [hd.1, e]
  simp only [us, List.map_cons, List.map_nil, v5, List.getD_cons_zero, List.getD_cons_succ]
  omega
 congr 3
 unfold tagB
 apply List.map_congr_left
 intro k hk
 rw [List.mem_range] at hk
 have := ob_val rfl hd.2 hr4 hk (l := cq [a + a', b + b', c + c', d + d', f + f'])
 rw [hval] at this
 rw [← this]
 exact (UInt8.ofNat_toNat).symm
theorem sum_ok (N : Nat) (hN : 4611686018427387904 ≤ N) {key b : List UInt8} (hk : key.length = 32) (hb : b.length ≤ 9223372036854775807) (hbN : b.length < N) : zq68 N key b = some ((true, ()), (tag key b, ())) := by
 unfold zq68
 have hc : cut key 0 16 = key.take 16 := by simp [cut]
 have hc2 : cut key 16 key.length = key.drop 16 := by simp [cut]
 have ht : (key.take 16).length = 16 := by simp; omega
 have hcl : zq45 N (key.take 16) = some ((), (clm (key.take 16), ())) := by
  obtain ⟨a, b, c, d, e, f, g, i, j, k, m, n, o, p, q, r, e1⟩ := list16 ht
  obtain ⟨M, rfl⟩ := Nat.exists_eq_add_of_le' (show 20 ≤ N by omega)
  rw [e1]; exact zwj8 M a b c d e f g i j k m n o p q r
 have hcm := zwj9 ht
 obtain ⟨r, er, rl, rv⟩ := zw5w N (b := clm (key.take 16)) (by omega) (by omega) hN
 obtain ⟨s, es, sl, sv⟩ := zw5w N (b := key.drop 16) (by simp; omega) (by simp; omega) hN
 simp (disch := omega) only [dpos, dneg, w64_of, inR_of, zw3, zw4, cond_true, cond_false, Bool.and_self, Bool.and_true, Bool.true_and, Bool.and_false, Bool.false_and, Bool.not_true, Bool.not_false, Option.bind_some, List.length_cons, List.length_nil, Nat.zero_add, hc, hcl, er]
 unfold zq68_1
 have hz : acc (kr key) (v5 (us (List.replicate 5 0)) % pp) b = acc (kr key) 0 b := by
  have e : v5 (us (List.replicate 5 0)) = 0 := by decide
  rw [e, Nat.zero_mod]
 have := zwc (N := N) (step := fun y => zq68_s2 N y.1.1 y.1.2.1 y.2.1 y.2.2.1) (J := fun (e : (((List UInt8) × Unit) × ((List UInt64) × Unit))) => zq68_3 N e.1.1 e.2.1)
  (I := fun y => y.1.1 = key ∧ y.2.1 = r ∧ Le 67108868 (us y.2.2.1) ∧ y.1.2.1.length ≤ 9223372036854775807 ∧ acc (kr key) (v5 (us y.2.2.1) % pp) y.1.2.1 = acc (kr key) 0 b) (μ := fun y => y.1.2.1.length)
  (T := fun x => x = ((true, ()), (tag key b, ()))) ?_
  (x := ((key, b, ()), (r, List.replicate 5 0, ()))) ⟨rfl, rfl, ⟨rfl, fun i hi => by
   rcases (by omega : i = 0 ∨ i = 1 ∨ i = 2 ∨ i = 3 ∨ i = 4) with rfl | rfl | rfl | rfl | rfl <;> exact Nat.zero_le _⟩, hb, hz⟩ (by simp only; omega)
 ·obtain ⟨x, h1, rfl⟩ := this
  exact h1
 ·rintro ⟨⟨key', l, _⟩, ⟨r', v, _⟩⟩ ⟨h1, h2, h3, h4, h5⟩
  simp only at h1 h2 h3 h4 h5
  subst h1; subst h2
  show ∃ o, zq68_s2 N key' l r' v = some o ∧ _
  unfold zq68_s2
  by_cases hl : l = []
  ·subst hl
   simp (disch := omega) only [dpos, dneg, w64_of, inR_of, zw3, zw4, cond_true, cond_false, Bool.and_self, Bool.and_true, Bool.true_and, Bool.and_false, Bool.false_and, Bool.not_true, Bool.not_false, Option.bind_some, List.length_cons, List.length_nil, Nat.zero_add]
   refine ⟨_, rfl, _, ?_, rfl⟩
   show zq68_3 N key' v = _
   unfold zq68_3
   obtain ⟨w, e1, w1, w2⟩ := zwj7 N hN h3
   simp (disch := omega) only [dpos, dneg, w64_of, inR_of, zw3, zw4, cond_true, cond_false, Bool.and_self, Bool.and_true, Bool.true_and, Bool.and_false, Bool.false_and, Bool.not_true, Bool.not_false, Option.bind_some, List.length_cons, List.length_nil, Nat.zero_add, e1, hc2, es]
   rw [zwjc N hN w1 sl, w2, sv, zwj2] at *
   rw [h5]
   rfl
  ·have hp : 0 < l.length := List.length_pos_iff.2 hl
   have hx : (bif decide ((l.length : Int) < 16) then (l.length : Int) else 16) = ((min 16 l.length : Nat) : Int) := by
    by_cases h : (l.length : Int) < 16
    ·rw [dpos h, cond_true]; omega
    ·rw [dneg h, cond_false]; omega
   have hcut : cut l 0 (min 16 l.length) = l.take 16 := by
    unfold cut
    rw [List.drop_zero]
    by_cases h : l.length ≤ 16
    ·rw [Nat.min_eq_right h, List.take_of_length_le h, List.take_of_length_le (Nat.le_refl _)]
    ·rw [Nat.min_eq_left (by omega)]
   have hcut2 : cut l (min 16 l.length) l.length = l.drop 16 := by
    unfold cut
    rw [List.take_of_length_le (Nat.le_refl _)]
    by_cases h : l.length ≤ 16
    ·rw [Nat.min_eq_right h, List.drop_of_length_le h, List.drop_of_length_le (Nat.le_refl _)]
    ·rw [Nat.min_eq_left (by omega)]
   have htl : (l.take 16).length ≤ 16 := by simp; omega
   have hnl : (l.take 16 ++ [1]).length ≤ 17 := by simp; omega
   obtain ⟨p, ep, p1, p2⟩ := zw5w N (b := l.take 16 ++ [1]) hnl (fun h => by
    have : (l.take 16).length = 16 := by simp at h; simp; omega
    rw [List.getD, List.getElem?_append_right (by omega), this]
    decide) hN
   obtain ⟨v1, e1, a1, a2⟩ := add_ok N hN h3 p1
   obtain ⟨v2, e2, b1, b2⟩ := mul_ok N hN a1 (rl.mono (by decide))
   simp (disch := omega) only [dpos, dneg, w64_of, inR_of, zw3, zw4, cond_true, cond_false, Bool.and_self, Bool.and_true, Bool.true_and, Bool.and_false, Bool.false_and, Bool.not_true, Bool.not_false, Option.bind_some, List.length_cons, List.length_nil, Nat.zero_add, hx, Int.toNat_natCast, hcut, hcut2, ep, e1, e2]
   refine ⟨_, rfl, ⟨rfl, rfl, b1, by simp; omega, ?_⟩, by simp; omega⟩
   simp only
   rw [← h5, zwj3 _ _ hl]
   congr 1
   have hn : ns (l.take 16 ++ [1]) = (l.take 16).map UInt8.toNat ++ [1] := by simp [ns]
   rw [b2, Nat.mul_mod, a2, p2, rv, hn, ← Nat.mul_mod, Nat.mul_mod (v5 (us v) % pp + _), Nat.mod_add_mod, ← Nat.mul_mod]
   rfl
end
end Go.Proofs.YtajpblfinenmjaaGreatDoor.Pl

namespace Go.Proofs.YtajpblfinenmjaaGreatDoor.Pl
open Go Poly
noncomputable section
def rcg (u : UInt32) : List UInt32 → List UInt32 × UInt32
 | [] => ([], u)
 | [x] => ([(u + x) &&& 3], 5 * shr32 (u + x) 2)
 | x :: y :: l => (((u + x) &&& 255) :: (rcg (shr32 (u + x) 8) (y :: l)).1, (rcg (shr32 (u + x) 8) (y :: l)).2)
def rc (l : List UInt32) : List UInt32 := match rcg 0 l with
 | (x :: t, u) => (x + u) :: t
 | ([], _) => []
def tm (a b : List UInt32) (i j : Nat) : UInt32 := if j ≤ i then a.getD j 0 * b.getD ((i : Int) - (j : Int)).toNat 0 else 320 * a.getD j 0 * b.getD ((17 : Int) + (i : Int) - (j : Int)).toNat 0
def uu (a b : List UInt32) (i : Nat) : Nat → UInt32
 | 0 => 0
 | j + 1 => uu a b i j + tm a b i j
def ol (a b : List UInt32) : Nat → List UInt32
 | 0 => List.replicate 17 0
 | i + 1 => (ol a b i).set i (uu a b i 17)
end
end Go.Proofs.YtajpblfinenmjaaGreatDoor.Pl

namespace Go.Proofs.YtajpblfinenmjaaGreatDoor.Pl
open Go Poly
def cc (A S : Nat) : Nat → Nat
 | 0 => 0
 | i + 1 => (A % 256 ^ (i + 1) + S % 256 ^ (i + 1)) / 256 ^ (i + 1)
end Go.Proofs.YtajpblfinenmjaaGreatDoor.Pl

namespace Go.Proofs.YtajpblfinenmjaaGreatDoor.Pl
open Go Poly
noncomputable section
def gl (V : Nat) : Nat → List UInt32
 | 0 => List.replicate 17 0
 | i + 1 => (gl V i).set i (UInt32.ofNat ((V + 5) / 256 ^ i % 256))
end
end Go.Proofs.YtajpblfinenmjaaGreatDoor.Pl

namespace Go.Proofs.YtajpblfinenmjaaGreatDoor.Pl
open Go Poly
noncomputable section
def keyed (k n : List UInt8) : Bool := decide (k.length = 32) && decide (n.length = 12)
theorem zw5x (N : Nat) (k n : List UInt8) : zq89 N k n = some ((keyed k n, ()), ()) := by
 unfold zq89 keyed
 by_cases h1 : k.length = 32
 ·by_cases h2 : n.length = 12 <;> simp (disch := omega) only [dpos, dneg, w64_of, inR_of, zw3, zw4, cond_true, cond_false, Bool.and_self, Bool.and_true, Bool.true_and, Bool.and_false, Bool.false_and, Bool.not_true, Bool.not_false, Option.bind_some, List.length_cons, List.length_nil, Nat.zero_add]
 ·simp (disch := omega) only [dpos, dneg, w64_of, inR_of, zw3, zw4, cond_true, cond_false, Bool.and_self, Bool.and_true, Bool.true_and, Bool.and_false, Bool.false_and, Bool.not_true, Bool.not_false, Option.bind_some, List.length_cons, List.length_nil, Nat.zero_add]
theorem zw4n {k n : List UInt8} : keyed k n = true ↔ k.length = 32 ∧ n.length = 12 := by simp [keyed]
def zs (n : Nat) : List UInt8 := List.replicate ((16 - n % 16) % 16) 0
theorem zs_len (n : Nat) : (zs n).length < 16 := by simp [zs]; omega
theorem zwac (N : Nat) {b l : List UInt8} (h : l.length + b.length ≤ 35184372088832) : zq83 N b l = some ((), (l ++ b ++ zs b.length, ())) := by
 unfold zq83
 have e : ((16 - (b.length : Int) % 16) % 16).toNat = (16 - b.length % 16) % 16 := by omega
 simp (disch := omega) only [dpos, dneg, w64_of, inR_of, zw3, zw4, cond_true, cond_false, Bool.and_self, Bool.and_true, Bool.true_and, Bool.and_false, Bool.false_and, Bool.not_true, Bool.not_false, Option.bind_some, List.length_cons, List.length_nil, Nat.zero_add, e, List.length_replicate, List.length_append]
 rfl
def le8 (v : UInt64) : List UInt8 := (List.range 8).map fun (i : Nat) => (shr64 v (8 * (i : Int)).toNat).toUInt8
theorem zw5y (v : UInt64) : (le8 v).length = 8 := by simp [le8]
theorem zwjd (v : UInt64) {i : Nat} (h : i < 8) : (le8 v).getD i 0 = (shr64 v (8 * (i : Int)).toNat).toUInt8 := by simp [le8, List.getD, h]
theorem zwad (N : Nat) (hN : 4611686018427387904 ≤ N) (n : Int) {l : List UInt8} (h : l.length ≤ 70368744177664) : zq87 N n l = some ((), (l ++ le8 (iu64 n), ())) := by
 unfold zq87 zq87_1
 have hl := zw5y (iu64 n)
 have h8N : 8 < N := by omega
 have h0 : l ++ (le8 (iu64 n)).take 0 = l := by simp
 have := zwn (step := fun y => zq87_s2 N y.1.1 y.1.2.1 y.2.1) (J := fun (e : ((Unit) × ((List UInt8) × Unit))) => zq87_3 N e.2.1) (fun i : Nat => ((n, (i : Int), ()), (l ++ (le8 (iu64 n)).take i, ()))) (n := 8) ?_ (e := ((), (l ++ le8 (iu64 n), ()))) ?_ h8N
 ·rw [h0] at this
  exact this
 ·intro i hi
  have hti : ((le8 (iu64 n)).take i).length = i := by simp; omega
  show zq87_s2 N n _ _ = _
  unfold zq87_s2
  simp (disch := omega) only [dpos, dneg, w64_of, inR_of, zw3, zw4, cond_true, cond_false, Bool.and_self, Bool.and_true, Bool.true_and, Bool.and_false, Bool.false_and, Bool.not_true, Bool.not_false, Option.bind_some, List.length_cons, List.length_nil, Nat.zero_add, List.length_append, hti, Int.natCast_add, Int.natCast_one]
  rw [zw1k _ 0 (by omega), zwjd _ hi, List.append_assoc]
 ·show zq87_s2 N n _ _ = _
  unfold zq87_s2
  simp (disch := omega) only [dpos, dneg, w64_of, inR_of, zw3, zw4, cond_true, cond_false, Bool.and_self, Bool.and_true, Bool.true_and, Bool.and_false, Bool.false_and, Bool.not_true, Bool.not_false, Option.bind_some, List.length_cons, List.length_nil, Nat.zero_add]
  rw [List.take_of_length_le (by omega)]
def tin (d c : List UInt8) : List UInt8 := d ++ zs d.length ++ c ++ zs c.length ++ le8 (iu64 (d.length : Int)) ++ le8 (iu64 (c.length : Int))
def atag (k n d c : List UInt8) : List UInt8 := tag ((cblk k 0 n).take 32) (tin d c)
theorem zw2z (k n d c : List UInt8) : (atag k n d c).length = 16 := zwjb _ _
theorem zwje {d c : List UInt8} (hd : d.length ≤ 4398046511104) (hc : c.length ≤ 4398046511104) : (tin d c).length ≤ 8796093022308 := by
 have := zs_len d.length; have := zs_len c.length
 unfold tin
 simp only [List.length_append, zw5y]
 omega
section
variable (N : Nat) (hN : 4611686018427387904 ≤ N) {k n d c : List UInt8} (hd : d.length ≤ 4398046511104) (hc : c.length ≤ 4398046511104)
include hN hd hc
theorem tag_ok (hk : k.length = 32) (hn : n.length = 12) : zq116 N k n d c = some ((true, ()), (atag k n d c, ())) := by
 unfold zq116 atag
 have hkd : keyed k n = true := zw4n.2 ⟨hk, hn⟩
 have hcl := zw9n k 0 n
 have hcut : cut (cblk k 0 n) 0 32 = (cblk k 0 n).take 32 := by simp [cut]
 have hz1 := zs_len d.length; have hz2 := zs_len c.length
 have hp1 : zq83 N d [] = some ((), (d ++ zs d.length, ())) := zwac N (l := []) (by simp; omega)
 have hp2 : zq83 N c (d ++ zs d.length) = some ((), (d ++ zs d.length ++ c ++ zs c.length, ())) := zwac N (by simp; omega)
 have h8 := zw5y (iu64 (d.length : Int))
 have hl1 : zq87 N (d.length : Int) (d ++ zs d.length ++ c ++ zs c.length) = some ((), (d ++ zs d.length ++ c ++ zs c.length ++ le8 (iu64 (d.length : Int)), ())) := zwad N hN _ (by simp; omega)
 have hl2 : zq87 N (c.length : Int) (d ++ zs d.length ++ c ++ zs c.length ++ le8 (iu64 (d.length : Int))) = some ((), (tin d c, ())) := zwad N hN _ (by simp; omega)
 have ht : ((cblk k 0 n).take 32).length = 32 := by simp; omega
 have htin := zwje hd hc
 have hs : zq68 N ((cblk k 0 n).take 32) (tin d c) = some ((true, ()), (tag ((cblk k 0 n).take 32) (tin d c), ())) := sum_ok N hN ht (by omega) (by omega)
 simp (disch := omega) only [dpos, dneg, w64_of, inR_of, zw3, zw4, cond_true, cond_false, Bool.and_self, Bool.and_true, Bool.true_and, Bool.and_false, Bool.false_and, Bool.not_true, Bool.not_false, Option.bind_some, List.length_cons, List.length_nil, Nat.zero_add, zw5x, hkd, zw9p, hp1, hp2, hl1, hl2, hcut, hs]
theorem zwjf (hk : k.length = 32) (hn : n.length = 12) : zq106 N k n d c = some ((0, ()), (cx k 1 n c ++ atag k n d (cx k 1 n c), ())) := by
 unfold zq106
 have hkd : keyed k n = true := zw4n.2 ⟨hk, hn⟩
 have hxl := cx_len k 1 n c
 have htl := zw2z k n d (cx k 1 n c)
 simp (disch := omega) only [dpos, dneg, w64_of, inR_of, zw3, zw4, cond_true, cond_false, Bool.and_self, Bool.and_true, Bool.true_and, Bool.and_false, Bool.false_and, Bool.not_true, Bool.not_false, Option.bind_some, List.length_cons, List.length_nil, Nat.zero_add, zw5x, hkd, xor_ok, tag_ok]
end
theorem zwjg (x y : UInt8) : x ||| y = 0 ↔ x = 0 ∧ y = 0 := by
 constructor
 ·intro h
  have h' := congrArg UInt8.toNat h
  rw [UInt8.toNat_or] at h'
  have z : (0 : UInt8).toNat = 0 := rfl
  rw [z] at h'
  have := Nat.left_le_or (n := x.toNat) (m := y.toNat)
  have := Nat.right_le_or (n := x.toNat) (m := y.toNat)
  exact ⟨UInt8.toNat_inj.1 (by rw [z]; omega), UInt8.toNat_inj.1 (by rw [z]; omega)⟩
 ·rintro ⟨rfl, rfl⟩; rfl
theorem zwjh (N : Nat) (hN : 4611686018427387904 ≤ N) {a b : List UInt8} (h : a.length = b.length) (hl : a.length ≤ 1000) : ∃ v, zq47 N a b = some ((v, ()), ()) ∧ (v = 0 ↔ a = b) := by
 unfold zq47 zq47_1
 have := zwc (N := N) (step := fun y => zq47_s2 N y.1.1 y.1.2.1 y.1.2.2.1 y.1.2.2.2.1 y.1.2.2.2.2.1) (J := fun (e : ((UInt8 × Unit) × (Unit))) => zq47_3 N e.1.1)
  (I := fun y => ∃ i : Nat, y = ((a, b, y.1.2.2.1, (a.length : Int), (i : Int), ()), ()) ∧ i ≤ a.length ∧ (y.1.2.2.1 = 0 ↔ a.take i = b.take i)) (μ := fun y => ((a.length : Int) - y.1.2.2.2.2.1).toNat) (T := fun r => ∃ v, r = ((v, ()), ()) ∧ (v = 0 ↔ a = b)) ?_
  (x := ((a, b, 0, (a.length : Int), 0, ()), ())) ⟨0, rfl, by omega, by simp⟩ (by simp only; omega)
 ·obtain ⟨r, h1, v, rfl, h2⟩ := this
  exact ⟨v, h1, h2⟩
 ·rintro ⟨⟨a', b', v, n, j, _⟩, _⟩ ⟨i, e, hi, hv⟩
  simp only [Prod.mk.injEq] at e
  obtain ⟨⟨rfl, rfl, _, rfl, rfl, _⟩, _⟩ := e
  simp only at hv ⊢
  show ∃ o, zq47_s2 N a' b' v (a'.length : Int) (i : Int) = some o ∧ _
  unfold zq47_s2
  by_cases hlt : i < a'.length
  ·simp (disch := omega) only [dpos, dneg, w64_of, inR_of, zw3, zw4, cond_true, cond_false, Bool.and_self, Bool.and_true, Bool.true_and, Bool.and_false, Bool.false_and, Bool.not_true, Bool.not_false, Option.bind_some, List.length_cons, List.length_nil, Nat.zero_add, Int.toNat_natCast]
   refine ⟨_, rfl, ⟨i + 1, rfl, by omega, ?_⟩, by simp only; omega⟩
   simp only
   rw [zwjg, hv, zw1k a' 0 hlt, zw1k b' 0 (by omega)]
   have hx : (a'.getD i 0 ^^^ b'.getD i 0 = 0) ↔ a'.getD i 0 = b'.getD i 0 := by
    constructor
    ·intro e
     have := congrArg (· ^^^ b'.getD i 0) e
     simpa [UInt8.xor_assoc] using this
    ·intro e; rw [e]; exact UInt8.xor_self
   rw [hx]
   constructor
   ·rintro ⟨e1, e2⟩; rw [e1, e2]
   ·intro e
    have := List.append_inj e (by simp; omega)
    exact ⟨this.1, by simpa using this.2⟩
  ·have : i = a'.length := by omega
   subst this
   simp (disch := omega) only [dpos, dneg, w64_of, inR_of, zw3, zw4, cond_true, cond_false, Bool.and_self, Bool.and_true, Bool.true_and, Bool.and_false, Bool.false_and, Bool.not_true, Bool.not_false, Option.bind_some, List.length_cons, List.length_nil, Nat.zero_add]
   refine ⟨_, rfl, _, rfl, v, rfl, ?_⟩
   rw [hv, List.take_length, List.take_of_length_le (by omega)]
def aopen (k n d s : List UInt8) : List UInt8 × Int :=
 if keyed k n = false then ([], 13) else if s.length < 16 then ([], 1) else
  if atag k n d (s.take (s.length - 16)) = s.drop (s.length - 16) then (cx k 1 n (s.take (s.length - 16)), 0) else ([], 12)
section
variable (N : Nat) (hN : 4611686018427387904 ≤ N) {k n d s : List UInt8} (hd : d.length ≤ 4398046511104) (hs : s.length ≤ 4398046511104)
include hN hd hs
theorem zwji : zq110 N k n d s = some (((aopen k n d s).2, ()), ((aopen k n d s).1, ())) := by
 unfold zq110 aopen
 rw [zw5x]
 by_cases hk : keyed k n = false
 ·rw [hk]; simp only [dpos, dneg, w64_of, inR_of, zw3, zw4, cond_true, cond_false, Bool.and_self, Bool.and_true, Bool.true_and, Bool.and_false, Bool.false_and, Bool.not_true, Bool.not_false, Option.bind_some, List.length_cons, List.length_nil, Nat.zero_add, if_true]
 ·have hk' : keyed k n = true := by simpa using hk
  obtain ⟨h1, h2⟩ := zw4n.1 hk'
  rw [hk', if_neg (by decide)]
  by_cases h16 : s.length < 16
  ·simp (disch := omega) only [dpos, dneg, w64_of, inR_of, zw3, zw4, cond_true, cond_false, Bool.and_self, Bool.and_true, Bool.true_and, Bool.and_false, Bool.false_and, Bool.not_true, Bool.not_false, Option.bind_some, List.length_cons, List.length_nil, Nat.zero_add, if_pos]
  ·have e1 : ((s.length : Int) - 16).toNat = s.length - 16 := by omega
   have c1 : cut s 0 (s.length - 16) = s.take (s.length - 16) := by simp [cut]
   have c2 : cut s (s.length - 16) s.length = s.drop (s.length - 16) := by simp [cut]
   have l1 : (s.take (s.length - 16)).length ≤ 4398046511104 := by simp; omega
   have l2 : (s.drop (s.length - 16)).length = 16 := by simp; omega
   have lt := zw2z k n d (s.take (s.length - 16))
   obtain ⟨v, e2, e3⟩ := zwjh N hN (a := atag k n d (s.take (s.length - 16))) (b := s.drop (s.length - 16)) (by omega) (by omega)
   simp (disch := omega) only [dpos, dneg, w64_of, inR_of, zw3, zw4, cond_true, cond_false, Bool.and_self, Bool.and_true, Bool.true_and, Bool.and_false, Bool.false_and, Bool.not_true, Bool.not_false, Option.bind_some, List.length_cons, List.length_nil, Nat.zero_add, e1, c1, c2, tag_ok, e2]
   by_cases hv : v = 0
   ·have := e3.1 hv
    simp (disch := omega) only [dpos, dneg, w64_of, inR_of, zw3, zw4, cond_true, cond_false, Bool.and_self, Bool.and_true, Bool.true_and, Bool.and_false, Bool.false_and, Bool.not_true, Bool.not_false, Option.bind_some, List.length_cons, List.length_nil, Nat.zero_add, hv, decide_true, xor_ok, if_neg h16, if_pos this]
   ·have hne : ¬ (atag k n d (s.take (s.length - 16)) = s.drop (s.length - 16)) := fun e => hv (e3.2 e)
    rw [dneg hv, if_neg h16, if_neg hne]
    simp only [dpos, dneg, w64_of, inR_of, zw3, zw4, cond_true, cond_false, Bool.and_self, Bool.and_true, Bool.true_and, Bool.and_false, Bool.false_and, Bool.not_true, Bool.not_false, Option.bind_some, List.length_cons, List.length_nil, Nat.zero_add]
end
end
end Go.Proofs.YtajpblfinenmjaaGreatDoor.Pl

namespace Go.Proofs.YtajpblfinenmjaaGreatDoor.Pl
open Go
abbrev RdS : Type := (List UInt8) × ((List TT.den) × Unit)
theorem zwo (N : Nat) (x y : List UInt8) (K : List TT.den) {n : Int} (hn : n = (x.length : Int)) : zq12 N n ((x ++ y, K, ()) : RdS) = some ((x, ()), (((y, K, ()) : RdS), ())) := by
 subst hn
 unfold zq12 zq12_1
 have hl : (x ++ y).length = x.length + y.length := List.length_append
 have e1 : decide (((x ++ y).length : Int) < (x.length : Int)) = false := decide_eq_false (by omega)
 have e2 : decide ((x.length : Int) ≤ ((x ++ y).length : Int)) = true := decide_eq_true (by omega)
 have e3 : decide ((0 : Int) ≤ (x.length : Int)) = true := decide_eq_true (by omega)
 have e4 : decide (0 ≤ (0 : Int)) = true := by decide
 have e5 : decide (((x ++ y).length : Int) ≤ ((x ++ y).length : Int)) = true := decide_eq_true (Int.le_refl _)
 have c1 : cut (x ++ y) 0 (x.length : Int).toNat = x := by simp [cut]
 have c2 : cut (x ++ y) (x.length : Int).toNat (x ++ y).length = y := by
  have ht : (x ++ y).take (x.length + y.length) = x ++ y := List.take_of_length_le (by simp)
  simp [cut, ht]
 simp only [e1, e2, e3, e4, e5, cond_false, cond_true, Bool.and_self, c1, c2]
theorem num_ok (N : Nat) (hN : 8 < N) (v : UInt64) (y : List UInt8) (K : List TT.den) {w : Int} {k : Nat} (hk : w = (k : Int)) (h1 : 1 ≤ k) (h8 : k ≤ 8) (hv : v.toNat < 256 ^ k) :
  zq5 N w ((be v k ++ y, K, ()) : RdS) = some ((v, ()), (((y, K, ()) : RdS), ())) := by
 unfold zq5
 have hl : (be v k).length = k := be_len v k
 rw [zwo N (be v k) y K (by rw [hl, hk]), Option.bind_some]
 have hn := zw5q N (b := be v k) (at_ := 0) (w := w) (by omega) (by omega) (by omega) (by omega) (by omega) hN
 simp only [hn, Option.bind_some]
 have e : (List.drop (0 : Int).toNat (be v k)).take w.toNat = be v k := by
  have : w.toNat = (be v k).length := by omega
  rw [this]; simp
 rw [e, zwg6 h8 v hv]
theorem seq_ok (N : Nat) (hN : 4611686018427387904 ≤ N) {a b : List UInt8} (ha : a.length ≤ 1000000) : zq1 N a b = some ((decide (a = b), ()), ()) := by
 unfold zq1
 by_cases hab : a.length = b.length
 ·have e0 : (!(decide ((a.length : Int) = (b.length : Int)))) = false := by simp [hab]
  rw [e0, cond_false]
  unfold zq1_1
  have hl := zwc (N := N) (step := fun y => zq1_s2 N y.1.1 y.1.2.1 y.1.2.2.1 y.1.2.2.2.1) (J := fun (e : ((Unit) × (Unit))) => zq1_3 N)
   (I := fun y => y.1.1 = a ∧ y.1.2.1 = b ∧ y.1.2.2.1 = (a.length : Int) ∧ 0 ≤ y.1.2.2.2.1 ∧ y.1.2.2.2.1 ≤ (a.length : Int) ∧ a.take y.1.2.2.2.1.toNat = b.take y.1.2.2.2.1.toNat) (μ := fun y => ((a.length : Int) - y.1.2.2.2.1).toNat) (T := fun r => r = ((decide (a = b), ()), ())) ?_
   (x := ((a, b, (a.length : Int), 0, ()), ())) ⟨rfl, rfl, rfl, Int.le_refl _, by simp, by simp⟩ (by simp only; omega)
  ·obtain ⟨r, h1, h2⟩ := hl
   rw [h1, h2]
  ·rintro ⟨⟨a', b', m, i, ⟨⟩⟩, ⟨⟩⟩ ⟨h1, h2, h2', h3, h4, h5⟩
   simp only at h1 h2 h2' h3 h4 h5
   subst h1
   subst h2
   subst h2'
   simp only [zq1_s2]
   by_cases hlt : i < (a'.length : Int)
   ·have e1 : decide (i < (a'.length : Int)) = true := decide_eq_true hlt
    have e2 : inR i a'.length = true := inR_of h3 hlt
    have e3 : inR i b'.length = true := inR_of h3 (by omega)
    rw [e1, e2, e3]
    simp only [cond_true]
    by_cases hg : a'.getD i.toNat 0 = b'.getD i.toNat 0
    ·have e4 : w64 (i + 1) = i + 1 := w64_of (by omega) (by omega)
     rw [hg, decide_eq_true rfl, e4]
     refine ⟨_, rfl, ⟨rfl, rfl, rfl, by simp only; omega, by simp only; omega, ?_⟩, by simp only; omega⟩
     have e5 : (i + 1).toNat = i.toNat + 1 := by omega
     simp only [e5]
     rw [zw1k a' 0 (by omega), zw1k b' 0 (by omega), h5, hg]
    ·have e4 : decide (a'.getD i.toNat 0 = b'.getD i.toNat 0) = false := decide_eq_false hg
     rw [e4]
     refine ⟨_, rfl, ?_⟩
     have : a' ≠ b' := fun e => hg (by rw [e])
     simp [this]
   ·have e1 : decide (i < (a'.length : Int)) = false := decide_eq_false hlt
    rw [e1]
    refine ⟨_, rfl, _, rfl, ?_⟩
    have h6 : i.toNat = a'.length := by omega
    rw [h6, List.take_length, hab, List.take_length] at h5
    simp [h5]
 ·have e0 : (!(decide ((a.length : Int) = (b.length : Int)))) = true := by simp; omega
  rw [e0, cond_true]
  have : a ≠ b := fun e => hab (by rw [e])
  simp [this]
theorem zw2d {v : Int} (h0 : 0 ≤ v) (h1 : v ≤ 10000000) : ((iu64 v).toNat : Int) = v := by
 have : (iu64 v).toNat = v.toNat := by
  unfold iu64
  simp
  omega
 omega
section
variable (N : Nat) (hN : 4611686018427387904 ≤ N) (hsh : ∀ i j, i ≤ j → j < 15 → zq100 N (shD i j) = some ((true, ()), ()))
include hN hsh
theorem zwjj {v : Int} (h0 : 0 ≤ v) (h1 : v ≤ 10000000) {k : List UInt8} (hk : zq52 N (2, v, [], ()) = some ((), (k, ()))) (y : List UInt8) (K : List TT.den) :
  zq8 N ((be (iu64 v) 8 ++ (k.take 16 ++ y), K, ()) : RdS) = some (((2, v, [], ()), ()), (((y, K, ()) : RdS), ())) := by
 have hg : Gd 1 (.mk 2 v []) := ⟨⟨h0, h1, .inr (.inl ⟨rfl, rfl⟩)⟩, by simp [args], fun a ha => by simp [args] at ha⟩
 obtain ⟨k', hs, hl⟩ := zw3p N hN hsh (e := 1) (by omega) hg
 have hs' : zq39 N ((2 : Int), v, ([] : List Tree), ()) = some ((0, ()), (k', ())) := hs
 have hkk : k' = k := by
  unfold zq52 at hk
  rw [hs'] at hk
  simp only [Option.bind_some, decide_true, Bool.not_true, cond_false, Option.some.injEq, Prod.mk.injEq, true_and, and_true] at hk
  exact hk
 subst hkk
 have hv := zw2d h0 h1
 have hlt : (iu64 v).toNat < 256 ^ 8 := (iu64 v).toNat_lt
 have ew : w64 ((iu64 v).toNat : Int) = v := by rw [hv]; exact w64_of (by omega) (by omega)
 unfold zq8
 rw [num_ok N (by omega) (iu64 v) _ K (k := 8) (by rfl) (by omega) (by omega) hlt]
 simp only [Option.bind_some, ew]
 rw [zwo N (k'.take 16) y K (by rw [List.length_take]; omega)]
 have e0 : decide (0 ≤ (0 : Int)) = true := by decide
 have e1 : decide ((0 : Int) ≤ (16 : Int)) = true := by decide
 have e2 : decide ((16 : Int) ≤ (k'.length : Int)) = true := decide_eq_true (by omega)
 have ec : cut k' 0 16 = k'.take 16 := by simp [cut]
 simp only [Option.bind_some, hs', decide_true, Bool.not_true, cond_false, e0, e1, e2, Bool.and_self, cond_true, ec]
 rw [seq_ok N hN (by rw [List.length_take]; omega)]
 simp only [Option.bind_some, decide_true, Bool.not_true]
 rfl
end
end Go.Proofs.YtajpblfinenmjaaGreatDoor.Pl

namespace Go.Proofs.YtajpblfinenmjaaGreatDoor.Pl
open Go
def wlo (o : Int) (c : List Nat) : Nat := if o = 1 then 9 else if o = 2 then 25 else if o = 3 then 3 + (c.map (2 + ·)).sum else if o = 4 then 17 else if o = 7 then 37 + c.getD 1 0 else if o = 8 then 43 + c.getD 0 0 else 33
mutual
def wl : Tree → Nat
 | .mk o _ l => wlo o (wll l)
def wll : List Tree → List Nat
 | [] => []
 | t :: l => wl t :: wll l
end
theorem zw5z (l : List Tree) : wll l = l.map wl := by
 induction l with
 | nil => rfl
 | cons t l ih => simp only [wll, List.map_cons, ih]
def LB : Nat → Nat
 | 0 => 17
 | e + 1 => 3 + bdn e * (2 + LB e)
theorem LB_ge (e : Nat) : 17 ≤ LB e := by
 induction e with
 | zero => decide
 | succ e ih =>
  have := Nat.mul_le_mul_right (2 + LB e) (bdn_ge e)
  simp only [LB]; omega
theorem sum_le {l : List Nat} {k : Nat} (h : ∀ x ∈ l, x ≤ k) : l.sum ≤ l.length * k := by
 induction l with
 | nil => simp
 | cons x l ih =>
  have h1 := h x (by simp)
  have h2 := ih fun y hy => h y (by simp [hy])
  simp only [List.sum_cons, List.length_cons, Nat.succ_mul]
  omega
theorem wl_le : ∀ {e : Nat} {t : Tree}, Gd e t → wl t ≤ LB e
 | 0, _, h => h.elim
 | e + 1, .mk o v l, h => by
  obtain ⟨h1, h2, h3⟩ := h
  have h2' : l.length ≤ bdn e := h2
  have hbd := Nat.mul_le_mul_right (2 + LB e) (bdn_ge e)
  have h3' : ∀ a ∈ l, wl a ≤ LB e := fun a ha => wl_le (h3 a ha)
  have hb := LB_ge e
  show wlo o (wll l) ≤ 3 + bdn e * (2 + LB e)
  rw [zw5z]
  obtain ⟨_, _, h⟩ := h1
  rcases h with ⟨rfl, rfl⟩ | ⟨rfl, rfl⟩ | ⟨rfl, rfl⟩ | ⟨rfl, rfl⟩ | rfl | ⟨rfl, rfl, i, hi, rfl⟩ | ⟨rfl, a, rfl⟩ | ⟨rfl, rfl, i, j, hij, hj, rfl⟩ | ⟨rfl, rfl, a, b, rfl⟩
  ·show 9 ≤ _; omega
  ·show 25 ≤ _; omega
  ·show 33 ≤ _; omega
  ·show 3 + ((l.map wl).map (2 + ·)).sum ≤ _
   have := sum_le (l := (l.map wl).map (2 + ·)) (k := 2 + LB e) (by
    intro x hx
    simp only [List.map_map, List.mem_map, Function.comp] at hx
    obtain ⟨a, ha, rfl⟩ := hx
    have := h3' a ha
    omega)
   simp only [List.length_map] at this
   have := Nat.mul_le_mul_right (2 + LB e) h2'
   omega
  ·show 33 ≤ _; omega
  ·show 17 ≤ _; omega
  ·show 43 + wl a ≤ _
   have := h3' a (by simp)
   omega
  ·show 33 ≤ _; omega
  ·show 37 + wl b ≤ _
   have := h3' b (by simp)
   omega
def lsb (B : List (List UInt8)) : List UInt8 := (B.map fun b => be (iu64 (b.length : Int)) 2 ++ b).flatten
theorem zwae (b : List UInt8) (B : List (List UInt8)) : lsb (b :: B) = be (iu64 (b.length : Int)) 2 ++ b ++ lsb B := by simp [lsb]
theorem zwaf (b : List UInt8) (B : List (List UInt8)) : lsb (B ++ [b]) = lsb B ++ (be (iu64 (b.length : Int)) 2 ++ b) := by simp [lsb]
section
variable (N : Nat) (hN : 4611686018427387904 ≤ N)
include hN
theorem f1_b (x : TT.den) {b : List UInt8} (hb : b.length ≤ 10000) : zq18 N x b = some ((), (b ++ be (iu64 x.2.1) 8, ())) := by
 unfold zq18
 rw [zw14 N (by omega) (by omega) (by omega) (by omega)]
 rfl
omit hN in
theorem f2_b {x : TT.den} {k : List UInt8} (h1 : zq52 N x = some ((), (k, ()))) (h2 : k.length = 32) {b : List UInt8} (hb : b.length ≤ 10000) : zq17 N x b = some ((), (b ++ k, ())) := by
 unfold zq17
 have er : room (b.length + k.length) 1 = true := zw3 (by omega)
 simp only [h1, Option.bind_some, er, cond_true]
theorem zwjk {x : TT.den} {k : List UInt8} (h1 : zq52 N x = some ((), (k, ()))) (h2 : k.length = 32) {b : List UInt8} (hb : b.length ≤ 10000) : nameW N x b = some ((), (b ++ be (iu64 x.2.1) 8 ++ k.take 16, ())) := by
 have hl : (b ++ be (iu64 x.2.1) 8).length ≤ 100000 := by rw [List.length_append, be_len]; omega
 unfold nameW
 simp only [h1, f1_b N hN x hb, Option.bind_some, Nat.ble_eq_true_of_le (show 16 ≤ k.length by omega), Nat.ble_eq_true_of_le hl, cond_true]
theorem zwjl {i : Nat} {x : UInt64} (hx' : zq28 N (nmD i) = some ((x, ()), ())) {b : List UInt8} (hb : b.length ≤ 10000) : zq11 N (4, 0, [mkT (nmD i)], ()) b = some ((), (b ++ be (iu64 (nmD i).2.1) 8 ++ be x 8, ())) := by
 obtain ⟨v, hv⟩ : ∃ v, v = (nmD i).2.1 := ⟨_, rfl⟩
 have p1 := zw14 N (v := iu64 v) (w := 8) (b := b) (by omega) (by omega) (by omega) (by omega)
 have p2 := zw14 N (v := x) (w := 8) (b := b ++ be (iu64 v) (8 : Int).toNat) (by omega) (by omega) (by rw [List.length_append, be_len]; have : (8 : Int).toNat = 8 := rfl; omega) (by omega)
 have e1 : (List.map Tree.un [mkT (nmD i)]) = [nmD i] := rfl
 have e2 : inR (0 : Int) [nmD i].length = true := rfl
 have e3 : ∀ z : TT.den, [nmD i].getD 0 z = nmD i := fun z => rfl
 have e4 : decide ((nmD i).1 = (2 : Int)) = true := rfl
 unfold zq11
 simp only [e1, e2, e3, e4, cond_true, ← hv]
 unfold zq11_1
 simp only [e1, e2, e3, cond_true, p1, p2, hx', Option.bind_some]
 rfl
theorem seal_b {a c : Tree} {k ti : List UInt8} (h1 : zq52 N a.un = some ((), (k, ()))) (h2 : k.length = 32) (h3 : zq43 N k = some ((ti, ()), ())) (h4 : ti.length = 8) {rc : TT.den → Option WrR} {body : List UInt8} (hrc : rc c.un = some ((), (body, ()))) (hbl : body.length ≤ 8192) {b : List UInt8} (hb : b.length ≤ 10000) :
  zq23 N rc (7, 0, [a, c], ()) b = some ((), (b ++ ti ++ cut (hmac k body) 0 12 ++ (cx k 1 (cut (hmac k body) 0 12) body ++ atag k (cut (hmac k body) 0 12) [] (cx k 1 (cut (hmac k body) 0 12) body)), ())) := by
 have hh := zw4k N (k := k) (b := body) (by omega) (by omega) hN
 have hhl := zw2n k body
 have hon : (cut (hmac k body) 0 12).length = 12 := by simp only [cut, List.drop_zero, List.length_take]; omega
 have hs := zwjf N hN (k := k) (n := cut (hmac k body) 0 12) (d := []) (c := body) (by simp) (by omega) h2 hon
 generalize hse : cx k 1 (cut (hmac k body) 0 12) body ++ atag k (cut (hmac k body) 0 12) [] (cx k 1 (cut (hmac k body) 0 12) body) = sealed at hs
 have hsl : sealed.length = body.length + 16 := by rw [← hse, List.length_append, cx_len, zw2z]
 clear hse
 have e1 : (List.map Tree.un [a, c]) = [a.un, c.un] := rfl
 have e2 : inR (0 : Int) [a.un, c.un].length = true := rfl
 have e2' : inR (1 : Int) [a.un, c.un].length = true := rfl
 have e3 : ∀ z : TT.den, [a.un, c.un].getD 0 z = a.un := fun z => rfl
 have e3' : ∀ z : TT.den, [a.un, c.un].getD 1 z = c.un := fun z => rfl
 have c0 : decide (0 ≤ (0 : Int)) = true := by decide
 have c1 : decide ((0 : Int) ≤ (12 : Int)) = true := by decide
 have c2 : decide ((12 : Int) ≤ ((hmac k body).length : Int)) = true := decide_eq_true (by omega)
 have r1 : room (b.length + ti.length) 1 = true := zw3 (by omega)
 have r2 : room ((b ++ ti).length + (cut (hmac k body) 0 12).length) 1 = true := zw3 (by rw [List.length_append]; omega)
 have r3 : room (((b ++ ti) ++ cut (hmac k body) 0 12).length + sealed.length) 1 = true := zw3 (by rw [List.length_append, List.length_append]; omega)
 unfold zq23
 simp only [e1, e2, e2', e3, e3', cond_true, h1, Option.bind_some, hrc, hh, c0, c1, c2, Bool.and_self, hs, decide_true, Bool.not_true, cond_false]
 unfold zq23_1
 simp only [h3, Option.bind_some, r1, r2, r3, cond_true]
theorem sign_b {v : Int} {a : Tree} {k : List UInt8} {rc : TT.den → Option WrR} {body : List UInt8} (hrc : rc a.un = some ((), (body, ()))) (h3 : zq40 N v body = some ((0, ()), (k, ()))) (h4 : k.length = 32) (hbl : body.length ≤ 8192) {b : List UInt8} (hb : b.length ≤ 10000) :
  zq20 N rc (8, v, [a], ()) b = some ((), (b ++ be (iu64 v) 8 ++ be (iu64 (body.length : Int)) 2 ++ body ++ k, ())) := by
 have w8 : (8 : Int).toNat = 8 := rfl
 have w2 : (2 : Int).toNat = 2 := rfl
 have p1 := zw14 N (v := iu64 v) (w := 8) (b := b) (by omega) (by omega) (by omega) (by omega)
 have p2 := zw14 N (v := iu64 (body.length : Int)) (w := 2) (b := b ++ be (iu64 v) (8 : Int).toNat) (by omega) (by omega) (by rw [List.length_append, be_len]; omega) (by omega)
 have l2 : (b ++ be (iu64 v) (8 : Int).toNat ++ be (iu64 (body.length : Int)) (2 : Int).toNat).length = b.length + 10 := by simp only [List.length_append, be_len]; omega
 rw [w8] at p1 p2 l2
 rw [w2] at p2 l2
 generalize b ++ be (iu64 v) 8 ++ be (iu64 (body.length : Int)) 2 = b2 at p2 l2 ⊢
 have r1 : room (b2.length + body.length) 1 = true := zw3 (by omega)
 have r2 : room ((b2 ++ body).length + k.length) 1 = true := zw3 (by rw [List.length_append]; omega)
 have e1 : (List.map Tree.un [a]) = [a.un] := rfl
 have e2 : inR (0 : Int) [a.un].length = true := rfl
 have e3 : ∀ z : TT.den, [a.un].getD 0 z = a.un := fun z => rfl
 unfold zq20
 simp only [e1, e2, e3, cond_true, hrc, Option.bind_some, h3, decide_true, Bool.not_true, cond_false]
 unfold zq20_1
 simp only [p1, p2, r1, r2, Option.bind_some, cond_true]
theorem list_b {l : List Tree} (h4 : l.length ≤ 4) {v : Int} {rc : TT.den → Option WrR} {B : List (List UInt8)} (hB : B.length = l.length) (hrc : ∀ (i : Nat) a, l[i]? = some a → rc a.un = some ((), (B.getD i [], ()))) (hl : ∀ b ∈ B, b.length ≤ 8192) :
  zq21 N rc (3, v, l, ()) [(3 : UInt8)] = some ((), ([(3 : UInt8)] ++ be (iu64 (l.length : Int)) 2 ++ lsb B, ())) := by
 have w2 : (2 : Int).toNat = 2 := rfl
 have hlen : (List.map Tree.un l).length = l.length := List.length_map ..
 have p1 := zw14 N (v := iu64 ((List.map Tree.un l).length : Int)) (w := 2) (b := [(3 : UInt8)]) (by omega) (by omega) (by simp) (by omega)
 rw [w2, hlen] at p1
 have l1 : ([(3 : UInt8)] ++ be (iu64 (l.length : Int)) 2).length = 3 := by simp only [List.length_append, be_len, List.length_cons, List.length_nil]
 generalize [(3 : UInt8)] ++ be (iu64 (l.length : Int)) 2 = b0 at p1 l1 ⊢
 have hsum : ∀ k, k ≤ l.length → (lsb (B.take k)).length ≤ k * 8194 := by
  intro k
  induction k with
  | zero => intro _; simp [lsb]
  | succ k ih =>
   intro hk
   have ih := ih (by omega)
   have hkB : k < B.length := by omega
   have e : B.take (k + 1) = B.take k ++ [B[k]] := by rw [List.take_add_one, List.getElem?_eq_getElem hkB]; rfl
   have := hl B[k] (List.getElem_mem hkB)
   rw [e, zwaf, List.length_append, List.length_append, be_len]
   omega
 unfold zq21
 simp only [hlen, p1, Option.bind_some]
 unfold zq21_1
 have hll := zwc (N := N) (step := fun y => zq21_s2 N rc y.1.1 y.1.2.1 y.1.2.2.1 y.2.1) (J := fun (e : ((Unit) × ((List UInt8) × Unit))) => zq21_3 N rc e.2.1)
  (I := fun y => y.1.1 = List.map Tree.un l ∧ y.1.2.1 = (l.length : Int) ∧ 0 ≤ y.1.2.2.1 ∧ y.1.2.2.1 ≤ (l.length : Int) ∧ y.2.1 = b0 ++ lsb (B.take y.1.2.2.1.toNat)) (μ := fun y => ((l.length : Int) - y.1.2.2.1).toNat)
  (T := fun r => r = ((), (b0 ++ lsb B, ()))) ?_
  (x := ((List.map Tree.un l, (l.length : Int), 0, ()), (b0, ()))) ⟨rfl, rfl, Int.le_refl _, by simp only; omega, by simp [lsb]⟩ (by simp only; omega)
 ·obtain ⟨r, q1, rfl⟩ := hll
  exact q1
 ·rintro ⟨⟨xs, m, i, ⟨⟩⟩, b', ⟨⟩⟩ ⟨g1, g2, g3, g4, g5⟩
  simp only at g1 g2 g3 g4 g5
  subst g1
  subst g2
  simp only [zq21_s2]
  by_cases hlt : i < (l.length : Int)
  ·obtain ⟨a, ha, hai, hg⟩ := zw1s l g3 hlt ((0 : Int), (0 : Int), ([] : List Tree), ())
   have e1 : decide (i < (l.length : Int)) = true := decide_eq_true hlt
   have e2 : inR i (List.map Tree.un l).length = true := inR_of g3 (by rw [hlen]; exact hlt)
   have r1 := hrc i.toNat a hai
   have hiB : i.toNat < B.length := by omega
   have hBi : B.getD i.toNat [] = B[i.toNat] := by simp [List.getD, hiB]
   rw [hBi] at r1
   have hbl := hl B[i.toNat] (List.getElem_mem hiB)
   have hs : B.take (i.toNat + 1) = B.take i.toNat ++ [B[i.toNat]] := by rw [List.take_add_one, List.getElem?_eq_getElem hiB]; rfl
   have hpl := hsum i.toNat (by omega)
   have hbl2 : b'.length ≤ 40000 := by
    rw [g5, List.length_append]
    have : i.toNat ≤ 4 := by omega
    have := Nat.mul_le_mul_right 8194 this
    omega
   have p2 := zw14 N (v := iu64 (B[i.toNat].length : Int)) (w := 2) (b := b') (by omega) (by omega) (by omega) (by omega)
   rw [w2] at p2
   have l2 : (b' ++ be (iu64 (B[i.toNat].length : Int)) 2).length = b'.length + 2 := by rw [List.length_append, be_len]
   have er : room ((b' ++ be (iu64 (B[i.toNat].length : Int)) 2).length + B[i.toNat].length) 1 = true := zw3 (by omega)
   have e4 : w64 (i + 1) = i + 1 := w64_of (by omega) (by omega)
   rw [e1, e2, hg, r1]
   simp only [cond_true, Option.bind_some, p2, er, e4]
   refine ⟨_, rfl, ⟨rfl, rfl, by simp only; omega, by simp only; omega, ?_⟩, by simp only; omega⟩
   have e5 : (i + 1).toNat = i.toNat + 1 := by omega
   simp only [e5]
   rw [hs, zwaf, g5]
   simp only [List.append_assoc]
  ·have e1 : decide (i < (l.length : Int)) = false := decide_eq_false hlt
   rw [e1]
   refine ⟨_, rfl, _, rfl, ?_⟩
   have : i.toNat = B.length := by omega
   rw [this, List.take_length] at g5
   rw [g5]
end
end Go.Proofs.YtajpblfinenmjaaGreatDoor.Pl

namespace Go.Proofs.YtajpblfinenmjaaGreatDoor.Pl
open Go
abbrev RcT : Type := (List UInt8) → (List TT.den) → Option ((TT.den × Unit) × Unit)
section
variable (N : Nat) (hN : 4611686018427387904 ≤ N)
include hN
theorem zwjm {v : Int} (h0 : 0 ≤ v) (h1 : v ≤ 10000000) {x : UInt64} (hx : zq28 N (2, v, [], ()) = some ((x, ()), ())) (hv : zq98 N (2, v, [], ()) = some ((true, ()), ())) (y : List UInt8) (K : List TT.den) :
  zq6 N ((be (iu64 v) 8 ++ (be x 8 ++ y), K, ()) : RdS) = some (((4, 0, [mkT (2, v, [], ())], ()), ()), (((y, K, ()) : RdS), ())) := by
 have hw := zw2d h0 h1
 have ew : w64 ((iu64 v).toNat : Int) = v := by rw [hw]; exact w64_of (by omega) (by omega)
 unfold zq6
 rw [num_ok N (by omega) (iu64 v) _ K (k := 8) (by rfl) (by omega) (by omega) (iu64 v).toNat_lt]
 simp only [Option.bind_some]
 rw [num_ok N (by omega) x y K (k := 8) (by rfl) (by omega) (by omega) x.toNat_lt]
 simp only [Option.bind_some, ew, hx, hv, decide_true, Bool.not_true, cond_false]
 rfl
theorem zwjn {v : Int} (h0 : 0 ≤ v) (h1 : v ≤ 10000000) {body sig : List UInt8} (hb : body.length ≤ 8192) (hs : sig.length = 32) (hg : zq40 N v body = some ((0, ()), (sig, ()))) {rc : RcT} {K : List TT.den} {t : TT.den} (hrc : rc body K = some ((t, ()), ())) (y : List UInt8) :
  zq16 N rc ((be (iu64 v) 8 ++ (be (iu64 (body.length : Int)) 2 ++ (body ++ (sig ++ y))), K, ()) : RdS) = some (((8, v, [mkT t], ()), ()), (((y, K, ()) : RdS), ())) := by
 have hw := zw2d h0 h1
 have ew : w64 ((iu64 v).toNat : Int) = v := by rw [hw]; exact w64_of (by omega) (by omega)
 have hl := zw2d (v := (body.length : Int)) (by omega) (by omega)
 have el : w64 ((iu64 (body.length : Int)).toNat : Int) = (body.length : Int) := by rw [hl]; exact w64_of (by omega) (by omega)
 unfold zq16
 rw [num_ok N (by omega) (iu64 v) _ K (k := 8) (by rfl) (by omega) (by omega) (iu64 v).toNat_lt]
 simp only [Option.bind_some]
 rw [num_ok N (by omega) (iu64 (body.length : Int)) _ K (k := 2) (by rfl) (by omega) (by omega) (by show _ < 65536; omega)]
 simp only [Option.bind_some, el, ew]
 rw [zwo N body _ K rfl]
 simp only [Option.bind_some]
 rw [zwo N sig y K (by omega)]
 simp only [Option.bind_some, hrc, hg, decide_true, Bool.not_true, cond_false]
 rw [seq_ok N hN (by omega)]
 simp only [Option.bind_some, decide_true, Bool.not_true]
 rfl
def NK (N : Nat) (op : Int) (sec : List UInt8) (x : TT.den) : Prop := x.1 ≠ op ∨ ∃ s, zq39 N x = some ((0, ()), (s, ())) ∧ s ≠ sec ∧ s.length ≤ 1000
theorem zwjo {op : Int} {sec : List UInt8} (hs : sec.length = 32) (y : List UInt8) {K : List TT.den} (hK : K.length ≤ 1000000) {p : Nat} {a : TT.den} (hp : K[p]? = some a) (ha : a.1 = op) (hsa : zq39 N a = some ((0, ()), (sec, ()))) (hpre : ∀ j x, j < p → K[j]? = some x → NK N op sec x) :
  zq9 N op ((sec ++ y, K, ()) : RdS) = some ((a, ()), (((y, K, ()) : RdS), ())) := by
 have hpl := (List.getElem?_eq_some_iff.1 hp).1
 unfold zq9
 rw [zwo N sec y K (by omega), Option.bind_some]
 simp only
 unfold zq9_1
 have hl := zwc (N := N) (step := fun y => zq9_s2 N y.1.1 y.1.2.1 y.1.2.2.1 y.1.2.2.2.1 y.1.2.2.2.2.1 y.2.1 y.2.2.1) (J := fun (e : ((Unit) × (RdS × TT.den × Unit))) => zq9_3 N e.2.1 e.2.2.1)
  (I := fun z => z.1.1 = op ∧ z.1.2.1 = sec ∧ z.1.2.2.1 = K ∧ z.1.2.2.2.1 = (K.length : Int) ∧ 0 ≤ z.1.2.2.2.2.1 ∧ z.1.2.2.2.2.1 ≤ (p : Int) ∧ z.2.1 = (y, K, ())) (μ := fun z => ((K.length : Int) - z.1.2.2.2.2.1).toNat) (T := fun r => r = ((a, ()), (((y, K, ()) : RdS), ()))) ?_
  (x := ((op, sec, K, (K.length : Int), 0, ()), ((y, K, ()), ((0 : Int), (0 : Int), ([] : List Tree), ()), ()))) ⟨rfl, rfl, rfl, rfl, Int.le_refl _, by simp only; omega, rfl⟩ (by simp only; omega)
 ·obtain ⟨r, h1, rfl⟩ := hl
  exact h1
 ·rintro ⟨⟨o', s', K', m, i, ⟨⟩⟩, p0, t4, ⟨⟩⟩ ⟨g1, g2, g3, g4, g5, g6, g7⟩
  simp only at g1 g2 g3 g4 g5 g6 g7
  subst g1 g2 g3 g4 g7
  simp only [zq9_s2]
  have hi : i.toNat < K'.length := by omega
  have e1 : decide (i < (K'.length : Int)) = true := decide_eq_true (by omega)
  have e2 : inR i K'.length = true := inR_of g5 (by omega)
  have hx : ∀ z : TT.den, K'.getD i.toNat z = K'[i.toNat] := fun z => by simp [List.getD, hi]
  have e4 : w64 (i + 1) = i + 1 := w64_of (by omega) (by omega)
  rw [e1, e2]
  simp only [cond_true, hx, e4]
  by_cases hip : i.toNat = p
  ·have hxa : K'[i.toNat] = a := by
    have : K'[i.toNat]? = some a := by rw [hip]; exact hp
    rw [List.getElem?_eq_getElem hi] at this
    exact Option.some.inj this
   rw [hxa]
   have e5 : decide (a.1 = o') = true := decide_eq_true ha
   simp only [e5, Bool.not_true, cond_false, hsa, Option.bind_some, decide_true, cond_true]
   rw [seq_ok N hN (by omega)]
   simp only [Option.bind_some, decide_true, cond_true]
   exact ⟨_, rfl, rfl⟩
  ·have hnk := hpre i.toNat _ (by omega) (List.getElem?_eq_getElem hi)
   have hgo : (fun (z : ((Int × (List UInt8) × (List TT.den) × Int × Int × Unit) × (RdS × TT.den × Unit))) => z.1.1 = o' ∧ z.1.2.1 = s' ∧ z.1.2.2.1 = K' ∧ z.1.2.2.2.1 = (K'.length : Int) ∧ 0 ≤ z.1.2.2.2.2.1 ∧ z.1.2.2.2.2.1 ≤ (p : Int) ∧ z.2.1 = (y, K', ())) ((o', s', K', (K'.length : Int), i + 1, ()), ((y, K', ()), t4, ())) :=
    ⟨rfl, rfl, rfl, rfl, by simp only; omega, by simp only; omega, rfl⟩
   rcases hnk with hop | ⟨s, h1, h2, h3⟩
   ·rw [decide_eq_false hop]
    exact ⟨_, rfl, hgo, by simp only; omega⟩
   ·by_cases hop : K'[i.toNat].1 = o'
    ·rw [decide_eq_true hop]
     simp only [Bool.not_true, cond_false, h1, Option.bind_some, decide_true, cond_true]
     rw [seq_ok N hN (by omega)]
     simp only [Option.bind_some, decide_eq_false h2, cond_false]
     exact ⟨_, rfl, hgo, by simp only; omega⟩
    ·rw [decide_eq_false hop]
     exact ⟨_, rfl, hgo, by simp only; omega⟩
theorem zwjp {op : Int} {sec : List UInt8} (hs : sec.length = 32) (y : List UInt8) {K : List TT.den} (hK : K.length ≤ 1000000) (hpre : ∀ x ∈ K, NK N op sec x) :
  zq9 N op ((sec ++ y, K, ()) : RdS) = some (((10, 0, [], ()), ()), (((y, K, ()) : RdS), ())) := by
 unfold zq9
 rw [zwo N sec y K (by omega), Option.bind_some]
 simp only
 unfold zq9_1
 have hl := zwc (N := N) (step := fun y => zq9_s2 N y.1.1 y.1.2.1 y.1.2.2.1 y.1.2.2.2.1 y.1.2.2.2.2.1 y.2.1 y.2.2.1) (J := fun (e : ((Unit) × (RdS × TT.den × Unit))) => zq9_3 N e.2.1 e.2.2.1)
  (I := fun z => z.1.1 = op ∧ z.1.2.1 = sec ∧ z.1.2.2.1 = K ∧ z.1.2.2.2.1 = (K.length : Int) ∧ 0 ≤ z.1.2.2.2.2.1 ∧ z.1.2.2.2.2.1 ≤ (K.length : Int) ∧ z.2.1 = (y, K, ())) (μ := fun z => ((K.length : Int) - z.1.2.2.2.2.1).toNat) (T := fun r => r = (((10, 0, [], ()), ()), (((y, K, ()) : RdS), ()))) ?_
  (x := ((op, sec, K, (K.length : Int), 0, ()), ((y, K, ()), ((0 : Int), (0 : Int), ([] : List Tree), ()), ()))) ⟨rfl, rfl, rfl, rfl, Int.le_refl _, by simp only; omega, rfl⟩ (by simp only; omega)
 ·obtain ⟨r, h1, rfl⟩ := hl
  exact h1
 ·rintro ⟨⟨o', s', K', m, i, ⟨⟩⟩, p0, t4, ⟨⟩⟩ ⟨g1, g2, g3, g4, g5, g6, g7⟩
  simp only at g1 g2 g3 g4 g5 g6 g7
  subst g1 g2 g3 g4 g7
  simp only [zq9_s2]
  by_cases hlt : i < (K'.length : Int)
  ·have hi : i.toNat < K'.length := by omega
   have e1 : decide (i < (K'.length : Int)) = true := decide_eq_true (by omega)
   have e2 : inR i K'.length = true := inR_of g5 (by omega)
   have hx : ∀ z : TT.den, K'.getD i.toNat z = K'[i.toNat] := fun z => by simp [List.getD, hi]
   have e4 : w64 (i + 1) = i + 1 := w64_of (by omega) (by omega)
   rw [e1, e2]
   simp only [cond_true, hx, e4]
   have hnk := hpre _ (List.getElem_mem hi)
   have hgo : (fun (z : ((Int × (List UInt8) × (List TT.den) × Int × Int × Unit) × (RdS × TT.den × Unit))) => z.1.1 = o' ∧ z.1.2.1 = s' ∧ z.1.2.2.1 = K' ∧ z.1.2.2.2.1 = (K'.length : Int) ∧ 0 ≤ z.1.2.2.2.2.1 ∧ z.1.2.2.2.2.1 ≤ (K'.length : Int) ∧ z.2.1 = (y, K', ())) ((o', s', K', (K'.length : Int), i + 1, ()), ((y, K', ()), t4, ())) :=
    ⟨rfl, rfl, rfl, rfl, by simp only; omega, by simp only; omega, rfl⟩
   rcases hnk with hop | ⟨s, h1, h2, h3⟩
   ·rw [decide_eq_false hop]
    exact ⟨_, rfl, hgo, by simp only; omega⟩
   ·by_cases hop : K'[i.toNat].1 = o'
    ·rw [decide_eq_true hop]
     simp only [Bool.not_true, cond_false, h1, Option.bind_some, decide_true, cond_true]
     rw [seq_ok N hN (by omega)]
     simp only [Option.bind_some, decide_eq_false h2, cond_false]
     exact ⟨_, rfl, hgo, by simp only; omega⟩
    ·rw [decide_eq_false hop]
     exact ⟨_, rfl, hgo, by simp only; omega⟩
  ·rw [decide_eq_false hlt]
   exact ⟨_, rfl, _, rfl, rfl⟩
end
end Go.Proofs.YtajpblfinenmjaaGreatDoor.Pl

namespace Go.Proofs.YtajpblfinenmjaaGreatDoor.Pl
open Go
def NT (N : Nat) (ti : List UInt8) (x : TT.den) : Prop := ∃ s tt, zq39 N x = some ((0, ()), (s, ())) ∧ zq43 N s = some ((tt, ()), ()) ∧ tt ≠ ti ∧ tt.length ≤ 1000
section
variable (N : Nat) (hN : 4611686018427387904 ≤ N)
include hN
omit hN in
theorem zwag {rc : RcT} {ti once sealed : List UInt8} (h1 : ti.length = 8) (h2 : once.length = 12) (h3 : 16 ≤ sealed.length) (K : List TT.den) :
  zq15 N rc ((ti ++ (once ++ sealed), K, ()) : RdS) = zq15_2 N rc ti once sealed K (K.length : Int) 0 (([], K, ()) : RdS) ((0 : Int), (0 : Int), ([] : List Tree), ()) := by
 unfold zq15
 rw [zwo N ti _ K (by omega), Option.bind_some]
 simp only
 rw [zwo N once sealed K (by omega), Option.bind_some]
 have e : decide ((sealed.length : Int) < (16 : Int)) = false := decide_eq_false (by omega)
 simp only [e, cond_false]
 unfold zq15_1
 have ht := zwo N sealed [] K (n := (sealed.length : Int)) rfl
 rw [List.append_nil] at ht
 simp only [ht, Option.bind_some]
theorem zwjq {rc : RcT} {ti once sealed k body : List UInt8} (h1 : ti.length = 8) (h2 : once.length = 12) (h3 : 16 ≤ sealed.length) {K : List TT.den} (hK : K.length ≤ 1000000) {p : Nat} {a t : TT.den} (hp : K[p]? = some a) (hsa : zq39 N a = some ((0, ()), (k, ()))) (hti : zq43 N k = some ((ti, ()), ()))
  (hop : zq110 N k once [] sealed = some ((0, ()), (body, ()))) (hrc : rc body K = some ((t, ()), ())) (hpre : ∀ j x, j < p → K[j]? = some x → NT N ti x) :
  zq15 N rc ((ti ++ (once ++ sealed), K, ()) : RdS) = some (((7, 0, [mkT a, mkT t], ()), ()), ((([], K, ()) : RdS), ())) := by
 have hpl := (List.getElem?_eq_some_iff.1 hp).1
 rw [zwag N h1 h2 h3]
 unfold zq15_2
 have hl := zwc (N := N) (step := fun y => zq15_s3 N rc y.1.1 y.1.2.1 y.1.2.2.1 y.1.2.2.2.1 y.1.2.2.2.2.1 y.1.2.2.2.2.2.1 y.2.1 y.2.2.1) (J := fun (e : ((Unit) × (RdS × TT.den × Unit))) => zq15_4 N rc e.2.1 e.2.2.1)
  (I := fun z => z.1.1 = ti ∧ z.1.2.1 = once ∧ z.1.2.2.1 = sealed ∧ z.1.2.2.2.1 = K ∧ z.1.2.2.2.2.1 = (K.length : Int) ∧ 0 ≤ z.1.2.2.2.2.2.1 ∧ z.1.2.2.2.2.2.1 ≤ (p : Int) ∧ z.2.1 = ([], K, ())) (μ := fun z => ((K.length : Int) - z.1.2.2.2.2.2.1).toNat) (T := fun r => r = (((7, 0, [mkT a, mkT t], ()), ()), ((([], K, ()) : RdS), ()))) ?_
  (x := ((ti, once, sealed, K, (K.length : Int), 0, ()), (([], K, ()), ((0 : Int), (0 : Int), ([] : List Tree), ()), ()))) ⟨rfl, rfl, rfl, rfl, rfl, Int.le_refl _, by simp only; omega, rfl⟩ (by simp only; omega)
 ·obtain ⟨r, h1, rfl⟩ := hl
  exact h1
 ·rintro ⟨⟨w', o', s', K', m, i, ⟨⟩⟩, p0, t4, ⟨⟩⟩ ⟨g1, g2, g3, g4, g5, g6, g7, g8⟩
  simp only at g1 g2 g3 g4 g5 g6 g7 g8
  subst g1 g2 g3 g4 g5 g8
  simp only [zq15_s3]
  have hi : i.toNat < K'.length := by omega
  have e1 : decide (i < (K'.length : Int)) = true := decide_eq_true (by omega)
  have e2 : inR i K'.length = true := inR_of g6 (by omega)
  have hx : ∀ z : TT.den, K'.getD i.toNat z = K'[i.toNat] := fun z => by simp [List.getD, hi]
  have e4 : w64 (i + 1) = i + 1 := w64_of (by omega) (by omega)
  rw [e1, e2]
  simp only [cond_true, hx, e4]
  by_cases hip : i.toNat = p
  ·have hxa : K'[i.toNat] = a := by
    have : K'[i.toNat]? = some a := by rw [hip]; exact hp
    rw [List.getElem?_eq_getElem hi] at this
    exact Option.some.inj this
   rw [hxa]
   simp only [hsa, Option.bind_some, decide_true, Bool.not_true, cond_false, hti]
   rw [seq_ok N hN (by omega)]
   simp only [Option.bind_some, decide_true, Bool.not_true, cond_false, hop]
   unfold zq3
   simp only [hrc, Option.bind_some]
   exact ⟨_, rfl, rfl⟩
  ·obtain ⟨s, tt, h1, h2, h3, h4⟩ := hpre i.toNat _ (by omega) (List.getElem?_eq_getElem hi)
   simp only [h1, Option.bind_some, decide_true, Bool.not_true, cond_false, h2]
   rw [seq_ok N hN (by omega)]
   simp only [Option.bind_some, decide_eq_false h3, Bool.not_false, cond_true]
   exact ⟨_, rfl, ⟨rfl, rfl, rfl, rfl, rfl, by simp only; omega, by simp only; omega, rfl⟩, by simp only; omega⟩
theorem zwjr {rc : RcT} {ti once sealed : List UInt8} (h1 : ti.length = 8) (h2 : once.length = 12) (h3 : 16 ≤ sealed.length) {K : List TT.den} (hK : K.length ≤ 1000000) (hpre : ∀ x ∈ K, NT N ti x) :
  zq15 N rc ((ti ++ (once ++ sealed), K, ()) : RdS) = some (((10, 0, [], ()), ()), ((([], K, ()) : RdS), ())) := by
 rw [zwag N h1 h2 h3]
 unfold zq15_2
 have hl := zwc (N := N) (step := fun y => zq15_s3 N rc y.1.1 y.1.2.1 y.1.2.2.1 y.1.2.2.2.1 y.1.2.2.2.2.1 y.1.2.2.2.2.2.1 y.2.1 y.2.2.1) (J := fun (e : ((Unit) × (RdS × TT.den × Unit))) => zq15_4 N rc e.2.1 e.2.2.1)
  (I := fun z => z.1.1 = ti ∧ z.1.2.1 = once ∧ z.1.2.2.1 = sealed ∧ z.1.2.2.2.1 = K ∧ z.1.2.2.2.2.1 = (K.length : Int) ∧ 0 ≤ z.1.2.2.2.2.2.1 ∧ z.1.2.2.2.2.2.1 ≤ (K.length : Int) ∧ z.2.1 = ([], K, ())) (μ := fun z => ((K.length : Int) - z.1.2.2.2.2.2.1).toNat) (T := fun r => r = (((10, 0, [], ()), ()), ((([], K, ()) : RdS), ()))) ?_
  (x := ((ti, once, sealed, K, (K.length : Int), 0, ()), (([], K, ()), ((0 : Int), (0 : Int), ([] : List Tree), ()), ()))) ⟨rfl, rfl, rfl, rfl, rfl, Int.le_refl _, by simp only; omega, rfl⟩ (by simp only; omega)
 ·obtain ⟨r, h1, rfl⟩ := hl
  exact h1
 ·rintro ⟨⟨w', o', s', K', m, i, ⟨⟩⟩, p0, t4, ⟨⟩⟩ ⟨g1, g2, g3, g4, g5, g6, g7, g8⟩
  simp only at g1 g2 g3 g4 g5 g6 g7 g8
  subst g1 g2 g3 g4 g5 g8
  simp only [zq15_s3]
  by_cases hlt : i < (K'.length : Int)
  ·have hi : i.toNat < K'.length := by omega
   have e1 : decide (i < (K'.length : Int)) = true := decide_eq_true (by omega)
   have e2 : inR i K'.length = true := inR_of g6 (by omega)
   have hx : ∀ z : TT.den, K'.getD i.toNat z = K'[i.toNat] := fun z => by simp [List.getD, hi]
   have e4 : w64 (i + 1) = i + 1 := w64_of (by omega) (by omega)
   rw [e1, e2]
   simp only [cond_true, hx, e4]
   obtain ⟨s, tt, h1, h2, h3, h4⟩ := hpre _ (List.getElem_mem hi)
   simp only [h1, Option.bind_some, decide_true, Bool.not_true, cond_false, h2]
   rw [seq_ok N hN (by omega)]
   simp only [Option.bind_some, decide_eq_false h3, Bool.not_false, cond_true]
   exact ⟨_, rfl, ⟨rfl, rfl, rfl, rfl, rfl, by simp only; omega, by simp only; omega, rfl⟩, by simp only; omega⟩
  ·rw [decide_eq_false hlt]
   exact ⟨_, rfl, _, rfl, rfl⟩
theorem zw60 {rc : RcT} {B : List (List UInt8)} {ts : List TT.den} {K : List TT.den} (hB : B.length ≤ 4) (hts : ts.length = B.length) (hb : ∀ b ∈ B, b.length ≤ 8192) (hrc : ∀ (i : Nat) b, B[i]? = some b → ∃ t, ts[i]? = some t ∧ rc b K = some ((t, ()), ())) (y : List UInt8) :
  zq10 N rc ((be (iu64 (B.length : Int)) 2 ++ (lsb B ++ y), K, ()) : RdS) = some (((3, 0, ts.map mkT, ()), ()), (((y, K, ()) : RdS), ())) := by
 have hn : (iu64 (B.length : Int)).toNat = B.length := by have := zw2d (v := (B.length : Int)) (by omega) (by omega); omega
 unfold zq10
 rw [num_ok N (by omega) (iu64 (B.length : Int)) _ K (k := 2) (by rfl) (by omega) (by omega) (by show _ < 65536; omega), Option.bind_some]
 simp only
 unfold zq10_1
 have hl := zwc (N := N) (step := fun y => zq10_s2 N rc y.1.1 y.1.2.1 y.2.1 y.2.2.1 y.2.2.2.1) (J := fun (e : ((Unit) × (RdS × TT.den × (List TT.den) × Unit))) => zq10_3 N rc e.2.1 e.2.2.1 e.2.2.2.1)
  (I := fun z => z.1.1 = iu64 (B.length : Int) ∧ z.1.2.1.toNat ≤ B.length ∧ z.2.1 = (lsb (B.drop z.1.2.1.toNat) ++ y, K, ()) ∧ z.2.2.2.1 = ts.take z.1.2.1.toNat) (μ := fun z => B.length - z.1.2.1.toNat) (T := fun r => r = (((3, 0, ts.map mkT, ()), ()), (((y, K, ()) : RdS), ()))) ?_
  (x := ((iu64 (B.length : Int), (0 : UInt64), ()), ((lsb B ++ y, K, ()), ((0 : Int), (0 : Int), ([] : List Tree), ()), ([] : List TT.den), ()))) ⟨rfl, Nat.zero_le _, rfl, by simp⟩ (by simp only; omega)
 ·obtain ⟨r, h1, rfl⟩ := hl
  exact h1
 ·rintro ⟨⟨m, i, ⟨⟩⟩, p0, t4, l, ⟨⟩⟩ ⟨g1, g2, g3, g4⟩
  simp only at g1 g2 g3 g4
  subst g1 g3 g4
  simp only [zq10_s2]
  by_cases hlt : i.toNat < B.length
  ·have e1 : decide (i < iu64 (B.length : Int)) = true := decide_eq_true (by rw [UInt64.lt_iff_toNat_lt, hn]; exact hlt)
   obtain ⟨t, ht1, ht2⟩ := hrc i.toNat _ (List.getElem?_eq_getElem hlt)
   have hbl := hb _ (List.getElem_mem hlt)
   have hd : B.drop i.toNat = B[i.toNat] :: B.drop (i.toNat + 1) := List.drop_eq_getElem_cons hlt
   have hbn : (iu64 (B[i.toNat].length : Int)).toNat = B[i.toNat].length := by have := zw2d (v := (B[i.toNat].length : Int)) (by omega) (by omega); omega
   have el : w64 ((iu64 (B[i.toNat].length : Int)).toNat : Int) = (B[i.toNat].length : Int) := by rw [hbn]; exact w64_of (by omega) (by omega)
   have hi1 : (i + 1).toNat = i.toNat + 1 := by rw [UInt64.toNat_add]; exact Nat.mod_eq_of_lt (by show i.toNat + 1 < 18446744073709551616; omega)
   rw [e1, hd, zwae, List.append_assoc, List.append_assoc]
   simp only [cond_true]
   rw [num_ok N (by omega) (iu64 (B[i.toNat].length : Int)) _ K (k := 2) (by rfl) (by omega) (by omega) (by show _ < 65536; omega)]
   simp only [Option.bind_some, el]
   rw [zwo N B[i.toNat] _ K rfl]
   simp only [Option.bind_some, ht2]
   have er : room ((ts.take i.toNat).length + ([t] : List TT.den).length) 40 = true := zw3 (by simp only [List.length_take, List.length_cons, List.length_nil]; omega)
   simp only [er, cond_true]
   refine ⟨_, rfl, ⟨rfl, by simp only [hi1]; omega, by simp only [hi1], ?_⟩, by simp only [hi1]; omega⟩
   simp only [hi1]
   rw [List.take_add_one, ht1]
   rfl
  ·have e1 : decide (i < iu64 (B.length : Int)) = false := decide_eq_false (by rw [UInt64.lt_iff_toNat_lt, hn]; exact hlt)
   rw [e1]
   refine ⟨_, rfl, _, rfl, ?_⟩
   have h1 : B.drop i.toNat = [] := List.drop_of_length_le (by omega)
   have h2 : ts.take i.toNat = ts := List.take_of_length_le (by omega)
   simp only [h1, h2]
   rfl
end
end Go.Proofs.YtajpblfinenmjaaGreatDoor.Pl

namespace Go.Proofs.YtajpblfinenmjaaGreatDoor.Pl
open Go
def kzo (o v : Int) (l : List Tree) (c : List (List TT.den)) : List TT.den := if o = 7 then (l.getD 0 (.mk 0 0 [])).un :: c.getD 1 [] else if o = 6 ∨ o = 5 ∨ o = 9 then [(o, v, l, ())] else if o = 3 ∨ o = 8 then c.flatten else []
mutual
def kz : Tree → List TT.den
 | .mk o v l => kzo o v l (kzl l)
def kzl : List Tree → List (List TT.den)
 | [] => []
 | t :: l => kz t :: kzl l
end
theorem zw4o (l : List Tree) : kzl l = l.map kz := by
 induction l with
 | nil => rfl
 | cons t l ih => simp only [kzl, List.map_cons, ih]
def mgo (o v : Int) (l c : List Tree) : Tree := if o = 7 ∨ o = 5 ∨ o = 6 ∨ o = 9 then .mk 10 0 [] else if o = 3 ∨ o = 8 then .mk o v c else .mk o v l
mutual
def mg : Tree → Tree
 | .mk o v l => mgo o v l (mgl l)
def mgl : List Tree → List Tree
 | [] => []
 | t :: l => mg t :: mgl l
end
theorem zwjs (l : List Tree) : mgl l = l.map mg := by
 induction l with
 | nil => rfl
 | cons t l ih => simp only [mgl, List.map_cons, ih]
def FullK (N : Nat) (K : List TT.den) (q : TT.den) : Prop := ∃ k ti, zq39 N q = some ((0, ()), (k, ())) ∧ zq43 N k = some ((ti, ()), ()) ∧
 (∃ p : Nat, K[p]? = some q ∧ ∀ (j : Nat) x, j < p → K[j]? = some x → NT N ti x) ∧ (∃ p : Nat, K[p]? = some q ∧ ∀ (j : Nat) x, j < p → K[j]? = some x → NK N q.1 k x)
def MissK (N : Nat) (K : List TT.den) (q : TT.den) : Prop := ∃ k ti, zq39 N q = some ((0, ()), (k, ())) ∧ zq43 N k = some ((ti, ()), ()) ∧ (∀ x ∈ K, NT N ti x) ∧ (∀ x ∈ K, NK N q.1 k x)
structure RT (N : Nat) (e : Nat) (t : Tree) (b : List UInt8) : Prop where
 len : b.length = wl t
 write : ∀ n, e ≤ n → zwx N n t.un = some ((), (b, ()))
 full : ∀ K : List TT.den, K.length ≤ 1000000 → (∀ q ∈ kz t, FullK N K q) → ∀ m, e ≤ m → zwe N m b K = some ((t.un, ()), ())
 miss : ∀ K : List TT.den, K.length ≤ 1000000 → (∀ q ∈ kz t, MissK N K q) → ∀ m, e ≤ m → zwe N m b K = some (((mg t).un, ()), ())
theorem wr_of {N e : Nat} {x : TT.den} {b : List UInt8} (hl : b.length ≤ 8192) (h : ∀ n, e ≤ n → zw3k N (zwx N n) x = some ((), (b, ()))) : ∀ n, e + 1 ≤ n → zwx N n x = some ((), (b, ())) := by
 intro n hn
 obtain ⟨n, rfl⟩ : ∃ n', n = n' + 1 := ⟨n - 1, by omega⟩
 show writeG N (zwx N n) x = _
 unfold writeG
 rw [h n (by omega), Option.bind_some, Nat.ble_eq_true_of_le hl, cond_true]
theorem rd_of {N e : Nat} {b : List UInt8} {K : List TT.den} {v : TT.den} (h : ∀ m, e ≤ m → zq13 N (zwe N m) ((b, K, ()) : RdS) = some ((v, ()), ((([], K, ()) : RdS), ()))) : ∀ m, e + 1 ≤ m → zwe N m b K = some ((v, ()), ()) := by
 intro n hn
 obtain ⟨n, rfl⟩ : ∃ n', n = n' + 1 := ⟨n - 1, by omega⟩
 show zq49 N (zwe N n) b K = _
 unfold zq49
 rw [h n (by omega), Option.bind_some]
 rfl
section
variable (N : Nat) {rc : RcT} (y : List UInt8) (K : List TT.den)
theorem tm1 : zq13 N rc (([(1 : UInt8)] ++ y, K, ()) : RdS) = Option.bind (zq5 N (8 : Int) ((y, K, ()) : RdS)) fun y5 => some (((1, (w64 (y5.1.1.toNat : Int)), ([] : List Tree), ()), ()), (y5.2.1, ())) := by
 unfold zq13
 rw [zwo N [(1 : UInt8)] y K (n := 1) rfl, Option.bind_some]
 rfl
theorem tm2 : zq13 N rc (([(2 : UInt8)] ++ y, K, ()) : RdS) = Option.bind (zq8 N ((y, K, ()) : RdS)) fun y5 => some ((y5.1.1, ()), (y5.2.1, ())) := by
 unfold zq13
 rw [zwo N [(2 : UInt8)] y K (n := 1) rfl, Option.bind_some]
 rfl
theorem tm3 : zq13 N rc (([(3 : UInt8)] ++ y, K, ()) : RdS) = Option.bind (zq10 N rc ((y, K, ()) : RdS)) fun y5 => some ((y5.1.1, ()), (y5.2.1, ())) := by
 unfold zq13
 rw [zwo N [(3 : UInt8)] y K (n := 1) rfl, Option.bind_some]
 rfl
theorem tm4 : zq13 N rc (([(4 : UInt8)] ++ y, K, ()) : RdS) = Option.bind (zq6 N ((y, K, ()) : RdS)) fun y5 => some ((y5.1.1, ()), (y5.2.1, ())) := by
 unfold zq13
 rw [zwo N [(4 : UInt8)] y K (n := 1) rfl, Option.bind_some]
 rfl
theorem tm8 : zq13 N rc (([(8 : UInt8)] ++ y, K, ()) : RdS) = Option.bind (zq16 N rc ((y, K, ()) : RdS)) fun y5 => some ((y5.1.1, ()), (y5.2.1, ())) := by
 unfold zq13
 rw [zwo N [(8 : UInt8)] y K (n := 1) rfl, Option.bind_some]
 rfl
theorem tm7 : zq13 N rc (([(7 : UInt8)] ++ y, K, ()) : RdS) = Option.bind (zq15 N rc ((y, K, ()) : RdS)) fun y5 => some ((y5.1.1, ()), (y5.2.1, ())) := by
 unfold zq13
 rw [zwo N [(7 : UInt8)] y K (n := 1) rfl, Option.bind_some]
 rfl
theorem tm6 : zq13 N rc (([(6 : UInt8)] ++ y, K, ()) : RdS) = Option.bind (zq9 N 6 ((y, K, ()) : RdS)) fun y5 => some ((y5.1.1, ()), (y5.2.1, ())) := by
 unfold zq13
 rw [zwo N [(6 : UInt8)] y K (n := 1) rfl, Option.bind_some]
 rfl
theorem tm5 : zq13 N rc (([(5 : UInt8)] ++ y, K, ()) : RdS) = Option.bind (zq9 N 5 ((y, K, ()) : RdS)) fun y5 => some ((y5.1.1, ()), (y5.2.1, ())) := by
 unfold zq13
 rw [zwo N [(5 : UInt8)] y K (n := 1) rfl, Option.bind_some]
 rfl
theorem tm9 : zq13 N rc (([(9 : UInt8)] ++ y, K, ()) : RdS) = Option.bind (zq9 N 9 ((y, K, ()) : RdS)) fun y5 => some ((y5.1.1, ()), (y5.2.1, ())) := by
 unfold zq13
 rw [zwo N [(9 : UInt8)] y K (n := 1) rfl, Option.bind_some]
 rfl
end
theorem zwjt (N : Nat) (hN : 4611686018427387904 ≤ N) {k n c : List UInt8} (hk : k.length = 32) (hn : n.length = 12) (hc : c.length ≤ 8192) : zq110 N k n [] (cx k 1 n c ++ atag k n [] (cx k 1 n c)) = some ((0, ()), (c, ())) := by
 have hl : (cx k 1 n c ++ atag k n [] (cx k 1 n c)).length ≤ 4398046511104 := by rw [List.length_append, cx_len, zw2z]; omega
 rw [zwji N hN (k := k) (n := n) (d := []) (s := cx k 1 n c ++ atag k n [] (cx k 1 n c)) (by simp) hl]
 have h1 : keyed k n = true := zw4n.2 ⟨hk, hn⟩
 have hx := cx_len k 1 n c
 have ht := zw2z k n [] (cx k 1 n c)
 have hs : (cx k 1 n c ++ atag k n [] (cx k 1 n c)).length = c.length + 16 := by rw [List.length_append]; omega
 have e1 : (cx k 1 n c ++ atag k n [] (cx k 1 n c)).take ((cx k 1 n c ++ atag k n [] (cx k 1 n c)).length - 16) = cx k 1 n c := by
  rw [hs, show c.length + 16 - 16 = (cx k 1 n c).length by omega]; simp
 have e2 : (cx k 1 n c ++ atag k n [] (cx k 1 n c)).drop ((cx k 1 n c ++ atag k n [] (cx k 1 n c)).length - 16) = atag k n [] (cx k 1 n c) := by
  rw [hs, show c.length + 16 - 16 = (cx k 1 n c).length by omega]; simp
 have ha : aopen k n [] (cx k 1 n c ++ atag k n [] (cx k 1 n c)) = (c, 0) := by
  unfold aopen
  rw [if_neg (by rw [h1]; simp), if_neg (by omega), e1, e2, if_pos rfl, zwgd]
 rw [ha]
end Go.Proofs.YtajpblfinenmjaaGreatDoor.Pl
