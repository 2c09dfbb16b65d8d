/- From a row's reading of a list of numbers to the ghost machine's words. -/
import Derived.Test.YtajpblfinenmjaaDoorFrame
import Derived.Test.YtajpblfinenmjaaDoorGmWalk
set_option linter.unusedVariables false
set_option linter.unusedSimpArgs false
namespace Go.Proofs.YtajpblfinenmjaaDoor
open Go
open Go.RowKit Go.ChangeShapes Go.WideShapes
theorem dr_i64s {w : World} {Z : Nat → Prop} : ∀ l : List Int, (∀ z ∈ l, (Lit.int .i64 z).wf = true) → All2 (DR w Z .i64) l (l.map fun u => [Value.int .i64 u])
  | [], _ => trivial
  | z :: l, h => ⟨⟨rfl, (bounds_i64 (h z (by simp))).1, (bounds_i64 (h z (by simp))).2⟩, dr_i64s l fun y hy => h y (by simp [hy])⟩
theorem flat_i64s : ∀ l : List Int, (l.map fun u => [Value.int .i64 u]).flatten = l.map fun u => Value.int .i64 u
  | [] => rfl
  | _ :: l => by simp only [List.map_cons, List.flatten_cons, flat_i64s l]; rfl
end Go.Proofs.YtajpblfinenmjaaDoor
