/- From a row's reading of a list of numbers to the ghost machine's words. -/
import Derived.Test.YtofajgidjkjnpaaDoorFrame
import Derived.Test.YtofajgidjkjnpaaDoorGmWalk
set_option linter.unusedVariables false
set_option linter.unusedSimpArgs false
namespace Go.Proofs.YtofajgidjkjnpaaDoor
open Go
open Go.RowKit Go.ChangeShapes Go.WideShapes
theorem dr_i64s {w : World} {Z : Nat → Prop} : ∀ l : List Int, (∀ z ∈ l, (Lit.int .i64 z).wf = true) → All2 (DR w Z .i64) l (l.map fun u => [Value.int .i64 u])
  | [], _ => trivial
  | z :: l, h => ⟨⟨rfl, (bounds_i64 (h z (by simp))).1, (bounds_i64 (h z (by simp))).2⟩, dr_i64s l fun y hy => h y (by simp [hy])⟩
theorem flat_i64s : ∀ l : List Int, (l.map fun u => [Value.int .i64 u]).flatten = l.map fun u => Value.int .i64 u
  | [] => rfl
  | _ :: l => by simp only [List.map_cons, List.flatten_cons, flat_i64s l]; rfl
theorem sr_of_ints {H : Type} {enc : TypeId × Value → H} {W : World} {base : Nat} {held : Bool} {a : Option Addr} {len cap : Nat} {d : DataW H} {p : List MemPlace}
    (h : DataW.Trod enc Tryd.prog W base (fun _ => true) held 99 (.slice a len cap) d p) :
    ∃ l : List Int, SR W (fun b => b < W.heap.size) (fun _ => undef) (.data (.sl .i64) l) (.slice a len cap) ∧ l.length ≤ 9223372036854775807 := by
  obtain ⟨fuel, hf⟩ := h
  rcases open_ints Tryd.underlying99 Tryd.underlying3 (by kernel_rfl) hf with ⟨hcs, _⟩ | ⟨x, l, c, zs, hcs, _, hl, hm, hz, _, hcell, hwz⟩
  · simp [Value.cells] at hcs
    obtain ⟨rfl, rfl, rfl⟩ := hcs
    exact ⟨[], ⟨_, ⟨none, 0, rfl, Nat.le_refl _, by simp [maxLen], fun hp => absurd hp (by simp)⟩, rfl⟩, by simp⟩
  · simp [Value.cells] at hcs
    obtain ⟨rfl, rfl, rfl⟩ := hcs
    have hzl : zs.length = cap := by simpa using hz
    have htl : (zs.take len).length = len := by simp; omega
    have hmm : maxLen = 9223372036854775807 := rfl
    refine ⟨zs.take len, ⟨[.slice (some x) len cap], ⟨some x, cap, by rw [htl], by rw [htl]; exact hl, hm, fun hp => ?_⟩, rfl⟩, by rw [htl]; omega⟩
    rw [htl] at hp
    obtain ⟨b, o, s⟩ := x
    have h0 := hcell 0 (by omega)
    have hs : s = none := by simpa [Addr.add] using World.cell?_spot h0
    subst hs
    have hb : b < W.heap.size := World.block_lt_of_cell? W _ (by simpa [Addr.add] using h0)
    refine ⟨b, o, (zs.take len).map fun u => [Value.int .i64 u], rfl, hb, hb, dr_i64s _ fun z hz => hwz z (List.mem_of_mem_take hz), fun j u hu => ?_⟩
    rw [flat_i64s] at hu
    have hj : j < len := by
      have := (List.getElem?_eq_some_iff.1 hu).1
      simp at this
      omega
    have hcj := hcell j (by omega)
    rw [Addr.add_lit] at hcj
    rw [hcj]
    simp only [List.getElem?_map, List.getElem?_take, hj, if_true, List.getElem?_eq_getElem (show j < zs.length by omega), Option.map_some, Option.some.injEq] at hu
    rw [← hu]
    simp only [List.getD, List.getElem?_eq_getElem (show j < zs.length by omega), Option.getD_some]
end Go.Proofs.YtofajgidjkjnpaaDoor
