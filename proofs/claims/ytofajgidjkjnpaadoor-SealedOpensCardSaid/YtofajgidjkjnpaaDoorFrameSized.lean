/- How long a list of bytes can be that a row reads. -/
import Derived.Test.YtofajgidjkjnpaaDoorFrame
import Derived.SizedLaws
set_option linter.unusedVariables false
set_option linter.unusedSimpArgs false
namespace Go.Proofs.YtofajgidjkjnpaaDoor
open Go.RowKit Go.ChangeShapes Go.WideShapes
theorem rd_sized {H : Type} {enc : TypeId × Value → H} {W : World} {base : Nat} {held : Bool} {a : Option Addr} {len cap : Nat} {d : DataW H} {p : List MemPlace} {ts : List TypeId} {ds : List (DataW H)} (j : Nat)
    (h : DataW.Trod enc Tryd.prog W base (fun _ => true) held 22 (.slice a len cap) d p) (hs : (DataW.weightsEach Tryd.prog ts ds).all (· ≤ reachBytes) = true) (ht : ts[j]? = some 22) (hd : ds[j]? = some d) : len ≤ 140737488351232 := by
  obtain ⟨fuel, hf⟩ := h
  rcases open_ints Tryd.underlying22 Tryd.underlying5 (by kernel_rfl) hf with ⟨hcs, _⟩ | ⟨x, l, c, zs, hcs, _, hl, hm, hz, hx, hcell, hwz⟩
  · simp [Value.cells] at hcs
    omega
  · simp [Value.cells] at hcs
    obtain ⟨rfl, rfl, rfl⟩ := hcs
    have hzl : zs.length = cap := by simpa using hz
    simp only [Prod.mk.injEq] at hx
    obtain ⟨rfl, _⟩ := hx
    have := sized_slice hs ht hd Tryd.underlying22
    have e1 : (lits (H := H) .u8 (zs.take len)).length = len := by simp [lits]; omega
    have e2 : (lits (H := H) .u8 (zs.drop len)).length = cap - len := by simp [lits]; omega
    rw [e1, e2] at this
    have e3 : Tryd.prog.bytesOf 5 = 1 := by kernel_rfl
    rw [e3] at this
    have e4 : reachBytes = 140737488351232 := rfl
    omega
theorem len_sized {w : World} {A : Option Addr} {n : Nat} {l : List UInt8} (hr : Rd w 1 A n (bvs l)) (h : n ≤ 140737488351232) : l.length ≤ 140737488351232 := by
  have : l.length = n := by have := hr.1; simpa [bvs] using this
  omega
end Go.Proofs.YtofajgidjkjnpaaDoor
