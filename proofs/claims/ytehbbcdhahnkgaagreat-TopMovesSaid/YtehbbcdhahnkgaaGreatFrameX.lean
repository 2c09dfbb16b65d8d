/- From a row's reading of an argument to this claim's words. -/
import Derived.Test.YtehbbcdhahnkgaaGreatWords
import Derived.ProofKit
import Derived.OpenShut
set_option linter.unusedVariables false
set_option linter.unusedSimpArgs false
namespace Go.Proofs.YtehbbcdhahnkgaaGreat
open Go.RowKit Go.ChangeShapes Go.WideShapes

theorem byte_of {z : Int} (h : (Lit.int .u8 z).wf = true) : ((UInt8.ofNat z.toNat).toNat : Int) = z := by
 have := bounds_u8 h
 rw [UInt8.toNat_ofNat']
 omega

theorem rd_of_bytes {H : Type} {enc : TypeId × Value → H} {W : World} {base : Nat} {held : Bool} {a : Option Addr} {len cap : Nat} {d : DataW H} {p : List MemPlace}
  (h : DataW.Trod enc Tryz.prog W base (fun _ => true) held 22 (.slice a len cap) d p) : ∃ l : List UInt8, Rd W 1 a len (bvs l) ∧ len ≤ cap ∧ cap ≤ maxLen := by
 obtain ⟨fuel, hf⟩ := h
 rcases open_ints Tryz.underlying22 Tryz.underlying5 (by kernel_rfl) hf with ⟨hcs, _⟩ | ⟨x, l, c, zs, hcs, _, hl, hm, hz, _, hcell, hwz⟩
 ·simp [Value.cells] at hcs
  obtain ⟨rfl, rfl, rfl⟩ := hcs
  exact ⟨[], Rd.nil _ _ _, Nat.le_refl _, by simp [maxLen]⟩
 ·simp [Value.cells] at hcs
  obtain ⟨rfl, rfl, rfl⟩ := hcs
  have hzl : zs.length = cap := by simpa using hz
  refine ⟨(zs.take len).map fun z => UInt8.ofNat z.toNat, ⟨by simp; omega, fun hn => ?_⟩, hl, hm⟩
  obtain ⟨b, o, s⟩ := x
  have h0 := hcell 0 (by omega)
  have hs : s = none := by simpa [Addr.add] using World.cell?_spot h0
  subst hs
  refine ⟨b, o, rfl, World.block_lt_of_cell? W _ (by simpa [Addr.add] using h0), fun j u hu => ?_⟩
  have hj : j < len := by
   have := (List.getElem?_eq_some_iff.1 hu).1
   simp at this
   omega
  have hcj := hcell j (by omega)
  rw [Addr.add_lit] at hcj
  rw [hcj]
  simp only [List.getElem?_map, List.getElem?_take, hj, if_true, List.getElem?_eq_getElem (show j < zs.length by omega), Option.map_some, Option.some.injEq] at hu
  rw [← hu]
  have hw := byte_of (hwz _ (List.getElem_mem (show j < zs.length by omega)))
  simp only [List.getD, List.getElem?_eq_getElem (show j < zs.length by omega), Option.getD_some, bv, hw]
end Go.Proofs.YtehbbcdhahnkgaaGreat
