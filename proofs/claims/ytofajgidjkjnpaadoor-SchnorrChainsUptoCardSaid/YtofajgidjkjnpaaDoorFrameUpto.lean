/- How long a list of bytes can be that a narrowed row reads. -/
import Derived.Test.YtofajgidjkjnpaaDoorFrameSized
import Derived.Test.YtofajgidjkjnpaaDoorRows
set_option linter.unusedVariables false
set_option linter.unusedSimpArgs false
namespace Go.Proofs.YtofajgidjkjnpaaDoor
open Go.RowKit Go.ChangeShapes Go.WideShapes
theorem bulk_append {H : Type} : ∀ a b : List (DataW H), Rows.uptoBulkAll (a ++ b) = Rows.uptoBulkAll a + Rows.uptoBulkAll b
  | [], b => by simp [Rows.uptoBulkAll]
  | x :: a, b => by rw [List.cons_append, Rows.uptoBulkAll, Rows.uptoBulkAll, bulk_append a b]; omega
theorem bulk_mem {H : Type} {d : DataW H} : ∀ {l : List (DataW H)}, d ∈ l → Rows.uptoBulk d ≤ Rows.uptoBulkAll l
  | x :: l, h => by
    rw [Rows.uptoBulkAll]
    rcases List.mem_cons.1 h with rfl | h
    · omega
    · have := bulk_mem h; omega
theorem bulk_le {H : Type} {d : DataW H} {ds gs : List (DataW H)} (h : Rows.uptoSmall H (ds ++ gs) = true) (hd : d ∈ ds) : Rows.uptoBulk d ≤ 1048576 := by
  have h1 : Rows.uptoBulkAll (ds ++ gs) ≤ 1048576 := by simpa [Rows.uptoSmall] using h
  have := bulk_mem hd
  rw [bulk_append] at h1
  omega
theorem bulk_lits {H : Type} (k : IntKind) : ∀ l : List Int, Rows.uptoBulkAll (lits (H := H) k l) = l.length
  | [] => by simp [lits, Rows.uptoBulkAll]
  | x :: l => by
    have := bulk_lits (H := H) k l
    simp only [lits, List.map_cons, Rows.uptoBulkAll, Rows.uptoBulk, List.length_cons] at this ⊢
    omega
theorem rd_upto {H : Type} {enc : TypeId × Value → H} {W : World} {base : Nat} {held : Bool} {a : Option Addr} {len cap : Nat} {d : DataW H} {p : List MemPlace}
    (h : DataW.Trod enc Tryd.prog W base (fun _ => true) held 22 (.slice a len cap) d p) (hb : Rows.uptoBulk d ≤ 1048576) : len ≤ 1048576 := by
  obtain ⟨fuel, hf⟩ := h
  rcases open_ints Tryd.underlying22 Tryd.underlying5 (by kernel_rfl) hf with ⟨hcs, _⟩ | ⟨x, l, c, zs, hcs, _, hl, hm, hz, hx, hcell, hwz⟩
  · simp [Value.cells] at hcs
    omega
  · simp [Value.cells] at hcs
    obtain ⟨rfl, rfl, rfl⟩ := hcs
    have hzl : zs.length = cap := by simpa using hz
    simp only [Prod.mk.injEq] at hx
    obtain ⟨rfl, _⟩ := hx
    have e1 := bulk_lits (H := H) .u8 (zs.take len)
    rw [Rows.uptoBulk, e1, List.length_take] at hb
    omega
theorem len_upto {w : World} {A : Option Addr} {n : Nat} {l : List UInt8} (hr : Rd w 1 A n (bvs l)) (h : n ≤ 1048576) : l.length ≤ 1048576 := by
  have : l.length = n := by have := hr.1; simpa [bvs] using this
  omega
end Go.Proofs.YtofajgidjkjnpaaDoor
