/- The ghost machine: a law's arguments. -/
import Derived.Test.YtajpblfinenmjaaDoorGmClose
import Derived.Test.YtajpblfinenmjaaDoorWords
set_option linter.unusedVariables false
set_option linter.unusedSimpArgs false
namespace Go.Proofs.YtajpblfinenmjaaDoor
open Go
section
variable {w : World} {ob : Nat → Value}
theorem sr_bytes {A : Option Addr} {n c : Nat} {l : List UInt8} (hr : Rd w 1 A n (bvs l)) (hn : n ≤ c) (hc : c ≤ maxLen) : SR w (fun b => b < w.heap.size) ob (.data (.sl .u8) l) (.slice A n c) := by
  have hlen : l.length = n := by have := hr.1; simpa [bvs] using this
  subst hlen
  refine ⟨[.slice A l.length c], ⟨A, c, rfl, hn, hc, fun hp => ?_⟩, rfl⟩
  obtain ⟨b, o, hA, hb, hcell⟩ := hr.2 hp
  refine ⟨b, o, l.map fun x => [.int .u8 (x.toNat : Int)], hA, hb, hb, ?_, fun j u hu => hcell j u ?_⟩
  · clear hA hcell hr hn hp
    induction l with
    | nil => trivial
    | cons x l ih => exact ⟨rfl, ih⟩
  · rw [← hu]
    clear hu hA hcell hr hn hp
    induction l generalizing j with
    | nil => rfl
    | cons x l ih => cases j <;> simp_all [bvs]
theorem ext_of {w' : World} (h : Kept (fun _ => False) w w') : Ext w w' := ⟨h.os, h.tape, h.output, h.size, fun k hk => h.block k hk (fun h => h)⟩
end
end Go.Proofs.YtajpblfinenmjaaDoor
