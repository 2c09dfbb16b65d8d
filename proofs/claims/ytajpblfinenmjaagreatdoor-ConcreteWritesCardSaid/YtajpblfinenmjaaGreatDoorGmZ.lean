/- The ghost machine: an evaluator of the program's text over plain data, and its soundness. -/
import Derived.Test.YtajpblfinenmjaaGreatDoorGmRule
import Derived.Test.YtajpblfinenmjaaGreatDoorWords
import Derived.Lib.LaidTab
set_option linter.unusedVariables false
set_option linter.unusedSimpArgs false
namespace Go.Proofs.YtajpblfinenmjaaGreatDoor
open Go
theorem zwf4 {P : Program} {f : FuncId} {ks : List SK} {globs : List (Nat × Dt)} {F : (Spec.mk ks []).den → Option (Spec.mk [.val .bool] []).den} (h : Ctr.ok P globs f ⟨⟨ks, []⟩, ⟨[.val .bool], []⟩, 0, F⟩) {w : World} {args : List Value} {x : KsD ks} (hks : args.length = ks.length)
  (hargs : All2 (VR w (fun b => b < w.heap.size) (fun _ => undef)) (stKs id ks x) args) (hids : ∀ g ∈ stKs id ks x, g.ids (fun _ => False))
  (hgl : ∀ g d, look g globs = some d → SR w (fun b => b < w.heap.size) (fun _ => undef) (.fp d.1 d.2) (.pointer (some ⟨g, 0, none⟩))) (hF : F (x, ()) = some ((true, ()), ())) :
  Calls P f args.toArray w fun e w' => e = .returned (.bool true) ∧ Kept (fun _ => False) w w' := by
 let E : Env := { w0 := w, M := fun _ => False, Z0 := fun _ => True, pins := [], globs := globs }
 refine (h.call E (fun _ => undef) (fun b => b < w.heap.size) args (x, ()) ((true, ()), ()) rfl rfl hks ?_ hF).mono ?_
 ·refine { defers := rfl, size := by simp, kept := Kept.refl _ _, zlt := fun b hb => hb, z0 := fun b _ _ => .inl trivial, slots := ?_, objs := ?_, own := ?_, apart := ?_, globs := ?_, pins := ?_ }
  ·intro n g hl
   obtain ⟨i, e1, e2⟩ := zw3b hl
   have hin : i = n := by
    obtain ⟨hi, e⟩ := List.getElem?_eq_some_iff.1 e1
    simpa using e
   subst hin
   obtain ⟨u, e3, e4⟩ := hargs.at_ e2
   exact ⟨(List.getElem?_eq_some_iff.1 e3).1, by simpa [e3] using e4, (hids g (List.mem_of_getElem? e2)).mono fun _ h => h.elim⟩
  ·intro i o hl; simp [Spec.st, stOs, number, look] at hl
  ·intro i o hl; simp [Spec.st, stOs, number, look] at hl
  ·intro i j o o' _ hl; simp [Spec.st, stOs, number, look] at hl
  ·intro g d hl; exact hgl g d hl
  ·intro p hp; simp [E] at hp
 ·rintro e w' ⟨vs, ob', Z', he, hvl, hr⟩
  refine ⟨?_, hr.kept⟩
  have hvl' : vs.length = 1 := hvl
  obtain ⟨v, rfl⟩ := List.length_eq_one_iff.1 hvl'
  obtain ⟨_, q, _⟩ := hr.slots 0 (.sv (.data .bool true)) rfl
  have := SR.bool (ob := ob') q
  rw [he]
  simpa [tupV] using this
end Go.Proofs.YtajpblfinenmjaaGreatDoor

namespace Go.Proofs.YtajpblfinenmjaaGreatDoor
open Go
section
variable {w : World} {ob : Nat → Value}
theorem zwf7 {A : Option Addr} {n c : Nat} {l : List UInt8} (hr : Rd w 1 A n (bvs l)) (hn : n ≤ c) (hc : c ≤ maxLen) : SR w (fun b => b < w.heap.size) ob (.data (.sl .u8) l) (.slice A n c) := by
 have hlen : l.length = n := by have := hr.1; simpa [bvs] using this
 subst hlen
 refine ⟨[.slice A l.length c], ⟨A, c, rfl, hn, hc, fun hp => ?_⟩, rfl⟩
 obtain ⟨b, o, hA, hb, hcell⟩ := hr.2 hp
 refine ⟨b, o, l.map fun x => [.int .u8 (x.toNat : Int)], hA, hb, hb, ?_, fun j u hu => hcell j u ?_⟩
 ·clear hA hcell hr hn hp
  induction l with
  | nil => trivial
  | cons x l ih => exact ⟨rfl, ih⟩
 ·rw [← hu]
  clear hu hA hcell hr hn hp
  induction l generalizing j with
  | nil => rfl
  | cons x l ih => cases j <;> simp_all [bvs]
theorem ext_of {w' : World} (h : Kept (fun _ => False) w w') : Ext w w' := ⟨h.os, h.tape, h.output, h.size, fun k hk => h.block k hk (fun h => h)⟩
end
end Go.Proofs.YtajpblfinenmjaaGreatDoor

namespace Go.Proofs.YtajpblfinenmjaaGreatDoor
open Go
section
variable {w : World} {Z : Nat → Prop} {ob : Nat → Value}
theorem zw8q : ∀ l : List UInt32, All2 (DR w Z .u32) l (l.map fun u => [Value.int .u32 (u.toNat : Int)])
 | [] => trivial
 | _ :: l => ⟨rfl, zw8q l⟩
theorem zw8r : ∀ l : List UInt32, (l.map fun u => [Value.int .u32 (u.toNat : Int)]).flatten = l.map fun u => Value.int .u32 (u.toNat : Int)
 | [] => rfl
 | _ :: l => by simp only [List.map_cons, List.flatten_cons, zw8r l]; rfl
theorem zw8s {n : Nat} {l : List UInt32} (h : l.length = n) : DR w Z (.arr n .u32) l (l.map fun u => Value.int .u32 (u.toNat : Int)) := ⟨h, _, (zw8r l).symm, zw8q l⟩
theorem sr_var {P : Program} {name : String} {g : Nat} {vs : List Value} {t : Ty} {x : t.den} (hg : P.globalNamed name = some g) (hv : w.var? P name = some vs.toArray) (hd : DR w (fun b => b < w.heap.size) t x vs) (hne : 0 < vs.length) :
  SR w (fun b => b < w.heap.size) ob (.fp t x) (.pointer (some ⟨g, 0, none⟩)) := by
 have hc : ∀ j : Nat, w.cell? ⟨g, j, none⟩ = vs[j]? := fun j => by
  have := World.var?_cell hg hv j
  simpa using this
 have hb : g < w.heap.size := World.block_lt_of_cell? w _ ((hc 0).trans (List.getElem?_eq_getElem hne))
 exact ⟨g, 0, vs, rfl, hb, hb, hd, fun j u hu => by rw [Nat.zero_add, hc, hu]⟩
theorem len_of {A : Option Addr} {n c : Nat} {l : List UInt8} (hr : Rd w 1 A n (bvs l)) (hn : n ≤ c) (hc : c ≤ maxLen) : l.length ≤ 9223372036854775807 := by
 have : l.length = n := by have := hr.1; simpa [bvs] using this
 have : maxLen = 9223372036854775807 := rfl
 omega
end
end Go.Proofs.YtajpblfinenmjaaGreatDoor
