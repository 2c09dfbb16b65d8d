/- The ghost machine: an evaluator of the program's text over plain data, and its soundness. -/
import Derived.Test.YtehbbcdhahnkgaaGreatGmRule
import Derived.OrdersIn
import Derived.RangeFuncNested
set_option linter.unusedVariables false
set_option linter.unusedSimpArgs false
namespace Go.Proofs.YtehbbcdhahnkgaaGreat
open Go
def FR (ro : Option Nat) : Fence := { Fence.wide with round := ro }
section
variable {P : Program} {ro : Option Nat} {n : Nat}
theorem callsR {f : FuncId} {args : Array Value} {w : World} {R : Ending → World → Prop} (h : Calls P f args w R) : CallsIn (FR ro) n P f args w R := by
 cases ro with
 | none => exact callsIn_wide.2 h
 | some l => exact CallsIn.inRound l (callsIn_wide.2 h)
def T (ds : List Deferred) (a : Act) : Act := { a with defers := ds }
section
variable {ops : Array Oper} {Q Q2 : Exit → Act → World → Prop} {ds : List Deferred}
end
theorem RepOk.defers {E : Env} {N : Nat} {s : GS} {a : Act} {w : World} (h : RepOk E N s a w) : a.defers = [] := by
 obtain ⟨_, _, _, h, _⟩ := h; exact h.defers
variable {Γ : Ctx} {E : Env} {R : Type} {r : R} {ds : List Deferred}
section
variable {F : Fence}
end
end
end Go.Proofs.YtehbbcdhahnkgaaGreat

namespace Go.Proofs.YtehbbcdhahnkgaaGreat
open Go
def ownB (s : GS) (ob : Nat → Value) (b : Nat) : Prop := ∃ i o, look i s.objs = some o ∧ o.own = true ∧ blk (ob i) = some b
def Env.sub (E : Env) (s : GS) (ob : Nat → Value) (Z : Nat → Prop) (w : World) (ps : List (Nat × Value)) : Env := ⟨w, ownB s ob, Z, ps, E.globs, none⟩
section
variable {P : Program} {Γ : Ctx} {E : Env} {N N' n : Nat} {ro : Option Nat} {U U' : Nat → Prop} {ob ob' : Nat → Value} {Z Z' : Nat → Prop} {s s' : GS} {a a' : Act} {w w' : World} {ps : List (Nat × Value)} {ds : List Deferred}
theorem RepAt.sub (h : RepAt E N U ob Z s a w) (hps : ∀ p ∈ ps, ob p.1 = p.2 ∧ U p.1) : RepAt (E.sub s ob Z w ps) N U ob Z s a w where
 defers := h.defers
 size := h.size
 kept := Kept.refl _ _
 zlt := h.zlt
 z0 := fun b hb _ => .inl hb
 slots := h.slots
 objs := h.objs
 own := fun i o hl ho b hb => ⟨(h.own i o hl ho b hb).1, .inl ⟨i, o, hl, ho, hb⟩⟩
 apart := h.apart
 globs := h.globs
 pins := hps
theorem ownB_env (h : RepAt E N U ob Z s a w) {b : Nat} (hb : ownB s ob b) : E.M b ∨ E.w0.heap.size ≤ b := by
 obtain ⟨i, o, h1, h2, h3⟩ := hb
 exact (h.own i o h1 h2 b h3).2
theorem obj_block (h : RepAt E N U ob Z s a w) {i : Nat} {o : Ob} (hl : look i s.objs = some o) {b : Nat} (hb : blk (ob i) = some b) : ownB s ob b ∨ Z b := by
 cases ho : o.own with
 | true => exact .inl ⟨i, o, hl, ho, hb⟩
 | false => exact .inr ((h.objs i o hl).2.1.block_Z ho b hb)
theorem RepAt.back (h : RepAt E N U ob Z s a w) (h' : RepAt (E.sub s ob Z w ps) N' U' ob' Z' s' a' w') (hps : ∀ p ∈ E.pins, p ∈ ps) : RepAt E N' U' ob' Z' s' a' w' where
 defers := h'.defers
 size := h'.size
 kept := h.kept.trans h'.kept fun b hb => ownB_env h hb
 zlt := h'.zlt
 z0 := fun b hb hl => by
  rcases h'.z0 b hb (Nat.lt_of_lt_of_le hl h.kept.size) with hz | hm
  ·exact h.z0 b hz hl
  ·rcases ownB_env h hm with q | q
   ·exact .inr q
   ·omega
 slots := h'.slots
 objs := h'.objs
 own := fun i o hl ho b hb => ⟨(h'.own i o hl ho b hb).1, by
  rcases (h'.own i o hl ho b hb).2 with q | q
  ·exact ownB_env h q
  ·exact .inr (Nat.le_trans h.kept.size q)⟩
 apart := h'.apart
 globs := h'.globs
 pins := fun p hp => h'.pins p (hps p hp)
theorem RepAt.other (h : RepAt E N U ob Z s a w) {M : Nat → Prop} (hk : Kept M w w') (hE : ∀ b, M b → E.M b ∨ E.w0.heap.size ≤ b) (ho : ∀ b, ownB s ob b → ¬ M b) (hz : ∀ b, Z b → ¬ M b) : RepAt E N U ob Z s a w' :=
 h.world hk hz hE fun i o hl b hb => (obj_block h hl hb).elim (ho b) (hz b)
theorem Kept.put {w : World} {b : Nat} {o : Obj} : Kept (fun k => k = b) w (w.putObj b o) := ⟨rfl, rfl, rfl, by simp, fun k _ hn => World.putObj_heap_other hn⟩
end
theorem cell_lt {w : World} {a : Addr} {v : Value} (h : w.cell? a = some v) : a.block < w.heap.size := by
 rcases Nat.lt_or_ge a.block w.heap.size with hl | hl
 ·exact hl
 ·have : w.heap[a.block]? = none := Array.getElem?_eq_none hl
  simp [World.cell?, this] at h
theorem cell_keep {w w' : World} {a : Addr} {v : Value} (hk : ∀ k, k < w.heap.size → w'.heap[k]? = w.heap[k]?) (h : w.cell? a = some v) : w'.cell? a = some v := by
 have := hk _ (cell_lt h)
 simp only [World.cell?, this]
 exact h
theorem cell_at {w : World} {b k : Nat} {cur : Array Value} {e : Nat} {v : Value} (hb : w.heap[b]? = some (.cells cur e (0, 0))) (hv : cur.toList[k]? = some v) : w.cell? ⟨b, k, none⟩ = some v := by
 have : cur[k]? = some v := by rw [← Array.getElem?_toList]; exact hv
 simp [World.cell?, hb, this]
end Go.Proofs.YtehbbcdhahnkgaaGreat
