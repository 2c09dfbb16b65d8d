/- The ghost machine: an evaluator of the program's text over plain data, and its soundness. -/
import Derived.Test.YtehbbcdhahnkgaaGreatGmRule
import Derived.OrdersIn
import Derived.RangeFuncNested
set_option linter.unusedVariables false
set_option linter.unusedSimpArgs false
namespace Go.Proofs.YtehbbcdhahnkgaaGreat
open Go
def FR (ro : Option Nat) : Fence := { Fence.wide with round := ro }
section
variable {P : Program} {ro : Option Nat} {n : Nat}
theorem callsR {f : FuncId} {args : Array Value} {w : World} {R : Ending → World → Prop} (h : Calls P f args w R) : CallsIn (FR ro) n P f args w R := by
 cases ro with
 | none => exact callsIn_wide.2 h
 | some l => exact CallsIn.inRound l (callsIn_wide.2 h)
theorem rowsR {row : String} {args : Array Value} {w : World} {R : Value → World → Prop} (h : Rows P row args w R) : RowsIn (FR ro) n P row args w R := by
 intro c cs _
 obtain ⟨v, w', h1, h2⟩ := h c cs
 refine ⟨v, w', h1, ?_⟩
 cases ro with
 | none => exact stepsIn_wide.2 h2
 | some l => exact stepsIn_wide.2 h2
def T (ds : List Deferred) (a : Act) : Act := { a with defers := ds }
theorem T_put (ds : List Deferred) (a : Act) (d : Option Tmp) (v : Value) : (T ds a).put d v = T ds (a.put d v) := by cases d <;> rfl
theorem T_eval (ds : List Deferred) (a : Act) : (T ds a).eval = a.eval := rfl
theorem put_defers (a : Act) (d : Option Tmp) (v : Value) : (a.put d v).defers = a.defers := by cases d <;> rfl
theorem T_self {a : Act} {ds : List Deferred} (h : a.defers = ds) : T ds a = a := by subst h; rfl
structure NoDef (Q : Exit → Act → World → Prop) : Prop where
 defers : ∀ e a w, Q e a w → a.defers = []
 panic : ∀ c a w, ¬ Q (.panic c) a w
 out : ∀ a w, ¬ Q .outgrown a w
theorem calls_returns {f : FuncId} {args : Array Value} {w : World} {R : Ending → World → Prop} (h : Calls P f args w R) : ∃ e w', R e w' := by
 obtain ⟨e, w', _, h, _⟩ := h []
 exact ⟨e, w', h⟩
theorem op_defers {o : Oper} {a : Act} {w : World} {next : Act → World → Prop} {Q : Exit → Act → World → Prop} (hn : ∀ a w, next a w → a.defers = []) (hQ : NoDef Q) (h : o.wp P a w next Q) : a.defers = [] := by
 unfold Oper.wp at h
 generalize (execOp a.eval o).run P w = r at h
 unfold Oper.upon at h
 split at h
 ·have := hn _ _ h; rwa [put_defers] at this
 ·have := hn _ _ h; rwa [put_defers] at this
 ·have := hn _ _ h; rw [put_defers] at this; cases this
 ·obtain ⟨e, w', h⟩ := calls_returns h
  cases e with
  | returned v => have := hn _ _ h; rwa [put_defers] at this
  | panicked c => exact (hQ.panic _ _ _ h).elim
  | outgrown => obtain ⟨a, w, h⟩ := h; exact (hQ.out _ _ h).elim
 ·obtain ⟨v, w', h, _⟩ := h default []
  have := hn _ _ h; rwa [put_defers] at this
 ·exact (hQ.panic _ _ _ h).elim
 ·exact h.elim
def plainOp (o : Oper) : Bool := match o.op with
 | .defer _ => false
 | _ => true
theorem plainOp_ok {o : Oper} (h : plainOp o = true) (c : Call) : o.op ≠ .defer c := by
 intro e; unfold plainOp at h; rw [e] at h; cases h
theorem op_lift {ds : List Deferred} {o : Oper} {a : Act} {w : World} {next next2 : Act → World → Prop} {Q Q2 : Exit → Act → World → Prop} (hp : plainOp o = true) (hn : ∀ a w, next a w → a.defers = []) (hQ : NoDef Q)
  (h2 : ∀ a w, next a w → next2 (T ds a) w) (h : o.wp P a w next Q) : o.wpIn (FR ro) n P (T ds a) w next2 Q2 := by
 refine ⟨fun _ _ => trivial, ?_⟩
 rw [Oper.semAt_eq _ _ _ (plainOp_ok hp), T_eval]
 unfold Oper.wp at h
 generalize (execOp a.eval o).run P w = r at h ⊢
 unfold Oper.upon at h
 split at h
 ·show next2 ((T ds a).put o.dst _) _
  rw [T_put]; exact h2 _ _ h
 ·show next2 ((T ds a).put o.dst _) _
  rw [T_put]; exact h2 _ _ h
 ·have := hn _ _ h; rw [put_defers] at this; cases this
 ·refine ⟨fun h => by simp [FR, Fence.wide] at h, (callsR h).mono ?_⟩
  intro e w' h
  cases e with
  | returned v => show next2 ((T ds a).put o.dst _) _; rw [T_put]; exact h2 _ _ h
  | panicked c => exact (hQ.panic _ _ _ h).elim
  | outgrown => obtain ⟨a, w, h⟩ := h; exact (hQ.out _ _ h).elim
 ·refine ⟨fun h => by simp [FR, Fence.wide] at h, (rowsR h).mono ?_⟩
  intro v w' h
  show next2 ((T ds a).put o.dst _) _
  rw [T_put]; exact h2 _ _ h
 ·exact (hQ.panic _ _ _ h).elim
 ·exact h.elim
section
variable {ops : Array Oper} {Q Q2 : Exit → Act → World → Prop} {ds : List Deferred}
theorem wpOp_defers (hQ : NoDef Q) {i : Nat} {K : Act → World → Prop} (hK : ∀ a w, K a w → a.defers = []) {a : Act} {w : World} (h : wpOp P ops Q i K a w) : a.defers = [] := by
 unfold wpOp at h
 split at h
 ·exact hK _ _ h
 ·split at h
  ·rcases h with h | ⟨_, a', w', h⟩
   ·exact op_defers hK hQ h
   ·exact (hQ.out _ _ h).elim
  ·have := hK _ _ h; rwa [put_defers] at this
theorem wpOp_lift (hp : ∀ o ∈ ops.toList, plainOp o = true) (hQ : NoDef Q) {i : Nat} {K K2 : Act → World → Prop} (hK : ∀ a w, K a w → a.defers = []) (h2 : ∀ a w, K a w → K2 (T ds a) w) {a : Act} {w : World} (h : wpOp P ops Q i K a w) : wpOpIn (FR ro) n P ops Q2 i K2 (T ds a) w := by
 unfold wpOp at h
 unfold wpOpIn
 split at h
 ·rename_i hi; simp only [hi]; exact h2 _ _ h
 ·rename_i o hi
  simp only [hi]
  have hpo : plainOp o = true := hp o (by have := Array.mem_of_getElem? hi; simpa using this)
  split at h
  ·rename_i hw
   rw [if_pos (show Region.wanted o (yielded ops (T ds a).tmps) from hw)]
   rcases h with h | ⟨_, a', w', h⟩
   ·exact op_lift hpo hK hQ h2 h
   ·exact (hQ.out _ _ h).elim
  ·rename_i hw
   rw [if_neg (show ¬ Region.wanted o (yielded ops (T ds a).tmps) from hw)]
   refine ⟨fun _ _ => trivial, ?_⟩
   rw [T_put]; exact h2 _ _ h
theorem wpOps_defers (hQ : NoDef Q) : ∀ {l : List Nat} {a : Act} {w : World}, wpOps P ops Q l a w → a.defers = []
 | [], _, _, h => hQ.defers _ _ _ h
 | i :: l, a, w, h => by
  rw [wpOps_cons] at h
  exact wpOp_defers hQ (fun a w h => wpOps_defers hQ h) h
theorem wpOps_lift (hp : ∀ o ∈ ops.toList, plainOp o = true) (hQ : NoDef Q) (h2 : ∀ a w, Q .normal a w → Q2 .normal (T ds a) w) : ∀ {l : List Nat} {a : Act} {w : World}, wpOps P ops Q l a w → wpOpsIn (FR ro) n P ops Q2 l (T ds a) w
 | [], _, _, h => h2 _ _ h
 | i :: l, a, w, h => by
  rw [wpOps_cons] at h
  rw [wpOpsIn_cons]
  exact wpOp_lift hp hQ (fun a w h => wpOps_defers hQ h) (fun a w h => wpOps_lift hp hQ h2 h) h
theorem wpAny_defers (hQ : NoDef Q) {md : Region.Mode} : ∀ {fuel : Nat} {listed : Array Bool} {a : Act} {w : World}, wpAny P md ops Q fuel listed a w → a.defers = []
 | 0, _, _, _, h => hQ.defers _ _ _ h.2
 | fuel + 1, listed, a, w, h => by
  obtain ⟨h0, h1⟩ := h
  cases hr : Region.ready md ops listed with
  | nil => exact hQ.defers _ _ _ (h0 hr)
  | cons i l => exact wpOp_defers hQ (fun a w h => wpAny_defers hQ h) (h1 i (by rw [hr]; simp))
theorem wpAny_lift (hp : ∀ o ∈ ops.toList, plainOp o = true) (hQ : NoDef Q) (h2 : ∀ a w, Q .normal a w → Q2 .normal (T ds a) w) {md : Region.Mode} : ∀ {fuel : Nat} {listed : Array Bool} {a : Act} {w : World}, wpAny P md ops Q fuel listed a w → wpAnyIn (FR ro) n P md ops Q2 fuel listed (T ds a) w
 | 0, _, _, _, h => ⟨h.1, h2 _ _ h.2⟩
 | fuel + 1, listed, a, w, h => by
  obtain ⟨h0, h1⟩ := h
  refine ⟨fun hr => h2 _ _ (h0 hr), fun i hi => ?_⟩
  exact wpOp_lift hp hQ (fun a w h => wpAny_defers hQ h) (fun a w h => wpAny_lift hp hQ h2 h) (h1 i hi)
end
def KOkD {R : Type} (E : Env) (N : Nat) (ds : List Deferred) (K : XE → GS → Option R) (r : R) (Q : Exit → Act → World → Prop) : Prop := ∀ e s a w, RepOk E N s a w → K e s = some r → Q e.out (T ds a) w
theorem RepOk.defers {E : Env} {N : Nat} {s : GS} {a : Act} {w : World} (h : RepOk E N s a w) : a.defers = [] := by
 obtain ⟨_, _, _, h, _⟩ := h; exact h.defers
def plainC : Code → Bool
 | .skip | .exit _ | .ret => true
 | .region _ ops _ => ops.toList.all plainOp
 | .seq x y => plainC x && plainC y
 | .cond _ x y => plainC x && plainC y
 | .block _ c => plainC c
 | _ => false
variable {Γ : Ctx} {E : Env} {R : Type} {r : R} {ds : List Deferred}
section
variable {F : Fence}
end
end
end Go.Proofs.YtehbbcdhahnkgaaGreat

namespace Go.Proofs.YtehbbcdhahnkgaaGreat
open Go
def ownB (s : GS) (ob : Nat → Value) (b : Nat) : Prop := ∃ i o, look i s.objs = some o ∧ o.own = true ∧ blk (ob i) = some b
def Env.sub (E : Env) (s : GS) (ob : Nat → Value) (Z : Nat → Prop) (w : World) (ps : List (Nat × Value)) : Env := ⟨w, ownB s ob, Z, ps, E.globs, none⟩
section
variable {P : Program} {Γ : Ctx} {E : Env} {N N' n : Nat} {ro : Option Nat} {U U' : Nat → Prop} {ob ob' : Nat → Value} {Z Z' : Nat → Prop} {s s' : GS} {a a' : Act} {w w' : World} {ps : List (Nat × Value)} {ds : List Deferred}
theorem RepAt.sub (h : RepAt E N U ob Z s a w) (hps : ∀ p ∈ ps, ob p.1 = p.2 ∧ U p.1) : RepAt (E.sub s ob Z w ps) N U ob Z s a w where
 defers := h.defers
 size := h.size
 kept := Kept.refl _ _
 zlt := h.zlt
 z0 := fun b hb _ => .inl hb
 slots := h.slots
 objs := h.objs
 own := fun i o hl ho b hb => ⟨(h.own i o hl ho b hb).1, .inl ⟨i, o, hl, ho, hb⟩⟩
 apart := h.apart
 globs := h.globs
 pins := hps
theorem ownB_env (h : RepAt E N U ob Z s a w) {b : Nat} (hb : ownB s ob b) : E.M b ∨ E.w0.heap.size ≤ b := by
 obtain ⟨i, o, h1, h2, h3⟩ := hb
 exact (h.own i o h1 h2 b h3).2
theorem obj_block (h : RepAt E N U ob Z s a w) {i : Nat} {o : Ob} (hl : look i s.objs = some o) {b : Nat} (hb : blk (ob i) = some b) : ownB s ob b ∨ Z b := by
 cases ho : o.own with
 | true => exact .inl ⟨i, o, hl, ho, hb⟩
 | false => exact .inr ((h.objs i o hl).2.1.block_Z ho b hb)
theorem RepAt.back (h : RepAt E N U ob Z s a w) (h' : RepAt (E.sub s ob Z w ps) N' U' ob' Z' s' a' w') (hps : ∀ p ∈ E.pins, p ∈ ps) : RepAt E N' U' ob' Z' s' a' w' where
 defers := h'.defers
 size := h'.size
 kept := h.kept.trans h'.kept fun b hb => ownB_env h hb
 zlt := h'.zlt
 z0 := fun b hb hl => by
  rcases h'.z0 b hb (Nat.lt_of_lt_of_le hl h.kept.size) with hz | hm
  ·exact h.z0 b hz hl
  ·rcases ownB_env h hm with q | q
   ·exact .inr q
   ·omega
 slots := h'.slots
 objs := h'.objs
 own := fun i o hl ho b hb => ⟨(h'.own i o hl ho b hb).1, by
  rcases (h'.own i o hl ho b hb).2 with q | q
  ·exact ownB_env h q
  ·exact .inr (Nat.le_trans h.kept.size q)⟩
 apart := h'.apart
 globs := h'.globs
 pins := fun p hp => h'.pins p (hps p hp)
theorem RepAt.other (h : RepAt E N U ob Z s a w) {M : Nat → Prop} (hk : Kept M w w') (hE : ∀ b, M b → E.M b ∨ E.w0.heap.size ≤ b) (ho : ∀ b, ownB s ob b → ¬ M b) (hz : ∀ b, Z b → ¬ M b) : RepAt E N U ob Z s a w' :=
 h.world hk hz hE fun i o hl b hb => (obj_block h hl hb).elim (ho b) (hz b)
theorem Kept.put {w : World} {b : Nat} {o : Obj} : Kept (fun k => k = b) w (w.putObj b o) := ⟨rfl, rfl, rfl, by simp, fun k _ hn => World.putObj_heap_other hn⟩
end
theorem cell_lt {w : World} {a : Addr} {v : Value} (h : w.cell? a = some v) : a.block < w.heap.size := by
 rcases Nat.lt_or_ge a.block w.heap.size with hl | hl
 ·exact hl
 ·have : w.heap[a.block]? = none := Array.getElem?_eq_none hl
  simp [World.cell?, this] at h
theorem cell_keep {w w' : World} {a : Addr} {v : Value} (hk : ∀ k, k < w.heap.size → w'.heap[k]? = w.heap[k]?) (h : w.cell? a = some v) : w'.cell? a = some v := by
 have := hk _ (cell_lt h)
 simp only [World.cell?, this]
 exact h
theorem cell_at {w : World} {b k : Nat} {cur : Array Value} {e : Nat} {v : Value} (hb : w.heap[b]? = some (.cells cur e (0, 0))) (hv : cur.toList[k]? = some v) : w.cell? ⟨b, k, none⟩ = some v := by
 have : cur[k]? = some v := by rw [← Array.getElem?_toList]; exact hv
 simp [World.cell?, hb, this]
end Go.Proofs.YtehbbcdhahnkgaaGreat
