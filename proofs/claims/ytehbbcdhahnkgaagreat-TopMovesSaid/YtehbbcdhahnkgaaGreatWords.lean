/- Words on memory for this claim: a world that has only grown; a slice that reads as a list; append. -/
import Derived.Test.YtehbbcdhahnkgaaGreatBase
import Derived.Maps.AppendAt
import Derived.Deep.AppendLies
import Derived.Deep.Draws
import Derived.Laws.OwnMore
import Derived.Laws.Rows
import Derived.OwnWalk
import Derived.RegionTactic
set_option linter.unusedVariables false
set_option linter.unusedSimpArgs false
namespace Go.Proofs.YtehbbcdhahnkgaaGreat
open Go.RowKit

abbrev bv (x : UInt8) : Value := .int .u8 (x.toNat : Int)
abbrev bvs (l : List UInt8) : List Value := l.map bv

def Ext (w w' : World) : Prop := Below w.heap.size w w'
section
variable {w w' w1 w2 w3 W : World}
theorem Ext.refl (w : World) : Ext w w := Below.refl _ _
theorem Ext.le (h : Ext w w') : w.heap.size ≤ w'.heap.size := h.size
theorem Ext.trans (h : Ext w1 w2) (k : Ext w2 w3) : Ext w1 w3 := Below.trans h (k.mono h.size)
theorem Ext.drew (h : Ext w1 w2) : Ext w1 w2.drew := Below.drew h
theorem Ext.drewN (h : Ext w1 w2) (n : Nat) : Ext w1 (w2.drewN n) := ⟨h.os, h.tape, h.output, h.size, h.block⟩
theorem Ext.alloc (h : Ext w1 w2) (o : Obj) : Ext w1 (w2.alloc o) := Below.alloc h h.size o
theorem Ext.setCell (h : Ext w1 w2) {p : Addr} (hp : w1.heap.size ≤ p.block) (u : Value) : Ext w1 (w2.setCell p u) := Below.setCell h hp u
theorem Ext.cells (h : Ext w w') : ∀ b o, b < w.heap.size → w'.cell? ⟨b, o, none⟩ = w.cell? ⟨b, o, none⟩ := fun b o hb => Below.cell h (p := ⟨b, o, none⟩) hb
theorem Ext.grown {row : Option Nat} (h : Ext W w) (hg : w.grownBy w' row) (hr : ∀ k, row = some k → W.heap.size ≤ k) : Ext W w' := Below.grown h hg h.size hr
theorem Ext.own {e size n base : Nat} {v : Value} {xs : List Value} (h : Ext W w) (ho : w.ownsRow base e size v n xs) (hb : W.heap.size ≤ base) (hg : w.grownBy w' v.ownBlock) : Ext W w' :=
 h.grown hg fun k hk => Nat.le_trans hb (ho.lt k hk).1
end

def Rd (w : World) (size : Nat) (A : Option Addr) (n : Nat) (xs : List Value) : Prop :=
 xs.length = n * size ∧ (0 < n → ∃ b o, A = some ⟨b, o, none⟩ ∧ b < w.heap.size ∧ ∀ j u, xs[j]? = some u → w.cell? ⟨b, o + j, none⟩ = some u)
section
variable {w w' : World} {size n : Nat} {A : Option Addr} {xs : List Value}
theorem Rd.nil (w : World) (size : Nat) (A : Option Addr) : Rd w size A 0 [] := ⟨by simp, fun h => absurd h (by omega)⟩
theorem Rd.ext (h : Rd w size A n xs) (k : Ext w w') : Rd w' size A n xs :=
 ⟨h.1, fun hn => by
  obtain ⟨b, o, e, hb, hc⟩ := h.2 hn
  exact ⟨b, o, e, Nat.lt_of_lt_of_le hb k.le, fun j u hu => (k.cells b _ hb).trans (hc j u hu)⟩⟩
theorem Rd.drewN (h : Rd w size A n xs) (k : Nat) : Rd (w.drewN k) size A n xs := h
theorem Rd.drew (h : Rd w size A n xs) : Rd w.drew size A n xs := h
theorem Rd.alloc (h : Rd w size A n xs) (o : Obj) : Rd (w.alloc o) size A n xs := h.ext ((Ext.refl w).alloc o)
theorem Rd.len (h : Rd w 1 A n xs) : xs.length = n := by have := h.1; omega
theorem Rd.at_ (h : Rd w size A n xs) (hn : 0 < n) : ∃ b o, A = some ⟨b, o, none⟩ ∧ b < w.heap.size ∧ ∀ j u, xs[j]? = some u → w.cell? ⟨b, o + j, none⟩ = some u := h.2 hn
theorem Rd.drop (h : Rd w size A n xs) {k cap : Nat} (hk : k ≤ n) (hc : n ≤ cap) :
  Rd w size (if cap = k then A else A.map (·.add (k * size))) (n - k) (xs.drop (k * size)) := by
 refine ⟨by rw [List.length_drop, h.1, Nat.sub_mul], fun hn => ?_⟩
 obtain ⟨b, o, rfl, hb, hcell⟩ := h.2 (by omega)
 rw [if_neg (by omega)]
 refine ⟨b, o + k * size, by simp [Addr.add_lit], hb, fun j u hu => ?_⟩
 rw [Nat.add_assoc]
 exact hcell _ u (by rw [← hu, List.getElem?_drop])
theorem Rd.take (h : Rd w size A n xs) {k : Nat} (hk : k ≤ n) : Rd w size A k (xs.take (k * size)) := by
 refine ⟨by rw [List.length_take, h.1]; exact Nat.min_eq_left (Nat.mul_le_mul_right _ hk), fun hn => ?_⟩
 obtain ⟨b, o, rfl, hb, hcell⟩ := h.2 (by omega)
 refine ⟨b, o, rfl, hb, fun j u hu => hcell j u ?_⟩
 rw [List.getElem?_take] at hu
 split at hu
 ·exact hu
 ·cases hu
theorem Rd.one (w : World) (x : Value) (e : TypeId) : Rd (w.alloc (.cells #[x] e)) 1 (some ⟨w.heap.size, 0, none⟩) 1 [x] :=
 ⟨rfl, fun _ => ⟨w.heap.size, 0, rfl, by simp, fun j u hu => by
  have := cell_one_new w x e j u hu
  rw [Addr.add_lit, Nat.zero_add] at this
  rw [Nat.zero_add]
  exact this⟩⟩
end

structure SlT (P : Program) (t e : TypeId) (z : Value) (size bytes : Nat) : Prop where
 und : P.underlying t = some (.slice e)
 info : (P.info? e).map (fun i => (i.zero, i.size, i.bytes)) = some (some z, size, bytes)
 zs : z.cells.size = size
 pos : 0 < size
 wide : 0 < bytes

section
variable {P : Program} (w : World) {t e : TypeId} {z : Value} {size bytes : Nat}
theorem run_append_rd (T : SlT P t e z size bytes) (ty : TypeId) (base : Nat)
  (v : Value) (n : Nat) (xs : List Value) (hown : w.ownsRow base e size v n xs)
  (A : Option Addr) (m c : Nat) (news : List Value) (hr : Rd w size A m news) (h1 : ∀ u ∈ news, u.oneCell' = true)
  (hbytes : (n + m) * bytes ≤ 140737488355328) (hbase : base ≤ w.heap.size) :
  ∃ v' w', (Builtin.append_ #[t, t] ty #[v, .slice A m c]).run P w = .ok v' w' ∧ w'.ownsRow base e size v' (n + m) (xs ++ news) ∧ w.grownBy w' v.ownBlock ∧
   (v'.ownBlock = v.ownBlock ∨ v'.ownBlock = some w.heap.size) := by
 obtain ⟨i, hi, hz, hs, hb⟩ := info_parts T.info
 have h63 : n + m ≤ maxLen := by
  have := Nat.mul_le_mul_left (n + m) T.wide
  simp only [maxLen]; omega
 rcases Nat.eq_zero_or_pos m with h0 | h0
 ·subst h0
  have hn : news = [] := List.eq_nil_of_length_eq_zero (by simpa using hr.1)
  subst hn
  cases A with
  | none =>
   refine ⟨v, w, ?_, by simpa using hown, World.grownBy.refl w _, .inl rfl⟩
   rcases hown.2 with ⟨rfl, rfl⟩ | ⟨g, cap, cur, rfl, _, _, hnc, _⟩
   ·simp [Builtin.append_, run_underlying T.und, sizeOf, typeInfo, hi, Builtin.lenOf, Builtin.firstCells]
   ·simp [Builtin.append_, run_underlying T.und, sizeOf, typeInfo, hi, Builtin.lenOf, Builtin.firstCells, hnc, storeCells]
  | some ad =>
   obtain ⟨v', w', hrun, h2, h3, _, h5⟩ := run_append_own_at (P := P) w base t ty e i z size bytes T.und hi hz hs hb T.zs T.pos v n xs hown ad 0 c [] (by simp) (fun j u hu => by simp at hu) h1 h63 hbytes hbase
   exact ⟨v', w', hrun, h2, h3, h5⟩
 ·obtain ⟨b, o, rfl, _, hc⟩ := hr.2 h0
  obtain ⟨v', w', hrun, h2, h3, _, h5⟩ := run_append_own_at (P := P) w base t ty e i z size bytes T.und hi hz hs hb T.zs T.pos v n xs hown ⟨b, o, none⟩ m c news hr.1
   (fun j u hu => by rw [Addr.add_lit]; exact hc j u hu) h1 h63 hbytes hbase
  exact ⟨v', w', hrun, h2, h3, h5⟩

theorem wp_append_rd (T : SlT P t e z size bytes) {o : Oper} {a : Act} {K : Act → World → Prop} {Q : Exit → Act → World → Prop} (s x : Operand)
  (ho : o.op = .call { callee := .builtin .append, args := #[s, x], argTypes := #[t, t] }) (base : Nat)
  (v : Value) (n : Nat) (xs : List Value) (hs : a.eval s = v) (hown : w.ownsRow base e size v n xs)
  (A : Option Addr) (m c : Nat) (news : List Value) (hx : a.eval x = .slice A m c) (hr : Rd w size A m news) (h1 : ∀ u ∈ news, u.oneCell' = true)
  (hbytes : (n + m) * bytes ≤ 140737488355328) (hbase : base ≤ w.heap.size)
  (h : ∀ v' w', w'.ownsRow base e size v' (n + m) (xs ++ news) → w.grownBy w' v.ownBlock → (v'.ownBlock = v.ownBlock ∨ v'.ownBlock = some w.heap.size) → K (a.put o.dst v') w') : o.wp P a w K Q := by
 obtain ⟨v', w', hrun, h2, h3, h4⟩ := run_append_rd w T o.type base v n xs hown A m c news hr h1 hbytes hbase
 unfold Oper.wp execOp
 simp only [ho, resolve, invoke, builtin, Sem.run_bind, Sem.run_pure, Result.andThen_ok, List.map_toArray, List.map_cons, List.map_nil, hs, hx, hrun]
 exact h v' w' h2 h3 h4

theorem app {ops : Array Oper} {rest : List Oper} {o : Oper} {a : Act} {Q : Exit → Act → World → Prop} (T : SlT P t e z size bytes) (hgd : o.guard = none) (s x : Operand)
  (ho : o.op = .call { callee := .builtin .append, args := #[s, x], argTypes := #[t, t] }) (base : Nat)
  (v : Value) (n : Nat) (xs : List Value) (hs : a.eval s = v) (hown : w.ownsRow base e size v n xs)
  (A : Option Addr) (m c : Nat) (news : List Value) (hx : a.eval x = .slice A m c) (hr : Rd w size A m news) (h1 : ∀ u ∈ news, u.oneCell' = true)
  (hbytes : (n + m) * bytes ≤ 140737488355328) (hbase : base ≤ w.heap.size)
  (h : ∀ v' w', w'.ownsRow base e size v' (n + m) (xs ++ news) → w.grownBy w' v.ownBlock → (v'.ownBlock = v.ownBlock ∨ v'.ownBlock = some w.heap.size) → wpList P ops Q rest (a.put o.dst v') w') : wpList P ops Q (o :: rest) a w :=
 wpList_plain hgd fun _ hK => wp_append_rd w T s x ho base v n xs hs hown A m c news hx hr h1 hbytes hbase fun v' w' h2 h3 h4 => hK _ _ (h v' w' h2 h3 h4)

end

theorem oneB (l : List UInt8) : ∀ u ∈ bvs l, u.oneCell' = true := by
 intro u hu
 obtain ⟨_, _, rfl⟩ := List.mem_map.1 hu
 rfl
end Go.Proofs.YtehbbcdhahnkgaaGreat
