/- Arrays and structs in memory: whole loads and stores, blocks that are known whole. -/
import Derived.Test.YtlamdneheilahaaWords
namespace Go.Proofs.Ytlamdneheilahaa
open Go.RowKit

/-- Block g is just these cells, none frozen. -/
def Blk (w : World) (g : Nat) (t : TypeId) (cs : Array Value) : Prop := w.heap[g]? = some (.cells cs t (0, 0))
section
variable {w w' : World} {g : Nat} {t : TypeId} {cs : Array Value}
theorem Blk.lt (h : Blk w g t cs) : g < w.heap.size := (Array.getElem?_eq_some_iff.1 h).1
theorem Blk.cell (h : Blk w g t cs) (i : Nat) : w.cell? ⟨g, i, none⟩ = cs[i]? := cell_of_row w g i cs t (0, 0) h
theorem Blk.free (h : Blk w g t cs) (i : Nat) : w.frozen? ⟨g, i, none⟩ = false := by
  unfold Blk at h; simp [World.frozen?, h]
theorem Blk.new (w : World) (t : TypeId) (cs : Array Value) : Blk (w.alloc (.cells cs t)) w.heap.size t cs := heap_alloc_new w _
theorem Blk.ext (h : Blk w g t cs) (k : Ext w w') : Blk w' g t cs := (k.block g h.lt).trans h
theorem Blk.below {B : Nat} (h : Blk w g t cs) (k : Below B w w') (hb : g < B) : Blk w' g t cs := (k.block g hb).trans h
theorem Blk.alloc (h : Blk w g t cs) (o : Obj) : Blk (w.alloc o) g t cs := (Below.heap_alloc w o g h.lt).trans h
theorem Blk.drew (h : Blk w g t cs) : Blk w.drew g t cs := h
theorem Blk.drewN (h : Blk w g t cs) (n : Nat) : Blk (w.drewN n) g t cs := h
theorem Blk.set_ (h : Blk w g t cs) (i : Nat) (u : Value) : Blk (w.setCell ⟨g, i, none⟩ u) g t (cs.setIfInBounds i u) := by
  unfold Blk at h ⊢
  simp [World.setCell, Array.getElem?_modify, h]
theorem Blk.far (h : Blk w g t cs) {p : Addr} (hp : g ≠ p.block) (u : Value) : Blk (w.setCell p u) g t cs := (Below.heap_setCell w p u g hp).trans h
theorem Blk.grown {row : Option Nat} (h : Blk w g t cs) (k : w.grownBy w' row) (hg : some g ≠ row) : Blk w' g t cs := (k.block g h.lt hg).trans h
theorem Blk.sub (h : Blk w g t cs) (off n : Nat) {ds : List Value} (hs : (cs.toList.drop off).take n = ds) : ∀ j u, ds[j]? = some u → w.cell? ⟨g, off + j, none⟩ = some u := by
  intro j u hu
  rw [h.cell]
  subst hs
  rw [List.getElem?_take] at hu
  split at hu
  · simpa [List.getElem?_drop] using hu
  · cases hu
theorem Blk.row (h : Blk w g t cs) (ds : Array Value) : Blk (w.setRow g ds) g t ds := setRow_heap w g cs ds t _ h
end
theorem grown_setRow (w : World) (g : Nat) (ds : Array Value) : w.grownBy (w.setRow g ds) (some g) :=
  ⟨rfl, rfl, rfl, by simp, fun k _ hk => setRow_other w g k _ (fun e => hk (by rw [e]))⟩
theorem Ext.setRow {W w : World} (h : Ext W w) {g : Nat} (hg : W.heap.size ≤ g) (ds : Array Value) : Ext W (w.setRow g ds) :=
  h.grown (grown_setRow w g ds) fun k hk => by injection hk with hk; omega

/-- An array or a struct type of n cells. -/
structure AggT (P : Program) (ty : TypeId) (n : Nat) : Prop where
  und : ∃ d, P.underlying ty = some d ∧ (match d with | .struct _ | .array _ _ => true | _ => false) = true
  size : (P.info? ty).map (·.size) = some n

section
variable {P : Program} {w : World} {ty : TypeId} {n : Nat}
theorem run_load_agg (T : AggT P ty n) (b off : Nat) (cs : List Value) (hn : cs.length = n) (hc : ∀ j u, cs[j]? = some u → w.cell? ⟨b, off + j, none⟩ = some u) :
    (loadVar ty ⟨b, off, none⟩).run P w = .ok (.agg cs.toArray) w := by
  obtain ⟨d, hu, hd⟩ := T.und
  have hl : (loadCells ⟨b, off, none⟩ cs.length).run P w = .ok cs.toArray w :=
    run_loadCells_list (P := P) w ⟨b, off, none⟩ cs fun j v hv => by rw [Addr.add_lit]; exact hc j v hv
  have hi := T.size
  cases hq : P.info? ty with
  | none => simp [hq] at hi
  | some i =>
    have hs : i.size = cs.length := by rw [hn]; simpa [hq] using hi
    have hagg : (isAgg ty).run P w = .ok true w := by
      unfold isAgg
      rw [Sem.run_bind, run_underlying hu w]
      cases d <;> simp_all
    simp [loadVar, Sem.run_bind, hagg, sizeOf, typeInfo, hq, hs, hl]

theorem wp_ld {o : Oper} {a : Act} {K : Act → World → Prop} {Q : Exit → Act → World → Prop} (T : AggT P ty n) (x : Operand) (ho : o.op = .load ty x) (b off : Nat) (hx : a.eval x = .pointer (some ⟨b, off, none⟩))
    (cs : List Value) (hn : cs.length = n) (hc : ∀ j u, cs[j]? = some u → w.cell? ⟨b, off + j, none⟩ = some u) (h : K (a.put o.dst (.agg cs.toArray)) w) : o.wp P a w K Q := by
  unfold Oper.wp execOp
  simp only [ho, hx, Instr.loadAt, Instr.sureAddr, Sem.run_bind, Sem.run_pure, Result.andThen_ok, run_load_agg T b off cs hn hc]
  exact h
/-- A whole array or struct loaded from the middle of a block. -/
theorem ld {ops : Array Oper} {rest : List Oper} {o : Oper} {a : Act} {Q : Exit → Act → World → Prop} (T : AggT P ty n) (hgd : o.guard = none) (x : Operand) (ho : o.op = .load ty x) (b off : Nat) (hx : a.eval x = .pointer (some ⟨b, off, none⟩))
    (cs : List Value) (hn : cs.length = n) (hc : ∀ j u, cs[j]? = some u → w.cell? ⟨b, off + j, none⟩ = some u) (h : wpList P ops Q rest (a.put o.dst (.agg cs.toArray)) w) : wpList P ops Q (o :: rest) a w :=
  wpList_plain hgd fun _ hK => wp_ld T x ho b off hx cs hn hc (hK _ _ h)

theorem wp_st {o : Oper} {a : Act} {K : Act → World → Prop} {Q : Exit → Act → World → Prop} (T : AggT P ty n) (x y : Operand) (ho : o.op = .store ty x y) (g : Nat) (hx : a.eval x = .pointer (some ⟨g, 0, none⟩))
    (cs old : Array Value) (t : TypeId) (hy : a.eval y = .agg cs) (hn : cs.size = n) (hold : Blk w g t old) (hs : old.size = n) (h1 : ∀ u ∈ cs.toList, u.oneCell' = true)
    (h : ∀ w', Blk w' g t cs → w.grownBy w' (some g) → w'.heap.size = w.heap.size → K (a.put o.dst undef) w') : o.wp P a w K Q := by
  have hst := run_storeCells_at P g 0 t cs.toList 0 old w hold (by simp; omega) h1
  have hi := T.size
  cases hq : P.info? ty with
  | none => simp [hq] at hi
  | some i =>
    have hs' : i.size = n := by simpa [hq] using hi
    have e : ((old.toList.take (0 + 0) ++ cs.toList ++ old.toList.drop (0 + 0 + cs.toList.length)).toArray) = cs := by
      have : old.toList.drop cs.size = [] := List.drop_eq_nil_of_le (by simp; omega)
      simp [this]
    rw [e] at hst
    have hsv : (storeVar ty ⟨g, 0, none⟩ (.agg cs)).run P w = .ok () (w.setRow g cs) := by
      simp [storeVar, Sem.run_bind, sizeOf, typeInfo, hq, hs', hn, Value.cells, hst]
    unfold Oper.wp execOp
    simp only [ho, hx, hy, Instr.storeAt, Instr.sureAddr, Sem.run_bind, Sem.run_pure, Result.andThen_ok, hsv]
    exact h _ (hold.row cs) (grown_setRow w g cs) (by simp)
/-- A whole array or struct stored into its variable. -/
theorem st {ops : Array Oper} {rest : List Oper} {o : Oper} {a : Act} {Q : Exit → Act → World → Prop} (T : AggT P ty n) (hgd : o.guard = none) (x y : Operand) (ho : o.op = .store ty x y) (g : Nat) (hx : a.eval x = .pointer (some ⟨g, 0, none⟩))
    (cs old : Array Value) (t : TypeId) (hy : a.eval y = .agg cs) (hn : cs.size = n) (hold : Blk w g t old) (hs : old.size = n) (h1 : ∀ u ∈ cs.toList, u.oneCell' = true)
    (h : ∀ w', Blk w' g t cs → w.grownBy w' (some g) → w'.heap.size = w.heap.size → wpList P ops Q rest (a.put o.dst undef) w') : wpList P ops Q (o :: rest) a w :=
  wpList_plain hgd fun _ hK => wp_st T x y ho g hx cs old t hy hn hold hs h1 fun w' h2 h3 h4 => hK _ _ (h w' h2 h3 h4)
end
end Go.Proofs.Ytlamdneheilahaa
