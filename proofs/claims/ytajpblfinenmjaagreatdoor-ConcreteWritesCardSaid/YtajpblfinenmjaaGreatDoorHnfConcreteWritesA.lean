/- The ghost machine: an evaluator of the program's text over plain data, and its soundness. -/
import Derived.Test.YtajpblfinenmjaaGreatDoorHneConcreteWritesA
import Derived.Test.YtajpblfinenmjaaGreatDoorFnsConcreteWritesA
import Derived.Test.YtajpblfinenmjaaGreatDoorFntConcreteWritesA
import Derived.Deep.RegionHeld3
import Derived.WalkKit
import Derived.Defers
import Derived.Recover
set_option linter.unusedVariables false
set_option linter.unusedSimpArgs false
namespace Go.Proofs.YtajpblfinenmjaaGreatDoor
open Go Go.RowKit
set_option linter.unusedVariables false
set_option maxRecDepth 100000
attribute [local go_sem] Oper.semAt_some
theorem zw97 {F : TT.den → List UInt8 → Option (Unit × (List UInt8 × Unit))} {g : FuncId} (hok : Ctr.ok Tryz.prog zw8 g ⟨⟨[.row 0, .val TT], [(.row 5 .u8, .pos 0)]⟩, (⟨[.row 0], [(.row 5 .u8, .pos 0)]⟩ : Spec).un [false], 0, fun y => F y.1.1 y.2.1⟩)
    {W : World} {Z : Nat → Prop} (hgl : GlCt W Z) (hZ : ∀ b, Z b → b < W.heap.size) {t : Tree} {cs : List Value} (ht : TR W Z t cs) {bv : Value} {xs : List UInt8} (hb : OwnB W bv xs) (hbZ : ∀ b, blk bv = some b → ¬ Z b) {out : List UInt8} (hF : F t.un xs = some ((), (out, ()))) :
    Calls Tryz.prog g #[bv, .agg cs.toArray] W fun e W' => ∃ u, e = .returned u ∧ Kept (fun b => blk bv = some b) W W' ∧ OwnB W' u out ∧ ∀ b, blk u = some b → blk bv = some b ∨ W.heap.size ≤ b := by
  obtain ⟨uss0, p1, p2⟩ := hb
  refine (zw5k (M := fun b => blk bv = some b) (Z := Z) (ob := fun _ => bv) hok (Nat.zero_le _) hgl (args := [bv, .agg cs.toArray]) (x := ((t.un, ()), (xs, ()))) (y := ((), (out, ()))) rfl hZ ⟨rfl, ⟨cs, TR_DR.1 ht, rfl⟩, trivial⟩ (fun g hg => ?_) (fun i o hl => ?_) (fun i j h1 h2 => ?_) hF).mono ?_
  · have hg' : g ∈ [GV.sv (.row 0), .sv (.data TT t.un)] := hg
    simp only [List.mem_cons, List.not_mem_nil, or_false] at hg'
    rcases hg' with rfl | rfl
    · exact Nat.zero_lt_one
    · trivial
  · have hl' : [Ob.row 5 .u8 xs true][i]? = some o := hl
    match i, hl' with
    | 0, hl' =>
      cases hl'
      exact ⟨⟨uss0, p1.mono fun _ _ h => h, p2, fun h => by cases h⟩, trivial, fun b hb => ⟨hbZ b hb, hb⟩⟩
    | i + 1, hl' => simp at hl'
  · have : j < 1 := h2
    omega
  · rintro e w' ⟨vs, ob', Z', rfl, hl, hr⟩
    match vs, hl with
    | [v], _ =>
    obtain rfl : v = ob' 0 := (hr.slots 0 (.sv (.row 0)) rfl).2.1
    have ho := (hr.objs 0 (.row 5 .u8 out true) rfl).2.1
    have hw := hr.own 0 (.row 5 .u8 out true) rfl rfl
    obtain ⟨uss, h1, h2, _⟩ := ho
    exact ⟨ob' 0, rfl, hr.kept, ⟨uss, h1.mono fun _ _ h => h, h2⟩, fun b hb => (hw b hb).2⟩
theorem zwfr {N : Nat} {W : World} {Z : Nat → Prop} (hgl : GlCt W Z) (hZ : ∀ b, Z b → b < W.heap.size) {t : Tree} {cs : List Value} (ht : TR W Z t cs) {out : List UInt8} (hF : zq37 N t.un = some ((), (out, ()))) :
    Calls Tryz.prog 84 #[.agg cs.toArray] W fun e W' => ∃ u, e = .returned u ∧ Kept (fun _ => False) W W' ∧ OwnB W' u out ∧ ∀ b, blk u = some b → W.heap.size ≤ b := by
  refine (zw5k (M := fun b => False) (Z := Z) (ob := fun _ => undef) (zq37_ok N) (Nat.zero_le _) hgl (args := [.agg cs.toArray]) (x := ((t.un, ()), ())) (y := ((), (out, ()))) rfl hZ ⟨⟨cs, TR_DR.1 ht, rfl⟩, trivial⟩ (fun g hg => ?_) (fun i o hl => ?_) (fun i j h1 h2 => ?_) hF).mono ?_
  · have hg' : g ∈ [GV.sv (.data TT t.un)] := hg
    simp only [List.mem_cons, List.not_mem_nil, or_false] at hg'
    subst hg'
    trivial
  · have hl' : ([] : List Ob)[i]? = some o := hl
    simp at hl'
  · have : j < 0 := h2
    omega
  · rintro e w' ⟨vs, ob', Z', rfl, hl, hr⟩
    match vs, hl with
    | [v], _ =>
    obtain rfl : v = ob' 0 := (hr.slots 0 (.sv (.row 0)) rfl).2.1
    have ho := (hr.objs 0 (.row 5 .u8 out true) rfl).2.1
    have hw := hr.own 0 (.row 5 .u8 out true) rfl rfl
    obtain ⟨uss, h1, h2, _⟩ := ho
    exact ⟨ob' 0, rfl, hr.kept, ⟨uss, h1.mono fun _ _ h => h, h2⟩, fun b hb => (hw b hb).2.elim False.elim id⟩
theorem tok5 : TOk Tryz.prog 5 ⟨.u8, 1, 0, false⟩ := zw8m (by kernel_rfl)
theorem OwnB.form2 {w : World} {v : Value} {l : List UInt8} (h : OwnB w v l) : ∃ A c, v = .slice A l.length c ∧ l.length ≤ c ∧ c ≤ maxLen := by
  obtain ⟨uss, _, h2⟩ := h
  rcases h2.2 with ⟨rfl, hz⟩ | ⟨b, c, _, rfl, _, _, h3, h4, _⟩
  · exact ⟨none, 0, by rw [hz], by omega, by simp [maxLen]⟩
  · exact ⟨_, c, rfl, h3, h4⟩
theorem OwnB.la {w : World} {A : Option Addr} {c : Nat} {l : List UInt8} (h : OwnB w (.slice A l.length c) l) {n : Nat} (hn : n ≤ l.length) : LA w (fun _ => False) (.slice A n c) .u8 (l.take n) := by
  obtain ⟨uss, h1, h2⟩ := h
  have hla := LA.of_OR (w := w) (Z := fun _ => False) (ob := fun _ => .slice A l.length c) (i := 0) (e := 5) (t := .u8) (xs := l) (own := true) ⟨uss, h1, h2, fun h => by cases h⟩
  obtain ⟨A', c', e, q1, q2, q3⟩ := hla
  cases e
  have hl : (l.take n).length = n := by rw [List.length_take]; omega
  refine ⟨A, c, by rw [hl], by omega, q2, fun hp => ?_⟩
  obtain ⟨b, off, uss', r1, r2, r3, r4⟩ := q3 (by omega)
  refine ⟨b, off, uss'.take n, r1, r2, r3.take n, fun j u hu => r4 j u ?_⟩
  have : (uss'.take n).flatten <+: uss'.flatten := by
    conv => rhs; rw [← List.take_append_drop n uss', List.flatten_append]
    exact List.prefix_append _ _
  obtain ⟨r, hr⟩ := this
  rw [← hr, List.getElem?_append_left (List.getElem?_eq_some_iff.1 hu).1]
  exact hu
theorem zwfs {ops : Array Oper} {o : Oper} {a : Act} {w : World} {K : Act → World → Prop} {Q : Exit → Act → World → Prop} {E : Prop} {s x : Operand} {Z : Nat → Prop} {xs ys : List UInt8} {y : Value} {A : Option Addr} {n c : Nat}
    (hg : o.guard = none) (hop : o.op = Op.call { callee := Callee.builtin Builtin.append, args := #[s, x], argTypes := #[25, 25] }) (hs : a.eval s = .slice A n c) (hx : a.eval x = y) (hown : OwnB w (.slice A n c) xs) (hy : LA w Z y .u8 ys) (hroom : xs.length + ys.length ≤ 200000)
    (hR : ∀ v' w', OwnB w' v' (xs ++ ys) → Kept (fun b => blk (.slice A n c) = some b) w w' → (∀ b, blk v' = some b → blk (.slice A n c) = some b ∨ w.heap.size ≤ b) → K (a.put o.dst v') w') : if Region.wanted o (yielded ops a.tmps) = true then Oper.wp Tryz.prog o a w K Q else E := by
  have hw : Region.wanted o (yielded ops a.tmps) = true := by simp [Region.wanted, hg]
  rw [if_pos hw]
  have hbk : (Value.slice A n c).ownBlock = blk (.slice A n c) := (zwdy rfl).symm
  obtain ⟨A1, c1, e1⟩ := hown.form
  cases e1
  obtain ⟨uss, p1, p2⟩ := hown
  obtain ⟨v', w', uss', hrun, q1, q2, q3, q4⟩ := zw79 (P := Tryz.prog) (tx := 25) (te := 5) (w := w) (Z := Z) (by kernel_rfl) tok5 rfl o.type (.slice A xs.length c) xs.length uss.flatten p2 hy (by show (xs.length + ys.length) * 1 ≤ _; omega)
  unfold Oper.wp
  have e : (execOp a.eval o).run Tryz.prog w = .ok (.value v') w' := by
    simp [execOp, hop, resolve, invoke, hs, hx, builtin, hrun]
  rw [e]
  refine hR v' w' ⟨uss ++ uss', p1.append (q1.mono fun _ _ h => h), ?_⟩ ?_ ?_
  · rw [List.flatten_append, List.length_append]; exact q2
  · rw [← hbk]; exact Kept.of_grown q3
  · intro b hb
    have hb2 : v'.ownBlock = blk v' := by
      have h3 := q2.2
      rcases h3 with ⟨h3, _⟩ | ⟨g, cap, cur, h3, _⟩
      · rw [h3]; rfl
      · rw [h3]; rfl
    rw [← hb2] at hb
    rcases q4 with q4 | q4
    · exact .inl (by rw [← hbk, ← q4, hb])
    · rw [q4] at hb; cases hb; exact .inr (Nat.le_refl _)
theorem OwnB.lt {w : World} {v : Value} {l : List UInt8} (h : OwnB w v l) {b : Nat} (hb : blk v = some b) : b < w.heap.size := by
  obtain ⟨_, _, h2⟩ := h
  rcases h2.2 with ⟨rfl, _⟩ | ⟨g, _, _, rfl, _, hh, _⟩
  · cases hb
  · cases hb; exact (Array.getElem?_eq_some_iff.1 hh).1
theorem GlCt.keepM {w w' : World} {M Z : Nat → Prop} (h : GlCt w Z) (hk : Kept M w w') (hd : ∀ b, Z b → ¬ M b) : GlCt w' Z := fun g d hl => (h g d hl).mono (U := fun _ => True) (hk.same hd) (fun _ h => h) (fun _ _ => rfl) trivial
theorem TR.keepM {w w' : World} {M Z : Nat → Prop} (hk : Kept M w w') (hd : ∀ b, Z b → ¬ M b) {t : Tree} {cs : List Value} (h : TR w Z t cs) : TR w' Z t cs := h.mono (hk.same hd) fun _ h => h
noncomputable def nameW (N : Nat) (x : TT.den) (b : List UInt8) : Option (Unit × (List UInt8 × Unit)) :=
  Option.bind (zq8 N x b) fun y => Option.bind (zq37 N x) fun z =>
  bif Nat.ble 16 z.2.1.length then bif Nat.ble y.2.1.length 100000 then some ((), (y.2.1 ++ z.2.1.take 16, ())) else none else none
set_option maxHeartbeats 4000000 in
theorem zw98 {N : Nat} {W : World} {Z : Nat → Prop} (hgl : GlCt W Z) (hZ : ∀ b, Z b → b < W.heap.size) {t : Tree} {cs : List Value} (ht : TR W Z t cs) {bv : Value} {xs : List UInt8} (hb : OwnB W bv xs) (hbZ : ∀ b, blk bv = some b → ¬ Z b) (hbl : ∀ b, blk bv = some b → b < W.heap.size) {out : List UInt8} {q : Nat} (hq : W.heap[q]? = some (.cells #[.func (.func 82) #[] #[]] 62 (0, 0))) (hbq : ∀ b, blk bv = some b → b ≠ q) (hF : nameW N t.un xs = some ((), (out, ()))) :
    Calls Tryz.prog 85 #[bv, .agg cs.toArray, .pointer (some ⟨q, 0, none⟩)] W fun e W' => ∃ u, e = .returned u ∧ Kept (fun b => blk bv = some b) W W' ∧ OwnB W' u out ∧ ∀ b, blk u = some b → blk bv = some b ∨ W.heap.size ≤ b := by
  unfold nameW at hF
  simp only [Option.bind_eq_some_iff] at hF
  obtain ⟨⟨⟨⟩, b1, ⟨⟩⟩, hF1, ⟨⟨⟩, m1, ⟨⟩⟩, hF2, hF⟩ := hF
  cases hc1 : Nat.ble 16 m1.length with
  | false => simp only [hc1, cond_false] at hF; cases hF
  | true =>
  cases hc2 : Nat.ble b1.length 100000 with
  | false => simp only [hc1, hc2, cond_true, cond_false] at hF; cases hF
  | true =>
  simp only [hc1, hc2, cond_true, Option.some.injEq, Prod.mk.injEq, true_and, and_true] at hF
  have h16 := Nat.le_of_ble_eq_true hc1
  have h1e5 := Nat.le_of_ble_eq_true hc2
  obtain ⟨o, v, A, k, c, rfl⟩ := ht.form
  obtain ⟨Ab, cb, hbv⟩ := hb.form
  subst hbv
  obtain ⟨W1, hW1⟩ : ∃ W1, W1 = W.alloc (.cells #[.int .i64 o, .int .i64 v, .slice A k c] 24) := ⟨_, rfl⟩
  have hs1 : W1.heap.size = W.heap.size + 1 := by rw [hW1]; simp
  have hk1 : Kept (fun _ => False) W W1 := by rw [hW1]; exact Kept.alloc _ _
  have hn1 : W1.heap[W.heap.size]? = some (.cells #[.int .i64 o, .int .i64 v, .slice A k c] 24 (0, 0)) := by rw [hW1]; exact World.alloc_heap_new W _
  have hq1 : W1.heap[q]? = some (.cells #[.func (.func 82) #[] #[]] 62 (0, 0)) := (hk1.block _ (Array.getElem?_eq_some_iff.1 hq).1 (fun h => h)).trans hq
  have hb1 : OwnB W1 (.slice Ab xs.length cb) xs := hb.keep fun b h => hk1.block _ (hbl b h) (fun h => h)
  obtain ⟨cq1, cq2⟩ := zw2v hq1
  have c0 : W1.cell? ⟨W.heap.size, 0, none⟩ = some (.int .i64 o) := zwg hn1 rfl
  have c1 : W1.cell? ⟨W.heap.size, 1, none⟩ = some (.int .i64 v) := zwg hn1 rfl
  have c2 : W1.cell? ⟨W.heap.size, 2, none⟩ = some (.slice A k c) := zwg hn1 rfl
  have n0 := World.new_ne W1 _ c0
  have n1 := World.new_ne W1 _ c1
  have n2 := World.new_ne W1 _ c2
  have hbs : ∀ b, blk (.slice Ab xs.length cb) = some b → b ≠ W.heap.size := fun b h => by have := hbl b h; omega
  have hqs := (Array.getElem?_eq_some_iff.1 hq1).1
  have hbZ' : ∀ b, Z b → ¬ (blk (.slice Ab xs.length cb) = some b) := fun b h1 h2 => hbZ b h2 h1
  go_enter Tryz.func85, Tryz.ntmps85
  go_wp2
  rw [← hW1]
  clear hW1 hn1
  go_region_held3 (fun w' => w'.cell? ⟨q, 0, none⟩ = some (.func (.func 82) #[] #[]) ∧ w'.cell? ⟨W.heap.size, 0, none⟩ = some (.int .i64 o) ∧ w'.cell? ⟨W.heap.size, 1, none⟩ = some (.int .i64 v) ∧ w'.cell? ⟨W.heap.size, 2, none⟩ = some (.slice A k c)) (go_keep) (first
    | (go_at_call 82; refine (zw97 (zq8_ok N) (hgl.keep (kN hk1 (Kept.drew _))) (fun b h => Nat.lt_of_lt_of_le (hZ b h) (kN hk1 (Kept.drew _)).size) (ht.keep (kN hk1 (Kept.drew _))) (hb1.keep fun _ _ => rfl) hbZ hF1).mono ?_
       rintro e w2 ⟨u1, rfl, hku1, hou1, hbu1⟩
       have hKM : Kept (fun b => blk (.slice Ab xs.length cb) = some b) W w2 := (Kept.weak (kN hk1 (Kept.drew _)) (fun _ h => h.elim)).trans hku1 (fun b h => .inl h)
       have hz2 : W1.heap.size ≤ w2.heap.size := hku1.size
       have hbb : ∀ k, k < W1.heap.size → (∀ b, blk (.slice Ab xs.length cb) = some b → b ≠ k) → w2.heap[k]? = W1.heap[k]? := fun k h1 h2 => hku1.block k h1 (fun h => h2 k h rfl)
       have dq : w2.cell? ⟨q, 0, none⟩ = some (.func (.func 82) #[] #[]) := (World.cell?_of_block (hbb q hqs hbq)).trans cq1
       have d0 : w2.cell? ⟨W.heap.size, 0, none⟩ = some (.int .i64 o) := (World.cell?_of_block (hbb _ (by show W.heap.size < W1.heap.size; omega) hbs)).trans c0
       have d1 : w2.cell? ⟨W.heap.size, 1, none⟩ = some (.int .i64 v) := (World.cell?_of_block (hbb _ (by show W.heap.size < W1.heap.size; omega) hbs)).trans c1
       have d2 : w2.cell? ⟨W.heap.size, 2, none⟩ = some (.slice A k c) := (World.cell?_of_block (hbb _ (by show W.heap.size < W1.heap.size; omega) hbs)).trans c2
       obtain ⟨A1, c1', rfl⟩ := hou1.form)
    | (go_at_call 84; refine (zwfr (N := N) (Z := Z) (hgl.keepM hKM hbZ') (fun b h => Nat.lt_of_lt_of_le (hZ b h) hKM.size) (ht.keepM hKM hbZ') hF2).mono ?_
       rintro e w3 ⟨u2, rfl, hku2, hou2, hbu2⟩
       have hou1' := hou1.keep (w' := w3) fun b hb => hku2.block b (hou1.lt hb) (fun h => h)
       have e0 : w3.cell? ⟨W.heap.size, 0, none⟩ = some (.int .i64 o) := (World.cell?_of_block (hku2.block _ (by show W.heap.size < w2.heap.size; omega) (fun h => h))).trans d0
       have e1 : w3.cell? ⟨W.heap.size, 1, none⟩ = some (.int .i64 v) := (World.cell?_of_block (hku2.block _ (by show W.heap.size < w2.heap.size; omega) (fun h => h))).trans d1
       have e2 : w3.cell? ⟨W.heap.size, 2, none⟩ = some (.slice A k c) := (World.cell?_of_block (hku2.block _ (by show W.heap.size < w2.heap.size; omega) (fun h => h))).trans d2
       have eq : w3.cell? ⟨q, 0, none⟩ = some (.func (.func 82) #[] #[]) := (World.cell?_of_block (hku2.block _ (by show q < w2.heap.size; omega) (fun h => h))).trans dq
       have hz3 : w2.heap.size ≤ w3.heap.size := hku2.size
       obtain ⟨A2, c2', hf2, h2c, h2m⟩ := hou2.form2
       subst hf2
       have h16a : (16 : Int) ≤ (c2' : Int) := by omega
       have h16b : (0 : Int) ≤ (16 : Int) := by omega
       have h16c : 16 ≤ c2' := by omega)
    | (refine zwfs rfl rfl rfl rfl hou1' (hou2.la h16) (by rw [List.length_take]; omega) ?_
       intro v' w4 hov hk4 hb4
       have hne4 : ∀ k, k < W1.heap.size → (∀ b, blk (.slice Ab xs.length cb) = some b → b ≠ k) → w4.heap[k]? = w3.heap[k]? := fun k h1 h2 => hk4.block k (by omega) (fun h => by
         rcases hbu1 k h with h3 | h3
         · exact h2 k h3 rfl
         · have h4 : W1.heap.size ≤ k := h3
           omega)
       have f0 : w4.cell? ⟨W.heap.size, 0, none⟩ = some (.int .i64 o) := (World.cell?_of_block (hne4 _ (by show W.heap.size < W1.heap.size; omega) hbs)).trans e0
       have f1 : w4.cell? ⟨W.heap.size, 1, none⟩ = some (.int .i64 v) := (World.cell?_of_block (hne4 _ (by show W.heap.size < W1.heap.size; omega) hbs)).trans e1
       have f2 : w4.cell? ⟨W.heap.size, 2, none⟩ = some (.slice A k c) := (World.cell?_of_block (hne4 _ (by show W.heap.size < W1.heap.size; omega) hbs)).trans e2
       have fq : w4.cell? ⟨q, 0, none⟩ = some (.func (.func 82) #[] #[]) := (World.cell?_of_block (hne4 _ hqs hbq)).trans eq
       rw [hF] at hov
       obtain ⟨A4, c4, rfl⟩ := hov.form)
    | fail "none")
  all_goals
    have hkf : Kept (fun b => blk (.slice Ab xs.length cb) = some b) W w4 := (hKM.trans hku2 (fun _ h => h.elim)).trans hk4 (fun b h => by
      rcases hbu1 b h with h3 | h3
      · exact .inl h3
      · have h4 : W1.heap.size ≤ b := h3
        exact .inr (by omega))
    have hfr : ∀ b, blk (.slice A4 out.length c4) = some b → blk (.slice Ab xs.length cb) = some b ∨ W.heap.size ≤ b := fun b h => by
      rcases hb4 b h with h3 | h3
      · rcases hbu1 b h3 with h5 | h5
        · exact .inl h5
        · have h4 : W1.heap.size ≤ b := h5
          exact .inr (by omega)
      · exact .inr (by omega)
    go_wp2
  all_goals
    go_ret
    exact ⟨_, rfl, hkf, hov, hfr⟩
end Go.Proofs.YtajpblfinenmjaaGreatDoor

namespace Go.Proofs.YtajpblfinenmjaaGreatDoor
open Go Go.RowKit
set_option linter.unusedVariables false
set_option maxRecDepth 100000
abbrev WrR : Type := Unit × (List UInt8 × Unit)
noncomputable def writeC (rc : TT.den → Option WrR) : Ctr := ⟨⟨[.val TT], []⟩, (⟨[.row 0], [(.row 5 .u8, .pos 0)]⟩ : Spec).un [false], 0, fun y => rc y.1.1⟩
noncomputable def zw1k (N : Nat) (rc : TT.den → Option WrR) (x : TT.den) : Option WrR :=
  bif decide (x.1 = (1 : Int)) then zq8 N x [(1 : UInt8)] else
  bif decide (x.1 = (2 : Int)) then nameW N x [(2 : UInt8)] else
  bif decide (x.1 = (3 : Int)) then zq12 N rc x [(3 : UInt8)] else
  bif decide (x.1 = (4 : Int)) then zq6 N x [(4 : UInt8)] else
  bif decide (x.1 = (5 : Int)) then zq7 N x [(5 : UInt8)] else
  bif decide (x.1 = (6 : Int)) then zq7 N x [(6 : UInt8)] else
  bif decide (x.1 = (7 : Int)) then zq13 N rc x [(7 : UInt8)] else
  bif decide (x.1 = (8 : Int)) then zq11 N rc x [(8 : UInt8)] else
  bif decide (x.1 = (9 : Int)) then zq7 N x [(9 : UInt8)] else
  bif decide (x.1 = (10 : Int)) then zq8 N x [(10 : UInt8)] else none
noncomputable def writeG (N : Nat) (rc : TT.den → Option WrR) (x : TT.den) : Option WrR :=
  Option.bind (zw1k N rc x) fun y => bif Nat.ble y.2.1.length 8192 then some y else none
noncomputable def zw2m (N : Nat) : Nat → TT.den → Option WrR
  | 0 => fun _ => none
  | n + 1 => fun x => writeG N (zw2m N n) x
theorem TR.form2 {w : World} {Z : Nat → Prop} {t : Tree} {cs : List Value} (h : TR w Z t cs) : ∃ A n c, cs = [.int .i64 t.un.1, .int .i64 t.un.2.1, .slice A n c] := by
  obtain ⟨o, v, l⟩ := t
  unfold TR at h
  obtain ⟨A, c, rfl, _⟩ := h
  exact ⟨_, _, _, rfl⟩
theorem zw47 {W : World} {r : Nat} {x : UInt8} (hr : W.heap[r]? = some (.cells #[.int .u8 x.toNat] 5 (0, 0))) : OwnB W (.slice (some ⟨r, 0, none⟩) 1 1) [x] :=
  ⟨[[.int .u8 x.toNat]], ⟨rfl, trivial⟩, ⟨rfl, .inr ⟨r, 1, _, rfl, Nat.zero_le _, hr, Nat.le_refl _, by decide, rfl, rfl⟩⟩⟩
theorem wrow {F : TT.den → List UInt8 → Option WrR} {g : FuncId} (hok : Ctr.ok Tryz.prog zw8 g ⟨⟨[.row 0, .val TT], [(.row 5 .u8, .pos 0)]⟩, (⟨[.row 0], [(.row 5 .u8, .pos 0)]⟩ : Spec).un [false], 0, fun y => F y.1.1 y.2.1⟩)
    {w : World} {Z : Nat → Prop} (hgl : GlCt w Z) (hZ : ∀ b, Z b → b < w.heap.size) {t : Tree} {o v : Int} {A : Option Addr} {k c : Nat} (ht : TR w Z t [.int .i64 o, .int .i64 v, .slice A k c]) {b : UInt8} (hob : IntKind.u8.wrap o = b.toNat)
    (hi : ∀ (q : Nat) (W : World), (Instr.index 75 (.agg (wTab q).toArray) (.int .i64 o)).run Tryz.prog W = .ok (.func (.func g) #[] #[]) W) (hen : ∀ (vs : Array Value) (W : World), (callFunc g vs).run Tryz.prog W = .ok (.enter g vs) W)
    {out : List UInt8} (hl : out.length ≤ 8192) (hF : F t.un [b] = some ((), (out, ()))) :
    Calls Tryz.prog 37 #[.agg #[.int .i64 o, .int .i64 v, .slice A k c]] w (WOut out w) := by
  refine zw93 hl (caps := fun _ => #[]) hi hen fun W' r q hk hr hq hne hhr hhq => ?_
  rw [hob] at hhr
  refine (zw97 hok (hgl.keep hk) (fun b h => Nat.lt_of_lt_of_le (hZ b h) hk.size) (ht.keep hk) (zw47 hhr) (fun b hb hz => ?_) hF).mono ?_
  · cases hb
    have : r < w.heap.size := hZ _ hz
    omega
  · rintro e w2 ⟨u, rfl, hk2, hou, hbu⟩
    refine ⟨u, rfl, hk2.weak fun b hb => ?_, hou, fun b hb => ?_⟩
    · cases hb; rfl
    · rcases hbu b hb with h | h
      · cases h; exact .inl rfl
      · exact .inr h
theorem wname {N : Nat} {w : World} {Z : Nat → Prop} (hgl : GlCt w Z) (hZ : ∀ b, Z b → b < w.heap.size) {t : Tree} {v : Int} {A : Option Addr} {k c : Nat} (ht : TR w Z t [.int .i64 2, .int .i64 v, .slice A k c])
    {out : List UInt8} (hl : out.length ≤ 8192) (hF : nameW N t.un [(2 : UInt8)] = some ((), (out, ()))) :
    Calls Tryz.prog 37 #[.agg #[.int .i64 2, .int .i64 v, .slice A k c]] w (WOut out w) := by
  refine zw93 hl (g := 85) (caps := fun q => #[.pointer (some ⟨q, 0, none⟩)]) (fun q W => by kernel_rfl) (fun vs W => by kernel_rfl) fun W' r q hk hr hq hne hhr hhq => ?_
  refine (zw98 (hgl.keep hk) (fun b h => Nat.lt_of_lt_of_le (hZ b h) hk.size) (ht.keep hk) (zw47 (x := 2) hhr) (fun b hb hz => ?_) (fun b hb => ?_) hhq (fun b hb => ?_) hF).mono ?_
  · cases hb
    have : r < w.heap.size := hZ _ hz
    omega
  · cases hb
    exact (Array.getElem?_eq_some_iff.1 hhr).1
  · cases hb
    exact hne
  · rintro e w2 ⟨u, rfl, hk2, hou, hbu⟩
    refine ⟨u, rfl, hk2.weak fun b hb => ?_, hou, fun b hb => ?_⟩
    · cases hb; rfl
    · rcases hbu b hb with h | h
      · cases h; exact .inl rfl
      · exact .inr h
theorem zw99 {N : Nat} {rc : TT.den → Option WrR} (hrc : Ctr.ok Tryz.prog zw8 37 (writeC rc)) {w : World} {Z : Nat → Prop} (hgl : GlCt w Z) (hZ : ∀ b, Z b → b < w.heap.size) {t : Tree} {cs : List Value} (ht : TR w Z t cs)
    {out : List UInt8} (hF : writeG N rc t.un = some ((), (out, ()))) : Calls Tryz.prog 37 #[.agg cs.toArray] w (WOut out w) := by
  unfold writeG at hF
  rw [Option.bind_eq_some_iff] at hF
  obtain ⟨⟨⟨⟩, out', ⟨⟩⟩, hO, hF⟩ := hF
  cases hl : Nat.ble out'.length 8192 with
  | false => simp only [hl, cond_false] at hF; cases hF
  | true =>
  simp only [hl, cond_true, Option.some.injEq, Prod.mk.injEq, true_and, and_true] at hF
  subst hF
  replace hl := Nat.le_of_ble_eq_true hl
  obtain ⟨A, k, c, rfl⟩ := ht.form2
  generalize ho : t.un.1 = o at *
  unfold zw1k at hO
  rw [ho] at hO
  cases h : decide (o = (1 : Int)) with
  | true => rw [h, cond_true] at hO; obtain rfl := of_decide_eq_true h; exact wrow (zq8_ok N) hgl hZ ht (b := 1) (by decide) (fun q W => by kernel_rfl) (fun vs W => by kernel_rfl) hl hO
  | false =>
  rw [h, cond_false] at hO; clear h
  cases h : decide (o = (2 : Int)) with
  | true => rw [h, cond_true] at hO; obtain rfl := of_decide_eq_true h; exact wname hgl hZ ht hl hO
  | false =>
  rw [h, cond_false] at hO; clear h
  cases h : decide (o = (3 : Int)) with
  | true => rw [h, cond_true] at hO; obtain rfl := of_decide_eq_true h; exact wrow (F := zq12 N rc) (zq12_ook N rc hrc) hgl hZ ht (b := 3) (by decide) (fun q W => by kernel_rfl) (fun vs W => by kernel_rfl) hl hO
  | false =>
  rw [h, cond_false] at hO; clear h
  cases h : decide (o = (4 : Int)) with
  | true => rw [h, cond_true] at hO; obtain rfl := of_decide_eq_true h; exact wrow (zq6_ok N) hgl hZ ht (b := 4) (by decide) (fun q W => by kernel_rfl) (fun vs W => by kernel_rfl) hl hO
  | false =>
  rw [h, cond_false] at hO; clear h
  cases h : decide (o = (5 : Int)) with
  | true => rw [h, cond_true] at hO; obtain rfl := of_decide_eq_true h; exact wrow (zq7_ok N) hgl hZ ht (b := 5) (by decide) (fun q W => by kernel_rfl) (fun vs W => by kernel_rfl) hl hO
  | false =>
  rw [h, cond_false] at hO; clear h
  cases h : decide (o = (6 : Int)) with
  | true => rw [h, cond_true] at hO; obtain rfl := of_decide_eq_true h; exact wrow (zq7_ok N) hgl hZ ht (b := 6) (by decide) (fun q W => by kernel_rfl) (fun vs W => by kernel_rfl) hl hO
  | false =>
  rw [h, cond_false] at hO; clear h
  cases h : decide (o = (7 : Int)) with
  | true => rw [h, cond_true] at hO; obtain rfl := of_decide_eq_true h; exact wrow (F := zq13 N rc) (zq13_ook N rc hrc) hgl hZ ht (b := 7) (by decide) (fun q W => by kernel_rfl) (fun vs W => by kernel_rfl) hl hO
  | false =>
  rw [h, cond_false] at hO; clear h
  cases h : decide (o = (8 : Int)) with
  | true => rw [h, cond_true] at hO; obtain rfl := of_decide_eq_true h; exact wrow (F := zq11 N rc) (zq11_ook N rc hrc) hgl hZ ht (b := 8) (by decide) (fun q W => by kernel_rfl) (fun vs W => by kernel_rfl) hl hO
  | false =>
  rw [h, cond_false] at hO; clear h
  cases h : decide (o = (9 : Int)) with
  | true => rw [h, cond_true] at hO; obtain rfl := of_decide_eq_true h; exact wrow (zq7_ok N) hgl hZ ht (b := 9) (by decide) (fun q W => by kernel_rfl) (fun vs W => by kernel_rfl) hl hO
  | false =>
  rw [h, cond_false] at hO; clear h
  cases h : decide (o = (10 : Int)) with
  | true => rw [h, cond_true] at hO; obtain rfl := of_decide_eq_true h; exact wrow (zq8_ok N) hgl hZ ht (b := 10) (by decide) (fun q W => by kernel_rfl) (fun vs W => by kernel_rfl) hl hO
  | false => rw [h, cond_false] at hO; cases hO
theorem zwft {N : Nat} {rc : TT.den → Option WrR} (hrc : Ctr.ok Tryz.prog zw8 37 (writeC rc)) : Ctr.ok Tryz.prog zw8 37 (writeC (writeG N rc)) where
  body := ⟨_, Tryz.func37, by kernel_rfl, by kernel_rfl⟩
  call := by
    intro E ob Z args x y hg hpins hlen hrep hF
    match args, hlen with
    | [a], _ =>
    obtain ⟨⟨x, ⟨⟩⟩, ⟨⟩⟩ := x
    obtain ⟨⟨⟩, out, ⟨⟩⟩ := y
    obtain ⟨cs, hd, ha⟩ : ∃ cs, DR E.w0 Z TT x cs ∧ a = .agg cs.toArray := (hrep.slots 0 (.sv (.data TT x)) rfl).2.1
    subst ha
    have hgl : GlCt E.w0 Z := fun g d hl => (hrep.globs g d (by rw [hg]; exact hl)).mono (U := fun _ => False) (Same.refl _ _) (fun _ h => h) (fun _ h => h.elim) (by simp [SV.ids])
    have hx : (mkT x).un = x := rfl
    have ht : TR E.w0 Z (mkT x) cs := TR_DR.2 (by rw [hx]; exact hd)
    refine (zw99 hrc hgl hrep.zlt ht (by rw [hx]; exact hF)).mono ?_
    rintro e w' ⟨u, rfl, hk, hou, hfr⟩
    have hpe : E.pins = [] := hpins
    obtain ⟨uss, h1, h2⟩ := hou
    have hblt : ∀ b, blk u = some b → b < w'.heap.size ∧ E.w0.heap.size ≤ b := fun b hb => ⟨OwnB.lt ⟨uss, h1, h2⟩ hb, hfr b hb⟩
    refine ⟨[u], fun _ => u, Z, rfl, rfl, ?_⟩
    exact {
      defers := rfl
      size := rfl
      kept := hk.weak fun _ h => h.elim
      zlt := fun b h => Nat.lt_of_lt_of_le (hrep.zlt b h) hk.size
      z0 := hrep.z0
      slots := by
        intro n g hl
        have hl' : look n [(0, GV.sv (.row 0))] = some g := hl
        match n, hl' with
        | 0, hl' =>
          cases hl'
          exact ⟨Nat.zero_lt_one, rfl, Nat.zero_lt_one⟩
        | n + 1, hl' => cases (show (none : Option GV) = some g from hl')
      objs := by
        intro i o hl
        have hl' : look i [(0, Ob.row 5 .u8 out true)] = some o := hl
        match i, hl' with
        | 0, hl' =>
          cases hl'
          exact ⟨Nat.zero_lt_one, ⟨uss, h1.mono fun _ _ h => h, h2, fun h => by cases h⟩, trivial⟩
        | i + 1, hl' => cases (show (none : Option Ob) = some o from hl')
      own := by
        intro i o hl _ b hb
        have := hblt b hb
        exact ⟨fun hz => by have := hrep.zlt b hz; omega, .inr this.2⟩
      apart := by
        intro i j o o' hij hl hl'
        have h1 : look i [(0, Ob.row 5 .u8 out true)] = some o := hl
        have h2 : look j [(0, Ob.row 5 .u8 out true)] = some o' := hl'
        match i, j, h1, h2 with
        | 0, 0, _, _ => exact absurd rfl hij
        | i + 1, _, h1, _ => cases (show (none : Option Ob) = some o from h1)
        | 0, j + 1, _, h2 => cases (show (none : Option Ob) = some o' from h2)
      globs := fun g d hl => (hrep.globs g d hl).mono (U := fun _ => False) (hk.same fun _ _ h => h) (fun _ h => h) (fun _ h => h.elim) (by simp [SV.ids])
      pins := fun p hp => by rw [hpe] at hp; cases hp }
theorem zw2n (N : Nat) : ∀ n : Nat, Ctr.ok Tryz.prog zw8 37 (writeC (zw2m N n))
  | 0 => zw14 Tryz.func37 (by kernel_rfl) (by kernel_rfl) (fun x => rfl)
  | n + 1 => zwft (zw2n N n)
end Go.Proofs.YtajpblfinenmjaaGreatDoor

namespace Go.Proofs.YtajpblfinenmjaaGreatDoor
open Go Go.RowKit
set_option linter.unusedVariables false
set_option maxRecDepth 100000
attribute [local go_sem] Oper.semAt_some
def thrV : Value := .iface 73 (.int .i64 11)
def WOutX (out : List UInt8) (w : World) (e : Ending) (w' : World) : Prop := (out.length ≤ 8192 ∧ WOut out w e w') ∨ (e = .panicked [{ v := thrV, recovered := false }] ∧ Kept (fun _ => False) w w')
set_option maxHeartbeats 4000000 in
theorem zw9a {w : World} {o v : Int} {A : Option Addr} {k c : Nat} {out : List UInt8} {g : FuncId} {caps : Nat → Array Value}
    (hi : ∀ (q : Nat) (W : World), (Instr.index 75 (.agg (wTab q).toArray) (.int .i64 o)).run Tryz.prog W = .ok (.func (.func g) #[] (caps q)) W) (hen : ∀ (vs : Array Value) (W : World), (callFunc g vs).run Tryz.prog W = .ok (.enter g vs) W)
    (hcall : ∀ (W : World) (r q : Nat), Kept (fun _ => False) w W → w.heap.size ≤ r → w.heap.size ≤ q → r ≠ q → W.heap[r]? = some (.cells #[.int .u8 (IntKind.u8.wrap o)] 5 (0, 0)) → W.heap[q]? = some (.cells #[.func (.func 82) #[] #[]] 62 (0, 0)) →
      Calls Tryz.prog g (#[.slice (some ⟨r, 0, none⟩) 1 1, .agg #[.int .i64 o, .int .i64 v, .slice A k c]] ++ caps q) W fun e W' => (∃ u, e = .returned u ∧ Kept (fun b => b = r) W W' ∧ OwnB W' u out ∧ ∀ b, blk u = some b → b = r ∨ W.heap.size ≤ b) ∨ (e = .panicked [{ v := thrV, recovered := false }] ∧ Kept (fun b => b = r) W W')) :
    Calls Tryz.prog 37 #[.agg #[.int .i64 o, .int .i64 v, .slice A k c]] w (WOutX out w) := by
  have mixed := zw8w
  go_enter Tryz.func37, Tryz.ntmps37
  go_wp2
  obtain ⟨W1, hW1⟩ : ∃ W1, W1 = w.alloc (.cells #[.int .i64 o, .int .i64 v, .slice A k c] 24) := ⟨_, rfl⟩
  have hs1 : W1.heap.size = w.heap.size + 1 := by rw [hW1]; simp
  have hk1 : Kept (fun _ => False) w W1 := by rw [hW1]; exact Kept.alloc _ _
  have hn1 : W1.heap[w.heap.size]? = some (.cells #[.int .i64 o, .int .i64 v, .slice A k c] 24 (0, 0)) := by rw [hW1]; exact World.alloc_heap_new w _
  have c0 : W1.cell? ⟨w.heap.size, 0, none⟩ = some (.int .i64 o) := zwg hn1 rfl
  have c1 : W1.cell? ⟨w.heap.size, 1, none⟩ = some (.int .i64 v) := zwg hn1 rfl
  have c2 : W1.cell? ⟨w.heap.size, 2, none⟩ = some (.slice A k c) := zwg hn1 rfl
  rw [← hW1]
  clear hW1 hn1
  have n0 := World.new_ne W1 _ c0
  have n1 := World.new_ne W1 _ c1
  have n2 := World.new_ne W1 _ c2
  go_region_held (fun w' => w'.cell? ⟨w.heap.size, 0, none⟩ = some (.int .i64 o) ∧ w'.cell? ⟨w.heap.size, 1, none⟩ = some (.int .i64 v) ∧ w'.cell? ⟨w.heap.size, 2, none⟩ = some (.slice A k c)) (go_keep) (first
    | (go_at_call 57; refine (zw92 _).mono ?_; rintro e w' ⟨rfl, hk, hq⟩; have d0 : w'.cell? ⟨w.heap.size, 0, none⟩ = some (.int .i64 o) := (by first | exact zwf (fun k hk' => hk.block k hk' (fun h => h)) c0 | exact zwf (fun k hk' => hk.block k hk' (fun h => h)) (zw1y _ c0)); have d1 : w'.cell? ⟨w.heap.size, 1, none⟩ = some (.int .i64 v) := (by first | exact zwf (fun k hk' => hk.block k hk' (fun h => h)) c1 | exact zwf (fun k hk' => hk.block k hk' (fun h => h)) (zw1y _ c1)); have d2 : w'.cell? ⟨w.heap.size, 2, none⟩ = some (.slice A k c) := (by first | exact zwf (fun k hk' => hk.block k hk' (fun h => h)) c2 | exact zwf (fun k hk' => hk.block k hk' (fun h => h)) (zw1y _ c2)))
    | (have hKW0 : Kept (fun _ => False) W1 w' := kN (Kept.drew _) hk
       have hKW1 : Kept (fun _ => False) W1 (w'.alloc (.cells #[.int .u8 (IntKind.u8.wrap o)] 5)) := kN hKW0 (Kept.alloc _ _)
       have hq' : w'.heap[w.heap.size + 1 + 1]? = some (.cells #[.func (.func 82) #[] #[]] 62 (0, 0)) := by rw [← hs1]; exact hq
       have hql := (Array.getElem?_eq_some_iff.1 hq').1
       have hr0 := hKW0.size
       refine (hcall _ _ _ (kN hk1 hKW1) (by omega) (by omega) (fun e => by omega) (World.alloc_heap_new _ _) ((Below.heap_alloc _ _ _ hql).trans hq')).mono ?_
       rintro e w2 (⟨u, rfl, hku, hou, hbu⟩ | ⟨rfl, hku⟩)
       rotate_left
       · exact ⟨rfl, .inr ⟨rfl, kN hk1 (hKW1.trans hku (fun b hb => .inr (by rw [hb]; exact hr0)))⟩⟩
       have hK2 : Kept (fun _ => False) W1 w2 := hKW1.trans hku (fun b hb => .inr (by rw [hb]; exact hr0))
       have hb2 : ∀ b, blk u = some b → w.heap.size ≤ b := fun b hb => by
         have h1 := hKW1.size
         rcases hbu b hb with h | h
         · rw [h]; omega
         · omega
       obtain ⟨A', c', rfl⟩ := hou.form
       have d0 : w2.cell? ⟨w.heap.size, 0, none⟩ = some (.int .i64 o) := zwf (fun k hk' => hK2.block k hk' (fun h => h)) c0; have d1 : w2.cell? ⟨w.heap.size, 1, none⟩ = some (.int .i64 v) := zwf (fun k hk' => hK2.block k hk' (fun h => h)) c1; have d2 : w2.cell? ⟨w.heap.size, 2, none⟩ = some (.slice A k c) := zwf (fun k hk' => hK2.block k hk' (fun h => h)) c2)
    | (have hKW1 : Kept (fun _ => False) W1 w' := kN (kN (Kept.drew _) (Kept.alloc _ _)) hk
       have hq' : w'.heap[w.heap.size + 1 + 1 + 1]? = some (.cells #[.func (.func 82) #[] #[]] 62 (0, 0)) := by
         have h2 := hq
         rw [show ((W1.alloc (.cells #[.int .u8 (IntKind.u8.wrap o)] 5)).drew).heap.size = w.heap.size + 1 + 1 from (World.size_alloc ..).trans (by rw [hs1])] at h2
         exact h2
       have hr' : w'.heap[w.heap.size + 1]? = some (.cells #[.int .u8 (IntKind.u8.wrap o)] 5 (0, 0)) := by
         rw [← hs1]; exact (hk.block _ (by simp) (fun h => h)).trans (World.alloc_heap_new _ _)
       refine (hcall _ _ _ (kN hk1 hKW1) (by omega) (by omega) (fun e => by omega) hr' hq').mono ?_
       rintro e w2 (⟨u, rfl, hku, hou, hbu⟩ | ⟨rfl, hku⟩)
       rotate_left
       · exact ⟨rfl, .inr ⟨rfl, kN hk1 (hKW1.trans hku (fun b hb => .inr (by rw [hb, hs1]; exact Nat.le_refl _)))⟩⟩
       have hK2 : Kept (fun _ => False) W1 w2 := hKW1.trans hku (fun b hb => .inr (by rw [hb, hs1]; exact Nat.le_refl _))
       have hb2 : ∀ b, blk u = some b → w.heap.size ≤ b := fun b hb => by
         have h1 := hKW1.size
         rcases hbu b hb with h | h
         · rw [h]; omega
         · omega
       obtain ⟨A', c', rfl⟩ := hou.form
       have d0 : w2.cell? ⟨w.heap.size, 0, none⟩ = some (.int .i64 o) := zwf (fun k hk' => hK2.block k hk' (fun h => h)) c0; have d1 : w2.cell? ⟨w.heap.size, 1, none⟩ = some (.int .i64 v) := zwf (fun k hk' => hK2.block k hk' (fun h => h)) c1; have d2 : w2.cell? ⟨w.heap.size, 2, none⟩ = some (.slice A k c) := zwf (fun k hk' => hK2.block k hk' (fun h => h)) c2))
  all_goals
    have hkf := kN hk1 hK2
    clear hi hen hcall
    by_cases hle : out.length ≤ 8192
    · have h8 : ¬ ((out.length : Nat) : Int) > 8192 := by omega
      go_wp2
      go_ret
      exact .inl ⟨hle, _, rfl, hkf, hou, hb2⟩
    · have h8 : ((out.length : Nat) : Int) > 8192 := by omega
      go_wp2
      have hp : (Instr.panic (.iface 73 (.int .i64 11))).run Tryz.prog w2 = .halt (.panic (.iface 73 (.int .i64 11))) w2 := rfl
      rw [hp]
      exact ⟨rfl, .inr ⟨rfl, hkf⟩⟩
end Go.Proofs.YtajpblfinenmjaaGreatDoor

namespace Go.Proofs.YtajpblfinenmjaaGreatDoor
open Go Go.RowKit
set_option linter.unusedVariables false
set_option maxRecDepth 100000
attribute [local go_sem] Oper.semAt_some
theorem zwfu {F : TT.den → List UInt8 → Option (Unit × (List UInt8 × Unit))} {g : FuncId} (hok : Ctr.okx (some thrV) Tryz.prog zw8 g ⟨⟨[.row 0, .val TT], [(.row 5 .u8, .pos 0)]⟩, (⟨[.row 0], [(.row 5 .u8, .pos 0)]⟩ : Spec).un [false], 0, fun y => F y.1.1 y.2.1⟩)
    {W : World} {Z : Nat → Prop} (hgl : GlCt W Z) (hZ : ∀ b, Z b → b < W.heap.size) {t : Tree} {cs : List Value} (ht : TR W Z t cs) {bv : Value} {xs : List UInt8} (hb : OwnB W bv xs) (hbZ : ∀ b, blk bv = some b → ¬ Z b) {out : List UInt8} (hF : F t.un xs = some ((), (out, ()))) :
    Calls Tryz.prog g #[bv, .agg cs.toArray] W fun e W' => (∃ u, e = .returned u ∧ Kept (fun b => blk bv = some b) W W' ∧ OwnB W' u out ∧ ∀ b, blk u = some b → blk bv = some b ∨ W.heap.size ≤ b) ∨ (e = .panicked [{ v := thrV, recovered := false }] ∧ Kept (fun b => blk bv = some b) W W') := by
  obtain ⟨uss0, p1, p2⟩ := hb
  refine (zw90 (M := fun b => blk bv = some b) (Z := Z) (ob := fun _ => bv) hok (Nat.zero_le _) hgl (args := [bv, .agg cs.toArray]) (x := ((t.un, ()), (xs, ()))) (y := ((), (out, ()))) rfl hZ ⟨rfl, ⟨cs, TR_DR.1 ht, rfl⟩, trivial⟩ (fun g hg => ?_) (fun i o hl => ?_) (fun i j h1 h2 => ?_) hF).mono ?_
  · have hg' : g ∈ [GV.sv (.row 0), .sv (.data TT t.un)] := hg
    simp only [List.mem_cons, List.not_mem_nil, or_false] at hg'
    rcases hg' with rfl | rfl
    · exact Nat.zero_lt_one
    · trivial
  · have hl' : [Ob.row 5 .u8 xs true][i]? = some o := hl
    match i, hl' with
    | 0, hl' =>
      cases hl'
      exact ⟨⟨uss0, p1.mono fun _ _ h => h, p2, fun h => by cases h⟩, trivial, fun b hb => ⟨hbZ b hb, hb⟩⟩
    | i + 1, hl' => simp at hl'
  · have : j < 1 := h2
    omega
  · rintro e w' (⟨vs, ob', Z', rfl, hl, hr⟩ | ⟨v, h1, rfl, h2⟩)
    · match vs, hl with
      | [v], _ =>
      obtain rfl : v = ob' 0 := (hr.slots 0 (.sv (.row 0)) rfl).2.1
      have ho := (hr.objs 0 (.row 5 .u8 out true) rfl).2.1
      have hw := hr.own 0 (.row 5 .u8 out true) rfl rfl
      obtain ⟨uss, h1, h2, _⟩ := ho
      exact .inl ⟨ob' 0, rfl, hr.kept, ⟨uss, h1.mono fun _ _ h => h, h2⟩, fun b hb => (hw b hb).2⟩
    · cases h1
      exact .inr ⟨rfl, h2⟩
theorem wrowX {F : TT.den → List UInt8 → Option WrR} {g : FuncId} (hok : Ctr.okx (some thrV) Tryz.prog zw8 g ⟨⟨[.row 0, .val TT], [(.row 5 .u8, .pos 0)]⟩, (⟨[.row 0], [(.row 5 .u8, .pos 0)]⟩ : Spec).un [false], 0, fun y => F y.1.1 y.2.1⟩)
    {w : World} {Z : Nat → Prop} (hgl : GlCt w Z) (hZ : ∀ b, Z b → b < w.heap.size) {t : Tree} {o v : Int} {A : Option Addr} {k c : Nat} (ht : TR w Z t [.int .i64 o, .int .i64 v, .slice A k c]) {b : UInt8} (hob : IntKind.u8.wrap o = b.toNat)
    (hi : ∀ (q : Nat) (W : World), (Instr.index 75 (.agg (wTab q).toArray) (.int .i64 o)).run Tryz.prog W = .ok (.func (.func g) #[] #[]) W) (hen : ∀ (vs : Array Value) (W : World), (callFunc g vs).run Tryz.prog W = .ok (.enter g vs) W)
    {out : List UInt8} (hF : F t.un [b] = some ((), (out, ()))) :
    Calls Tryz.prog 37 #[.agg #[.int .i64 o, .int .i64 v, .slice A k c]] w (WOutX out w) := by
  refine zw9a (caps := fun _ => #[]) hi hen fun W' r q hk hr hq hne hhr hhq => ?_
  rw [hob] at hhr
  refine (zwfu hok (hgl.keep hk) (fun b h => Nat.lt_of_lt_of_le (hZ b h) hk.size) (ht.keep hk) (zw47 hhr) (fun b hb hz => ?_) hF).mono ?_
  · cases hb
    have : r < w.heap.size := hZ _ hz
    omega
  · rintro e w2 (⟨u, rfl, hk2, hou, hbu⟩ | ⟨rfl, hk2⟩)
    · refine .inl ⟨u, rfl, hk2.weak fun b hb => ?_, hou, fun b hb => ?_⟩
      · cases hb; rfl
      · rcases hbu b hb with h | h
        · cases h; exact .inl rfl
        · exact .inr h
    · exact .inr ⟨rfl, hk2.weak fun b hb => by cases hb; rfl⟩
theorem wnameX {N : Nat} {w : World} {Z : Nat → Prop} (hgl : GlCt w Z) (hZ : ∀ b, Z b → b < w.heap.size) {t : Tree} {v : Int} {A : Option Addr} {k c : Nat} (ht : TR w Z t [.int .i64 2, .int .i64 v, .slice A k c])
    {out : List UInt8} (hF : nameW N t.un [(2 : UInt8)] = some ((), (out, ()))) :
    Calls Tryz.prog 37 #[.agg #[.int .i64 2, .int .i64 v, .slice A k c]] w (WOutX out w) := by
  refine zw9a (g := 85) (caps := fun q => #[.pointer (some ⟨q, 0, none⟩)]) (fun q W => by kernel_rfl) (fun vs W => by kernel_rfl) fun W' r q hk hr hq hne hhr hhq => ?_
  refine (zw98 (hgl.keep hk) (fun b h => Nat.lt_of_lt_of_le (hZ b h) hk.size) (ht.keep hk) (zw47 (x := 2) hhr) (fun b hb hz => ?_) (fun b hb => ?_) hhq (fun b hb => ?_) hF).mono ?_
  · cases hb
    have : r < w.heap.size := hZ _ hz
    omega
  · cases hb
    exact (Array.getElem?_eq_some_iff.1 hhr).1
  · cases hb
    exact hne
  · rintro e w2 ⟨u, rfl, hk2, hou, hbu⟩
    refine .inl ⟨u, rfl, hk2.weak fun b hb => ?_, hou, fun b hb => ?_⟩
    · cases hb; rfl
    · rcases hbu b hb with h | h
      · cases h; exact .inl rfl
      · exact .inr h
theorem zw9b {N : Nat} {rc : TT.den → Option WrR} (hrc : Ctr.okx (some thrV) Tryz.prog zw8 37 (writeC rc)) {w : World} {Z : Nat → Prop} (hgl : GlCt w Z) (hZ : ∀ b, Z b → b < w.heap.size) {t : Tree} {cs : List Value} (ht : TR w Z t cs)
    {out : List UInt8} (hO : zw1k N rc t.un = some ((), (out, ()))) : Calls Tryz.prog 37 #[.agg cs.toArray] w (WOutX out w) := by
  obtain ⟨A, k, c, rfl⟩ := ht.form2
  generalize ho : t.un.1 = o at *
  unfold zw1k at hO
  rw [ho] at hO
  cases h : decide (o = (1 : Int)) with
  | true => rw [h, cond_true] at hO; obtain rfl := of_decide_eq_true h; exact wrowX (zq8_ok N).okx hgl hZ ht (b := 1) (by decide) (fun q W => by kernel_rfl) (fun vs W => by kernel_rfl) hO
  | false =>
  rw [h, cond_false] at hO; clear h
  cases h : decide (o = (2 : Int)) with
  | true => rw [h, cond_true] at hO; obtain rfl := of_decide_eq_true h; exact wnameX hgl hZ ht hO
  | false =>
  rw [h, cond_false] at hO; clear h
  cases h : decide (o = (3 : Int)) with
  | true => rw [h, cond_true] at hO; obtain rfl := of_decide_eq_true h; exact wrowX (F := zq12 N rc) (zq12_okx N rc _ hrc) hgl hZ ht (b := 3) (by decide) (fun q W => by kernel_rfl) (fun vs W => by kernel_rfl) hO
  | false =>
  rw [h, cond_false] at hO; clear h
  cases h : decide (o = (4 : Int)) with
  | true => rw [h, cond_true] at hO; obtain rfl := of_decide_eq_true h; exact wrowX (zq6_ok N).okx hgl hZ ht (b := 4) (by decide) (fun q W => by kernel_rfl) (fun vs W => by kernel_rfl) hO
  | false =>
  rw [h, cond_false] at hO; clear h
  cases h : decide (o = (5 : Int)) with
  | true => rw [h, cond_true] at hO; obtain rfl := of_decide_eq_true h; exact wrowX (zq7_ok N).okx hgl hZ ht (b := 5) (by decide) (fun q W => by kernel_rfl) (fun vs W => by kernel_rfl) hO
  | false =>
  rw [h, cond_false] at hO; clear h
  cases h : decide (o = (6 : Int)) with
  | true => rw [h, cond_true] at hO; obtain rfl := of_decide_eq_true h; exact wrowX (zq7_ok N).okx hgl hZ ht (b := 6) (by decide) (fun q W => by kernel_rfl) (fun vs W => by kernel_rfl) hO
  | false =>
  rw [h, cond_false] at hO; clear h
  cases h : decide (o = (7 : Int)) with
  | true => rw [h, cond_true] at hO; obtain rfl := of_decide_eq_true h; exact wrowX (F := zq13 N rc) (zq13_okx N rc _ hrc) hgl hZ ht (b := 7) (by decide) (fun q W => by kernel_rfl) (fun vs W => by kernel_rfl) hO
  | false =>
  rw [h, cond_false] at hO; clear h
  cases h : decide (o = (8 : Int)) with
  | true => rw [h, cond_true] at hO; obtain rfl := of_decide_eq_true h; exact wrowX (F := zq11 N rc) (zq11_okx N rc _ hrc) hgl hZ ht (b := 8) (by decide) (fun q W => by kernel_rfl) (fun vs W => by kernel_rfl) hO
  | false =>
  rw [h, cond_false] at hO; clear h
  cases h : decide (o = (9 : Int)) with
  | true => rw [h, cond_true] at hO; obtain rfl := of_decide_eq_true h; exact wrowX (zq7_ok N).okx hgl hZ ht (b := 9) (by decide) (fun q W => by kernel_rfl) (fun vs W => by kernel_rfl) hO
  | false =>
  rw [h, cond_false] at hO; clear h
  cases h : decide (o = (10 : Int)) with
  | true => rw [h, cond_true] at hO; obtain rfl := of_decide_eq_true h; exact wrowX (zq8_ok N).okx hgl hZ ht (b := 10) (by decide) (fun q W => by kernel_rfl) (fun vs W => by kernel_rfl) hO
  | false =>
  rw [h, cond_false] at hO; cases hO
noncomputable def zw2w (N : Nat) : Nat → TT.den → Option WrR
  | 0 => fun _ => none
  | n + 1 => fun x => zw1k N (zw2w N n) x
theorem zwfv {N : Nat} {rc : TT.den → Option WrR} (hrc : Ctr.okx (some thrV) Tryz.prog zw8 37 (writeC rc)) : Ctr.okx (some thrV) Tryz.prog zw8 37 (writeC (zw1k N rc)) where
  body := ⟨_, Tryz.func37, by kernel_rfl, by kernel_rfl⟩
  call := by
    intro E ob Z args x y hx hg hpins hlen hrep hF
    match args, hlen with
    | [a], _ =>
    obtain ⟨⟨x, ⟨⟩⟩, ⟨⟩⟩ := x
    obtain ⟨⟨⟩, out, ⟨⟩⟩ := y
    obtain ⟨cs, hd, ha⟩ : ∃ cs, DR E.w0 Z TT x cs ∧ a = .agg cs.toArray := (hrep.slots 0 (.sv (.data TT x)) rfl).2.1
    subst ha
    have hgl : GlCt E.w0 Z := fun g d hl => (hrep.globs g d (by rw [hg]; exact hl)).mono (U := fun _ => False) (Same.refl _ _) (fun _ h => h) (fun _ h => h.elim) (by simp [SV.ids])
    have hx : (mkT x).un = x := rfl
    have ht : TR E.w0 Z (mkT x) cs := TR_DR.2 (by rw [hx]; exact hd)
    refine (zw9b hrc hgl hrep.zlt ht (by rw [hx]; exact hF)).mono ?_
    rintro e w' (⟨_, u, rfl, hk, hou, hfr⟩ | ⟨rfl, hk⟩)
    rotate_left
    · exact .inr ⟨_, rfl, rfl, hk.weak fun _ h => h.elim⟩
    left
    have hpe : E.pins = [] := hpins
    obtain ⟨uss, h1, h2⟩ := hou
    have hblt : ∀ b, blk u = some b → b < w'.heap.size ∧ E.w0.heap.size ≤ b := fun b hb => ⟨OwnB.lt ⟨uss, h1, h2⟩ hb, hfr b hb⟩
    refine ⟨[u], fun _ => u, Z, rfl, rfl, ?_⟩
    exact {
      defers := rfl
      size := rfl
      kept := hk.weak fun _ h => h.elim
      zlt := fun b h => Nat.lt_of_lt_of_le (hrep.zlt b h) hk.size
      z0 := hrep.z0
      slots := by
        intro n g hl
        have hl' : look n [(0, GV.sv (.row 0))] = some g := hl
        match n, hl' with
        | 0, hl' =>
          cases hl'
          exact ⟨Nat.zero_lt_one, rfl, Nat.zero_lt_one⟩
        | n + 1, hl' => cases (show (none : Option GV) = some g from hl')
      objs := by
        intro i o hl
        have hl' : look i [(0, Ob.row 5 .u8 out true)] = some o := hl
        match i, hl' with
        | 0, hl' =>
          cases hl'
          exact ⟨Nat.zero_lt_one, ⟨uss, h1.mono fun _ _ h => h, h2, fun h => by cases h⟩, trivial⟩
        | i + 1, hl' => cases (show (none : Option Ob) = some o from hl')
      own := by
        intro i o hl _ b hb
        have := hblt b hb
        exact ⟨fun hz => by have := hrep.zlt b hz; omega, .inr this.2⟩
      apart := by
        intro i j o o' hij hl hl'
        have h1 : look i [(0, Ob.row 5 .u8 out true)] = some o := hl
        have h2 : look j [(0, Ob.row 5 .u8 out true)] = some o' := hl'
        match i, j, h1, h2 with
        | 0, 0, _, _ => exact absurd rfl hij
        | i + 1, _, h1, _ => cases (show (none : Option Ob) = some o from h1)
        | 0, j + 1, _, h2 => cases (show (none : Option Ob) = some o' from h2)
      globs := fun g d hl => (hrep.globs g d hl).mono (U := fun _ => False) (hk.same fun _ _ h => h) (fun _ h => h) (fun _ h => h.elim) (by simp [SV.ids])
      pins := fun p hp => by rw [hpe] at hp; cases hp }
theorem zw9c (N : Nat) : ∀ n : Nat, Ctr.okx (some thrV) Tryz.prog zw8 37 (writeC (zw2w N n))
  | 0 => (zw14 Tryz.func37 (by kernel_rfl) (by kernel_rfl) (fun x => rfl) : Ctr.ok Tryz.prog zw8 37 (writeC (zw2w N 0))).okx
  | n + 1 => zwfv (zw9c N n)
end Go.Proofs.YtajpblfinenmjaaGreatDoor

namespace Go.Proofs.YtajpblfinenmjaaGreatDoor
open Go Go.RowKit
set_option linter.unusedVariables false
set_option maxRecDepth 100000
attribute [local go_sem] Oper.semAt_some
def Threw (w : World) (e : Ending) (w' : World) : Prop := e = .panicked [{ v := thrV, recovered := false }] ∧ Kept (fun _ => False) w w'
theorem zwfw (p : Addr) (w : World) (hc : w.cell? p = some (.int .i64 0)) (hz : w.frozen? p = false) :
    CallsD Tryz.prog 56 #[.pointer (some p)] (.panicking [{ v := thrV, recovered := false }]) w fun e u' w' => e = .returned (.tuple #[]) ∧ u' = .panicking [{ v := thrV, recovered := true }] ∧ w' = w.setCell p (.int .i64 11) := by
  refine callsD_of_wpS Tryz.func56 rfl fun c₀ cs hu => ?_
  apply wpS_seq
  apply wpS_region
  simp [wpOpsS, go_sem, recoverD, hu, Tryz.ntmps56, Exit.thenS, thrV]
  apply wpS_seq
  apply wpS_region
  simp [wpOpsS, go_sem, Exit.thenS]
  refine wpS_cond (t := true) (by simp [Act.eval, Array.replicate]) ?_
  simp only [if_true]
  refine wpS_of_wp ?_
  have hta : ∀ W : World, (Instr.typeAssert (.iface 73 (.int .i64 11)) 20 73 true).run Tryz.prog W = .ok (.tuple #[.int .i64 11, .bool true]) W := fun W => by kernel_rfl
  simp only [Array.replicate_succ, Array.replicate_zero, List.push_toArray, List.append_toArray, List.nil_append, List.cons_append, List.setIfInBounds_toArray, List.set_cons_zero, List.set_cons_succ]
  go_wp2
  simp [bodyPostS, results]
set_option maxHeartbeats 4000000 in
theorem zwfx {w : World} {g : FuncId} {caps : Array Value} {Q : World → Prop} (hen : ∀ (W : World), (callFunc g caps).run Tryz.prog W = .ok (.enter g caps) W)
    (hcall : Calls Tryz.prog g caps (w.alloc (.cells #[.int .i64 0] 31)) fun e w' => e = .panicked [{ v := thrV, recovered := false }] ∧ Q w' ∧ w'.heap[w.heap.size]? = some (.cells #[.int .i64 0] 31 (0, 0))) :
    Calls Tryz.prog 35 #[.func (.func g) #[] caps] w fun e w' => e = .returned (.int .i64 11) ∧ ∃ w1, Q w1 ∧ w' = w1.setCell ⟨w.heap.size, 0, none⟩ (.int .i64 11) := by
  have hmf : ∀ (fn : Fn) (first cap : Array Value) (w : World), (Instr.makeFunc fn first cap).run Tryz.prog w = .ok (.func fn first cap) w := fun _ _ _ _ => rfl
  go_enter_defers Tryz.func35, Tryz.ntmps35
  go_wp2
  refine hcall.mono ?_
  rintro e w1 ⟨rfl, hQ, hX⟩
  obtain ⟨hc, hf⟩ := zw2v hX
  have hc2 : (w1.setCell ⟨w.heap.size, 0, none⟩ (.int .i64 11)).cell? ⟨w.heap.size, 0, none⟩ = some (.int .i64 11) := World.cell?_setCell_same' _ _ _ (by rw [hc]; rfl)
  refine leaves_cons (f := 56) (args := #[.pointer (some ⟨w.heap.size, 0, none⟩)]) (by simp) (by simp [go_sem]) ?_
  refine (zwfw ⟨w.heap.size, 0, none⟩ _ hc hf).mono ?_
  rintro e u' w'' ⟨rfl, rfl, rfl⟩
  simp [Leaves, settle, results, go_sem, hc2]
  exact ⟨w1, hQ, rfl⟩
set_option maxHeartbeats 4000000 in
theorem zwfy {W : World} {bt bb : Nat} {o v : Int} {A : Option Addr} {k c : Nat} (ht : W.heap[bt]? = some (.cells #[.int .i64 o, .int .i64 v, .slice A k c] 24 (0, 0)))
    (hw : Calls Tryz.prog 37 #[.agg #[.int .i64 o, .int .i64 v, .slice A k c]] W (Threw W)) :
    Calls Tryz.prog 36 #[.pointer (some ⟨bt, 0, none⟩), .pointer (some ⟨bb, 0, none⟩)] W (Threw W) := by
  have c0 : W.cell? ⟨bt, 0, none⟩ = some (.int .i64 o) := zwg ht rfl
  have c1 : W.cell? ⟨bt, 1, none⟩ = some (.int .i64 v) := zwg ht rfl
  have c2 : W.cell? ⟨bt, 2, none⟩ = some (.slice A k c) := zwg ht rfl
  go_enter Tryz.func36, Tryz.ntmps36
  go_wp2_with (go_at_call 37; refine hw.mono ?_; rintro e w1 ⟨rfl, hk⟩)
  exact ⟨rfl, rfl, hk⟩
set_option maxHeartbeats 4000000 in
theorem zwfz {N : Nat} {w : World} {Z : Nat → Prop} (hgl : GlCt w Z) (hZ : ∀ b, Z b → b < w.heap.size) {T : Tree} {cs : List Value} (ht : TR w Z T cs) (hV : zq97 N T.un = some ((true, ()), ()))
    (hw : ∀ W, Kept (fun _ => False) w W → Calls Tryz.prog 37 #[.agg cs.toArray] W (Threw W)) :
    Calls Tryz.prog 10 #[.agg cs.toArray] w fun e w' => Kept (fun _ => False) w w' ∧ e = .returned (.tuple #[.slice none 0 0, .int .i64 11]) := by
  have hmf : ∀ (fn : Fn) (first cap : Array Value) (w : World), (Instr.makeFunc fn first cap).run Tryz.prog w = .ok (.func fn first cap) w := fun _ _ _ _ => rfl
  obtain ⟨o, v, A, k, c, rfl⟩ := ht.form
  obtain ⟨W1, hW1⟩ : ∃ W1, W1 = w.alloc (.cells #[.int .i64 o, .int .i64 v, .slice A k c] 24) := ⟨_, rfl⟩
  have hs1 : W1.heap.size = w.heap.size + 1 := by rw [hW1]; simp
  have hk1 : Kept (fun _ => False) w W1 := by rw [hW1]; exact Kept.alloc _ _
  have hn1 : W1.heap[w.heap.size]? = some (.cells #[.int .i64 o, .int .i64 v, .slice A k c] 24 (0, 0)) := by rw [hW1]; exact World.alloc_heap_new w _
  have hval := callsIn_wide.1 (zw5n 5 (by omega) (hgl.keep hk1) (fun b h => Nat.lt_of_lt_of_le (hZ b h) hk1.size) (ht.keep hk1) hV)
  rw [hW1] at hval
  go_enter Tryz.func10, Tryz.ntmps10
  go_wp2_with (go_at_call 34; refine hval.mono ?_; rintro e W2 ⟨rfl, hk2⟩)
  rw [← hW1] at hk2
  have hK2 := kN hk1 hk2
  obtain ⟨W3, hW3⟩ : ∃ W3, W3 = W2.alloc (.cells #[.slice none 0 0] 25) := ⟨_, rfl⟩
  have hs3 : W3.heap.size = W2.heap.size + 1 := by rw [hW3]; simp
  have hK3 : Kept (fun _ => False) w W3 := by rw [hW3]; exact kN hK2 (Kept.alloc _ _)
  have hn3 : W3.heap[W2.heap.size]? = some (.cells #[.slice none 0 0] 25 (0, 0)) := by rw [hW3]; exact World.alloc_heap_new W2 _
  have hz2 := hK2.size
  have hz2' := hk2.size
  have ht3 : W3.heap[w.heap.size]? = some (.cells #[.int .i64 o, .int .i64 v, .slice A k c] 24 (0, 0)) := by
    rw [hW3]; exact (Below.heap_alloc _ _ _ (by omega)).trans ((hk2.block _ (by omega) (fun h => h)).trans hn1)
  rw [← hW3]
  clear hW3 hval
  obtain ⟨W4, hW4⟩ : ∃ W4, W4 = W3.alloc (.cells #[.int .i64 0] 31) := ⟨_, rfl⟩
  have hs4 : W4.heap.size = W3.heap.size + 1 := by rw [hW4]; simp
  have hk4 : Kept (fun _ => False) W3 W4 := by rw [hW4]; exact Kept.alloc _ _
  have hn4 : W4.heap[W3.heap.size]? = some (.cells #[.int .i64 0] 31 (0, 0)) := by rw [hW4]; exact World.alloc_heap_new W3 _
  have ht4 := (hk4.block _ (by omega) (fun h => h)).trans ht3
  have hcl := zwfy (bb := W2.heap.size) ht4 (hw W4 (kN hK3 hk4))
  have hca := zwfx (w := W3) (g := 36) (caps := #[.pointer (some ⟨w.heap.size, 0, none⟩), .pointer (some ⟨W2.heap.size, 0, none⟩)]) (Q := fun w' => Kept (fun _ => False) W4 w') (fun W => by kernel_rfl) (by
    rw [← hW4]
    refine hcl.mono ?_
    rintro e w' ⟨rfl, q1⟩
    exact ⟨rfl, q1, (q1.block _ (by omega) (fun h => h)).trans hn4⟩)
  clear hcl
  refine hca.mono ?_
  rintro e w' ⟨rfl, w1, q1, rfl⟩
  have hkf : Kept (fun _ => False) w (w1.setCell ⟨W3.heap.size, 0, none⟩ (.int .i64 11)) :=
    keptB ((zw94 (kN (kN hK3 hk4) q1)).setCell (p := ⟨W3.heap.size, 0, none⟩) (by show w.heap.size ≤ W3.heap.size; omega) _)
  generalize w1.setCell ⟨W3.heap.size, 0, none⟩ (.int .i64 11) = w5 at *
  go_wp2
  go_ret2
  exact ⟨hkf, rfl⟩
abbrev zq33_R : Type := ((Int × Unit) × ((List UInt8) × Unit))
noncomputable def zq33 (N : Nat) (x : TT.den) : Option zq33_R :=
  Option.bind (zq97 N x) fun y1 =>
  bif (!y1.1.1) then
    some (((26 : Int), ()), (([] : List UInt8), ()))
  else
    Option.bind (zw2w N N x) fun y2 =>
    bif Nat.ble y2.2.1.length 8192 then
      Option.bind (zw2m N N x) fun y3 => some (((0 : Int), ()), (y3.2.1, ()))
    else
      some (((11 : Int), ()), (([] : List UInt8), ()))
theorem zwg0 {N : Nat} {w : World} {Z : Nat → Prop} (hgl : GlCt w Z) (hZ : ∀ b, Z b → b < w.heap.size) {x : TT.den} {cs : List Value} (hd : DR w Z TT x cs) {er : Int} {out : List UInt8} (hF : zq33 N x = some ((er, ()), (out, ()))) :
    Calls Tryz.prog 10 #[.agg cs.toArray] w fun e w' => ∃ u, e = .returned (.tuple #[u, .int .i64 er]) ∧ (-9223372036854775808 ≤ er ∧ er ≤ 9223372036854775807) ∧ Kept (fun _ => False) w w' ∧ OwnB w' u out ∧ ∀ b, blk u = some b → w.heap.size ≤ b := by
  have hx : (mkT x).un = x := rfl
  have ht : TR w Z (mkT x) cs := TR_DR.2 (by rw [hx]; exact hd)
  unfold zq33 at hF
  simp only [Option.bind_eq_some_iff] at hF
  obtain ⟨⟨⟨b, ⟨⟩⟩, ⟨⟩⟩, hV, hF⟩ := hF
  cases b with
  | false =>
    simp only [Bool.not_false, cond_true, Option.some.injEq] at hF
    cases hF
    refine (zw95 hgl hZ ht (b := false) hV (out := []) (fun h => by cases h)).mono ?_
    rintro e w' ⟨hk, ⟨_, rfl⟩ | ⟨h, _⟩⟩
    · exact ⟨_, rfl, ⟨by decide, by decide⟩, hk, ⟨[], trivial, rfl, .inl ⟨rfl, rfl⟩⟩, fun b hb => by cases hb⟩
    · cases h
  | true =>
    simp only [Bool.not_true, cond_false, Option.bind_eq_some_iff] at hF
    obtain ⟨⟨⟨⟩, ideal, ⟨⟩⟩, hi, hF⟩ := hF
    cases hl : Nat.ble ideal.length 8192 with
    | true =>
      simp only [hl, cond_true, Option.bind_eq_some_iff] at hF
      obtain ⟨⟨⟨⟩, out', ⟨⟩⟩, hf, hF⟩ := hF
      simp only [Option.some.injEq, Prod.mk.injEq, and_true] at hF
      obtain ⟨rfl, rfl⟩ := hF
      have hf2 : ∃ m, writeG N (zw2m N m) x = some ((), (out', ())) := by
        cases N with
        | zero => cases hf
        | succ m => exact ⟨m, hf⟩
      obtain ⟨m, hf2⟩ := hf2
      refine (zw95 hgl hZ ht (b := true) hV (out := out') (fun _ W hk => zw99 (zw2n N m) (hgl.keep hk) (fun b h => Nat.lt_of_lt_of_le (hZ b h) hk.size) (ht.keep hk) (by rw [hx]; exact hf2))).mono ?_
      rintro e w' ⟨hk, ⟨h, _⟩ | ⟨_, u, rfl, ho, hfr⟩⟩
      · cases h
      · exact ⟨u, rfl, ⟨by decide, by decide⟩, hk, ho, hfr⟩
    | false =>
      simp only [hl, cond_false, Option.some.injEq] at hF
      cases hF
      have hf2 : ∃ m, zw1k N (zw2w N m) x = some ((), (ideal, ())) := by
        cases N with
        | zero => cases hi
        | succ m => exact ⟨m, hi⟩
      obtain ⟨m, hf2⟩ := hf2
      have hlt : ¬ ideal.length ≤ 8192 := fun h => by rw [Nat.ble_eq_true_of_le h] at hl; cases hl
      refine (zwfz hgl hZ ht hV (fun W hk => (zw9b (zw9c N m) (hgl.keep hk) (fun b h => Nat.lt_of_lt_of_le (hZ b h) hk.size) (ht.keep hk) (by rw [hx]; exact hf2)).mono fun e w' q => ?_)).mono ?_
      · rcases q with ⟨h, _⟩ | q
        · exact absurd h hlt
        · exact q
      · rintro e w' ⟨hk, rfl⟩
        exact ⟨_, rfl, ⟨by decide, by decide⟩, hk, ⟨[], trivial, rfl, .inl ⟨rfl, rfl⟩⟩, fun b hb => by cases hb⟩
end Go.Proofs.YtajpblfinenmjaaGreatDoor
