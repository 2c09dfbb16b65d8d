/- The ghost machine and the machine: copies, literals, conversions, closures. -/
import Derived.Test.YtehbbcdhahnkgaaGreatGmOpH
set_option linter.unusedVariables false
set_option linter.unusedSimpArgs false
namespace Go.Proofs.YtehbbcdhahnkgaaGreat
open Go
section
variable {P : Program} {Γ : Ctx} {E : Env} {N : Nat} {U : Nat → Prop} {ob : Nat → Value} {Z : Nat → Prop} {s : GS} {a : Act} {w : World} {ws : List Wr} {o : Oper} {fresh : Nat} {Q : Exit → Act → World → Prop}

theorem run_first {v : Value} {t : Ty} {ys : List t.den} (h : LA w Z v t ys) (m : Nat) (hm : m ≤ ys.length) :
  ∃ uss, (Builtin.firstCells t.size m v).run P w = .ok uss.flatten.toArray w ∧ All2 (DR w Z t) (ys.take m) uss := by
 obtain ⟨A, c, rfl, h1, h2, h3⟩ := h
 rcases Nat.eq_zero_or_pos m with h0 | h0
 ·subst h0
  refine ⟨[], ?_, by simp [All2]⟩
  cases A with
  | none => simp [Builtin.firstCells]
  | some ad => simp [Builtin.firstCells, loadCells, loadCellsFrom]
 ·obtain ⟨b, off, uss, rfl, hlt, ha, hc⟩ := h3 (by omega)
  refine ⟨uss.take m, ?_, ha.take m⟩
  have hl : (uss.take m).flatten.length = m * t.size := by rw [(ha.take m).flatD, List.length_take, Nat.min_eq_left hm]
  refine run_firstCells_some w _ m ⟨b, off, none⟩ _ c _ hl (fun j u hu => ?_)
  rw [Addr.add_mid]
  refine hc j u ?_
  rw [flatten_take ha.lenD, List.getElem?_take] at hu
  split at hu
  ·exact hu
  ·cases hu
theorem lenOf_slice {v : Value} {t : Ty} {ys : List t.den} (h : LA w Z v t ys) : (Builtin.lenOf v).run P w = .ok ys.length w := by
 obtain ⟨A, c, rfl, _⟩ := h
 rfl
theorem splice_len {α : Type} (xs ys : List α) : (splice xs ys).length = xs.length := by unfold splice; simp; omega

theorem op_copy (hT : TysOk P Γ) (h : RepAt E Γ.N U ob Z s a w) (hg : E.globs = Γ.globs) {c : Call} {x y : Operand} (ho : o.op = .call c) (hc : c.callee = .builtin .copy) (ha : c.args = #[x, y]) {types : List TypeId} (hty : c.argTypes.toList = types)
  (hr : (builtinR Γ fresh o .copy [x, y] types).run s = some ws) : o.wp P a w (After E Γ.N U fresh s ws) Q := by
 simp only [builtinR] at hr
 split at hr
 ·rename_i tx rest
  have hat : (c.argTypes[0]? : Option TypeId) = some tx := by rw [← Array.getElem?_toList, hty]; rfl
  replace hr := tyR_ok hr
  obtain ⟨ti, hl, hr⟩ := hr
  have hsh := (hT _ _ hl).shape
  split at hr
  ·rename_i t htt
   rw [htt] at hsh
   replace hr := svR_ok h hg hr
   obtain ⟨v, h1, h2, hr⟩ := hr
   replace hr := svR_ok h hg hr
   obtain ⟨u, h3, h4, hr⟩ := hr
   replace hr := listR_ok h h3 hr
   obtain ⟨ys, hr, h5, _⟩ := hr
   have key : ∀ (g n cap : Nat) (e : TypeId) (cur : Array Value), a.eval x = .slice (some ⟨g, 0, none⟩) n cap → w.heap[g]? = some (.cells cur e (0, 0)) → n * t.size ≤ cur.size → ∃ uss, All2 (DR w Z t) (ys.take n) uss ∧
     (execOp a.eval o).run P w = .ok (.value (.int .i64 ((min ys.length n : Nat) : Int))) (w.setRow g (repl cur.toList uss.flatten 0).toArray) := by
    intro g n cap e cur hx hg' hsz
    obtain ⟨uss, q1, q2⟩ := run_first (P := P) h5 (min ys.length n) (Nat.min_le_left _ _)
    have e1 : ys.take (min ys.length n) = ys.take n := by
     rcases Nat.le_total ys.length n with hh | hh
     ·rw [Nat.min_eq_left hh, List.take_of_length_le hh, List.take_of_length_le (Nat.le_refl _)]
     ·rw [Nat.min_eq_right hh]
    rw [e1] at q2
    refine ⟨uss, q2, ?_⟩
    have hfl : uss.flatten.length ≤ n * t.size := by rw [q2.flatD]; exact Nat.mul_le_mul_right _ (by simp; omega)
    have hst := run_storeCells_at P g 0 e uss.flatten 0 cur w hg' (by omega) (fun u hu => q2.oneD u hu)
    have hst' : (storeCells ⟨g, 0, none⟩ uss.flatten).run P w = .ok () (w.setRow g (repl cur.toList uss.flatten 0).toArray) := hst
    simp only [execOp, ho, resolve, hc, ha, Sem.run_bind, Sem.run_pure, Result.andThen_ok, invoke, builtin, List.map_toArray, List.map_cons, List.map_nil, hx, Builtin.copy_, hat, List.getElem?_toArray, List.getElem?_cons_zero, List.getElem?_cons_succ, run_underlying hsh.1, lenOf_slice h5, run_sizeOf hsh.2, q1, hst', goInt]
   have hdrop : ∀ (fl : List Value) (n : Nat), fl.length = n * t.size → fl.drop (min ys.length n * t.size) = fl.drop (ys.length * t.size) := by
    intro fl n hfl
    rcases Nat.le_total ys.length n with hh | hh
    ·rw [Nat.min_eq_left hh]
    ·rw [Nat.min_eq_right hh, List.drop_of_length_le (by omega), List.drop_of_length_le (by rw [hfl]; exact Nat.mul_le_mul_right _ hh)]
   split at hr
   ·rename_i id
    replace hr := run_obj hr
    obtain ⟨o', hlo, hr⟩ := hr
    split at hr
    ·rename_i e t' xs0
     split at hr
     ·rename_i xs hcast
      obtain ⟨hq, hy⟩ := tcast_some hcast
      cases hq
      simp only at hy; subst hy
      have hx : a.eval x = ob id := h1
      obtain ⟨uss0, q1, q2, _⟩ := (h.objs _ _ hlo).2.1
      rcases q2.2 with ⟨hn, hz⟩ | ⟨g, cap, cur, hv, _, hh, hnc, hcm, hcs, ht⟩
      ·have hnil : xs0 = [] := List.eq_nil_of_length_eq_zero hz
       subst hnil
       have hus : uss0 = [] := by cases uss0 with
        | nil => rfl
        | cons => exact q1.elim
       subst hus
       obtain ⟨uss, z1, z2⟩ := run_first (P := P) h5 0 (Nat.zero_le _)
       simp only [List.length_nil, Nat.min_zero] at hr
       refine fin_val (v := .int .i64 ((0 : Nat) : Int)) (w' := w) ?_ (h.setObj hlo rfl (Kept.refl _ _) (o' := .row e t (splice [] ys) true) ⟨[], by simp [splice, All2], by rw [hn]; simpa [splice] using World.ownsRow_nil w 0 e t.size, fun h => by cases h⟩ trivial rfl) (vr (sr_i64 (by omega) (by omega))) trivial (fun _ h => .inl h) hr
       simp only [execOp, ho, resolve, hc, ha, Sem.run_bind, Sem.run_pure, Result.andThen_ok, invoke, builtin, List.map_toArray, List.map_cons, List.map_nil, hx, hn, Builtin.copy_, hat, List.getElem?_toArray, List.getElem?_cons_zero, List.getElem?_cons_succ, run_underlying hsh.1, lenOf_slice h5, run_sizeOf hsh.2, goInt, show Nat.min ys.length 0 = 0 from Nat.min_zero _, z1]
      ·obtain ⟨uss, z1, z2⟩ := key g xs0.length cap e cur (hx.trans hv) hh (by rw [hcs]; exact Nat.mul_le_mul_right _ hnc)
       have hcl : cur.toList.length = cap * t.size := by rw [← hcs]; exact Array.length_toList
       have hfl : uss.flatten.length = min ys.length xs0.length * t.size := by rw [z1.flatD, List.length_take, Nat.min_comm]
       have hle : uss.flatten.length ≤ xs0.length * t.size := by rw [hfl]; exact Nat.mul_le_mul_right _ (Nat.min_le_right _ _)
       have hcap : xs0.length * t.size ≤ cur.toList.length := by rw [hcl]; exact Nat.mul_le_mul_right _ hnc
       have hnew : (repl cur.toList uss.flatten 0).take (xs0.length * t.size) = (uss ++ uss0.drop ys.length).flatten := by
        rw [repl_take (by omega) hcap, ht, List.flatten_append, flatten_drop q1.lenD]
        unfold repl
        simp only [List.take_zero, List.nil_append, Nat.zero_add]
        rw [hfl, hdrop _ _ q1.flatD]
       have hall : All2 (DR w Z t) (splice xs0 ys) (uss ++ uss0.drop ys.length) := by unfold splice; exact z1.append (q1.drop _)
       have hk : Kept (fun b => blk (ob id) = some b) w (w.setRow g (repl cur.toList uss.flatten 0).toArray) := by rw [hv]; exact setRow_kept w g _
       have hs := hk.same (Z := Z) fun b hZ hb => (h.own _ _ hlo rfl b hb).1 hZ
       refine fin_val z2 (h.setObj hlo rfl hk (o' := .row e t (splice xs0 ys) true) ⟨uss ++ uss0.drop ys.length, hall.mono fun _ _ hd => hd.mono hs fun _ h => h, ⟨by rw [hall.flatD], .inr ⟨g, cap, _, by rw [splice_len]; exact hv, Nat.zero_le _, Go.setRow_heap w g _ _ e (0, 0) hh, by rw [splice_len]; exact hnc, hcm, ?_, ?_⟩⟩, fun h => by cases h⟩ trivial rfl) (vr (sr_i64 (by omega) ?_)) trivial (fun _ h => .inl h) hr
       ·rw [List.size_toArray, repl_len (by omega), hcl]
       ·rw [List.toList_toArray, splice_len, hnew]
       ·have : xs0.length ≤ maxLen := Nat.le_trans hnc hcm
        unfold maxLen at this; omega
     ·exact run_fail hr
    ·exact run_fail hr
   ·rename_i id m
    replace hr := run_obj hr
    obtain ⟨o', hlo, hr⟩ := hr
    split at hr
    ·rename_i e n t' xs0
     split at hr
     ·rename_i xs hcast
      obtain ⟨hq, hy⟩ := tcast_some hcast
      cases hq
      simp only at hy; subst hy
      replace hr := run_cond hr
      obtain ⟨hmn, hr⟩ := hr
      have hmn' := Nat.eq_of_beq_eq_true hmn
      subst hmn'
      obtain ⟨g, vs, q1, ⟨hl0, uss0, rfl, q2⟩, q3, _⟩ := (h.objs _ _ hlo).2.1
      obtain ⟨g', q4, q5⟩ := h1
      rw [q1] at q4; cases q4
      have hl0' : List.length xs0 = m := hl0
      obtain ⟨uss, z1, z2⟩ := key g m m e _ q5 q3 (by rw [List.size_toArray, q2.flatD, hl0']; exact Nat.le_refl _)
      have hfl : uss.flatten.length = min ys.length m * t.size := by rw [z1.flatD, List.length_take, Nat.min_comm]
      have hle : uss.flatten.length ≤ m * t.size := by rw [hfl]; exact Nat.mul_le_mul_right _ (Nat.min_le_right _ _)
      have hnew : repl uss0.flatten uss.flatten 0 = (uss ++ uss0.drop ys.length).flatten := by
       rw [List.flatten_append, flatten_drop q2.lenD]
       unfold repl
       simp only [List.take_zero, List.nil_append, Nat.zero_add]
       rw [hfl, hdrop _ _ (by rw [q2.flatD, hl0'])]
      have hall : All2 (DR w Z t) (splice xs0 ys) (uss ++ uss0.drop ys.length) := by
       unfold splice
       rw [hl0']
       exact z1.append (q2.drop _)
      have hk : Kept (fun b => blk (ob id) = some b) w (w.setRow g (repl uss0.flatten uss.flatten 0).toArray) := by rw [q1]; exact setRow_kept w g _
      have hs := hk.same (Z := Z) fun b hZ hb => (h.own _ _ hlo rfl b hb).1 hZ
      simp only [List.toList_toArray] at z2
      refine fin_val z2 (h.setObj hlo rfl hk (o' := .box e (.arr m t) (splice xs0 ys) true) ⟨g, repl uss0.flatten uss.flatten 0, q1, ⟨by rw [splice_len]; exact hl0, _, hnew, hall.mono fun _ _ hd => hd.mono hs fun _ h => h⟩, Go.setRow_heap w g _ _ e (0, 0) q3, fun h => by cases h⟩ trivial rfl) (vr (sr_i64 (by omega) ?_)) trivial (fun _ h => .inl h) hr
      obtain ⟨A, c, _, b1, b2, _⟩ := h5
      unfold maxLen at b2; omega
     ·exact run_fail hr
    ·exact run_fail hr
   ·exact run_fail hr
  ·exact run_fail hr
 ·exact run_fail hr
end
end Go.Proofs.YtehbbcdhahnkgaaGreat
