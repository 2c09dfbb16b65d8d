/- The heap machine and the machine: maps. -/
import Derived.Test.YtehbbcdhahnkgaaGreatHmOpF
import Derived.MapKept
set_option linter.unusedVariables false
set_option linter.unusedSimpArgs false
namespace Go.Proofs.YtehbbcdhahnkgaaGreat.Hm
open Go
section
variable {P : Program} {Γ : Ctx} {ρ : En} {N : Nat} {S : Sl} {H : Hp} {m : Mp} {a : Act} {w : World} {o : Oper} {U : Nat → Prop} {fresh : Nat} {r : List Wr × Nat} {Q : Exit → Act → World → Prop}
theorem checkKey_int {kt : TypeId} {kd : IntKind} (hd : P.underlying kt = some (.int kd)) (e : Bool) (n : Nat) (k : Value) : (Instr.checkKey e (n + 1) kt k).run P w = .ok () w := by
  unfold Instr.checkKey
  simp only [Sem.run_bind, run_underlying hd, Result.andThen_ok]
  cases k <;> rfl
theorem findEnt_ok {R : Rng} (hR : RngOk ρ R) {kd : IntKind} {κ : IntKind} {x : IV} : ∀ {ents : List (HV × HV)} {es : List MapEntry} {i : Nat} {q : Option HV}, All2 (EntR ρ m) ents es → findEnt R (.i κ x) ents = some q →
    (q = none → Instr.findNow (.int kd) (.int κ (x.ev ρ)) es i = some none) ∧ ∀ v, q = some v → ∃ j val, Instr.findNow (.int kd) (.int κ (x.ev ρ)) es i = some (some (j, val)) ∧ den ρ m v = some val := by
  intro ents es i q h
  induction h generalizing i with
  | nil => intro hf; simp only [findEnt] at hf; cases hf; exact ⟨fun _ => rfl, fun v e => (by cases e)⟩
  | @cons p e ents es hp _ ih =>
    obtain ⟨k', v'⟩ := p
    obtain ⟨h1, h2⟩ := hp
    intro hf
    simp only [findEnt] at hf
    cases hc : cellEq R (.i κ x) k' with
    | none => rw [hc] at hf; cases hf
    | some b =>
      rw [hc] at hf
      obtain ⟨κ', y, rfl⟩ : ∃ κ' y, k' = .i κ' y := by
        cases k' <;> simp [cellEq] at hc
        exact ⟨_, _, rfl⟩
      simp only [cellEq] at hc
      cases hs : IntKind.same κ κ' <;> rw [hs] at hc <;> (try cases hc)
      have := same_kind hs
      subst this
      have he := ivEq_ok hR hc
      obtain ⟨e1, _⟩ := den_int h1
      have hsame : Instr.sameNow (.int kd) (.int κ (x.ev ρ)) e.key = some b := by
        rw [e1]; simp [Instr.sameNow, he, ibeq]
      cases b with
      | true =>
        cases hf
        exact ⟨fun z => (by cases z), fun v hv => (by cases hv; exact ⟨i, e.val, by simp [Instr.findNow, hsame], h2⟩)⟩
      | false =>
        obtain ⟨g1, g2⟩ := ih (i := i + 1) hf
        exact ⟨fun hq => by simp [Instr.findNow, hsame, g1 hq], fun v hv => let ⟨j, val, z1, z2⟩ := g2 v hv; ⟨j, val, by simp [Instr.findNow, hsame, z1], z2⟩⟩
theorem den_mp {id : Nat} {x : Value} (h : den ρ m (.mp id) = some x) : ∃ q, m id = some q ∧ x = .map (some q.1) := by
  simp only [den] at h
  split at h
  · rename_i q hq; cases h; exact ⟨q, hq, rfl⟩
  · cases h
theorem is_mp {t : Ty} (h : isMp t = true) : t = .mp := by cases t <;> first | rfl | cases h
theorem is_i {v : HV} (h : isI v = true) : ∃ k x, v = .i k x := by cases v <;> first | exact ⟨_, _, rfl⟩ | cases h
theorem op_makeMap (h : Rep P ρ N S H m a w) (hU : ∀ id, m id ≠ none → U id) (hd : ∀ d, o.dst = some d → d < N) (hf : ∀ j, fresh ≤ j → j < r.2 → ¬ U j) {t : TypeId} {x : Option Operand} (ho : o.op = .makeMap t x)
    (hr : (evMakeMap fresh o x).run S H = some r) : o.wp P a w (After P ρ N U fresh S H m r) Q := by
  unfold evMakeMap at hr
  split at hr
  · have hnx := dst_nx hr
    have hn := fresh_none hU (hf fresh (Nat.le_refl _) (by omega))
    have hrep : HRep P ρ (appH H [.obj fresh (some (.map []))]) (m.set fresh w.heap.size 0) (w.alloc (.map #[] 0)) :=
      h.heap.new hn (fun k hk => Go.heap_alloc_old w _ k hk) (Nat.le_refl _) ⟨w.heap.size, 0, #[], 0, Mp.set_same _ _ _ _, Go.heap_alloc_new w _, .nil⟩ ⟨rfl, rfl, rfl⟩
    refine fin_val h hd (v := .map (some w.heap.size)) ?_ (Mp.le_set hn) hrep (fun y hy => by simp at hy; exact ⟨_, _, hy⟩) (by simp only [den, Mp.set_same]) (dom_set hU (Nat.le_refl _) (Nat.lt_succ_self _)) hr
    simp [execOp, ho, Instr.makeMap, run_newObj]
  · exact run_fail hr
theorem op_insert (hT : TysOk P Γ.tys) (hR : RngOk ρ Γ.R) (h : Rep P ρ N S H m a w) (hU : ∀ id, m id ≠ none → U id) {t : TypeId} {x k v : Operand} (ho : o.op = .insert t x k v)
    (hr : (tyR Γ t fun ti => opdR x fun m => opdR k fun k => opdR v fun v => evInsert Γ fresh o ti k v m).run S H = some r) : o.wp P a w (After P ρ N U fresh S H m r) Q := by
  replace hr := tyR_ok hT hr
  obtain ⟨ti, hti, hr⟩ := hr
  replace hr := opdR_ok h hr
  obtain ⟨mv, h1, hr⟩ := hr
  replace hr := opdR_ok h hr
  obtain ⟨kv, h2, hr⟩ := hr
  replace hr := opdR_ok h hr
  obtain ⟨vv, h3, hr⟩ := hr
  unfold evInsert at hr
  split at hr
  · rename_i id
    cases hb : (isI kv && isMp ti.ty)
    · rw [hb] at hr; exact run_fail hr
    · rw [hb] at hr
      simp only [Bool.not_true, cond_false] at hr
      simp only [Bool.and_eq_true] at hb
      obtain ⟨κ, y, rfl⟩ := is_i hb.1
      have hsh := hti.shape
      rw [is_mp hb.2] at hsh
      obtain ⟨kt, kd, hu, hk⟩ := hsh
      replace hr := run_obj hr
      obtain ⟨ob, hob, hr⟩ := hr
      split at hr
      · rename_i ents
        split at hr
        · rename_i hfe
          obtain ⟨b, s, es, clock, q1, q2, q3⟩ := h.heap.objs id _ hob
          obtain ⟨q, e1, e2⟩ := den_mp h1
          rw [q1] at e1; cases e1
          obtain ⟨e3, _⟩ := den_int h2
          have hfn := (findEnt_ok hR (kd := kd) (i := 0) q3 hfe).1 rfl
          have hset := MapKept.heap_set (o' := .map (es.push { key := a.eval k, val := a.eval v, born := clock }) (clock + 1)) q2
          have hrun : (Instr.mapUpdate t (a.eval x) (a.eval k) (a.eval v)).run P w = .ok () { w with heap := w.heap.setIfInBounds b (.map (es.push { key := a.eval k, val := a.eval v, born := clock }) (clock + 1)) } := by
            rw [e2]
            have hck := checkKey_int (w := w) hk false 9999 (a.eval k)
            rw [e3] at hck ⊢
            simp only [Instr.mapUpdate, Sem.run_bind, run_underlying hu, Result.andThen_ok, MapKept.run_getObj_map q2, hck, MapKept.run_findKey hk hfn, MapKept.run_setObj_map _ q2]
          have hrep : HRep P ρ (appH H [.obj id (some (.map (ents ++ [(.i κ y, vv)])))]) m { w with heap := w.heap.setIfInBounds b (.map (es.push { key := a.eval k, val := a.eval v, born := clock }) (clock + 1)) } := by
            refine h.heap.write hob q1 (fun j hj => hset.2 j hj) ⟨b, s, _, _, q1, hset.1, ?_⟩ ⟨rfl, rfl, rfl⟩ rfl
            rw [Array.toList_push]
            exact q3.append (.cons ⟨h2, h3⟩ .nil)
          refine fin_skip h hU ?_ hrep (fun y hy => by simp at hy; exact ⟨_, _, hy⟩) hr
          simp only [execOp, ho, Sem.run_bind, hrun, Result.andThen_ok, Sem.run_pure]
        · exact run_fail hr
      · exact run_fail hr
  · exact run_fail hr
theorem op_lookup (hT : TysOk P Γ.tys) (hR : RngOk ρ Γ.R) (h : Rep P ρ N S H m a w) (hU : ∀ id, m id ≠ none → U id) (hd : ∀ d, o.dst = some d → d < N) {t : TypeId} {x i : Operand} {ok : Bool} (ho : o.op = .lookup t x i ok)
    (hr : (tyR Γ t fun ti => opdR x fun v => opdR i fun u => evLookup Γ fresh o ti u ok v).run S H = some r) : o.wp P a w (After P ρ N U fresh S H m r) Q := by
  replace hr := tyR_ok hT hr
  obtain ⟨ti, hti, hr⟩ := hr
  replace hr := opdR_ok h hr
  obtain ⟨mv, h1, hr⟩ := hr
  replace hr := opdR_ok h hr
  obtain ⟨kv, h2, hr⟩ := hr
  unfold evLookup at hr
  split at hr
  · rename_i id
    cases hb : (isI kv && isMp ti.ty)
    · rw [hb] at hr; exact run_fail hr
    · rw [hb] at hr
      simp only [Bool.not_true, cond_false] at hr
      simp only [Bool.and_eq_true] at hb
      obtain ⟨κ, y, rfl⟩ := is_i hb.1
      have hsh := hti.shape
      rw [is_mp hb.2] at hsh
      obtain ⟨kt, kd, hu, hk⟩ := hsh
      replace hr := run_obj hr
      obtain ⟨ob, hob, hr⟩ := hr
      split at hr
      · rename_i ents
        obtain ⟨b, s, es, clock, q1, q2, q3⟩ := h.heap.objs id _ hob
        obtain ⟨q, e1, e2⟩ := den_mp h1
        rw [q1] at e1; cases e1
        obtain ⟨e3, _⟩ := den_int h2
        have hck := fun e => checkKey_int (w := w) hk e 9999 (a.eval i)
        split at hr
        · rename_i v hfe
          obtain ⟨j, val, z1, z2⟩ := (findEnt_ok hR (kd := kd) (i := 0) q3 hfe).2 v rfl
          rw [← e3] at z1
          refine fin_pure h hU hd (v := if ok then .tuple #[val, .bool true] else val) ?_ ?_ hr
          · simp only [execOp, ho, e2, Instr.lookup, Sem.run_bind, run_underlying hu, Result.andThen_ok, MapKept.run_getObj_map q2, hck, MapKept.run_findKey hk z1, Sem.run_pure]
          · cases ok
            · exact z2
            · have := denL_cons' z2 (denL_cons' (show den ρ m (.b true) = some (.bool true) from rfl) (show denL ρ m [] = some [] from rfl))
              simp only [cond_true, if_true, den, this]
        · rename_i hfe
          have z1 := (findEnt_ok hR (kd := kd) (i := 0) q3 hfe).1 rfl
          rw [← e3] at z1
          replace hr := tyR_ok hT hr
          obtain ⟨te, hte, hr⟩ := hr
          replace hr := run_optR hr
          obtain ⟨z, hz, hr⟩ := hr
          have hzd := den_valOf hz (den_zero (ρ := ρ) (m := m) te.ty) (zero_one te.ty)
          obtain ⟨it, g1, g2, _, _⟩ := hte.parts
          refine fin_pure h hU hd (v := if ok then .tuple #[pk te.ty (zc te.ty), .bool false] else pk te.ty (zc te.ty)) ?_ ?_ hr
          · simp only [execOp, ho, e2, Instr.lookup, Sem.run_bind, run_underlying hu, Result.andThen_ok, MapKept.run_getObj_map q2, hck, MapKept.run_findKey hk z1, Sem.run_pure, zeroValue, typeInfo, run_program, g1, g2]
          · cases ok
            · exact hzd
            · have := denL_cons' hzd (denL_cons' (show den ρ m (.b false) = some (.bool false) from rfl) (show denL ρ m [] = some [] from rfl))
              simp only [cond_true, if_true, den, this]
        · exact run_fail hr
      · exact run_fail hr
  · exact run_fail hr
end
end Go.Proofs.YtehbbcdhahnkgaaGreat.Hm
