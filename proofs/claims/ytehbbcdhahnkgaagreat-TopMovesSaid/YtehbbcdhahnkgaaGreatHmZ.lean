/- The ghost machine: an evaluator of the program's text over plain data, and its soundness. -/
import Derived.Test.YtehbbcdhahnkgaaGreatHmR
import Derived.Tactics
import Derived.Deep.LoopGhost
set_option linter.unusedVariables false
set_option linter.unusedSimpArgs false
namespace Go.Proofs.YtehbbcdhahnkgaaGreat.Hm
open Go
def CallOk (P : Program) (ρ : En) (cl : CallFn) : Prop := ∀ {f : Nat} {args : List HV} {n : Nat} {K : HV → List Wr → Nat → RT} {S : Sl} {H : Hp} {r : List Wr × Nat}, (cl f args n K).run S H = some r →
 ∃ res ws nx, (K res ws nx).run S H = some r ∧ n ≤ nx ∧ objW ws ∧ (∃ fb, P.funcs[f]? = some fb ∧ fb.body.isNone = false ∧ (fb.name == "runtime.NumGoroutine") = false) ∧
  ∀ (m : Mp) (w : World) (U : Nat → Prop) (vals : List Value), HRep P ρ H m w → (∀ id, m id ≠ none → U id) → (∀ j, n ≤ j → j < nx → ¬ U j) → denL ρ m args = some vals →
   Calls P f vals.toArray w fun e w' => ∃ m' v, e = .returned v ∧ m.le m' ∧ den ρ m' res = some v ∧ HRep P ρ (appH H ws) m' w' ∧ ∀ id, m' id ≠ none → U id ∨ (n ≤ id ∧ id < nx)
section
variable {P : Program} {Γ : Ctx} {ρ : En} {N : Nat} {S : Sl} {H : Hp} {m : Mp} {a : Act} {w : World} {o : Oper} {U : Nat → Prop} {fresh : Nat} {r : List Wr × Nat} {Q : Exit → Act → World → Prop} {cl : CallFn}

theorem after_put {m' : Mp} {w' : World} {v : Value} {hv : HV} {ws0 : List Wr} {nx0 : Nat} (h : Rep P ρ N S H m a w) (hd : ∀ d, o.dst = some d → d < N)
  (hm : m.le m') (hh : HRep P ρ (appH H ws0) m' w') (hw : objW ws0) (hv' : den ρ m' hv = some v) (hU : ∀ id, m' id ≠ none → U id ∨ (fresh ≤ id ∧ id < nx0))
  (hr : (dstR o hv ws0 nx0).run S H = some r) : After P ρ N U fresh S H m r (a.put o.dst v) w' := by
 cases hdst : o.dst with
 | none =>
  unfold dstR at hr
  rw [hdst] at hr
  have hr := run_fin hr
  subst hr
  refine ⟨m', hm, ⟨hh, fun k u hk => ?_, h.defers, h.size⟩, hU⟩
  rw [appS_obj hw] at hk
  exact den_mono hm (h.slots k u hk)
 | some d =>
  unfold dstR at hr
  rw [hdst] at hr
  have hr : (forceV hv fun v => RT.fin (.slot d (some v) :: ws0) nx0).run S H = some r := hr
  rw [forceV_eq] at hr
  have hr := run_fin hr
  subst hr
  have hlt := hd d hdst
  refine ⟨m', hm, ⟨hh, fun k u hk => ?_, h.defers, by simp [Act.put, h.size]⟩, hU⟩
  simp only [slot_put hw] at hk
  by_cases e : k = d
  ·subst e
   rw [upd_same] at hk; cases hk
   have : k < a.tmps.size := by rw [h.size]; exact hlt
   simpa [Act.put, this] using hv'
  ·rw [upd_ne _ _ e] at hk
   have := den_mono hm (h.slots k u hk)
   rw [this]
   congr 1
   simp only [Act.put, Array.getD_eq_getD_getElem?]
   rw [Array.getElem?_setIfInBounds_ne (Ne.symm e)]
theorem op_call (hcl : CallOk P ρ cl) (h : Rep P ρ N S H m a w) (hU : ∀ id, m id ≠ none → U id) (hd : ∀ d, o.dst = some d → d < N) (hf : ∀ j, fresh ≤ j → j < r.2 → ¬ U j) {c : Call} (ho : o.op = .call c) {x : Operand} (hc : c.callee = .value x)
  (hr : (opdR x (evCall cl fresh o c.args)).run S H = some r) : o.wp P a w (After P ρ N U fresh S H m r) Q := by
 replace hr := opdR_ok h hr
 obtain ⟨v, h1, hr⟩ := hr
 unfold evCall at hr
 split at hr
 ·rename_i f fs cs
  replace hr := opdsR_ok h hr
  obtain ⟨vs, h2, hr⟩ := hr
  simp only [den] at h1
  split at h1 <;> (try cases h1)
  rename_i as bs hfs hcs
  simp only [Option.some.injEq] at h1
  obtain ⟨res, ws, nx, g1, g2, g3, ⟨fb, hb1, hb2, hb3⟩, g4⟩ := hcl hr
  have hnx := dst_nx g1
  have hargs : denL ρ m (fs ++ vs ++ cs) = some (as ++ c.args.toList.map a.eval ++ bs) := denL_append (denL_append hfs h2) hcs
  have hcall := g4 m w U _ h.heap hU (fun j h1 h2 => hf j h1 (by omega)) hargs
  have hb4 : ¬ fb.body = none := fun e => by rw [e] at hb2; cases hb2
  have hb5 : ¬ fb.name = "runtime.NumGoroutine" := by simpa using hb3
  have hb6 : as.toArray ++ Array.map a.eval c.args ++ bs.toArray = (as ++ List.map a.eval c.args.toList ++ bs).toArray := by apply Array.ext'; simp
  have hexec : (execOp a.eval o).run P w = .ok (.enter f (as ++ List.map a.eval c.args.toList ++ bs).toArray) w := by
   rw [← hb6]
   simp [execOp, ho, resolve, hc, ← h1, Deferred.ofValue, invoke, callFunc, hb1, hb4, hb5]
  unfold Oper.wp
  rw [hexec, Oper.upon_enter]
  refine hcall.mono fun e w' ⟨m', v, e1, e2, e3, e4, e5⟩ => ?_
  subst e1
  exact after_put h hd e2 e4 g3 e3 e5 g1
 ·exact run_fail hr
theorem evalOp_ok (hT : TysOk P Γ.tys) (hR : RngOk ρ Γ.R) (hcl : CallOk P ρ cl) (h : Rep P ρ N S H m a w) (hU : ∀ id, m id ≠ none → U id) (hd : ∀ d, o.dst = some d → d < N) (hf : ∀ j, fresh ≤ j → j < r.2 → ¬ U j)
  (hr : (evalOp Γ cl fresh o).run S H = some r) : o.wp P a w (After P ρ N U fresh S H m r) Q := by
 unfold evalOp at hr
 cases ho : o.op <;> rw [ho] at hr <;> simp only at hr
 case move x => exact op_move h hU hd (.inl ho) hr
 case assign x => exact op_move h hU hd (.inr ho) hr
 case pick c x y => exact op_pick h hU hd ho hr
 case alloc e => exact op_alloc hT h hU hd hf ho hr
 case box e x => exact op_box hT h hU hd hf ho hr
 case build t ps => exact op_build hT h hU hd ho hr
 case buildSlice t n ps => exact op_buildSlice hT h hU hd hf ho hr
 case makeMap t x => exact op_makeMap h hU hd hf ho hr
 case insert t x k v => exact op_insert hT hR h hU ho hr
 case lookup t x i ok => exact op_lookup hT hR h hU hd ho hr
 case load t x => exact op_load hT hR h hU hd ho hr
 case store t x y => exact op_store hT h hU ho hr
 case nilCheck x => exact op_nilCheck h hU hd ho hr
 case binOp op t x y yt => exact op_binOp hT hR h hU hd ho hr
 case unOp op t x => exact op_unOp h hU hd ho hr
 case convert s d x => exact op_convert hT hR h hU hd hf ho hr
 case makeFunc fn fs cs => exact op_makeFunc h hU hd ho hr
 case makeSlice t x y => exact op_makeSlice hT h hU hd hf ho hr
 case slice t x lo hi mx => exact op_slice hT hR h hU hd ho hr
 case fieldAddr t x f => exact op_fieldAddr hT h hU hd ho hr
 case field t x f => exact op_field hT h hU hd ho hr
 case indexAddr t x i => exact op_indexAddr hT hR h hU hd ho hr
 case index t x i => exact op_index hT h hU hd ho hr
 case extract x i => exact op_extract h hU hd ho hr
 case call c =>
  have harr : ∀ l, c.args.toList = l → c.args = l.toArray := fun l e => by apply Array.toList_inj.1; simpa using e
  unfold evCallee at hr
  cases hc : c.callee <;> rw [hc] at hr <;> simp only at hr
  case value x => exact op_call hcl h hU hd hf ho hc hr
  case invoke x name => exact run_fail hr
  case builtin b =>
   unfold builtinR at hr
   split at hr
   ·rename_i x hx
    unfold builtin1 at hr
    split at hr
    ·split at hr
     ·rename_i t hty
      exact op_len hT hR h hU hd ho hc (harr _ hx) hty hr
     ·exact run_fail hr
    ·split at hr
     ·rename_i t hty
      exact op_clear hT h hU hd ho hc (harr _ hx) hty hr
     ·exact run_fail hr
    ·exact run_fail hr
   ·rename_i x y hx
    unfold builtin2 at hr
    split at hr
    ·exact op_min hR h hU hd ho hc (harr _ hx) hr
    ·exact op_max hR h hU hd ho hc (harr _ hx) hr
    ·split at hr
     ·rename_i tx ty hty
      exact op_append hT hR h hU hd hf ho hc (harr _ hx) hty hr
     ·exact run_fail hr
    ·exact run_fail hr
   ·exact run_fail hr
 all_goals exact run_fail hr
end
end Go.Proofs.YtehbbcdhahnkgaaGreat.Hm

namespace Go.Proofs.YtehbbcdhahnkgaaGreat.Hm
open Go
structure Sg where
 S : Sl
 H : Hp
def Sg.put (s : Sg) (x : Wr) : Sg := ⟨putS s.S x, putH s.H x⟩
def Sg.app (s : Sg) (ws : List Wr) : Sg := ⟨appS s.S ws, appH s.H ws⟩
theorem app_nil (s : Sg) : s.app [] = s := rfl
theorem sapp_cons (s : Sg) (x : Wr) (ws : List Wr) : s.app (x :: ws) = (s.put x).app ws := rfl
theorem sapp_append (s : Sg) (ws ws' : List Wr) : s.app (ws ++ ws') = (s.app ws).app ws' := by simp [Sg.app, appS_append, appH_append]
def Sg.like (s s' : Sg) (l : Loc) : Prop := match l with
 | (false, n) => s'.S n = s.S n
 | (true, n) => s'.H n = s.H n
theorem like_trans {s s' s'' : Sg} {l : Loc} (h : s.like s' l) (k : s'.like s'' l) : s.like s'' l := by rcases l with ⟨_ | _, n⟩; exact Eq.trans k h; exact Eq.trans k h
theorem like_symm {s s' : Sg} {l : Loc} (h : s.like s' l) : s'.like s l := by rcases l with ⟨_ | _, n⟩; exact Eq.symm h; exact Eq.symm h
theorem like_refl (s : Sg) (l : Loc) : s.like s l := by rcases l with ⟨_ | _, n⟩ <;> rfl
theorem eq_of_like {s s' : Sg} (h : ∀ l, s.like s' l) : s' = s := by
 cases s; cases s'
 congr 1
 ·funext n; exact h (false, n)
 ·funext n; exact h (true, n)
theorem put_ne_at {s : Sg} {x : Wr} {l : Loc} (h : x.at ≠ l) : s.like (s.put x) l := by
 rcases l with ⟨_ | _, n⟩ <;> rcases x with ⟨m, v⟩ | ⟨m, v⟩ <;> simp only [Sg.like, Sg.put, putS, putH]
 ·exact upd_ne _ _ (fun e => h (by simp [Wr.at, e]))
 ·exact upd_ne _ _ (fun e => h (by simp [Wr.at, e]))
theorem put_same_at {s s' : Sg} {x : Wr} : (s.put x).like (s'.put x) x.at := by
 rcases x with ⟨m, v⟩ | ⟨m, v⟩ <;> simp only [Sg.like, Sg.put, Wr.at, putS, putH, upd_same]
theorem put_like {s s' : Sg} {x : Wr} {l : Loc} (h : s.like s' l) : (s.put x).like (s'.put x) l := by
 by_cases e : x.at = l
 ·subst e; exact put_same_at
 ·exact like_trans (like_symm (put_ne_at e)) (like_trans h (put_ne_at e))
theorem app_like : ∀ {ws : List Wr} {s s' : Sg} {l : Loc}, s.like s' l → (s.app ws).like (s'.app ws) l
 | [], _, _, _, h => h
 | x :: ws, s, s', l, h => by rw [sapp_cons, sapp_cons]; exact app_like (put_like h)
theorem app_filter : ∀ {ws : List Wr} {s : Sg} {l : Loc}, (s.app (ws.filter fun x => x.at == l)).like (s.app ws) l
 | [], s, l => like_refl s l
 | x :: ws, s, l => by
  simp only [List.filter_cons]
  split
  ·rw [sapp_cons, sapp_cons]; exact app_filter
  ·rename_i h
   rw [sapp_cons]
   exact like_trans (like_symm (app_like (like_symm (put_ne_at (x := x) (by simpa using h))))) app_filter
theorem app_like_of {ws ws' : List Wr} {s : Sg} {l : Loc} (h : ws.filter (fun x => x.at == l) = ws'.filter fun x => x.at == l) : (s.app ws).like (s.app ws') l :=
 like_trans (like_symm app_filter) (by rw [h]; exact app_filter)
def agree (rd : List Loc) (s σ : Sg) : Prop := ∀ l, l ∈ rd → s.like σ l
noncomputable def GS.sg (G : GS) (H : Hp) : Sg := ⟨G.slots.get, G.over H⟩
theorem innD_run {S0 : Sl} {H0 : Hp} {r : List Wr × Nat} : ∀ {rt : RT} {lg : List Loc} {G : GS} {K : GS → List Loc → List Loc → RT}, (rt.innD lg G K).run S0 H0 = some r →
  ∃ ws nx G' rd, G'.sg H0 = (G.sg H0).app ws ∧ G'.next = nx ∧ G.next ≤ nx ∧ (K G' rd (ws.map Wr.at)).run S0 H0 = some r ∧ (∀ l, l ∈ lg → l ∈ rd) ∧ ∀ σ : Sg, agree rd (G.sg H0) σ → rt.run σ.S σ.H = some (ws, nx) := by
 intro rt
 induction rt with
 | fail y => intro lg G K h; exact run_fail h
 | get n k ih =>
  intro lg G K h
  have h' : (@Option.rec HV (fun _ => RT) (.fail 104) (fun g => (k g).innD ((false, n) :: lg) G K) (G.slots.get n)).run S0 H0 = some r := h
  cases hg : G.slots.get n with
  | none => rw [hg] at h'; exact run_fail h'
  | some v =>
   rw [hg] at h'
   obtain ⟨ws, nx, G', rd, h1, h2, h3, h4, h5, h6⟩ := ih v h'
   refine ⟨ws, nx, G', rd, h1, h2, h3, h4, fun l hl => h5 l (by simp [hl]), fun σ hσ => ?_⟩
   have := hσ (false, n) (h5 _ (by simp))
   simp only [Sg.like, GS.sg] at this
   simp only [RT.run, this, hg]
   exact h6 σ hσ
 | obj id k ih =>
  intro lg G K h
  have h' : (@Option.rec (Option Ob) (fun _ => RT) (.obj id fun o => (k o).innD ((true, id) :: lg) (G.keep id o) K) (fun o => @Option.rec Ob (fun _ => RT) (.fail 105) (fun o => (k o).innD ((true, id) :: lg) G K) o) (G.find id)).run S0 H0 = some r := h
  cases hg : G.find id with
  | none =>
   rw [hg] at h'
   obtain ⟨o, ho, h'⟩ := run_obj h'
   obtain ⟨ws, nx, G', rd, h1, h2, h3, h4, h5, h6⟩ := ih o h'
   have hsg : (G.keep id o).sg H0 = G.sg H0 := by simp only [GS.sg, over_keep ho hg]; rfl
   rw [hsg] at h1 h6
   refine ⟨ws, nx, G', rd, h1, h2, h3, h4, fun l hl => h5 l (by simp [hl]), fun σ hσ => ?_⟩
   have := hσ (true, id) (h5 _ (by simp))
   simp only [Sg.like, GS.sg] at this
   simp only [RT.run, this, GS.over, hg, ho]
   exact h6 σ hσ
  | some o =>
   rw [hg] at h'
   cases o with
   | none => exact run_fail h'
   | some o =>
    obtain ⟨ws, nx, G', rd, h1, h2, h3, h4, h5, h6⟩ := ih o h'
    refine ⟨ws, nx, G', rd, h1, h2, h3, h4, fun l hl => h5 l (by simp [hl]), fun σ hσ => ?_⟩
    have := hσ (true, id) (h5 _ (by simp))
    simp only [Sg.like, GS.sg] at this
    simp only [RT.run, this, GS.over, hg]
    exact h6 σ hσ
 | fin ws nx =>
  intro lg G K h
  have h' : (forceN nx fun nx => bt (Nat.ble G.next nx) (K { G.app ws with next := nx } lg (ws.map Wr.at)) (.fail 106)).run S0 H0 = some r := h
  rw [forceN_eq] at h'
  cases hb : Nat.ble G.next nx with
  | false => rw [hb] at h'; exact run_fail h'
  | true =>
   rw [hb] at h'
   obtain ⟨q1, q2, q3⟩ := over_app H0 ws G
   refine ⟨ws, nx, { G.app ws with next := nx }, lg, ?_, rfl, Nat.le_of_ble_eq_true hb, h', fun _ h => h, fun σ _ => rfl⟩
   exact Sg.mk.injEq .. ▸ ⟨q2, q1⟩

structure Tc where
 fr : Nat
 ws : List Wr
 nx : Nat
 rd : List Loc
def dTc : Tc := ⟨0, [], 0, []⟩
abbrev Trc := List Tc
theorem regD_seq {Γ : Ctx} {cl : CallFn} {S0 : Sl} {H0 : Hp} {r : List Wr × Nat} {K : GS → RT} {ops : List Oper} : ∀ {l : List Oper} {acc : List (List Loc × List Loc)} {G : GS}, (regD Γ cl ops l acc G K).run S0 H0 = some r →
  ∃ (t : Trc) (G' : GS), t.length = l.length ∧ (∀ (k : Nat) (o : Oper), l[k]? = some o → ∃ e : Tc, t[k]? = some e ∧ ∀ σ : Sg, agree e.rd ((G.sg H0).app ((t.take k).flatMap (·.ws))) σ → (opRT Γ cl ops e.fr o).run σ.S σ.H = some (e.ws, e.nx)) ∧
   (∀ (k : Nat) (e : Tc), t[k]? = some e → G.next ≤ e.fr ∧ e.fr ≤ e.nx ∧ e.nx ≤ G'.next) ∧ (∀ (k j : Nat) (e e' : Tc), k < j → t[k]? = some e → t[j]? = some e' → e.nx ≤ e'.fr) ∧
   G'.sg H0 = (G.sg H0).app (t.flatMap (·.ws)) ∧ G.next ≤ G'.next ∧ (K G').run S0 H0 = some r ∧ drawOk (befores ops) [] (acc ++ t.map fun e => (e.rd, e.ws.map Wr.at)) = true ∧ backB 0 ops = true
 | [], acc, G, h => by
  simp only [regD] at h
  obtain ⟨hc, h⟩ := run_bif h
  simp only [Bool.and_eq_true] at hc
  exact ⟨[], G, rfl, fun k o hk => by simp at hk, fun k e hk => by simp at hk, fun k j e e' _ hk => by simp at hk, rfl, Nat.le_refl _, h, by simpa using hc.1, hc.2⟩
 | o :: l, acc, G, h => by
  simp only [regD] at h
  obtain ⟨ws, nx, G1, rd, h1, h2, h3, h4, h5, h6⟩ := innD_run h
  obtain ⟨t, G', q1, q2, q3, q4, q5, q6, q7, q8, q9⟩ := regD_seq h4
  refine ⟨⟨G.next, ws, nx, rd⟩ :: t, G', by simp [q1], fun k o' hk => ?_, fun k e hk => ?_, fun k j e e' hkj hk hj => ?_, ?_, by omega, q7, by simpa using q8, q9⟩
  ·cases k with
   | zero =>
    simp at hk; subst hk
    exact ⟨_, rfl, fun σ hσ => h6 σ (by simpa [app_nil] using hσ)⟩
   | succ k =>
    obtain ⟨e, p1, p2⟩ := q2 k o' (by simpa using hk)
    refine ⟨e, by simpa using p1, fun σ hσ => p2 σ fun l hl => ?_⟩
    have := hσ l hl
    simp only [List.take_succ_cons, List.flatMap_cons] at this
    rw [sapp_append, ← h1] at this
    exact this
  ·cases k with
   | zero => simp at hk; subst hk; exact ⟨Nat.le_refl _, h3, by show nx ≤ G'.next; omega⟩
   | succ k =>
    obtain ⟨p1, p2, p3⟩ := q3 k e (by simpa using hk)
    exact ⟨by omega, p2, p3⟩
  ·cases j with
   | zero => omega
   | succ j =>
    cases k with
    | zero =>
     simp at hk; subst hk
     have := (q3 j e' (by simpa using hj)).1
     simp only; omega
    | succ k => exact q4 k j e e' (by omega) (by simpa using hk) (by simpa using hj)
  ·simp only [List.flatMap_cons]
   rw [sapp_append, ← h1]
   exact q5
theorem nbeq_self (n : Nat) : Nat.beq n n = true := Nat.beq_refl n
theorem touch_iff {x y : List Loc} : touch x y = true ↔ ∃ p, p ∈ x ∧ p ∈ y := by
 induction x with
 | nil => simp [touch]
 | cons p x ih =>
  simp only [touch, Bool.or_eq_true, ih, List.any_eq_true, Bool.and_eq_true, beq_iff_eq]
  constructor
  ·rintro (⟨q, hq, h1, h2⟩ | ⟨q, h1, h2⟩)
   ·have e : p = q := Prod.ext h1 (Nat.eq_of_beq_eq_true h2)
    exact ⟨p, by simp, e ▸ hq⟩
   ·exact ⟨q, by simp [h1], h2⟩
  ·rintro ⟨q, h1, h2⟩
   rcases List.mem_cons.1 h1 with rfl | h1
   ·exact .inl ⟨q, h2, rfl, nbeq_self _⟩
   ·exact .inr ⟨q, h1, h2⟩
theorem clashes_false {bs : List Nat} {x : List Loc × List Loc} {j : Nat} : ∀ {l : List (List Loc × List Loc)} {i : Nat}, clashes bs x j l i = false → ∀ k y, l[k]? = some y → clash y x = true → (bs.getD j 0).testBit (i + k) = true
 | [], i, h, k, y, hk, _ => by simp at hk
 | z :: l, i, h, k, y, hk, hc => by
  simp only [clashes, Bool.or_eq_false_iff] at h
  cases k with
  | zero => simp at hk; subst hk; have := h.1; rw [hc, Bool.and_true] at this; simpa using this
  | succ k => rw [show i + (k + 1) = i + 1 + k by omega]; exact clashes_false h.2 k y (by simpa using hk) hc
theorem drawOk_spec {bs : List Nat} : ∀ {l done : List (List Loc × List Loc)}, drawOk bs done l = true → ∀ j k x y, done.length ≤ k → j < k → (done ++ l)[k]? = some x → (done ++ l)[j]? = some y → clash y x = true → (bs.getD k 0).testBit j = true
 | [], done, h, j, k, x, y, hk, hj, hx, hy, hc => by simp at hx; have := (List.getElem?_eq_some_iff.1 hx).1; omega
 | z :: l, done, h, j, k, x, y, hk, hj, hx, hy, hc => by
  simp only [drawOk, Bool.and_eq_true, Bool.not_eq_true'] at h
  by_cases e : k = done.length
  ·subst e
   simp at hx; subst hx
   rw [List.getElem?_append_left hj] at hy
   have := clashes_false h.1 j y hy hc
   rwa [Nat.zero_add] at this
  ·refine drawOk_spec h.2 j k x y (by simp; omega) hj (by simpa using hx) (by simpa using hy) hc

theorem bef_keep : ∀ {l : List Oper} {acc : List Nat} {j : Nat}, j < acc.length → (l.foldl (fun bs o => bs ++ [befStep bs o]) acc).getD j 0 = acc.getD j 0
 | [], _, _, _ => rfl
 | o :: l, acc, j, h => by
  rw [List.foldl_cons, bef_keep (by simp; omega)]
  simp [List.getD, List.getElem?_append_left h]
theorem bef_at : ∀ {l : List Oper} {acc : List Nat} {k : Nat} {o : Oper}, l[k]? = some o → ∃ bs, (l.foldl (fun bs o => bs ++ [befStep bs o]) acc).getD (acc.length + k) 0 = befStep bs o ∧ ∀ j, j < acc.length + k → bs.getD j 0 = (l.foldl (fun bs o => bs ++ [befStep bs o]) acc).getD j 0
 | [], _, _, _, h => by simp at h
 | x :: l, acc, k, o, h => by
  cases k with
  | zero =>
   simp at h; subst h
   refine ⟨acc, ?_, fun j hj => ?_⟩
   ·rw [List.foldl_cons, bef_keep (by simp)]
    simp [List.getD]
   ·rw [bef_keep (l := x :: l) (by omega)]
  | succ k =>
   obtain ⟨bs, h1, h2⟩ := bef_at (acc := acc ++ [befStep acc x]) (show l[k]? = some o by simpa using h)
   simp only [List.length_append, List.length_singleton] at h1 h2
   refine ⟨bs, ?_, fun j hj => ?_⟩
   ·rw [List.foldl_cons, ← h1]; congr 1; omega
   ·rw [List.foldl_cons]; exact h2 j (by omega)
theorem foldl_bits {es : List Edge} {bs : List Nat} {m i : Nat} (h : (es.foldl (fun m e => if Region.binds .any e then m ||| 2 ^ e.on ||| bs.getD e.on 0 else m) m).testBit i = true) :
  m.testBit i = true ∨ ∃ e ∈ es, Region.binds .any e = true ∧ (e.on = i ∨ (bs.getD e.on 0).testBit i = true) := by
 induction es generalizing m with
 | nil => exact .inl h
 | cons e es ih =>
  rw [List.foldl_cons] at h
  rcases ih h with h | ⟨e', h1, h2⟩
  ·split at h
   ·rename_i hb
    rw [Nat.testBit_or, Nat.testBit_or, Bool.or_eq_true, Bool.or_eq_true] at h
    rcases h with (h | h) | h
    ·exact .inl h
    ·rw [Nat.testBit_two_pow] at h; exact .inr ⟨e, by simp, hb, .inl (by simpa using h)⟩
    ·exact .inr ⟨e, by simp, hb, .inr h⟩
   ·exact .inl h
  ·exact .inr ⟨e', by simp [h1], h2⟩
theorem backB_at : ∀ {l : List Oper} {i k : Nat} {o : Oper}, backB i l = true → l[k]? = some o → ∀ e ∈ o.after.toList, Region.binds .any e = true → e.on < i + k
 | [], _, _, _, _, h, _, _, _ => by simp at h
 | x :: l, i, k, o, hb, h, e, he, hbe => by
  simp only [backB, Bool.and_eq_true, List.all_eq_true] at hb
  cases k with
  | zero =>
   simp at h; subst h
   have := hb.1 e he
   rw [hbe] at this
   have h2 : Nat.blt e.on i = true := by simpa only [Bool.not_true, Bool.false_or] using this
   have := Nat.le_of_ble_eq_true h2
   omega
  | succ k => have := backB_at hb.2 (show l[k]? = some o by simpa using h) e he hbe; omega
theorem bef_closed {ops : List Oper} (hb : backB 0 ops = true) {S : Nat → Prop} (hS : ∀ (k : Nat) (o : Oper), S k → ops[k]? = some o → ∀ e ∈ o.after.toList, Region.binds .any e = true → S e.on) :
  ∀ (k : Nat) (o : Oper), ops[k]? = some o → (∀ e ∈ o.after.toList, Region.binds .any e = true → S e.on) → ∀ i, ((befores ops).getD k 0).testBit i = true → S i := by
 intro k
 induction k using Nat.strongRecOn with
 | _ k ih =>
  intro o ho he i hi
  obtain ⟨bs, h1, h2⟩ := bef_at (acc := []) ho
  simp only [List.length_nil, Nat.zero_add] at h1 h2
  have : (befores ops).getD k 0 = befStep bs o := h1
  rw [this] at hi
  rcases foldl_bits hi with h | ⟨e, h3, h4, h5⟩
  ·simp at h
  ·have hlt := backB_at hb ho e h3 h4
   rw [Nat.zero_add] at hlt
   rcases h5 with rfl | h5
   ·exact he e h3 h4
   ·rw [h2 e.on hlt] at h5
    have hkl := (List.getElem?_eq_some_iff.1 ho).1
    have hoe : ops[e.on]? = some ops[e.on] := List.getElem?_eq_getElem (by omega)
    exact ih e.on hlt _ hoe (fun e' q1 q2 => hS e.on _ (he e h3 h4) hoe e' q1 q2) i h5

def Trc.w (t : Trc) (k : Nat) : List Wr := (t.getD k dTc).ws
def Trc.of (t : Trc) (p : Nat → Bool) : List Wr := (List.range t.length).flatMap fun k => if p k then t.w k else []
theorem flatMap_take {α β : Type} (f : α → List β) (d : α) : ∀ (t : List α) (i : Nat), (t.take i).flatMap f = (List.range t.length).flatMap fun k => if k < i then f (t.getD k d) else []
 | [], i => by simp
 | x :: t, i => by
  rw [List.length_cons, List.range_succ_eq_map, List.flatMap_cons, List.flatMap_map]
  cases i with
  | zero => simp
  | succ i =>
   rw [List.take_succ_cons, List.flatMap_cons, flatMap_take f d t i]
   simp
theorem trc_take (t : Trc) (i : Nat) : (t.take i).flatMap (·.ws) = t.of fun k => decide (k < i) := by
 rw [flatMap_take (·.ws) dTc]
 simp [Trc.of, Trc.w]
theorem trc_all (t : Trc) {p : Nat → Bool} (h : ∀ k, k < t.length → p k = true) : t.flatMap (·.ws) = t.of p := by
 have := trc_take t t.length
 rw [List.take_length] at this
 rw [this]
 unfold Trc.of
 have : ∀ {l : List Nat}, (∀ k ∈ l, k < t.length) → l.flatMap (fun k => if decide (k < t.length) = true then t.w k else []) = l.flatMap (fun k => if p k = true then t.w k else []) := by
  intro l
  induction l with
  | nil => intro _; rfl
  | cons x l ih => intro hl; rw [List.flatMap_cons, List.flatMap_cons, ih fun k hk => hl k (by simp [hk])]; simp [hl x (by simp), h x (hl x (by simp))]
 exact this fun k hk => by simpa using hk
theorem trc_filter {t : Trc} {p p' : Nat → Bool} {l : Loc} (h : ∀ k, k < t.length → (p k = p' k ∨ (t.w k).filter (fun x => x.at == l) = [])) : (t.of p).filter (fun x => x.at == l) = (t.of p').filter fun x => x.at == l := by
 unfold Trc.of
 rw [List.filter_flatMap, List.filter_flatMap]
 have : ∀ {q : List Nat}, (∀ k ∈ q, k < t.length) → q.flatMap (fun k => ((if p k = true then t.w k else []).filter fun x => x.at == l)) = q.flatMap (fun k => ((if p' k = true then t.w k else []).filter fun x => x.at == l)) := by
  intro q
  induction q with
  | nil => intro _; rfl
  | cons x q ih =>
   intro hq
   rw [List.flatMap_cons, List.flatMap_cons, ih fun k hk => hq k (by simp [hk])]
   congr 1
   rcases h x (hq x (by simp)) with e | e
   ·rw [e]
   ·split <;> split <;> simp [e]
 exact this fun k hk => by simpa using hk
theorem filter_nil_of {ws : List Wr} {l : Loc} (h : l ∉ ws.map Wr.at) : ws.filter (fun x => x.at == l) = [] := by
 rw [List.filter_eq_nil_iff]
 intro x hx e
 exact h (List.mem_map.2 ⟨x, hx, by simpa using e⟩)
theorem trc_snoc {t : Trc} {p : Nat → Bool} {i : Nat} {l : Loc} (hi : i < t.length) (hp : p i = false) (h : l ∈ (t.w i).map Wr.at → ∀ k, k < t.length → i < k → p k = true → l ∉ (t.w k).map Wr.at) :
  (t.of p ++ t.w i).filter (fun x => x.at == l) = (t.of fun k => p k || decide (k = i)).filter fun x => x.at == l := by
 have hr : List.range t.length = List.range i ++ i :: List.range' (i + 1) (t.length - i - 1) := by
  rw [List.range_eq_range', List.range_eq_range', ← List.range'_succ]
  have := List.range'_append_1 (s := 0) (m := i) (n := t.length - i - 1 + 1)
  rw [Nat.zero_add] at this
  rw [this]; congr 1; omega
 have hsame : ∀ {q : List Nat}, (∀ k ∈ q, k ≠ i) → q.flatMap (fun k => if (p k || decide (k = i)) = true then t.w k else []) = q.flatMap (fun k => if p k = true then t.w k else []) := by
  intro q
  induction q with
  | nil => intro _; rfl
  | cons x q ih => intro hq; rw [List.flatMap_cons, List.flatMap_cons, ih fun k hk => hq k (by simp [hk])]; simp [hq x (by simp)]
 unfold Trc.of
 rw [hr, List.flatMap_append, List.flatMap_append, List.flatMap_cons, List.flatMap_cons]
 rw [hsame (q := List.range i) (fun k hk => by simp at hk; omega), hsame (q := List.range' (i + 1) (t.length - i - 1)) (fun k hk => by simp [List.mem_range'_1] at hk; omega)]
 simp only [hp, Bool.false_or, decide_true, if_true, Bool.false_eq_true, if_false, List.nil_append, List.filter_append, List.append_assoc]
 congr 1
 by_cases hl : l ∈ (t.w i).map Wr.at
 ·have : ((List.range' (i + 1) (t.length - i - 1)).flatMap (fun k => if p k = true then t.w k else [])).filter (fun x => x.at == l) = [] := by
   rw [List.filter_eq_nil_iff]
   intro x hx e
   obtain ⟨k, hk, hxk⟩ := List.mem_flatMap.1 hx
   rw [List.mem_range'_1] at hk
   cases hpk : p k with
   | false => rw [hpk] at hxk; simp at hxk
   | true => rw [hpk] at hxk; exact h hl k (by omega) (by omega) hpk (List.mem_map.2 ⟨x, by simpa using hxk, by simpa using e⟩)
  rw [this]; simp
 ·rw [filter_nil_of hl]; simp
theorem countP_one {p p' : Nat → Bool} {i : Nat} (hp : p i = true) (hp' : p' i = false) (h : ∀ k, k ≠ i → p' k = p k) : ∀ n, i < n → (List.range n).countP p = (List.range n).countP p' + 1
 | 0, hi => by omega
 | n + 1, hi => by
  rw [List.range_succ, List.countP_append, List.countP_append]
  have hb : ∀ n, n ≤ i → (List.range n).countP p = (List.range n).countP p' := by
   intro n hn
   apply List.countP_congr
   intro k hk
   simp at hk
   rw [h k (by omega)]
  by_cases e : n = i
  ·subst e
   rw [hb n (Nat.le_refl _)]
   simp [hp, hp']
  ·rw [countP_one hp hp' h n (by omega)]
   simp [List.countP_cons, h n e]
   omega


section
variable {P : Program} {Γ : Ctx} {ρ : En} {N : Nat} {S : Sl} {H : Hp} {m : Mp} {a : Act} {w : World} {o : Oper} {U : Nat → Prop} {fresh : Nat} {r : List Wr × Nat} {Q : Exit → Act → World → Prop} {cl : CallFn}
theorem opRT_ok (hT : TysOk P Γ.tys) (hR : RngOk ρ Γ.R) (hcl : CallOk P ρ cl) (h : Rep P ρ N S H m a w) (hU : ∀ id, m id ≠ none → U id) (hd : ∀ d, o.dst = some d → d < N) (hf : ∀ j, fresh ≤ j → j < r.2 → ¬ U j) {ops : Array Oper}
  (hr : (opRT Γ cl ops.toList fresh o).run S H = some r) : if Region.wanted o (yielded ops a.tmps) then o.wp P a w (After P ρ N U fresh S H m r) Q else After P ρ N U fresh S H m r (a.put o.dst undef) w := by
 have hund : (undR o fresh).run S H = some r → After P ρ N U fresh S H m r (a.put o.dst undef) w := by
  intro hr
  have hr' : (dstR o (.tup []) [] fresh).run S H = some r := by
   unfold dstR
   unfold undR at hr
   cases hdst : o.dst with
   | none => rw [hdst] at hr; exact hr
   | some d => rw [hdst] at hr; exact hr
  exact after_put h hd (Mp.le_refl m) (ws0 := []) (show HRep P ρ (appH H []) m w from h.heap) (fun y hy => by simp at hy) (hv := .tup []) rfl (fun id hi => .inl (hU id hi)) hr'
 unfold opRT at hr
 cases hgd : o.guard with
 | none =>
  rw [hgd] at hr
  rw [if_pos (by simp [Region.wanted, hgd])]
  exact evalOp_ok hT hR hcl h hU hd hf hr
 | some jw =>
  obtain ⟨j, want⟩ := jw
  rw [hgd] at hr
  simp only at hr
  split at hr
  ·rename_i d hdj
   have hdj' : (ops[j]?).bind (·.dst) = some d := by rw [← hdj]; simp
   replace hr := run_get hr
   obtain ⟨v, hv, hr⟩ := hr
   have hslot := h.slots d v hv
   have hy : ∀ b, v = .b b → yielded ops a.tmps j = some b := by
    intro b e
    subst e
    simp only [den, Option.some.injEq] at hslot
    have hlt : d < a.tmps.size := by
     rcases Nat.lt_or_ge d a.tmps.size with h | h
     ·exact h
     ·simp [Array.getD, Nat.not_lt.2 h, undef] at hslot
    unfold yielded
    rw [hdj', Option.bind_some, Array.getElem?_eq_getElem hlt]
    have : a.tmps[d] = .bool b := by rw [hslot]; simp [hlt]
    rw [this]
   split at hr
   ·rename_i b
    have hy := hy b rfl
    cases hbw : b == want
    ·rw [hbw] at hr
     rw [if_neg (by simp only [Region.wanted, hgd, hy]; simpa using hbw)]
     exact hund hr
    ·rw [hbw] at hr
     rw [if_pos (by simp only [Region.wanted, hgd, hy]; simpa using hbw)]
     exact evalOp_ok hT hR hcl h hU hd hf hr
   ·have hy0 : yielded ops a.tmps j = none := by
     simp only [den, denL, Option.some.injEq] at hslot
     unfold yielded
     rw [hdj', Option.bind_some]
     rcases Nat.lt_or_ge d a.tmps.size with hlt | hge
     ·rw [Array.getElem?_eq_getElem hlt]
      have : a.tmps[d] = .tuple #[] := by simpa [hlt] using hslot.symm
      rw [this]
     ·rw [Array.getElem?_eq_none hge]
    rw [if_neg (by simp [Region.wanted, hgd, hy0])]
    exact hund hr
   ·exact run_fail hr
  ·exact run_fail hr
end
structure Bs where
 N : Nat
 U : Nat → Prop
 n0 : Nat
 mb : Mp
 S0 : Sl
 H0 : Hp
 r : List Wr × Nat
structure StOk (P : Program) (ρ : En) (B : Bs) (G : GS) (a : Act) (w : World) : Prop where
 rep : ∃ m, B.mb.le m ∧ Rep P ρ B.N G.slots.get (G.over B.H0) m a w ∧ ∀ id, m id ≠ none → B.U id ∨ (B.n0 ≤ id ∧ id < G.next)
 low : B.n0 ≤ G.next
def XE.out : XE → Exit
 | .normal => .normal
 | .exit id => .exit id
 | .ret => .ret
structure BsOk (B : Bs) : Prop where
 free : ∀ j, B.n0 ≤ j → j < B.r.2 → ¬ B.U j
structure KOk (P : Program) (ρ : En) (B : Bs) (K : XE → GS → RT) (Q : Exit → Act → World → Prop) : Prop where
 go : ∀ e G a w, StOk P ρ B G a w → (K e G).run B.S0 B.H0 = some B.r → Q e.out a w
 up : ∀ e G, (K e G).run B.S0 B.H0 = some B.r → G.next ≤ B.r.2
def dstOk (N : Nat) (ops : List Oper) : Bool := ops.all fun o => match o.dst with
 | some d => Nat.blt d N
 | none => true
theorem dst_lt {N : Nat} {ops : List Oper} (h : dstOk N ops = true) {o : Oper} (ho : o ∈ ops) : ∀ d, o.dst = some d → d < N := by
 intro d hd
 have := List.all_eq_true.1 h o ho
 rw [hd] at this
 exact Nat.le_of_ble_eq_true this
section
variable {P : Program} {Γ : Ctx} {ρ : En} {B : Bs} {cl : CallFn} {Q : Exit → Act → World → Prop}
theorem regK_up {K : GS → RT} {ops : List Oper} (hK : ∀ G, (K G).run B.S0 B.H0 = some B.r → G.next ≤ B.r.2) : ∀ {l : List Oper} {G : GS}, (regK Γ cl ops l G K).run B.S0 B.H0 = some B.r → G.next ≤ B.r.2
 | [], G, h => hK G h
 | o :: l, G, h => by
  have h' : ((opRT Γ cl ops G.next o).inn G fun G => regK Γ cl ops l G K).run B.S0 B.H0 = some B.r := h
  obtain ⟨ws, nx, G', h1, h2, h3, h4, h5, h6⟩ := inn_run h'
  have := regK_up hK h6
  omega
theorem regD_up {K : GS → RT} {ops : List Oper} (hK : ∀ G, (K G).run B.S0 B.H0 = some B.r → G.next ≤ B.r.2) {l : List Oper} {acc : List (List Loc × List Loc)} {G : GS} (h : (regD Γ cl ops l acc G K).run B.S0 B.H0 = some B.r) : G.next ≤ B.r.2 := by
 obtain ⟨t, G', _, _, _, _, _, h6, h7, _⟩ := regD_seq h
 have := hK G' h7
 omega
theorem regK_ok (hT : TysOk P Γ.tys) (hR : RngOk ρ Γ.R) (hcl : CallOk P ρ cl) (hB : BsOk B) {K : GS → RT} {ops : Array Oper} (hops : dstOk B.N ops.toList = true)
  (hK : ∀ G a w, StOk P ρ B G a w → (K G).run B.S0 B.H0 = some B.r → Q .normal a w) (hup : ∀ G, (K G).run B.S0 B.H0 = some B.r → G.next ≤ B.r.2) : ∀ {l : List Oper} {i : Nat} {G : GS} {a : Act} {w : World},
  ops.toList.drop i = l → StOk P ρ B G a w → (regK Γ cl ops.toList l G K).run B.S0 B.H0 = some B.r → wpOps P ops Q (List.range' i l.length) a w
 | [], i, G, a, w, hl, h, hr => hK G a w h hr
 | o :: l, i, G, a, w, hl, h, hr => by
  have hr' : ((opRT Γ cl ops.toList G.next o).inn G fun G => regK Γ cl ops.toList l G K).run B.S0 B.H0 = some B.r := hr
  obtain ⟨ws, nx, G', h1, h2, h3, h4, h5, h6⟩ := inn_run hr'
  have htop := regK_up hup h6
  have hi : ops[i]? = some o := by
   have : (ops.toList.drop i)[0]? = some o := by rw [hl]; rfl
   simpa using this
  have hl' : ops.toList.drop (i + 1) = l := by rw [← List.drop_drop, hl]; rfl
  have hmem : o ∈ ops.toList := by
   have : ops.toList[i]? = some o := by rw [Array.getElem?_toList]; exact hi
   exact List.mem_of_getElem? this
  obtain ⟨⟨m, m1, m2, m3⟩, low⟩ := h
  have hop := opRT_ok (Q := Q) (fresh := G.next) (U := fun id => B.U id ∨ (B.n0 ≤ id ∧ id < G.next)) hT hR hcl m2 m3 (dst_lt hops hmem) (fun j j1 j2 j3 => by
   simp only at j2
   rcases j3 with j3 | j3
   ·exact hB.free j (by omega) (by omega) j3
   ·omega) h1
  have step : ∀ a' w', After P ρ B.N (fun id => B.U id ∨ (B.n0 ≤ id ∧ id < G.next)) G.next G.slots.get (G.over B.H0) m (ws, nx) a' w' → wpOps P ops Q (List.range' (i + 1) l.length) a' w' := by
   rintro a' w' ⟨m', e1, e2, e3⟩
   refine regK_ok hT hR hcl hB hops hK hup hl' ⟨⟨m', Mp.le_trans m1 e1, by rw [h2, h3]; exact e2, fun id hid => ?_⟩, by omega⟩ h6
   rcases e3 id hid with (q | q) | q
   ·exact .inl q
   ·exact .inr ⟨q.1, by omega⟩
   ·exact .inr ⟨by omega, by omega⟩
  simp only [List.length_cons, List.range'_succ, wpOps, hi]
  split at hop
  ·rename_i hw
   rw [if_pos hw]
   exact .inl (Oper.wp_mono step hop)
  ·rename_i hw
   rw [if_neg hw]
   exact step _ _ hop
end
end Go.Proofs.YtehbbcdhahnkgaaGreat.Hm

namespace Go.Proofs.YtehbbcdhahnkgaaGreat.Hm
open Go
section
variable {P : Program} {Γ : Ctx} {ρ : En} {B : Bs} {cl : CallFn} {Q : Exit → Act → World → Prop}
theorem regD_ok (hT : TysOk P Γ.tys) (hR : RngOk ρ Γ.R) (hcl : CallOk P ρ cl) (hB : BsOk B) {K : GS → RT} {ops : Array Oper} (hops : dstOk B.N ops.toList = true)
  (hK : ∀ G a w, StOk P ρ B G a w → (K G).run B.S0 B.H0 = some B.r → Q .normal a w) (hup : ∀ G, (K G).run B.S0 B.H0 = some B.r → G.next ≤ B.r.2) {G : GS} {a : Act} {w : World}
  (h : StOk P ρ B G a w) (hr : (regD Γ cl ops.toList ops.toList [] G K).run B.S0 B.H0 = some B.r) : wpAny P .any ops Q ops.size (Array.replicate ops.size false) a w := by
 obtain ⟨t, G', t1, t2, t3, t3', t3'', t0, t4, t5, t6⟩ := regD_seq hr
 have htop := hup G' t4
 have t1' : t.length = ops.size := by simpa using t1
 rw [List.nil_append] at t5
 obtain ⟨s, hs⟩ : ∃ s, s = G.sg B.H0 := ⟨_, rfl⟩
 rw [← hs] at t2 t3''
 have clash_of : ∀ (j k : Nat) (l : Loc), j < k → k < t.length → (l ∈ (t.getD k dTc).rd ∨ l ∈ (t.w k).map Wr.at) → l ∈ (t.w j).map Wr.at → ((befores ops.toList).getD k 0).testBit j = true := by
  intro j k l hj hk hl hlj
  have e1 : (t.map fun p => (p.rd, p.ws.map Wr.at))[k]? = some ((t.getD k dTc).rd, (t.w k).map Wr.at) := by
   simp [Trc.w, List.getElem?_eq_getElem hk]
  have e2 : (t.map fun p => (p.rd, p.ws.map Wr.at))[j]? = some ((t.getD j dTc).rd, (t.w j).map Wr.at) := by
   simp [Trc.w, List.getElem?_eq_getElem (show j < t.length by omega)]
  refine drawOk_spec t5 j k _ _ (by simp) hj (by rw [List.nil_append]; exact e1) (by rw [List.nil_append]; exact e2) ?_
  unfold clash
  rw [Bool.or_eq_true, Bool.or_eq_true]
  rcases hl with hl | hl
  ·exact .inl (.inl (touch_iff.2 ⟨l, hlj, hl⟩))
  ·exact .inl (.inr (touch_iff.2 ⟨l, hlj, hl⟩))
 have clash_of' : ∀ (j k : Nat) (l : Loc), j < k → k < t.length → l ∈ (t.w k).map Wr.at → l ∈ (t.getD j dTc).rd → ((befores ops.toList).getD k 0).testBit j = true := by
  intro j k l hj hk hl hlj
  have e1 : (t.map fun p => (p.rd, p.ws.map Wr.at))[k]? = some ((t.getD k dTc).rd, (t.w k).map Wr.at) := by
   simp [Trc.w, List.getElem?_eq_getElem hk]
  have e2 : (t.map fun p => (p.rd, p.ws.map Wr.at))[j]? = some ((t.getD j dTc).rd, (t.w j).map Wr.at) := by
   simp [Trc.w, List.getElem?_eq_getElem (show j < t.length by omega)]
  refine drawOk_spec t5 j k _ _ (by simp) hj (by rw [List.nil_append]; exact e1) (by rw [List.nil_append]; exact e2) ?_
  unfold clash
  rw [Bool.or_eq_true, Bool.or_eq_true]
  exact .inr (touch_iff.2 ⟨l, hl, hlj⟩)
 have key : ∀ (fuel : Nat) (listed : Array Bool) (a : Act) (w : World) (m : Mp), listed.size = ops.size →
   (List.range ops.size).countP (fun k => !(listed.getD k false)) = fuel →
   (∀ (k : Nat) (o : Oper), listed.getD k false = true → ops.toList[k]? = some o → ∀ e ∈ o.after.toList, Region.binds .any e = true → listed.getD e.on false = true) →
   B.mb.le m → Rep P ρ B.N (s.app (t.of fun k => listed.getD k false)).S (s.app (t.of fun k => listed.getD k false)).H m a w →
   (∀ id, m id ≠ none → (B.U id ∨ (B.n0 ≤ id ∧ id < G.next)) ∨ ∃ k e, listed.getD k false = true ∧ t[k]? = some e ∧ e.fr ≤ id ∧ id < e.nx) → wpAny P .any ops Q fuel listed a w := by
  intro fuel
  have fin : ∀ (listed : Array Bool) (a : Act) (w : World) (m : Mp), listed.size = ops.size → (∀ k, k < ops.size → listed.getD k false = true) →
    B.mb.le m → Rep P ρ B.N (s.app (t.of fun k => listed.getD k false)).S (s.app (t.of fun k => listed.getD k false)).H m a w →
    (∀ id, m id ≠ none → (B.U id ∨ (B.n0 ≤ id ∧ id < G.next)) ∨ ∃ k e, listed.getD k false = true ∧ t[k]? = some e ∧ e.fr ≤ id ∧ id < e.nx) → Q .normal a w := by
   intro listed a w m hsz hall hle hrep hdom
   have heq : s.app (t.of fun k => listed.getD k false) = G'.sg B.H0 := by
    rw [t3'', trc_all t (p := fun k => listed.getD k false) (fun k hk => hall k (by omega))]
   rw [heq] at hrep
   refine hK G' a w ⟨⟨m, hle, hrep, fun id hid => ?_⟩, by have := h.low; omega⟩ t4
   rcases hdom id hid with (q | q) | ⟨k, e, q1, q2, q3, q4⟩
   ·exact .inl q
   ·exact .inr ⟨q.1, by omega⟩
   ·obtain ⟨z1, z2, z3⟩ := t3 k e q2
    have := h.low
    exact .inr ⟨by omega, by omega⟩
  have none_ready : ∀ (listed : Array Bool), listed.size = ops.size → Region.ready .any ops listed = [] → ∀ k, k < ops.size → listed.getD k false = true := by
   intro listed hsz hnil k
   induction k using Nat.strongRecOn with
   | _ k ih =>
    intro hk
    cases hlk : listed.getD k false with
    | true => rfl
    | false =>
     have : k ∈ Region.ready .any ops listed := by
      unfold Region.ready
      rw [List.mem_filter]
      refine ⟨by simpa using hk, ?_⟩
      have hk2 : k < listed.size := by omega
      have e1 : listed.getD k true = false := by simpa [Array.getD, hk2] using hlk
      simp only [e1, Bool.not_false, Bool.true_and]
      rw [Array.getElem?_eq_getElem hk]
      simp only [Option.map_some, Option.getD_some]
      rw [Array.all_eq_true']
      intro e he
      cases hb : Region.binds .any e with
      | false => rfl
      | true =>
       have hlt := backB_at (k := k) (o := ops[k]) t6 (by simp [hk]) e (by simpa using he) hb
       rw [Nat.zero_add] at hlt
       rw [ih e.on hlt (by omega)]; rfl
     rw [hnil] at this; simp at this
  induction fuel with
  | zero =>
   intro listed a w m hsz hcnt hcl hle hrep hdom
   have hall : ∀ k, k < ops.size → listed.getD k false = true := by
    intro k hk
    have := List.countP_eq_zero.1 hcnt k (by simpa using hk)
    simpa using this
   refine ⟨?_, fin listed a w m hsz hall hle hrep hdom⟩
   unfold Region.ready
   rw [List.filter_eq_nil_iff]
   intro k hk
   have hk' : k < ops.size := by simpa using hk
   have e1 : listed.getD k true = true := by have := hall k hk'; simpa [Array.getD, show k < listed.size by omega] using this
   simp [e1]
  | succ fuel ih =>
   intro listed a w m hsz hcnt hcl0 hle hrep hdom
   refine ⟨fun hnil => fin listed a w m hsz (none_ready listed hsz hnil) hle hrep hdom, fun i hi => ?_⟩
   unfold Region.ready at hi
   rw [List.mem_filter, Bool.and_eq_true] at hi
   obtain ⟨hi1, hi2, hi3⟩ := hi
   have hin : i < ops.size := by simpa using hi1
   have hil : i < listed.size := by omega
   have hun : listed.getD i false = false := by simpa [Array.getD, hil] using hi2
   have ho : ops[i]? = some ops[i] := Array.getElem?_eq_getElem hin
   have ho' : ops.toList[i]? = some ops[i] := by simp [hin]
   rw [ho] at hi3
   simp only [Option.map_some, Option.getD_some] at hi3
   rw [Array.all_eq_true'] at hi3
   have hedge : ∀ e ∈ ops[i].after.toList, Region.binds .any e = true → listed.getD e.on false = true := by
    intro e he hb
    have := hi3 e (by simpa using he)
    rw [hb] at this
    simpa using this
   have hbef := bef_closed t6 (S := fun k => listed.getD k false = true) hcl0 i _ ho' hedge
   have hbef2 : ∀ k, listed.getD k false = true → k < t.length → ∀ j, ((befores ops.toList).getD k 0).testBit j = true → listed.getD j false = true := by
    intro k hk hkl
    have hk2 : k < ops.size := by omega
    exact bef_closed t6 (S := fun k => listed.getD k false = true) hcl0 k ops[k] (by simp [hk2]) (hcl0 k _ hk (by simp [hk2]))
   obtain ⟨ei, q1, q2⟩ := t2 i _ ho'
   have hw : t.w i = ei.ws := by simp [Trc.w, q1]
   have hrd : (t.getD i dTc).rd = ei.rd := by simp [q1]
   obtain ⟨f1, f2, f3⟩ := t3 i ei q1
   have hrun := q2 (s.app (t.of fun k => listed.getD k false)) (by
    intro l hl
    rw [trc_take]
    refine app_like_of (trc_filter fun k hk => ?_)
    by_cases hlk : l ∈ (t.w k).map Wr.at
    ·left
     rcases Nat.lt_trichotomy k i with h1 | h1 | h1
     ·rw [hbef k (clash_of k i l h1 (by omega) (.inl (by rw [hrd]; exact hl)) hlk)]; simp [h1]
     ·subst h1; rw [hun]; simp
     ·cases hlis : listed.getD k false with
      | false => simp; omega
      | true =>
       have := hbef2 k hlis hk i (clash_of' i k l h1 hk hlk (by rw [hrd]; exact hl))
       rw [hun] at this; cases this
    ·exact .inr (filter_nil_of hlk))
   have hop := opRT_ok (Q := Q) (fresh := ei.fr) hT hR hcl hrep hdom (dst_lt hops (List.mem_of_getElem? ho')) (fun j j1 j2 j3 => by
    simp only at j2
    have hlow := h.low
    rcases j3 with (j3 | j3) | ⟨k, ek, z1, z2, z3, z4⟩
    ·exact hB.free j (by omega) (by omega) j3
    ·omega
    ·rcases Nat.lt_trichotomy k i with e | e | e
     ·have := t3' k i ek ei e z2 q1; omega
     ·subst e; rw [hun] at z1; cases z1
     ·have := t3' i k ei ek e q1 z2; omega) hrun
   have hset : ∀ k, (listed.setIfInBounds i true).getD k false = (listed.getD k false || decide (k = i)) := by
    intro k
    by_cases e : k = i
    ·subst e; simp [Array.getD, hil]
    ·simp [e]; rw [Array.getElem?_setIfInBounds_ne (Ne.symm e)]
   have step : ∀ a' w', After P ρ B.N (fun id => (B.U id ∨ (B.n0 ≤ id ∧ id < G.next)) ∨ ∃ k e, listed.getD k false = true ∧ t[k]? = some e ∧ e.fr ≤ id ∧ id < e.nx) ei.fr (s.app (t.of fun k => listed.getD k false)).S (s.app (t.of fun k => listed.getD k false)).H m (ei.ws, ei.nx) a' w' → wpAny P .any ops Q fuel (listed.setIfInBounds i true) a' w' := by
    rintro a' w' ⟨m', x1, x2, x3⟩
    have hlike : ∀ l, (s.app (t.of (fun k => listed.getD k false) ++ ei.ws)).like (s.app (t.of fun k => (listed.setIfInBounds i true).getD k false)) l := by
     intro l
     rw [← hw, funext hset]
     refine app_like_of (trc_snoc (by omega) hun fun hl k hk hik hlis hlk => ?_)
     have := hbef2 k hlis hk i (clash_of i k l hik hk (.inr hlk) hl)
     rw [hun] at this; cases this
    have heq := eq_of_like hlike
    rw [sapp_append] at heq
    refine ih _ a' w' m' (by simpa using hsz) ?_ ?_ (Mp.le_trans hle x1) (by rw [heq]; exact x2) (fun id hid => ?_)
    ·have := countP_one (p := fun k => !(listed.getD k false)) (p' := fun k => !((listed.setIfInBounds i true).getD k false)) (i := i) (by rw [hun]; rfl) (by rw [hset]; simp) (fun k hk => by rw [hset]; simp [hk]) ops.size hin
     omega
    ·intro k o hk hko e he hb
     rw [hset] at hk ⊢
     by_cases e1 : k = i
     ·subst e1
      rw [ho'] at hko; cases hko
      rw [hedge e he hb]; rfl
     ·have : listed.getD k false = true := by simpa [e1] using hk
      rw [hcl0 k o this hko e he hb]; rfl
    ·rcases x3 id hid with (q | ⟨k, e, z1, z2⟩) | q
     ·exact .inl q
     ·exact .inr ⟨k, e, by rw [hset, z1]; rfl, z2⟩
     ·exact .inr ⟨i, ei, by rw [hset]; simp, q1, q⟩
   unfold wpOp
   rw [ho]
   simp only
   split at hop
   ·rename_i hwt
    rw [if_pos hwt]
    exact .inl (Oper.wp_mono step hop)
   ·rename_i hwt
    rw [if_neg hwt]
    exact step _ _ hop
 have hemp : t.of (fun k => (Array.replicate ops.size false).getD k false) = [] := by
  unfold Trc.of
  rw [List.flatMap_eq_nil_iff]
  intro k _
  by_cases hk : k < ops.size <;> simp [Array.getD, hk]
 obtain ⟨m, m1, m2, m3⟩ := h.rep
 refine key ops.size _ a w m (by simp) ?_ ?_ m1 ?_ (fun id hid => .inl (m3 id hid))
 ·have : (List.range ops.size).countP (fun k => !((Array.replicate ops.size false).getD k false)) = (List.range ops.size).length := by
   rw [List.countP_eq_length]
   intro k hk
   have hk : k < ops.size := by simpa using hk
   simp [Array.getD, hk]
  rw [this]; simp
 ·intro k o hk
  by_cases hk2 : k < ops.size <;> simp [Array.getD, hk2] at hk
 ·rw [hemp, app_nil, hs]
  exact m2
def codeDst (N : Nat) : Code → Bool
 | .region _ ops _ => dstOk N ops.toList
 | .seq a b => codeDst N a && codeDst N b
 | .cond _ a b => codeDst N a && codeDst N b
 | .block _ c => codeDst N c
 | .loop c => codeDst N c
 | _ => true
theorem drawn_ok {G : GS} {a : Act} {w : World} (h : StOk P ρ B G a w) : StOk P ρ B G a { w with drawn := w.drawn + 1 } := by
 obtain ⟨⟨m, m1, m2, m3⟩, low⟩ := h
 exact ⟨⟨m, m1, ⟨m2.heap.grow (fun _ _ => rfl) ⟨rfl, rfl, rfl⟩, m2.slots, m2.defers, m2.size⟩, m3⟩, low⟩
theorem loop_zero {L : Nat} {body : GS → (XE → GS → RT) → RT} {K : XE → GS → RT} {G : GS} : loopRT (L + 1) body K G = body G fun e G' => match e with
  | .normal => loopRT L body K G'
  | .exit i => K (.exit i) G'
  | .ret => K .ret G' := by
 show body G _ = body G _
 congr 1
 funext e G'
 cases e <;> rfl
end
end Go.Proofs.YtehbbcdhahnkgaaGreat.Hm

namespace Go.Proofs.YtehbbcdhahnkgaaGreat.Hm
open Go
def CaOk (H : Hp) (G : GS) : Prop := ∀ id o, G.ca.get id = some o → H id = some o
theorem app_ca : ∀ (ws : List Wr) (G : GS), (G.app ws).ca = G.ca
 | [], G => rfl
 | x :: ws, G => by rw [app_cons, app_ca ws]; cases x <;> rfl
theorem CaOk.keep {H : Hp} {G : GS} {id : Nat} {o : Ob} (h : CaOk H G) (ho : H id = some o) : CaOk H (G.keep id o) := by
 intro i o' hi
 have hi : (G.ca.set (some o) id).get i = some o' := hi
 rw [Tr.get_set] at hi
 split at hi
 ·rename_i e; cases hi; rw [e]; exact ho
 ·exact h i o' hi
theorem CaOk.fin {H : Hp} {G : GS} {ws : List Wr} {nx : Nat} (h : CaOk H G) : CaOk H { G.app ws with next := nx } := by
 intro i o hi
 have hi : (G.app ws).ca.get i = some o := hi
 rw [app_ca] at hi; exact h i o hi
def Par {α : Type} (S0 : Sl) (H0 : Hp) (I : α → Prop) (F : (α → RT) → RT) : Prop := ∀ {K : α → RT} {r : List Wr × Nat}, (F K).run S0 H0 = some r → ∃ x, I x ∧ (K x).run S0 H0 = some r ∧ ∀ {K' : α → RT} {r' : List Wr × Nat}, (K' x).run S0 H0 = some r' → (F K').run S0 H0 = some r'
section
variable {S0 : Sl} {H0 : Hp} {Γ : Ctx} {cl : CallFn}
theorem inn_par : ∀ (rt : RT) (G : GS), CaOk H0 G → Par S0 H0 (CaOk H0) (fun K => rt.inn G K) := by
 intro rt
 induction rt with
 | fail y => intro G hca K r h; exact run_fail h
 | get n k ih =>
  intro G hca K r h
  have h' : (@Option.rec HV (fun _ => RT) (.fail 101) (fun g => (k g).inn G K) (G.slots.get n)).run S0 H0 = some r := h
  cases hg : G.slots.get n with
  | none => rw [hg] at h'; exact run_fail h'
  | some v =>
   rw [hg] at h'
   obtain ⟨x, h0, h1, h2⟩ := ih v G hca h'
   refine ⟨x, h0, h1, fun {K' r'} h3 => ?_⟩
   show (@Option.rec HV (fun _ => RT) (.fail 101) (fun g => (k g).inn G K') (G.slots.get n)).run S0 H0 = some r'
   rw [hg]; exact h2 h3
 | obj id k ih =>
  intro G hca K r h
  have h' : (@Option.rec (Option Ob) (fun _ => RT) (.obj id fun o => (k o).inn (G.keep id o) K) (fun o => @Option.rec Ob (fun _ => RT) (.fail 102) (fun o => (k o).inn G K) o) (G.find id)).run S0 H0 = some r := h
  cases hg : G.find id with
  | none =>
   rw [hg] at h'
   obtain ⟨o, ho, h'⟩ := run_obj h'
   obtain ⟨x, h0, h1, h2⟩ := ih o (G.keep id o) (hca.keep ho) h'
   refine ⟨x, h0, h1, fun {K' r'} h3 => ?_⟩
   show (@Option.rec (Option Ob) (fun _ => RT) (.obj id fun o => (k o).inn (G.keep id o) K') (fun o => @Option.rec Ob (fun _ => RT) (.fail 102) (fun o => (k o).inn G K') o) (G.find id)).run S0 H0 = some r'
   rw [hg]
   simp only [RT.run, ho]
   exact h2 h3
  | some o =>
   rw [hg] at h'
   cases o with
   | none => exact run_fail h'
   | some o =>
    obtain ⟨x, h0, h1, h2⟩ := ih o G hca h'
    refine ⟨x, h0, h1, fun {K' r'} h3 => ?_⟩
    show (@Option.rec (Option Ob) (fun _ => RT) (.obj id fun o => (k o).inn (G.keep id o) K') (fun o => @Option.rec Ob (fun _ => RT) (.fail 102) (fun o => (k o).inn G K') o) (G.find id)).run S0 H0 = some r'
    rw [hg]; exact h2 h3
 | fin ws nx =>
  intro G hca K r h
  have h' : (forceN nx fun nx => bt (Nat.ble G.next nx) (K { G.app ws with next := nx }) (.fail 103)).run S0 H0 = some r := h
  rw [forceN_eq] at h'
  cases hb : Nat.ble G.next nx with
  | false => rw [hb] at h'; exact run_fail h'
  | true =>
   rw [hb] at h'
   refine ⟨_, hca.fin, h', fun {K' r'} h3 => ?_⟩
   show (forceN nx fun nx => bt (Nat.ble G.next nx) (K' { G.app ws with next := nx }) (.fail 103)).run S0 H0 = some r'
   rw [forceN_eq, hb]; exact h3
theorem innD_par : ∀ (rt : RT) (lg : List Loc) (G : GS), CaOk H0 G → Par S0 H0 (fun x => CaOk H0 x.1) (fun K : GS × List Loc × List Loc → RT => rt.innD lg G fun G a b => K (G, a, b)) := by
 intro rt
 induction rt with
 | fail y => intro lg G hca K r h; exact run_fail h
 | get n k ih =>
  intro lg G hca K r h
  have h' : (@Option.rec HV (fun _ => RT) (.fail 104) (fun g => (k g).innD ((false, n) :: lg) G fun G a b => K (G, a, b)) (G.slots.get n)).run S0 H0 = some r := h
  cases hg : G.slots.get n with
  | none => rw [hg] at h'; exact run_fail h'
  | some v =>
   rw [hg] at h'
   obtain ⟨x, h0, h1, h2⟩ := ih v _ G hca h'
   refine ⟨x, h0, h1, fun {K' r'} h3 => ?_⟩
   show (@Option.rec HV (fun _ => RT) (.fail 104) (fun g => (k g).innD ((false, n) :: lg) G fun G a b => K' (G, a, b)) (G.slots.get n)).run S0 H0 = some r'
   rw [hg]; exact h2 h3
 | obj id k ih =>
  intro lg G hca K r h
  have h' : (@Option.rec (Option Ob) (fun _ => RT) (.obj id fun o => (k o).innD ((true, id) :: lg) (G.keep id o) fun G a b => K (G, a, b)) (fun o => @Option.rec Ob (fun _ => RT) (.fail 105) (fun o => (k o).innD ((true, id) :: lg) G fun G a b => K (G, a, b)) o) (G.find id)).run S0 H0 = some r := h
  cases hg : G.find id with
  | none =>
   rw [hg] at h'
   obtain ⟨o, ho, h'⟩ := run_obj h'
   obtain ⟨x, h0, h1, h2⟩ := ih o _ (G.keep id o) (hca.keep ho) h'
   refine ⟨x, h0, h1, fun {K' r'} h3 => ?_⟩
   show (@Option.rec (Option Ob) (fun _ => RT) (.obj id fun o => (k o).innD ((true, id) :: lg) (G.keep id o) fun G a b => K' (G, a, b)) (fun o => @Option.rec Ob (fun _ => RT) (.fail 105) (fun o => (k o).innD ((true, id) :: lg) G fun G a b => K' (G, a, b)) o) (G.find id)).run S0 H0 = some r'
   rw [hg]
   simp only [RT.run, ho]
   exact h2 h3
  | some o =>
   rw [hg] at h'
   cases o with
   | none => exact run_fail h'
   | some o =>
    obtain ⟨x, h0, h1, h2⟩ := ih o _ G hca h'
    refine ⟨x, h0, h1, fun {K' r'} h3 => ?_⟩
    show (@Option.rec (Option Ob) (fun _ => RT) (.obj id fun o => (k o).innD ((true, id) :: lg) (G.keep id o) fun G a b => K' (G, a, b)) (fun o => @Option.rec Ob (fun _ => RT) (.fail 105) (fun o => (k o).innD ((true, id) :: lg) G fun G a b => K' (G, a, b)) o) (G.find id)).run S0 H0 = some r'
    rw [hg]; exact h2 h3
 | fin ws nx =>
  intro lg G hca K r h
  have h' : (forceN nx fun nx => bt (Nat.ble G.next nx) (K ({ G.app ws with next := nx }, lg, ws.map Wr.at)) (.fail 106)).run S0 H0 = some r := h
  rw [forceN_eq] at h'
  cases hb : Nat.ble G.next nx with
  | false => rw [hb] at h'; exact run_fail h'
  | true =>
   rw [hb] at h'
   refine ⟨_, hca.fin, h', fun {K' r'} h3 => ?_⟩
   show (forceN nx fun nx => bt (Nat.ble G.next nx) (K' ({ G.app ws with next := nx }, lg, ws.map Wr.at)) (.fail 106)).run S0 H0 = some r'
   rw [forceN_eq, hb]; exact h3
theorem regK_par {ops : List Oper} : ∀ (l : List Oper) (G : GS), CaOk H0 G → Par S0 H0 (CaOk H0) (fun K => regK Γ cl ops l G K) := by
 intro l
 induction l with
 | nil => intro G hca K r h; exact ⟨G, hca, h, fun h => h⟩
 | cons o l ih =>
  intro G hca K r h
  obtain ⟨G1, h0, h1, h2⟩ := inn_par (opRT Γ cl ops G.next o) G hca (K := fun G => regK Γ cl ops l G K) h
  obtain ⟨G2, h0', h3, h4⟩ := ih G1 h0 h1
  exact ⟨G2, h0', h3, fun {K' r'} h5 => h2 (K' := fun G => regK Γ cl ops l G K') (h4 h5)⟩
theorem regD_par {ops : List Oper} : ∀ (l : List Oper) (acc : List (List Loc × List Loc)) (G : GS), CaOk H0 G → Par S0 H0 (CaOk H0) (fun K => regD Γ cl ops l acc G K) := by
 intro l
 induction l with
 | nil =>
  intro acc G hca K r h
  have h : (regD Γ cl ops [] acc G K).run S0 H0 = some r := h
  simp only [regD] at h
  obtain ⟨hc, h⟩ := run_bif h
  refine ⟨G, hca, h, fun {K' r'} h => ?_⟩
  show (regD Γ cl ops [] acc G K').run S0 H0 = some r'
  simp only [regD]
  rw [hc]; exact h
 | cons o l ih =>
  intro acc G hca K r h
  have h : (regD Γ cl ops (o :: l) acc G K).run S0 H0 = some r := h
  simp only [regD] at h
  obtain ⟨⟨G1, rd, wr⟩, h0, h1, h2⟩ := innD_par (opRT Γ cl ops G.next o) [] G hca (K := fun x => regD Γ cl ops l (acc ++ [(x.2.1, x.2.2)]) x.1 K) h
  obtain ⟨G2, h0', h3, h4⟩ := ih _ G1 h0 h1
  refine ⟨G2, h0', h3, fun {K' r'} h5 => ?_⟩
  show (regD Γ cl ops (o :: l) acc G K').run S0 H0 = some r'
  simp only [regD]
  exact h2 (K' := fun x => regD Γ cl ops l (acc ++ [(x.2.1, x.2.2)]) x.1 K') (h4 h5)
abbrev ParX (S0 : Sl) (H0 : Hp) (F : (XE → GS → RT) → RT) : Prop := Par S0 H0 (fun x => CaOk H0 x.2) (fun K : XE × GS → RT => F fun e G => K (e, G))
theorem codeRT_par {L : Nat} : ∀ (c : Code) (G : GS), CaOk H0 G → ParX S0 H0 (codeRT Γ cl L c G) := by
 intro c
 induction c with
 | skip => intro G hca K r h; exact ⟨_, hca, h, fun h => h⟩
 | ret => intro G hca K r h; exact ⟨_, hca, h, fun h => h⟩
 | exit id => intro G hca K r h; exact ⟨_, hca, h, fun h => h⟩
 | region id ops draw =>
  intro G hca K r h
  cases draw with
  | true =>
   obtain ⟨x, h0, h1, h2⟩ := regD_par ops.toList [] G hca (K := fun G => K (.normal, G)) h
   exact ⟨_, h0, h1, fun {K' r'} h => h2 (K' := fun G => K' (.normal, G)) h⟩
  | false =>
   obtain ⟨x, h0, h1, h2⟩ := regK_par ops.toList G hca (K := fun G => K (.normal, G)) h
   exact ⟨_, h0, h1, fun {K' r'} h => h2 (K' := fun G => K' (.normal, G)) h⟩
 | seq x y ihx ihy =>
  intro G hca K r h
  obtain ⟨⟨e, G1⟩, h0, h1, h2⟩ := ihx G hca (K := fun x => seqK (fun e G => K (e, G)) (codeRT Γ cl L y) x.1 x.2) h
  cases e with
  | normal =>
   obtain ⟨z, h0', h3, h4⟩ := ihy G1 h0 h1
   exact ⟨z, h0', h3, fun {K' r'} h => h2 (K' := fun x => seqK (fun e G => K' (e, G)) (codeRT Γ cl L y) x.1 x.2) (h4 h)⟩
  | exit i => exact ⟨_, h0, h1, fun {K' r'} h => h2 (K' := fun x => seqK (fun e G => K' (e, G)) (codeRT Γ cl L y) x.1 x.2) h⟩
  | ret => exact ⟨_, h0, h1, fun {K' r'} h => h2 (K' := fun x => seqK (fun e G => K' (e, G)) (codeRT Γ cl L y) x.1 x.2) h⟩
 | cond c x y ihx ihy =>
  intro G hca K r h
  have hv : ∀ v, (condV (codeRT Γ cl L x) (codeRT Γ cl L y) G (fun e G => K (e, G)) v).run S0 H0 = some r → ∃ z, CaOk H0 z.2 ∧ (K z).run S0 H0 = some r ∧ ∀ {K' : XE × GS → RT} {r' : List Wr × Nat}, (K' z).run S0 H0 = some r' → (condV (codeRT Γ cl L x) (codeRT Γ cl L y) G (fun e G => K' (e, G)) v).run S0 H0 = some r' := by
   intro v h
   unfold condV at h
   split at h
   ·rename_i t
    cases t with
    | true => exact ihx G hca h
    | false => exact ihy G hca h
   ·exact run_fail h
  have h' : (condR (codeRT Γ cl L x) (codeRT Γ cl L y) G (fun e G => K (e, G)) c).run S0 H0 = some r := h
  unfold condR at h'
  split at h'
  ·exact hv _ h'
  ·exact hv _ h'
  ·exact run_fail h'
 | block id c ih =>
  intro G hca K r h
  obtain ⟨⟨e, G1⟩, h0, h1, h2⟩ := ih G hca (K := fun x => blockK id (fun e G => K (e, G)) x.1 x.2) h
  cases e with
  | normal => exact ⟨_, h0, h1, fun {K' r'} h => h2 (K' := fun x => blockK id (fun e G => K' (e, G)) x.1 x.2) h⟩
  | ret => exact ⟨_, h0, h1, fun {K' r'} h => h2 (K' := fun x => blockK id (fun e G => K' (e, G)) x.1 x.2) h⟩
  | exit j =>
   simp only [blockK] at h1
   cases hb : Nat.beq j id with
   | true =>
    rw [hb] at h1
    refine ⟨(.normal, G1), h0, h1, fun {K' r'} h => h2 (K' := fun x => blockK id (fun e G => K' (e, G)) x.1 x.2) ?_⟩
    simp only [blockK, hb]; exact h
   | false =>
    rw [hb] at h1
    refine ⟨_, h0, h1, fun {K' r'} h => h2 (K' := fun x => blockK id (fun e G => K' (e, G)) x.1 x.2) ?_⟩
    simp only [blockK, hb]; exact h
 | loop c ih =>
  intro G hca K r h
  have key : ∀ (n : Nat) (G : GS), CaOk H0 G → (loopRT n (codeRT Γ cl L c) (fun e G => K (e, G)) G).run S0 H0 = some r → ∃ z, CaOk H0 z.2 ∧ (K z).run S0 H0 = some r ∧ ∀ {K' : XE × GS → RT} {r' : List Wr × Nat}, (K' z).run S0 H0 = some r' → (loopRT n (codeRT Γ cl L c) (fun e G => K' (e, G)) G).run S0 H0 = some r' := by
   intro n
   induction n with
   | zero => intro G hca h; exact run_fail h
   | succ n ihn =>
    intro G hca h
    rw [loop_zero] at h
    obtain ⟨⟨e, G1⟩, h0, h1, h2⟩ := ih G hca (K := fun x => match x.1 with
     | .normal => loopRT n (codeRT Γ cl L c) (fun e G => K (e, G)) x.2
     | .exit i => K (.exit i, x.2)
     | .ret => K (.ret, x.2)) h
    have h2' : ∀ {K' : XE × GS → RT} {r' : List Wr × Nat}, ((fun x : XE × GS => match x.1 with
     | .normal => loopRT n (codeRT Γ cl L c) (fun e G => K' (e, G)) x.2
     | .exit i => K' (.exit i, x.2)
     | .ret => K' (.ret, x.2)) (e, G1)).run S0 H0 = some r' → (loopRT (n + 1) (codeRT Γ cl L c) (fun e G => K' (e, G)) G).run S0 H0 = some r' := by
     intro K' r' h
     rw [loop_zero]
     exact h2 (K' := fun x : XE × GS => match x.1 with
      | .normal => loopRT n (codeRT Γ cl L c) (fun e G => K' (e, G)) x.2
      | .exit i => K' (.exit i, x.2)
      | .ret => K' (.ret, x.2)) h
    cases e with
    | normal =>
     obtain ⟨z, h0', h3, h4⟩ := ihn G1 h0 h1
     exact ⟨z, h0', h3, fun h => h2' (h4 h)⟩
    | exit i => exact ⟨_, h0, h1, fun h => h2' h⟩
    | ret => exact ⟨_, h0, h1, fun h => h2' h⟩
  exact key L G hca h
 | rangeFunc f ps x y ihx ihy => intro G hca K r h; exact run_fail h
 | scope c ih => intro G hca K r h; exact run_fail h
 | label l => intro G hca K r h; exact run_fail h
 | goto l => intro G hca K r h; exact run_fail h
 | refuse w => intro G hca K r h; exact run_fail h
end
section
variable {P : Program} {Γ : Ctx} {ρ : En} {B : Bs} {cl : CallFn}
def KUp (B : Bs) (K : XE → GS → RT) : Prop := ∀ e G, (K e G).run B.S0 B.H0 = some B.r → G.next ≤ B.r.2
theorem codeRT_up {L : Nat} : ∀ (c : Code) {K : XE → GS → RT} {G : GS}, KUp B K → (codeRT Γ cl L c G K).run B.S0 B.H0 = some B.r → G.next ≤ B.r.2 := by
 intro c
 induction c with
 | skip => intro K G hK h; exact hK _ _ h
 | ret => intro K G hK h; exact hK _ _ h
 | exit id => intro K G hK h; exact hK _ _ h
 | region id ops draw =>
  intro K G hK h
  cases draw with
  | true => exact regD_up (fun G h => hK _ G h) h
  | false => exact regK_up (fun G h => hK _ G h) h
 | seq x y ihx ihy =>
  intro K G hK h
  refine ihx (K := seqK K (codeRT Γ cl L y)) (fun e G h => ?_) h
  cases e with
  | normal => exact ihy hK h
  | exit i => exact hK _ _ h
  | ret => exact hK _ _ h
 | cond c x y ihx ihy =>
  intro K G hK h
  have hv : ∀ v, (condV (codeRT Γ cl L x) (codeRT Γ cl L y) G K v).run B.S0 B.H0 = some B.r → G.next ≤ B.r.2 := by
   intro v h
   unfold condV at h
   split at h
   ·rename_i t
    cases t with
    | true => exact ihx hK h
    | false => exact ihy hK h
   ·exact run_fail h
  have h' : (condR (codeRT Γ cl L x) (codeRT Γ cl L y) G K c).run B.S0 B.H0 = some B.r := h
  unfold condR at h'
  split at h'
  ·exact hv _ h'
  ·exact hv _ h'
  ·exact run_fail h'
 | block id c ih =>
  intro K G hK h
  refine ih (K := blockK id K) (fun e G h => ?_) h
  cases e with
  | normal => exact hK _ _ h
  | ret => exact hK _ _ h
  | exit j =>
   simp only [blockK] at h
   cases hb : Nat.beq j id with
   | true => rw [hb] at h; exact hK _ _ h
   | false => rw [hb] at h; exact hK _ _ h
 | loop c ih =>
  intro K G hK h
  have key : ∀ (n : Nat) (G : GS), (loopRT n (codeRT Γ cl L c) K G).run B.S0 B.H0 = some B.r → G.next ≤ B.r.2 := by
   intro n
   induction n with
   | zero => intro G h; exact run_fail h
   | succ n ihn =>
    intro G h
    rw [loop_zero] at h
    refine ih ?_ h
    intro e G h
    cases e with
    | normal => exact ihn G h
    | exit i => exact hK _ _ h
    | ret => exact hK _ _ h
  exact key L G h
 | rangeFunc f ps x y ihx ihy => intro K G hK h; exact run_fail h
 | scope c ih => intro K G hK h; exact run_fail h
 | label l => intro K G hK h; exact run_fail h
 | goto l => intro K G hK h; exact run_fail h
 | refuse w => intro K G hK h; exact run_fail h

theorem constC_b {v : Value} {b : Bool} (h : constC v = some (.b b)) : v = .bool b := by
 unfold constC at h
 split at h
 ·cases h; rfl
 ·cases hf : fits _ (_, _) <;> rw [hf] at h <;> cases h
 all_goals cases h
theorem codeRT_ok (hm : P.follows .mixedOrders = true) (hT : TysOk P Γ.tys) (hR : RngOk ρ Γ.R) (hcl : CallOk P ρ cl) (hB : BsOk B) {L : Nat} : ∀ (c : Code) {Q : Exit → Act → World → Prop} {G : GS} {a : Act} {w : World} {K : XE → GS → RT},
  codeDst B.N c = true → StOk P ρ B G a w → (codeRT Γ cl L c G K).run B.S0 B.H0 = some B.r → KOk P ρ B K Q → c.wp P Q a w := by
 intro c
 induction c with
 | skip => intro Q G a w K hd h hr hK; exact wp_skip (hK.go .normal G a w h hr)
 | region id ops draw =>
  intro Q G a w K hd h hr hK
  cases draw with
  | true => exact wp_region_any hm (regD_ok hT hR hcl hB hd (fun G a w h hk => hK.go .normal G a w h hk) (fun G h => hK.up _ G h) (drawn_ok h) hr)
  | false =>
   refine wp_region ?_
   have := regK_ok (Q := Q) hT hR hcl hB hd (fun G a w h hk => hK.go .normal G a w h hk) (fun G h => hK.up _ G h) (i := 0) (l := ops.toList) rfl h hr
   rw [List.range_eq_range']
   simpa using this
 | seq x y ihx ihy =>
  intro Q G a w K hd h hr hK
  simp only [codeDst, Bool.and_eq_true] at hd
  refine wp_seq (ihx (K := seqK K (codeRT Γ cl L y)) hd.1 h hr ⟨fun e G a w h hk => ?_, fun e G hk => ?_⟩)
  ·cases e with
   | normal => exact ihy hd.2 h hk hK
   | exit id => exact hK.go _ G a w h hk
   | ret => exact hK.go _ G a w h hk
  ·cases e with
   | normal => exact codeRT_up y (fun e G h => hK.up e G h) hk
   | exit id => exact hK.up _ G hk
   | ret => exact hK.up _ G hk
 | cond c x y ihx ihy =>
  intro Q G a w K hd h hr hK
  simp only [codeDst, Bool.and_eq_true] at hd
  have hr' : (condR (codeRT Γ cl L x) (codeRT Γ cl L y) G K c).run B.S0 B.H0 = some B.r := hr
  unfold condR at hr'
  split at hr'
  ·rename_i n
   unfold condV at hr'
   split at hr'
   ·rename_i t ht
    obtain ⟨⟨m, m1, m2, m3⟩, low⟩ := id h
    have hv := m2.slots n _ ht
    simp only [den, Option.some.injEq] at hv
    cases t with
    | true => exact wp_cond_true hv.symm (ihx hd.1 h hr' hK)
    | false => exact wp_cond_false hv.symm (ihy hd.2 h hr' hK)
   ·exact run_fail hr'
  ·rename_i v
   unfold condV at hr'
   split at hr'
   ·rename_i t ht
    have hv := constC_b ht
    subst hv
    cases t with
    | true => exact wp_cond_true rfl (ihx hd.1 h hr' hK)
    | false => exact wp_cond_false rfl (ihy hd.2 h hr' hK)
   ·exact run_fail hr'
  ·exact run_fail hr'
 | block id c ih =>
  intro Q G a w K hd h hr hK
  refine wp_block (ih (K := blockK id K) hd h hr ⟨fun e G a w h hk => ?_, fun e G hk => ?_⟩)
  ·cases e with
   | normal => exact hK.go .normal G a w h hk
   | exit j =>
    simp only [blockK] at hk
    show if j = id then Q .normal a w else Q (.exit j) a w
    cases hb : Nat.beq j id with
    | true => rw [hb] at hk; rw [if_pos (Nat.eq_of_beq_eq_true hb)]; exact hK.go .normal G a w h hk
    | false => rw [hb] at hk; rw [if_neg (fun e => by rw [e, nbeq_self] at hb; cases hb)]; exact hK.go _ G a w h hk
   | ret => exact hK.go .ret G a w h hk
  ·cases e with
   | normal => exact hK.up _ G hk
   | ret => exact hK.up _ G hk
   | exit j =>
    simp only [blockK] at hk
    cases hb : Nat.beq j id with
    | true => rw [hb] at hk; exact hK.up _ G hk
    | false => rw [hb] at hk; exact hK.up _ G hk
 | loop c ih =>
  intro Q G a w K hd h hr hK
  have upn : ∀ n G, (loopRT n (codeRT Γ cl L c) K G).run B.S0 B.H0 = some B.r → G.next ≤ B.r.2 := by
   intro n
   induction n with
   | zero => intro G h; exact run_fail h
   | succ n ihn =>
    intro G h
    rw [loop_zero] at h
    refine codeRT_up c ?_ h
    intro e G h
    cases e with
    | normal => exact ihn G h
    | exit i => exact hK.up _ _ h
    | ret => exact hK.up _ _ h
  refine wp_loop_ghost (fun n a w => ∃ G, StOk P ρ B G a w ∧ (loopRT n (codeRT Γ cl L c) K G).run B.S0 B.H0 = some B.r) L ⟨G, h, hr⟩ ?_
  rintro n a w ⟨G, h, hr⟩
  cases n with
  | zero => exact run_fail hr
  | succ n =>
   rw [loop_zero] at hr
   refine ih hd h hr ⟨fun e G a w h hk => ?_, fun e G hk => ?_⟩
   ·cases e with
    | normal => exact ⟨n, Nat.lt_succ_self n, G, h, hk⟩
    | exit i => exact hK.go _ G a w h hk
    | ret => exact hK.go _ G a w h hk
   ·cases e with
    | normal => exact upn n G hk
    | exit i => exact hK.up _ G hk
    | ret => exact hK.up _ G hk
 | exit id => intro Q G a w K hd h hr hK; exact wp_exit (hK.go (.exit id) G a w h hr)
 | ret => intro Q G a w K hd h hr hK; exact wp_ret (hK.go .ret G a w h hr)
 | rangeFunc f ps x y ihx ihy => intro Q G a w K hd h hr hK; exact run_fail hr
 | scope c ih => intro Q G a w K hd h hr hK; exact run_fail hr
 | label l => intro Q G a w K hd h hr hK; exact run_fail hr
 | goto l => intro Q G a w K hd h hr hK; exact run_fail hr
 | refuse w => intro Q G a w K hd h hr hK; exact run_fail hr
end
end Go.Proofs.YtehbbcdhahnkgaaGreat.Hm

namespace Go.Proofs.YtehbbcdhahnkgaaGreat.Hm
open Go
open Go.RowKit (Below)
mutual
def TAt (tok : Nat → Bool) (H : Hp) : List HV → HT → Prop
 | cs, .mk o v l => ∃ z, cs = [.i .i64 o, .i .i64 v, z] ∧ ((l = [] ∧ (z = .ns ∨ ∃ id off c, z = .sl id off 0 c false ∧ c ≤ 4611686018427387904)) ∨ ∃ id off n c op el cs' opn, z = .sl id off n c op ∧ l.length = n ∧ H id = some (.cells el cs' opn) ∧ tok el = true ∧ n ≤ c ∧ c ≤ 4611686018427387904 ∧ off + c * 3 ≤ cs'.length ∧ TLAt tok H cs' off l)
def TLAt (tok : Nat → Bool) (H : Hp) : List HV → Nat → List HT → Prop
 | _, _, [] => True
 | cs, o, t :: l => inside cs o 3 = true ∧ TAt tok H (cutAt cs o 3) t ∧ TLAt tok H cs (o + 3) l
end
section
variable {S : Sl} {H : Hp} {r : List Wr × Nat} {tok : Nat → Bool}
theorem listT_ok {rd : List HV → (HT → RT) → RT} (hrd : ∀ {cs : List HV} {k : HT → RT}, (rd cs k).run S H = some r → ∃ t, TAt tok H cs t ∧ (k t).run S H = some r) {cs : List HV} : ∀ {n o : Nat} {k : List HT → RT}, (listT rd cs n o k).run S H = some r → ∃ l, l.length = n ∧ TLAt tok H cs o l ∧ (k l).run S H = some r
 | 0, o, k, h => ⟨[], rfl, by simp [TLAt], h⟩
 | n + 1, o, k, h => by
  simp only [listT] at h
  obtain ⟨h1, h⟩ := run_bif h
  obtain ⟨t, h2, h⟩ := hrd h
  obtain ⟨l, h3, h4, h⟩ := listT_ok hrd h
  exact ⟨t :: l, by simp [h3], by simp only [TLAt]; exact ⟨h1, h2, h4⟩, h⟩
theorem readT_ok : ∀ {n : Nat} {cs : List HV} {k : HT → RT}, (readT tok n cs k).run S H = some r → ∃ t, TAt tok H cs t ∧ (k t).run S H = some r := by
 intro n
 induction n with
 | zero => intro cs k h; exact run_fail h
 | succ n ih =>
  intro cs k h
  have h' : (match cs with
   | [.i .i64 o, .i .i64 v, .ns] => k (.mk o v [])
   | [.i .i64 o, .i .i64 v, .sl id off n' c op] => bif Nat.ble c 4611686018427387904 then (bif Nat.beq n' 0 && !op then k (.mk o v []) else .obj id (readO tok n' c off fun cs => listT (readT tok n) cs n' off fun ts => k (.mk o v ts))) else .fail 306
   | _ => .fail 304).run S H = some r := h
  split at h'
  ·exact ⟨_, by rw [TAt]; exact ⟨_, rfl, .inl ⟨rfl, .inl rfl⟩⟩, h'⟩
  ·rename_i o v id off n' c op
   obtain ⟨hc, h2⟩ := run_bif h'
   clear h' h
   have h' := h2
   clear h2
   have hc := Nat.le_of_ble_eq_true hc
   cases hb : (Nat.beq n' 0 && !op) with
   | true =>
    rw [hb] at h'
    simp only [Bool.and_eq_true] at hb
    have := Nat.eq_of_beq_eq_true hb.1
    subst this
    have hop : op = false := by simpa using hb.2
    subst hop
    exact ⟨_, by rw [TAt]; exact ⟨_, rfl, .inl ⟨rfl, .inr ⟨_, _, _, rfl, hc⟩⟩⟩, h'⟩
   | false =>
    rw [hb] at h'
    obtain ⟨ob, h1, h'⟩ := run_obj h'
    unfold readO at h'
    split at h'
    ·rename_i el cs' opn
     obtain ⟨h2, h'⟩ := run_bif h'
     simp only [Bool.and_eq_true] at h2
     obtain ⟨l, h3, h4, h'⟩ := listT_ok ih h'
     exact ⟨_, by rw [TAt]; exact ⟨_, rfl, .inr ⟨id, off, n', c, op, el, cs', opn, rfl, h3, h1, h2.1.1, Nat.le_of_ble_eq_true h2.1.2, hc, inside_le h2.2, h4⟩⟩, h'⟩
    ·exact run_fail h'
  ·exact run_fail h'
end
def ValOk (P : Program) (ρ : En) (Γ : Ctx) : Prop := (∃ fb, P.funcs[Γ.val]? = some fb ∧ fb.body.isNone = false ∧ (fb.name == "runtime.NumGoroutine") = false) ∧
 ∀ (H : Hp) (m : Mp) (w : World) (cs : List HV) (t : HT) (v : Value) (b : Bool), HRep P ρ H m w → TAt (tok3 Γ.tys) H cs t → den ρ m (.agg cs) = some v → t.valid Γ.R = some b →
  Calls P Γ.val #[v] w fun e w' => e = .returned (.bool b) ∧ Below w.heap.size w w'
def FnOk (P : Program) (f : Nat) (g : Fnc) : Prop := ∃ fb, P.funcs[f]? = some fb ∧ fb.body = some g.body ∧ fb.ntmps = g.ntmps ∧ fb.results.toList = g.results ∧ (fb.name == "runtime.NumGoroutine") = false ∧ codeDst g.ntmps g.body = true
def FnsOk (P : Program) (T : Tr Fnc) : Prop := ∀ f g, T.get f = some g → FnOk P f g
theorem dstOk_mono {N N' : Nat} (h : N ≤ N') : ∀ {l : List Oper}, dstOk N l = true → dstOk N' l = true := by
 intro l hl
 unfold dstOk at hl ⊢
 rw [List.all_eq_true] at hl ⊢
 intro o ho
 have := hl o ho
 split at this
 ·have := Nat.le_of_ble_eq_true this
  exact Nat.ble_eq_true_of_le (by omega)
 ·rfl
theorem codeDst_mono {N N' : Nat} (h : N ≤ N') : ∀ {c : Code}, codeDst N c = true → codeDst N' c = true := by
 intro c
 induction c with
 | region id ops draw => exact dstOk_mono h
 | seq a b iha ihb => intro hc; simp only [codeDst, Bool.and_eq_true] at hc ⊢; exact ⟨iha hc.1, ihb hc.2⟩
 | cond c a b iha ihb => intro hc; simp only [codeDst, Bool.and_eq_true] at hc ⊢; exact ⟨iha hc.1, ihb hc.2⟩
 | block id c ih => exact ih
 | loop c ih => exact ih
 | _ => intro _; rfl
theorem numbered_get : ∀ (l : List HV) (n : Nat) (t : Tr HV) (k : Nat), (numbered n l t).get k = if n ≤ k ∧ k < n + l.length then l[k - n]? else t.get k
 | [], n, t, k => by simp [numbered]; intro h1 h2; omega
 | v :: l, n, t, k => by
  simp only [numbered]
  rw [numbered_get l, Tr.get_set]
  simp only [List.length_cons]
  by_cases e : k = n
  ·subst e
   rw [if_neg (by omega), if_pos rfl, if_pos (by omega)]
   simp
  ·by_cases h : n ≤ k ∧ k < n + (l.length + 1)
   ·rw [if_pos (by omega), if_pos h]
    rw [show k - n = (k - (n + 1)) + 1 by omega, List.getElem?_cons_succ]
   ·rw [if_neg (by omega), if_neg e, if_neg h]
open Classical in
theorem appH_list {T : Nat → Option (Option Ob)} (id : Nat) : ∀ {l : List (Nat × Option Ob)} {H : Hp}, (∀ p, p ∈ l → T p.1 = some p.2) → appH H (l.map fun p => .obj p.1 p.2) id = if (∃ x, (id, x) ∈ l) then (T id).getD none else H id
 | [], H, h => by simp [appH]
 | p :: l, H, h => by
  rw [List.map_cons, appH_cons, appH_list id (fun q hq => h q (by simp [hq]))]
  by_cases hl : ∃ x, (id, x) ∈ l
  ·rw [if_pos hl, if_pos (by obtain ⟨x, hx⟩ := hl; exact ⟨x, by simp [hx]⟩)]
  ·rw [if_neg hl]
   by_cases e : id = p.1
   ·subst e
    rw [if_pos ⟨p.2, by simp⟩, h p (by simp)]
    simp [putH, upd]
   ·rw [if_neg]
    ·simp [putH, upd, e]
    ·rintro ⟨x, hx⟩
     rcases List.mem_cons.1 hx with hx | hx
     ·exact e (by rw [← hx])
     ·exact hl ⟨x, hx⟩
theorem out_obj (G : GS) : objW (outWs G) := by
 intro x hx
 obtain ⟨p, _, rfl⟩ := List.mem_map.1 hx
 exact ⟨_, _, rfl⟩
theorem out_over {H : Hp} {G : GS} (h : CaOk H G) : appH H (outWs G) = G.over H := by
 funext id
 unfold outWs
 have hm : ∀ i x, (i, x) ∈ G.st.toL 0 1 [] ↔ G.st.get i = some x := by
  intro i x
  rw [Tr.mem_toL]
  simp
 rw [appH_list (T := G.st.get) id (fun p hp => (hm p.1 p.2).1 hp)]
 unfold GS.over
 rw [find_eq]
 cases hs : G.st.get id with
 | some o =>
  rw [if_pos ⟨o, (hm id o).2 hs⟩]; rfl
 | none =>
  rw [if_neg (by rintro ⟨x, hx⟩; rw [(hm id x).1 hx] at hs; cases hs)]
  cases hc : G.ca.get id with
  | some o => exact h id o hc
  | none => rfl
def resRun (P : Program) (tmps : Array Value) (w : World) (r : ResultVar) (v : Value) : Prop :=
 Sem.run P (match r with
  | .tmp t => pure (tmps.getD t undef)
  | .cell a t => do loadVar t (← asAddr (tmps.getD a undef)) : Sem Value) w = .ok v w
section
variable {P : Program} {w : World}
theorem mapM_run {g : ResultVar → Sem Value} : ∀ {l : List ResultVar} {vs : List Value}, All2 (fun r v => (g r).run P w = .ok v w) l vs → (l.mapM g).run P w = .ok vs w
 | [], [], _ => by simp
 | r :: l, v :: vs, h => by
  cases h with
  | cons h1 h2 =>
   rw [List.mapM_cons, Sem.run_bind, h1]
   simp only [Result.andThen_ok]
   rw [Sem.run_bind, mapM_run h2]
   simp
def tupVal : List Value → Value
 | [v] => v
 | vs => .tuple vs.toArray
theorem results_run {fn : Func} {tmps : Array Value} {vs : List Value} (h : All2 (resRun P tmps w) fn.results.toList vs) : (results fn tmps).run P w = .ok (tupVal vs) w := by
 have e : ∀ g : ResultVar → Sem Value, (∀ r v, resRun P tmps w r v → (g r).run P w = .ok v w) → (fn.results.toList.mapM g).run P w = .ok vs w := fun g hg => mapM_run (h.mono hg)
 unfold results
 rw [Sem.run_bind, Array.mapM_eq_mapM_toList, Sem.run_map, e]
 ·simp only [Result.andThen_ok, Sem.run_pure]
  match vs with
  | [] => rfl
  | [v] => rfl
  | v :: u :: l => simp [tupVal]
 ·intro r v hr
  cases r <;> exact hr
theorem den_tup {ρ : En} {m : Mp} {vs : List HV} {xs : List Value} (h : denL ρ m vs = some xs) : den ρ m (tupH vs) = some (tupVal xs) := by
 have hl := denL_length h
 match vs, xs, h, hl with
 | [], [], h, _ => simp only [tupH, den, denL, tupVal]
 | [v], [x], h, _ =>
  obtain ⟨y, ys, h1, h2, h3⟩ := denL_cons h
  cases h3
  exact h1
 | v :: u :: l, xs, h, hl =>
  match xs, hl with
  | x :: y :: zs, _ => simp only [tupH, den, h, tupVal]
end
section
variable {P : Program} {Γ : Ctx} {ρ : En} {N : Nat} {S0 : Sl} {H0 : Hp}
theorem resR_par (G : GS) : ∀ (rv : List ResultVar), Par S0 H0 (fun _ => True) (fun k => resR Γ G rv k) := by
 intro rv
 induction rv with
 | nil => intro K r h; exact ⟨_, trivial, h, fun h => h⟩
 | cons x rv ih =>
  intro K r h
  cases x with
  | tmp t =>
   have h' : (match G.slots.get t with
    | some v => resR Γ G rv fun vs => K (v :: vs)
    | none => .fail 79).run S0 H0 = some r := h
   split at h'
   ·rename_i v hv
    obtain ⟨z, _, h1, h2⟩ := ih (K := fun vs => K (v :: vs)) h'
    refine ⟨_, trivial, h1, fun {K' r'} h => ?_⟩
    show (resR Γ G (.tmp t :: rv) K').run S0 H0 = some r'
    simp only [resR, hv]
    exact h2 (K' := fun vs => K' (v :: vs)) h
   ·exact run_fail h'
  | cell a t =>
   have h' : (resR Γ G (.cell a t :: rv) K).run S0 H0 = some r := h
   simp only [resR] at h'
   split at h'
   ·rename_i id off hs
    split at h'
    ·rename_i ti hti
     have go : ∀ ob, (optR 82 (Ob.rd ob) fun cs => bif inside cs off ti.ty.size then optR 80 (valOf ti.ty (cutAt cs off ti.ty.size)) fun r => resR Γ G rv fun vs => K (r :: vs) else .fail 81).run S0 H0 = some r →
       ∃ z, (K z).run S0 H0 = some r ∧ ∀ {K' : List HV → RT} {r' : List Wr × Nat}, (K' z).run S0 H0 = some r' → (optR 82 (Ob.rd ob) fun cs => bif inside cs off ti.ty.size then optR 80 (valOf ti.ty (cutAt cs off ti.ty.size)) fun r => resR Γ G rv fun vs => K' (r :: vs) else .fail 81).run S0 H0 = some r' := by
      intro ob h
      obtain ⟨cs, h1, h⟩ := run_optR h
      obtain ⟨h2, h⟩ := run_bif h
      obtain ⟨x, h3, h⟩ := run_optR h
      obtain ⟨z, _, h4, h5⟩ := ih (K := fun vs => K (x :: vs)) h
      refine ⟨_, h4, fun {K' r'} h => ?_⟩
      rw [h1]
      show (bif inside cs off ti.ty.size then optR 80 (valOf ti.ty (cutAt cs off ti.ty.size)) fun r => resR Γ G rv fun vs => K' (r :: vs) else .fail 81).run S0 H0 = some r'
      rw [h2, h3]
      exact h5 (K' := fun vs => K' (x :: vs)) h
     split at h'
     ·rename_i o ho
      obtain ⟨z, h1, h2⟩ := go o h'
      refine ⟨z, trivial, h1, fun {K' r'} h => ?_⟩
      show (resR Γ G (.cell a t :: rv) K').run S0 H0 = some r'
      simp only [resR, hs, hti, ho]
      exact h2 h
     ·exact run_fail h'
     ·rename_i hst
      split at h'
      ·rename_i o ho
       obtain ⟨z, h1, h2⟩ := go o h'
       refine ⟨z, trivial, h1, fun {K' r'} h => ?_⟩
       show (resR Γ G (.cell a t :: rv) K').run S0 H0 = some r'
       simp only [resR, hs, hti, hst, ho]
       exact h2 h
      ·rename_i hcn
       obtain ⟨o, ho, h'⟩ := run_obj h'
       obtain ⟨z, h1, h2⟩ := go o h'
       refine ⟨z, trivial, h1, fun {K' r'} h => ?_⟩
       show (resR Γ G (.cell a t :: rv) K').run S0 H0 = some r'
       simp only [resR, hs, hti, hst, hcn, RT.run, ho]
       exact h2 h
    ·exact run_fail h'
   ·exact run_fail h'
theorem resR_ok (hT : TysOk P Γ.tys) {G : GS} {m : Mp} {a : Act} {w : World} (hrep : Rep P ρ N G.slots.get (G.over H0) m a w) {r : List Wr × Nat} : ∀ {rv : List ResultVar} {K : List HV → RT}, (resR Γ G rv K).run S0 H0 = some r →
  ∃ vs xs, (K vs).run S0 H0 = some r ∧ denL ρ m vs = some xs ∧ All2 (resRun P a.tmps w) rv xs
 | [], K, h => ⟨[], [], h, by simp only [denL], .nil⟩
 | .tmp t :: rv, K, h => by
  have h' : (match G.slots.get t with
   | some v => resR Γ G rv fun vs => K (v :: vs)
   | none => .fail 79).run S0 H0 = some r := h
  split at h'
  ·rename_i v hv
   obtain ⟨vs, xs, h1, h2, h3⟩ := resR_ok hT hrep (K := fun vs => K (v :: vs)) h'
   exact ⟨_, _, h1, denL_cons' (hrep.slots _ _ hv) h2, .cons (by simp [resRun]) h3⟩
  ·exact run_fail h'
 | .cell p t :: rv, K, h' => by
  simp only [resR] at h'
  split at h'
  ·rename_i id off hs
   split at h'
   ·rename_i ti hti
    have hti := hT t ti hti
    have go : ∀ ob, (G.over H0) id = some ob → (optR 82 (Ob.rd ob) fun cs => bif inside cs off ti.ty.size then optR 80 (valOf ti.ty (cutAt cs off ti.ty.size)) fun r => resR Γ G rv fun vs => K (r :: vs) else .fail 81).run S0 H0 = some r →
      ∃ vs xs, (K vs).run S0 H0 = some r ∧ denL ρ m vs = some xs ∧ All2 (resRun P a.tmps w) (.cell p t :: rv) xs := by
     intro ob hob h
     obtain ⟨cs, h1, h⟩ := run_optR h
     obtain ⟨h2, h⟩ := run_bif h
     obtain ⟨x, h3, h⟩ := run_optR h
     obtain ⟨vs, xs, h4, h5, h6⟩ := resR_ok hT hrep (K := fun vs => K (x :: vs)) h
     obtain ⟨b, s, us, post, el, fr, q1, q2, q3, q4⟩ := (hrep.heap.objs id _ hob).rd h1
     obtain ⟨q, e1, e2⟩ := den_p (hrep.slots _ _ hs)
     rw [q1] at e1; cases e1
     have hle := inside_le h2
     have hvl := denL_length q2
     have hrun := run_loadAt (off := off) hti.eok q4 (by rw [List.length_append]; omega)
     rw [List.drop_append_of_le_length (by omega), List.take_append_of_le_length (by rw [List.length_drop]; omega)] at hrun
     refine ⟨_, _, h4, denL_cons' (den_valOf h3 (denL_cut _ _ q2) (all_cut _ _ q3)) h5, .cons ?_ h6⟩
     simp only [resRun]
     rw [e2]
     simpa [Instr.loadAt, Instr.sureAddr, asAddr] using hrun
    split at h'
    ·rename_i o ho
     exact go o (by simp only [GS.over, find_eq, ho]) h'
    ·exact run_fail h'
    ·rename_i hst
     split at h'
     ·rename_i o ho
      exact go o (by simp only [GS.over, find_eq, hst, ho]) h'
     ·rename_i hcn
      obtain ⟨o, ho, h'⟩ := run_obj h'
      exact go o (by simp only [GS.over, find_eq, hst, hcn, ho]) h'
   ·exact run_fail h'
  ·exact run_fail h'
theorem call_ok (hm : P.follows .mixedOrders = true) (hT : TysOk P Γ.tys) (hR : RngOk ρ Γ.R) {cl : CallFn} (hcl : CallOk P ρ cl) {L f n : Nat} {g : Fnc} (hg : FnOk P f g) {args : List HV} {K : HV → List Wr → Nat → RT} {S : Sl} {H : Hp} {r : List Wr × Nat}
  (h : (codeRT Γ cl L g.body { slots := numbered 0 args .lf, st := .lf, ca := .lf, next := n } fun e G => match e with
   | .exit _ => .fail 91
   | _ => resR Γ G g.results fun vs => K (tupH vs) (outWs G) G.next).run S H = some r) :
  ∃ res ws nx, (K res ws nx).run S H = some r ∧ n ≤ nx ∧ objW ws ∧ (∃ fb, P.funcs[f]? = some fb ∧ fb.body.isNone = false ∧ (fb.name == "runtime.NumGoroutine") = false) ∧
   ∀ (m : Mp) (w : World) (U : Nat → Prop) (vals : List Value), HRep P ρ H m w → (∀ id, m id ≠ none → U id) → (∀ j, n ≤ j → j < nx → ¬ U j) → denL ρ m args = some vals →
    Calls P f vals.toArray w fun e w' => ∃ m' v, e = .returned v ∧ m.le m' ∧ den ρ m' res = some v ∧ HRep P ρ (appH H ws) m' w' ∧ ∀ id, m' id ≠ none → U id ∨ (n ≤ id ∧ id < nx) := by
 classical
 obtain ⟨fb, f1, f2, f3, f4, f5, f6⟩ := hg
 have hca0 : CaOk H { slots := numbered 0 args .lf, st := .lf, ca := .lf, next := n } := fun id o h => by cases h
 obtain ⟨⟨e, G'⟩, hca, h1, h2⟩ := codeRT_par g.body _ hca0 (K := fun x => match x.1 with
   | .exit _ => .fail 91
   | _ => resR Γ x.2 g.results fun vs => K (tupH vs) (outWs x.2) x.2.next) h
 have h1' : (resR Γ G' g.results fun vs => K (tupH vs) (outWs G') G'.next).run S H = some r := by
  cases e with
  | exit i => exact run_fail h1
  | normal => exact h1
  | ret => exact h1
 obtain ⟨vs, _, h3, h4⟩ := resR_par G' g.results h1'
 let K' : XE → GS → RT := fun e G => match e with
  | .exit _ => .fail 91
  | _ => if CaOk H G then resR Γ G g.results fun vs => .fin (.slot 0 (some (.tup vs)) :: outWs G) G.next else .fail 92
 have hK' : ∀ e G y, (K' e G).run S H = some y → (∀ i, e ≠ .exit i) ∧ CaOk H G ∧ (resR Γ G g.results fun vs => .fin (.slot 0 (some (.tup vs)) :: outWs G) G.next).run S H = some y := by
  intro e G y h
  have key : (if CaOk H G then resR Γ G g.results fun vs => .fin (.slot 0 (some (.tup vs)) :: outWs G) G.next else .fail 92 : RT).run S H = some y → CaOk H G ∧ (resR Γ G g.results fun vs => .fin (.slot 0 (some (.tup vs)) :: outWs G) G.next).run S H = some y := by
   intro h
   split at h
   ·exact ⟨by assumption, h⟩
   ·exact run_fail h
  cases e with
  | exit i => exact run_fail h
  | normal => exact ⟨fun i => by simp, key h⟩
  | ret => exact ⟨fun i => by simp, key h⟩
 obtain ⟨y, hy⟩ : ∃ y : List Wr × Nat, y = (.slot 0 (some (.tup vs)) :: outWs G', G'.next) := ⟨_, rfl⟩
 have h5 : (codeRT Γ cl L g.body { slots := numbered 0 args .lf, st := .lf, ca := .lf, next := n } K').run S H = some y := by
  refine h2 (K' := fun x => K' x.1 x.2) ?_
  have key : (if CaOk H G' then resR Γ G' g.results fun vs => .fin (.slot 0 (some (.tup vs)) :: outWs G') G'.next else .fail 92 : RT).run S H = some y := by
   have hca' : CaOk H G' := hca
   rw [if_pos hca']
   refine h4 (K' := fun vs => .fin (.slot 0 (some (.tup vs)) :: outWs G') G'.next) ?_
   simp only [RT.run, hy]
  cases e with
  | exit i => exact run_fail h1
  | normal => exact key
  | ret => exact key
 have hend : ∀ e G, (K' e G).run S H = some y → (∀ i, e ≠ .exit i) ∧ CaOk H G ∧ G.next = G'.next ∧ outWs G = outWs G' ∧ ∀ {N : Nat} {m : Mp} {a : Act} {w : World}, Rep P ρ N G.slots.get (G.over H) m a w → ∃ xs, denL ρ m vs = some xs ∧ All2 (resRun P a.tmps w) g.results xs := by
  intro e G h
  obtain ⟨k1, k2, k3⟩ := hK' e G y h
  obtain ⟨vs2, _, q1, q2⟩ := resR_par G g.results k3
  have q1 := run_fin q1
  rw [hy] at q1
  simp only [Prod.mk.injEq, List.cons.injEq, Wr.slot.injEq, Option.some.injEq, HV.tup.injEq, true_and] at q1
  refine ⟨k1, k2, q1.2.symm, q1.1.2.symm, fun {N m a w} hrep => ?_⟩
  obtain ⟨vs3, xs, p1, p2, p3⟩ := resR_ok hT hrep k3
  have p1 := run_fin p1
  rw [hy] at p1
  simp only [Prod.mk.injEq, List.cons.injEq, Wr.slot.injEq, Option.some.injEq, HV.tup.injEq, true_and] at p1
  rw [p1.1.1]
  exact ⟨xs, p2, p3⟩
 have hup : n ≤ G'.next := by
  have := codeRT_up (B := { N := 0, U := fun _ => False, n0 := 0, mb := fun _ => none, S0 := S, H0 := H, r := y }) g.body (K := K') (fun e G hk => by rw [(hend e G hk).2.2.1]; rw [hy]; exact Nat.le_refl _) h5
  rw [hy] at this
  exact this
 refine ⟨tupH vs, outWs G', G'.next, h3, hup, out_obj G', ⟨fb, f1, by rw [f2]; rfl, f5⟩, fun m w U vals hrep hU hfree hargs => ?_⟩
 have hlen := denL_length hargs
 refine calls_of_wp f1 f2 ?_
 let B : Bs := { N := (vals.toArray ++ Array.replicate (fb.ntmps - vals.toArray.size) undef).size, U := U, n0 := n, mb := m, S0 := S, H0 := H, r := y }
 refine codeRT_ok (B := B) hm hT hR hcl ⟨fun j h1 h2 => hfree j h1 (by rw [show B.r = y from rfl, hy] at h2; exact h2)⟩ g.body (G := { slots := numbered 0 args .lf, st := .lf, ca := .lf, next := n }) (K := K') ?_ ?_ h5 ⟨fun e G a w h hk => ?_, fun e G hk => ?_⟩
 ·refine codeDst_mono ?_ f6
  show g.ntmps ≤ (vals.toArray ++ Array.replicate (fb.ntmps - vals.toArray.size) undef).size
  rw [f3]; simp; omega
 ·refine ⟨⟨m, Mp.le_refl m, ⟨hrep, fun k v hk => ?_, rfl, rfl⟩, fun id hid => .inl (hU id hid)⟩, Nat.le_refl _⟩
  have hk : (numbered 0 args .lf).get k = some v := hk
  rw [numbered_get] at hk
  split at hk
  ·rename_i hk2
   obtain ⟨x, hx1, hx2⟩ := denL_get hargs k v (by simpa using hk)
   rw [hx2]
   congr 1
   have hlt : k < vals.length := by omega
   have : vals[k] = x := by
    rw [List.getElem?_eq_getElem hlt] at hx1; simpa using hx1
   simp [Array.getElem?_append_left (show k < vals.toArray.size by simpa using hlt), hlt, this]
  ·cases hk
 ·obtain ⟨k1, k2, k3, k4, k5⟩ := hend e G hk
  obtain ⟨⟨m', m1, m2, m3⟩, low⟩ := h
  obtain ⟨xs, e1, e2⟩ := k5 m2
  have key : a.defers = [] ∧ ∃ v, (results fb a.tmps).run P w = .ok v w ∧ ∃ m' v', Ending.returned v = .returned v' ∧ m.le m' ∧ den ρ m' (tupH vs) = some v' ∧ HRep P ρ (appH H (outWs G')) m' w ∧ ∀ id, m' id ≠ none → U id ∨ (n ≤ id ∧ id < G'.next) := by
   refine ⟨m2.defers, _, results_run (by rw [f4]; exact e2), m', _, rfl, m1, den_tup e1, ?_, fun id hid => ?_⟩
   ·rw [← k4, out_over k2]
    exact m2.heap
   ·rcases m3 id hid with q | q
    ·exact .inl q
    ·rw [k3] at q; exact .inr q
  cases e with
  | normal => exact key
  | ret => exact key
  | exit i => exact absurd rfl (k1 i)
 ·rw [(hend e G hk).2.2.1, show B.r = y from rfl, hy]; exact Nat.le_refl _
theorem stepF_ok (hm : P.follows .mixedOrders = true) (hT : TysOk P Γ.tys) (hR : RngOk ρ Γ.R) (hF : FnsOk P Γ.fns) (hV : ValOk P ρ Γ) {L : Nat} {cl : CallFn} (ih : CallOk P ρ cl) : CallOk P ρ (stepF Γ L cl) := by
 intro f args n K S H r h
 have h' : (bif Nat.beq f Γ.val then (match args with
   | [.agg cs] => readT (tok3 Γ.tys) Γ.dep cs fun t => optR 92 (t.valid Γ.R) fun b => K (.b b) [] n
   | _ => .fail 93)
  else match Γ.fns.get f with
  | none => .fail (1000000 + f)
  | some g => codeRT Γ cl L g.body { slots := numbered 0 args .lf, st := .lf, ca := .lf, next := n } fun e G => match e with
   | .exit _ => .fail 91
   | _ => resR Γ G g.results fun vs => K (tupH vs) (outWs G) G.next).run S H = some r := h
 cases hb : Nat.beq f Γ.val with
 | true =>
  rw [hb] at h'
  have e := Nat.eq_of_beq_eq_true hb
  subst e
  simp only [cond_true] at h'
  split at h'
  ·rename_i cs
   obtain ⟨t, h1, h'⟩ := readT_ok h'
   obtain ⟨b, h2, h'⟩ := run_optR h'
   refine ⟨_, _, _, h', Nat.le_refl _, fun x hx => by simp at hx, hV.1, fun m w U vals hrep hU hfree hargs => ?_⟩
   obtain ⟨x, ys, q1, q2, q3⟩ := denL_cons hargs
   simp only [denL, Option.some.injEq] at q2
   subst q2; subst q3
   refine (hV.2 H m w cs t x b hrep h1 q1 h2).mono fun e w' he => ?_
   refine ⟨m, _, he.1, Mp.le_refl m, by simp only [den], hrep.grow he.2.block ⟨he.2.os, he.2.tape, he.2.output⟩, fun id hid => .inl (hU id hid)⟩
  ·exact run_fail h'
 | false =>
  rw [hb] at h'
  simp only [cond_false] at h'
  split at h'
  ·exact run_fail h'
  ·rename_i g hg
   exact call_ok hm hT hR ih (hF f g hg) h'
theorem runF_ok (hm : P.follows .mixedOrders = true) (hT : TysOk P Γ.tys) (hR : RngOk ρ Γ.R) (hF : FnsOk P Γ.fns) (hV : ValOk P ρ Γ) {L : Nat} : ∀ n, CallOk P ρ (runF Γ L n) := by
 intro k
 induction k with
 | zero => intro f args n K S H r h; exact run_fail h
 | succ k ih => exact stepF_ok hm hT hR hF hV ih
end
end Go.Proofs.YtehbbcdhahnkgaaGreat.Hm
