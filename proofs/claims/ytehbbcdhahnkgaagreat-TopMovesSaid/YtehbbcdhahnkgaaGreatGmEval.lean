/- The ghost machine and the machine: an operation. -/
import Derived.Test.YtehbbcdhahnkgaaGreatGmCall
import Derived.Test.YtehbbcdhahnkgaaGreatGmOpG
import Derived.Test.YtehbbcdhahnkgaaGreatGmOpI
import Derived.Test.YtehbbcdhahnkgaaGreatGmOpJ
import Derived.Test.YtehbbcdhahnkgaaGreatGmOpK
set_option linter.unusedVariables false
set_option linter.unusedSimpArgs false
namespace Go.Proofs.YtehbbcdhahnkgaaGreat
open Go
structure CatchOk (P : Program) (cf : FuncId) : Prop where
 body : ∃ g, P.funcs[cf]? = some g ∧ g.body.isNone = false ∧ (g.name == "runtime.NumGoroutine") = false
 call : ∃ et : TypeId, ∀ (w : World) (g : FuncId) (caps : Array Value) (Q : World → Prop), (∀ W, (callFunc g caps).run P W = .ok (.enter g caps) W) →
  Calls P g caps (w.alloc (.cells #[.int .i64 0] et)) (fun e w' => e = .returned (.tuple #[]) ∧ Q w' ∧ w'.heap[w.heap.size]? = some (.cells #[.int .i64 0] et (0, 0))) →
  Calls P cf #[.func (.func g) #[] caps] w fun e w' => e = .returned (.int .i64 0) ∧ ∃ w1, Q w1 ∧ w' = w1.setCell ⟨w.heap.size, 0, none⟩ (.int .i64 0)
structure CtrsOk (P : Program) (Γ : Ctx) : Prop where
 ctr : ∀ f c, look f Γ.ctrs = some c → c.okx Γ.ifs.exc P Γ.globs f
 ifs : IfOk P Γ.ifs
 cat : ∀ f, Γ.ifs.cat.any (Nat.beq f ·) = true → CatchOk P f ∧ Γ.ifs.exc = none
theorem setCell_same {w : World} {k : Nat} {v : Value} {e : TypeId} (h : w.heap[k]? = some (.cells #[v] e (0, 0))) : w.setCell ⟨k, 0, none⟩ v = w := by
 have hk := (Array.getElem?_eq_some_iff.1 h).1
 have hv := (Array.getElem?_eq_some_iff.1 h).2
 have e : (w.setCell ⟨k, 0, none⟩ v).heap = w.heap := by
  unfold World.setCell
  apply Array.ext
  ·simp
  ·intro i h1 h2
   simp only [Array.getElem_modify]
   split
   ·rename_i hik
    subst hik
    rw [hv]
    rfl
   ·rfl
 exact congrArg (fun x => ({ w with heap := x } : World)) e
theorem SV.ids_true (v : SV) : v.ids fun _ => True := by cases v <;> trivial
theorem GV.ids_true (g : GV) : g.ids fun _ => True := by
 cases g
 ·exact SV.ids_true _
 ·exact fun v _ => SV.ids_true v
 ·exact fun v _ => SV.ids_true v
theorem fitKs_len {objs : List (Nat × Ob)} {ρ : List (Option Nat)} : ∀ {ks : List SK} {gs : List GV} {r : KsD ks × List Nat}, fitKs objs ρ ks gs = some r → gs.length = ks.length
 | [], [], r, h => rfl
 | .val t :: ks, .sv v :: gs, r, h => by
  simp only [fitKs] at h
  split at h
  ·rename_i hx hq; simp [fitKs_len hq]
  ·cases h
 | .fp t :: ks, .sv v :: gs, r, h => by
  simp only [fitKs] at h
  split at h
  ·rename_i hx hq; simp [fitKs_len hq]
  ·cases h
 | .row k :: ks, .sv v :: gs, r, h => by
  simp only [fitKs] at h
  simp [fitKs_len (cond_some' h).2]
 | .ref k T :: ks, .sv v :: gs, r, h => by
  simp only [fitKs] at h
  simp [fitKs_len (cond_some' h).2]
 | .nilp :: ks, .sv v :: gs, r, h => by
  simp only [fitKs] at h
  split at h
  ·simp [fitKs_len h]
  ·cases h
 | .clo f cs :: ks, .clo f' vs :: gs, r, h => by
  simp only [fitKs] at h
  simp [fitKs_len (cond_some' h).2]
 | .val _ :: _, .tup _ :: _, _, h | .val _ :: _, .clo _ _ :: _, _, h | .fp _ :: _, .tup _ :: _, _, h | .fp _ :: _, .clo _ _ :: _, _, h
 | .row _ :: _, .tup _ :: _, _, h | .row _ :: _, .clo _ _ :: _, _, h | .ref _ _ :: _, .tup _ :: _, _, h | .ref _ _ :: _, .clo _ _ :: _, _, h
 | .nilp :: _, .tup _ :: _, _, h | .nilp :: _, .clo _ _ :: _, _, h | .clo _ _ :: _, .sv _ :: _, _, h | .clo _ _ :: _, .tup _ :: _, _, h => by simp [fitKs] at h
 | .val _ :: _, [], _, h | .fp _ :: _, [], _, h | .row _ :: _, [], _, h | .ref _ _ :: _, [], _, h | .nilp :: _, [], _, h | .clo _ _ :: _, [], _, h => by simp [fitKs] at h
 | [], _ :: _, _, h => by simp [fitKs] at h

section
variable {P : Program} {Γ : Ctx} {E : Env} {N : Nat} {U : Nat → Prop} {ob : Nat → Value} {Z : Nat → Prop} {s : GS} {a : Act} {w : World} {ws : List Wr} {fresh : Nat} {o : Oper} {Q : Exit → Act → World → Prop}
theorem gvsR_ok (h : RepAt E N U ob Z s a w) (hg : E.globs = Γ.globs) : ∀ {l : List Operand} {k : List GV → RT}, (gvsR Γ l k).run s = some ws →
  ∃ gs, All2 (VR w Z ob) gs (l.map a.eval) ∧ (∀ g ∈ gs, g.ids U) ∧ (k gs).run s = some ws
 | [], k, hr => ⟨[], trivial, by simp, hr⟩
 | x :: l, k, hr => by
  simp only [gvsR] at hr
  obtain ⟨g, h1, h2, h3⟩ := opdR_ok h hg hr
  obtain ⟨gs, h4, h5, h6⟩ := gvsR_ok h hg h3
  exact ⟨g :: gs, ⟨h1, h4⟩, fun q hq => (List.mem_cons.1 hq).elim (fun e => e ▸ h2) (h5 q), h6⟩
theorem look_cons_ok {i j : Nat} {o o' : Ob} {l : List (Nat × Ob)} (h : look j ((i, o) :: l) = some o') (hi : look i s.objs = some o) (hl : ∀ j o, look j l = some o → look j s.objs = some o) : look j s.objs = some o' := by
 simp only [look] at h
 cases hb : Nat.beq i j with
 | true => rw [hb] at h; cases h; rw [← Nat.eq_of_beq_eq_true hb]; exact hi
 | false => rw [hb] at h; exact hl j o' h
theorem objsR_ok : ∀ {l : List SV} {k : List (Nat × Ob) → RT}, (objsR l k).run s = some ws → ∃ objs, (∀ i o, look i objs = some o → look i s.objs = some o) ∧ (k objs).run s = some ws
 | [], k, hr => ⟨[], fun i o h => by simp [look] at h, hr⟩
 | v :: l, k, hr => by
  simp only [objsR] at hr
  split at hr
  ·replace hr := run_obj hr
   obtain ⟨o, h1, hr⟩ := hr
   replace hr := objsR_ok hr
   obtain ⟨objs, h2, h3⟩ := hr
   exact ⟨_, fun j o' hj => look_cons_ok hj h1 h2, h3⟩
  ·replace hr := run_obj hr
   obtain ⟨o, h1, hr⟩ := hr
   replace hr := objsR_ok hr
   obtain ⟨objs, h2, h3⟩ := hr
   exact ⟨_, fun j o' hj => look_cons_ok hj h1 h2, h3⟩
  ·replace hr := run_obj hr
   obtain ⟨o, h1, hr⟩ := hr
   split at hr
   ·replace hr := run_obj hr
    obtain ⟨o2, h4, hr⟩ := hr
    replace hr := objsR_ok hr
    obtain ⟨objs, h2, h3⟩ := hr
    exact ⟨_, fun j o' hj => look_cons_ok hj h1 fun j o' hj => look_cons_ok hj h4 h2, h3⟩
   ·replace hr := run_obj hr
    obtain ⟨o2, h4, hr⟩ := hr
    replace hr := objsR_ok hr
    obtain ⟨objs, h2, h3⟩ := hr
    exact ⟨_, fun j o' hj => look_cons_ok hj h1 fun j o' hj => look_cons_ok hj h4 h2, h3⟩
   ·replace hr := objsR_ok hr
    obtain ⟨objs, h2, h3⟩ := hr
    exact ⟨_, fun j o' hj => look_cons_ok hj h1 h2, h3⟩
  ·exact objsR_ok hr

theorem tupG_ok {w' : World} {Z' : Nat → Prop} {ob' : Nat → Value} {U' : Nat → Prop} {svs : List SV} {vs : List Value} (h : All2 (SR w' Z' ob') svs vs) (hi : ∀ v ∈ svs, v.ids U') : VR w' Z' ob' (tupG svs) (tupV vs) ∧ (tupG svs).ids U' := by
 match svs, vs, h with
 | [], [], _ => exact ⟨⟨[], rfl, trivial⟩, by simp [tupG, GV.ids]⟩
 | [v], [u], h => exact ⟨h.1, hi v (by simp)⟩
 | v :: v' :: l, u :: u' :: l', h => exact ⟨⟨_, rfl, h⟩, hi⟩

theorem op_enter (hC : CtrsOk P Γ) (h : RepAt E Γ.N U ob Z s a w) (hg : E.globs = Γ.globs) (hP : PX E Γ Q) (hf : ∀ j, fresh ≤ j → j < fresh + 4 → ¬ U j) {fn : FuncId} {k : Ctr} (hk : look fn Γ.ctrs = some k) {gs : List GV} {args : List Value} (hargs : All2 (VR w Z ob) gs args)
  (hx : ∀ g, P.funcs[fn]? = some g → g.body.isNone = false → (g.name == "runtime.NumGoroutine") = false → (execOp a.eval o).run P w = .ok (.enter fn args.toArray) w) (hr : (callR Γ fresh o k gs).run s = some ws) :
  o.wp P a w (After E Γ.N U fresh s ws) Q := by
   unfold callR at hr
   replace hr := objsR_ok hr
   obtain ⟨objs, h5, hr⟩ := hr
   split at hr
   ·exact run_fail hr
   ·rename_i f hfit
    replace hr := run_chk hr
    obtain ⟨hchk, hr⟩ := hr
    replace hr := run_bind hr
    obtain ⟨y, hy, hr⟩ := hr
    simp only [Bool.and_eq_true] at hchk
    obtain ⟨⟨⟨k1, k2⟩, k3⟩, k4⟩ := hchk
    have k1 := Nat.le_of_ble_eq_true k1
    have k2 := Nat.le_of_ble_eq_true k2
    have hok := hC.ctr fn k hk
    obtain ⟨fb, hb1, hb2, hb3⟩ := hok.body
    have hlen : args.length = k.ps.ks.length := by
     obtain ⟨pa, pb, p1, _⟩ := fitG_parts hfit
     rw [← hargs.length]; exact fitKs_len p1
    let E' : Env := { w0 := w, M := fun b => ∃ (q i : Nat) (o : Ob), f.ρ[q]? = some (some i) ∧ look i s.objs = some o ∧ o.own = true ∧ blk (ob i) = some b, Z0 := Lz ob Z f.lent, pins := (List.range k.np).map (fun q => (q, obOf ob f.ρ q)), globs := Γ.globs, x := Γ.ifs.exc }
    have hrep : RepAt E' args.length (fun q => q < k.ps.os.length) (obOf ob f.ρ) (Lz ob Z f.lent) (k.ps.st (List.range k.ps.ks.length) f.y) ⟨args.toArray, []⟩ w := by
     refine fit_rep h h5 hargs hfit rfl (by simp) (fun i n u hn hu => ?_) (Kept.refl _ _) (fun b hb _ => .inl hb) (fun q i o b e1 e2 e3 e4 => .inl ⟨q, i, o, e1, e2, e3, e4⟩) hg.symm (fun p hp => ?_)
     ·obtain ⟨hi, hn⟩ := List.getElem?_eq_some_iff.1 hn
      simp at hn; subst hn
      refine ⟨by simp at hi; omega, ?_⟩
      simp [hu]
     ·obtain ⟨q, hq, rfl⟩ := List.mem_map.1 hp
      exact ⟨rfl, by simp at hq; omega⟩
    have hcall := hok.call E' (obOf ob f.ρ) (Lz ob Z f.lent) args f.y y rfl rfl rfl hlen hrep hy
    have hexec := hx fb hb1 hb2 hb3
    unfold Oper.wp
    rw [hexec, Oper.upon_enter]
    refine hcall.mono fun e w' q => ?_
    rcases q with ⟨vs, ob2, Z2, he, hvl, hrep2⟩ | ⟨v, hv, he, hkp⟩
    rotate_left
    ·subst he
     refine hP.2 v a w' (hP.1.trans hv) h.defers (h.kept.trans hkp ?_)
     rintro b ⟨q, i, oo, _, e2, e3, e4⟩
     exact (h.own i oo e2 e3 b e4).2
    subst he
    obtain ⟨ob3, Z3, q1, q2, q3⟩ := call_rep h hf h5 hfit k1 k2 k3 k4 (E' := E') rfl (fun b => Iff.rfl) (fun b hb => hb) rfl hvl hrep2
    obtain ⟨q4, q5⟩ := tupG_ok q2 q3
    unfold dstR at hr
    cases hd : o.dst with
    | none => rw [hd] at hr; simp only [RT.run, Option.some.injEq] at hr; subst hr; exact ⟨ob3, Z3, q1⟩
    | some d =>
     rw [hd] at hr
     obtain ⟨hb, hr⟩ := run_cond hr
     simp only [RT.run, Option.some.injEq] at hr; subst hr
     refine ⟨ob3, Z3, ?_⟩
     rw [app_snoc]
     exact q1.slot (Nat.lt_of_lt_of_le (Nat.lt_succ_self d) (Nat.le_of_ble_eq_true hb)) q4 q5

theorem op_catch (hC : CtrsOk P Γ) (h : RepAt E Γ.N U ob Z s a w) (hg : E.globs = Γ.globs) (hP : PX E Γ Q) (hf : ∀ j, fresh ≤ j → j < fresh + 4 → ¬ U j) {fn : FuncId} {k : Ctr} (hk : look fn Γ.ctrs = some k) {gs : List GV} {args : List Value} (hargs : All2 (VR w Z ob) gs args)
  {cf : FuncId} (hcf : CatchOk P cf ∧ Γ.ifs.exc = none)
  (hx : (execOp a.eval o).run P w = .ok (.enter cf #[.func (.func fn) #[] args.toArray]) w) (hr : (catR Γ fresh o k gs).run s = some ws) :
  o.wp P a w (After E Γ.N U fresh s ws) Q := by
   have hok0 := hC.ctr fn k hk
   rw [hcf.2] at hok0
   replace hok0 := hok0.strict
   obtain ⟨et, hcat⟩ := hcf.1.call
   have hk0 : Kept (fun _ => False) w (w.alloc (.cells #[.int .i64 0] et)) := Kept.alloc _ _
   have h0 := h
   replace h := h.step hk0
   replace hargs : All2 (VR (w.alloc (.cells #[.int .i64 0] et)) Z ob) gs args := hargs.mono fun g v hv => hv.mono (U := fun _ => True) (hk0.same fun _ _ h => h) (fun _ h => h) (fun _ _ => rfl) (GV.ids_true g)
   obtain ⟨w1, hw1⟩ : ∃ w1, w1 = w.alloc (.cells #[.int .i64 0] et) := ⟨_, rfl⟩
   have hn1 : w1.heap[w.heap.size]? = some (.cells #[.int .i64 0] et (0, 0)) := by rw [hw1]; exact Go.heap_alloc_new w _
   rw [← hw1] at h hargs
   unfold catR at hr
   replace hr := objsR_ok hr
   obtain ⟨objs, h5, hr⟩ := hr
   split at hr
   ·exact run_fail hr
   ·rename_i f hfit
    replace hr := run_chk hr
    obtain ⟨hchk, hr⟩ := hr
    replace hr := run_bind hr
    obtain ⟨y, hy, hr⟩ := hr
    simp only [Bool.and_eq_true] at hchk
    obtain ⟨⟨⟨⟨k1, k2⟩, k3⟩, k4⟩, k5⟩ := hchk
    have k1 := Nat.le_of_ble_eq_true k1
    have k2 := Nat.le_of_ble_eq_true k2
    have hok := hok0
    obtain ⟨fb, hb1, hb2, hb3⟩ := hok.body
    have hlen : args.length = k.ps.ks.length := by
     obtain ⟨pa, pb, p1, _⟩ := fitG_parts hfit
     rw [← hargs.length]; exact fitKs_len p1
    let E' : Env := { w0 := w1, M := fun b => ∃ (q i : Nat) (o : Ob), f.ρ[q]? = some (some i) ∧ look i s.objs = some o ∧ o.own = true ∧ blk (ob i) = some b, Z0 := Lz ob Z f.lent, pins := (List.range k.np).map (fun q => (q, obOf ob f.ρ q)), globs := Γ.globs }
    have hrep : RepAt E' args.length (fun q => q < k.ps.os.length) (obOf ob f.ρ) (Lz ob Z f.lent) (k.ps.st (List.range k.ps.ks.length) f.y) ⟨args.toArray, []⟩ w1 := by
     refine fit_rep h h5 hargs hfit rfl (by simp) (fun i n u hn hu => ?_) (Kept.refl _ _) (fun b hb _ => .inl hb) (fun q i o b e1 e2 e3 e4 => .inl ⟨q, i, o, e1, e2, e3, e4⟩) hg.symm (fun p hp => ?_)
     ·obtain ⟨hi, hn⟩ := List.getElem?_eq_some_iff.1 hn
      simp at hn; subst hn
      refine ⟨by simp at hi; omega, ?_⟩
      simp [hu]
     ·obtain ⟨q, hq, rfl⟩ := List.mem_map.1 hp
      exact ⟨rfl, by simp at hq; omega⟩
    have hcall := hok.call E' (obOf ob f.ρ) (Lz ob Z f.lent) args f.y y rfl rfl hlen hrep hy
    have hen : ∀ W, (callFunc fn args.toArray).run P W = .ok (.enter fn args.toArray) W := fun W => by
     have hb4 : ¬ fb.body = none := fun e => by rw [e] at hb2; cases hb2
     have hb5 : ¬ fb.name = "runtime.NumGoroutine" := by simpa using hb3
     simp [callFunc, hb1, hb4, hb5]
    have hcall2 := hcat w fn args.toArray (fun w' => ∃ (vs : List Value) (ob' : Nat → Value) (Z' : Nat → Prop), vs.length = k.rs.ks.length ∧ RepAt E' vs.length (fun q => q < k.rs.os.length) ob' Z' (k.rs.st (List.range k.rs.ks.length) y) ⟨vs.toArray, []⟩ w') hen (by
     rw [← hw1]
     refine hcall.mono fun e w' ⟨vs, ob2, Z2, he, hvl, hrep2⟩ => ?_
     have hv0 : vs = [] := List.eq_nil_of_length_eq_zero (by rw [hvl]; exact Nat.eq_of_beq_eq_true k5)
     refine ⟨by rw [he, hv0]; rfl, ⟨vs, ob2, Z2, hvl, hrep2⟩, ?_⟩
     refine (hrep2.kept.block _ (by show w.heap.size < w1.heap.size; rw [hw1]; simp) ?_).trans hn1
     rintro ⟨q, i, oo, e1, e2, e3, e4⟩
     have : w.heap.size < w.heap.size := (h0.objs _ _ e2).2.1.block_lt _ e4
     omega)
    unfold Oper.wp
    rw [hx, Oper.upon_enter]
    refine hcall2.mono fun e w' ⟨he, w2, ⟨vs, ob2, Z2, hvl, hrep2⟩, hw2⟩ => ?_
    subst he
    have hsame : w2.heap[w.heap.size]? = some (.cells #[.int .i64 0] et (0, 0)) := (hrep2.kept.block _ (by show w.heap.size < w1.heap.size; rw [hw1]; simp) (by
     rintro ⟨q, i, oo, e1, e2, e3, e4⟩
     have : w.heap.size < w.heap.size := (h0.objs _ _ e2).2.1.block_lt _ e4
     omega)).trans hn1
    rw [setCell_same hsame] at hw2
    subst hw2
    obtain ⟨ob3, Z3, q1, q2, q3⟩ := call_rep h hf h5 hfit k1 k2 k3 k4 (E' := E') rfl (fun b => Iff.rfl) (fun b hb => hb) rfl hvl hrep2
    unfold dstR at hr
    cases hd : o.dst with
    | none => rw [hd] at hr; simp only [RT.run, Option.some.injEq] at hr; subst hr; exact ⟨ob3, Z3, q1⟩
    | some d =>
     rw [hd] at hr
     obtain ⟨hb, hr⟩ := run_cond hr
     simp only [RT.run, Option.some.injEq] at hr; subst hr
     refine ⟨ob3, Z3, ?_⟩
     rw [app_snoc]
     exact q1.slot (g := .sv (.data .i64 (0 : Int))) (Nat.lt_of_lt_of_le (Nat.lt_succ_self d) (Nat.le_of_ble_eq_true hb)) ⟨[.int .i64 0], ⟨rfl, by decide⟩, rfl⟩ trivial

theorem op_value (hC : CtrsOk P Γ) (h : RepAt E Γ.N U ob Z s a w) (hg : E.globs = Γ.globs) (hP : PX E Γ Q) (hf : ∀ j, fresh ≤ j → j < fresh + 4 → ¬ U j) {c : Call} (ho : o.op = .call c) {x : Operand} (hc : c.callee = .value x) (hr : (evalOp Γ fresh o).run s = some ws) :
  o.wp P a w (After E Γ.N U fresh s ws) Q := by
 simp only [evalOp, ho, hc] at hr
 replace hr := opdR_ok h hg hr
 obtain ⟨g, h1, h2, hr⟩ := hr
 split at hr
 ·rename_i fn cs
  obtain ⟨us, hev, hus⟩ := h1
  split at hr
  ·rename_i k hk
   replace hr := gvsR_ok h hg hr
   obtain ⟨gs, h3, h4, hr⟩ := hr
   have hargs : All2 (VR w Z ob) (gs ++ cs.map .sv) (c.args.toList.map a.eval ++ us) := h3.append (by
    have : ∀ {cs : List SV} {us : List Value}, All2 (SR w Z ob) cs us → All2 (VR w Z ob) (cs.map .sv) us := by
     intro cs
     induction cs with
     | nil => intro us hu; cases us <;> simp_all [All2]
     | cons v cs ih => intro us hu; cases us <;> simp_all [All2, VR]
    exact this hus)
   refine op_enter hC h hg hP hf hk hargs (fun fb hb1 hb2 hb3 => ?_) hr
   have hb4 : ¬ fb.body = none := fun e => by rw [e] at hb2; cases hb2
   have hb5 : ¬ fb.name = "runtime.NumGoroutine" := by simpa using hb3
   have hb6 : Array.map a.eval c.args ++ us.toArray = (List.map a.eval c.args.toList ++ us).toArray := by apply Array.ext'; simp
   simp [execOp, ho, resolve, hc, hev, Deferred.ofValue, invoke, callFunc, hb1, hb4, hb5, hb6]
  split at hr
  ·rename_i hn
   replace hr := gvsR_ok h hg hr
   obtain ⟨gs, h3, h4, hr⟩ := hr
   unfold addR at hr
   split at hr
   ·rename_i xa xb xc
    replace hr := run_chk hr
    obtain ⟨hc1, hr⟩ := hr
    have hu : us = [] := by cases us <;> simp_all [All2]
    subst hu
    obtain ⟨v1, v2, v3, hvs⟩ : ∃ v1 v2 v3, c.args.toList.map a.eval = [v1, v2, v3] := by
     match c.args.toList.map a.eval, h3 with
     | [v1, v2, v3], _ => exact ⟨_, _, _, rfl⟩
    rw [hvs] at h3
    obtain ⟨e1, e2, e3, _⟩ := h3
    have e1 : v1 = _ := SR.u64 (ob := ob) e1
    have e2 : v2 = _ := SR.u64 (ob := ob) e2
    have e3 : v3 = _ := SR.u64 (ob := ob) e3
    subst e1 e2 e3
    have hargs : Array.map a.eval c.args = #[.int .u64 (xa.toNat : Int), .int .u64 (xb.toNat : Int), .int .u64 (xc.toNat : Int)] := by apply Array.ext'; simpa using hvs
    have hrun := hC.ifs.nat fn hn xa xb xc w (of_decide_eq_true hc1)
    refine fin_pure h (v := .tuple #[.int .u64 ((addV xa xb xc).1.toNat : Int), .int .u64 ((addV xa xb xc).2.toNat : Int)]) ?_ (show VR w Z ob (.tup [.data .u64 (addV xa xb xc).1, .data .u64 (addV xa xb xc).2]) _ from ⟨[_, _], rfl, ⟨_, rfl, rfl⟩, ⟨_, rfl, rfl⟩, trivial⟩) (by simp [GV.ids, SV.ids]) hr
    simp [execOp, ho, resolve, hc, hev, Deferred.ofValue, invoke, hargs, hrun]
   ·exact run_fail hr
  ·split at hr
   ·rename_i x1 hcat hargs
    have hu : us = [] := by cases us <;> simp_all [All2]
    subst hu
    replace hr := opdR_ok h hg hr
    obtain ⟨g, g1, g2, hr⟩ := hr
    split at hr
    ·rename_i f2 cs2
     obtain ⟨us2, hev2, hus2⟩ := g1
     split at hr
     ·rename_i k hk
      have hcf := hC.cat fn hcat
      have ha2 : All2 (VR w Z ob) (cs2.map .sv) us2 := by
       have : ∀ {cs : List SV} {us : List Value}, All2 (SR w Z ob) cs us → All2 (VR w Z ob) (cs.map .sv) us := by
        intro cs
        induction cs with
        | nil => intro us hu; cases us <;> simp_all [All2]
        | cons v cs ih => intro us hu; cases us <;> simp_all [All2, VR]
       exact this hus2
      refine op_catch hC h hg hP hf hk ha2 hcf ?_ hr
      obtain ⟨fb, hb1, hb2, hb3⟩ := hcf.1.body
      have hb4 : ¬ fb.body = none := fun e => by rw [e] at hb2; cases hb2
      have hb5 : ¬ fb.name = "runtime.NumGoroutine" := by simpa using hb3
      have hb6 : Array.map a.eval c.args = #[.func (.func f2) #[] us2.toArray] := by
       apply Array.ext'
       have : (Array.map a.eval c.args).toList = c.args.toList.map a.eval := by simp
       rw [this, hargs, List.map_cons, List.map_nil, hev2]
      simp [execOp, ho, resolve, hc, hev, Deferred.ofValue, invoke, callFunc, hb1, hb4, hb5, hb6]
     ·exact run_fail hr
    ·exact run_fail hr
   ·exact run_fail hr
 ·exact run_fail hr
theorem op_invoke (hC : CtrsOk P Γ) (h : RepAt E Γ.N U ob Z s a w) (hg : E.globs = Γ.globs) (hP : PX E Γ Q) (hf : ∀ j, fresh ≤ j → j < fresh + 4 → ¬ U j) {c : Call} (ho : o.op = .call c) {x : Operand} {name : String} (hc : c.callee = .invoke x name) (hr : (evalOp Γ fresh o).run s = some ws) :
  o.wp P a w (After E Γ.N U fresh s ws) Q := by
 simp only [evalOp, ho, hc] at hr
 replace hr := svR_ok h hg hr
 obtain ⟨v, h1, h2, hr⟩ := hr
 split at hr
 ·rename_i t
  have hev : a.eval x = .iface t (.agg #[]) := h1
  split at hr
  ·rename_i f hm
   split at hr
   ·rename_i k hk
    replace hr := gvsR_ok h hg hr
    obtain ⟨gs, h3, h4, hr⟩ := hr
    have hargs : All2 (VR w Z ob) (.sv (.data .unit ()) :: gs) (.agg #[] :: c.args.toList.map a.eval) := ⟨⟨[], rfl, rfl⟩, h3⟩
    refine op_enter (gs := .sv (.data .unit ()) :: gs) (args := .agg #[] :: c.args.toList.map a.eval) hC h hg hP hf hk hargs (fun fb hb1 hb2 hb3 => ?_) hr
    have hb4 : ¬ fb.body = none := fun e => by rw [e] at hb2; cases hb2
    have hb5 : ¬ fb.name = "runtime.NumGoroutine" := by simpa using hb3
    have hb6 : #[Value.agg #[]] ++ Array.map a.eval c.args = (Value.agg #[] :: List.map a.eval c.args.toList).toArray := by apply Array.ext'; simp
    have hcl := hC.ifs.call (w := w) hm (Array.map a.eval c.args)
    have hex : (execOp a.eval o).run P w = (callMethod (.iface t (.agg #[])) name (Array.map a.eval c.args)).run P w := by
     have e0 : ∀ (v : Value) (xs : Array Value), (#[v] ++ xs)[0]? = some v := fun v xs => by rw [Array.getElem?_append_left (by simp)]; rfl
     have e1 : ∀ (v : Value) (xs : Array Value), (#[v] ++ xs).extract 1 (#[v] ++ xs).size = xs := fun v xs => by apply Array.ext'; simp
     simp only [execOp, ho, resolve, hc, hev, Sem.run_bind, Sem.run_pure, Result.andThen_ok, invoke, e0, e1]
    rw [hex, hcl, hb6]
    simp [callFunc, hb1, hb4, hb5]
   ·exact run_fail hr
  ·exact run_fail hr
 ·exact run_fail hr
theorem op_makeInterface (hC : CtrsOk P Γ) (h : RepAt E Γ.N U ob Z s a w) (hg : E.globs = Γ.globs) {t : TypeId} {x : Operand} (ho : o.op = .makeInterface t x) (hr : (evalOp Γ fresh o).run s = some ws) :
  o.wp P a w (After E Γ.N U fresh s ws) Q := by
 simp only [evalOp, ho] at hr
 split at hr
 ·rename_i he
  replace hr := svR_ok h hg hr
  obtain ⟨v, h1, h2, hr⟩ := hr
  split at hr
  ·obtain ⟨vs, h3, h4⟩ := h1
   have h3' : vs = [] := h3
   have hev : a.eval x = .agg #[] := by rw [h4, h3']; rfl
   exact fin_pure h (v := .iface t (.agg #[])) (by simp only [execOp, ho]; rw [Sem.run_bind, hev, hC.ifs.iface he]; rfl) (vr (v := .ifc (some t)) rfl) trivial hr
  ·exact run_fail hr
 ·exact run_fail hr

theorem evalOp_ok (hT : TysOk P Γ) (hC : CtrsOk P Γ) (h : RepAt E Γ.N U ob Z s a w) (hg : E.globs = Γ.globs) (hP : PX E Γ Q) (hf : ∀ j, fresh ≤ j → j < fresh + 4 → ¬ U j) (hr : (evalOp Γ fresh o).run s = some ws) :
  o.wp P a w (After E Γ.N U fresh s ws) Q := by
 cases ho : o.op
 case move x => exact op_move h hg (.inl ho) (by simpa only [evalOp, ho] using hr)
 case assign x => exact op_take h hg ho hr
 case pick c x y => exact op_pick h hg ho hr
 case alloc e => exact op_alloc hT h hf ho hr
 case box e x => exact op_box hT h hg hf ho hr
 case build t ps => exact op_build hT hC.ifs h hg ho hr
 case makeInterface t x => exact op_makeInterface hC h hg ho hr
 case buildSlice t n ps => exact op_buildSlice hT h hg hf ho hr
 case load t x => exact op_load hT hC.ifs h hg ho hr
 case store t x y => exact op_store hT h hg ho hr
 case nilCheck x => exact op_nilCheck h hg ho hr
 case binOp op t x y yt => exact op_binOp hT h hg ho hr
 case unOp op t x => exact op_unOp h hg ho hr
 case convert sT d x => exact op_convert hT h hg hf ho hr
 case makeFunc fn first cs => exact op_makeFunc h hg ho hr
 case makeSlice t x y => exact op_makeSlice hT h hg hf ho hr
 case slice t x lo hi mx => exact op_slice hT h hg ho hr
 case fieldAddr t x f => exact op_fieldAddr hT h hg ho hr
 case field t x f => exact op_field hT h hg ho hr
 case indexAddr t x i => exact op_indexAddr hT h hg ho hr
 case index t x i => exact op_index hT h hg ho hr
 case extract x i => exact op_extract h hg ho hr
 case call c =>
  cases hc : c.callee
  case value x => exact op_value hC h hg hP hf ho hc hr
  case invoke x name => exact op_invoke hC h hg hP hf ho hc hr
  case builtin b =>
   simp only [evalOp, ho, hc] at hr
   have harr : ∀ l, c.args.toList = l → c.args = l.toArray := fun l e => by apply Array.ext'; simpa using e
   cases b
   case append =>
    rcases hx : c.args.toList with _ | ⟨x, _ | ⟨y, _ | ⟨z, l⟩⟩⟩ <;> rw [hx] at hr <;> (try (simp only [builtinR] at hr; exact run_fail hr))
    rcases hty : c.argTypes.toList with _ | ⟨tx, _ | ⟨ty, _ | ⟨z, l⟩⟩⟩ <;> rw [hty] at hr <;> (try (simp only [builtinR] at hr; exact run_fail hr))
    exact op_append hT h hg hf ho hc (harr _ hx) hty hr
   case copy =>
    rcases hx : c.args.toList with _ | ⟨x, _ | ⟨y, _ | ⟨z, l⟩⟩⟩ <;> rw [hx] at hr <;> (try (simp only [builtinR] at hr; exact run_fail hr))
    exact op_copy hT h hg ho hc (harr _ hx) rfl hr
   case min =>
    rcases hx : c.args.toList with _ | ⟨x, _ | ⟨y, _ | ⟨z, l⟩⟩⟩ <;> rw [hx] at hr <;> (try (simp only [builtinR] at hr; exact run_fail hr))
    exact op_min h hg ho hc (harr _ hx) hr
   case max =>
    rcases hx : c.args.toList with _ | ⟨x, _ | ⟨y, _ | ⟨z, l⟩⟩⟩ <;> rw [hx] at hr <;> (try (simp only [builtinR] at hr; exact run_fail hr))
    exact op_max h hg ho hc (harr _ hx) hr
   case len =>
    rcases hx : c.args.toList with _ | ⟨x, _ | ⟨y, l⟩⟩ <;> rw [hx] at hr <;> (try (simp only [builtinR] at hr; exact run_fail hr))
    rcases hty : c.argTypes.toList with _ | ⟨tx, _ | ⟨ty, l⟩⟩ <;> rw [hty] at hr <;> (try (simp only [builtinR] at hr; exact run_fail hr))
    exact op_len hT h hg ho hc (harr _ hx) hty hr
   all_goals (simp only [builtinR] at hr; exact run_fail hr)
 all_goals (simp only [evalOp, ho] at hr; exact run_fail hr)
end
end Go.Proofs.YtehbbcdhahnkgaaGreat
