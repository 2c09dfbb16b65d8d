/- The ghost machine and the machine: a function and its contract. -/
import Derived.Test.YtehbbcdhahnkgaaGreatGmJudge
set_option linter.unusedVariables false
set_option linter.unusedSimpArgs false
namespace Go.Proofs.YtehbbcdhahnkgaaGreat
open Go
def unfp : List Bool → List SK → List SK
 | [], l => l
 | true :: bs, .fp t :: l => .val t :: unfp bs l
 | true :: _, [] | false :: _, [] => []
 | _ :: bs, k :: l => k :: unfp bs l
def unK : (bs : List Bool) → (l : List SK) → KsD l → KsD (unfp bs l)
 | true :: bs, .fp _ :: l, y => (y.1, unK bs l y.2)
 | true :: bs, .val _ :: l, y => (y.1, unK bs l y.2)
 | true :: bs, .row _ :: l, y => unK bs l y
 | true :: bs, .ref _ _ :: l, y => unK bs l y
 | true :: bs, .nilp :: l, y => unK bs l y
 | true :: bs, .clo _ _ :: l, y => unK bs l y
 | false :: bs, .fp _ :: l, y => (y.1, unK bs l y.2)
 | false :: bs, .val _ :: l, y => (y.1, unK bs l y.2)
 | false :: bs, .row _ :: l, y => unK bs l y
 | false :: bs, .ref _ _ :: l, y => unK bs l y
 | false :: bs, .nilp :: l, y => unK bs l y
 | false :: bs, .clo _ _ :: l, y => unK bs l y
 | [], l, y => y
 | true :: _, [], y => y
 | false :: _, [], y => y
def Spec.un (bs : List Bool) (c : Spec) : Spec := { ks := unfp bs c.ks, os := c.os }
def retK (np : Nat) (res : List Nat) (bs : List Bool) (c : Spec) : XE → GS → Option (c.un bs).den
 | .exit _, _ => none
 | _, s => (fit np res c s).map fun y => (unK bs c.ks y.1, y.2)
def noDup : List Nat → Bool
 | [] => true
 | n :: l => !(memB n l) && noDup l
def resOk (tys : List (Nat × TI)) : List ResultVar → List Nat → List Bool → List SK → Bool
 | [], [], [], [] => true
 | .tmp t :: rv, n :: ns, false :: bs, _ :: ks => Nat.beq t n && resOk tys rv ns bs ks
 | .cell p ty :: rv, n :: ns, true :: bs, .fp T :: ks => Nat.beq p n && (match look ty tys with
  | some ti => ti.ty.same T
  | none => false) && resOk tys rv ns bs ks
 | _, _, _, _ => false

theorem memB_of {n : Nat} : ∀ {l : List Nat}, n ∈ l → memB n l = true
 | k :: l, h => by
  simp only [memB, Bool.or_eq_true]
  rcases List.mem_cons.1 h with rfl | h
  ·exact .inl (nbeq_self _)
  ·exact .inr (memB_of h)
theorem look_zip_at {α : Type} : ∀ {ns : List Nat} {l : List α} {i n : Nat} {x : α}, noDup ns = true → ns[i]? = some n → l[i]? = some x → look n (ns.zip l) = some x
 | [], l, i, n, x, _, h, _ => by simp at h
 | m :: ns, [], i, n, x, _, _, h => by simp at h
 | m :: ns, y :: l, 0, n, x, hd, h1, h2 => by simp at h1 h2; subst h1; subst h2; simp [look, nbeq_self]
 | m :: ns, y :: l, i + 1, n, x, hd, h1, h2 => by
  simp only [noDup, Bool.and_eq_true, Bool.not_eq_true'] at hd
  have h1' : ns[i]? = some n := by simpa using h1
  have hne : m ≠ n := fun e => by
   subst e
   rw [memB_of (List.mem_of_getElem? h1')] at hd; cases hd.1
  simp only [List.zip_cons_cons, look, nbeq_ne hne, cond_false]
  exact look_zip_at hd.2 h1' (by simpa using h2)
section
variable {P : Program} {Γ : Ctx} {E : Env} {N : Nat} {U : Nat → Prop} {ob : Nat → Value} {Z : Nat → Prop} {s : GS} {a : Act} {w : World}
def resRun (P : Program) (tmps : Array Value) (w : World) (r : ResultVar) (v : Value) : Prop :=
 Sem.run P (match r with
  | .tmp t => pure (tmps.getD t undef)
  | .cell a t => do loadVar t (← asAddr (tmps.getD a undef)) : Sem Value) w = .ok v w
theorem mapM_run {g : ResultVar → Sem Value} : ∀ {l : List ResultVar} {vs : List Value}, All2 (fun r v => (g r).run P w = .ok v w) l vs → (l.mapM g).run P w = .ok vs w
 | [], [], _ => by simp
 | r :: l, v :: vs, ⟨h1, h2⟩ => by
  rw [List.mapM_cons, Sem.run_bind, h1]
  simp only [Result.andThen_ok]
  rw [Sem.run_bind, mapM_run h2]
  simp
theorem results_run {fn : Func} {tmps : Array Value} {vs : List Value} (h : All2 (resRun P tmps w) fn.results.toList vs) : (results fn tmps).run P w = .ok (tupV vs) w := by
 have e : ∀ g : ResultVar → Sem Value, (∀ r v, resRun P tmps w r v → (g r).run P w = .ok v w) → (fn.results.toList.mapM g).run P w = .ok vs w := fun g hg => mapM_run (h.mono hg)
 unfold results
 rw [Sem.run_bind, Array.mapM_eq_mapM_toList, Sem.run_map, e]
 ·simp only [Result.andThen_ok, Sem.run_pure]
  match vs with
  | [] => rfl
  | [v] => rfl
  | v :: u :: l => simp [tupV]
 ·intro r v hr
  cases r <;> exact hr
theorem resKs_ok (hT : TysOk P Γ) : ∀ {rv : List ResultVar} {ns : List Nat} {bs : List Bool} {ks : List SK} {y : KsD ks}, resOk Γ.tys rv ns bs ks = true → All2 (VR w Z ob) (stKs id ks y) (ns.map fun n => a.tmps.getD n undef) → (∀ g ∈ stKs id ks y, g.ids U) →
  ∃ vs, All2 (resRun P a.tmps w) rv vs ∧ All2 (VR w Z ob) (stKs id (unfp bs ks) (unK bs ks y)) vs ∧ ∀ g ∈ stKs id (unfp bs ks) (unK bs ks y), g.ids U
 | [], [], [], [], y, _, _, _ => ⟨[], trivial, trivial, by simp [unfp, stKs]⟩
 | .tmp t :: rv, n :: ns, false :: bs, .val T :: ks, y, h, ⟨h1, h2⟩, hi => by
  simp only [resOk, Bool.and_eq_true] at h
  obtain ⟨vs, q1, q2, q3⟩ := resKs_ok hT h.2 h2 (fun g hg => hi g (by simp [stKs, hg]))
  have e := Nat.eq_of_beq_eq_true h.1
  subst e
  exact ⟨_ :: vs, ⟨by simp [resRun], q1⟩, ⟨h1, q2⟩, fun g hg => (List.mem_cons.1 hg).elim (fun e => e ▸ trivial) (q3 g)⟩
 | .tmp t :: rv, n :: ns, false :: bs, .fp T :: ks, y, h, ⟨h1, h2⟩, hi => by
  simp only [resOk, Bool.and_eq_true] at h
  obtain ⟨vs, q1, q2, q3⟩ := resKs_ok hT h.2 h2 (fun g hg => hi g (by simp [stKs, hg]))
  have e := Nat.eq_of_beq_eq_true h.1
  subst e
  exact ⟨_ :: vs, ⟨by simp [resRun], q1⟩, ⟨h1, q2⟩, fun g hg => (List.mem_cons.1 hg).elim (fun e => e ▸ trivial) (q3 g)⟩
 | .tmp t :: rv, n :: ns, false :: bs, .row k :: ks, y, h, ⟨h1, h2⟩, hi => by
  simp only [resOk, Bool.and_eq_true] at h
  obtain ⟨vs, q1, q2, q3⟩ := resKs_ok hT h.2 h2 (fun g hg => hi g (by simp [stKs, hg]))
  have e := Nat.eq_of_beq_eq_true h.1
  subst e
  exact ⟨_ :: vs, ⟨by simp [resRun], q1⟩, ⟨h1, q2⟩, fun g hg => (List.mem_cons.1 hg).elim (fun e => e ▸ hi _ (by simp [stKs])) (q3 g)⟩
 | .tmp t :: rv, n :: ns, false :: bs, .ref k T :: ks, y, h, ⟨h1, h2⟩, hi => by
  simp only [resOk, Bool.and_eq_true] at h
  obtain ⟨vs, q1, q2, q3⟩ := resKs_ok hT h.2 h2 (fun g hg => hi g (by simp [stKs, hg]))
  have e := Nat.eq_of_beq_eq_true h.1
  subst e
  exact ⟨_ :: vs, ⟨by simp [resRun], q1⟩, ⟨h1, q2⟩, fun g hg => (List.mem_cons.1 hg).elim (fun e => e ▸ hi _ (by simp [stKs])) (q3 g)⟩
 | .tmp t :: rv, n :: ns, false :: bs, .nilp :: ks, y, h, ⟨h1, h2⟩, hi => by
  simp only [resOk, Bool.and_eq_true] at h
  obtain ⟨vs, q1, q2, q3⟩ := resKs_ok hT h.2 h2 (fun g hg => hi g (by simp [stKs, hg]))
  have e := Nat.eq_of_beq_eq_true h.1
  subst e
  exact ⟨_ :: vs, ⟨by simp [resRun], q1⟩, ⟨h1, q2⟩, fun g hg => (List.mem_cons.1 hg).elim (fun e => e ▸ hi _ (by simp [stKs])) (q3 g)⟩
 | .tmp t :: rv, n :: ns, false :: bs, .clo f cs :: ks, y, h, ⟨h1, h2⟩, hi => by
  simp only [resOk, Bool.and_eq_true] at h
  obtain ⟨vs, q1, q2, q3⟩ := resKs_ok hT h.2 h2 (fun g hg => hi g (by simp [stKs, hg]))
  have e := Nat.eq_of_beq_eq_true h.1
  subst e
  exact ⟨_ :: vs, ⟨by simp [resRun], q1⟩, ⟨h1, q2⟩, fun g hg => (List.mem_cons.1 hg).elim (fun e => e ▸ hi _ (by simp [stKs])) (q3 g)⟩
 | .cell p ty :: rv, n :: ns, true :: bs, .fp T :: ks, y, h, ⟨h1, h2⟩, hi => by
  simp only [resOk, Bool.and_eq_true] at h
  obtain ⟨vs, q1, q2, q3⟩ := resKs_ok hT h.2 h2 (fun g hg => hi g (by simp [stKs, hg]))
  have e := Nat.eq_of_beq_eq_true h.1.1
  subst e
  have hl := h.1.2
  split at hl
  ·rename_i ti hti
   have e := Ty.same_eq hl
   obtain ⟨b, o, us, h3, h4, h5, h6, h7⟩ := h1
   refine ⟨pk T us :: vs, ⟨?_, q1⟩, ⟨⟨us, h6, rfl⟩, q2⟩, fun g hg => (List.mem_cons.1 hg).elim (fun e => e ▸ trivial) (q3 g)⟩
   have hld := run_loadDR (P := P) (e ▸ (hT ty ti hti).eok) h6 h7
   simp only [resRun]
   rw [show a.tmps.getD p undef = _ from h3]
   simpa [Instr.loadAt, Instr.sureAddr, asAddr] using hld
  ·cases hl
 | [], _ :: _, _, _, _, h, _, _ | [], [], _ :: _, _, _, h, _, _ | [], [], [], _ :: _, _, h, _, _ => by simp [resOk] at h
 | .tmp _ :: _, [], _, _, _, h, _, _ | .tmp _ :: _, _ :: _, [], _, _, h, _, _ | .tmp _ :: _, _ :: _, true :: _, _, _, h, _, _ | .tmp _ :: _, _ :: _, false :: _, [], _, h, _, _ => by simp [resOk] at h
 | .cell _ _ :: _, [], _, _, _, h, _, _ | .cell _ _ :: _, _ :: _, [], _, _, h, _, _ | .cell _ _ :: _, _ :: _, false :: _, _, _, h, _, _ | .cell _ _ :: _, _ :: _, true :: _, [], _, h, _, _ => by simp [resOk] at h
 | .cell _ _ :: _, _ :: _, true :: _, .val _ :: _, _, h, _, _ | .cell _ _ :: _, _ :: _, true :: _, .row _ :: _, _, h, _, _ | .cell _ _ :: _, _ :: _, true :: _, .ref _ _ :: _, _, h, _, _ | .cell _ _ :: _, _ :: _, true :: _, .nilp :: _, _, h, _, _ | .cell _ _ :: _, _ :: _, true :: _, .clo _ _ :: _, _, h, _, _ => by simp [resOk] at h
theorem RepAt.withSlots (h : RepAt E N U ob Z s a w) {N' : Nat} {sl : List (Nat × GV)} {a' : Act} (hd : a'.defers = []) (hs : a'.tmps.size = N') (hsl : ∀ n g, look n sl = some g → n < N' ∧ VR w Z ob g (a'.tmps.getD n undef) ∧ g.ids U) : RepAt E N' U ob Z { s with slots := sl } a' w where
 defers := hd
 size := hs
 kept := h.kept
 zlt := h.zlt
 z0 := h.z0
 slots := hsl
 objs := h.objs
 own := h.own
 apart := h.apart
 globs := h.globs
 pins := h.pins
theorem ctr_ok {np : Nat} {fn : FuncId} {g : Func} {b : Code} (hm : P.follows .mixedOrders = true) (hT : TysOk P Γ) (hC : CtrsOk P Γ) (hf : P.funcs[fn]? = some g) (hbody : g.body = some b) (hname : (g.name == "runtime.NumGoroutine") = false)
  (hN : g.ntmps = Γ.N) {ps rfit : Spec} {res : List Nat} {bs : List Bool} {F : ps.den → Option (rfit.un bs).den} (hps : Nat.ble ps.ks.length Γ.N = true) (hnp : Nat.ble np ps.os.length = true) (hd : noDup res = true) (hres : resOk Γ.tys g.results.toList res bs rfit.ks = true)
  (hB : ∀ E, Base P Γ E np → Blk P Γ E (List.range ps.ks.length) ps (flat b) F (retK np res bs rfit)) : Ctr.okx Γ.ifs.exc P Γ.globs fn ⟨ps, rfit.un bs, np, F⟩ where
 body := ⟨g, hf, by rw [hbody]; rfl, hname⟩
 call := by
  intro E ob Z args x y hEx hglobs hpins hlen hrep hF
  simp only at hpins hlen hrep hF x y
  refine calls_of_wp hf hbody (flat_wp ?_)
  have hNle := Nat.le_of_ble_eq_true hps
  have hpin : ∀ p ∈ E.pins, p.1 < np := by
   intro p hp
   rw [hpins] at hp
   obtain ⟨k, hk, rfl⟩ := List.mem_map.1 hp
   simpa using hk
  have hbase : Base P Γ E np := ⟨hm, hT, hC, hglobs, hpin⟩
  have hsize : (args.toArray ++ Array.replicate (g.ntmps - args.toArray.size) undef).size = Γ.N := by simp; omega
  refine hB E hbase x y _ hF ⟨?_, hEx, fun v a w hv hd hk => ⟨hd, .inr ⟨v, hEx ▸ hv, rfl, hk⟩⟩⟩ _ E.w0 ⟨_, ob, Z, RepAt.withSlots hrep rfl hsize (fun n gv hl => ?_), fun j hj => hj⟩
  ·intro e s a w hrep hk
   have key : ∀ {s : GS}, RepOk E Γ.N s a w → ((fit np res rfit s).map fun y => ((unK bs rfit.ks y.1, y.2) : (rfit.un bs).den)) = some y → a.defers = [] ∧ ∃ v, (results g a.tmps).run P w = .ok v w ∧ ∃ vs ob' Z', Ending.returned v = .returned (tupV vs) ∧ vs.length = (rfit.un bs).ks.length ∧
     RepAt E vs.length (fun k => k < (rfit.un bs).os.length) ob' Z' ((rfit.un bs).st (List.range (rfit.un bs).ks.length) y) ⟨vs.toArray, []⟩ w := by
    intro s hrep hk
    obtain ⟨y0, h1, h2⟩ := Option.map_eq_some_iff.1 hk
    subst h2
    obtain ⟨U, ob', Z', h3, h4⟩ := fit_ok hpin hrep h1
    have hks : rfit.ks.length = res.length := by
     have : ∀ {rv : List ResultVar} {ns : List Nat} {bs : List Bool} {ks : List SK}, resOk Γ.tys rv ns bs ks = true → ks.length = ns.length := by
      intro rv
      induction rv with
      | nil => intro ns bs ks h; cases ns <;> cases bs <;> cases ks <;> simp_all [resOk]
      | cons r rv ih =>
       intro ns bs ks h
       cases r <;> cases ns <;> (try (simp [resOk] at h; done)) <;> rcases bs with _ | ⟨_ | _, bs⟩ <;> (try (simp [resOk] at h; done)) <;> rcases ks with _ | ⟨k, ks⟩ <;> (try (simp [resOk] at h; done)) <;> (try cases k) <;> simp only [resOk, Bool.and_eq_true] at h <;> (try (cases h; done)) <;> simp [ih h.2]
     exact this hres
    have hall : All2 (VR w Z' ob') (stKs id rfit.ks y0.1) (res.map fun n => a.tmps.getD n undef) := by
     refine All2.ofGet (by rw [stKs_len, hks, List.length_map]) fun i gv u hi hu => ?_
     rw [List.getElem?_map] at hu
     obtain ⟨n, hn, hu⟩ := Option.map_eq_some_iff.1 hu
     subst hu
     exact (h3.slots n gv (look_zip_at hd hn hi)).2.1
    have hids : ∀ gv ∈ stKs id rfit.ks y0.1, gv.ids U := by
     intro gv hgv
     obtain ⟨i, hi⟩ := List.mem_iff_getElem?.1 hgv
     have hlt := (List.getElem?_eq_some_iff.1 hi).1
     rw [stKs_len, hks] at hlt
     exact (h3.slots _ gv (look_zip_at hd (List.getElem?_eq_getElem hlt) hi)).2.2
    obtain ⟨vs, q1, q2, q3⟩ := resKs_ok (P := P) hT hres hall hids
    refine ⟨h3.defers, _, results_run q1, vs, ob', Z', rfl, ?_, ?_⟩
    ·rw [← q2.length, stKs_len]; rfl
    ·refine RepAt.withSlots (h3.mono fun j hj => h4 j hj) rfl (by simp) (fun n gv hl => ?_)
     obtain ⟨i, e1, e2⟩ := look_zip hl
     obtain ⟨u, e3, e4⟩ := q2.at_ e2
     have hin : i = n := by
      obtain ⟨hi, e⟩ := List.getElem?_eq_some_iff.1 e1
      simpa using e
     subst hin
     refine ⟨(List.getElem?_eq_some_iff.1 e3).1, by simpa [e3] using e4, (q3 gv (List.mem_of_getElem? e2)).mono fun j hj => h4 j hj⟩
   cases e with
   | normal => obtain ⟨k1, v, k2, k3⟩ := key hrep hk; exact ⟨k1, v, k2, .inl k3⟩
   | exit j => cases hk
   | ret => obtain ⟨k1, v, k2, k3⟩ := key hrep hk; exact ⟨k1, v, k2, .inl k3⟩
  ·obtain ⟨q1, q2, q3⟩ := hrep.slots n gv hl
   refine ⟨by omega, ?_, q3⟩
   have : (args.toArray ++ Array.replicate (g.ntmps - args.toArray.size) undef).getD n undef = args.toArray.getD n undef := by
    have h1 : n < args.toArray.size := by simpa using q1
    simp [Array.getElem?_append_left h1]
   rw [this]; exact q2
end
end Go.Proofs.YtehbbcdhahnkgaaGreat
