/- The ghost machine: two activations at one time (a range over a function). -/
import Derived.Test.YtajpblfinenmjaaDoorGmIn
set_option linter.unusedVariables false
set_option linter.unusedSimpArgs false
namespace Go.Proofs.YtajpblfinenmjaaDoor
open Go
/-- The blocks of a state's own objects. -/
def ownB (s : GS) (ob : Nat → Value) (b : Nat) : Prop := ∃ i o, look i s.objs = some o ∧ o.own = true ∧ blk (ob i) = some b
/-- The activation from this world on. -/
def Env.sub (E : Env) (s : GS) (ob : Nat → Value) (Z : Nat → Prop) (w : World) (ps : List (Nat × Value)) : Env := ⟨w, ownB s ob, Z, ps, E.globs⟩
section
variable {P : Program} {Γ : Ctx} {E : Env} {N N' n : Nat} {ro : Option Nat} {U U' : Nat → Prop} {ob ob' : Nat → Value} {Z Z' : Nat → Prop} {s s' : GS} {a a' : Act} {w w' : World} {ps : List (Nat × Value)} {ds : List Deferred}
theorem RepAt.sub (h : RepAt E N U ob Z s a w) (hps : ∀ p ∈ ps, ob p.1 = p.2 ∧ U p.1) : RepAt (E.sub s ob Z w ps) N U ob Z s a w where
  defers := h.defers
  size := h.size
  kept := Kept.refl _ _
  zlt := h.zlt
  z0 := fun b hb _ => .inl hb
  slots := h.slots
  objs := h.objs
  own := fun i o hl ho b hb => ⟨(h.own i o hl ho b hb).1, .inl ⟨i, o, hl, ho, hb⟩⟩
  apart := h.apart
  globs := h.globs
  pins := hps
theorem ownB_env (h : RepAt E N U ob Z s a w) {b : Nat} (hb : ownB s ob b) : E.M b ∨ E.w0.heap.size ≤ b := by
  obtain ⟨i, o, h1, h2, h3⟩ := hb
  exact (h.own i o h1 h2 b h3).2
theorem ownB_lt (h : RepAt E N U ob Z s a w) {b : Nat} (hb : ownB s ob b) : b < w.heap.size := by
  obtain ⟨i, o, h1, h2, h3⟩ := hb
  exact (h.objs i o h1).2.1.block_lt b h3
theorem ownB_Z (h : RepAt E N U ob Z s a w) {b : Nat} (hb : ownB s ob b) : ¬ Z b := by
  obtain ⟨i, o, h1, h2, h3⟩ := hb
  exact (h.own i o h1 h2 b h3).1
theorem obj_block (h : RepAt E N U ob Z s a w) {i : Nat} {o : Ob} (hl : look i s.objs = some o) {b : Nat} (hb : blk (ob i) = some b) : ownB s ob b ∨ Z b := by
  cases ho : o.own with
  | true => exact .inl ⟨i, o, hl, ho, hb⟩
  | false => exact .inr ((h.objs i o hl).2.1.block_Z ho b hb)
theorem RepAt.back (h : RepAt E N U ob Z s a w) (h' : RepAt (E.sub s ob Z w ps) N' U' ob' Z' s' a' w') (hps : ∀ p ∈ E.pins, p ∈ ps) : RepAt E N' U' ob' Z' s' a' w' where
  defers := h'.defers
  size := h'.size
  kept := h.kept.trans h'.kept fun b hb => ownB_env h hb
  zlt := h'.zlt
  z0 := fun b hb hl => by
    rcases h'.z0 b hb (Nat.lt_of_lt_of_le hl h.kept.size) with hz | hm
    · exact h.z0 b hz hl
    · rcases ownB_env h hm with q | q
      · exact .inr q
      · omega
  slots := h'.slots
  objs := h'.objs
  own := fun i o hl ho b hb => ⟨(h'.own i o hl ho b hb).1, by
    rcases (h'.own i o hl ho b hb).2 with q | q
    · exact ownB_env h q
    · exact .inr (Nat.le_trans h.kept.size q)⟩
  apart := h'.apart
  globs := h'.globs
  pins := fun p hp => h'.pins p (hps p hp)
/-- Where code leads that runs from a world on: what it has changed, what it owns and holds for frozen. -/
structure Ran (E : Env) (N : Nat) (ps : List (Nat × Value)) (s0 : GS) (ob0 : Nat → Value) (Z0 : Nat → Prop) (w0 : World) (s : GS) (a : Act) (w : World) : Prop where
  rep : ∃ U ob Z, RepAt E N U ob Z s a w ∧ (∀ j, U j → j < s.next) ∧ (∀ p ∈ ps, ob p.1 = p.2 ∧ U p.1) ∧ (∀ b, ownB s ob b → ownB s0 ob0 b ∨ w0.heap.size ≤ b) ∧ (∀ b, Z b → b < w0.heap.size → Z0 b ∨ ownB s0 ob0 b)
  kept : Kept (ownB s0 ob0) w0 w
theorem ran_of (h : RepAt E N U ob Z s a w) (hps : ∀ p ∈ E.pins, p ∈ ps) (h' : RepOk (E.sub s ob Z w ps) N' s' a' w') : Ran E N' ps s ob Z w s' a' w' := by
  obtain ⟨U', ob', Z', q, hU⟩ := h'
  refine ⟨⟨U', ob', Z', h.back q hps, hU, q.pins, fun b ⟨i, o, h1, h2, h3⟩ => (q.own i o h1 h2 b h3).2, fun b hb hl => q.z0 b hb hl⟩, q.kept⟩
theorem run_code {R : Type} {r : R} (hm : P.follows .mixedOrders = true) (hT : TysOk P Γ) (hC : CtrsOk P Γ) (hg : E.globs = Γ.globs) {c : Code} {Q : Exit → Act → World → Prop} {K : XE → GS → Option R} (hp : plainC c = true)
    (h : RepAt E Γ.N U ob Z s a w) (hU : ∀ j, U j → j < s.next) (hps : ∀ p ∈ ps, ob p.1 = p.2 ∧ U p.1) (hE : ∀ p ∈ E.pins, p ∈ ps) (hr : codeK Γ c s K = some r)
    (hK : ∀ e s' a' w', Ran E Γ.N ps s ob Z w s' a' w' → K e s' = some r → Q e.out (T ds a') w') : c.wpIn (FR ro) n P Q (T ds a) w :=
  codeK_in (E := E.sub s ob Z w ps) hm hT hC hg hp ⟨U, ob, Z, h.sub hps, hU⟩ hr fun e s' a' w' q hk => hK e s' a' w' (ran_of h hE q) hk
theorem run_list {R : Type} {r : R} (hm : P.follows .mixedOrders = true) (hT : TysOk P Γ) (hC : CtrsOk P Γ) (hg : E.globs = Γ.globs) {l : List Code} {Q : Exit → Act → World → Prop} {K : XE → GS → Option R} (hp : l.all plainC = true)
    (h : RepAt E Γ.N U ob Z s a w) (hU : ∀ j, U j → j < s.next) (hps : ∀ p ∈ ps, ob p.1 = p.2 ∧ U p.1) (hE : ∀ p ∈ E.pins, p ∈ ps) (hr : listK Γ l s K = some r)
    (hK : ∀ e s' a' w', Ran E Γ.N ps s ob Z w s' a' w' → K e s' = some r → Q e.out (T ds a') w') : listWpIn (FR ro) n P l Q (T ds a) w :=
  listK_in (E := E.sub s ob Z w ps) hm hT hC hg hp ⟨U, ob, Z, h.sub hps, hU⟩ hr fun e s' a' w' q hk => hK e s' a' w' (ran_of h hE q) hk
/-- Some operations at the head of a region. -/
theorem step_in (hm : P.follows .mixedOrders = true) (hT : TysOk P Γ) (hC : CtrsOk P Γ) (hg : E.globs = Γ.globs) {ops : Array Oper} {o : Oper} {i : Nat} {rest : List Nat} {Q : Exit → Act → World → Prop} {ws : List Wr} {fresh : Nat} (ho : ops[i]? = some o) (hgd : o.guard = none) (hp : plainOp o = true)
    (h : RepAt E Γ.N U ob Z s a w) (hf : ∀ j, fresh ≤ j → j < fresh + 4 → ¬ U j) (hps : ∀ p ∈ ps, ob p.1 = p.2 ∧ U p.1) (hE : ∀ p ∈ E.pins, p ∈ ps) (hr : (evalOp Γ fresh o).run s = some ws)
    (hK : ∀ U' ob' Z' a' w', RepAt E Γ.N U' ob' Z' (s.app ws) a' w' → (∀ j, U' j → U j ∨ (fresh ≤ j ∧ j < fresh + 4)) → (∀ p ∈ ps, ob' p.1 = p.2 ∧ U' p.1) → Kept (ownB s ob) w w' → (∀ b, ownB (s.app ws) ob' b → ownB s ob b ∨ w.heap.size ≤ b) → (∀ b, Z' b → b < w.heap.size → Z b ∨ ownB s ob b) → wpOpsIn (FR ro) n P ops Q rest (T ds a') w') :
    wpOpsIn (FR ro) n P ops Q (i :: rest) (T ds a) w := by
  rw [wpOpsIn_cons]
  unfold wpOpIn
  simp only [ho]
  rw [if_pos (by simp [Region.wanted, hgd])]
  have hop := evalOp_ok (Q := fun _ _ _ => False) (E := E.sub s ob Z w ps) hT hC (h.sub hps) hg hf hr
  refine op_lift (Q := fun _ _ _ => False) hp ?_ ⟨fun _ _ _ h => h.elim, fun _ _ _ h => h, fun _ _ h => h⟩ ?_ hop
  · rintro a' w' ⟨ob', Z', q⟩; exact q.defers
  · rintro a' w' ⟨ob', Z', q⟩
    exact hK _ ob' Z' a' w' (h.back q hE) (fun j hj => hj) q.pins q.kept (fun b ⟨i, o, h1, h2, h3⟩ => (q.own i o h1 h2 b h3).2) (fun b hb hl => q.z0 b hb hl)
/-- The rest of a region in a fixed order. -/
theorem region_rest {R : Type} {r : R} (hT : TysOk P Γ) (hC : CtrsOk P Γ) (hg : E.globs = Γ.globs) {ops : Array Oper} {l : List Oper} {i B : Nat} {Q : Exit → Act → World → Prop} {K : GS → Option R} (hp : ∀ o ∈ ops.toList, plainOp o = true)
    (hle : i ≤ ops.size) (hl : ops.toList.drop i = l) (h : RepAt E Γ.N U ob Z s a w) (hU : ∀ j, U j → j < B + 4 * i) (hn : s.next = B + 4 * ops.size) (hps : ∀ p ∈ ps, ob p.1 = p.2 ∧ U p.1) (hE : ∀ p ∈ E.pins, p ∈ ps) (hr : regK Γ ops.toList B l i s K = some r)
    (hK : ∀ s' a' w', Ran E Γ.N ps s ob Z w s' a' w' → K s' = some r → Q .normal (T ds a') w') : wpOpsIn (FR ro) n P ops Q (List.range' i l.length) (T ds a) w := by
  refine wpOps_lift (Q := fun e a' w' => e = .normal ∧ a'.defers = [] ∧ ∃ s', Ran E Γ.N ps s ob Z w s' a' w' ∧ K s' = some r) hp ⟨fun _ _ _ h => h.2.1, fun c a w ⟨h, _⟩ => (by cases h), fun a w ⟨h, _⟩ => (by cases h)⟩ (fun a' w' ⟨_, _, s', q, hk⟩ => hK s' a' w' q hk) ?_
  exact regK_ok (E := E.sub s ob Z w ps) hT hC hg (fun s' a' w' q hk => ⟨rfl, q.defers, s', ran_of h hE q, hk⟩) hle hl (h.sub hps) hU hn hr
/-- A world that others have changed. -/
theorem RepAt.other (h : RepAt E N U ob Z s a w) {M : Nat → Prop} (hk : Kept M w w') (hE : ∀ b, M b → E.M b ∨ E.w0.heap.size ≤ b) (ho : ∀ b, ownB s ob b → ¬ M b) (hz : ∀ b, Z b → ¬ M b) : RepAt E N U ob Z s a w' :=
  h.world hk hz hE fun i o hl b hb => (obj_block h hl hb).elim (ho b) (hz b)
theorem Kept.put {w : World} {b : Nat} {o : Obj} : Kept (fun k => k = b) w (w.putObj b o) := ⟨rfl, rfl, rfl, by simp, fun k _ hn => World.putObj_heap_other hn⟩
theorem Kept.weak {M M' : Nat → Prop} (h : Kept M w w') (hm : ∀ b, M b → M' b) : Kept M' w w' := ⟨h.os, h.tape, h.output, h.size, fun k hk hn => h.block k hk fun e => hn (hm k e)⟩
/-- The results of a function are read as the contract says. -/
theorem ret_ok {np : Nat} {g : Func} (hT : TysOk P Γ) {rfit : Spec} {res : List Nat} {bs : List Bool} (hd : noDup res = true) (hres : resOk Γ.tys g.results.toList res bs rfit.ks = true) (hpin : ∀ p ∈ E.pins, p.1 < np) {y : (rfit.un bs).den}
    (hrep : RepOk E Γ.N s a w) (hk : ((fit np res rfit s).map fun y => ((unK bs rfit.ks y.1, y.2) : (rfit.un bs).den)) = some y) : ∃ v, (results g a.tmps).run P w = .ok v w ∧ ∃ vs ob' Z', Ending.returned v = .returned (tupV vs) ∧ vs.length = (rfit.un bs).ks.length ∧
      RepAt E vs.length (fun k => k < (rfit.un bs).os.length) ob' Z' ((rfit.un bs).st (List.range (rfit.un bs).ks.length) y) ⟨vs.toArray, []⟩ w := by
  obtain ⟨y0, h1, h2⟩ := Option.map_eq_some_iff.1 hk
  subst h2
  obtain ⟨U, ob', Z', h3, h4⟩ := fit_ok hpin hrep h1
  have hks : rfit.ks.length = res.length := by
    have : ∀ {rv : List ResultVar} {ns : List Nat} {bs : List Bool} {ks : List SK}, resOk Γ.tys rv ns bs ks = true → ks.length = ns.length := by
      intro rv
      induction rv with
      | nil => intro ns bs ks h; cases ns <;> cases bs <;> cases ks <;> simp_all [resOk]
      | cons r rv ih =>
        intro ns bs ks h
        cases r <;> cases ns <;> (try (simp [resOk] at h; done)) <;> rcases bs with _ | ⟨_ | _, bs⟩ <;> (try (simp [resOk] at h; done)) <;> rcases ks with _ | ⟨k, ks⟩ <;> (try (simp [resOk] at h; done)) <;> (try cases k) <;> simp only [resOk, Bool.and_eq_true] at h <;> (try (cases h; done)) <;> simp [ih h.2]
    exact this hres
  have hall : All2 (VR w Z' ob') (stKs id rfit.ks y0.1) (res.map fun n => a.tmps.getD n undef) := by
    refine All2.ofGet (by rw [stKs_len, hks, List.length_map]) fun i gv u hi hu => ?_
    rw [List.getElem?_map] at hu
    obtain ⟨n, hn, hu⟩ := Option.map_eq_some_iff.1 hu
    subst hu
    exact (h3.slots n gv (look_zip_at hd hn hi)).2.1
  have hids : ∀ gv ∈ stKs id rfit.ks y0.1, gv.ids U := by
    intro gv hgv
    obtain ⟨i, hi⟩ := List.mem_iff_getElem?.1 hgv
    have hlt := (List.getElem?_eq_some_iff.1 hi).1
    rw [stKs_len, hks] at hlt
    exact (h3.slots _ gv (look_zip_at hd (List.getElem?_eq_getElem hlt) hi)).2.2
  obtain ⟨vs, q1, q2, q3⟩ := resKs_ok (P := P) hT hres hall hids
  refine ⟨_, results_run q1, vs, ob', Z', rfl, ?_, ?_⟩
  · rw [← q2.length, stKs_len]; rfl
  · refine RepAt.withSlots (h3.mono fun j hj => h4 j hj) rfl (by simp) (fun n gv hl => ?_)
    obtain ⟨i, e1, e2⟩ := look_zip hl
    obtain ⟨u, e3, e4⟩ := q2.at_ e2
    have hin : i = n := by
      obtain ⟨hi, e⟩ := List.getElem?_eq_some_iff.1 e1
      simpa using e
    subst hin
    refine ⟨(List.getElem?_eq_some_iff.1 e3).1, by simpa [e3] using e4, (q3 gv (List.mem_of_getElem? e2)).mono fun j hj => h4 j hj⟩
end
theorem cell_lt {w : World} {a : Addr} {v : Value} (h : w.cell? a = some v) : a.block < w.heap.size := by
  rcases Nat.lt_or_ge a.block w.heap.size with hl | hl
  · exact hl
  · have : w.heap[a.block]? = none := Array.getElem?_eq_none hl
    simp [World.cell?, this] at h
theorem cell_keep {w w' : World} {a : Addr} {v : Value} (hk : ∀ k, k < w.heap.size → w'.heap[k]? = w.heap[k]?) (h : w.cell? a = some v) : w'.cell? a = some v := by
  have := hk _ (cell_lt h)
  simp only [World.cell?, this]
  exact h
theorem cell_at {w : World} {b k : Nat} {cur : Array Value} {e : Nat} {v : Value} (hb : w.heap[b]? = some (.cells cur e (0, 0))) (hv : cur.toList[k]? = some v) : w.cell? ⟨b, k, none⟩ = some v := by
  have : cur[k]? = some v := by rw [← Array.getElem?_toList]; exact hv
  simp [World.cell?, hb, this]
end Go.Proofs.YtajpblfinenmjaaDoor
