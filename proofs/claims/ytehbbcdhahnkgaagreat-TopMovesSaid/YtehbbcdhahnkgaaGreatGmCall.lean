/- The ghost machine and the machine: calls by contract. -/
import Derived.Test.YtehbbcdhahnkgaaGreatGmFit
import Derived.Tactics
set_option linter.unusedVariables false
set_option linter.unusedSimpArgs false
namespace Go.Proofs.YtehbbcdhahnkgaaGreat
open Go

theorem All2.ofGet {α β : Type} {R : α → β → Prop} : ∀ {as : List α} {bs : List β}, as.length = bs.length → (∀ (i : Nat) a b, as[i]? = some a → bs[i]? = some b → R a b) → All2 R as bs
 | [], [], _, _ => trivial
 | [], _ :: _, h, _ => by simp at h
 | _ :: _, [], h, _ => by simp at h
 | a :: as, b :: bs, h, hr => ⟨hr 0 a b rfl rfl, All2.ofGet (by simpa using h) fun i x y h1 h2 => hr (i + 1) x y (by simpa using h1) (by simpa using h2)⟩
theorem look_number_at {α : Type} : ∀ {l : List α} {n i : Nat} {x : α}, l[i]? = some x → look (n + i) (number n l) = some x
 | [], n, i, x, h => by simp at h
 | y :: l, n, 0, x, h => by simp at h; subst h; simp [number, look, nbeq_self]
 | y :: l, n, i + 1, x, h => by
  simp only [number, look]
  rw [nbeq_ne (by omega : n ≠ n + (i + 1)), cond_false, show n + (i + 1) = n + 1 + i by omega]
  exact look_number_at (by simpa using h)
theorem zip_range' {α : Type} : ∀ (l : List α) (n : Nat), (List.range' n l.length).zip l = number n l
 | [], n => by simp [number]
 | x :: l, n => by simp only [List.length_cons, List.range'_succ, List.zip_cons_cons, number]; rw [zip_range' l (n + 1)]
theorem stKs_len (m : Nat → Nat) : ∀ {ks : List SK} {y : KsD ks}, (stKs m ks y).length = ks.length
 | [], _ => rfl
 | .val t :: l, y => by simp [stKs, stKs_len m]
 | .fp t :: l, y => by simp [stKs, stKs_len m]
 | .row k :: l, y => by simp [stKs, stKs_len m]
 | .ref k T :: l, y => by simp [stKs, stKs_len m]
 | .nilp :: l, y => by simp [stKs, stKs_len m]
 | .clo f cs :: l, y => by simp [stKs, stKs_len m]
theorem slots_range {c : Spec} {y : c.den} {i : Nat} {g : GV} (h : (stKs id c.ks y.1)[i]? = some g) : look i (c.st (List.range c.ks.length) y).slots = some g := by
 simp only [Spec.st]
 have hz := zip_range' (stKs id c.ks y.1) 0
 rw [stKs_len] at hz
 rw [List.range_eq_range', hz]
 have := look_number_at (n := 0) h
 rwa [Nat.zero_add] at this

def tupV (vs : List Value) : Value := match vs with
 | [v] => v
 | vs => .tuple vs.toArray
structure Ctr.ok (P : Program) (globs : List (Nat × Dt)) (fn : FuncId) (c : Ctr) : Prop where
 body : ∃ g, P.funcs[fn]? = some g ∧ g.body.isNone = false ∧ (g.name == "runtime.NumGoroutine") = false
 call : ∀ (E : Env) (ob : Nat → Value) (Z : Nat → Prop) (args : List Value) (x : c.ps.den) (y : c.rs.den),
  E.globs = globs → E.pins = (List.range c.np).map (fun k => (k, ob k)) → args.length = c.ps.ks.length →
  RepAt E args.length (fun k => k < c.ps.os.length) ob Z (c.ps.st (List.range c.ps.ks.length) x) ⟨args.toArray, []⟩ E.w0 →
  c.F x = some y →
  Calls P fn args.toArray E.w0 fun e w' => ∃ vs ob' Z', e = .returned (tupV vs) ∧ vs.length = c.rs.ks.length ∧
   RepAt E vs.length (fun k => k < c.rs.os.length) ob' Z' (c.rs.st (List.range c.rs.ks.length) y) ⟨vs.toArray, []⟩ w'

structure Ctr.okx (x : Option Value) (P : Program) (globs : List (Nat × Dt)) (fn : FuncId) (c : Ctr) : Prop where
 body : ∃ g, P.funcs[fn]? = some g ∧ g.body.isNone = false ∧ (g.name == "runtime.NumGoroutine") = false
 call : ∀ (E : Env) (ob : Nat → Value) (Z : Nat → Prop) (args : List Value) (z : c.ps.den) (y : c.rs.den),
  E.x = x → E.globs = globs → E.pins = (List.range c.np).map (fun k => (k, ob k)) → args.length = c.ps.ks.length →
  RepAt E args.length (fun k => k < c.ps.os.length) ob Z (c.ps.st (List.range c.ps.ks.length) z) ⟨args.toArray, []⟩ E.w0 →
  c.F z = some y →
  Calls P fn args.toArray E.w0 fun e w' => (∃ vs ob' Z', e = .returned (tupV vs) ∧ vs.length = c.rs.ks.length ∧
   RepAt E vs.length (fun k => k < c.rs.os.length) ob' Z' (c.rs.st (List.range c.rs.ks.length) y) ⟨vs.toArray, []⟩ w') ∨
   ∃ v, x = some v ∧ e = .panicked [{ v := v, recovered := false }] ∧ Kept E.M E.w0 w'
theorem Ctr.ok.okx {x : Option Value} {P : Program} {globs : List (Nat × Dt)} {fn : FuncId} {c : Ctr} (h : c.ok P globs fn) : c.okx x P globs fn where
 body := h.body
 call := fun E ob Z args z y _ hg hp hl hr hF => (h.call E ob Z args z y hg hp hl hr hF).mono fun _ _ q => .inl q
theorem Ctr.okx.strict {P : Program} {globs : List (Nat × Dt)} {fn : FuncId} {c : Ctr} (h : c.okx none P globs fn) : c.ok P globs fn where
 body := h.body
 call := fun E ob Z args z y hg hp hl hr hF => by
  have hr' : RepAt { E with x := none } args.length (fun k => k < c.ps.os.length) ob Z (c.ps.st (List.range c.ps.ks.length) z) ⟨args.toArray, []⟩ E.w0 := ⟨hr.defers, hr.size, hr.kept, hr.zlt, hr.z0, hr.slots, hr.objs, hr.own, hr.apart, hr.globs, hr.pins⟩
  refine (h.call { E with x := none } ob Z args z y rfl hg hp hl hr' hF).mono fun e w' q => ?_
  rcases q with ⟨vs, ob', Z', q1, q2, q3⟩ | ⟨v, q1, _⟩
  ·exact ⟨vs, ob', Z', q1, q2, ⟨q3.defers, q3.size, q3.kept, q3.zlt, q3.z0, q3.slots, q3.objs, q3.own, q3.apart, q3.globs, q3.pins⟩⟩
  ·cases q1
def PX (E : Env) (Γ : Ctx) (Q : Exit → Act → World → Prop) : Prop := E.x = Γ.ifs.exc ∧ ∀ v a w, E.x = some v → a.defers = [] → Kept E.M E.w0 w → Q (.panic [{ v := v, recovered := false }]) a w

section
variable {w : World} {Z Z' : Nat → Prop} {ob ob' : Nat → Value} {m : Nat → Nat} {n : Nat} {U : Nat → Prop}
def SK.moved (w : World) (Z Z' : Nat → Prop) : SK → Prop
 | .val t => ∀ x vs, DR w Z t x vs → DR w Z' t x vs
 | .fp t => (∀ x vs, DR w Z t x vs → DR w Z' t x vs) ∧ ∀ b, Z b → Z' b
 | _ => True
def OK.moved (w : World) (Z Z' : Nat → Prop) : OK → Prop
 | .row _ t | .box _ t | .vbox _ (.val t) => ∀ x vs, DR w Z t x vs → DR w Z' t x vs
 | .sval _ T _ t => (∀ x vs, DR w Z T x vs → DR w Z' T x vs) ∧ ∀ x vs, DR w Z t x vs → DR w Z' t x vs
 | .srow _ T _ _ => ∀ x vs, DR w Z T x vs → DR w Z' T x vs
 | _ => True
theorem stKs_moved (hm : ∀ k, k < n → ob' (m k) = ob k) (hU : ∀ k, k < n → U (m k)) : ∀ {ks : List SK} {y : KsD ks} {us : List Value}, (∀ k ∈ ks, k.plain = true) → (∀ k ∈ ks, k.moved w Z Z') →
  All2 (VR w Z ob) (stKs id ks y) us → (∀ g ∈ stKs id ks y, g.ids (fun k => k < n)) →
  All2 (SR w Z' ob') ((stKs m ks y).flatMap GV.svs) us ∧ ∀ v ∈ (stKs m ks y).flatMap GV.svs, v.ids U
 | [], _, [], _, _, _, _ => ⟨trivial, by simp [stKs]⟩
 | .val t :: ks, y, u :: us, hp, hq, ⟨h1, h2⟩, hi => by
  obtain ⟨q1, q2⟩ := stKs_moved hm hU (fun k hk => hp k (by simp [hk])) (fun k hk => hq k (by simp [hk])) h2 (fun g hg => hi g (by simp [stKs, hg]))
  obtain ⟨vs, h3, h4⟩ := h1
  refine ⟨⟨⟨vs, (hq (.val t) (by simp)) _ _ h3, h4⟩, q1⟩, fun v hv => ?_⟩
  rcases List.mem_cons.1 (show v ∈ _ :: (stKs m ks _).flatMap GV.svs from hv) with rfl | hv
  ·trivial
  ·exact q2 v hv
 | .fp t :: ks, y, u :: us, hp, hq, ⟨h1, h2⟩, hi => by
  obtain ⟨q1, q2⟩ := stKs_moved hm hU (fun k hk => hp k (by simp [hk])) (fun k hk => hq k (by simp [hk])) h2 (fun g hg => hi g (by simp [stKs, hg]))
  obtain ⟨b, o, vs, h3, h4, h5, h6, h7⟩ := h1
  have hk := hq (.fp t) (by simp)
  refine ⟨⟨⟨b, o, vs, h3, hk.2 b h4, h5, hk.1 _ _ h6, h7⟩, q1⟩, fun v hv => ?_⟩
  rcases List.mem_cons.1 (show v ∈ _ :: (stKs m ks _).flatMap GV.svs from hv) with rfl | hv
  ·trivial
  ·exact q2 v hv
 | .row k :: ks, y, u :: us, hp, hq, ⟨h1, h2⟩, hi => by
  obtain ⟨q1, q2⟩ := stKs_moved hm hU (fun k hk => hp k (by simp [hk])) (fun k hk => hq k (by simp [hk])) h2 (fun g hg => hi g (by simp [stKs, hg]))
  have hk : k < n := hi (.sv (.row k)) (by simp [stKs])
  refine ⟨⟨?_, q1⟩, fun v hv => ?_⟩
  ·show u = ob' (m k); rw [hm k hk]; exact h1
  rcases List.mem_cons.1 (show v ∈ _ :: (stKs m ks _).flatMap GV.svs from hv) with rfl | hv
  ·exact hU k hk
  ·exact q2 v hv
 | .ref k T :: ks, y, u :: us, hp, hq, ⟨h1, h2⟩, hi => by
  obtain ⟨q1, q2⟩ := stKs_moved hm hU (fun k hk => hp k (by simp [hk])) (fun k hk => hq k (by simp [hk])) h2 (fun g hg => hi g (by simp [stKs, hg]))
  have hk : k < n := hi (.sv (.ref k T [])) (by simp [stKs])
  obtain ⟨g, h3, h4, h5⟩ := h1
  refine ⟨⟨⟨g, by rw [hm k hk]; exact h3, h4, by rw [hm k hk]; exact h5⟩, q1⟩, fun v hv => ?_⟩
  rcases List.mem_cons.1 (show v ∈ _ :: (stKs m ks _).flatMap GV.svs from hv) with rfl | hv
  ·exact hU k hk
  ·exact q2 v hv
 | .nilp :: ks, y, u :: us, hp, hq, ⟨h1, h2⟩, hi => by
  obtain ⟨q1, q2⟩ := stKs_moved hm hU (fun k hk => hp k (by simp [hk])) (fun k hk => hq k (by simp [hk])) h2 (fun g hg => hi g (by simp [stKs, hg]))
  refine ⟨⟨h1, q1⟩, fun v hv => ?_⟩
  rcases List.mem_cons.1 (show v ∈ _ :: (stKs m ks _).flatMap GV.svs from hv) with rfl | hv
  ·trivial
  ·exact q2 v hv
 | .clo f cs :: ks, _, _, hp, _, _, _ => by have := hp (.clo f cs) (by simp); simp [SK.plain] at this

theorem stOs_moved (hm : ∀ k, k < n → ob' (m k) = ob k) (hU : ∀ k, k < n → U (m k)) : ∀ {os : List (OK × Bd)} {y : OsD os}, (∀ k ∈ os, k.1.moved w Z Z') → ∀ (i : Nat) (o' : Ob), (stOs m os y)[i]? = some o' →
  ∃ o, (stOs id os y)[i]? = some o ∧ o'.own = true ∧ ∀ j, j < n → OR w Z ob j o → o.ids (fun k => k < n) → OR w Z' ob' (m j) o' ∧ o'.ids U
 | [], _, _, i, o', h => by simp [stOs] at h
 | (.row e t, bd) :: os, y, hq, i, o', h => by
  cases i with
  | succ i => simp only [stOs, List.getElem?_cons_succ] at h ⊢; exact stOs_moved hm hU (fun k hk => hq k (by simp [hk])) i o' h
  | zero =>
   simp [stOs] at h; subst h
   refine ⟨.row e t y.1 true, by simp [stOs], rfl, fun j hj ⟨uss, h1, h2, _⟩ _ => ⟨⟨uss, h1.mono (hq (.row e t, bd) (by simp)), by rw [hm j hj]; exact h2, fun h => by cases h⟩, trivial⟩⟩
 | (.box e t, bd) :: os, y, hq, i, o', h => by
  cases i with
  | succ i => simp only [stOs, List.getElem?_cons_succ] at h ⊢; exact stOs_moved hm hU (fun k hk => hq k (by simp [hk])) i o' h
  | zero =>
   simp [stOs] at h; subst h
   refine ⟨.box e t y.1 true, by simp [stOs], rfl, fun j hj ⟨g, vs, h1, h2, h3, _⟩ _ => ⟨⟨g, vs, by rw [hm j hj]; exact h1, hq (.box e t, bd) (by simp) _ _ h2, h3, fun h => by cases h⟩, trivial⟩⟩
 | (.vbox e (.val t), bd) :: os, y, hq, i, o', h => by
  cases i with
  | succ i => simp only [stOs, List.getElem?_cons_succ] at h ⊢; exact stOs_moved hm hU (fun k hk => hq k (by simp [hk])) i o' h
  | zero =>
   simp [stOs] at h; subst h
   refine ⟨.vbox e (.data t y.1), by simp [stOs], rfl, fun j hj ⟨g, u, h1, ⟨vs, h2, h5⟩, h3, h4⟩ _ => ⟨⟨g, u, by rw [hm j hj]; exact h1, ⟨vs, hq (.vbox e (.val t), bd) (by simp) _ _ h2, h5⟩, h3, h4⟩, trivial⟩⟩
 | (.vbox e (.row k), bd) :: os, y, hq, i, o', h => by
  cases i with
  | succ i => simp only [stOs, List.getElem?_cons_succ] at h ⊢; exact stOs_moved hm hU (fun k hk => hq k (by simp [hk])) i o' h
  | zero =>
   simp [stOs] at h; subst h
   refine ⟨.vbox e (.row k), by simp [stOs], rfl, fun j hj ⟨g, u, h1, h2, h3, h4⟩ hids => ?_⟩
   have hk : k < n := hids
   exact ⟨⟨g, u, by rw [hm j hj]; exact h1, by show u = ob' (m k); rw [hm k hk]; exact h2, h3, h4⟩, hU k hk⟩
 | (.vbox e (.ref k T), bd) :: os, y, hq, i, o', h => by
  cases i with
  | succ i => simp only [stOs, List.getElem?_cons_succ] at h ⊢; exact stOs_moved hm hU (fun k hk => hq k (by simp [hk])) i o' h
  | zero =>
   simp [stOs] at h; subst h
   refine ⟨.vbox e (.ref k T []), by simp [stOs], rfl, fun j hj ⟨g, u, h1, ⟨g2, h2, h5, h6⟩, h3, h4⟩ hids => ?_⟩
   have hk : k < n := hids
   exact ⟨⟨g, u, by rw [hm j hj]; exact h1, ⟨g2, by rw [hm k hk]; exact h2, h5, by rw [hm k hk]; exact h6⟩, h3, h4⟩, hU k hk⟩
 | (.sval e T f t, bd) :: os, y, hq, i, o', h => by
  cases i with
  | succ i => simp only [stOs, List.getElem?_cons_succ] at h ⊢; exact stOs_moved hm hU (fun k hk => hq k (by simp [hk])) i o' h
  | zero =>
   simp [stOs] at h; subst h
   have hq1 := hq (.sval e T f t, bd) (by simp)
   refine ⟨.sbox e T y.1 f (.data t y.2.1), by simp [stOs], rfl, fun j hj ⟨g, vs, u, h1, h2, ⟨vs', h3, h3'⟩, h4, h5, h6⟩ _ => ⟨⟨g, vs, u, by rw [hm j hj]; exact h1, hq1.1 _ _ h2, ⟨vs', hq1.2 _ _ h3, h3'⟩, h4, h5, h6⟩, trivial⟩⟩
 | (.srow e T f k, bd) :: os, y, hq, i, o', h => by
  cases i with
  | succ i => simp only [stOs, List.getElem?_cons_succ] at h ⊢; exact stOs_moved hm hU (fun k hk => hq k (by simp [hk])) i o' h
  | zero =>
   simp [stOs] at h; subst h
   have hq1 := hq (.srow e T f k, bd) (by simp)
   refine ⟨.sbox e T y.1 f (.row k), by simp [stOs], rfl, fun j hj ⟨g, vs, u, h1, h2, h3, h4, h5, h6⟩ hids => ?_⟩
   have hk : k < n := hids
   exact ⟨⟨g, vs, u, by rw [hm j hj]; exact h1, hq1 _ _ h2, by show u = ob' (m k); rw [hm k hk]; exact h3, h4, h5, h6⟩, hU k hk⟩
 | (.raw, bd) :: os, y, hq, i, o', h => by
  cases i with
  | succ i => simp only [stOs, List.getElem?_cons_succ] at h ⊢; exact stOs_moved hm hU (fun k hk => hq k (by simp [hk])) i o' h
  | zero =>
   simp [stOs] at h; subst h
   refine ⟨.raw y.1, by simp [stOs], rfl, fun j hj h1 _ => ⟨fun g hg => h1 g (by rw [hm j hj] at hg; exact hg), trivial⟩⟩
end

theorem app_slots : ∀ {ws : List Wr} {s : GS}, (∀ x ∈ ws, ∃ i o, x = .obj i o) → (s.app ws).slots = s.slots
 | [], s, _ => rfl
 | x :: ws, s, h => by
  obtain ⟨i, o, rfl⟩ := h x (by simp)
  rw [app_cons, app_slots fun x hx => h x (by simp [hx])]
  cases o <;> rfl
theorem freezeW_objs {objs : List (Nat × Ob)} : ∀ {l : List Nat}, ∀ x ∈ freezeW objs l, ∃ i o, x = .obj i o
 | [], x, h => by simp [freezeW] at h
 | i :: l, x, h => by
  simp only [freezeW] at h
  rcases List.mem_append.1 h with h | h
  ·split at h <;> (simp at h; exact ⟨_, _, h⟩)
  ·exact freezeW_objs x h
theorem goneW_objs : ∀ {ρ : List (Option Nat)} {np : Nat}, ∀ x ∈ goneW np ρ, ∃ i o, x = .obj i o
 | [], np, x, h => by simp [goneW] at h
 | r :: ρ, np, x, h => by
  simp only [goneW] at h
  rcases List.mem_append.1 h with h | h
  ·split at h
   ·simp at h; exact ⟨_, _, h⟩
   ·simp at h
  ·exact goneW_objs x h
theorem backW_objs {m : Nat → Nat} : ∀ {l : List Ob} {k : Nat}, ∀ x ∈ backW m k l, ∃ i o, x = .obj i o
 | [], k, x, h => by simp [backW] at h
 | o :: l, k, x, h => by
  simp only [backW] at h
  rcases List.mem_cons.1 h with h | h
  ·exact ⟨_, _, h⟩
  ·exact backW_objs x h
theorem put_obj_ne {s : GS} {i j : Nat} (h : j ≠ i) (o : Option Ob) : look j (s.put (.obj i o)).objs = look j s.objs := by
 cases o with
 | none => simp only [GS.put, look_ldel_ne h]
 | some o => simp only [GS.put, look_lput_ne h]
theorem put_obj_some {s : GS} {i : Nat} (o : Ob) : look i (s.put (.obj i (some o))).objs = some o := by simp only [GS.put, look_lput_same]
theorem put_obj_none {s : GS} {i : Nat} : look i (s.put (.obj i none)).objs = none := by simp only [GS.put, look_ldel_same]

theorem backW_look {m : Nat → Nat} {j : Nat} {o : Ob} : ∀ {l : List Ob} {k : Nat} {s : GS}, look j (s.app (backW m k l)).objs = some o →
  (∃ i, l[i]? = some o ∧ m (k + i) = j) ∨ (look j s.objs = some o ∧ ∀ i, i < l.length → m (k + i) ≠ j)
 | [], k, s, h => .inr ⟨h, fun i hi => by simp at hi⟩
 | x :: l, k, s, h => by
  simp only [backW] at h
  rw [app_cons] at h
  rcases backW_look h with ⟨i, h1, h2⟩ | ⟨h1, h2⟩
  ·exact .inl ⟨i + 1, by simpa using h1, by rw [← h2]; congr 1; omega⟩
  ·by_cases e : m k = j
   ·subst e
    rw [put_obj_some] at h1; cases h1
    exact .inl ⟨0, rfl, rfl⟩
   ·rw [put_obj_ne (Ne.symm e)] at h1
    refine .inr ⟨h1, fun i hi => ?_⟩
    cases i with
    | zero => exact e
    | succ i => rw [show k + (i + 1) = k + 1 + i by omega]; exact h2 i (by simpa using hi)
theorem goneW_look {j : Nat} {o : Ob} : ∀ {ρ : List (Option Nat)} {np : Nat} {s : GS}, look j (s.app (goneW np ρ)).objs = some o →
  look j s.objs = some o ∧ ∀ k, np ≤ k → ρ[k]? ≠ some (some j)
 | [], np, s, h => ⟨h, fun k _ => by simp⟩
 | r :: ρ, np, s, h => by
  simp only [goneW] at h
  rw [app_append] at h
  obtain ⟨h1, h2⟩ := goneW_look h
  split at h1
  ·rename_i i
   rw [app_cons, app_nil] at h1
   by_cases e : j = i
   ·subst e; rw [put_obj_none] at h1; cases h1
   ·rw [put_obj_ne e] at h1
    refine ⟨h1, fun k hk => ?_⟩
    cases k with
    | zero => simp; exact fun h => e h.symm
    | succ k => simpa using h2 k (by omega)
  ·rename_i hx
   rw [app_nil] at h1
   refine ⟨h1, fun k hk => ?_⟩
   cases k with
   | zero =>
    have : np = 0 := by omega
    subst this
    cases r with
    | none => simp
    | some i => exact absurd rfl (hx i rfl)
   | succ k => simpa using h2 k (by omega)
theorem freezeW_look {objs : List (Nat × Ob)} {j : Nat} {o : Ob} : ∀ {l : List Nat} {s : GS}, look j (s.app (freezeW objs l)).objs = some o →
  (look j s.objs = some o ∧ ¬ j ∈ l) ∨ (j ∈ l ∧ ∃ o', look j objs = some o' ∧ o = o'.cold ∧ o.own = false)
 | [], s, h => .inl ⟨h, by simp⟩
 | i :: l, s, h => by
  simp only [freezeW] at h
  rw [app_append] at h
  rcases freezeW_look h with ⟨h1, h2⟩ | ⟨h1, h2⟩
  ·by_cases e : j = i
   ·subst e
    split at h1
    ·rename_i hlo
     rw [app_cons, app_nil, put_obj_some] at h1; cases h1
     exact .inr ⟨by simp, _, hlo, rfl, rfl⟩
    ·rename_i hlo
     rw [app_cons, app_nil, put_obj_some] at h1; cases h1
     exact .inr ⟨by simp, _, hlo, rfl, rfl⟩
    ·rw [app_cons, app_nil, put_obj_none] at h1; cases h1
   ·refine .inl ⟨?_, by simp [e, h2]⟩
    split at h1 <;> (rw [app_cons, app_nil, put_obj_ne e] at h1; exact h1)
  ·exact .inr ⟨by simp [h1], h2⟩
theorem cond_some' {α : Type} {c : Bool} {x : Option α} {y : α} (h : (bif c then x else none) = some y) : c = true ∧ x = some y := by
 cases c
 ·cases h
 ·exact ⟨rfl, by simpa using h⟩
theorem stOs_own {m : Nat → Nat} : ∀ {os : List (OK × Bd)} {y : OsD os} {i : Nat} {o : Ob}, (stOs m os y)[i]? = some o → o.own = true
 | [], _, i, o, h => by simp [stOs] at h
 | (.row e t, bd) :: os, y, i, o, h => by
  cases i with
  | succ i => simp only [stOs, List.getElem?_cons_succ] at h; exact stOs_own h
  | zero => simp [stOs] at h; subst h; rfl
 | (.box e t, bd) :: os, y, i, o, h => by
  cases i with
  | succ i => simp only [stOs, List.getElem?_cons_succ] at h; exact stOs_own h
  | zero => simp [stOs] at h; subst h; rfl
 | (.vbox e (.val t), bd) :: os, y, i, o, h => by
  cases i with
  | succ i => simp only [stOs, List.getElem?_cons_succ] at h; exact stOs_own h
  | zero => simp [stOs] at h; subst h; rfl
 | (.vbox e (.row k), bd) :: os, y, i, o, h => by
  cases i with
  | succ i => simp only [stOs, List.getElem?_cons_succ] at h; exact stOs_own h
  | zero => simp [stOs] at h; subst h; rfl
 | (.vbox e (.ref k T), bd) :: os, y, i, o, h => by
  cases i with
  | succ i => simp only [stOs, List.getElem?_cons_succ] at h; exact stOs_own h
  | zero => simp [stOs] at h; subst h; rfl
 | (.sval e T f t, bd) :: os, y, i, o, h => by
  cases i with
  | succ i => simp only [stOs, List.getElem?_cons_succ] at h; exact stOs_own h
  | zero => simp [stOs] at h; subst h; rfl
 | (.srow e T f k, bd) :: os, y, i, o, h => by
  cases i with
  | succ i => simp only [stOs, List.getElem?_cons_succ] at h; exact stOs_own h
  | zero => simp [stOs] at h; subst h; rfl
 | (.raw, bd) :: os, y, i, o, h => by
  cases i with
  | succ i => simp only [stOs, List.getElem?_cons_succ] at h; exact stOs_own h
  | zero => simp [stOs] at h; subst h; rfl
theorem fitOs_at {objs : List (Nat × Ob)} {ρ : List (Option Nat)} : ∀ {os : List (OK × Bd)} {k : Nat} {r : OsD os × List Nat}, fitOs objs ρ os k = some r → ∀ (j i : Nat), j < os.length → ρ[k + j]? = some (some i) → ∃ o, look i objs = some o
 | [], k, r, h, j, i, hj, hi => by simp at hj
 | (.row e t, bd) :: os, k, r, h, j, i, hj, hi => by
  simp only [fitOs] at h
  split at h
  ·rename_i hx hq
   cases j with
   | succ j => exact fitOs_at hq j i (by simpa using hj) (by rw [← hi]; congr 1; omega)
   | zero =>
    rw [Nat.add_zero] at hi
    rw [hi] at hx
    simp only at hx
    split at hx
    ·rename_i hat; obtain ⟨i', h1, h2⟩ := objAt_ok hat; rw [hi] at h1; cases h1; exact ⟨_, h2⟩
    ·cases hx
  ·cases h
 | (.box e t, bd) :: os, k, r, h, j, i, hj, hi => by
  simp only [fitOs] at h
  split at h
  ·rename_i hx hq
   cases j with
   | succ j => exact fitOs_at hq j i (by simpa using hj) (by rw [← hi]; congr 1; omega)
   | zero =>
    rw [Nat.add_zero] at hi
    split at hx
    ·rename_i hat; obtain ⟨i', h1, h2⟩ := objAt_ok hat; rw [hi] at h1; cases h1; exact ⟨_, h2⟩
    ·cases hx
  ·cases h
 | (.vbox e (.val t), bd) :: os, k, r, h, j, i, hj, hi => by
  simp only [fitOs] at h
  split at h
  ·rename_i e' v hat
   cases j with
   | zero => rw [Nat.add_zero] at hi; obtain ⟨i', h1, h2⟩ := objAt_ok hat; rw [hi] at h1; cases h1; exact ⟨_, h2⟩
   | succ j =>
    obtain ⟨_, h⟩ := cond_some' h
    split at h
    ·rename_i hx hq; exact fitOs_at hq j i (by simpa using hj) (by rw [← hi]; congr 1; omega)
    ·cases h
  ·cases h
 | (.vbox e (.row q), bd) :: os, k, r, h, j, i, hj, hi => by
  simp only [fitOs] at h
  split at h
  ·rename_i e' v hat
   cases j with
   | zero => rw [Nat.add_zero] at hi; obtain ⟨i', h1, h2⟩ := objAt_ok hat; rw [hi] at h1; cases h1; exact ⟨_, h2⟩
   | succ j => obtain ⟨_, h⟩ := cond_some' h; exact fitOs_at h j i (by simpa using hj) (by rw [← hi]; congr 1; omega)
  ·cases h
 | (.vbox e (.ref q T), bd) :: os, k, r, h, j, i, hj, hi => by
  simp only [fitOs] at h
  split at h
  ·rename_i e' v hat
   cases j with
   | zero => rw [Nat.add_zero] at hi; obtain ⟨i', h1, h2⟩ := objAt_ok hat; rw [hi] at h1; cases h1; exact ⟨_, h2⟩
   | succ j => obtain ⟨_, h⟩ := cond_some' h; exact fitOs_at h j i (by simpa using hj) (by rw [← hi]; congr 1; omega)
  ·cases h
 | (.sval e T f t, bd) :: os, k, r, h, j, i, hj, hi => by
  simp only [fitOs] at h
  split at h
  ·rename_i e' T' x f' v hat
   cases j with
   | zero => rw [Nat.add_zero] at hi; obtain ⟨i', h1, h2⟩ := objAt_ok hat; rw [hi] at h1; cases h1; exact ⟨_, h2⟩
   | succ j =>
    obtain ⟨_, h⟩ := cond_some' h
    split at h
    ·rename_i hq; exact fitOs_at hq j i (by simpa using hj) (by rw [← hi]; congr 1; omega)
    ·cases h
  ·cases h
 | (.srow e T f q, bd) :: os, k, r, h, j, i, hj, hi => by
  simp only [fitOs] at h
  split at h
  ·rename_i e' T' x f' v hat
   cases j with
   | zero => rw [Nat.add_zero] at hi; obtain ⟨i', h1, h2⟩ := objAt_ok hat; rw [hi] at h1; cases h1; exact ⟨_, h2⟩
   | succ j =>
    obtain ⟨_, h⟩ := cond_some' h
    split at h
    ·rename_i hq; exact fitOs_at hq j i (by simpa using hj) (by rw [← hi]; congr 1; omega)
    ·cases h
  ·cases h
 | (.raw, bd) :: os, k, r, h, j, i, hj, hi => by
  simp only [fitOs] at h
  split at h
  ·rename_i c hat
   cases j with
   | zero => rw [Nat.add_zero] at hi; obtain ⟨i', h1, h2⟩ := objAt_ok hat; rw [hi] at h1; cases h1; exact ⟨_, h2⟩
   | succ j =>
    split at h
    ·rename_i hq; exact fitOs_at hq j i (by simpa using hj) (by rw [← hi]; congr 1; omega)
    ·cases h
  ·cases h

section
variable {P : Program} {Γ : Ctx} {E : Env} {N : Nat} {U : Nat → Prop} {ob : Nat → Value} {Z : Nat → Prop} {s : GS} {a : Act} {w : World} {ws : List Wr} {fresh : Nat}
theorem flat_ks {c : Spec} (h : c.flat = true) {w : World} {Z Z' : Nat → Prop} : ∀ k ∈ c.ks, k.moved w Z Z' := by
 intro k hk
 simp only [Spec.flat, Bool.and_eq_true, List.all_eq_true] at h
 have := h.1 k hk
 cases k with
 | val t => exact fun x vs hd => hd.flat this
 | fp t => simp at this
 | _ => trivial
theorem flat_os {c : Spec} (h : c.flat = true) {w : World} {Z Z' : Nat → Prop} : ∀ k ∈ c.os, k.1.moved w Z Z' := by
 intro k hk
 simp only [Spec.flat, Bool.and_eq_true, List.all_eq_true] at h
 have := h.2 k hk
 obtain ⟨k, bd⟩ := k
 cases k with
 | row e t => exact fun x vs hd => hd.flat this
 | box e t => exact fun x vs hd => hd.flat this
 | vbox e v => cases v with
  | val t => exact fun x vs hd => hd.flat this
  | _ => trivial
 | sval e T f t => simp only [Bool.and_eq_true] at this; exact ⟨fun x vs hd => hd.flat this.1, fun x vs hd => hd.flat this.2⟩
 | srow e T f k => exact fun x vs hd => hd.flat this
 | raw => trivial
theorem mono_ks {ks : List SK} {w : World} {Z Z' : Nat → Prop} (h : ∀ b, Z b → Z' b) : ∀ k ∈ ks, k.moved w Z Z' := by
 intro k hk
 cases k with
 | val t => exact fun x vs hd => hd.mono (Same.refl _ _) h
 | fp t => exact ⟨fun x vs hd => hd.mono (Same.refl _ _) h, h⟩
 | _ => trivial
theorem mono_os {os : List (OK × Bd)} {w : World} {Z Z' : Nat → Prop} (h : ∀ b, Z b → Z' b) : ∀ k ∈ os, k.1.moved w Z Z' := by
 intro k hk
 obtain ⟨k, bd⟩ := k
 cases k with
 | row e t => exact fun x vs hd => hd.mono (Same.refl _ _) h
 | box e t => exact fun x vs hd => hd.mono (Same.refl _ _) h
 | vbox e v => cases v with
  | val t => exact fun x vs hd => hd.mono (Same.refl _ _) h
  | _ => trivial
 | sval e T f t => exact ⟨fun x vs hd => hd.mono (Same.refl _ _) h, fun x vs hd => hd.mono (Same.refl _ _) h⟩
 | srow e T f k => exact fun x vs hd => hd.mono (Same.refl _ _) h
 | raw => trivial
theorem call_rep (h : RepAt E N U ob Z s a w) (hfr : ∀ j, fresh ≤ j → j < fresh + 4 → ¬ U j) {c : Ctr} {objs : List (Nat × Ob)} {gs : List GV} (ho : ∀ i o, look i objs = some o → look i s.objs = some o) {f : Fit c.ps} (hfit : fitG gs objs c.ps = some f)
  (h1 : c.rs.os.length ≤ c.np + 4) (h2 : c.np ≤ c.ps.os.length) (h3 : (f.ρ.take c.np).all Option.isSome = true) (h4 : c.rs.ks.all SK.plain = true)
  {E' : Env} (hE0 : E'.w0 = w) (hM : ∀ b, E'.M b ↔ ∃ (k i : Nat) (o : Ob), f.ρ[k]? = some (some i) ∧ look i s.objs = some o ∧ o.own = true ∧ blk (ob i) = some b) (hZ0 : ∀ b, E'.Z0 b → Lz ob Z f.lent b)
  (hpins : E'.pins = (List.range c.np).map fun k => (k, obOf ob f.ρ k)) {vs : List Value} {ob2 : Nat → Value} {Z2 : Nat → Prop} {y : c.rs.den} {w' : World} (hlen : vs.length = c.rs.ks.length)
  (hr : RepAt E' vs.length (fun k => k < c.rs.os.length) ob2 Z2 (c.rs.st (List.range c.rs.ks.length) y) ⟨vs.toArray, []⟩ w') :
  ∃ ob3 Z3, RepAt E N (fun j => U j ∨ (fresh ≤ j ∧ j < fresh + 4)) ob3 Z3 (s.app ((bif c.rs.flat then [] else freezeW objs f.lent) ++ goneW c.np f.ρ ++ backW (numOf f.ρ fresh c.np) 0 (stOs (numOf f.ρ fresh c.np) c.rs.os y.2))) a w' ∧
   All2 (SR w' Z3 ob3) ((stKs (numOf f.ρ fresh c.np) c.rs.ks y.1).flatMap GV.svs) vs ∧ ∀ v ∈ (stKs (numOf f.ρ fresh c.np) c.rs.ks y.1).flatMap GV.svs, v.ids (fun j => U j ∨ (fresh ≤ j ∧ j < fresh + 4)) := by
 obtain ⟨pa, pb, p1, p2, p3, p4, p5, p6, p7⟩ := fitG_parts hfit
 have hlent : ∀ i, i ∈ f.lent → ∃ o, look i s.objs = some o := by
  intro i hi
  rw [p4] at hi
  rcases List.mem_append.1 hi with hi | hi
  ·obtain ⟨o, q⟩ := fitKs_lent p1 i hi; exact ⟨o, ho i o q⟩
  ·obtain ⟨o, q⟩ := fitOs_lent p2 i hi; exact ⟨o, ho i o q⟩
 have hpin : ∀ k, k < c.np → ob2 k = obOf ob f.ρ k ∧ k < c.rs.os.length := fun k hk => hr.pins (k, obOf ob f.ρ k) (by rw [hpins]; exact List.mem_map.2 ⟨k, List.mem_range.2 hk, rfl⟩)
 have hat : ∀ k, k < c.np → ∃ i o, f.ρ[k]? = some (some i) ∧ look i s.objs = some o := by
  intro k hk
  have hk' : k < f.ρ.length := by rw [p7]; omega
  have hs : (f.ρ[k]).isSome = true := by
   rw [List.all_eq_true] at h3
   exact h3 _ (List.mem_take_iff_getElem.2 ⟨k, by omega, rfl⟩)
  obtain ⟨i, hi⟩ := Option.isSome_iff_exists.1 hs
  have hi' : f.ρ[k]? = some (some i) := by rw [List.getElem?_eq_getElem hk', hi]
  obtain ⟨o, q⟩ := fitOs_at p2 k i (by omega) (by rw [Nat.zero_add]; exact hi')
  exact ⟨i, o, hi', ho i o q⟩
 let m := numOf f.ρ fresh c.np
 have hm1 : ∀ k i, k < c.np → f.ρ[k]? = some (some i) → m k = i := by
  intro k i hk hi
  show numOf f.ρ fresh c.np k = i
  unfold numOf
  rw [show Nat.blt k c.np = true from by simpa [Nat.blt] using Nat.ble_eq_true_of_le (by omega : k + 1 ≤ c.np), cond_true, hi]
 have hm2 : ∀ k, c.np ≤ k → m k = fresh + (k - c.np) := by
  intro k hk
  show numOf f.ρ fresh c.np k = _
  unfold numOf
  rw [show Nat.blt k c.np = false from by
   cases e : Nat.blt k c.np with
   | false => rfl
   | true => have := Nat.le_of_ble_eq_true e; omega, cond_false]
 let ob3 : Nat → Value := fun j => if fresh ≤ j ∧ j < fresh + 4 then ob2 (j - fresh + c.np) else ob j
 have hob : ∀ j, U j → ob3 j = ob j := fun j hj => if_neg fun ⟨e1, e2⟩ => hfr j e1 e2 hj
 let Z3 : Nat → Prop := fun b => Z b ∨ (c.rs.flat = false ∧ (Z2 b ∨ Lz ob Z f.lent b))
 have hU : ∀ j, U j → (U j ∨ (fresh ≤ j ∧ j < fresh + 4)) := fun _ h => .inl h
 have hmo : ∀ k, k < c.rs.os.length → ob3 (m k) = ob2 k := by
  intro k hk
  by_cases e : k < c.np
  ·obtain ⟨i, o, q1, q2⟩ := hat k e
   rw [hm1 k i e q1, hob i (h.objs i o q2).1, (hpin k e).1, obOf_at q1]
  ·rw [hm2 k (by omega)]
   show (if _ then _ else _) = _
   rw [if_pos ⟨by omega, by omega⟩]
   congr 1; omega
 have hmU : ∀ k, k < c.rs.os.length → (U (m k) ∨ (fresh ≤ m k ∧ m k < fresh + 4)) := by
  intro k hk
  by_cases e : k < c.np
  ·obtain ⟨i, o, q1, q2⟩ := hat k e
   rw [hm1 k i e q1]; exact .inl (h.objs i o q2).1
  ·rw [hm2 k (by omega)]; exact .inr ⟨by omega, by omega⟩
 have hkept : Kept E'.M w w' := by have := hr.kept; rwa [hE0] at this
 have hMZ : ∀ b, Z b → ¬ E'.M b := by
  intro b hb hm
  obtain ⟨k, i, o, q1, q2, q3, q4⟩ := (hM b).1 hm
  exact (h.own i o q2 q3 b q4).1 hb
 have hME : ∀ b, E'.M b → E.M b ∨ E.w0.heap.size ≤ b := by
  intro b hm
  obtain ⟨k, i, o, q1, q2, q3, q4⟩ := (hM b).1 hm
  exact (h.own i o q2 q3 b q4).2
 have hMlt : ∀ b, E'.M b → b < w.heap.size := by
  intro b hm
  obtain ⟨k, i, o, q1, q2, q3, q4⟩ := (hM b).1 hm
  exact (h.objs i o q2).2.1.block_lt b q4
 have hsame : Same Z w w' := hkept.same hMZ
 have hLlt : ∀ b, Lz ob Z f.lent b → b < w.heap.size := by
  rintro b (hb | ⟨i, hi, hb⟩)
  ·exact h.zlt b hb
  ·obtain ⟨o, q⟩ := hlent i hi; exact (h.objs i o q).2.1.block_lt b hb
 have hLM : ∀ b, Lz ob Z f.lent b → ¬ E'.M b := by
  rintro b (hb | ⟨i, hi, hb⟩) hm
  ·exact hMZ b hb hm
  ·obtain ⟨oi, q⟩ := hlent i hi
   obtain ⟨k, j, oj, q1, q2, q3, q4⟩ := (hM b).1 hm
   have hne : i ≠ j := fun e => by subst e; have := p6 i hi; rw [inB_of q1] at this; cases this
   cases hown : oi.own with
   | true => exact h.apart i j oi oj hne q q2 hown q3 b hb q4
   | false => exact (h.own j oj q2 q3 b q4).1 ((h.objs i oi q).2.1.block_Z hown b hb)
 have hZ2 : ∀ b, Z2 b → b < w.heap.size → Lz ob Z f.lent b ∨ E'.M b := fun b hb hl => (hr.z0 b hb (by rw [hE0]; exact hl)).imp (hZ0 b) id
 have hks : ∀ k ∈ c.rs.ks, k.moved w' Z2 Z3 := by
  cases hfl : c.rs.flat with
  | true => exact flat_ks hfl
  | false => exact mono_ks fun b hb => .inr ⟨hfl, .inl hb⟩
 have hos : ∀ k ∈ c.rs.os, k.1.moved w' Z2 Z3 := by
  cases hfl : c.rs.flat with
  | true => exact flat_os hfl
  | false => exact mono_os fun b hb => .inr ⟨hfl, .inl hb⟩
 have hvals : All2 (VR w' Z2 ob2) (stKs id c.rs.ks y.1) vs := by
  refine All2.ofGet (by rw [stKs_len, hlen]) fun i g v hi hv => ?_
  obtain ⟨_, q, _⟩ := hr.slots i g (slots_range hi)
  have : (vs.toArray).getD i undef = v := by simp [hv]
  rw [this] at q; exact q
 have hids : ∀ g ∈ stKs id c.rs.ks y.1, g.ids (fun k => k < c.rs.os.length) := by
  intro g hg
  obtain ⟨i, hi⟩ := List.mem_iff_getElem?.1 hg
  exact (hr.slots i g (slots_range hi)).2.2
 obtain ⟨r1, r2⟩ := stKs_moved (ob' := ob3) (m := m) (U := fun j => U j ∨ (fresh ≤ j ∧ j < fresh + 4)) hmo hmU (fun k hk => List.all_eq_true.1 h4 k hk) hks hvals hids
 have hlook : ∀ j o, look j (s.app ((bif c.rs.flat then [] else freezeW objs f.lent) ++ goneW c.np f.ρ ++ backW m 0 (stOs m c.rs.os y.2))).objs = some o →
   (∃ k, k < c.rs.os.length ∧ (stOs m c.rs.os y.2)[k]? = some o ∧ m k = j) ∨
   ((∀ k : Nat, f.ρ[k]? ≠ some (some j)) ∧ ((look j s.objs = some o ∧ (c.rs.flat = false → ¬ j ∈ f.lent)) ∨ (c.rs.flat = false ∧ j ∈ f.lent ∧ ∃ o', look j s.objs = some o' ∧ o = o'.cold ∧ o.own = false))) := by
  intro j o hj
  rw [app_append, app_append] at hj
  rcases backW_look hj with ⟨k, q1, q2⟩ | ⟨q1, q2⟩
  ·refine .inl ⟨k, ?_, q1, by rw [← q2, Nat.zero_add]⟩
   have := (List.getElem?_eq_some_iff.1 q1).1
   rwa [(stOs_len m).2] at this
  ·obtain ⟨q3, q4⟩ := goneW_look q1
   refine .inr ⟨fun k hk => ?_, ?_⟩
   ·by_cases e : k < c.np
    ·refine q2 k (by rw [(stOs_len m).2]; exact (hpin k e).2) ?_
     rw [Nat.zero_add]; exact hm1 k j e hk
    ·exact q4 k (by omega) hk
   ·cases hfl : c.rs.flat with
    | true => rw [hfl] at q3; exact .inl ⟨q3, fun h => by cases h⟩
    | false =>
     rw [hfl] at q3
     rcases freezeW_look q3 with ⟨q5, q6⟩ | ⟨q5, o', q6, q7, q8⟩
     ·exact .inl ⟨q5, fun _ => q6⟩
     ·exact .inr ⟨rfl, q5, o', ho _ _ q6, q7, q8⟩
 have hstay : ∀ j o, look j s.objs = some o → (∀ k : Nat, f.ρ[k]? ≠ some (some j)) → ∀ b, blk (ob j) = some b → ¬ E'.M b := by
  intro j o hj hn b hb hm
  obtain ⟨k, i, oi, q1, q2, q3, q4⟩ := (hM b).1 hm
  have hne : j ≠ i := fun e => by subst e; exact hn k q1
  cases hown : o.own with
  | true => exact h.apart j i o oi hne hj q2 hown q3 b hb q4
  | false => exact (h.own i oi q2 q3 b q4).1 ((h.objs j o hj).2.1.block_Z hown b hb)
 have hstayL : ∀ j o, look j s.objs = some o → o.own = true → ¬ j ∈ f.lent → ∀ b, blk (ob j) = some b → ¬ Lz ob Z f.lent b := by
  rintro j o hj hown hn b hb (hz | ⟨i, hi, hbi⟩)
  ·exact (h.own j o hj hown b hb).1 hz
  ·obtain ⟨oi, q⟩ := hlent i hi
   have hne : i ≠ j := fun e => hn (e ▸ hi)
   cases hoi : oi.own with
   | true => exact h.apart i j oi o hne q hj hoi hown b hbi hb
   | false => exact (h.own j o hj hown b hb).1 ((h.objs i oi q).2.1.block_Z hoi b hbi)
 have hZ3 : ∀ b, Z b → Z3 b := fun _ h => .inl h
 have hnew : ∀ k o, (stOs m c.rs.os y.2)[k]? = some o → o.own = true ∧ OR w' Z3 ob3 (m k) o ∧ o.ids (fun j => U j ∨ (fresh ≤ j ∧ j < fresh + 4)) ∧
   ∀ b, blk (ob3 (m k)) = some b → ¬ Z2 b ∧ (E'.M b ∨ w.heap.size ≤ b) := by
  intro k o hk
  obtain ⟨o2, q1, q2, q3⟩ := stOs_moved (ob' := ob3) (m := m) (U := fun j => U j ∨ (fresh ≤ j ∧ j < fresh + 4)) (n := c.rs.os.length) (w := w') (Z := Z2) (Z' := Z3) (ob := ob2) hmo hmU hos k o hk
  have hl : look k (c.rs.st (List.range c.rs.ks.length) y).objs = some o2 := by
   have := look_number_at (n := 0) q1
   rw [Nat.zero_add] at this
   exact this
  obtain ⟨q4, q5, q6⟩ := hr.objs k o2 hl
  obtain ⟨q7, q8⟩ := q3 k q4 q5 q6
  refine ⟨q2, q7, q8, fun b hb => ?_⟩
  rw [hmo k q4] at hb
  have ho2 : o2.own = true := by
   have := stOs_own q1; exact this
  have := hr.own k o2 hl ho2 b hb
  rw [hE0] at this
  exact this
 refine ⟨ob3, Z3, { defers := h.defers, size := h.size, kept := h.kept.trans hkept hME, zlt := ?_, z0 := ?_, slots := ?_, objs := ?_, own := ?_, apart := ?_, globs := ?_, pins := ?_ }, r1, r2⟩
 ·rintro b (hb | ⟨_, hb | hb⟩)
  ·exact Nat.lt_of_lt_of_le (h.zlt b hb) hkept.size
  ·exact hr.zlt b hb
  ·exact Nat.lt_of_lt_of_le (hLlt b hb) hkept.size
 ·have hL0 : ∀ b, Lz ob Z f.lent b → b < E.w0.heap.size → E.Z0 b ∨ E.M b := by
   rintro b (hb | ⟨i, hi, hb⟩) hl
   ·exact h.z0 b hb hl
   ·obtain ⟨o, q⟩ := hlent i hi
    cases hown : o.own with
    | true => exact .inr ((h.own i o q hown b hb).2.resolve_right (by omega))
    | false => exact h.z0 b ((h.objs i o q).2.1.block_Z hown b hb) hl
  rintro b (hb | ⟨_, hb | hb⟩) hl
  ·exact h.z0 b hb hl
  ·rcases hZ2 b hb (Nat.lt_of_lt_of_le hl h.kept.size) with q | q
   ·exact hL0 b q hl
   ·exact .inr ((hME b q).resolve_right (by omega))
  ·exact hL0 b hb hl
 ·intro n g hl
  rw [app_slots] at hl
  ·obtain ⟨q1, q2, q3⟩ := h.slots n g hl
   exact ⟨q1, q2.mono hsame hZ3 hob q3, q3.mono hU⟩
  ·intro x hx
   rcases List.mem_append.1 hx with hx | hx
   ·rcases List.mem_append.1 hx with hx | hx
    ·cases hfl : c.rs.flat with
     | true => rw [hfl] at hx; simp at hx
     | false => rw [hfl] at hx; exact freezeW_objs x hx
    ·exact goneW_objs x hx
   ·exact backW_objs x hx
 ·intro j o hj
  rcases hlook j o hj with ⟨k, q1, q2, rfl⟩ | ⟨q1, ⟨q2, q3⟩ | ⟨q2, q3, o', q4, rfl, q6⟩⟩
  ·obtain ⟨_, q4, q5, _⟩ := hnew k o q2
   exact ⟨hmU k q1, q4, q5⟩
  ·obtain ⟨x, y, z⟩ := h.objs j o q2
   exact ⟨.inl x, y.keep hkept hMZ hZ3 hob x z (hstay j o q2 q1), z.mono hU⟩
  ·obtain ⟨x, y, z⟩ := h.objs j o' q4
   have y' := y.keep hkept hMZ hZ3 hob x z (hstay j o' q4 q1)
   refine ⟨.inl x, ?_, by cases o' <;> first | trivial | (simp [Ob.cold, Ob.own] at q6)⟩
   have hz : ∀ b, blk (ob3 j) = some b → Z3 b := fun b hb => .inr ⟨q2, .inr (.inr ⟨j, q3, by rw [hob j x] at hb; exact hb⟩)⟩
   cases o' with
   | row e t xs own => obtain ⟨uss, h1, h3, _⟩ := y'; exact ⟨uss, h1, h3, fun _ b hb => hz b hb⟩
   | box e t q own => obtain ⟨g, vs, h1, h3, h4, _⟩ := y'; exact ⟨g, vs, h1, h3, h4, fun _ => hz g (by rw [h1]; rfl)⟩
   | vbox e v => simp [Ob.cold, Ob.own] at q6
   | sbox e t x f v => simp [Ob.cold, Ob.own] at q6
   | hrow e t xs i f r => simp [Ob.cold, Ob.own] at q6
   | raw c => simp [Ob.cold, Ob.own] at q6
 ·intro j o hj hown b hb
  rcases hlook j o hj with ⟨k, q1, q2, rfl⟩ | ⟨q1, ⟨q2, q3⟩ | ⟨q2, q3, o', q4, rfl, q6⟩⟩
  ·obtain ⟨_, _, _, q⟩ := hnew k o q2
   obtain ⟨q7, q8⟩ := q b hb
   refine ⟨?_, q8.elim (hME b) fun q => .inr (Nat.le_trans h.kept.size q)⟩
   rintro (hz | ⟨_, hz | hz⟩)
   ·rcases q8 with q8 | q8
    ·exact hMZ b hz q8
    ·have := h.zlt b hz; omega
   ·exact q7 hz
   ·rcases q8 with q8 | q8
    ·exact hLM b hz q8
    ·have := hLlt b hz; omega
  ·rw [hob j (h.objs j o q2).1] at hb
   refine ⟨?_, (h.own j o q2 hown b hb).2⟩
   rintro (hz | ⟨hfl, hz | hz⟩)
   ·exact (h.own j o q2 hown b hb).1 hz
   ·rcases hZ2 b hz ((h.objs j o q2).2.1.block_lt b hb) with q | q
    ·exact hstayL j o q2 hown (q3 hfl) b hb q
    ·exact hstay j o q2 q1 b hb q
   ·exact hstayL j o q2 hown (q3 hfl) b hb hz
  ·rw [q6] at hown; cases hown
 ·have cross : ∀ k o j o', (stOs m c.rs.os y.2)[k]? = some o → look j s.objs = some o' → (∀ k : Nat, f.ρ[k]? ≠ some (some j)) → ∀ b, blk (ob3 (m k)) = some b → blk (ob3 j) ≠ some b := by
   intro k o j o' hk hj hn b hb hb'
   obtain ⟨_, _, _, q⟩ := hnew k o hk
   rw [hob j (h.objs j o' hj).1] at hb'
   rcases (q b hb).2 with q | q
   ·exact hstay j o' hj hn b hb' q
   ·have := (h.objs j o' hj).2.1.block_lt b hb'; omega
  intro i j o o' hne hi hj hoi hoj b hb hb'
  rcases hlook i o hi with ⟨k, q1, q2, rfl⟩ | ⟨q1, ⟨q2, q3⟩ | ⟨q2, q3, o2, q4, rfl, q6⟩⟩
  ·rcases hlook j o' hj with ⟨l, p1, p2, rfl⟩ | ⟨p1, ⟨p2, p3⟩ | ⟨p2, p3, o2, p4, rfl, p6⟩⟩
   ·have hkl : k ≠ l := fun e => hne (by rw [e])
    obtain ⟨ok, e1, _, _⟩ := stOs_moved (ob' := ob3) (m := m) (U := fun j => U j ∨ (fresh ≤ j ∧ j < fresh + 4)) (n := c.rs.os.length) (w := w') (Z := Z2) (Z' := Z3) (ob := ob2) hmo hmU hos k o q2
    obtain ⟨ol, e2, _, _⟩ := stOs_moved (ob' := ob3) (m := m) (U := fun j => U j ∨ (fresh ≤ j ∧ j < fresh + 4)) (n := c.rs.os.length) (w := w') (Z := Z2) (Z' := Z3) (ob := ob2) hmo hmU hos l o' p2
    have l1 := look_number_at (n := 0) e1
    have l2 := look_number_at (n := 0) e2
    rw [Nat.zero_add] at l1 l2
    rw [hmo k q1] at hb
    rw [hmo l p1] at hb'
    exact hr.apart k l ok ol hkl l1 l2 (stOs_own e1) (stOs_own e2) b hb hb'
   ·exact cross k o j o' q2 p2 p1 b hb hb'
   ·rw [p6] at hoj; cases hoj
  ·rcases hlook j o' hj with ⟨l, p1, p2, rfl⟩ | ⟨p1, ⟨p2, p3⟩ | ⟨p2, p3, o2, p4, rfl, p6⟩⟩
   ·exact cross l o' i o p2 q2 q1 b hb' hb
   ·rw [hob i (h.objs i o q2).1] at hb
    rw [hob j (h.objs j o' p2).1] at hb'
    exact h.apart i j o o' hne q2 p2 hoi hoj b hb hb'
   ·rw [p6] at hoj; cases hoj
  ·rw [q6] at hoi; cases hoi
 ·intro g d hl
  exact (h.globs g d hl).mono (U := fun _ => False) hsame hZ3 (fun _ h => h.elim) (by simp [SV.ids])
 ·intro p hp
  obtain ⟨q1, q2⟩ := h.pins p hp
  exact ⟨(hob _ q2).trans q1, .inl q2⟩
end
end Go.Proofs.YtehbbcdhahnkgaaGreat
