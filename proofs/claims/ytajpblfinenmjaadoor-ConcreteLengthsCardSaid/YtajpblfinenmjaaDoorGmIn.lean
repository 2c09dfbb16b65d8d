/- The ghost machine in a round of a range over a function, and where calls stand deferred: code without loops. -/
import Derived.Test.YtajpblfinenmjaaDoorGmRule
import Derived.OrdersIn
import Derived.RangeFuncNested
set_option linter.unusedVariables false
set_option linter.unusedSimpArgs false
namespace Go.Proofs.YtajpblfinenmjaaDoor
open Go
/-- The wide fence, at a round. -/
def FR (ro : Option Nat) : Fence := { Fence.wide with round := ro }
theorem FR_none : FR none = Fence.wide := rfl
theorem FR_some (l : Nat) : FR (some l) = Fence.wide.inRound l := rfl
section
variable {P : Program} {ro : Option Nat} {n : Nat}
theorem callsR {f : FuncId} {args : Array Value} {w : World} {R : Ending → World → Prop} (h : Calls P f args w R) : CallsIn (FR ro) n P f args w R := by
  cases ro with
  | none => exact callsIn_wide.2 h
  | some l => exact CallsIn.inRound l (callsIn_wide.2 h)
theorem rowsR {row : String} {args : Array Value} {w : World} {R : Value → World → Prop} (h : Rows P row args w R) : RowsIn (FR ro) n P row args w R := by
  intro c cs _
  obtain ⟨v, w', h1, h2⟩ := h c cs
  refine ⟨v, w', h1, ?_⟩
  cases ro with
  | none => exact stepsIn_wide.2 h2
  | some l => exact stepsIn_wide.2 h2
/-- The same activation with calls deferred. -/
def T (ds : List Deferred) (a : Act) : Act := { a with defers := ds }
theorem T_put (ds : List Deferred) (a : Act) (d : Option Tmp) (v : Value) : (T ds a).put d v = T ds (a.put d v) := by cases d <;> rfl
theorem T_eval (ds : List Deferred) (a : Act) : (T ds a).eval = a.eval := rfl
theorem put_defers (a : Act) (d : Option Tmp) (v : Value) : (a.put d v).defers = a.defers := by cases d <;> rfl
theorem T_T (ds es : List Deferred) (a : Act) : T ds (T es a) = T ds a := rfl
theorem T_self {a : Act} {ds : List Deferred} (h : a.defers = ds) : T ds a = a := by subst h; rfl
structure NoDef (Q : Exit → Act → World → Prop) : Prop where
  defers : ∀ e a w, Q e a w → a.defers = []
  panic : ∀ c a w, ¬ Q (.panic c) a w
  out : ∀ a w, ¬ Q .outgrown a w
theorem calls_returns {f : FuncId} {args : Array Value} {w : World} {R : Ending → World → Prop} (h : Calls P f args w R) : ∃ e w', R e w' := by
  obtain ⟨e, w', _, h, _⟩ := h []
  exact ⟨e, w', h⟩
theorem op_defers {o : Oper} {a : Act} {w : World} {next : Act → World → Prop} {Q : Exit → Act → World → Prop} (hn : ∀ a w, next a w → a.defers = []) (hQ : NoDef Q) (h : o.wp P a w next Q) : a.defers = [] := by
  unfold Oper.wp at h
  generalize (execOp a.eval o).run P w = r at h
  unfold Oper.upon at h
  split at h
  · have := hn _ _ h; rwa [put_defers] at this
  · have := hn _ _ h; rwa [put_defers] at this
  · have := hn _ _ h; rw [put_defers] at this; cases this
  · obtain ⟨e, w', h⟩ := calls_returns h
    cases e with
    | returned v => have := hn _ _ h; rwa [put_defers] at this
    | panicked c => exact (hQ.panic _ _ _ h).elim
    | outgrown => obtain ⟨a, w, h⟩ := h; exact (hQ.out _ _ h).elim
  · obtain ⟨v, w', h, _⟩ := h default []
    have := hn _ _ h; rwa [put_defers] at this
  · exact (hQ.panic _ _ _ h).elim
  · exact h.elim
/-- No deferred call, no range over a function. -/
def plainOp (o : Oper) : Bool := match o.op with
  | .defer _ => false
  | _ => true
theorem plainOp_ok {o : Oper} (h : plainOp o = true) (c : Call) : o.op ≠ .defer c := by
  intro e; unfold plainOp at h; rw [e] at h; cases h
theorem op_lift {ds : List Deferred} {o : Oper} {a : Act} {w : World} {next next2 : Act → World → Prop} {Q Q2 : Exit → Act → World → Prop} (hp : plainOp o = true) (hn : ∀ a w, next a w → a.defers = []) (hQ : NoDef Q)
    (h2 : ∀ a w, next a w → next2 (T ds a) w) (h : o.wp P a w next Q) : o.wpIn (FR ro) n P (T ds a) w next2 Q2 := by
  refine ⟨fun _ _ => trivial, ?_⟩
  rw [Oper.semAt_eq _ _ _ (plainOp_ok hp), T_eval]
  unfold Oper.wp at h
  generalize (execOp a.eval o).run P w = r at h ⊢
  unfold Oper.upon at h
  split at h
  · show next2 ((T ds a).put o.dst _) _
    rw [T_put]; exact h2 _ _ h
  · show next2 ((T ds a).put o.dst _) _
    rw [T_put]; exact h2 _ _ h
  · have := hn _ _ h; rw [put_defers] at this; cases this
  · refine ⟨fun h => by simp [FR, Fence.wide] at h, (callsR h).mono ?_⟩
    intro e w' h
    cases e with
    | returned v => show next2 ((T ds a).put o.dst _) _; rw [T_put]; exact h2 _ _ h
    | panicked c => exact (hQ.panic _ _ _ h).elim
    | outgrown => obtain ⟨a, w, h⟩ := h; exact (hQ.out _ _ h).elim
  · refine ⟨fun h => by simp [FR, Fence.wide] at h, (rowsR h).mono ?_⟩
    intro v w' h
    show next2 ((T ds a).put o.dst _) _
    rw [T_put]; exact h2 _ _ h
  · exact (hQ.panic _ _ _ h).elim
  · exact h.elim
section
variable {ops : Array Oper} {Q Q2 : Exit → Act → World → Prop} {ds : List Deferred}
theorem wpOp_defers (hQ : NoDef Q) {i : Nat} {K : Act → World → Prop} (hK : ∀ a w, K a w → a.defers = []) {a : Act} {w : World} (h : wpOp P ops Q i K a w) : a.defers = [] := by
  unfold wpOp at h
  split at h
  · exact hK _ _ h
  · split at h
    · rcases h with h | ⟨_, a', w', h⟩
      · exact op_defers hK hQ h
      · exact (hQ.out _ _ h).elim
    · have := hK _ _ h; rwa [put_defers] at this
theorem wpOp_lift (hp : ∀ o ∈ ops.toList, plainOp o = true) (hQ : NoDef Q) {i : Nat} {K K2 : Act → World → Prop} (hK : ∀ a w, K a w → a.defers = []) (h2 : ∀ a w, K a w → K2 (T ds a) w) {a : Act} {w : World} (h : wpOp P ops Q i K a w) : wpOpIn (FR ro) n P ops Q2 i K2 (T ds a) w := by
  unfold wpOp at h
  unfold wpOpIn
  split at h
  · rename_i hi; simp only [hi]; exact h2 _ _ h
  · rename_i o hi
    simp only [hi]
    have hpo : plainOp o = true := hp o (by have := Array.mem_of_getElem? hi; simpa using this)
    split at h
    · rename_i hw
      rw [if_pos (show Region.wanted o (yielded ops (T ds a).tmps) from hw)]
      rcases h with h | ⟨_, a', w', h⟩
      · exact op_lift hpo hK hQ h2 h
      · exact (hQ.out _ _ h).elim
    · rename_i hw
      rw [if_neg (show ¬ Region.wanted o (yielded ops (T ds a).tmps) from hw)]
      refine ⟨fun _ _ => trivial, ?_⟩
      rw [T_put]; exact h2 _ _ h
theorem wpOps_defers (hQ : NoDef Q) : ∀ {l : List Nat} {a : Act} {w : World}, wpOps P ops Q l a w → a.defers = []
  | [], _, _, h => hQ.defers _ _ _ h
  | i :: l, a, w, h => by
    rw [wpOps_cons] at h
    exact wpOp_defers hQ (fun a w h => wpOps_defers hQ h) h
theorem wpOps_lift (hp : ∀ o ∈ ops.toList, plainOp o = true) (hQ : NoDef Q) (h2 : ∀ a w, Q .normal a w → Q2 .normal (T ds a) w) : ∀ {l : List Nat} {a : Act} {w : World}, wpOps P ops Q l a w → wpOpsIn (FR ro) n P ops Q2 l (T ds a) w
  | [], _, _, h => h2 _ _ h
  | i :: l, a, w, h => by
    rw [wpOps_cons] at h
    rw [wpOpsIn_cons]
    exact wpOp_lift hp hQ (fun a w h => wpOps_defers hQ h) (fun a w h => wpOps_lift hp hQ h2 h) h
theorem wpAny_defers (hQ : NoDef Q) {md : Region.Mode} : ∀ {fuel : Nat} {listed : Array Bool} {a : Act} {w : World}, wpAny P md ops Q fuel listed a w → a.defers = []
  | 0, _, _, _, h => hQ.defers _ _ _ h.2
  | fuel + 1, listed, a, w, h => by
    obtain ⟨h0, h1⟩ := h
    cases hr : Region.ready md ops listed with
    | nil => exact hQ.defers _ _ _ (h0 hr)
    | cons i l => exact wpOp_defers hQ (fun a w h => wpAny_defers hQ h) (h1 i (by rw [hr]; simp))
theorem wpAny_lift (hp : ∀ o ∈ ops.toList, plainOp o = true) (hQ : NoDef Q) (h2 : ∀ a w, Q .normal a w → Q2 .normal (T ds a) w) {md : Region.Mode} : ∀ {fuel : Nat} {listed : Array Bool} {a : Act} {w : World}, wpAny P md ops Q fuel listed a w → wpAnyIn (FR ro) n P md ops Q2 fuel listed (T ds a) w
  | 0, _, _, _, h => ⟨h.1, h2 _ _ h.2⟩
  | fuel + 1, listed, a, w, h => by
    obtain ⟨h0, h1⟩ := h
    refine ⟨fun hr => h2 _ _ (h0 hr), fun i hi => ?_⟩
    exact wpOp_lift hp hQ (fun a w h => wpAny_defers hQ h) (fun a w h => wpAny_lift hp hQ h2 h) (h1 i hi)
end
/-- Whatever code leads to, with calls deferred, what follows makes good. -/
def KOkD {R : Type} (E : Env) (N : Nat) (ds : List Deferred) (K : XE → GS → Option R) (r : R) (Q : Exit → Act → World → Prop) : Prop := ∀ e s a w, RepOk E N s a w → K e s = some r → Q e.out (T ds a) w
theorem RepOk.defers {E : Env} {N : Nat} {s : GS} {a : Act} {w : World} (h : RepOk E N s a w) : a.defers = [] := by
  obtain ⟨_, _, _, h, _⟩ := h; exact h.defers
def plainC : Code → Bool
  | .skip | .exit _ | .ret => true
  | .region _ ops _ => ops.toList.all plainOp
  | .seq x y => plainC x && plainC y
  | .cond _ x y => plainC x && plainC y
  | .block _ c => plainC c
  | _ => false
variable {Γ : Ctx} {E : Env} {R : Type} {r : R} {ds : List Deferred}
theorem codeK_in (hm : P.follows .mixedOrders = true) (hT : TysOk P Γ) (hC : CtrsOk P Γ) (hg : E.globs = Γ.globs) : ∀ {c : Code} {Q : Exit → Act → World → Prop} {s : GS} {a : Act} {w : World} {K : XE → GS → Option R},
    plainC c = true → RepOk E Γ.N s a w → codeK Γ c s K = some r → KOkD E Γ.N ds K r Q → c.wpIn (FR ro) n P Q (T ds a) w := by
  intro c
  induction c with
  | skip => intro Q s a w K _ h hr hK; exact wpIn_skip (hK .normal s a w h hr)
  | region id ops draw =>
    intro Q s a w K hp ⟨U, ob, Z, h, hU⟩ hr hK
    have hp' : ∀ o ∈ ops.toList, plainOp o = true := by simp only [plainC] at hp; exact List.all_eq_true.1 hp
    simp only [codeK] at hr
    have hQ : NoDef (fun e a w => e = .normal ∧ ∃ s, RepOk E Γ.N s a w ∧ K .normal s = some r) := ⟨fun _ _ _ ⟨_, _, h, _⟩ => h.defers, fun c a w ⟨h, _⟩ => (by cases h), fun a w ⟨h, _⟩ => (by cases h)⟩
    have h2 : ∀ a w, (Exit.normal = .normal ∧ ∃ s, RepOk E Γ.N s a w ∧ K .normal s = some r) → Q .normal (T ds a) w := fun a w ⟨_, s, h, hk⟩ => hK .normal s a w h hk
    cases draw with
    | true =>
      simp only [cond_true] at hr
      refine wpIn_region_any hm (wpAny_lift hp' hQ h2 ?_)
      exact regD_ok hT hC hg (fun s a w h hk => ⟨rfl, s, h, hk⟩) (drawn_ok (eqv_next h)) hU (by simp) hr
    | false =>
      simp only [cond_false] at hr
      refine wpIn_region (wpOps_lift hp' hQ h2 ?_)
      have := regK_ok (Q := fun e a w => e = .normal ∧ ∃ s, RepOk E Γ.N s a w ∧ K .normal s = some r) hT hC hg (B := s.next) (fun s a w h hk => ⟨rfl, s, h, hk⟩) (i := 0) (l := ops.toList) (ops := ops) (Nat.zero_le _) rfl (eqv_next h) (fun j hj => by have := hU j hj; omega) (by simp) hr
      rw [List.range_eq_range']
      simpa using this
  | seq x y ihx ihy =>
    intro Q s a w K hp h hr hK
    simp only [plainC, Bool.and_eq_true] at hp
    simp only [codeK] at hr
    refine wpIn_seq (ihx hp.1 h hr fun e s a w h hk => ?_)
    cases e with
    | normal => exact ihy hp.2 h hk hK
    | exit id => exact hK _ s a w h hk
    | ret => exact hK _ s a w h hk
  | cond c x y ihx ihy =>
    intro Q s a w K hp h hr hK
    simp only [plainC, Bool.and_eq_true] at hp
    simp only [codeK] at hr
    split at hr
    · rename_i m
      split at hr
      · rename_i t ht
        obtain ⟨U, ob, Z, h1, h2⟩ := id h
        have hv := SR.bool (ob := ob) (h1.slots m _ ht).2.1
        cases t with
        | true =>
          simp only [cond_true] at hr
          exact wpIn_cond_true (by exact hv) (ihx hp.1 (h.congr (refine_eqv ht)) hr hK)
        | false =>
          simp only [cond_false] at hr
          exact wpIn_cond_false (by exact hv) (ihy hp.2 (h.congr (refine_eqv ht)) hr hK)
      · cases hr
    · rename_i t
      cases t with
      | true => simp only [cond_true] at hr; exact wpIn_cond_true rfl (ihx hp.1 h hr hK)
      | false => simp only [cond_false] at hr; exact wpIn_cond_false rfl (ihy hp.2 h hr hK)
    · cases hr
  | block id c ih =>
    intro Q s a w K hp h hr hK
    simp only [plainC] at hp
    simp only [codeK] at hr
    refine wpIn_block (ih hp h hr fun e s a w h hk => ?_)
    cases e with
    | normal => exact hK .normal s a w h hk
    | exit j =>
      simp only at hk
      show if j = id then Q .normal (T ds a) w else Q (.exit j) (T ds a) w
      cases hb : Nat.beq j id with
      | true => rw [hb] at hk; rw [if_pos (Nat.eq_of_beq_eq_true hb)]; exact hK .normal s a w h hk
      | false => rw [hb] at hk; rw [if_neg (fun e => by rw [e, nbeq_self] at hb; cases hb)]; exact hK _ s a w h hk
    | ret => exact hK .ret s a w h hk
  | exit id => intro Q s a w K _ h hr hK; exact wpIn_exit (hK (.exit id) s a w h hr)
  | ret => intro Q s a w K _ h hr hK; exact wpIn_ret (hK .ret s a w h hr)
  | _ => intro Q s a w K hp h hr hK; simp [plainC] at hp
def listWpIn (F : Fence) (n : Nat) (P : Program) : List Code → (Exit → Act → World → Prop) → Act → World → Prop
  | [], Q => Q .normal
  | c :: l, Q => c.wpIn F n P (Exit.then (listWpIn F n P l Q) Q)
theorem listK_in (hm : P.follows .mixedOrders = true) (hT : TysOk P Γ) (hC : CtrsOk P Γ) (hg : E.globs = Γ.globs) : ∀ {l : List Code} {Q : Exit → Act → World → Prop} {s : GS} {a : Act} {w : World} {K : XE → GS → Option R},
    l.all plainC = true → RepOk E Γ.N s a w → listK Γ l s K = some r → KOkD E Γ.N ds K r Q → listWpIn (FR ro) n P l Q (T ds a) w
  | [], Q, s, a, w, K, _, h, hr, hK => hK .normal s a w h hr
  | c :: l, Q, s, a, w, K, hp, h, hr, hK => by
    simp only [listK] at hr
    simp only [List.all_cons, Bool.and_eq_true] at hp
    refine codeK_in hm hT hC hg hp.1 h hr fun e s a w h hk => ?_
    cases e with
    | normal => exact listK_in hm hT hC hg hp.2 h hk hK
    | exit id => exact hK _ s a w h hk
    | ret => exact hK _ s a w h hk
section
variable {F : Fence}
theorem listWpIn_split {l2 : List Code} {Q : Exit → Act → World → Prop} : ∀ {l1 : List Code} {a : Act} {w : World}, listWpIn F n P (l1 ++ l2) Q a w → listWpIn F n P l1 (Exit.then (listWpIn F n P l2 Q) Q) a w
  | [], a, w, h => h
  | c :: l, a, w, h => by
    refine wpIn_mono (show c.wpIn F n P (Exit.then (listWpIn F n P (l ++ l2) Q) Q) a w from h) fun e a w hq => ?_
    cases e with
    | normal => exact listWpIn_split hq
    | _ => exact hq
theorem listWpIn_append {l2 : List Code} {Q : Exit → Act → World → Prop} : ∀ {l1 : List Code} {a : Act} {w : World}, listWpIn F n P l1 (Exit.then (listWpIn F n P l2 Q) Q) a w → listWpIn F n P (l1 ++ l2) Q a w
  | [], a, w, h => h
  | c :: l, a, w, h => by
    refine wpIn_mono (show c.wpIn F n P (Exit.then (listWpIn F n P l (Exit.then (listWpIn F n P l2 Q) Q)) (Exit.then (listWpIn F n P l2 Q) Q)) a w from h) fun e a w hq => ?_
    cases e with
    | normal => exact listWpIn_append hq
    | _ => exact hq
theorem listWpIn_mono {Q Q' : Exit → Act → World → Prop} (hq : ∀ e a w, Q e a w → Q' e a w) : ∀ {l : List Code} {a : Act} {w : World}, listWpIn F n P l Q a w → listWpIn F n P l Q' a w
  | [], a, w, h => hq _ _ _ h
  | c :: l, a, w, h => by
    refine wpIn_mono (show c.wpIn F n P (Exit.then (listWpIn F n P l Q) Q) a w from h) fun e a w hq' => ?_
    cases e with
    | normal => exact listWpIn_mono hq hq'
    | _ => exact hq _ _ _ hq'
theorem flat_wpIn : ∀ {c : Code} {Q : Exit → Act → World → Prop} {a : Act} {w : World}, listWpIn F n P (flat c) Q a w → c.wpIn F n P Q a w := by
  intro c
  induction c with
  | seq x y ihx ihy =>
    intro Q a w h
    simp only [flat] at h
    refine wpIn_seq (ihx (listWpIn_mono ?_ (listWpIn_split h)))
    intro e a w hq
    cases e with
    | normal => exact ihy hq
    | _ => exact hq
  | _ =>
    intro Q a w h
    refine wpIn_mono (show Code.wpIn F n P _ (Exit.then (listWpIn F n P [] Q) Q) a w from h) fun e a w hq => ?_
    cases e <;> exact hq
end
end
end Go.Proofs.YtajpblfinenmjaaDoor
