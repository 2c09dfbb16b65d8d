/- The ghost machine and the machine: code, and the rules by which blocks, loops and branches are joined. -/
import Derived.Test.YtehbbcdhahnkgaaGreatGmDraw
import Derived.Deep.LoopGhost
set_option linter.unusedVariables false
set_option linter.unusedSimpArgs false
namespace Go.Proofs.YtehbbcdhahnkgaaGreat
open Go
def XE.out : XE → Exit
 | .normal => .normal
 | .exit id => .exit id
 | .ret => .ret
structure KOk {R : Type} (E : Env) (Γ : Ctx) (K : XE → GS → Option R) (r : R) (Q : Exit → Act → World → Prop) : Prop where
 go : ∀ e s a w, RepOk E Γ.N s a w → K e s = some r → Q e.out a w
 px : PX E Γ Q
def listWp (P : Program) : List Code → (Exit → Act → World → Prop) → Act → World → Prop
 | [], Q => Q .normal
 | c :: l, Q => c.wp P (Exit.then (listWp P l Q) Q)

section
variable {P : Program} {Γ : Ctx} {E : Env} {R : Type} {r : R}
theorem drawn_ok {N : Nat} {U : Nat → Prop} {ob : Nat → Value} {Z : Nat → Prop} {s : GS} {a : Act} {w : World} (h : RepAt E N U ob Z s a w) : RepAt E N U ob Z s a { w with drawn := w.drawn + 1 } :=
 h.world (M := fun _ => False) ⟨rfl, rfl, rfl, Nat.le_refl _, fun _ _ _ => rfl⟩ (fun _ _ h => h) (fun _ h => h.elim) (fun _ _ _ _ _ h => h)
theorem eqv_next {s : GS} {n : Nat} {N : Nat} {U : Nat → Prop} {ob : Nat → Value} {Z : Nat → Prop} {a : Act} {w : World} (h : RepAt E N U ob Z s a w) : RepAt E N U ob Z { s with next := n } a w := h.congr (fun _ => rfl) (fun _ => rfl)
theorem codeK_ok (hm : P.follows .mixedOrders = true) (hT : TysOk P Γ) (hC : CtrsOk P Γ) (hg : E.globs = Γ.globs) : ∀ {c : Code} {Q : Exit → Act → World → Prop} {s : GS} {a : Act} {w : World} {K : XE → GS → Option R},
  RepOk E Γ.N s a w → codeK Γ c s K = some r → KOk E Γ K r Q → c.wp P Q a w := by
 intro c
 induction c with
 | skip => intro Q s a w K h hr hK; exact wp_skip (hK.go .normal s a w h hr)
 | region id ops draw =>
  intro Q s a w K ⟨U, ob, Z, h, hU⟩ hr hK
  simp only [codeK] at hr
  cases draw with
  | true =>
   simp only [cond_true] at hr
   have hlen : ops.toList.length = ops.size := by simp
   exact wp_region_any hm (regD_ok hT hC hg hK.px (fun s a w h hk => hK.go .normal s a w h hk) (drawn_ok (eqv_next h)) hU (by simp) hr)
  | false =>
   simp only [cond_false] at hr
   refine wp_region ?_
   have := regK_ok (Q := Q) hT hC hg hK.px (B := s.next) (fun s a w h hk => hK.go .normal s a w h hk) (i := 0) (l := ops.toList) (ops := ops) (Nat.zero_le _) rfl (eqv_next h) (fun j hj => by have := hU j hj; omega) (by simp) hr
   rw [List.range_eq_range']
   simpa using this
 | seq x y ihx ihy =>
  intro Q s a w K h hr hK
  simp only [codeK] at hr
  refine wp_seq (ihx h hr ⟨fun e s a w h hk => ?_, hK.px⟩)
  cases e with
  | normal => exact ihy h hk hK
  | exit id => exact hK.go _ s a w h hk
  | ret => exact hK.go _ s a w h hk
 | cond c x y ihx ihy =>
  intro Q s a w K h hr hK
  simp only [codeK] at hr
  split at hr
  ·rename_i n
   split at hr
   ·rename_i t ht
    obtain ⟨U, ob, Z, h1, h2⟩ := id h
    have hv := SR.bool (ob := ob) (h1.slots n _ ht).2.1
    cases t with
    | true =>
     simp only [cond_true] at hr
     exact wp_cond_true (by exact hv) (ihx (h.congr (refine_eqv ht)) hr hK)
    | false =>
     simp only [cond_false] at hr
     exact wp_cond_false (by exact hv) (ihy (h.congr (refine_eqv ht)) hr hK)
   ·cases hr
  ·rename_i t
   cases t with
   | true => simp only [cond_true] at hr; exact wp_cond_true rfl (ihx h hr hK)
   | false => simp only [cond_false] at hr; exact wp_cond_false rfl (ihy h hr hK)
  ·cases hr
 | block id c ih =>
  intro Q s a w K h hr hK
  simp only [codeK] at hr
  refine wp_block (ih h hr ⟨fun e s a w h hk => ?_, hK.px⟩)
  cases e with
  | normal => exact hK.go .normal s a w h hk
  | exit j =>
   simp only at hk
   show if j = id then Q .normal a w else Q (.exit j) a w
   cases hb : Nat.beq j id with
   | true => rw [hb] at hk; rw [if_pos (Nat.eq_of_beq_eq_true hb)]; exact hK.go .normal s a w h hk
   | false => rw [hb] at hk; rw [if_neg (fun e => by rw [e, nbeq_self] at hb; cases hb)]; exact hK.go _ s a w h hk
  | ret => exact hK.go .ret s a w h hk
 | exit id => intro Q s a w K h hr hK; exact wp_exit (hK.go (.exit id) s a w h hr)
 | ret => intro Q s a w K h hr hK; exact wp_ret (hK.go .ret s a w h hr)
 | loop c ih => intro Q s a w K h hr hK; simp [codeK] at hr
 | rangeFunc f ps x y ihx ihy => intro Q s a w K h hr hK; simp [codeK] at hr
 | scope c ih => intro Q s a w K h hr hK; simp [codeK] at hr
 | label l => intro Q s a w K h hr hK; simp [codeK] at hr
 | goto l => intro Q s a w K h hr hK; simp [codeK] at hr
 | refuse w => intro Q s a w K h hr hK; simp [codeK] at hr

theorem listWp_append {l2 : List Code} {Q : Exit → Act → World → Prop} : ∀ {l1 : List Code} {a : Act} {w : World}, listWp P l1 (Exit.then (listWp P l2 Q) Q) a w → listWp P (l1 ++ l2) Q a w
 | [], a, w, h => h
 | c :: l, a, w, h => by
  refine wp_mono (show c.wp P (Exit.then (listWp P l (Exit.then (listWp P l2 Q) Q)) (Exit.then (listWp P l2 Q) Q)) a w from h) fun e a w hq => ?_
  cases e with
  | normal => exact listWp_append hq
  | _ => exact hq
theorem listWp_split {l2 : List Code} {Q : Exit → Act → World → Prop} : ∀ {l1 : List Code} {a : Act} {w : World}, listWp P (l1 ++ l2) Q a w → listWp P l1 (Exit.then (listWp P l2 Q) Q) a w
 | [], a, w, h => h
 | c :: l, a, w, h => by
  refine wp_mono (show c.wp P (Exit.then (listWp P (l ++ l2) Q) Q) a w from h) fun e a w hq => ?_
  cases e with
  | normal => exact listWp_split hq
  | _ => exact hq
theorem flat_wp : ∀ {c : Code} {Q : Exit → Act → World → Prop} {a : Act} {w : World}, listWp P (flat c) Q a w → c.wp P Q a w := by
 intro c
 induction c with
 | seq x y ihx ihy =>
  intro Q a w h
  simp only [flat] at h
  refine wp_seq (ihx (listWp_split h |> fun h => ?_))
  have : ∀ {l : List Code} {a : Act} {w : World}, listWp P l (Exit.then (listWp P (flat y) Q) Q) a w → listWp P l (Exit.then (y.wp P Q) Q) a w := by
   intro l
   induction l with
   | nil => intro a w h; exact ihy h
   | cons c l ih =>
    intro a w h
    refine wp_mono (show c.wp P (Exit.then (listWp P l (Exit.then (listWp P (flat y) Q) Q)) (Exit.then (listWp P (flat y) Q) Q)) a w from h) fun e a w hq => ?_
    cases e with
    | normal => exact ih hq
    | _ => exact hq
  exact this h
 | _ =>
  intro Q a w h
  refine wp_mono (show Code.wp P _ (Exit.then (listWp P [] Q) Q) a w from h) fun e a w hq => ?_
  cases e <;> exact hq
theorem listK_ok (hm : P.follows .mixedOrders = true) (hT : TysOk P Γ) (hC : CtrsOk P Γ) (hg : E.globs = Γ.globs) : ∀ {l : List Code} {Q : Exit → Act → World → Prop} {s : GS} {a : Act} {w : World} {K : XE → GS → Option R},
  RepOk E Γ.N s a w → listK Γ l s K = some r → KOk E Γ K r Q → listWp P l Q a w
 | [], Q, s, a, w, K, h, hr, hK => hK.go .normal s a w h hr
 | c :: l, Q, s, a, w, K, h, hr, hK => by
  simp only [listK] at hr
  refine codeK_ok hm hT hC hg h hr ⟨fun e s a w h hk => ?_, hK.px⟩
  cases e with
  | normal => exact listK_ok hm hT hC hg h hk hK
  | exit id => exact hK.go _ s a w h hk
  | ret => exact hK.go _ s a w h hk

theorem lookAll_ok {N : Nat} {U : Nat → Prop} {ob : Nat → Value} {Z : Nat → Prop} {s : GS} {a : Act} {w : World} (h : RepAt E N U ob Z s a w) : ∀ {ns : List Nat} {gs : List GV}, lookAll s.slots ns = some gs →
  All2 (VR w Z ob) gs (ns.map fun n => a.tmps.getD n undef) ∧ ∀ n ∈ ns, n < N
 | [], gs, hl => by simp only [lookAll] at hl; cases hl; exact ⟨trivial, by simp⟩
 | n :: ns, gs, hl => by
  simp only [lookAll] at hl
  split at hl
  ·rename_i g l hg hls
   cases hl
   obtain ⟨q1, q2⟩ := lookAll_ok h hls
   obtain ⟨q3, q4, _⟩ := h.slots n g hg
   exact ⟨⟨q4, q1⟩, fun m hm => (List.mem_cons.1 hm).elim (fun e => e ▸ q3) (q2 m)⟩
  ·cases hl
theorem pinB_at {np : Nat} : ∀ {ρ : List (Option Nat)} {k0 : Nat}, pinB np k0 ρ = true → ∀ k, k0 + k < np → k < ρ.length → ρ[k]? = some (some (k0 + k))
 | [], k0, h, k, h1, h2 => by simp at h2
 | q :: ρ, k0, h, k, h1, h2 => by
  simp only [pinB, Bool.and_eq_true] at h
  cases k with
  | zero =>
   have hb : Nat.blt k0 np = true := Nat.ble_eq_true_of_le (by omega : k0 + 1 ≤ np)
   have := h.1
   rw [hb, cond_true] at this
   cases q with
   | none => simp at this
   | some i => simp only at this; rw [Nat.eq_of_beq_eq_true this]; rfl
  | succ k =>
   have := pinB_at h.2 k (by omega) (by simpa using h2)
   rw [show k0 + (k + 1) = k0 + 1 + k by omega]
   simpa using this
theorem fit_ok {N np : Nat} {ns : List Nat} {c : Spec} {s : GS} {y : c.den} {a : Act} {w : World} (hp : ∀ p ∈ E.pins, p.1 < np) (h : RepOk E N s a w) (hf : fit np ns c s = some y) : RepOk E N (c.st ns y) a w := by
 obtain ⟨U, ob, Z, h, _⟩ := h
 unfold fit at hf
 split at hf
 ·cases hf
 ·rename_i gs hgs
  split at hf
  ·cases hf
  ·rename_i f hfit
   obtain ⟨hc, hf⟩ := cond_some hf
   subst hf
   simp only [Bool.and_eq_true] at hc
   have hnp := Nat.le_of_ble_eq_true hc.1
   obtain ⟨q1, q2⟩ := lookAll_ok h hgs
   obtain ⟨pa, pb, p1, p2, p3, p4, p5, p6, p7⟩ := fitG_parts hfit
   have hL0 : ∀ b, Lz ob Z f.lent b → b < E.w0.heap.size → E.Z0 b ∨ E.M b := by
    rintro b (hb | ⟨i, hi, hb⟩) hl
    ·exact h.z0 b hb hl
    ·have : ∃ o, look i s.objs = some o := by
      rw [p4] at hi
      rcases List.mem_append.1 hi with hi | hi
      ·exact fitKs_lent p1 i hi
      ·exact fitOs_lent p2 i hi
     obtain ⟨o, q⟩ := this
     cases hown : o.own with
     | true => exact .inr ((h.own i o q hown b hb).2.resolve_right (by omega))
     | false => exact h.z0 b ((h.objs i o q).2.1.block_Z hown b hb) hl
   refine ⟨_, _, _, fit_rep (E' := E) (N' := N) (ns := ns) (a' := a) h (fun i o h => h) q1 hfit h.defers h.size (fun i n u hn hu => ?_) h.kept hL0 (fun k i o b _ h2 h3 h4 => (h.own i o h2 h3 b h4).2) rfl (fun p hpp => ?_), fun j hj => hj⟩
   ·have : u = a.tmps.getD n undef := by
     rw [List.getElem?_map, hn] at hu; simpa using hu.symm
    exact ⟨q2 n (List.mem_of_getElem? hn), this⟩
   ·have hlt := hp p hpp
    have hat := pinB_at hc.2 p.1 (by omega) (by rw [p7]; omega)
    rw [Nat.zero_add] at hat
    exact ⟨(obOf_at hat).trans (h.pins p hpp).1, by omega⟩
end

section
variable (P : Program) (Γ : Ctx) (E : Env) {R : Type}
def NxOk (l : List Code) (X : GS → Option R) (K : XE → GS → Option R) : Prop := ∀ s r Q, X s = some r → KOk E Γ K r Q → ∀ a w, RepOk E Γ.N s a w → listWp P l Q a w
def Blk (ns : List Nat) (c : Spec) (l : List Code) (F : c.den → Option R) (K : XE → GS → Option R) : Prop := ∀ x r Q, F x = some r → KOk E Γ K r Q → ∀ a w, RepOk E Γ.N (c.st ns x) a w → listWp P l Q a w
structure Base (np : Nat) : Prop where
 mixed : P.follows .mixedOrders = true
 tys : TysOk P Γ
 ctrs : CtrsOk P Γ
 globs : E.globs = Γ.globs
 pins : ∀ p ∈ E.pins, p.1 < np
end
section
variable {P : Program} {Γ : Ctx} {E : Env} {R : Type} {np : Nat}
noncomputable def goK (np : Nat) (ns : List Nat) (c : Spec) (F : c.den → Option R) (s : GS) : Option R := Option.rec (motive := fun _ => Option R) none F (fit np ns c s)
theorem goK_some {ns : List Nat} {c : Spec} {F : c.den → Option R} {s : GS} {r : R} (h : goK np ns c F s = some r) : ∃ y, fit np ns c s = some y ∧ F y = some r := by
 unfold goK at h
 cases hf : fit np ns c s with
 | none => rw [hf] at h; cases h
 | some y => rw [hf] at h; exact ⟨y, rfl, h⟩
def nextK (X : GS → Option R) (K : XE → GS → Option R) : XE → GS → Option R
 | .normal, s => X s
 | e, s => K e s
theorem NxOk.go (hb : Base P Γ E np) {ns : List Nat} {c : Spec} {l : List Code} {F : c.den → Option R} {K : XE → GS → Option R} (h : Blk P Γ E ns c l F K) : NxOk P Γ E l (goK np ns c F) K := by
 intro s r Q hX hK a w hrep
 obtain ⟨y, hy, hF⟩ := goK_some hX
 exact h y r Q hF hK a w (fit_ok hb.pins hrep hy)
theorem NxOk.nil {K : XE → GS → Option R} : NxOk P Γ E [] (K .normal) K := fun s r Q hX hK a w hrep => hK.go .normal s a w hrep hX
theorem NxOk.skip {K : XE → GS → Option R} : NxOk P Γ E [.skip] (K .normal) K := fun s r Q hX hK a w hrep => wp_skip (hK.go .normal s a w hrep hX)
theorem NxOk.after {l : List Code} {X : GS → Option R} {K : XE → GS → Option R} (h : NxOk P Γ E l X K) {r : R} {Q : Exit → Act → World → Prop} (hK : KOk E Γ K r Q) : KOk E Γ (nextK X K) r (Exit.then (listWp P l Q) Q) := by
 refine ⟨?_, hK.px⟩
 intro e s a w hrep hk
 cases e with
 | normal => exact h s r Q hk hK a w hrep
 | exit id => exact hK.go _ s a w hrep hk
 | ret => exact hK.go _ s a w hrep hk
theorem Blk.chunk (hb : Base P Γ E np) {ns : List Nat} {c : Spec} {l : List Code} {F : c.den → Option R} {K : XE → GS → Option R} (n : Nat) {X : GS → Option R} (hX : NxOk P Γ E (l.drop n) X K)
  (hF : ∀ x, F x = listK Γ (l.take n) (c.st ns x) (nextK X K)) : Blk P Γ E ns c l F K := by
 intro x r Q hr hK a w hrep
 rw [hF] at hr
 rw [← List.take_append_drop n l]
 exact listWp_append (listK_ok hb.mixed hb.tys hb.ctrs hb.globs hrep hr (hX.after hK))
theorem Blk.last (hb : Base P Γ E np) {ns : List Nat} {c : Spec} {l : List Code} {F : c.den → Option R} {K : XE → GS → Option R} (hF : ∀ x, F x = listK Γ l (c.st ns x) K) : Blk P Γ E ns c l F K := by
 intro x r Q hr hK a w hrep
 rw [hF] at hr
 exact listK_ok hb.mixed hb.tys hb.ctrs hb.globs hrep hr hK
theorem Blk.into {ns : List Nat} {c : Spec} {l : List Code} {F : c.den → Option R} {K : XE → GS → Option R} {X : GS → Option R} (hX : NxOk P Γ E l X K) (hF : ∀ x, F x = X (c.st ns x)) : Blk P Γ E ns c l F K := by
 intro x r Q hr hK a w hrep
 rw [hF] at hr
 exact hX _ r Q hr hK a w hrep
def blockK (id : Nat) (X : GS → Option R) (K : XE → GS → Option R) : XE → GS → Option R
 | .normal, s => X s
 | .exit j, s => bif Nat.beq j id then X s else K (.exit j) s
 | .ret, s => K .ret s
theorem NxOk.block {l : List Code} {X : GS → Option R} {K : XE → GS → Option R} (h : NxOk P Γ E l X K) {r : R} {Q : Exit → Act → World → Prop} {id : Nat} (hK : KOk E Γ K r Q) : KOk E Γ (blockK id X K) r (Exit.inBlock id (Exit.then (listWp P l Q) Q)) := by
 refine ⟨?_, hK.px⟩
 intro e s a w hrep hk
 cases e with
 | normal => exact h s r Q hk hK a w hrep
 | exit j =>
  simp only [blockK] at hk
  show if j = id then listWp P l Q a w else Q (.exit j) a w
  cases hb : Nat.beq j id with
  | true => rw [hb] at hk; rw [if_pos (Nat.eq_of_beq_eq_true hb)]; exact h s r Q hk hK a w hrep
  | false => rw [hb] at hk; rw [if_neg (fun e => by rw [e, nbeq_self] at hb; cases hb)]; exact hK.go _ s a w hrep hk
 | ret => exact hK.go .ret s a w hrep hk
theorem Blk.block {ns : List Nat} {c : Spec} {id : Nat} {b : Code} {l : List Code} {F : c.den → Option R} {K : XE → GS → Option R} {X Y : GS → Option R} (hX : NxOk P Γ E l X K) (hY : NxOk P Γ E (flat b) Y (blockK id X K))
  (hF : ∀ x, F x = Y (c.st ns x)) : Blk P Γ E ns c (.block id b :: l) F K := by
 intro x r Q hr hK a w hrep
 rw [hF] at hr
 exact wp_block (flat_wp (hY _ r _ hr (hX.block hK) a w hrep))
def condK (n : Nat) (A B : GS → Option R) (s : GS) : Option R := match look n s.slots with
 | some (.sv (.data .bool t)) => bif t then A (s.refine n true) else B (s.refine n false)
 | _ => none
theorem Blk.cond {ns : List Nat} {c : Spec} {n : Nat} {x y : Code} {l : List Code} {F : c.den → Option R} {K : XE → GS → Option R} {X A B : GS → Option R} (hX : NxOk P Γ E l X K)
  (hA : NxOk P Γ E (flat x) A (nextK X K)) (hB : NxOk P Γ E (flat y) B (nextK X K)) (hF : ∀ z, F z = condK n A B (c.st ns z)) : Blk P Γ E ns c (.cond (.tmp n) x y :: l) F K := by
 intro z r Q hr hK a w hrep
 rw [hF] at hr
 unfold condK at hr
 split at hr
 ·rename_i t ht
  obtain ⟨U, ob, Z, h1, h2⟩ := id hrep
  have hv := SR.bool (ob := ob) (h1.slots n _ ht).2.1
  cases t with
  | true =>
   simp only [cond_true] at hr
   exact wp_cond_true (by exact hv) (flat_wp (hA _ r _ hr (hX.after hK) a w (hrep.congr (refine_eqv ht))))
  | false =>
   simp only [cond_false] at hr
   exact wp_cond_false (by exact hv) (flat_wp (hB _ r _ hr (hX.after hK) a w (hrep.congr (refine_eqv ht))))
 ·cases hr
def roundK {S T : Type} (bid : Option Nat) (go : GS → Option S) (br : GS → Option T) (K : XE → GS → Option R) : XE → GS → Option (Lo S T R)
 | .normal, s => (go s).map .go
 | .exit j, s => bif (match bid with
  | some id => Nat.beq j id
  | none => false) then (br s).map .br else (K (.exit j) s).map .rt
 | .ret, s => (K .ret s).map .rt
theorem iterK_succ {S T : Type} (step : S → Option (Lo S T R)) (J : T → Option R) (n : Nat) (y : S) : iterK step J (n + 1) y = (step y).bind fun o => match o with
  | .go x' => iterK step J n x'
  | .br e => J e
  | .rt r => some r := by
 unfold iterK
 show Option.bind _ _ = Option.bind _ _
 congr 1
 funext o
 cases o <;> rfl
theorem iter_ok {hns ans : List Nat} {hc ac : Spec} {b : Code} {l : List Code} {K : XE → GS → Option R} {step : hc.den → Option (Lo hc.den ac.den R)} {J : ac.den → Option R} (hb : Base P Γ E np) {bid : Nat}
  (hJ : Blk P Γ E ans ac l J K) (hS : Blk P Γ E hns hc (flat b) step (roundK (some bid) (fit np hns hc) (fit np ans ac) K)) {n : Nat} {y : hc.den} {r : R} {Q : Exit → Act → World → Prop} (hr : iterK step J n y = some r) (hK : KOk E Γ K r Q) {a : Act} {w : World} (hrep : RepOk E Γ.N (hc.st hns y) a w) :
  (Code.loop b).wp P (Exit.inBlock bid (Exit.then (listWp P l Q) Q)) a w := by
 refine wp_loop_ghost (fun n a w => ∃ y, iterK step J n y = some r ∧ RepOk E Γ.N (hc.st hns y) a w) n ⟨y, hr, hrep⟩ ?_
 rintro n a w ⟨y, hr, hrep⟩
 cases n with
 | zero => cases hr
 | succ n =>
  have hr' := hr
  rw [iterK_succ] at hr'
  obtain ⟨o, ho, hr'⟩ := Option.bind_eq_some_iff.1 hr'
  refine flat_wp (hS y o _ ho ?_ a w hrep)
  refine ⟨?_, hK.px⟩
  intro e s a w hrep hk
  cases e with
  | normal =>
   obtain ⟨y', h1, h2⟩ := Option.map_eq_some_iff.1 (show (fit np hns hc s).map .go = some o from hk)
   subst h2
   exact ⟨n, Nat.lt_succ_self n, y', hr', fit_ok hb.pins hrep h1⟩
  | exit j =>
   show if j = bid then listWp P l Q a w else Q (.exit j) a w
   simp only [roundK] at hk
   cases hb' : Nat.beq j bid with
   | true =>
    rw [hb'] at hk
    simp only [cond_true] at hk
    rw [if_pos (Nat.eq_of_beq_eq_true hb')]
    obtain ⟨y', h1, h2⟩ := Option.map_eq_some_iff.1 hk
    subst h2
    exact hJ y' r Q hr' hK a w (fit_ok hb.pins hrep h1)
   | false =>
    rw [hb'] at hk
    simp only [cond_false] at hk
    rw [if_neg (fun e => by rw [e, nbeq_self] at hb'; cases hb')]
    obtain ⟨r', h1, h2⟩ := Option.map_eq_some_iff.1 hk
    subst h2
    simp only [Option.some.injEq] at hr'
    subst hr'
    exact hK.go _ s a w hrep h1
  | ret =>
   obtain ⟨r', h1, h2⟩ := Option.map_eq_some_iff.1 (show (K .ret s).map .rt = some o from hk)
   subst h2
   simp only [Option.some.injEq] at hr'
   subst hr'
   exact hK.go .ret s a w hrep h1
theorem Blk.loop (hb : Base P Γ E np) {ns hns ans : List Nat} {c hc ac : Spec} {b : Code} {l : List Code} {F : c.den → Option R} {K : XE → GS → Option R} {step : hc.den → Option (Lo hc.den ac.den R)} {J : ac.den → Option R} {bid Nf : Nat}
  (hJ : Blk P Γ E ans ac l J K) (hS : Blk P Γ E hns hc (flat b) step (roundK (some bid) (fit np hns hc) (fit np ans ac) K)) (hF : ∀ x, F x = goK np hns hc (loopK Nf step J) (c.st ns x)) :
  Blk P Γ E ns c (.block bid (.loop b) :: l) F K := by
 intro x r Q hr hK a w hrep
 rw [hF] at hr
 obtain ⟨y, hy, hr⟩ := goK_some hr
 exact wp_block (iter_ok hb hJ hS (show iterK step J Nf y = some r from hr) hK (fit_ok hb.pins hrep hy))
end
end Go.Proofs.YtehbbcdhahnkgaaGreat
