/- The ghost machine: a test whether a slice is nil, where both answers may come. -/
import Derived.Test.YtgbkkfpheahdfaaGmRule
set_option linter.unusedVariables false
set_option linter.unusedSimpArgs false
namespace Go.Proofs.Ytgbkkfpheahdfaa
open Go
theorem ops_step {P : Program} {ops : Array Oper} {Q : Exit → Act → World → Prop} {i : Nat} {rest : List Nat} {o : Oper} {a : Act} {w : World} (hi : ops[i]? = some o) (hg : o.guard = none) (h : o.wp P a w (wpOps P ops Q rest) Q) : wpOps P ops Q (i :: rest) a w := by
  simp only [wpOps, hi]
  rw [if_pos (by simp [Region.wanted, hg])]
  exact .inl h
section
variable {P : Program} {w : World}
theorem equalIn_nil {t e : TypeId} (d : Nat) (hu : P.underlying t = some (.slice e)) (A : Option Addr) (n c : Nat) : (Op.equalIn (d + 1) t (.slice A n c) (.slice none 0 0)).run P w = .ok A.isNone w := by
  cases A <;> simp [Op.equalIn, run_underlying hu]
theorem equal_nil {t e : TypeId} (hu : P.underlying t = some (.slice e)) (A : Option Addr) (n c : Nat) : (Op.equal t (.slice A n c) (.slice none 0 0)).run P w = .ok A.isNone w := equalIn_nil 9999 hu A n c
theorem eqGuard_nil (t : TypeId) (x y : Operand) (A : Option Addr) (n c : Nat) : (eqGuard .eql t x y (.slice A n c) (.slice none 0 0)).run P w = .ok () w := by
  unfold eqGuard; simp
end
section
variable {P : Program} {Γ : Ctx} {E : Env} {R : Type} {np : Nat}
/-- The state behind the test. -/
def nilS {t : Ty} (s : GS) (d d' : Nat) (x : List t.den) (b : Bool) : GS := (s.put (.slot d (some (.sv (.data (.sl t) x))))).put (.slot d' (some (.sv (.data .bool b))))
theorem Blk.isNil {t : Ty} (hb : Base P Γ E np) {ns : List Nat} {c : Spec} {l : List Code} {i id m d d' : Nat} {ty e t1 t2 : TypeId} {p1 p2 : String} {e1 e2 : Array Edge} {F : c.den → Option R} {K : XE → GS → Option R}
    (hl : l[i]? = some (.region id #[⟨some d, .move (.tmp m), t1, p1, e1, none⟩, ⟨some d', .binOp .eql ty (.tmp d) (.const (.slice none 0 0)) ty, t2, p2, e2, none⟩] false))
    (hu : P.underlying ty = some (.slice e)) (hd : Nat.blt d Γ.N = true) (hd' : Nat.blt d' Γ.N = true) (x : c.den → List t.den) (hx : ∀ z, look m (c.st ns z).slots = some (.sv (.data (.sl t) (x z))))
    (hA : ∀ z, x z = [] → F z = listK Γ (l.drop (i + 1)) (nilS (c.st ns z) d d' (x z) true) K) (hB : ∀ z, F z = listK Γ (l.drop (i + 1)) (nilS (c.st ns z) d d' (x z) false) K) : Blk P Γ E ns c (l.drop i) F K := by
  intro z r Q hF hK a w hrep
  rw [drop_at hl]
  obtain ⟨U, ob, Z, h, hU⟩ := hrep
  refine wp_region ?_
  show wpOps P _ _ [0, 1] a w
  obtain ⟨hm, hv, hi⟩ := h.slots m _ (hx z)
  refine ops_step (o := ⟨some d, .move (.tmp m), t1, p1, e1, none⟩) rfl rfl ?_
  unfold Oper.wp
  rw [show (execOp a.eval (⟨some d, .move (.tmp m), t1, p1, e1, none⟩ : Oper)).run P w = .ok (.value (a.tmps.getD m undef)) w by simp [execOp, Act.eval], Oper.upon_value]
  have h1 := h.slot (d := d) (Nat.lt_of_lt_of_le (Nat.lt_succ_self d) (Nat.le_of_ble_eq_true hd)) hv hi
  obtain ⟨_, ⟨vs, ⟨A, n, rfl, hle, hmax, hA'⟩, hv1⟩, _⟩ := h1.slots d _ (look_lput_same d _ _)
  have hv1 : (a.put (some d) (a.tmps.getD m undef)).tmps.getD d undef = .slice A (x z).length n := hv1
  generalize a.put (some d) (a.tmps.getD m undef) = a1 at h1 hv1
  refine ops_step (o := ⟨some d', .binOp .eql ty (.tmp d) (.const (.slice none 0 0)) ty, t2, p2, e2, none⟩) rfl rfl ?_
  unfold Oper.wp
  rw [show (execOp a1.eval (⟨some d', .binOp .eql ty (.tmp d) (.const (.slice none 0 0)) ty, t2, p2, e2, none⟩ : Oper)).run P w = .ok (.value (.bool A.isNone)) w by
    simp only [execOp, Act.eval, hv1]
    rw [Sem.run_bind, Sem.run_bind, eqGuard_nil, Result.andThen_ok]
    simp only [binOp]
    rw [Sem.run_bind, equal_nil hu, Result.andThen_ok]
    rfl, Oper.upon_value]
  have h2 := h1.slot (d := d') (Nat.lt_of_lt_of_le (Nat.lt_succ_self d') (Nat.le_of_ble_eq_true hd')) (g := .sv (.data .bool A.isNone)) (v := .bool A.isNone) (show VR w Z ob (.sv (.data .bool A.isNone)) (.bool A.isNone) from sr_bool (w := w) (Z := Z) (ob := ob) A.isNone) trivial
  have hrep : RepOk E Γ.N (nilS (c.st ns z) d d' (x z) A.isNone) (a1.put (some d') (.bool A.isNone)) w := ⟨U, ob, Z, h2, hU⟩
  show listWp P (l.drop (i + 1)) Q _ w
  cases A with
  | none =>
    have hx0 : x z = [] := by
      cases hq : x z with
      | nil => rfl
      | cons y ys =>
        obtain ⟨b, o, uss, he, _⟩ := hA' (by rw [hq]; simp)
        cases he
    rw [hA z hx0] at hF
    exact listK_ok hb.mixed hb.tys hb.ctrs hb.globs hrep hF hK
  | some A =>
    rw [hB z] at hF
    exact listK_ok hb.mixed hb.tys hb.ctrs hb.globs hrep hF hK
end
end Go.Proofs.Ytgbkkfpheahdfaa
