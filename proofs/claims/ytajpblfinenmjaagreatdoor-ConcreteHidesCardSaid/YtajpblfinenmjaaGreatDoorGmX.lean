/- The ghost machine: an evaluator of the program's text over plain data, and its soundness. -/
import Derived.Test.YtajpblfinenmjaaGreatDoorGmRule
set_option linter.unusedVariables false
set_option linter.unusedSimpArgs false
namespace Go.Proofs.YtajpblfinenmjaaGreatDoor
open Go
def BkP (P : Program) {R : Type} (np : Nat) (Γ : Ctx) (ns : List Nat) (c : Spec) (l : List Code) (F : c.den → Option R) (K : XE → GS → Option R) : Prop := ∀ {E : Env}, Base P Γ E np → Blk P Γ E ns c l F K
section
variable {P : Program} {Γ : Ctx} {R : Type} {np : Nat} {ns ms : List Nat} {c d : Spec} {l : List Code} {i j : Nat} {F : c.den → Option R} {G : d.den → Option R} {K : XE → GS → Option R}
theorem cE (n : Nat) (h : Nat.ble l.length (i + n) = true := by kernel_rfl) (hF : ∀ x, F x = listK Γ ((l.drop i).take n) (c.st ns x) (nextK (K .normal) K) := by intro; kernel_rfl) : BkP P np Γ ns c (l.drop i) F K :=
 fun hb => Blk.chunkAt hb n (NxOk.end h) rfl hF
theorem cG (n : Nat) (h : BkP P np Γ ms d (l.drop j) G K) (hj : i + n = j := by rfl) (hF : ∀ x, F x = listK Γ ((l.drop i).take n) (c.st ns x) (nextK (goK np ms d G) K) := by intro; kernel_rfl) : BkP P np Γ ns c (l.drop i) F K :=
 fun hb => Blk.chunkAt hb n (NxOk.go hb (h hb)) hj hF
variable {hns : List Nat} {bid : Nat}
theorem lG (N : Nat) (hc : Spec) (ans : List Nat) (ac : Spec) {step : hc.den → Option (Lo hc.den ac.den R)} (h : BkP P np Γ ms d (l.drop (i + 1)) G K) (hS : BkP P np Γ hns hc ((loopOf (l[i]?)).drop 0) step (roundK (some bid) (fit np hns hc) (fit np ans ac) K))
  (hi : isLoop bid (l[i]?) = true := by kernel_rfl) (hF : ∀ x, F x = goK np hns hc (loopK N step (fun e => goK np ms d G (ac.st ans e))) (c.st ns x) := by intro; kernel_rfl) : BkP P np Γ ns c (l.drop i) F K :=
 fun hb => Blk.loopAt hb hi (Blk.into (NxOk.go hb (h hb)) fun _ => rfl) (hS hb) hF
theorem lE (N : Nat) (hc : Spec) (ans : List Nat) (ac : Spec) {step : hc.den → Option (Lo hc.den ac.den R)} (hS : BkP P np Γ hns hc ((loopOf (l[i]?)).drop 0) step (roundK (some bid) (fit np hns hc) (fit np ans ac) K))
  (hi : isLoop bid (l[i]?) = true := by kernel_rfl) (h : Nat.ble l.length (i + 1) = true := by kernel_rfl) (hF : ∀ x, F x = goK np hns hc (loopK N step (fun e => K .normal (ac.st ans e))) (c.st ns x) := by intro; kernel_rfl) : BkP P np Γ ns c (l.drop i) F K :=
 fun hb => Blk.loopAt hb hi (Blk.into (NxOk.end h) fun _ => rfl) (hS hb) hF
def CsP (P : Program) (gl : List (Nat × Dt)) (l : List (Nat × Ctr)) : Prop := ∀ p ∈ l, p.2.ok P gl p.1
theorem csn {gl : List (Nat × Dt)} : CsP P gl [] := fun _ h => by cases h
theorem csc {gl : List (Nat × Dt)} {f : Nat} {c : Ctr} {l : List (Nat × Ctr)} (h : c.ok P gl f) (t : CsP P gl l) : CsP P gl ((f, c) :: l) := fun p hp => by
 cases hp with
 | head => exact h
 | tail _ hp => exact t p hp
end
end Go.Proofs.YtajpblfinenmjaaGreatDoor

namespace Go.Proofs.YtajpblfinenmjaaGreatDoor
open Go
def cutL (nd : List Loc) (l0 : Loc) (rd : List Loc) : List Loc := nd ++ rd.filter fun l => !(l.1 == l0.1 && Nat.beq l.2 l0.2)
def rdX (p : Nat) (nd : List Loc) (l0 : Loc) (i : Nat) (rd : List Loc) : List Loc := if i = p then cutL nd l0 rd else rd
def mapX (p : Nat) (nd : List Loc) (l0 : Loc) : Nat → Tr → List (List Loc × List Loc)
 | _, [] => []
 | i, x :: t => (rdX p nd l0 i x.2, x.1.map Wr.at) :: mapX p nd l0 (i + 1) t
theorem zw3m (p : Nat) (nd : List Loc) (l0 : Loc) : ∀ (i : Nat) {t : Tr} {k : Nat}, k < t.length → (mapX p nd l0 i t)[k]? = some (rdX p nd l0 (i + k) (t.getD k ([], [])).2, (t.w k).map Wr.at)
 | i, [], k, h => absurd h (by simp)
 | i, x :: t, 0, h => rfl
 | i, x :: t, k + 1, h => by
  have := zw3m p nd l0 (i + 1) (t := t) (k := k) (by simpa using h)
  rw [show i + (k + 1) = i + 1 + k by omega]
  simpa [mapX, Tr.w] using this
def regDX (Γ : Ctx) {R : Type} (p : Nat) (nd : List Loc) (l0 : Loc) (ops : List Oper) (B : Nat) : List Oper → Nat → List (List Loc × List Loc) → GS → (GS → Option R) → Option R
 | [], _, acc, s, K => bif drawOk (zw15 ops) [] acc && backB 0 ops then K s else none
 | o :: l, i, acc, s, K => (opRT Γ ops (B + 4 * i) o).runD [] s fun s' rd wr => regDX Γ p nd l0 ops B l (i + 1) (acc ++ [(bif Nat.beq i p then cutL nd l0 rd else rd, wr)]) s' K
def zw3n (Γ : Ctx) (ops : List Oper) (B : Nat) (s : GS) (t : Tr) : Prop := t.length = ops.length ∧ ∀ k o, ops[k]? = some o → ∃ ws rd, t[k]? = some (ws, rd) ∧ ∀ σ, agree rd (s.app ((t.take k).flatMap (·.1))) σ → (opRT Γ ops (B + 4 * k) o).run σ = some ws
theorem zw5p {Γ : Ctx} {p : Nat} {nd : List Loc} {l0 : Loc} {R : Type} {r : R} {K : GS → Option R} {ops : List Oper} {B : Nat} : ∀ {l : List Oper} {i : Nat} {acc : List (List Loc × List Loc)} {s : GS}, regDX Γ p nd l0 ops B l i acc s K = some r →
  ∃ (t : Tr) (sN : GS), t.length = l.length ∧ (∀ k o, l[k]? = some o → ∃ ws rd, t[k]? = some (ws, rd) ∧ ∀ σ, agree rd (s.app ((t.take k).flatMap (·.1))) σ → (opRT Γ ops (B + 4 * (i + k)) o).run σ = some ws) ∧
   (s.app (t.flatMap (·.1))).eqv sN ∧ K sN = some r ∧ drawOk (zw15 ops) [] (acc ++ mapX p nd l0 i t) = true ∧ backB 0 ops = true
 | [], i, acc, s, h => by
  simp only [regDX] at h
  obtain ⟨hc, h⟩ := zw1p h
  simp only [Bool.and_eq_true] at hc
  exact ⟨[], s, rfl, fun k o hk => by simp at hk, GS.eqv.refl _, h, by simpa [mapX] using hc.1, hc.2⟩
 | o :: l, i, acc, s, h => by
  simp only [regDX] at h
  obtain ⟨ws, s1, rd, h1, h2, h3, h4⟩ := zw7v h
  obtain ⟨t, sN, q1, q2, q3, q4, q5, q6⟩ := zw5p h2
  have he : (s.app ws).eqv (s1.app ws) := h1.app
  refine ⟨(ws, rd) :: t, sN, by simp [q1], fun k o' hk => ?_, ?_, q4, ?_, q6⟩
  ·cases k with
   | zero =>
    simp at hk; subst hk
    exact ⟨ws, rd, rfl, fun σ hσ => h4 σ (by simpa [zw1d] using hσ)⟩
   | succ k =>
    obtain ⟨ws', rd', p1, p2⟩ := q2 k o' (by simpa using hk)
    refine ⟨ws', rd', by simpa using p1, fun σ hσ => ?_⟩
    rw [show i + (k + 1) = i + 1 + k by omega]
    refine p2 σ fun l hl => ?_
    have := hσ l hl
    simp only [List.take_succ_cons, List.flatMap_cons] at this
    rw [zw16] at this
    exact zw28 (zw29 (zw3e (GS.eqv.app he) l)) this
  ·simp only [List.flatMap_cons]
   rw [zw16]
   exact (GS.eqv.app he).trans q3
  ·have hb : (bif Nat.beq i p then cutL nd l0 rd else rd) = rdX p nd l0 i rd := by
    unfold rdX
    by_cases e : i = p
    ·subst e; rw [if_pos rfl, Nat.beq_refl]; rfl
    ·rw [if_neg e, zw2p e]; rfl
   rw [hb] at q5
   simpa [mapX] using q5
theorem zwey {t : Tr} {l : Loc} {p : Nat → Bool} (h : ∀ j k, j < k → k < t.length → l ∈ (t.w j).map Wr.at → l ∈ (t.w k).map Wr.at → p k = true → p j = true) : ∀ n, n ≤ t.length → ∃ k, k ≤ n ∧ ∀ j, j < n → l ∈ (t.w j).map Wr.at → (j < k ↔ p j = true) := by
 intro n
 induction n with
 | zero => intro _; exact ⟨0, Nat.le_refl _, fun j hj => absurd hj (by omega)⟩
 | succ n ih =>
  intro hn
  obtain ⟨k, h1, h2⟩ := ih (by omega)
  by_cases hw : l ∈ (t.w n).map Wr.at
  ·cases hp : p n with
   | true =>
    refine ⟨n + 1, Nat.le_refl _, fun j hj hl => ⟨fun _ => ?_, fun _ => hj⟩⟩
    rcases Nat.lt_or_ge j n with hjn | hjn
    ·exact h j n hjn (by omega) hl hw hp
    ·have : j = n := by omega
     subst this; exact hp
   | false =>
    refine ⟨k, by omega, fun j hj hl => ?_⟩
    rcases Nat.lt_or_ge j n with hjn | hjn
    ·exact h2 j hjn hl
    ·have : j = n := by omega
     subst this
     exact ⟨fun h => by omega, fun h => by rw [hp] at h; cases h⟩
  ·refine ⟨k, by omega, fun j hj hl => ?_⟩
   rcases Nat.lt_or_ge j n with hjn | hjn
   ·exact h2 j hjn hl
   ·have : j = n := by omega
    subst this; exact absurd hl hw
section
variable {P : Program} {Γ : Ctx} {E : Env} {Q : Exit → Act → World → Prop}
theorem zwez (hT : TysOk P Γ) (hC : CtrsOk P Γ) (hg : E.globs = Γ.globs) {R : Type} {r : R} {K : GS → Option R} {ops : Array Oper} {B : Nat} {s : GS} {U : Nat → Prop} {ob : Nat → Value} {Z : Nat → Prop} {a : Act} {w : World} {p : Nat} {nd : List Loc} {l0 : Loc}
  (hK : ∀ s a w, RepOk E Γ.N s a w → K s = some r → Q .normal a w) (h : RepAt E Γ.N U ob Z s a w) (hU : ∀ j, U j → j < B) (hn : s.next = B + 4 * ops.size) (hr : regDX Γ p nd l0 ops.toList B ops.toList 0 [] s K = some r)
  (hfree : ∀ t : Tr, zw3n Γ ops.toList B s t → ∀ k, k ≤ ops.size → ∀ o, ops.toList[p]? = some o → ∀ σ, agree (cutL nd l0 (t.getD p ([], [])).2) (s.app ((t.take p).flatMap (·.1))) σ → (s.app ((t.take k).flatMap (·.1))).like σ l0 → (opRT Γ ops.toList (B + 4 * p) o).run σ = some (t.w p)) :
  wpAny P .any ops Q ops.size (Array.replicate ops.size false) a w := by
 obtain ⟨t, sN, t1, t2, t3, t4, t5, t6⟩ := zw5p hr
 have t1' : t.length = ops.size := by simpa using t1
 rw [List.nil_append] at t5
 have htr : zw3n Γ ops.toList B s t := ⟨t1, fun k o hk => by have := t2 k o hk; simpa using this⟩
 have clash_of : ∀ (j k : Nat) (l : Loc), j < k → k < t.length → (l ∈ rdX p nd l0 k (t.getD k ([], [])).2 ∨ l ∈ (t.w k).map Wr.at) → l ∈ (t.w j).map Wr.at → ((zw15 ops.toList).getD k 0).testBit j = true := by
  intro j k l hj hk hl hlj
  have e1 := zw3m p nd l0 0 (t := t) hk
  have e2 := zw3m p nd l0 0 (t := t) (show j < t.length by omega)
  rw [Nat.zero_add] at e1 e2
  refine zw3g t5 j k _ _ (by simp) hj (by rw [List.nil_append]; exact e1) (by rw [List.nil_append]; exact e2) ?_
  unfold clash
  rw [Bool.or_eq_true, Bool.or_eq_true]
  rcases hl with hl | hl
  ·exact .inl (.inl (zw2v.2 ⟨l, hlj, hl⟩))
  ·exact .inl (.inr (zw2v.2 ⟨l, hlj, hl⟩))
 have clash_of' : ∀ (j k : Nat) (l : Loc), j < k → k < t.length → l ∈ (t.w k).map Wr.at → l ∈ rdX p nd l0 j (t.getD j ([], [])).2 → ((zw15 ops.toList).getD k 0).testBit j = true := by
  intro j k l hj hk hl hlj
  have e1 := zw3m p nd l0 0 (t := t) hk
  have e2 := zw3m p nd l0 0 (t := t) (show j < t.length by omega)
  rw [Nat.zero_add] at e1 e2
  refine zw3g t5 j k _ _ (by simp) hj (by rw [List.nil_append]; exact e1) (by rw [List.nil_append]; exact e2) ?_
  unfold clash
  rw [Bool.or_eq_true, Bool.or_eq_true]
  exact .inr (zw2v.2 ⟨l, hl, hlj⟩)
 have key : ∀ (fuel : Nat) (listed : Array Bool) (a : Act) (w : World) (ob : Nat → Value) (Z : Nat → Prop), listed.size = ops.size →
   (List.range ops.size).countP (fun k => !(listed.getD k false)) = fuel →
   (∀ (k : Nat) (o : Oper), listed.getD k false = true → ops.toList[k]? = some o → ∀ e ∈ o.after.toList, Region.binds .any e = true → listed.getD e.on false = true) →
   RepAt E Γ.N (fun j => j < B ∨ ∃ k, listed.getD k false = true ∧ B + 4 * k ≤ j ∧ j < B + 4 * k + 4) ob Z (s.app (t.of fun k => listed.getD k false)) a w → wpAny P .any ops Q fuel listed a w := by
  intro fuel
  have fin : ∀ (listed : Array Bool) (a : Act) (w : World) (ob : Nat → Value) (Z : Nat → Prop), listed.size = ops.size → (∀ k, k < ops.size → listed.getD k false = true) →
    RepAt E Γ.N (fun j => j < B ∨ ∃ k, listed.getD k false = true ∧ B + 4 * k ≤ j ∧ j < B + 4 * k + 4) ob Z (s.app (t.of fun k => listed.getD k false)) a w → Q .normal a w := by
   intro listed a w ob Z hsz hall hrep
   refine hK sN a w ⟨_, ob, Z, hrep.congr (fun n => ?_) (fun n => ?_), fun j hj => ?_⟩ t4
   ·rw [t3.slots n, tr_all t (p := fun k => listed.getD k false) (fun k hk => hall k (by omega))]
   ·rw [t3.objs n, tr_all t (p := fun k => listed.getD k false) (fun k hk => hall k (by omega))]
   ·rw [t3.next, zw27, hn]
    rcases hj with hj | ⟨k, h1, h2, h3⟩
    ·omega
    ·have : k < listed.size := by
      rcases Nat.lt_or_ge k listed.size with h | h
      ·exact h
      ·simp [Array.getD, Nat.not_lt.2 h] at h1
     omega
  have none_ready : ∀ (listed : Array Bool), listed.size = ops.size → Region.ready .any ops listed = [] → ∀ k, k < ops.size → listed.getD k false = true := by
   intro listed hsz hnil k
   induction k using Nat.strongRecOn with
   | _ k ih =>
    intro hk
    cases hlk : listed.getD k false with
    | true => rfl
    | false =>
     have : k ∈ Region.ready .any ops listed := by
      unfold Region.ready
      rw [List.mem_filter]
      refine ⟨by simpa using hk, ?_⟩
      have hk2 : k < listed.size := by omega
      have e1 : listed.getD k true = false := by simpa [Array.getD, hk2] using hlk
      simp only [e1, Bool.not_false, Bool.true_and]
      rw [Array.getElem?_eq_getElem hk]
      simp only [Option.map_some, Option.getD_some]
      rw [Array.all_eq_true']
      intro e he
      cases hb : Region.binds .any e with
      | false => rfl
      | true =>
       have hlt := zw4c (k := k) (o := ops[k]) t6 (by simp [hk]) e (by simpa using he) hb
       rw [Nat.zero_add] at hlt
       rw [ih e.on hlt (by omega)]; rfl
     rw [hnil] at this; simp at this
  induction fuel with
  | zero =>
   intro listed a w ob Z hsz hcnt hcl hrep
   have hall : ∀ k, k < ops.size → listed.getD k false = true := by
    intro k hk
    have := List.countP_eq_zero.1 hcnt k (by simpa using hk)
    simpa using this
   refine ⟨?_, fin listed a w ob Z hsz hall hrep⟩
   unfold Region.ready
   rw [List.filter_eq_nil_iff]
   intro k hk
   have hk' : k < ops.size := by simpa using hk
   have e1 : listed.getD k true = true := by have := hall k hk'; simpa [Array.getD, show k < listed.size by omega] using this
   simp [e1]
  | succ fuel ih =>
   intro listed a w ob Z hsz hcnt hcl hrep
   refine ⟨fun hnil => fin listed a w ob Z hsz (none_ready listed hsz hnil) hrep, fun i hi => ?_⟩
   unfold Region.ready at hi
   rw [List.mem_filter, Bool.and_eq_true] at hi
   obtain ⟨hi1, hi2, hi3⟩ := hi
   have hin : i < ops.size := by simpa using hi1
   have hil : i < listed.size := by omega
   have hun : listed.getD i false = false := by simpa [Array.getD, hil] using hi2
   have ho : ops[i]? = some ops[i] := Array.getElem?_eq_getElem hin
   have ho' : ops.toList[i]? = some ops[i] := by simp [hin]
   rw [ho] at hi3
   simp only [Option.map_some, Option.getD_some] at hi3
   rw [Array.all_eq_true'] at hi3
   have hedge : ∀ e ∈ ops[i].after.toList, Region.binds .any e = true → listed.getD e.on false = true := by
    intro e he hb
    have := hi3 e (by simpa using he)
    rw [hb] at this
    simpa using this
   have hbef := zw4d t6 (S := fun k => listed.getD k false = true) hcl i _ ho' hedge
   have hbef2 : ∀ k, listed.getD k false = true → k < t.length → ∀ j, ((zw15 ops.toList).getD k 0).testBit j = true → listed.getD j false = true := by
    intro k hk hkl
    have hk2 : k < ops.size := by omega
    exact zw4d t6 (S := fun k => listed.getD k false = true) hcl k ops[k] (by simp [hk2]) (hcl k _ hk (by simp [hk2]))
   obtain ⟨ws, rd, q1, q2⟩ := t2 i _ ho'
   have hw : t.w i = ws := by simp [Tr.w, q1]
   have hrd : (t.getD i ([], [])).2 = rd := by simp [q1]
   have hag : ∀ l, l ∈ rdX p nd l0 i rd → (s.app ((t.take i).flatMap (·.1))).like (s.app (t.of fun k => listed.getD k false)) l := by
    intro l hl
    rw [zw4e]
    refine zw3f (zw5d fun k hk => ?_)
    by_cases hlk : l ∈ (t.w k).map Wr.at
    ·left
     rcases Nat.lt_trichotomy k i with h1 | h1 | h1
     ·rw [hbef k (clash_of k i l h1 (by omega) (.inl (by rw [hrd]; exact hl)) hlk)]; simp [h1]
     ·subst h1; rw [hun]; simp
     ·cases hlis : listed.getD k false with
      | false => simp; omega
      | true =>
       have := hbef2 k hlis hk i (clash_of' i k l h1 hk hlk (by rw [hrd]; exact hl))
       rw [hun] at this; cases this
    ·exact .inr (zw4f hlk)
   have hrun : (opRT Γ ops.toList (B + 4 * (0 + i)) ops[i]).run (s.app (t.of fun k => listed.getD k false)) = some ws := by
    by_cases hip : i = p
    ·subst hip
     obtain ⟨k, hk1, hk2⟩ := zwey (t := t) (l := l0) (p := fun k => listed.getD k false) (fun j k hjk hkl h1 h2 hk => hbef2 k hk hkl j (clash_of j k l0 hjk hkl (.inr h2) h1)) t.length (Nat.le_refl _)
     have := hfree t htr k (by omega) _ ho' (s.app (t.of fun k => listed.getD k false)) (by
      intro l hl
      rw [hrd] at hl
      exact hag l (by unfold rdX; rw [if_pos rfl]; exact hl)) (by
      rw [zw4e]
      refine zw3f (zw5d fun j hj => ?_)
      by_cases hlj : l0 ∈ (t.w j).map Wr.at
      ·left
       have := hk2 j hj hlj
       cases hlis : listed.getD j false with
       | true => simp [this.2 hlis]
       | false => simp; exact Nat.le_of_not_lt fun h => by rw [this.1 h] at hlis; cases hlis
      ·exact .inr (zw4f hlj))
     rw [Nat.zero_add, this, hw]
    ·exact q2 _ fun l hl => hag l (by unfold rdX; rw [if_neg hip]; exact hl)
   rw [Nat.zero_add] at hrun
   have hop := zw5a (Q := Q) hT hC hrep hg (fun j h1 h2 h3 => by
    rcases h3 with h3 | ⟨k, h3, h4, h5⟩
    ·omega
    ·have : k = i := by omega
     subst this; rw [hun] at h3; cases h3) hrun
   have hset : ∀ k, (listed.setIfInBounds i true).getD k false = (listed.getD k false || decide (k = i)) := by
    intro k
    by_cases e : k = i
    ·subst e; simp [Array.getD, hil]
    ·simp [e]; rw [Array.getElem?_setIfInBounds_ne (Ne.symm e)]
   have step : ∀ a' w', After E Γ.N (fun j => j < B ∨ ∃ k, listed.getD k false = true ∧ B + 4 * k ≤ j ∧ j < B + 4 * k + 4) (B + 4 * i) (s.app (t.of fun k => listed.getD k false)) ws a' w' → wpAny P .any ops Q fuel (listed.setIfInBounds i true) a' w' := by
    rintro a' w' ⟨ob', Z', hrep'⟩
    have hlike : ∀ l, (s.app (t.of (fun k => listed.getD k false) ++ ws)).like (s.app (t.of fun k => (listed.setIfInBounds i true).getD k false)) l := by
     intro l
     rw [← hw, funext hset]
     refine zw3f (zw7z (by omega) hun fun hl k hk hik hlis hlk => ?_)
     have := hbef2 k hlis hk i (clash_of i k l hik hk (.inr hlk) hl)
     rw [hun] at this; cases this
    have heqv := zw7t hlike (by rw [zw27, zw27])
    rw [← zw16] at hrep'
    refine ih _ a' w' ob' Z' (by simpa using hsz) ?_ ?_ ((hrep'.congr heqv.slots heqv.objs).mono fun j hj => ?_)
    ·have := zw5e (p := fun k => !(listed.getD k false)) (p' := fun k => !((listed.setIfInBounds i true).getD k false)) (i := i) (by rw [hun]; rfl) (by rw [hset]; simp) (fun k hk => by rw [hset]; simp [hk]) ops.size hin
     omega
    ·intro k o hk hko e he hb
     rw [hset] at hk ⊢
     by_cases e1 : k = i
     ·subst e1
      rw [ho'] at hko; cases hko
      rw [hedge e he hb]; rfl
     ·have : listed.getD k false = true := by simpa [e1] using hk
      rw [hcl k o this hko e he hb]; rfl
    ·rcases hj with (hj | ⟨k, h1, h2⟩) | hj
     ·exact .inl hj
     ·exact .inr ⟨k, by rw [hset, h1]; rfl, h2⟩
     ·exact .inr ⟨i, by rw [hset]; simp, hj⟩
   unfold wpOp
   rw [ho]
   simp only
   split at hop
   ·rename_i hwt
    rw [if_pos hwt]
    exact .inl (Oper.wp_mono step hop)
   ·rename_i hwt
    rw [if_neg hwt]
    exact step _ _ hop
 have hemp : t.of (fun k => (Array.replicate ops.size false).getD k false) = [] := by
  unfold Tr.of
  rw [List.flatMap_eq_nil_iff]
  intro k _
  by_cases hk : k < ops.size <;> simp [Array.getD, hk]
 refine key ops.size _ a w ob Z (by simp) ?_ ?_ ?_
 ·have : (List.range ops.size).countP (fun k => !((Array.replicate ops.size false).getD k false)) = (List.range ops.size).length := by
   rw [List.countP_eq_length]
   intro k hk
   have hk : k < ops.size := by simpa using hk
   simp [Array.getD, hk]
  rw [this]; simp
 ·intro k o hk
  by_cases hk2 : k < ops.size <;> simp [Array.getD, hk2] at hk
 ·rw [hemp, zw1d]
  exact h.mono fun j hj => .inl (hU j hj)
theorem zwy {p : Nat} {nd : List Loc} {l0 : Loc} {V : Type} {ops : List Oper} {B : Nat} {s0 : GS} {t : Tr} (ht : zw3n Γ ops B s0 t) {k : Nat} (hk : k ≤ ops.length) {G : GS → Option V} (hG : ∀ s s', s.eqv s' → G s = G s') {v : V}
  (h : regDX Γ p nd l0 ops B (ops.take k) 0 [] s0 G = some v) : G (s0.app ((t.take k).flatMap (·.1))) = some v := by
 obtain ⟨t', sN, q1, q2, q3, q4, _, _⟩ := zw5p h
 have q1' : t'.length = k := by rw [q1, List.length_take]; omega
 have key : ∀ j, j ≤ k → (t'.take j).flatMap (·.1) = (t.take j).flatMap (·.1) := by
  intro j
  induction j with
  | zero => intro _; simp
  | succ j ih =>
   intro hj
   have ih := ih (by omega)
   obtain ⟨o, ho⟩ : ∃ o, ops[j]? = some o := ⟨_, List.getElem?_eq_getElem (by omega)⟩
   obtain ⟨ws, rd, e1, e2⟩ := ht.2 j o ho
   obtain ⟨ws', rd', e1', e2'⟩ := q2 j o (by rw [List.getElem?_take]; simp [ho]; omega)
   have r1 := e2 (s0.app ((t.take j).flatMap (·.1))) fun l _ => zw4a _ l
   have r2 := e2' (s0.app ((t'.take j).flatMap (·.1))) fun l _ => zw4a _ l
   rw [ih, Nat.zero_add, r1] at r2
   cases r2
   have a1 : t'.take (j + 1) = t'.take j ++ [(ws, rd')] := by rw [List.take_add_one, e1']; rfl
   have a2 : t.take (j + 1) = t.take j ++ [(ws, rd)] := by rw [List.take_add_one, e1]; rfl
   rw [a1, a2, List.flatMap_append, List.flatMap_append, ih]
   rfl
 have hall : t'.take k = t' := List.take_of_length_le (by omega)
 rw [← key k (Nat.le_refl _), hall, hG _ _ q3]
 exact q4
end
section
variable {P : Program} {Γ : Ctx} {E : Env} {R : Type} {np : Nat}
theorem Blk.regionX (hb : Base P Γ E np) {ns : List Nat} {c : Spec} {bid rid : Nat} {ops : Array Oper} {l rest : List Code} {F : c.den → Option R} {K : XE → GS → Option R} {X : GS → Option R} (p : Nat) (nd : List Loc) (l0 : Loc) (hl : l = .block bid (.region rid ops true) :: rest) (hX : NxOk P Γ E rest X K)
  (hF : ∀ x, F x = regDX Γ p nd l0 ops.toList (c.st ns x).next ops.toList 0 [] { c.st ns x with next := (c.st ns x).next + 4 * ops.toList.length } (blockK bid X K .normal))
  (hfree : ∀ x r, F x = some r → ∀ t : Tr, zw3n Γ ops.toList (c.st ns x).next { c.st ns x with next := (c.st ns x).next + 4 * ops.toList.length } t → ∀ k, k ≤ ops.size → ∀ o, ops.toList[p]? = some o → ∀ σ,
   agree (cutL nd l0 (t.getD p ([], [])).2) (GS.app { c.st ns x with next := (c.st ns x).next + 4 * ops.toList.length } ((t.take p).flatMap (·.1))) σ → (GS.app { c.st ns x with next := (c.st ns x).next + 4 * ops.toList.length } ((t.take k).flatMap (·.1))).like σ l0 →
   (opRT Γ ops.toList ((c.st ns x).next + 4 * p) o).run σ = some (t.w p)) : Blk P Γ E ns c l F K := by
 subst hl
 intro x r Q hr hK a w hrep
 have hr' := hr
 rw [hF] at hr
 obtain ⟨U, ob, Z, h, hU⟩ := hrep
 have hKB := hX.block (id := bid) hK
 exact wp_block (wp_region_any hb.mixed (zwez hb.tys hb.ctrs hb.globs (fun s a w h hk => hKB .normal s a w h hk) (zw80 (zw5f h)) hU (by simp) hr (hfree x r hr')))
end
end Go.Proofs.YtajpblfinenmjaaGreatDoor

namespace Go.Proofs.YtajpblfinenmjaaGreatDoor
open Go
theorem zw97 {P : Program} {ops : Array Oper} {Q : Exit → Act → World → Prop} {i : Nat} {rest : List Nat} {o : Oper} {a : Act} {w : World} (hi : ops[i]? = some o) (hg : o.guard = none) (h : o.wp P a w (wpOps P ops Q rest) Q) : wpOps P ops Q (i :: rest) a w := by
 simp only [wpOps, hi]
 rw [if_pos (by simp [Region.wanted, hg])]
 exact .inl h
section
variable {P : Program} {w : World}
theorem zwf4 {t e : TypeId} (d : Nat) (hu : P.underlying t = some (.slice e)) (A : Option Addr) (n c : Nat) : (Op.equalIn (d + 1) t (.slice A n c) (.slice none 0 0)).run P w = .ok A.isNone w := by
 cases A <;> simp [Op.equalIn, run_underlying hu]
theorem zwf5 {t e : TypeId} (hu : P.underlying t = some (.slice e)) (A : Option Addr) (n c : Nat) : (Op.equal t (.slice A n c) (.slice none 0 0)).run P w = .ok A.isNone w := zwf4 9999 hu A n c
theorem zwf6 (t : TypeId) (x y : Operand) (A : Option Addr) (n c : Nat) : (eqGuard .eql t x y (.slice A n c) (.slice none 0 0)).run P w = .ok () w := by
 unfold eqGuard; simp
end
section
variable {P : Program} {Γ : Ctx} {E : Env} {R : Type} {np : Nat}
def nilS {t : Ty} (s : GS) (d d' : Nat) (x : List t.den) (b : Bool) : GS := (s.put (.slot d (some (.sv (.data (.sl t) x))))).put (.slot d' (some (.sv (.data .bool b))))
theorem Blk.isNil {t : Ty} (hb : Base P Γ E np) {ns : List Nat} {c : Spec} {l : List Code} {i id m d d' : Nat} {ty e t1 t2 : TypeId} {p1 p2 : String} {e1 e2 : Array Edge} {F : c.den → Option R} {K : XE → GS → Option R}
  (hl : l[i]? = some (.region id #[⟨some d, .move (.tmp m), t1, p1, e1, none⟩, ⟨some d', .binOp .eql ty (.tmp d) (.const (.slice none 0 0)) ty, t2, p2, e2, none⟩] false))
  (hu : P.underlying ty = some (.slice e)) (hd : Nat.blt d Γ.N = true) (hd' : Nat.blt d' Γ.N = true) (x : c.den → List t.den) (hx : ∀ z, look m (c.st ns z).slots = some (.sv (.data (.sl t) (x z))))
  (hA : ∀ z, x z = [] → F z = listK Γ (l.drop (i + 1)) (nilS (c.st ns z) d d' (x z) true) K) (hB : ∀ z, F z = listK Γ (l.drop (i + 1)) (nilS (c.st ns z) d d' (x z) false) K) : Blk P Γ E ns c (l.drop i) F K := by
 intro z r Q hF hK a w hrep
 rw [zw4g hl]
 obtain ⟨U, ob, Z, h, hU⟩ := hrep
 refine wp_region ?_
 show wpOps P _ _ [0, 1] a w
 obtain ⟨hm, hv, hi⟩ := h.slots m _ (hx z)
 refine zw97 (o := ⟨some d, .move (.tmp m), t1, p1, e1, none⟩) rfl rfl ?_
 unfold Oper.wp
 rw [show (execOp a.eval (⟨some d, .move (.tmp m), t1, p1, e1, none⟩ : Oper)).run P w = .ok (.value (a.tmps.getD m undef)) w by simp [execOp, Act.eval], Oper.upon_value]
 have h1 := h.slot (d := d) (Nat.lt_of_lt_of_le (Nat.lt_succ_self d) (Nat.le_of_ble_eq_true hd)) hv hi
 obtain ⟨_, ⟨vs, ⟨A, n, rfl, hle, hmax, hA'⟩, hv1⟩, _⟩ := h1.slots d _ (zwm d _ _)
 have hv1 : (a.put (some d) (a.tmps.getD m undef)).tmps.getD d undef = .slice A (x z).length n := hv1
 generalize a.put (some d) (a.tmps.getD m undef) = a1 at h1 hv1
 refine zw97 (o := ⟨some d', .binOp .eql ty (.tmp d) (.const (.slice none 0 0)) ty, t2, p2, e2, none⟩) rfl rfl ?_
 unfold Oper.wp
 rw [show (execOp a1.eval (⟨some d', .binOp .eql ty (.tmp d) (.const (.slice none 0 0)) ty, t2, p2, e2, none⟩ : Oper)).run P w = .ok (.value (.bool A.isNone)) w by
  simp only [execOp, Act.eval, hv1]
  rw [Sem.run_bind, Sem.run_bind, zwf6, Result.andThen_ok]
  simp only [binOp]
  rw [Sem.run_bind, zwf5 hu, Result.andThen_ok]
  rfl, Oper.upon_value]
 have h2 := h1.slot (d := d') (Nat.lt_of_lt_of_le (Nat.lt_succ_self d') (Nat.le_of_ble_eq_true hd')) (g := .sv (.data .bool A.isNone)) (v := .bool A.isNone) (show VR w Z ob (.sv (.data .bool A.isNone)) (.bool A.isNone) from zw9 (w := w) (Z := Z) (ob := ob) A.isNone) trivial
 have hrep : RepOk E Γ.N (nilS (c.st ns z) d d' (x z) A.isNone) (a1.put (some d') (.bool A.isNone)) w := ⟨U, ob, Z, h2, hU⟩
 show listWp P (l.drop (i + 1)) Q _ w
 cases A with
 | none =>
  have hx0 : x z = [] := by
   cases hq : x z with
   | nil => rfl
   | cons y ys =>
    obtain ⟨b, o, uss, he, _⟩ := hA' (by rw [hq]; simp)
    cases he
  rw [hA z hx0] at hF
  exact zw2w hb.mixed hb.tys hb.ctrs hb.globs hrep hF hK
 | some A =>
  rw [hB z] at hF
  exact zw2w hb.mixed hb.tys hb.ctrs hb.globs hrep hF hK
end
end Go.Proofs.YtajpblfinenmjaaGreatDoor
