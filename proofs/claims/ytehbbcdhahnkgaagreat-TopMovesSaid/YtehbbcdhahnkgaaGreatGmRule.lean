/- The ghost machine: the rules as the generated texts use them, and the check of a table of types. -/
import Derived.Test.YtehbbcdhahnkgaaGreatGmEntry
set_option linter.unusedVariables false
set_option linter.unusedSimpArgs false
namespace Go.Proofs.YtehbbcdhahnkgaaGreat
open Go
def isLoop (bid : Nat) : Option Code → Bool
 | some (.block id (.loop _)) => Nat.beq id bid
 | _ => false
section
variable {P : Program} {Γ : Ctx} {E : Env} {R : Type} {np : Nat}
theorem drop_at {l : List Code} {i : Nat} {c : Code} (h : l[i]? = some c) : l.drop i = c :: l.drop (i + 1) := by
 obtain ⟨h1, h2⟩ := List.getElem?_eq_some_iff.1 h
 rw [← h2]; exact List.drop_eq_getElem_cons h1
theorem Blk.chunkAt (hb : Base P Γ E np) {ns : List Nat} {c : Spec} {l : List Code} {i j : Nat} {F : c.den → Option R} {K : XE → GS → Option R} (n : Nat) {X : GS → Option R} (hX : NxOk P Γ E (l.drop j) X K) (hj : i + n = j)
  (hF : ∀ x, F x = listK Γ ((l.drop i).take n) (c.st ns x) (nextK X K)) : Blk P Γ E ns c (l.drop i) F K :=
 Blk.chunk hb n (by rw [List.drop_drop, hj]; exact hX) hF
theorem Blk.loopAt (hb : Base P Γ E np) {ns hns ans : List Nat} {c hc ac : Spec} {l : List Code} {i : Nat} {F : c.den → Option R} {K : XE → GS → Option R} {step : hc.den → Option (Lo hc.den ac.den R)} {J : ac.den → Option R} {bid Nf : Nat}
  (hi : isLoop bid (l[i]?) = true) (hJ : Blk P Γ E ans ac (l.drop (i + 1)) J K) (hS : Blk P Γ E hns hc ((loopOf (l[i]?)).drop 0) step (roundK (some bid) (fit np hns hc) (fit np ans ac) K)) (hF : ∀ x, F x = goK np hns hc (loopK Nf step J) (c.st ns x)) :
  Blk P Γ E ns c (l.drop i) F K := by
 unfold isLoop at hi
 split at hi
 ·rename_i id b hl
  have e := Nat.eq_of_beq_eq_true hi
  subst e
  rw [drop_at hl]
  rw [hl, List.drop_zero] at hS
  exact Blk.loop hb hJ hS hF
 ·cases hi
theorem NxOk.raw (hb : Base P Γ E np) {l : List Code} {K : XE → GS → Option R} : NxOk P Γ E l (fun s => listK Γ l s K) K := fun _ _ _ hX hK _ _ hrep => listK_ok hb.mixed hb.tys hb.ctrs hb.globs hrep hX hK
theorem NxOk.end {l : List Code} {j : Nat} {K : XE → GS → Option R} (h : Nat.ble l.length j = true) : NxOk P Γ E (l.drop j) (K .normal) K := by
 rw [List.drop_of_length_le (Nat.le_of_ble_eq_true h)]; exact NxOk.nil
theorem NxOk.none {l : List Code} {K : XE → GS → Option R} : NxOk P Γ E l (fun _ => none) K := fun s r Q h => by cases h
theorem ctr_fnx {np : Nat} {fn : FuncId} {g : Func} (hm : P.follows .mixedOrders = true) (hT : TysOk P Γ) (hC : CtrsOk P Γ) (hf : P.funcs[fn]? = some g) (hbody : g.body.isSome = true) (hname : (g.name == "runtime.NumGoroutine") = false)
  (hN : g.ntmps = Γ.N) {ps rfit : Spec} {res : List Nat} {bs : List Bool} {F : ps.den → Option (rfit.un bs).den} (hps : Nat.ble ps.ks.length Γ.N = true) (hnp : Nat.ble np ps.os.length = true) (hd : noDup res = true) (hres : resOk Γ.tys g.results.toList res bs rfit.ks = true)
  (hB : ∀ E, Base P Γ E np → Blk P Γ E (List.range ps.ks.length) ps ((bodyOf (some g)).drop 0) F (retK np res bs rfit)) : Ctr.okx Γ.ifs.exc P Γ.globs fn ⟨ps, rfit.un bs, np, F⟩ := by
 obtain ⟨b, hb⟩ := Option.isSome_iff_exists.1 hbody
 refine ctr_ok hm hT hC hf hb hname hN hps hnp hd hres fun E h => ?_
 have := hB E h
 simp only [bodyOf, hb, List.drop_zero] at this
 exact this
theorem ctr_fn {np : Nat} {fn : FuncId} {g : Func} (hm : P.follows .mixedOrders = true) (hT : TysOk P Γ) (hC : CtrsOk P Γ) (hf : P.funcs[fn]? = some g) (hbody : g.body.isSome = true) (hname : (g.name == "runtime.NumGoroutine") = false)
  (hN : g.ntmps = Γ.N) {ps rfit : Spec} {res : List Nat} {bs : List Bool} {F : ps.den → Option (rfit.un bs).den} (hps : Nat.ble ps.ks.length Γ.N = true) (hnp : Nat.ble np ps.os.length = true) (hd : noDup res = true) (hres : resOk Γ.tys g.results.toList res bs rfit.ks = true)
  (hB : ∀ E, Base P Γ E np → Blk P Γ E (List.range ps.ks.length) ps ((bodyOf (some g)).drop 0) F (retK np res bs rfit)) (hx : Γ.ifs.exc = none := by rfl) : Ctr.ok P Γ.globs fn ⟨ps, rfit.un bs, np, F⟩ := by
 have h := ctr_fnx hm hT hC hf hbody hname hN hps hnp hd hres hB
 rw [hx] at h
 exact h.strict
end

theorem ctr_never {P : Program} {globs : List (Nat × Dt)} {fn : FuncId} {g : Func} {c : Ctr} (hf : P.funcs[fn]? = some g) (hbody : g.body.isSome = true) (hname : (g.name == "runtime.NumGoroutine") = false) (h : ∀ x, c.F x = none) : Ctr.ok P globs fn c where
 body := ⟨g, hf, by cases hb : g.body <;> simp_all, hname⟩
 call := fun _ _ _ _ x y _ _ _ _ hF => by rw [h x] at hF; cases hF
def veq : Value → Value → Bool
 | .bool a, .bool b => a == b
 | .int k m, .int k' n => (match k, k' with
  | .i64, .i64 | .u8, .u8 | .u16, .u16 | .u32, .u32 | .u64, .u64 => true
  | _, _ => false) && (decide (m = n))
 | .string a, .string b => decide (a.data = b.data)
 | .slice none 0 0, .slice none 0 0 => true
 | _, _ => false
def veqs : List Value → List Value → Bool
 | [], [] => true
 | a :: l, b :: m => veq a b && veqs l m
 | _, _ => false
def veqA : Value → Value → Bool
 | .agg a, .agg b => veqs a.toList b.toList
 | a, b => veq a b
theorem veq_eq {a b : Value} (h : veq a b = true) : a = b := by
 unfold veq at h
 split at h
 ·simp at h; rw [h]
 ·rename_i k m k' n
  simp only [Bool.and_eq_true, decide_eq_true_eq] at h
  obtain ⟨h1, h2⟩ := h
  subst h2
  cases k <;> cases k' <;> first | rfl | (simp at h1)
 ·rename_i a b
  have := of_decide_eq_true h
  cases a; cases b; simp at this; rw [this]
 ·rfl
 ·cases h
theorem veqs_eq : ∀ {a b : List Value}, veqs a b = true → a = b
 | [], [], _ => rfl
 | a :: l, b :: m, h => by simp only [veqs, Bool.and_eq_true] at h; rw [veq_eq h.1, veqs_eq h.2]
theorem veqA_eq {a b : Value} (h : veqA a b = true) : a = b := by
 unfold veqA at h
 split at h
 ·rename_i a b; have := veqs_eq h; cases a; cases b; simp at this; rw [this]
 ·exact veq_eq h
def eokB (P : Program) (e : TypeId) (t : Ty) : Bool := (match P.info? e with
 | some x => Nat.beq x.size t.size
 | none => false) && Nat.blt 0 t.size && (match P.underlying e with
 | some d => d.isRow == t.isAgg
 | none => false)
theorem eokB_ok {P : Program} {e : TypeId} {t : Ty} (h : eokB P e t = true) : EOk P e t := by
 simp only [eokB, Bool.and_eq_true] at h
 obtain ⟨⟨h1, h2⟩, h3⟩ := h
 refine ⟨?_, Nat.le_of_ble_eq_true h2, ?_⟩
 ·split at h1
  ·rename_i x hx; rw [hx, Option.map_some, Nat.eq_of_beq_eq_true h1]
  ·cases h1
 ·split at h3
  ·rename_i d hd; exact ⟨d, hd, by simpa using h3⟩
  ·cases h3
def fsB (P : Program) : List Field → Nat → Ty → Bool
 | [], _, .unit => true
 | f :: fs, off, .pair a b => Nat.beq f.offset off && eokB P f.type a && fsB P fs (off + a.size) b
 | _, _, _ => false
theorem fsB_ok {P : Program} : ∀ {fs : List Field} {off : Nat} {t : Ty}, fsB P fs off t = true → FsOk P fs off t
 | [], off, t, h => by cases t <;> simp [fsB] at h; exact .nil
 | f :: fs, off, t, h => by
  cases t <;> simp only [fsB, Bool.and_eq_true] at h <;> try (cases h; done)
  exact .cons (Nat.eq_of_beq_eq_true h.1.1) (eokB_ok h.1.2) (fsB_ok h.2)
def shB (P : Program) (i : TypeId) (t : Ty) (el : Nat) : Bool := match t, P.underlying i with
 | .bool, some .bool | .i64, some (.int .i64) | .u8, some (.int .u8) | .u16, some (.int .u16) | .u32, some (.int .u32) | .u64, some (.int .u64) | .str, some .string => true
 | .sl t, some (.slice e) => Nat.beq e el && eokB P e t
 | .arr n t, some (.array m e) => Nat.beq m n && Nat.beq e el && eokB P e t
 | .pair a b, some (.struct fs) => fsB P fs.toList 0 (.pair a b)
 | _, _ => false
theorem shB_ok {P : Program} {i : TypeId} {t : Ty} {el : Nat} (h : shB P i t el = true) : TSh P i t el := by
 unfold shB at h
 split at h <;> first
  | (rename_i hu; exact hu)
  | (rename_i hu; simp only [Bool.and_eq_true] at h; have e := Nat.eq_of_beq_eq_true h.1; subst e; exact ⟨hu, eokB_ok h.2⟩)
  | (rename_i hu; simp only [Bool.and_eq_true] at h; have e := Nat.eq_of_beq_eq_true h.1.1; have e2 := Nat.eq_of_beq_eq_true h.1.2; subst e; subst e2; exact ⟨hu, eokB_ok h.2⟩)
  | (rename_i hu; exact ⟨_, hu, fsB_ok h⟩)
  | cases h
def tchk (P : Program) (i : TypeId) (ti : TI) : Bool := (match P.info? i with
 | some x => (match x.zero with
  | some z => veqA z (pk ti.ty (zc ti.ty))
  | none => false) && Nat.beq x.size ti.ty.size && Nat.beq x.bytes ti.bytes
 | none => false) && Nat.blt 0 ti.ty.size && Nat.blt 0 ti.bytes && shB P i ti.ty ti.el && (!ti.cmp || cmpT P i ti.ty)
theorem tchk_ok {P : Program} {i : TypeId} {ti : TI} (h : tchk P i ti = true) : TOk P i ti := by
 simp only [tchk, Bool.and_eq_true] at h
 obtain ⟨⟨⟨⟨h1, h2⟩, h3⟩, h4⟩, h5⟩ := h
 refine ⟨?_, Nat.le_of_ble_eq_true h2, Nat.le_of_ble_eq_true h3, ?_, fun hc => by rw [hc] at h5; simpa using h5⟩
 ·split at h1
  ·rename_i x hx
   simp only [Bool.and_eq_true] at h1
   obtain ⟨⟨h5, h6⟩, h7⟩ := h1
   split at h5
   ·rename_i z hz
    rw [hx, Option.map_some, hz, veqA_eq h5, Nat.eq_of_beq_eq_true h6, Nat.eq_of_beq_eq_true h7]
   ·cases h5
  ·cases h1
 ·exact shB_ok h4
def tyChk (P : Program) (l : List (Nat × TI)) : Bool := l.all fun p => tchk P p.1 p.2
theorem look_mem {α : Type} {n : Nat} {x : α} : ∀ {l : List (Nat × α)}, look n l = some x → (n, x) ∈ l
 | [], h => by simp [look] at h
 | (k, u) :: l, h => by
  simp only [look] at h
  cases hb : Nat.beq k n with
  | true => rw [hb] at h; simp at h; subst h; rw [Nat.eq_of_beq_eq_true hb]; simp
  | false => rw [hb] at h; exact List.mem_cons_of_mem _ (look_mem h)
theorem tys_ok {P : Program} {Γ : Ctx} (h : tyChk P Γ.tys = true) : TysOk P Γ := fun i ti hl => tchk_ok (List.all_eq_true.1 h (i, ti) (look_mem hl))
def empB (P : Program) (t : Nat) : Bool := (match P.info? t with
 | some x => (match x.zero with
  | some (.agg vs) => Nat.beq vs.size 0
  | _ => false)
 | none => false) && (match P.underlying t with
 | some (.struct fs) => Nat.beq fs.size 0
 | _ => false)
def metB (P : Program) (t : Nat) (n : String) (f : Nat) : Bool := match P.info? t with
 | some x => (match x.methods.find? (·.name == n) with
  | some m => Nat.beq m.path.size 0 && (match m.func with
   | some (g, false) => Nat.beq f g
   | _ => false)
  | none => false)
 | none => false
def natB (P : Program) (f : Nat) : Bool := match P.funcs[f]? with
 | some fn => decide (fn.name = "math/bits.Add64") && decide (fn.origin = "") && fn.body.isNone
 | none => false
def ptrB (P : Program) (t : Nat) : Bool := (match P.info? t with
 | some x => Nat.beq x.size 1
 | none => false) && (match P.underlying t with
 | some d => !d.isRow
 | none => false)
theorem ptrB_ok {P : Program} {t : Nat} (h : ptrB P t = true) : EOk P t .i64 := by
 simp only [ptrB, Bool.and_eq_true] at h
 obtain ⟨h1, h2⟩ := h
 split at h1
 ·rename_i x hx
  split at h2
  ·rename_i d hd
   have h3 := Nat.eq_of_beq_eq_true h1
   refine ⟨by rw [hx, Option.map_some, h3]; rfl, by decide, d, hd, ?_⟩
   have h4 : d.isRow = false := by simpa using h2
   rw [h4]; rfl
  ·cases h2
 ·cases h1
def ifChk (P : Program) (T : IfT) : Bool := T.emp.all (empB P ·) && (T.mets.all fun p => empB P p.1 && metB P p.1 p.2.1 p.2.2) && T.nat.all (natB P ·) && T.ptr.all (ptrB P ·)
theorem empB_ok {P : Program} {t : Nat} (h : empB P t = true) : ∃ x, P.info? t = some x ∧ x.zero = some (.agg #[]) ∧ P.underlying t = some (.struct #[]) := by
 simp only [empB, Bool.and_eq_true] at h
 obtain ⟨h1, h2⟩ := h
 split at h1
 ·rename_i x hx
  split at h1
  ·rename_i vs hv
   obtain rfl : vs = #[] := Array.eq_empty_of_size_eq_zero (Nat.eq_of_beq_eq_true h1)
   split at h2
   ·rename_i fs hf
    obtain rfl : fs = #[] := Array.eq_empty_of_size_eq_zero (Nat.eq_of_beq_eq_true h2)
    exact ⟨x, hx, hv, hf⟩
   ·cases h2
  ·cases h1
 ·cases h1
theorem metOf_mem {t : Nat} {n : String} {f : Nat} : ∀ {l : List (Nat × (String × Nat))}, metOf t n l = some f → (t, n, f) ∈ l
 | [], h => by simp [metOf] at h
 | (t', n', f') :: l, h => by
  simp only [metOf] at h
  cases hb : (Nat.beq t t' && decide (n = n')) with
  | true =>
   rw [hb] at h
   simp only [cond_true, Option.some.injEq] at h
   simp only [Bool.and_eq_true, decide_eq_true_eq] at hb
   rw [← h, hb.2, Nat.eq_of_beq_eq_true hb.1]
   simp
  | false => rw [hb] at h; exact List.mem_cons_of_mem _ (metOf_mem h)
theorem ifChk_ok {P : Program} {T : IfT} (h : ifChk P T = true) : IfOk P T := by
 simp only [ifChk, Bool.and_eq_true] at h
 obtain ⟨h, hp⟩ := h
 refine ⟨fun t ht => ?_, fun t ht => ?_, fun t n f hm => ?_, fun f hf x y c w hc => ?_⟩
 ·obtain ⟨u, hu, he⟩ := List.any_eq_true.1 ht
  rw [Nat.eq_of_beq_eq_true he]
  exact ptrB_ok (List.all_eq_true.1 hp u hu)
 ·obtain ⟨u, hu, he⟩ := List.any_eq_true.1 ht
  rw [Nat.eq_of_beq_eq_true he]
  exact empB_ok (List.all_eq_true.1 h.1.1 u hu)
 rotate_left
 ·obtain ⟨u, hu, he⟩ := List.any_eq_true.1 hf
  rw [Nat.eq_of_beq_eq_true he]
  have h3 := List.all_eq_true.1 h.2 u hu
  unfold natB at h3
  split at h3
  ·rename_i fn hfn
   simp only [Bool.and_eq_true, decide_eq_true_eq] at h3
   exact run_natAdd hfn h3.1.1 h3.1.2 h3.2 x y c w hc
  ·cases h3
 ·have := List.all_eq_true.1 h.1.2 _ (metOf_mem hm)
  simp only [Bool.and_eq_true] at this
  obtain ⟨x, h1, _, h3⟩ := empB_ok this.1
  refine ⟨h3, x, ?_⟩
  have h4 := this.2
  simp only [metB, h1] at h4
  split at h4
  ·rename_i m hm
   simp only [Bool.and_eq_true] at h4
   obtain ⟨h5, h6⟩ := h4
   split at h6
   ·rename_i g hg
    exact ⟨m, h1, hm, Array.eq_empty_of_size_eq_zero (Nat.eq_of_beq_eq_true h5), by rw [hg, Nat.eq_of_beq_eq_true h6]⟩
   ·cases h6
  ·cases h4
theorem ctrs_of {P : Program} {Γ : Ctx} (hi : ifChk P Γ.ifs = true) (h : ∀ p ∈ Γ.ctrs, p.2.ok P Γ.globs p.1) (hc : Γ.ifs.cat = [] := by rfl) : CtrsOk P Γ := ⟨fun f c hl => (h (f, c) (look_mem hl)).okx, ifChk_ok hi, fun f hf => by rw [hc] at hf; simp at hf⟩
end Go.Proofs.YtehbbcdhahnkgaaGreat
