/- The ghost machine: an evaluator of the program's text over plain data, and its soundness. -/
import Derived.Test.YtehbbcdhahnkgaaGreatHmVal
import Derived.Test.YtehbbcdhahnkgaaGreatHmFacts
import Derived.Test.YtehbbcdhahnkgaaGreatHmS
import Derived.Test.YtehbbcdhahnkgaaGreatHmT
import Derived.Test.YtehbbcdhahnkgaaGreatHmMvD
import Derived.Deep.LoopGhost
import Derived.LoopN
import Derived.Test.YtehbbcdhahnkgaaGreatHmMvKA
import Derived.Test.YtehbbcdhahnkgaaGreatHmMvKB
import Derived.Test.YtehbbcdhahnkgaaGreatHmMvKC
import Derived.Test.YtehbbcdhahnkgaaGreatHmMvKD
set_option linter.unusedVariables false
set_option linter.unusedSimpArgs false
namespace Go.Proofs.YtehbbcdhahnkgaaGreat.Hm
open Go
open Go.RowKit (Below)
theorem hV {ρ : En} {R : Rng} (hR : RngOk ρ R) : ValOk Tryz.prog ρ (Γw R) := val_ok tysT_ok Tryz.func51 (by kernel_rfl) (by kernel_rfl) hR
theorem cl_ok {ρ : En} {R : Rng} (hR : RngOk ρ R) {M : List Ent} (hM : ∀ e ∈ M, EntOk Tryz.prog ρ e) (L n : Nat) : CallOk Tryz.prog ρ (runM M (Γw R) L n) := runM_ok (Γ := Γw R) mixT tysT_ok hR fnsT_ok (hV hR) hM n
theorem clP_ok {ρ : En} {R : Rng} (hR : RngOk ρ R) {MP : List EntP} (hMP : ∀ e ∈ MP, EntPOk Tryz.prog ρ e) {M : List Ent} (hM : ∀ e ∈ M, EntOk Tryz.prog ρ e) (L n : Nat) : CallOk Tryz.prog ρ (runP MP M (Γw R) L n) := runP_ok (Γ := Γw R) mixT tysT_ok hR fnsT_ok (hV hR) hMP hM n
theorem noM {ρ : En} : ∀ e ∈ ([] : List Ent), EntOk Tryz.prog ρ e := fun e h => by cases h
theorem noMP {ρ : En} : ∀ e ∈ ([] : List EntP), EntPOk Tryz.prog ρ e := fun e h => by cases h
theorem noMV {ρ : En} : ∀ e ∈ ([] : List EntV), EntVOk Tryz.prog ρ e := fun e h => by cases h
theorem r0_ok (ρ : En) : RngOk ρ R0 := rngOk_of (fun p h => by cases h) (fun p h => by cases h) (fun p h => by cases h) (fun p h => by cases h)
theorem clX_ok {ρ : En} {R : Rng} (hR : RngOk ρ R) {X : NX} (hX : NxOk Tryz.prog ρ X) (L n : Nat) : CallOk Tryz.prog ρ (runX X [] [] [] (Γw R) L n) := runX_ok (Γ := Γw R) mixT tysT_ok hR fnsT_ok (hV hR) hX noMV noMP noM n
theorem clC_ok {ρ : En} {R : Rng} (hR : RngOk ρ R) {V : List EntV} (hV' : ∀ e ∈ V, EntVOk Tryz.prog ρ e) (L n : Nat) : CallOk Tryz.prog ρ (runC (chX V) V [] (Γw R) L n) :=
 runC_ok (Γ := Γw R) mixT tysT_ok hR fnsT_ok (fun ρ' h => hV h) hV' noMP ⟨ty81, by kernel_rfl, by kernel_rfl, by kernel_rfl⟩ n
section
variable {P : Program}
theorem listWp_mono {Q Q' : Exit → Act → World → Prop} (hq : ∀ e a w, Q e a w → Q' e a w) : ∀ {l : List Code} {a : Act} {w : World}, listWp P l Q a w → listWp P l Q' a w
 | [], a, w, h => hq _ _ _ h
 | c :: l, a, w, h => by
  refine wp_mono (show c.wp P (Exit.then (listWp P l Q) Q) a w from h) fun e a w hq' => ?_
  cases e with
  | normal => exact listWp_mono hq hq'
  | _ => exact hq _ _ _ hq'
theorem wp_into {l1 rest : List Code} {c : Code} {id k : Nat} {Q Q1 : Exit → Act → World → Prop} {a : Act} {w : World} (h : listWp P (l1 ++ (flat c).take k) Q1 a w)
  (hn : ∀ a w, Q1 .normal a w → listWp P ((flat c).drop k) (Exit.inBlock id (Exit.then (listWp P rest Q) Q)) a w) (hx : ∀ e a w, e ≠ .normal → Q1 e a w → Q e a w ∧ ∃ j, j ≠ id ∧ e = .exit j) : listWp P (l1 ++ (.block id c :: rest)) Q a w := by
 refine listWp_append (listWp_mono (fun e a w he => ?_) (listWp_split h))
 cases e with
 | normal =>
  refine wp_block (flat_wp ?_)
  rw [← List.take_append_drop k (flat c)]
  refine listWp_append (listWp_mono (fun e a w he => ?_) he)
  cases e with
  | normal => exact hn a w he
  | exit j =>
   obtain ⟨h1, i, hi, e⟩ := hx _ a w (by simp) he
   cases e
   show if j = id then _ else _
   rw [if_neg hi]
   exact h1
  | ret => obtain ⟨_, _, _, e⟩ := hx _ a w (by simp) he; cases e
  | goto _ => obtain ⟨_, _, _, e⟩ := hx _ a w (by simp) he; cases e
  | panic _ => obtain ⟨_, _, _, e⟩ := hx _ a w (by simp) he; cases e
  | outgrown => obtain ⟨_, _, _, e⟩ := hx _ a w (by simp) he; cases e
 | _ => exact (hx _ a w (by simp) he).1
theorem wp_out {l rest : List Code} {id : Nat} {Q Q1 : Exit → Act → World → Prop} {a : Act} {w : World} (h : listWp P (l ++ rest) Q1 a w) (hq : ∀ e a w, Q1 e a w → e = .normal ∧ Q .normal a w) :
  listWp P l (Exit.inBlock id (Exit.then (listWp P rest Q) Q)) a w := by
 refine listWp_mono (fun e a w he => ?_) (listWp_split h)
 cases e with
 | normal => exact listWp_mono (fun e a w he => by obtain ⟨rfl, h⟩ := hq _ _ _ he; exact h) he
 | exit j => exact absurd (hq _ _ _ he).1 (by simp)
 | ret => exact absurd (hq _ _ _ he).1 (by simp)
 | goto _ => exact absurd (hq _ _ _ he).1 (by simp)
 | panic _ => exact absurd (hq _ _ _ he).1 (by simp)
 | outgrown => exact absurd (hq _ _ _ he).1 (by simp)
theorem pS_ok {T : St} {s2 : Sub} {src : List Nat} {kvs : List (Nat × HV)} {hd : List (Nat × HD)} {k : Nat} {e : XE} {G : GS} (h : pS T s2 src kvs hd k e G = true) : isE k e = true ∧ satH T [] s2 src kvs hd G = true := by
 simp only [pS, Bool.and_eq_true] at h
 exact h
theorem isE_0 {e : XE} (h : isE 0 e = true) : e = .normal := by cases e <;> first | rfl | cases h
theorem isE_1 {e : XE} (h : isE 1 e = true) : e = .ret := by cases e <;> first | rfl | cases h
theorem isE_2 {e : XE} {n : Nat} (h : isE (n + 2) e = true) : e = .exit n := by
 cases e with
 | exit i => rw [Nat.eq_of_beq_eq_true (show Nat.beq n i = true from h)]
 | normal => cases h
 | ret => cases h
def subE (s : Sub) (ρ : En) (vs : Nat → Value) : En := ⟨fun i => ((IV.sym i 0).sub s).ev ρ, ρ.base, vs⟩
theorem subE_ok {s : Sub} {ρ : En} {vs : Nat → Value} : SubOk s (subE s ρ vs) ρ := fun i => rfl
end
theorem run_to {ρ : En} {T T' : St} {R : Rng} {cl : CallFn} {l : List Code} {s2 : Sub} {src : List Nat} {kvs : List (Nat × HV)} {hd : List (Nat × HD)} {k : Nat} {Q : Exit → Act → World → Prop} {a : Act} {w : World} (hR : RngOk ρ R) (hcl : CallOk Tryz.prog ρ cl) (hs : Sat Tryz.prog ρ T a w) (hN : T.N = 156) (hN' : T'.N = 156) (hd' : codeDst 156 (seqs l) = true)
  (hsz : ∀ i d, hdGet i hd = some d → Tryz.prog.cellsOf d.el = d.sz ∧ d.n < osB) (hr : isBig (codeRT (Γw R) cl LL (seqs l) T.gs (endK (pS T' s2 src kvs hd k))) = true)
  (hQ : ∀ e vs a w, isE k e = true → (∀ j, kvGet j kvs = none → vs j = ρ.vals j) → (∀ j i, kvGet j kvs = some (.kv i) → isOne (ρ.vals i) = true → vs j = ρ.vals i) → Sat Tryz.prog (subE s2 ρ vs) T' a w → Q e.out a w) : listWp Tryz.prog l Q a w := by
 refine sat_run (Γ := Γw R) mixT tysT_ok hR hcl hs (by rw [hN]; exact hd') hr fun e G a w B hN2 hst hp => ?_
 obtain ⟨h1, h2⟩ := pS_ok hp
 obtain ⟨vs, h3, h4, h5⟩ := satH_ofV (ρ' := subE s2 ρ ρ.vals) hsz hst (by rw [hN2, hN, hN']) rfl (SubOk.nil ρ) subE_ok h2
 exact hQ e vs a w h1 h3 h4 h5
theorem noHd {i : Nat} {d : HD} (h : hdGet i [] = some d) : Tryz.prog.cellsOf d.el = d.sz ∧ d.n < osB := by cases h
end Go.Proofs.YtehbbcdhahnkgaaGreat.Hm

namespace Go.Proofs.YtehbbcdhahnkgaaGreat.Hm
open Go
open Go.RowKit (Below)
theorem eA_ok (ρ : En) : EntOk Tryz.prog ρ eA := ent_ok (cl_ok (r0_ok ρ) noM LL 40) eA_ck
theorem eB_ok (ρ : En) : EntOk Tryz.prog ρ eB := ent_ok (cl_ok (r0_ok ρ) noM LL 40) eB_ck
theorem eC_ok (ρ : En) : EntOk Tryz.prog ρ eC := by
 refine ent_ok (clP_ok (r0_ok ρ) (fun e h => ?_) (fun e h => ?_) LL 50) eC_ck
 ·simp only [List.mem_cons, List.not_mem_nil, or_false] at h
  rcases h with rfl | rfl | rfl
  ·exact entP_ok (cl_ok (r0_ok ρ) noM LL 45) p1036_ck
  ·exact entP_ok (cl_ok (r0_ok ρ) noM LL 45) p1476_ck
  ·exact entP_ok (cl_ok (r0_ok ρ) noM LL 45) p2371_ck
 ·simp only [List.mem_cons, List.not_mem_nil, or_false] at h
  rcases h with rfl | rfl
  ·exact eA_ok ρ
  ·exact eB_ok ρ
theorem oneC {ρ : En} : ∀ e ∈ [eC], EntOk Tryz.prog ρ e := fun e h => by
 simp only [List.mem_cons, List.not_mem_nil, or_false] at h
 subst h; exact eC_ok ρ
theorem dA : codeDst 156 (seqs lA) = true := by kernel_rfl
theorem dG : codeDst 156 (seqs lG) = true := by kernel_rfl
theorem dH : codeDst 156 (seqs lH) = true := by kernel_rfl
theorem dR : codeDst 156 (seqs lR) = true := by kernel_rfl
theorem cut0 : flat bd0 = lG ++ (.block 1 bk1 :: lb0.drop 3) := by kernel_rfl
theorem row_of_cell {w : World} {b k : Nat} {v : Value} (h : w.cell? ⟨b, k, none⟩ = some v) : ∃ arr el fr, w.heap[b]? = some (.cells arr el fr) ∧ arr[k]? = some v := by
 simp only [World.cell?] at h
 split at h
 ·rename_i c t f hh
  exact ⟨c, t, f, hh, by simpa using h⟩
 ·cases h
structure Ls where
 w0 : World
 l0 : List Int
 l1 : List Int
 A0 : Option Addr
 A1 : Option Addr
 n0 : Nat
 n1 : Nat
 c0 : Nat
 c1 : Nat
def Ls.n6 (S : Ls) : Nat := min S.n1 60
structure LsOk (S : Ls) : Prop where
 at0 : LsAt S.w0 S.l0 S.A0 S.n0
 at1 : LsAt S.w0 S.l1 S.A1 S.n1
 nc0 : S.n0 ≤ S.c0
 nc1 : S.n1 ≤ S.c1
 mx0 : S.n0 ≤ 9223372036854775807
 mx1 : S.n1 ≤ 9223372036854775807
 cx0 : S.c0 ≤ 9223372036854775807
 cx1 : S.c1 ≤ 9223372036854775807
structure Gd (S : Ls) (ρ : En) : Prop where
 base : ρ.base = S.w0
 v0 : ρ.vals 0 = .slice S.A0 S.n0 S.c0
 v1 : ρ.vals 1 = .slice S.A1 S.n1 S.c1
 v6 : ρ.vals 6 = .slice S.A1 S.n6 S.c1
 s100 : ρ 100 = S.n0
 s101 : ρ 101 = S.n1
section
variable {S : Ls} {ρ : En}
theorem gd_kl (hS : LsOk S) (h : Gd S ρ) : ∀ p ∈ [((0 : Nat), IV.sym 100 0), (1, .sym 101 0)], ∃ A n c, ρ.vals p.1 = .slice A n c ∧ (n : Int) = p.2.ev ρ ∧ n ≤ 9223372036854775807 ∧ (0 < n → ∃ b o, A = some ⟨b, o, none⟩) := by
 intro p hp
 simp only [List.mem_cons, List.not_mem_nil, or_false] at hp
 have h1 := hS.mx0
 have h2 := hS.mx1
 rcases hp with rfl | rfl
 ·refine ⟨_, _, _, h.v0, ?_, by omega, fun hn => ?_⟩
  ·show (S.n0 : Int) = ρ 100 + 0
   rw [h.s100]; omega
  ·obtain ⟨b, o, e, _⟩ := hS.at0.2.2 hn
   exact ⟨b, o, e⟩
 ·refine ⟨_, _, _, h.v1, ?_, by omega, fun hn => ?_⟩
  ·show (S.n1 : Int) = ρ 101 + 0
   rw [h.s101]; omega
  ·obtain ⟨b, o, e, _⟩ := hS.at1.2.2 hn
   exact ⟨b, o, e⟩
theorem gd_kb (hS : LsOk S) (h : Gd S ρ) {i : Nat} (hi : i < S.n0) (h2 : ρ 2 = i) (h12 : S.l0[i]? = some (ρ 12)) : ∀ p ∈ [(((0 : Nat), IV.sym 2 0), IV.sym 12 0)], ∃ b o n c arr el fr, ρ.vals p.1.1 = .slice (some ⟨b, o, none⟩) n c ∧ ρ.base.heap[b]? = some (.cells arr el fr) ∧ arr[o + (p.1.2.ev ρ).toNat]? = some (.int .u8 (p.2.ev ρ)) ∧ 0 ≤ p.2.ev ρ ∧ p.2.ev ρ ≤ 255 := by
 intro p hp
 simp only [List.mem_cons, List.not_mem_nil, or_false] at hp
 subst hp
 obtain ⟨b, o, e, hb, hc⟩ := hS.at0.2.2 (by omega)
 have hcell := hc i _ h12
 have e2 : (IV.sym 2 0).ev ρ = i := by show ρ 2 + 0 = _; omega
 have e12 : (IV.sym 12 0).ev ρ = ρ 12 := by show ρ 12 + 0 = _; omega
 obtain ⟨arr, el, fr, q1, q2⟩ := row_of_cell hcell
 refine ⟨b, o, S.n0, S.c0, arr, el, fr, by rw [← e]; exact h.v0, by rw [h.base]; exact q1, ?_, ?_⟩
 ·show arr[o + ((IV.sym 2 0).ev ρ).toNat]? = some (.int .u8 ((IV.sym 12 0).ev ρ))
  rw [e2, e12]; simpa using q2
 ·show 0 ≤ (IV.sym 12 0).ev ρ ∧ (IV.sym 12 0).ev ρ ≤ 255
  rw [e12]
  exact hS.at0.2.1 _ (List.mem_of_getElem? h12)
end
structure Mv (S : Ls) (ρ : En) (i : Nat) : Prop where
 gd : Gd S ρ
 s3 : 1 ≤ ρ 3 ∧ ρ 3 ≤ 4 + 4 * i
 s5 : 1 ≤ ρ 5 ∧ ρ 5 ≤ 9 ∧ ρ 5 ≠ 2
 s6 : ρ 6 = 2 + 3 * i
 s7 : ρ 7 = 2 + i
 s8 : 0 ≤ ρ 8 ∧ ρ 8 ≤ i
 s11 : 6 ≤ ρ 11 ∧ ρ 11 ≤ 6 + i
 s10 : ρ 10 = ρ 9
 s9 : 0 ≤ ρ 9 ∧ (ρ 6 = ρ 9 + 2 ∨ ρ 6 = ρ 9 + 3)
theorem ent1 {ρ : En} {e : EntP} (h : EntPOk Tryz.prog ρ e) : ∀ x ∈ [e], EntPOk Tryz.prog ρ x := fun x hx => by
 simp only [List.mem_cons, List.not_mem_nil, or_false] at hx
 subst hx; exact h
theorem ent2 {ρ : En} {e f : EntP} (h : EntPOk Tryz.prog ρ e) (h' : EntPOk Tryz.prog ρ f) : ∀ x ∈ [e, f], EntPOk Tryz.prog ρ x := fun x hx => by
 simp only [List.mem_cons, List.not_mem_nil, or_false] at hx
 rcases hx with rfl | rfl
 ·exact h
 ·exact h'
section
variable {S : Ls} {ρ : En} {i : Nat}
theorem Gd.sub (h : Gd S ρ) {s : Sub} {vs : Nat → Value} (h0 : vs 0 = ρ.vals 0) (h1 : vs 1 = ρ.vals 1) (h6 : vs 6 = ρ.vals 6) (h100 : subOf 100 s = none) (h101 : subOf 101 s = none) : Gd S (subE s ρ vs) where
 base := h.base
 v0 := h0.trans h.v0
 v1 := h1.trans h.v1
 v6 := h6.trans h.v6
 s100 := by
  show ((IV.sym 100 0).sub s).ev ρ = _
  simp only [IV.sub, h100, IV.ev]
  have := h.s100
  omega
 s101 := by
  show ((IV.sym 101 0).sub s).ev ρ = _
  simp only [IV.sub, h101, IV.ev]
  have := h.s101
  omega
theorem mv_rng (h : Mv S ρ i) (hi : i ≤ 4) {l : List (Nat × (Int × Int))} (hl : ∀ p ∈ l, p ∈ [((3 : Nat), ((1 : Int), (1000 : Int))), (5, (1, 9)), (6, (2, 14)), (7, (2, 6)), (8, (0, 4)), (9, (0, 14)), (10, (0, 14)), (11, (6, 10))] ∨ (p.2.1 ≤ ρ p.1 ∧ ρ p.1 ≤ p.2.2)) : ∀ p ∈ l, p.2.1 ≤ ρ p.1 ∧ ρ p.1 ≤ p.2.2 := by
 intro p hp
 have hi' : (i : Int) ≤ 4 := by omega
 obtain ⟨_, ⟨a1, a2⟩, ⟨b1, b2, b3⟩, c1, d1, ⟨e1, e2⟩, ⟨f1, f2⟩, g1, ⟨h1, h2⟩⟩ := h
 rcases hl p hp with hq | hq
 ·simp only [List.mem_cons, List.not_mem_nil, or_false] at hq
  rcases hq with rfl | rfl | rfl | rfl | rfl | rfl | rfl | rfl
  ·exact ⟨a1, by show ρ 3 ≤ 1000; omega⟩
  ·exact ⟨b1, b2⟩
  ·exact ⟨by show 2 ≤ ρ 6; omega, by show ρ 6 ≤ 14; omega⟩
  ·exact ⟨by show 2 ≤ ρ 7; omega, by show ρ 7 ≤ 6; omega⟩
  ·exact ⟨e1, by show ρ 8 ≤ 4; omega⟩
  ·exact ⟨h1, by show ρ 9 ≤ 14; omega⟩
  ·exact ⟨by show 0 ≤ ρ 10; omega, by show ρ 10 ≤ 14; omega⟩
  ·exact ⟨f1, by show ρ 11 ≤ 10; omega⟩
 ·exact hq
theorem mv_nl (h : Mv S ρ i) : ∀ p ∈ [((5 : Nat), (2 : Int))], ρ p.1 ≠ p.2 := fun p hp => by
 simp only [List.mem_cons, List.not_mem_nil, or_false] at hp
 subst hp; exact h.s5.2.2
def set3 (ρ : En) (x y z : Int) : En := ⟨fun j => if j = 4 then x else if j = 12 then y else if j = 13 then z else ρ j, ρ.base, ρ.vals⟩
theorem set3_ne {ρ : En} {x y z : Int} {j : Nat} (h4 : j ≠ 4) (h12 : j ≠ 12) (h13 : j ≠ 13) : set3 ρ x y z j = ρ j := by
 show (if j = 4 then x else if j = 12 then y else if j = 13 then z else ρ j) = _
 rw [if_neg h4, if_neg h12, if_neg h13]
theorem set3_sub {ρ : En} {x y z : Int} : SubOk [(4, .lit (ρ 4)), (12, .lit (ρ 12)), (13, .lit (ρ 13))] ρ (set3 ρ x y z) := by
 intro j
 by_cases h4 : j = 4
 ·subst h4; show ρ 4 = ρ 4 + 0; omega
 ·by_cases h12 : j = 12
  ·subst h12; show ρ 12 = ρ 12 + 0; omega
  ·by_cases h13 : j = 13
   ·subst h13; show ρ 13 = ρ 13 + 0; omega
   ·have e : ∀ k, j ≠ k → Nat.beq j k = false := fun k hk => by
     cases hb : Nat.beq j k with
     | false => rfl
     | true => exact absurd (Nat.eq_of_beq_eq_true hb) hk
    simp only [IV.sub, subOf, e 4 h4, e 12 h12, e 13 h13, cond_false, IV.ev]
    rw [set3_ne h4 h12 h13]; omega
theorem set3_mv {x y z : Int} (h : Mv S ρ i) : Mv S (set3 ρ x y z) i := ⟨⟨h.gd.base, h.gd.v0, h.gd.v1, h.gd.v6, h.gd.s100, h.gd.s101⟩, h.s3, h.s5, h.s6, h.s7, h.s8, h.s11, h.s10, h.s9⟩
end
end Go.Proofs.YtehbbcdhahnkgaaGreat.Hm

namespace Go.Proofs.YtehbbcdhahnkgaaGreat.Hm
open Go
open Go.RowKit (Below)
section
variable {S : Ls} {ρ : En} {i : Nat} {a : Act} {w : World}
theorem subE_none {s : Sub} {vs : Nat → Value} {j : Nat} (h : subOf j s = none) : (subE s ρ vs) j = ρ j := by
 show ((IV.sym j 0).sub s).ev ρ = _
 simp only [IV.sub, h, IV.ev]; omega
theorem subE_some {s : Sub} {vs : Nat → Value} {j : Nat} {x : IV} (h : subOf j s = some x) : (subE s ρ vs) j = x.ev ρ := by
 show ((IV.sym j 0).sub s).ev ρ = _
 simp only [IV.sub, h]
 cases x with
 | lit n => show n + 0 = n; omega
 | sym k c => show ρ k + (c + 0) = ρ k + c; omega
theorem Mv.nil (h : Mv S ρ i) {vs : Nat → Value} (hv : ∀ j, vs j = ρ.vals j) : Mv S (subE [] ρ vs) i := by
 have e : ∀ j, (subE [] ρ vs) j = ρ j := fun j => subE_none rfl
 exact ⟨h.gd.sub (hv 0) (hv 1) (hv 6) rfl rfl, by rw [e]; exact h.s3, by rw [e]; exact h.s5, by rw [e]; exact h.s6, by rw [e]; exact h.s7, by rw [e]; exact h.s8, by rw [e]; exact h.s11, by rw [e, e]; exact h.s10, by rw [e, e]; exact h.s9⟩
theorem tailR (hS : LsOk S) (hm : Mv S ρ i) (hi : i < 4) (h2 : ρ 2 = i) (h12 : 0 ≤ ρ 12 ∧ ρ 12 ≤ 255) (h4 : 1 ≤ ρ 4 ∧ ρ 4 ≤ 9 ∧ ρ 4 ≠ 2) (hs : Sat Tryz.prog ρ tH a w) {Q : Exit → Act → World → Prop}
  (hQ : ∀ ρ' a' w', Mv S ρ' (i + 1) → ρ' 2 = (i + 1 : Nat) → Sat Tryz.prog ρ' tT a' w' → Q .normal a' w') : listWp Tryz.prog lR (fun e a w => e = .normal ∧ Q .normal a w) a w := by
 have hmx := hS.mx0
 have h100 : 0 ≤ ρ 100 ∧ ρ 100 ≤ 9223372036854775807 := by rw [hm.gd.s100]; omega
 have r2 : ∀ p ∈ [((2 : Nat), ((0 : Int), (3 : Int))), (3, (1, 1000)), (5, (1, 9)), (6, (2, 14)), (7, (2, 6)), (8, (0, 4)), (9, (0, 14)), (10, (0, 14)), (11, (6, 10)), (100, (0, 9223372036854775807)), (12, (0, 255))], p.2.1 ≤ ρ p.1 ∧ ρ p.1 ≤ p.2.2 := by
  refine mv_rng hm (by omega) fun p hp => ?_
  simp only [List.mem_cons, List.not_mem_nil, or_false] at hp ⊢
  rcases hp with rfl | rfl | rfl | rfl | rfl | rfl | rfl | rfl | rfl | rfl | rfl
  ·exact .inr ⟨by show 0 ≤ ρ 2; omega, by show ρ 2 ≤ 3; omega⟩
  all_goals first | exact .inr h100 | exact .inr h12 | exact .inl (by simp)
 by_cases he : ρ 4 = ρ 5
 ·have hs' : Sat Tryz.prog ρ tS a w := hs.turn rfl rfl (ρc := ρ) (subOk_one (k := 4) (x := .sym 5 0) (by show ρ 4 = ρ 5 + 0; omega) fun _ _ => rfl) (SubOk.nil ρ) kTS_ck
  have hR : RngOk ρ R8 := rngOk_of r2 (fun p h => by cases h) (fun p h => by cases h) (fun p h => by cases h) (mv_nl hm) (gd_kl hS hm.gd)
  refine run_to hR (clP_ok hR (ent1 (entP_ok (cl_ok hR noM LL 45) kSp202_ck)) noM LL 60) hs' rfl rfl dR (fun i d h => noHd h) kS_ck fun e vs a w he hv _ hs => ?_
  obtain rfl := isE_0 he
  refine ⟨rfl, hQ _ a w ?_ ?_ hs⟩
  ·have e2 : (subE s7 ρ vs) 2 = ρ 2 + 1 := subE_some (x := .sym 2 1) rfl
   have e3 : (subE s7 ρ vs) 3 = ρ 3 + 2 := subE_some (x := .sym 3 2) rfl
   have e5 : (subE s7 ρ vs) 5 = ρ 5 := subE_none rfl
   have e6 : (subE s7 ρ vs) 6 = ρ 6 + 3 := subE_some (x := .sym 6 3) rfl
   have e7 : (subE s7 ρ vs) 7 = ρ 7 + 1 := subE_some (x := .sym 7 1) rfl
   have e8 : (subE s7 ρ vs) 8 = ρ 8 := subE_none rfl
   have e9 : (subE s7 ρ vs) 9 = ρ 6 + 0 := subE_some (x := .sym 6 0) rfl
   have e10 : (subE s7 ρ vs) 10 = ρ 6 + 0 := subE_some (x := .sym 6 0) rfl
   have e11 : (subE s7 ρ vs) 11 = ρ 11 := subE_none rfl
   obtain ⟨hg, ⟨a1, a2⟩, hb, c1, d1, ⟨f1, f2⟩, ⟨g1, g2⟩, k1, ⟨k2, k3⟩⟩ := hm
   exact ⟨hg.sub (hv 0 rfl) (hv 1 rfl) (hv 6 rfl) rfl rfl, by rw [e3]; omega, by rw [e5]; exact hb, by rw [e6]; omega, by rw [e7]; omega, by rw [e8]; omega, by rw [e11]; omega, by rw [e9, e10], by rw [e9, e6]; omega⟩
  ·have e2 : (subE s7 ρ vs) 2 = ρ 2 + 1 := subE_some (x := .sym 2 1) rfl
   rw [e2]; omega
 ·have hR : RngOk ρ R9 := by
   refine rngOk_of (fun p hp => ?_) (fun p h => ?_) (fun p h => by cases h) (fun p h => by cases h) (fun p h => ?_) (gd_kl hS hm.gd)
   ·rcases List.mem_cons.1 hp with rfl | hp
    ·exact ⟨h4.1, h4.2.1⟩
    ·exact r2 p hp
   ·have h : p ∈ [((4 : Nat), (5 : Nat))] := h
    simp only [List.mem_cons, List.not_mem_nil, or_false] at h
    subst h; exact he
   ·have h : p ∈ [((4 : Nat), (2 : Int)), (5, 2)] := h
    simp only [List.mem_cons, List.not_mem_nil, or_false] at h
    rcases h with rfl | rfl
    ·exact h4.2.2
    ·exact hm.s5.2.2
  refine run_to hR (clP_ok hR (ent2 (entP_ok (cl_ok hR noM LL 45) kDp202_ck) (entP_ok (cl_ok hR noM LL 45) kDp846_ck)) noM LL 60) hs rfl rfl dR (fun i d h => noHd h) kD_ck fun e vs a w he hv _ hs => ?_
  obtain rfl := isE_0 he
  refine ⟨rfl, hQ _ a w ?_ ?_ hs⟩
  ·have e3 : (subE s8 ρ vs) 3 = ρ 3 + 4 := subE_some (x := .sym 3 4) rfl
   have e5 : (subE s8 ρ vs) 5 = ρ 4 + 0 := subE_some (x := .sym 4 0) rfl
   have e6 : (subE s8 ρ vs) 6 = ρ 6 + 3 := subE_some (x := .sym 6 3) rfl
   have e7 : (subE s8 ρ vs) 7 = ρ 7 + 1 := subE_some (x := .sym 7 1) rfl
   have e8 : (subE s8 ρ vs) 8 = ρ 8 + 1 := subE_some (x := .sym 8 1) rfl
   have e9 : (subE s8 ρ vs) 9 = ρ 6 + 0 := subE_some (x := .sym 6 0) rfl
   have e10 : (subE s8 ρ vs) 10 = ρ 6 + 0 := subE_some (x := .sym 6 0) rfl
   have e11 : (subE s8 ρ vs) 11 = ρ 11 + 1 := subE_some (x := .sym 11 1) rfl
   obtain ⟨hg, ⟨a1, a2⟩, hb, c1, d1, ⟨f1, f2⟩, ⟨g1, g2⟩, k1, ⟨k2, k3⟩⟩ := hm
   exact ⟨hg.sub (hv 0 rfl) (hv 1 rfl) (hv 6 rfl) rfl rfl, by rw [e3]; omega, by rw [e5]; omega, by rw [e6]; omega, by rw [e7]; omega, by rw [e8]; omega, by rw [e11]; omega, by rw [e9, e10], by rw [e9, e6]; omega⟩
  ·have e2 : (subE s8 ρ vs) 2 = ρ 2 + 1 := subE_some (x := .sym 2 1) rfl
   rw [e2]; omega
theorem headH (hS : LsOk S) (hm : Mv S ρ i) (hi : i < 4) (hn : i < S.n0) (h2 : ρ 2 = i) (h12 : S.l0[i]? = some (ρ 12)) (h13 : ρ 13 = (ρ 12).tmod 5) (hs : Sat Tryz.prog ρ tT a w) {Q : Exit → Act → World → Prop}
  (hQ : ∀ (v : Int) s vs a' w', s = [((4 : Nat), IV.lit v)] → (v = 1 ∨ v = 3 ∨ v = 5 ∨ v = 7 ∨ v = 9) → (∀ j, vs j = ρ.vals j) → Sat Tryz.prog (subE s ρ vs) tH a' w' → Q .normal a' w') : listWp Tryz.prog lH (fun e a w => e = .normal ∧ Q .normal a w) a w := by
 have hmx := hS.mx0
 have hb := hS.at0.2.1 _ (List.mem_of_getElem? h12)
 have h100 : 0 ≤ ρ 100 ∧ ρ 100 ≤ 9223372036854775807 := by rw [hm.gd.s100]; omega
 have h5 : ρ 13 = (ρ 12) % 5 := by rw [h13, Int.tmod_eq_emod_of_nonneg hb.1]
 have rs : ∀ (r : Int), ρ 13 = r → ∀ p ∈ [((13 : Nat), (r, r)), (2, (0, 3)), (3, (1, 1000)), (5, (1, 9)), (6, (2, 14)), (7, (2, 6)), (8, (0, 4)), (9, (0, 14)), (10, (0, 14)), (11, (6, 10)), (100, (0, 9223372036854775807)), (12, (0, 255))], p.2.1 ≤ ρ p.1 ∧ ρ p.1 ≤ p.2.2 := by
  intro r hr
  refine mv_rng hm (by omega) fun p hp => ?_
  simp only [List.mem_cons, List.not_mem_nil, or_false] at hp ⊢
  rcases hp with rfl | rfl | rfl | rfl | rfl | rfl | rfl | rfl | rfl | rfl | rfl | rfl
  ·exact .inr ⟨by show r ≤ ρ 13; omega, by show ρ 13 ≤ r; omega⟩
  ·exact .inr ⟨by show 0 ≤ ρ 2; omega, by show ρ 2 ≤ 3; omega⟩
  all_goals first | exact .inr h100 | exact .inr hb | exact .inl (by simp)
 have hlt : ∀ p ∈ [((2 : Nat), (100 : Nat))], ρ p.1 < ρ p.2 := fun p hp => by
  simp only [List.mem_cons, List.not_mem_nil, or_false] at hp
  subst hp
  show ρ 2 < ρ 100
  rw [hm.gd.s100]; omega
 have hrm : ∀ p ∈ [(((12 : Nat), (5 : Int)), (13 : Nat))], ρ p.2 = (ρ p.1.1).tmod p.1.2 := fun p hp => by
  simp only [List.mem_cons, List.not_mem_nil, or_false] at hp
  subst hp; exact h13
 have hc : ρ 13 = 0 ∨ ρ 13 = 1 ∨ ρ 13 = 2 ∨ ρ 13 = 3 ∨ ρ 13 = 4 := by omega
 rcases hc with hc | hc | hc | hc | hc
 ·have hR : RngOk ρ R3 := rngOk_of (rs 0 hc) (fun p h => by cases h) hlt hrm (fun p h => by cases h) (gd_kl hS hm.gd) (fun p h => by cases h) (fun p h => by cases h) (gd_kb hS hm.gd hn h2 h12)
  refine run_to hR (cl_ok hR noM LL 60) hs rfl rfl dH (fun i d h => noHd h) kH0_ck fun e vs a w he hv _ hs => ?_
  obtain rfl := isE_0 he
  exact ⟨rfl, hQ 1 _ vs a w rfl (by omega) (fun j => hv j rfl) hs⟩
 ·have hR : RngOk ρ R4 := rngOk_of (rs 1 hc) (fun p h => by cases h) hlt hrm (fun p h => by cases h) (gd_kl hS hm.gd) (fun p h => by cases h) (fun p h => by cases h) (gd_kb hS hm.gd hn h2 h12)
  refine run_to hR (cl_ok hR noM LL 60) hs rfl rfl dH (fun i d h => noHd h) kH1_ck fun e vs a w he hv _ hs => ?_
  obtain rfl := isE_0 he
  exact ⟨rfl, hQ 3 _ vs a w rfl (by omega) (fun j => hv j rfl) hs⟩
 ·have hR : RngOk ρ R5 := rngOk_of (rs 2 hc) (fun p h => by cases h) hlt hrm (fun p h => by cases h) (gd_kl hS hm.gd) (fun p h => by cases h) (fun p h => by cases h) (gd_kb hS hm.gd hn h2 h12)
  refine run_to hR (cl_ok hR noM LL 60) hs rfl rfl dH (fun i d h => noHd h) kH2_ck fun e vs a w he hv _ hs => ?_
  obtain rfl := isE_0 he
  exact ⟨rfl, hQ 5 _ vs a w rfl (by omega) (fun j => hv j rfl) hs⟩
 ·have hR : RngOk ρ R6 := rngOk_of (rs 3 hc) (fun p h => by cases h) hlt hrm (fun p h => by cases h) (gd_kl hS hm.gd) (fun p h => by cases h) (fun p h => by cases h) (gd_kb hS hm.gd hn h2 h12)
  refine run_to hR (cl_ok hR noM LL 60) hs rfl rfl dH (fun i d h => noHd h) kH3_ck fun e vs a w he hv _ hs => ?_
  obtain rfl := isE_0 he
  exact ⟨rfl, hQ 7 _ vs a w rfl (by omega) (fun j => hv j rfl) hs⟩
 ·have hR : RngOk ρ R7 := rngOk_of (rs 4 hc) (fun p h => by cases h) hlt hrm (fun p h => by cases h) (gd_kl hS hm.gd) (fun p h => by cases h) (fun p h => by cases h) (gd_kb hS hm.gd hn h2 h12)
  refine run_to hR (cl_ok hR noM LL 60) hs rfl rfl dH (fun i d h => noHd h) kH4_ck fun e vs a w he hv _ hs => ?_
  obtain rfl := isE_0 he
  exact ⟨rfl, hQ 9 _ vs a w rfl (by omega) (fun j => hv j rfl) hs⟩
theorem moves (hS : LsOk S) (hm : Mv S ρ 0) (h2 : ρ 2 = 0) (hs : Sat Tryz.prog ρ tT a w) {Q : Exit → Act → World → Prop} (hQ : ∀ ρ' i a' w', i ≤ 4 → Mv S ρ' i → Sat Tryz.prog ρ' tU a' w' → Q .normal a' w') : (Code.block 0 (.loop bd0)).wp Tryz.prog Q a w := by
 refine wp_block (wp_loop_ghost (fun n a w => ∃ (ρ : En) (i : Nat), i ≤ 4 ∧ i ≤ S.n0 ∧ n = 4 - i ∧ Mv S ρ i ∧ ρ 2 = (i : Int) ∧ Sat Tryz.prog ρ tT a w) 4 ⟨ρ, 0, by omega, by omega, rfl, hm, h2, hs⟩ ?_)
 rintro n a w ⟨ρ, i, i4, in0, rfl, hm, h2, hs⟩
 refine flat_wp ?_
 rw [cut0]
 have hmx := hS.mx0
 have h100 : 0 ≤ ρ 100 ∧ ρ 100 ≤ 9223372036854775807 := by rw [hm.gd.s100]; omega
 by_cases hlen : i = S.n0
 ·have hs' : Sat Tryz.prog ρ tL a w := hs.turn rfl rfl (ρc := ρ) (subOk_one (k := 2) (x := .sym 100 0) (by show ρ 2 = ρ 100 + 0; rw [h2, hm.gd.s100]; omega) fun _ _ => rfl) (SubOk.nil ρ) kTL_ck
  have hR : RngOk ρ R11 := rngOk_of (mv_rng hm i4 fun p hp => .inl hp) (fun p h => by cases h) (fun p h => by cases h) (fun p h => by cases h) (fun p h => by cases h) (gd_kl hS hm.gd)
  refine listWp_append (run_to hR (cl_ok hR noM LL 60) hs' rfl rfl dG (fun i d h => noHd h) kL_ck fun e vs a w he hv _ hs => ?_)
  obtain rfl := isE_2 he
  exact hQ _ i a w i4 (hm.nil fun j => hv j rfl) hs
 ·obtain ⟨x, hx⟩ : ∃ x, S.l0[i]? = some x := ⟨S.l0[i]'(by have := hS.at0.1; omega), List.getElem?_eq_getElem _⟩
  have hb := hS.at0.2.1 _ (List.mem_of_getElem? hx)
  obtain ⟨ρ1, hρ1⟩ : ∃ ρ1, ρ1 = set3 ρ (ρ 4) x (x.tmod 5) := ⟨_, rfl⟩
  have hs1 : Sat Tryz.prog ρ1 tT a w := by rw [hρ1]; exact hs.turn rfl rfl (ρc := set3 ρ (ρ 4) x (x.tmod 5)) set3_sub (SubOk.nil _) (kuT _ _ _)
  have hm1 : Mv S ρ1 i := by rw [hρ1]; exact set3_mv hm
  have e2 : ρ1 2 = i := by rw [hρ1]; exact h2
  have e12 : ρ1 12 = x := by rw [hρ1]; rfl
  have e13 : ρ1 13 = (ρ1 12).tmod 5 := by rw [e12, hρ1]; rfl
  have hx1 : S.l0[i]? = some (ρ1 12) := by rw [e12]; exact hx
  by_cases h4 : i = 4
  ·subst h4
   have h100' : 0 ≤ ρ1 100 ∧ ρ1 100 ≤ 9223372036854775807 := by rw [hm1.gd.s100]; omega
   have hb' : 0 ≤ ρ1 12 ∧ ρ1 12 ≤ 255 := by rw [e12]; exact hb
   have hR : RngOk ρ1 R10 := by
    refine rngOk_of (mv_rng hm1 i4 fun p hp => ?_) (fun p h => by cases h) (fun p hp => ?_) (fun p hp => ?_) (fun p h => by cases h) (gd_kl hS hm1.gd) (fun p h => by cases h) (fun p h => by cases h) (gd_kb hS hm1.gd (by omega) e2 hx1)
    ·have hp : p ∈ [((2 : Nat), ((4 : Int), (4 : Int))), (3, (1, 1000)), (5, (1, 9)), (6, (2, 14)), (7, (2, 6)), (8, (0, 4)), (9, (0, 14)), (10, (0, 14)), (11, (6, 10)), (100, (0, 9223372036854775807)), (12, (0, 255))] := hp
     simp only [List.mem_cons, List.not_mem_nil, or_false] at hp ⊢
     rcases hp with rfl | rfl | rfl | rfl | rfl | rfl | rfl | rfl | rfl | rfl | rfl
     ·exact .inr ⟨by show 4 ≤ ρ1 2; omega, by show ρ1 2 ≤ 4; omega⟩
     all_goals first | exact .inr h100' | exact .inr hb' | exact .inl (by simp)
    ·have hp : p ∈ [((2 : Nat), (100 : Nat))] := hp
     simp only [List.mem_cons, List.not_mem_nil, or_false] at hp
     subst hp
     show ρ1 2 < ρ1 100
     rw [hm1.gd.s100]; omega
    ·have hp : p ∈ [(((12 : Nat), (5 : Int)), (13 : Nat))] := hp
     simp only [List.mem_cons, List.not_mem_nil, or_false] at hp
     subst hp; exact e13
   refine wp_into (k := 4) (Q1 := fun e a w => e = .exit 0 ∧ Q .normal a w) (run_to hR (cl_ok hR noM LL 60) hs1 rfl rfl dH (fun i d h => noHd h) kX_ck fun e vs a w he hv _ hs => ?_) (fun a w h => by cases h.1) (fun e a w hne h => ?_)
   ·obtain rfl := isE_2 he
    exact ⟨rfl, hQ _ 4 a w i4 (hm1.nil fun j => hv j rfl) hs⟩
   ·obtain ⟨rfl, h⟩ := h
    exact ⟨h, 0, by omega, rfl⟩
  ·refine wp_into (k := 4) (Q1 := fun e a w => e = .normal ∧ ∃ ρ2, Mv S ρ2 i ∧ ρ2 2 = i ∧ (0 ≤ ρ2 12 ∧ ρ2 12 ≤ 255) ∧ (1 ≤ ρ2 4 ∧ ρ2 4 ≤ 9 ∧ ρ2 4 ≠ 2) ∧ Sat Tryz.prog ρ2 tH a w)
    (headH hS hm1 (by omega) (by omega) e2 hx1 e13 hs1 (Q := fun e a w => ∃ ρ2, Mv S ρ2 i ∧ ρ2 2 = i ∧ (0 ≤ ρ2 12 ∧ ρ2 12 ≤ 255) ∧ (1 ≤ ρ2 4 ∧ ρ2 4 ≤ 9 ∧ ρ2 4 ≠ 2) ∧ Sat Tryz.prog ρ2 tH a w) fun v s vs a w hsv hv hvs hs => ?_) (fun a w h => ?_) (fun e a w hne h => absurd h.1 hne)
   ·subst hsv
    have g : ∀ j, j ≠ 4 → (subE [((4 : Nat), IV.lit v)] ρ1 vs) j = ρ1 j := fun j hj => subE_none (by
     have : Nat.beq j 4 = false := by
      cases hb : Nat.beq j 4 with
      | false => rfl
      | true => exact absurd (Nat.eq_of_beq_eq_true hb) hj
     simp only [subOf, this, cond_false])
    have g4 : (subE [((4 : Nat), IV.lit v)] ρ1 vs) 4 = v := subE_some (x := .lit v) rfl
    obtain ⟨hg, q3, q5, q6, q7, q8, q11, q10, q9⟩ := hm1
    refine ⟨_, ⟨hg.sub (hvs 0) (hvs 1) (hvs 6) rfl rfl, by rw [g 3 (by omega)]; exact q3, by rw [g 5 (by omega)]; exact q5, by rw [g 6 (by omega)]; exact q6, by rw [g 7 (by omega)]; exact q7, by rw [g 8 (by omega)]; exact q8, by rw [g 11 (by omega)]; exact q11, by rw [g 10 (by omega), g 9 (by omega)]; exact q10, by rw [g 9 (by omega), g 6 (by omega)]; exact q9⟩,
     by rw [g 2 (by omega)]; exact e2, by rw [g 12 (by omega), e12]; exact hb, by rw [g4]; omega, hs⟩
   ·obtain ⟨_, ρ2, m2, f2, f12, f4, hs2⟩ := h
    refine wp_out (tailR hS m2 (by omega) f2 f12 f4 hs2 (Q := fun e a w => Exit.then (fun a w => ∃ n', n' < 4 - i ∧ ∃ (ρ : En) (i : Nat), i ≤ 4 ∧ i ≤ S.n0 ∧ n' = 4 - i ∧ Mv S ρ i ∧ ρ 2 = (i : Int) ∧ Sat Tryz.prog ρ tT a w) (Exit.inBlock 0 Q) e a w) fun ρ' a' w' m3 f3 hs3 => ?_) fun e a w h => h
    exact ⟨4 - (i + 1), by omega, ρ', i + 1, by omega, by omega, rfl, m3, f3, hs3⟩
end
end Go.Proofs.YtehbbcdhahnkgaaGreat.Hm
