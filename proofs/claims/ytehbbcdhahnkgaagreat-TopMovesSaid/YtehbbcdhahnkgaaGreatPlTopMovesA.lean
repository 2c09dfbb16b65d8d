/- The ghost machine: an evaluator of the program's text over plain data, and its soundness. -/
import Derived.Test.YtehbbcdhahnkgaaGreatGmLoop
import Derived.Test.YtehbbcdhahnkgaaGreatGmInt
import Derived.KernelRfl
import Derived.Test.YtehbbcdhahnkgaaGreatFrameTerm
import Derived.Test.YtehbbcdhahnkgaaGreatHndTopMovesA
set_option linter.unusedVariables false
set_option linter.unusedSimpArgs false
namespace Go.Proofs.YtehbbcdhahnkgaaGreat.Pl
open Go
theorem dpos {p : Prop} [Decidable p] (h : p) : decide p = true := decide_eq_true h
theorem dneg {p : Prop} [Decidable p] (h : ¬ p) : decide p = false := decide_eq_false h
theorem w64_of {x : Int} (h : -9223372036854775808 ≤ x) (h' : x ≤ 9223372036854775807) : w64 x = x := w64_id h h'
theorem inR_of {i : Int} {n : Nat} (h : 0 ≤ i) (h' : i < (n : Int)) : inR i n = true := by simp [inR, h, h']
end Go.Proofs.YtehbbcdhahnkgaaGreat.Pl

namespace Go.Proofs.YtehbbcdhahnkgaaGreat.Pl
open Go
mutual
def Tk : Tree → Prop
 | .mk o v l => (-9223372036854775808 ≤ o ∧ o ≤ 9223372036854775807) ∧ (-9223372036854775808 ≤ v ∧ v ≤ 9223372036854775807) ∧ l.length ≤ 9223372036854775807 ∧ TkL l
def TkL : List Tree → Prop
 | [] => True
 | t :: l => Tk t ∧ TkL l
end
theorem tkL_iff : ∀ {l : List Tree}, TkL l ↔ ∀ t ∈ l, Tk t
 | [] => by simp [TkL]
 | t :: l => by
  show Tk t ∧ TkL l ↔ _
  rw [tkL_iff (l := l)]
  simp
theorem tk_in {o v : Int} {l : List Tree} (h : Tk (.mk o v l)) : ∀ t ∈ l, Tk t := tkL_iff.1 h.2.2.2
theorem dep_in {o v : Int} {l : List Tree} {n : Nat} (h : dep (.mk o v l) ≤ n + 1) : ∀ t ∈ l, dep t ≤ n := by
 have h' : 1 + depL l ≤ n + 1 := h
 have : ∀ {l : List Tree} {m : Nat}, depL l ≤ m → ∀ t ∈ l, dep t ≤ m := by
  intro l
  induction l with
  | nil => intro m _ t ht; cases ht
  | cons a l ih =>
   intro m hm t ht
   have hm' : max (dep a) (depL l) ≤ m := hm
   rcases List.mem_cons.1 ht with rfl | ht
   ·omega
   ·exact ih (by omega) t ht
 exact this (by omega)
mutual
theorem tr_tk {w : World} {Z : Nat → Prop} : ∀ {t : Tree} {cs : List Value}, TR w Z t cs → Tk t
 | .mk o v l, cs, h => by
  unfold TR at h
  obtain ⟨A, c, _, h1, h2, h3, h4, h5⟩ := h
  refine ⟨h1, h2, Nat.le_trans h3 h4, ?_⟩
  cases l with
  | nil => exact trivial
  | cons a l =>
   obtain ⟨b, k, uss, _, _, _, hl, _⟩ := h5 (by simp)
   exact tl_tk hl
theorem tl_tk {w : World} {Z : Nat → Prop} : ∀ {l : List Tree} {uss : List (List Value)}, TL w Z l uss → TkL l
 | [], [], _ => trivial
 | [], _ :: _, h => trivial
 | t :: l, [], h => by unfold TL at h; exact h.elim
 | t :: l, us :: uss, h => by
  unfold TL at h
  exact ⟨tr_tk h.1, tl_tk h.2⟩
end
theorem getD_un (l : List Tree) {i : Nat} (h : i < l.length) (z : TT.den) : ∃ a, a ∈ l ∧ l[i]? = some a ∧ (List.map Tree.un l).getD i z = a.un := by
 refine ⟨l[i], List.getElem_mem h, List.getElem?_eq_getElem h, ?_⟩
 simp [List.getD, List.getElem?_map, List.getElem?_eq_getElem h]
theorem toN (i : Nat) : (i : Int).toNat = i := by omega
mutual
def cT : Tree → Tree → Ordering
 | .mk o v l, .mk p u m => if o < p then .lt else if p < o then .gt else if v < u then .lt else if u < v then .gt else if l.length < m.length then .lt else if m.length < l.length then .gt else cTL l m
def cTL : List Tree → List Tree → Ordering
 | a :: l, b :: m => match cT a b with
  | .eq => cTL l m
  | x => x
 | _, _ => .eq
end
def oi : Ordering → Int
 | .lt => -1
 | .eq => 0
 | .gt => 1
theorem oi0 {x : Ordering} : oi x = 0 ↔ x = .eq := by cases x <;> simp [oi]
theorem cTL_drop {l m : List Tree} : ∀ {i : Nat} {a b : Tree}, l[i]? = some a → m[i]? = some b → cTL (l.drop i) (m.drop i) = match cT a b with
  | .eq => cTL (l.drop (i + 1)) (m.drop (i + 1))
  | x => x := by
 intro i a b h1 h2
 have e1 : l.drop i = a :: l.drop (i + 1) := by
  obtain ⟨q, rfl⟩ := List.getElem?_eq_some_iff.1 h1
  exact List.drop_eq_getElem_cons q
 have e2 : m.drop i = b :: m.drop (i + 1) := by
  obtain ⟨q, rfl⟩ := List.getElem?_eq_some_iff.1 h2
  exact List.drop_eq_getElem_cons q
 rw [e1, e2]
 rfl
section
variable (N : Nat) (hN : 9223372036854775808 ≤ N)
include hN
theorem compare_ok : ∀ (n : Nat) (a b : Tree), dep a ≤ n → Tk a → Tk b → term_compareR N n a.un b.un = some ((oi (cT a b), ()), ())
 | 0, .mk o v l, b, h, _, _ => by
  have : 1 + depL l ≤ 0 := h
  omega
 | n + 1, .mk o v l, .mk p u m, h, ha, hb => by
  have ih := fun a b (x : a ∈ l) (y : b ∈ m) => compare_ok n a b (dep_in h a x) (tk_in ha a x) (tk_in hb b y)
  obtain ⟨a1, a2, a3, _⟩ := ha
  obtain ⟨b1, b2, b3, _⟩ := hb
  show term_compare N (term_compareR N n) (o, v, l, ()) (p, u, m, ()) = _
  unfold term_compare
  have hlen : (List.map Tree.un l).length = l.length := List.length_map ..
  have hlen2 : (List.map Tree.un m).length = m.length := List.length_map ..
  have key : ∀ r, (cT (.mk o v l) (.mk p u m) = r → term_compare_1 N (term_compareR N n) [[o, p], [v, u], [(l.length : Int), (m.length : Int)]] 0 (o, v, l, ()) (p, u, m, ()) = some ((oi r, ()), ())) := by
   rintro r rfl
   unfold term_compare_1
   obtain ⟨M, rfl⟩ : ∃ M, N = M + 4 := ⟨N - 4, by omega⟩
   show _ = some ((oi (if o < p then .lt else if p < o then .gt else if v < u then .lt else if u < v then .gt else if l.length < m.length then .lt else if m.length < l.length then .gt else cTL l m), ()), ())
   rw [loopK_succ]
   simp only [term_compare_s2]
   have d0 : decide ((0 : Int) < (3 : Int)) = true := by decide
   have d1 : decide ((w64 (0 + 1) : Int) < (3 : Int)) = true := by decide
   have d2 : decide ((w64 (w64 (0 + 1) + 1) : Int) < (3 : Int)) = true := by decide
   have d3 : decide ((w64 (w64 (w64 (0 + 1) + 1) + 1) : Int) < (3 : Int)) = false := by decide
   have r0 : inR (0 : Int) 3 = true := by decide
   have r1 : inR (w64 (0 + 1)) 3 = true := by decide
   have r2 : inR (w64 (w64 (0 + 1) + 1)) 3 = true := by decide
   have g0 : ∀ z : List Int, ([[o, p], [v, u], [(l.length : Int), (m.length : Int)]] : List (List Int)).getD (0 : Int).toNat z = [o, p] := fun z => rfl
   have g1 : ∀ z : List Int, ([[o, p], [v, u], [(l.length : Int), (m.length : Int)]] : List (List Int)).getD (w64 (0 + 1)).toNat z = [v, u] := fun z => rfl
   have g2 : ∀ z : List Int, ([[o, p], [v, u], [(l.length : Int), (m.length : Int)]] : List (List Int)).getD (w64 (w64 (0 + 1) + 1)).toNat z = [(l.length : Int), (m.length : Int)] := fun z => rfl
   have q0 : ∀ (x y : Int) (z : Int), ([x, y] : List Int).getD 0 z = x := fun _ _ _ => rfl
   have q1 : ∀ (x y : Int) (z : Int), ([x, y] : List Int).getD 1 z = y := fun _ _ _ => rfl
   simp only [d0, r0, g0, q0, q1, cond_true]
   by_cases h1 : o < p
   ·simp only [dpos h1, cond_true, Option.bind_some, if_pos h1]; rfl
   simp only [dneg h1, cond_false, if_neg h1]
   by_cases h2 : p < o
   ·simp only [dpos h2, cond_true, Option.bind_some, if_pos h2]; rfl
   simp only [dneg h2, cond_false, if_neg h2, Option.bind_some]
   rw [loopK_succ]
   simp only [term_compare_s2, d1, r1, g1, q0, q1, cond_true]
   by_cases h3 : v < u
   ·simp only [dpos h3, cond_true, Option.bind_some, if_pos h3]; rfl
   simp only [dneg h3, cond_false, if_neg h3]
   by_cases h4 : u < v
   ·simp only [dpos h4, cond_true, Option.bind_some, if_pos h4]; rfl
   simp only [dneg h4, cond_false, if_neg h4, Option.bind_some]
   rw [loopK_succ]
   simp only [term_compare_s2, d2, r2, g2, q0, q1, cond_true]
   by_cases h5 : (l.length : Int) < (m.length : Int)
   ·simp only [dpos h5, cond_true, Option.bind_some, if_pos (show l.length < m.length by omega)]; rfl
   simp only [dneg h5, cond_false, if_neg (show ¬ l.length < m.length by omega)]
   by_cases h6 : (m.length : Int) < (l.length : Int)
   ·simp only [dpos h6, cond_true, Option.bind_some, if_pos (show m.length < l.length by omega)]; rfl
   simp only [dneg h6, cond_false, if_neg (show ¬ m.length < l.length by omega), Option.bind_some]
   rw [loopK_succ]
   simp only [term_compare_s2, d3, cond_false, Option.bind_some]
   have hlm : l.length = m.length := by omega
   unfold term_compare_3 term_compare_4
   simp only [hlen]
   have hll := loopK_of (N := M + 4) (step := fun y => term_compare_s5 (M + 4) (term_compareR (M + 4) n) y.1.1 y.1.2.1 y.1.2.2.1 y.2.1) (J := fun (e : ((Unit) × (Unit))) => term_compare_6 (M + 4) (term_compareR (M + 4) n))
    (I := fun z => ∃ i : Nat, z = ((List.map Tree.un l, (l.length : Int), (i : Int), ()), ((p, u, m, ()), ())) ∧ i ≤ l.length ∧ cTL l m = cTL (l.drop i) (m.drop i)) (μ := fun z => ((l.length : Int) - z.1.2.2.1).toNat) (T := fun r => r = ((oi (cTL l m), ()), ())) ?_
    (x := ((List.map Tree.un l, (l.length : Int), (0 : Int), ()), ((p, u, m, ()), ()))) ⟨0, rfl, by omega, rfl⟩ (by simp only; omega)
   ·obtain ⟨r, e1, rfl⟩ := hll
    exact e1
   ·rintro z ⟨i, rfl, hi, hc⟩
    simp only [term_compare_s5, hlen, hlen2]
    by_cases hlt : i < l.length
    ·have e1 : decide ((i : Int) < (l.length : Int)) = true := dpos (by omega)
     have e2 : inR (i : Int) l.length = true := inR_of (by omega) (by omega)
     have e3 : inR (i : Int) m.length = true := inR_of (by omega) (by omega)
     have e4 : w64 ((i : Int) + 1) = (i : Int) + 1 := w64_of (by omega) (by omega)
     obtain ⟨a, x1, x2, x3⟩ := getD_un l hlt ((0 : Int), (0 : Int), ([] : List Tree), ())
     obtain ⟨b, y1, y2, y3⟩ := getD_un m (show i < m.length by omega) ((0 : Int), (0 : Int), ([] : List Tree), ())
     have hcd := cTL_drop x2 y2
     simp only [e1, e2, e3, toN, x3, y3, ih a b x1 y1, cond_true, Option.bind_some, e4]
     by_cases he : cT a b = .eq
     ·rw [he] at hcd
      have e5 : decide (oi (cT a b) = (0 : Int)) = true := dpos (oi0.2 he)
      rw [e5]
      exact ⟨_, rfl, ⟨i + 1, rfl, by omega, by rw [hc, hcd]⟩, by simp only; omega⟩
     ·have e5 : decide (oi (cT a b) = (0 : Int)) = false := dneg fun h => he (oi0.1 h)
      rw [e5]
      refine ⟨_, rfl, ?_⟩
      show _ = _
      rw [hc, hcd]
      cases hq : cT a b <;> simp_all
    ·have e1 : decide ((i : Int) < (l.length : Int)) = false := dneg (by omega)
     rw [e1]
     refine ⟨_, rfl, _, rfl, ?_⟩
     have : i = l.length := by omega
     subst this
     rw [hc, List.drop_length]
     rfl
  have := key _ rfl
  simp only [hlen, hlen2]
  exact this
end
def lessB (a b : Tree) : Bool := decide (cT a b = .lt)
section
variable (N : Nat) (hN : 9223372036854775808 ≤ N)
include hN
theorem less_ok {a b : Tree} (hd : dep a ≤ N) (ha : Tk a) (hb : Tk b) : term_Less N a.un b.un = some ((lessB a b, ()), ()) := by
 unfold term_Less
 rw [compare_ok N hN N a b hd ha hb, Option.bind_some]
 have : decide (oi (cT a b) < (0 : Int)) = lessB a b := by
  unfold lessB
  cases cT a b <;> rfl
 simp only [this]
end
end Go.Proofs.YtehbbcdhahnkgaaGreat.Pl

namespace Go.Proofs.YtehbbcdhahnkgaaGreat.Pl
open Go
def sdB : Tree → Bool
 | .mk o v l =>
  if o = 1 then decide (l.length = 0) else if o = 2 ∨ o = 9 ∨ o = 10 then decide (l.length = 0) && decide (0 ≤ v) else if o = 3 then decide (v = 0) else if o = 6 then decide (0 ≤ v) else if o = 4 then decide (l.length = 1) && decide (v = 0) else
  if o = 8 then decide (l.length = 1) && decide (0 ≤ v) else if o = 5 then decide (l.length = 2) && (decide (v = 0) && !lessB (l.getD 1 (.mk 0 0 [])) (l.getD 0 (.mk 0 0 []))) else if o = 7 then decide (l.length = 2) && decide (v = 0) else false
mutual
def cnt : Tree → Nat
 | .mk _ _ l => 1 + cntL l
def cntL : List Tree → Nat
 | [] => 0
 | t :: l => cnt t + cntL l
end
mutual
def sdA : Tree → Bool
 | .mk o v l => sdAL l && sdB (.mk o v l)
def sdAL : List Tree → Bool
 | [] => true
 | t :: l => sdA t && sdAL l
end
mutual
theorem vN_len : ∀ (t : Tree) (d : Int), (vN t d).length = cnt t
 | .mk o v l, d => by
  show (vNL l _).length + 1 = 1 + cntL l
  rw [vNL_len l]
  omega
theorem vNL_len : ∀ (l : List Tree) (d : Int), (vNL l d).length = cntL l
 | [], _ => rfl
 | t :: l, d => by
  show (vN t d ++ vNL l d).length = cnt t + cntL l
  rw [List.length_append, vN_len t d, vNL_len l d]
end
mutual
theorem vN_all : ∀ (t : Tree) (d : Nat), d + cnt t ≤ 100000 → 1 ≤ d → (((vN t (d : Int)).all fun p => decide (p.2 ≤ 60) && sdB p.1) = (decide (d + dep t ≤ 61) && sdA t))
 | .mk o v l, d, h, h1 => by
  have hw : IntKind.i64.wrap ((d : Int) + 1) = ((d + 1 : Nat) : Int) := by
   have hd : d + 1 ≤ 100001 := by omega
   have h2 : w64 ((d : Int) + 1) = (d : Int) + 1 := w64_of (by omega) (by omega)
   exact h2.trans (by omega)
  show (((.mk o v l, (d : Int)) :: vNL l (IntKind.i64.wrap ((d : Int) + 1))).all fun p => decide (p.2 ≤ 60) && sdB p.1) = (decide (d + (1 + depL l) ≤ 61) && (sdAL l && sdB (.mk o v l)))
  rw [hw, List.all_cons, vNL_all l (d + 1) (by have : d + (1 + cntL l) ≤ 100000 := h; omega) (by omega)]
  have e : decide (d + (1 + depL l) ≤ 61) = (decide ((d : Int) ≤ 60) && decide (d + 1 + depL l ≤ 61)) := by
   rw [← Bool.decide_and]
   exact decide_eq_decide.2 (by omega)
  rw [e]
  simp only
  cases l with
  | nil =>
   have : decide (d + 1 + depL [] ≤ 61) = decide ((d : Int) ≤ 60) := decide_eq_decide.2 (by show d + 1 + 0 ≤ 61 ↔ _; omega)
   rw [this]
   cases decide ((d : Int) ≤ 60) <;> cases sdB (.mk o v []) <;> rfl
  | cons a l =>
   simp only [List.isEmpty_cons, Bool.false_or]
   cases decide ((d : Int) ≤ 60) <;> cases sdB (.mk o v (a :: l)) <;> cases decide (d + 1 + depL (a :: l) ≤ 61) <;> cases sdAL (a :: l) <;> rfl
theorem vNL_all : ∀ (l : List Tree) (d : Nat), d + cntL l ≤ 100000 → 1 ≤ d → (((vNL l (d : Int)).all fun p => decide (p.2 ≤ 60) && sdB p.1) = ((l.isEmpty || decide (d + depL l ≤ 61)) && sdAL l))
 | [], d, _, _ => rfl
 | t :: l, d, h, h1 => by
  have h' : d + (cnt t + cntL l) ≤ 100000 := h
  show ((vN t (d : Int) ++ vNL l (d : Int)).all _) = _
  rw [List.all_append, vN_all t d (by omega) h1, vNL_all l d (by omega) h1]
  show (decide (d + dep t ≤ 61) && sdA t && ((l.isEmpty || decide (d + depL l ≤ 61)) && sdAL l)) = ((false || decide (d + max (dep t) (depL l) ≤ 61)) && (sdA t && sdAL l))
  have e : decide (d + max (dep t) (depL l) ≤ 61) = (decide (d + dep t ≤ 61) && decide (d + depL l ≤ 61)) := by
   rw [← Bool.decide_and]
   exact decide_eq_decide.2 (by omega)
  rw [e, Bool.false_or]
  cases l with
  | nil =>
   have : decide (d + depL [] ≤ 61) = true ∨ decide (d + dep t ≤ 61) = false := by
    by_cases hd : d + dep t ≤ 61
    ·left; exact decide_eq_true (by show d + 0 ≤ 61; omega)
    ·right; exact decide_eq_false hd
   rcases this with h | h <;> rw [h] <;> cases decide (d + dep t ≤ 61) <;> cases sdA t <;> rfl
  | cons a l =>
   simp only [List.isEmpty_cons, Bool.false_or]
   cases decide (d + dep t ≤ 61) <;> cases decide (d + depL (a :: l) ≤ 61) <;> cases sdA t <;> cases sdAL (a :: l) <;> rfl
end
def valB (t : Tree) : Bool := decide (cnt t ≤ 600) && (decide (dep t ≤ 60) && sdA t)
section
variable (N : Nat) (hN : 9223372036854775808 ≤ N)
include hN
theorem sound_ok {t : Tree} (hd : dep t ≤ N) (ht : Tk t) : term_sound N t.un = some ((sdB t, ()), ()) := by
 obtain ⟨o, v, l⟩ := t
 have hin := tk_in ht
 have hdn : ∀ a ∈ l, dep a ≤ N := fun a ha => Nat.le_succ_of_le (dep_in (n := N - 1) (by show dep (.mk o v l) ≤ N - 1 + 1; omega) a ha) |> fun h => by omega
 have hlen : (List.map Tree.un l).length = l.length := List.length_map ..
 show term_sound N (o, v, l, ()) = _
 unfold term_sound sdB
 simp only [hlen]
 have z0 : decide ((l.length : Int) = (0 : Int)) = decide (l.length = 0) := decide_eq_decide.2 (by omega)
 have z1 : decide ((l.length : Int) = (1 : Int)) = decide (l.length = 1) := decide_eq_decide.2 (by omega)
 have z2 : decide ((l.length : Int) = (2 : Int)) = decide (l.length = 2) := decide_eq_decide.2 (by omega)
 simp only [z0, z1, z2]
 by_cases h1 : o = 1
 ·simp only [dpos h1, cond_true, if_pos h1]
 simp only [dneg h1, cond_false, if_neg h1]
 by_cases h2 : o = 2
 ·simp only [dpos h2, cond_true, if_pos (show o = 2 ∨ o = 9 ∨ o = 10 from .inl h2)]
  cases decide (l.length = 0) <;> rfl
 simp only [dneg h2, cond_false]
 by_cases h3 : o = 9
 ·simp only [dpos h3, cond_true, if_pos (show o = 2 ∨ o = 9 ∨ o = 10 from .inr (.inl h3))]
  cases decide (l.length = 0) <;> rfl
 simp only [dneg h3, cond_false]
 by_cases h4 : o = 10
 ·simp only [dpos h4, cond_true, if_pos (show o = 2 ∨ o = 9 ∨ o = 10 from .inr (.inr h4))]
  cases decide (l.length = 0) <;> rfl
 simp only [dneg h4, cond_false, if_neg (show ¬ (o = 2 ∨ o = 9 ∨ o = 10) by omega)]
 by_cases h5 : o = 3
 ·simp only [dpos h5, cond_true, if_pos h5]
 simp only [dneg h5, cond_false, if_neg h5]
 by_cases h6 : o = 6
 ·simp only [dpos h6, cond_true, if_pos h6]
 simp only [dneg h6, cond_false, if_neg h6]
 by_cases h7 : o = 4
 ·simp only [dpos h7, cond_true, if_pos h7]
  cases decide (l.length = 1) <;> rfl
 simp only [dneg h7, cond_false, if_neg h7]
 by_cases h8 : o = 8
 ·simp only [dpos h8, cond_true, if_pos h8]
  cases decide (l.length = 1) <;> rfl
 simp only [dneg h8, cond_false, if_neg h8]
 by_cases h9 : o = 5
 ·simp only [dpos h9, cond_true, if_pos h9]
  by_cases hl : l.length = 2
  ·simp only [dpos hl, cond_true, Bool.true_and]
   by_cases hv : v = 0
   ·simp only [dpos hv, cond_true, Bool.true_and]
    match l, hl with
    | [a, b], _ =>
    have e1 : inR (1 : Int) [a, b].length = true := rfl
    have e0 : inR (0 : Int) [a, b].length = true := rfl
    have g1 : ∀ z : TT.den, (List.map Tree.un [a, b]).getD 1 z = b.un := fun z => rfl
    have g0 : ∀ z : TT.den, (List.map Tree.un [a, b]).getD 0 z = a.un := fun z => rfl
    simp only [e1, e0, cond_true, g1, g0]
    rw [less_ok N hN (hdn b (by simp)) (hin b (by simp)) (hin a (by simp))]
    rfl
   ·simp only [dneg hv, cond_false, Bool.false_and]
  ·simp only [dneg hl, cond_false, Bool.false_and]
 simp only [dneg h9, cond_false, if_neg h9]
 by_cases h10 : o = 7
 ·simp only [dpos h10, cond_true, if_pos h10]
  cases decide (l.length = 2) <;> rfl
 simp only [dneg h10, cond_false, if_neg h10]
theorem vAll_ok : ∀ {l : List (Tree × Int)}, (∀ p ∈ l, dep p.1 ≤ N ∧ Tk p.1) → vAll N l = some (l.all fun p => decide (p.2 ≤ 60) && sdB p.1)
 | [], _ => rfl
 | p :: l, h => by
  unfold vAll
  rw [sound_ok N hN (h p (by simp)).1 (h p (by simp)).2, vAll_ok fun q hq => h q (by simp [hq]), List.all_cons]
  rfl
end
mutual
theorem vN_in {n : Nat} : ∀ (t : Tree) (d : Int), dep t ≤ n → Tk t → ∀ p ∈ vN t d, dep p.1 ≤ n ∧ Tk p.1
 | .mk o v l, d, h, ht, p, hp => by
  have hp' : p ∈ ((.mk o v l, d) :: vNL l (IntKind.i64.wrap (d + 1))) := hp
  rcases List.mem_cons.1 hp' with rfl | hp
  ·exact ⟨h, ht⟩
  ·have h' : 1 + depL l ≤ n := h
   exact vNL_in l _ (by omega) ht.2.2.2 p hp
theorem vNL_in {n : Nat} : ∀ (l : List Tree) (d : Int), depL l ≤ n → TkL l → ∀ p ∈ vNL l d, dep p.1 ≤ n ∧ Tk p.1
 | [], _, _, _, p, hp => by cases hp
 | t :: l, d, h, ht, p, hp => by
  have hp' : p ∈ vN t d ++ vNL l d := hp
  have h' : max (dep t) (depL l) ≤ n := h
  rcases List.mem_append.1 hp' with hp | hp
  ·exact vN_in t d (by omega) ht.1 p hp
  ·exact vNL_in l d (by omega) ht.2 p hp
end
section
variable (N : Nat) (hN : 9223372036854775808 ≤ N)
include hN
theorem valid_ok {t : Tree} (hd : dep t ≤ N) (ht : Tk t) : term_Valid N t.un = some ((valB t, ()), ()) := by
 unfold term_Valid
 have hmk : mkT t.un = t := by cases t; rfl
 rw [hmk, vN_len]
 unfold valB
 by_cases hc : cnt t ≤ 600
 ·have e : Nat.ble (cnt t) 600 = true := Nat.ble_eq_true_of_le hc
  rw [e, cond_true, vAll_ok N hN (fun p hp => vN_in t 1 hd ht p hp), Option.bind_some, dpos hc]
  have h := vN_all t 1 (by omega) (by omega)
  have h' : ((vN t (1 : Int)).all fun p => decide (p.2 ≤ 60) && sdB p.1) = (decide (1 + dep t ≤ 61) && sdA t) := h
  rw [h', show decide (1 + dep t ≤ 61) = decide (dep t ≤ 60) from decide_eq_decide.2 (by omega)]
  rfl
 ·have e : Nat.ble (cnt t) 600 = false := by
   cases hb : Nat.ble (cnt t) 600 with
   | false => rfl
   | true => exact absurd (Nat.le_of_ble_eq_true hb) hc
  rw [e, cond_false, dneg hc]
  rfl
end
end Go.Proofs.YtehbbcdhahnkgaaGreat.Pl
