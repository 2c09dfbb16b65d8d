/- From a row's reading of an argument of type api.Term to a tree. -/
import Derived.Test.YtehbbcdhahnkgaaGreatFrameX
import Derived.Test.YtehbbcdhahnkgaaGreatGmRule
import Derived.Test.YtehbbcdhahnkgaaGreatWords
import Derived.Lib.LaidTab
import Derived.ChangeArms
set_option linter.unusedVariables false
set_option linter.unusedSimpArgs false
namespace Go.Proofs.YtehbbcdhahnkgaaGreat
open Go.RowKit Go.ChangeShapes Go.WideShapes
mutual
def dep : Tree → Nat
 | .mk _ _ l => 1 + depL l
def depL : List Tree → Nat
 | [] => 0
 | t :: l => max (dep t) (depL l)
end
theorem depL_le {n : Nat} : ∀ {l : List Tree}, (∀ t ∈ l, dep t ≤ n) → depL l ≤ n
 | [], _ => Nat.zero_le _
 | t :: l, h => by
  show max (dep t) (depL l) ≤ n
  exact Nat.max_le.2 ⟨h t (by simp), depL_le fun x hx => h x (by simp [hx])⟩
theorem cells_tint : Tryz.prog.cellsOf 3 = 1 := by kernel_rfl
theorem cells_tsl : Tryz.prog.cellsOf 26 = 1 := by kernel_rfl
theorem cells_term : Tryz.prog.cellsOf 28 = 3 := by kernel_rfl
theorem tl_of {w : World} {Z : Nat → Prop} : ∀ {l : List Tree} {uss : List (List Value)}, l.length = uss.length → (∀ (i : Nat) (t : Tree) (us : List Value), l[i]? = some t → uss[i]? = some us → TR w Z t us) → TL w Z l uss
 | [], [], _, _ => trivial
 | t :: l, us :: uss, h, hi => ⟨hi 0 t us rfl rfl, tl_of (by simpa using h) fun i t us h1 h2 => hi (i + 1) t us (by simpa using h1) (by simpa using h2)⟩
 | [], _ :: _, h, _ => by simp at h
 | _ :: _, [], h, _ => by simp at h
theorem choose_n {α : Type} {n : Nat} {p : Nat → α → Prop} (h : ∀ i, i < n → ∃ x, p i x) : ∃ l : List α, l.length = n ∧ ∀ (i : Nat) (x : α), l[i]? = some x → p i x := by
 induction n with
 | zero => exact ⟨[], rfl, fun i x h => by simp at h⟩
 | succ n ih =>
  obtain ⟨l, h1, h2⟩ := ih fun i hi => h i (by omega)
  obtain ⟨x, hx⟩ := h n (by omega)
  refine ⟨l ++ [x], by simp [h1], fun i y hy => ?_⟩
  rcases Nat.lt_trichotomy i n with hi | hi | hi
  ·exact h2 i y (by rw [List.getElem?_append_left (by omega)] at hy; exact hy)
  ·subst hi
   rw [← h1, List.getElem?_concat_length] at hy
   cases hy
   exact hx
  ·have := (List.getElem?_eq_some_iff.1 hy).1
   simp at this; omega
theorem flat3 : ∀ {uss : List (List Value)}, (∀ us ∈ uss, us.length = 3) → ∀ (j : Nat) u, uss.flatten[j]? = some u → ∃ us, uss[j / 3]? = some us ∧ us[j % 3]? = some u
 | [], _, j, u, h => by simp at h
 | us :: uss, h3, j, u, h => by
  have hl := h3 us (by simp)
  rw [List.flatten_cons] at h
  by_cases hj : j < 3
  ·rw [List.getElem?_append_left (by omega)] at h
   exact ⟨us, by rw [Nat.div_eq_of_lt hj]; rfl, by rw [Nat.mod_eq_of_lt hj]; exact h⟩
  ·rw [List.getElem?_append_right (by omega), hl] at h
   obtain ⟨vs, h1, h2⟩ := flat3 (fun x hx => h3 x (by simp [hx])) (j - 3) u h
   have e1 : j / 3 = (j - 3) / 3 + 1 := by omega
   have e2 : (j - 3) % 3 = j % 3 := by omega
   exact ⟨vs, by rw [e1, List.getElem?_cons_succ]; exact h1, by rw [← e2]; exact h2⟩
section
variable {H : Type} {enc : TypeId × Value → H} {W : World} {base : Nat} {sp : Nat → Bool} {held : Bool}
set_option maxRecDepth 100000 in
theorem tr_of_trod : ∀ (fuel : Nat) {cs : List Value} {x : DataW H × List MemPlace}, DataW.trod enc Tryz.prog W base sp held fuel 28 cs = some x → ∃ T : Tree, TR W (fun b => b < W.heap.size) T cs ∧ dep T ≤ fuel := by
 intro fuel
 induction fuel using Nat.strongRecOn with
 | _ fuel ih =>
 intro cs x h
 obtain ⟨ys, m, rfl, _, hl, hl2, hf⟩ := DataW.trod_struct Tryz.underlying28 h
 rw [cells_term] at hl
 match cs, hl with
 | [c0, c1, c2], _ =>
 match ys, hl2 with
 | [y0, y1, y2], _ =>
 have h0 := hf 0 _ rfl
 have h1 := hf 1 _ rfl
 have h2 := hf 2 _ rfl
 simp [cells_tint, cells_tsl] at h0 h1 h2
 obtain ⟨o, e0, _, w0⟩ := DataW.trod_int Tryz.underlying3 h0
 obtain ⟨v, e1, _, w1⟩ := DataW.trod_int Tryz.underlying3 h1
 simp at e0 e1
 subst e0 e1
 have b0 := bounds_i64 w0
 have b1 := bounds_i64 w1
 rcases DataW.trod_slice Tryz.underlying26 h2 with ⟨e2, _⟩ | ⟨a, len, cap, elems, rest, n, hn, e2, _, _, hle, hmx, hlen, hel, _, _⟩
 ·simp at e2
  subst e2
  refine ⟨.mk o v [], ⟨none, 0, rfl, b0, b1, Nat.le_refl _, by simp [maxLen], fun h => by simp at h⟩, ?_⟩
  show 1 + 0 ≤ m + 1
  omega
 ·simp at e2
  subst e2
  rw [cells_term] at hel
  obtain ⟨l, l1, l2⟩ := choose_n (n := len) (p := fun i (q : Tree × List Value) => W.cells? base (a.add (i * 3)) 3 = some q.2 ∧ TR W (fun b => b < W.heap.size) q.1 q.2 ∧ dep q.1 ≤ n) fun i hi => by
   have hi' := hel i hi
   rw [List.getElem?_eq_getElem (by omega), Option.bind_eq_some_iff] at hi'
   obtain ⟨us, q1, q2⟩ := hi'
   obtain ⟨T, q3, q4⟩ := ih n (by omega) q2
   exact ⟨(T, us), q1, q3, q4⟩
  refine ⟨.mk o v (l.map (·.1)), ⟨some a, cap, by simp [l1], b0, b1, by simp [l1]; exact hle, hmx, fun hp => ?_⟩, ?_⟩
  ·have hp' : 0 < len := by simpa [l1] using hp
   have hcell : ∀ (i : Nat) (us : List Value), (l.map (·.2))[i]? = some us → us.length = 3 ∧ ∀ (k : Nat) (u : Value), us[k]? = some u → W.cell? (a.add (i * 3 + k)) = some u := fun i us hi => by
    rw [List.getElem?_map] at hi
    obtain ⟨q, hq, rfl⟩ := Option.map_eq_some_iff.1 hi
    obtain ⟨q1, _⟩ := l2 i q hq
    obtain ⟨r1, r2, r3⟩ := World.cells?_some q1
    refine ⟨r2, fun k u hk => ?_⟩
    have hk3 : k < 3 := by rw [← r2]; exact (List.getElem?_eq_some_iff.1 hk).1
    have := r3 k hk3
    rw [Addr.add_add] at this
    rw [this]; exact hk
   obtain ⟨b, k, s⟩ := a
   have hs : s = none ∧ b < W.heap.size := by
    obtain ⟨q, hq⟩ : ∃ q, l[0]? = some q := ⟨_, List.getElem?_eq_getElem (by omega)⟩
    obtain ⟨r2, r3⟩ := hcell 0 q.2 (by rw [List.getElem?_map, hq]; rfl)
    have := r3 0 (q.2[0]'(by omega)) (List.getElem?_eq_getElem _)
    simp only [Nat.zero_mul, Nat.zero_add] at this
    have h0 := World.cell?_spot this
    exact ⟨by simpa [Addr.add] using h0, World.block_lt_of_cell? W _ this⟩
   obtain ⟨rfl, hb⟩ := hs
   refine ⟨b, k, l.map (·.2), rfl, hb, hb, tl_of (by simp) fun i t us h1 h2 => ?_, fun j u hu => ?_⟩
   ·rw [List.getElem?_map] at h1 h2
    obtain ⟨q, hq, rfl⟩ := Option.map_eq_some_iff.1 h1
    rw [hq] at h2
    cases h2
    exact (l2 i q hq).2.1
   ·obtain ⟨us, q1, q2⟩ := flat3 (fun us hus => by
     obtain ⟨i, hi⟩ := List.mem_iff_getElem?.1 hus
     exact (hcell i us hi).1) j u hu
    have := (hcell _ us q1).2 _ u q2
    have e : j / 3 * 3 + j % 3 = j := by omega
    rw [e, Addr.add_lit] at this
    exact this
  ·show 1 + depL (l.map (·.1)) ≤ m + 1
   have : depL (l.map (·.1)) ≤ n := depL_le fun t ht => by
    obtain ⟨q, hq, rfl⟩ := List.mem_map.1 ht
    obtain ⟨i, hi⟩ := List.mem_iff_getElem?.1 hq
    exact (l2 i q hi).2.2
   omega
end
end Go.Proofs.YtehbbcdhahnkgaaGreat
