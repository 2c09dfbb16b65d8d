/- The ghost machine and the machine: how data lie in memory. -/
import Derived.Test.YtehbbcdhahnkgaaGreatGm
import Derived.Maps.AppendAt
import Derived.OwnWalk
import Derived.Deep.MidRow
set_option linter.unusedVariables false
set_option linter.unusedSimpArgs false
namespace Go.Proofs.YtehbbcdhahnkgaaGreat
open Go

def All2 {α β : Type} (R : α → β → Prop) : List α → List β → Prop
 | [], [] => True
 | a :: as, b :: bs => R a b ∧ All2 R as bs
 | _, _ => False
theorem All2.mono {α β : Type} {R R' : α → β → Prop} (h : ∀ a b, R a b → R' a b) : ∀ {as : List α} {bs : List β}, All2 R as bs → All2 R' as bs
 | [], [], _ => trivial
 | _ :: _, _ :: _, ⟨x, y⟩ => ⟨h _ _ x, All2.mono h y⟩
theorem All2.length {α β : Type} {R : α → β → Prop} : ∀ {as : List α} {bs : List β}, All2 R as bs → as.length = bs.length
 | [], [], _ => rfl
 | _ :: _, _ :: _, ⟨_, y⟩ => by simp [All2.length y]
theorem All2.append {α β : Type} {R : α → β → Prop} : ∀ {as : List α} {bs : List β} {as' : List α} {bs' : List β}, All2 R as bs → All2 R as' bs' → All2 R (as ++ as') (bs ++ bs')
 | [], [], _, _, _, h => h
 | _ :: _, _ :: _, _, _, ⟨x, y⟩, h => ⟨x, All2.append y h⟩
theorem All2.take {α β : Type} {R : α → β → Prop} : ∀ {as : List α} {bs : List β} (n : Nat), All2 R as bs → All2 R (as.take n) (bs.take n)
 | [], [], _, _ => by simp [All2]
 | _ :: _, _ :: _, 0, _ => by simp [All2]
 | _ :: _, _ :: _, n + 1, ⟨x, y⟩ => ⟨x, All2.take n y⟩
theorem All2.drop {α β : Type} {R : α → β → Prop} : ∀ {as : List α} {bs : List β} (n : Nat), All2 R as bs → All2 R (as.drop n) (bs.drop n)
 | [], [], _, _ => by simp [All2]
 | _ :: _, _ :: _, 0, h => h
 | _ :: _, _ :: _, n + 1, ⟨_, y⟩ => All2.drop n y
theorem All2.set {α β : Type} {R : α → β → Prop} {a : α} {b : β} (hr : R a b) : ∀ {as : List α} {bs : List β} (n : Nat), All2 R as bs → All2 R (as.set n a) (bs.set n b)
 | [], [], _, _ => by simp [All2]
 | _ :: _, _ :: _, 0, ⟨_, y⟩ => ⟨hr, y⟩
 | _ :: _, _ :: _, n + 1, ⟨x, y⟩ => ⟨x, All2.set hr n y⟩
theorem All2.replicate {α β : Type} {R : α → β → Prop} {a : α} {b : β} (hr : R a b) : ∀ n : Nat, All2 R (List.replicate n a) (List.replicate n b)
 | 0 => by simp [All2]
 | n + 1 => by rw [List.replicate_succ, List.replicate_succ]; exact ⟨hr, All2.replicate hr n⟩
theorem All2.get {α β : Type} {R : α → β → Prop} : ∀ {as : List α} {bs : List β} (n : Nat) (a : α), All2 R as bs → as[n]? = some a → ∃ b, bs[n]? = some b ∧ R a b
 | [], [], _, _, _, e => by simp at e
 | _ :: _, b :: _, 0, _, ⟨x, _⟩, e => by simp at e; subst e; exact ⟨b, rfl, x⟩
 | _ :: _, _ :: _, n + 1, a, ⟨_, y⟩, e => by simpa using All2.get n a y (by simpa using e)
theorem All2.getD {α β : Type} {R : α → β → Prop} {as : List α} {bs : List β} (h : All2 R as bs) {n : Nat} (hn : n < as.length) (d : α) (e : β) : R (as.getD n d) (bs.getD n e) := by
 obtain ⟨b, hb, hr⟩ := All2.get n as[n] h (by simp [hn])
 simp [List.getD, hb, List.getElem?_eq_getElem hn]
 exact hr
theorem flatten_len {vss : List (List Value)} {k : Nat} (h : ∀ v ∈ vss, v.length = k) : vss.flatten.length = vss.length * k := by
 induction vss with
 | nil => simp
 | cons v l ih => simp only [List.flatten_cons, List.length_append, List.length_cons, Nat.add_mul, Nat.one_mul]; rw [ih fun u hu => h u (by simp [hu]), h v (by simp)]; omega
theorem flatten_at {vss : List (List Value)} {k : Nat} (h : ∀ v ∈ vss, v.length = k) : ∀ (i j : Nat) (v : List Value), vss[i]? = some v → j < k → vss.flatten[i * k + j]? = v[j]? := by
 induction vss with
 | nil => intro i j v hv; simp at hv
 | cons u l ih =>
  intro i j v hv hj
  have hu := h u (by simp)
  cases i with
  | zero => simp at hv; subst hv; simp only [List.flatten_cons, Nat.zero_mul, Nat.zero_add]; rw [List.getElem?_append_left (by omega)]
  | succ i =>
   simp at hv
   simp only [List.flatten_cons, Nat.add_mul, Nat.one_mul]
   rw [List.getElem?_append_right (by omega)]
   have := ih (fun w hw => h w (by simp [hw])) i j v hv hj
   rw [← this]; congr 1; omega
theorem flatten_take {vss : List (List Value)} {k : Nat} (h : ∀ v ∈ vss, v.length = k) : ∀ n, (vss.take n).flatten = vss.flatten.take (n * k) := by
 induction vss with
 | nil => simp
 | cons v l ih =>
  intro n
  cases n with
  | zero => simp
  | succ n =>
   have hv := h v (by simp)
   simp only [List.take_succ_cons, List.flatten_cons]
   rw [ih (fun u hu => h u (by simp [hu])) n, List.take_append, Nat.add_mul, Nat.one_mul, List.take_of_length_le (l := v) (by omega)]
   congr 2; omega
theorem flatten_drop {vss : List (List Value)} {k : Nat} (h : ∀ v ∈ vss, v.length = k) : ∀ n, (vss.drop n).flatten = vss.flatten.drop (n * k) := by
 induction vss with
 | nil => simp
 | cons v l ih =>
  intro n
  cases n with
  | zero => simp
  | succ n =>
   have hv := h v (by simp)
   simp only [List.drop_succ_cons, List.flatten_cons]
   rw [ih (fun u hu => h u (by simp [hu])) n, List.drop_append, Nat.add_mul, Nat.one_mul, List.drop_of_length_le (by omega : v.length ≤ n * k + k), List.nil_append]
   congr 1; omega

mutual
def TR (w : World) (Z : Nat → Prop) : Tree → List Value → Prop
 | .mk o v l, vs => ∃ A c, vs = [.int .i64 o, .int .i64 v, .slice A l.length c] ∧ (-9223372036854775808 ≤ o ∧ o ≤ 9223372036854775807) ∧ (-9223372036854775808 ≤ v ∧ v ≤ 9223372036854775807) ∧ l.length ≤ c ∧ c ≤ maxLen ∧
   (0 < l.length → ∃ b k uss, A = some ⟨b, k, none⟩ ∧ Z b ∧ b < w.heap.size ∧ TL w Z l uss ∧ ∀ j u, uss.flatten[j]? = some u → w.cell? ⟨b, k + j, none⟩ = some u)
def TL (w : World) (Z : Nat → Prop) : List Tree → List (List Value) → Prop
 | [], [] => True
 | t :: l, us :: uss => TR w Z t us ∧ TL w Z l uss
 | _, _ => False
end
def DR (w : World) (Z : Nat → Prop) : (t : Ty) → t.den → List Value → Prop
 | .bool, x, vs => vs = [.bool x]
 | .i64, x, vs => vs = [.int .i64 x] ∧ -9223372036854775808 ≤ x ∧ x ≤ 9223372036854775807
 | .u8, x, vs => vs = [.int .u8 (x.toNat : Int)]
 | .u16, x, vs => vs = [.int .u16 (x.toNat : Int)]
 | .u32, x, vs => vs = [.int .u32 (x.toNat : Int)]
 | .u64, x, vs => vs = [.int .u64 (x.toNat : Int)]
 | .str, x, vs => vs = [.string ⟨x.toArray⟩] ∧ x.length ≤ maxLen
 | .unit, _, vs => vs = []
 | .sl t, x, vs => ∃ A c, vs = [.slice A x.length c] ∧ x.length ≤ c ∧ c ≤ maxLen ∧
   (0 < x.length → ∃ b o uss, A = some ⟨b, o, none⟩ ∧ Z b ∧ b < w.heap.size ∧ All2 (DR w Z t) x uss ∧ ∀ j u, uss.flatten[j]? = some u → w.cell? ⟨b, o + j, none⟩ = some u)
 | .arr n t, x, vs => x.length = n ∧ ∃ uss, vs = uss.flatten ∧ All2 (DR w Z t) x uss
 | .pair a b, x, vs => ∃ us rs, vs = us ++ rs ∧ DR w Z a x.1 us ∧ DR w Z b x.2 rs
 | .trees, x, vs => ∃ A c, vs = [.slice A x.length c] ∧ x.length ≤ c ∧ c ≤ maxLen ∧
   (0 < x.length → ∃ b o uss, A = some ⟨b, o, none⟩ ∧ Z b ∧ b < w.heap.size ∧ TL w Z x uss ∧ ∀ j u, uss.flatten[j]? = some u → w.cell? ⟨b, o + j, none⟩ = some u)

theorem All2.lens {w : World} {Z : Nat → Prop} {t : Ty} (h : ∀ x vs, DR w Z t x vs → vs.length = t.size) : ∀ {xs : List t.den} {uss : List (List Value)}, All2 (DR w Z t) xs uss → ∀ v ∈ uss, v.length = t.size
 | [], [], _, v, hv => by simp at hv
 | _ :: _, u :: us, ⟨x, y⟩, v, hv => by
  rcases List.mem_cons.1 hv with rfl | hv
  ·exact h _ _ x
  ·exact All2.lens h y v hv
theorem DR.len {w : World} {Z : Nat → Prop} : ∀ {t : Ty} {x : t.den} {vs : List Value}, DR w Z t x vs → vs.length = t.size := by
 intro t
 induction t with
 | arr n t ih =>
  intro x vs ⟨hl, uss, e, ha⟩
  subst e
  rw [flatten_len (All2.lens (fun x vs => ih) ha), ← All2.length ha, hl, Ty.size]
 | pair a b iha ihb =>
  intro x vs ⟨us, rs, e, h1, h2⟩
  subst e
  simp [Ty.size, iha h1, ihb h2]
 | sl t ih => intro x vs ⟨A, c, e, _⟩; subst e; rfl
 | trees => intro x vs ⟨A, c, e, _⟩; subst e; rfl
 | i64 => intro x vs h; rw [h.1]; rfl
 | str => intro x vs h; rw [h.1]; rfl
 | unit => intro x vs h; rw [show vs = [] from h]; rfl
 | _ => intro x vs h; simp only [DR] at h; rw [h]; rfl
theorem All2.lenD {w : World} {Z : Nat → Prop} {t : Ty} {xs : List t.den} {uss : List (List Value)} (h : All2 (DR w Z t) xs uss) : ∀ v ∈ uss, v.length = t.size := All2.lens (fun _ _ => DR.len) h
theorem All2.flatD {w : World} {Z : Nat → Prop} {t : Ty} {xs : List t.den} {uss : List (List Value)} (h : All2 (DR w Z t) xs uss) : uss.flatten.length = xs.length * t.size := by
 rw [flatten_len h.lenD, ← All2.length h]
theorem All2.one {w : World} {Z : Nat → Prop} {t : Ty} (h : ∀ x vs, DR w Z t x vs → ∀ u ∈ vs, u.oneCell' = true) : ∀ {xs : List t.den} {uss : List (List Value)}, All2 (DR w Z t) xs uss → ∀ u ∈ uss.flatten, u.oneCell' = true
 | [], [], _, v, hv => by simp at hv
 | _ :: _, u :: us, ⟨x, y⟩, v, hv => by
  rw [List.flatten_cons] at hv
  rcases List.mem_append.1 hv with hv | hv
  ·exact h _ _ x v hv
  ·exact All2.one h y v hv
theorem DR.one {w : World} {Z : Nat → Prop} : ∀ {t : Ty} {x : t.den} {vs : List Value}, DR w Z t x vs → ∀ u ∈ vs, u.oneCell' = true := by
 intro t
 induction t with
 | arr n t ih =>
  intro x vs ⟨hl, uss, e, ha⟩
  subst e
  exact All2.one (fun x vs => ih) ha
 | pair a b iha ihb =>
  intro x vs ⟨us, rs, e, h1, h2⟩ u hu
  subst e
  rcases List.mem_append.1 hu with hu | hu
  ·exact iha h1 u hu
  ·exact ihb h2 u hu
 | sl t ih => intro x vs ⟨A, c, e, _⟩ u hu; subst e; simp at hu; subst hu; rfl
 | trees => intro x vs ⟨A, c, e, _⟩ u hu; subst e; simp at hu; subst hu; rfl
 | i64 => intro x vs h u hu; rw [h.1] at hu; simp at hu; subst hu; rfl
 | str => intro x vs h u hu; rw [h.1] at hu; simp at hu; subst hu; rfl
 | unit => intro x vs h u hu; rw [show vs = [] from h] at hu; simp at hu
 | _ => intro x vs h u hu; simp only [DR] at h; rw [h] at hu; simp at hu; subst hu; rfl
theorem All2.oneD {w : World} {Z : Nat → Prop} {t : Ty} {xs : List t.den} {uss : List (List Value)} (h : All2 (DR w Z t) xs uss) : ∀ u ∈ uss.flatten, u.oneCell' = true := All2.one (fun _ _ => DR.one) h

structure Same (Z : Nat → Prop) (w w' : World) : Prop where
 size : w.heap.size ≤ w'.heap.size
 cell : ∀ b o, Z b → b < w.heap.size → w'.cell? ⟨b, o, none⟩ = w.cell? ⟨b, o, none⟩
theorem Same.refl (Z : Nat → Prop) (w : World) : Same Z w w := ⟨Nat.le_refl _, fun _ _ _ _ => rfl⟩
mutual
theorem TR.mono {w w' : World} {Z Z' : Nat → Prop} (hw : Same Z w w') (hz : ∀ b, Z b → Z' b) : ∀ {t : Tree} {vs : List Value}, TR w Z t vs → TR w' Z' t vs
 | .mk o v l, vs, h => by
  unfold TR at h ⊢
  obtain ⟨A, c, e, h1, h2, h3, h4, h5⟩ := h
  refine ⟨A, c, e, h1, h2, h3, h4, fun hp => ?_⟩
  obtain ⟨b, k, uss, hA, hZ, hb, ha, hc⟩ := h5 hp
  exact ⟨b, k, uss, hA, hz b hZ, Nat.lt_of_lt_of_le hb hw.size, TL.mono hw hz ha, fun j u hu => (hw.cell b _ hZ hb).trans (hc j u hu)⟩
theorem TL.mono {w w' : World} {Z Z' : Nat → Prop} (hw : Same Z w w') (hz : ∀ b, Z b → Z' b) : ∀ {l : List Tree} {uss : List (List Value)}, TL w Z l uss → TL w' Z' l uss
 | [], [], _ => by unfold TL; trivial
 | [], _ :: _, h => by unfold TL at h; exact h.elim
 | _ :: _, [], h => by unfold TL at h; exact h.elim
 | t :: l, us :: uss, h => by
  unfold TL at h ⊢
  exact ⟨TR.mono hw hz h.1, TL.mono hw hz h.2⟩
end
theorem DR.mono {w w' : World} {Z Z' : Nat → Prop} (hw : Same Z w w') (hz : ∀ b, Z b → Z' b) : ∀ {t : Ty} {x : t.den} {vs : List Value}, DR w Z t x vs → DR w' Z' t x vs := by
 intro t
 induction t with
 | arr n t ih => intro x vs ⟨hl, uss, e, ha⟩; exact ⟨hl, uss, e, ha.mono fun _ _ => ih⟩
 | pair a b iha ihb => intro x vs ⟨us, rs, e, h1, h2⟩; exact ⟨us, rs, e, iha h1, ihb h2⟩
 | sl t ih =>
  intro x vs ⟨A, c, e, h1, h2, h3⟩
  refine ⟨A, c, e, h1, h2, fun hp => ?_⟩
  obtain ⟨b, o, uss, hA, hZ, hb, ha, hc⟩ := h3 hp
  exact ⟨b, o, uss, hA, hz b hZ, Nat.lt_of_lt_of_le hb hw.size, ha.mono fun _ _ => ih, fun j u hu => (hw.cell b _ hZ hb).trans (hc j u hu)⟩
 | trees =>
  intro x vs ⟨A, c, e, h1, h2, h3⟩
  refine ⟨A, c, e, h1, h2, fun hp => ?_⟩
  obtain ⟨b, o, uss, hA, hZ, hb, ha, hc⟩ := h3 hp
  exact ⟨b, o, uss, hA, hz b hZ, Nat.lt_of_lt_of_le hb hw.size, TL.mono hw hz ha, fun j u hu => (hw.cell b _ hZ hb).trans (hc j u hu)⟩
 | _ => intro x vs h; exact h
theorem DR.flat {w w' : World} {Z Z' : Nat → Prop} : ∀ {t : Ty} {x : t.den} {vs : List Value}, t.flat = true → DR w Z t x vs → DR w' Z' t x vs := by
 intro t
 induction t with
 | arr n t ih => intro x vs hf ⟨hl, uss, e, ha⟩; exact ⟨hl, uss, e, ha.mono fun _ _ => ih (by simpa [Ty.flat] using hf)⟩
 | pair a b iha ihb => intro x vs hf ⟨us, rs, e, h1, h2⟩; simp [Ty.flat] at hf; exact ⟨us, rs, e, iha hf.1 h1, ihb hf.2 h2⟩
 | sl t ih => intro x vs hf; simp [Ty.flat] at hf
 | trees => intro x vs hf; simp [Ty.flat] at hf
 | _ => intro x vs _ h; exact h

def zc : Ty → List Value
 | .bool => [.bool false]
 | .i64 => [.int .i64 0]
 | .u8 => [.int .u8 0]
 | .u16 => [.int .u16 0]
 | .u32 => [.int .u32 0]
 | .u64 => [.int .u64 0]
 | .str => [.string .empty]
 | .unit => []
 | .sl _ => [.slice none 0 0]
 | .trees => [.slice none 0 0]
 | .arr n t => (List.replicate n (zc t)).flatten
 | .pair a b => zc a ++ zc b
theorem DR.zero {w : World} {Z : Nat → Prop} : ∀ t : Ty, DR w Z t t.zero (zc t) := by
 intro t
 induction t with
 | arr n t ih => exact ⟨by simp [Ty.zero], List.replicate n (zc t), rfl, by simp only [Ty.zero]; exact All2.replicate ih n⟩
 | pair a b iha ihb => exact ⟨_, _, rfl, iha, ihb⟩
 | sl t ih => exact ⟨none, 0, rfl, by simp [Ty.zero], by simp [maxLen], fun h => absurd h (by simp [Ty.zero])⟩
 | trees => exact ⟨none, 0, rfl, by simp [Ty.zero], by simp [maxLen], fun h => absurd h (by simp [Ty.zero])⟩
 | str => exact ⟨rfl, by simp [Ty.zero]⟩
 | i64 => exact ⟨rfl, by decide, by decide⟩
 | _ => rfl

theorem TR_DR {w : World} {Z : Nat → Prop} {t : Tree} {vs : List Value} : TR w Z t vs ↔ DR w Z TT t.un vs := by
 obtain ⟨o, v, l⟩ := t
 unfold TR
 constructor
 ·rintro ⟨A, c, rfl, h1, h2, h3, h4, h5⟩
  exact ⟨[_], [_, _], rfl, ⟨rfl, h1⟩, [_], [_], rfl, ⟨rfl, h2⟩, [_], [], rfl, ⟨A, c, rfl, h3, h4, h5⟩, rfl⟩
 ·rintro ⟨_, _, rfl, ⟨rfl, h1⟩, _, _, rfl, ⟨rfl, h2⟩, _, _, rfl, ⟨A, c, rfl, h3, h4, h5⟩, rfl⟩
  exact ⟨A, c, rfl, h1, h2, h3, h4, h5⟩
theorem TL_DR {w : World} {Z : Nat → Prop} : ∀ {l : List Tree} {uss : List (List Value)}, TL w Z l uss ↔ All2 (DR w Z TT) (l.map Tree.un) uss
 | [], [] => by unfold TL; exact Iff.rfl
 | [], _ :: _ => by unfold TL; exact Iff.rfl
 | _ :: _, [] => by unfold TL; exact Iff.rfl
 | t :: l, us :: uss => by
  unfold TL
  show _ ↔ (DR w Z TT t.un us ∧ All2 (DR w Z TT) (l.map Tree.un) uss)
  rw [TR_DR, TL_DR]
theorem trees_DR {w : World} {Z : Nat → Prop} {l : List Tree} {vs : List Value} : DR w Z .trees l vs ↔ DR w Z (.sl TT) (l.map Tree.un) vs := by
 constructor
 ·rintro ⟨A, c, e, h1, h2, h3⟩
  refine ⟨A, c, by rw [List.length_map]; exact e, by rw [List.length_map]; exact h1, h2, fun hp => ?_⟩
  rw [List.length_map] at hp
  obtain ⟨b, o, uss, q1, q2, q3, q4, q5⟩ := h3 hp
  exact ⟨b, o, uss, q1, q2, q3, TL_DR.1 q4, q5⟩
 ·rintro ⟨A, c, e, h1, h2, h3⟩
  rw [List.length_map] at e h1 h3
  refine ⟨A, c, e, h1, h2, fun hp => ?_⟩
  obtain ⟨b, o, uss, q1, q2, q3, q4, q5⟩ := h3 hp
  exact ⟨b, o, uss, q1, q2, q3, TL_DR.2 q4, q5⟩
theorem view_size : ∀ {t : Ty}, (viewTy t).size = t.size := by intro t; cases t <;> rfl
theorem viewD_ty : ∀ {t : Ty} {x : t.den}, (viewD t x).1 = viewTy t := by intro t x; cases t <;> rfl
theorem viewD_DR {w : World} {Z : Nat → Prop} : ∀ {t : Ty} {x : t.den} {vs : List Value}, DR w Z (viewD t x).1 (viewD t x).2 vs ↔ DR w Z t x vs := by
 intro t x vs
 cases t with
 | trees => exact trees_DR.symm
 | _ => exact Iff.rfl
theorem un_mkT : ∀ l : List TT.den, (l.map mkT).map Tree.un = l := by
 intro l
 rw [List.map_map]
 exact List.map_id'' (fun x => rfl) l
def pk (t : Ty) (vs : List Value) : Value := if t.isAgg then .agg vs.toArray else vs.headD undef
theorem pk_cells {w : World} {Z : Nat → Prop} {t : Ty} {x : t.den} {vs : List Value} (h : DR w Z t x vs) : (pk t vs).cells.toList = vs := by
 have hl := h.len
 have h1 := h.one
 unfold pk
 cases t <;> simp [Ty.isAgg, Value.cells] <;> (simp [Ty.size] at hl)
 all_goals
  obtain ⟨v, rfl⟩ := List.length_eq_one_iff.1 hl
  have := h1 v (by simp)
  cases v <;> simp_all [Value.oneCell']

def blk : Value → Option Nat
 | .slice (some a) _ _ => some a.block
 | .pointer (some a) => some a.block
 | _ => none

def fldOff : Ty → Nat → Nat
 | .pair _ _, 0 => 0
 | .pair a b, k + 1 => a.size + fldOff b k
 | _, _ => 0
def poff : List PS → Ty → Nat
 | [], _ => 0
 | .fld k :: p, t => fldOff t k + (match fldTy t k with
  | some u => poff p u
  | none => 0)
 | .idx i :: p, .arr _ t => i * t.size + poff p t
 | .idx i :: p, .sl t => i * t.size + poff p t
 | _, _ => 0

def pval : List PS → Ty → Prop
 | [], _ => True
 | .fld k :: p, t => ∃ u, fldTy t k = some u ∧ pval p u
 | .idx i :: p, .arr n t => i < n ∧ pval p t
 | .idx _ :: _, _ => False
def slen : Value → Nat
 | .slice _ n _ => n
 | _ => 0
def rval (v : Value) : Ty → List PS → Prop
 | .sl t, .idx j :: p => j < slen v ∧ pval p t
 | .sl _, _ => False
 | T, p => pval p T

def SR (w : World) (Z : Nat → Prop) (ob : Nat → Value) : SV → Value → Prop
 | .data t x, v => ∃ vs, DR w Z t x vs ∧ v = pk t vs
 | .nil, v => v = .slice none 0 0
 | .nilp, v => v = .pointer none
 | .row i, v => v = ob i
 | .ref i T p, v => ∃ g, blk (ob i) = some g ∧ v = .pointer (some ⟨g, poff p T, none⟩) ∧ rval (ob i) T p
 | .fp t x, v => ∃ b o vs, v = .pointer (some ⟨b, o, none⟩) ∧ Z b ∧ b < w.heap.size ∧ DR w Z t x vs ∧ ∀ j u, vs[j]? = some u → w.cell? ⟨b, o + j, none⟩ = some u
 | .asl i n, v => ∃ g, blk (ob i) = some g ∧ v = .slice (some ⟨g, 0, none⟩) n n
 | .sdata t x f, v => ∃ vs, DR w Z t x vs ∧ v = pk t vs ∧ vs[fldOff t f]? = some (.slice none 0 0)
 | .ifc t, v => v = (match t with
  | none => .nilIface
  | some t => .iface t (.agg #[]))
 | .rsl i t l h, v => ∀ (w' : World) (Z' : Nat → Prop) (xs : List t.den), DR w' Z' (.sl t) xs [ob i] → DR w' Z' (.sl t) (cut xs l h) [v]
def VR (w : World) (Z : Nat → Prop) (ob : Nat → Value) : GV → Value → Prop
 | .sv v, u => SR w Z ob v u
 | .tup l, u => ∃ us, u = .tuple us.toArray ∧ All2 (SR w Z ob) l us
 | .clo f l, u => ∃ us, u = .func (.func f) #[] us.toArray ∧ All2 (SR w Z ob) l us
def OR (w : World) (Z : Nat → Prop) (ob : Nat → Value) (id : Nat) : Ob → Prop
 | .row e t xs own => ∃ uss, All2 (DR w Z t) xs uss ∧ w.ownsRow 0 e t.size (ob id) xs.length uss.flatten ∧ (own = false → ∀ b, blk (ob id) = some b → Z b)
 | .box e t x own => ∃ g vs, ob id = .pointer (some ⟨g, 0, none⟩) ∧ DR w Z t x vs ∧ w.heap[g]? = some (.cells vs.toArray e (0, 0)) ∧ (own = false → Z g)
 | .vbox e v => ∃ g u, ob id = .pointer (some ⟨g, 0, none⟩) ∧ SR w Z ob v u ∧ w.heap[g]? = some (.cells #[u] e (0, 0)) ∧ u.oneCell' = true
 | .sbox e t x f v => ∃ g vs u, ob id = .pointer (some ⟨g, 0, none⟩) ∧ DR w Z t x vs ∧ SR w Z ob v u ∧ w.heap[g]? = some (.cells (vs.set (fldOff t f) u).toArray e (0, 0)) ∧ u.oneCell' = true ∧ ∃ k, fldTy t f = some (.sl k)
 | .hrow e t xs i f r => ∃ uss, All2 (DR w Z t) xs uss ∧ i < xs.length ∧ w.ownsRow 0 e t.size (ob id) xs.length (uss.flatten.set (i * t.size + fldOff t f) (ob r)) ∧ (ob r).oneCell' = true ∧ ∃ k, fldTy t f = some (.sl k)
 | .raw c => ∀ g, blk (ob id) = some g → w.heap[g]? = some c
def Ob.own : Ob → Bool
 | .row _ _ _ o | .box _ _ _ o => o
 | .vbox _ _ | .sbox .. | .hrow .. | .raw _ => true

def SV.ids (U : Nat → Prop) : SV → Prop
 | .row i | .ref i _ _ | .asl i _ | .rsl i _ _ _ => U i
 | _ => True
def GV.ids (U : Nat → Prop) : GV → Prop
 | .sv v => v.ids U
 | .tup l | .clo _ l => ∀ v ∈ l, v.ids U
def Ob.ids (U : Nat → Prop) : Ob → Prop
 | .vbox _ v | .sbox _ _ _ _ v => v.ids U
 | .hrow _ _ _ _ _ r => U r
 | _ => True
theorem SV.ids.mono {U U' : Nat → Prop} (h : ∀ i, U i → U' i) : ∀ {v : SV}, v.ids U → v.ids U' := by
 intro v; cases v <;> simp only [SV.ids] <;> first | exact h _ | exact fun _ => trivial
theorem GV.ids.mono {U U' : Nat → Prop} (h : ∀ i, U i → U' i) : ∀ {v : GV}, v.ids U → v.ids U' := by
 intro v hv; cases v <;> simp only [GV.ids] at hv ⊢ <;> first | exact hv.mono h | exact fun v hm => (hv v hm).mono h
theorem Ob.ids.mono {U U' : Nat → Prop} (h : ∀ i, U i → U' i) : ∀ {v : Ob}, v.ids U → v.ids U' := by
 intro v hv; cases v <;> simp only [Ob.ids] at hv ⊢ <;> first | exact hv.mono h | exact h _ hv

theorem SR.mono {w w' : World} {Z Z' : Nat → Prop} {ob ob' : Nat → Value} {U : Nat → Prop} (hw : Same Z w w') (hz : ∀ b, Z b → Z' b) (ho : ∀ i, U i → ob' i = ob i) {v : SV} {u : Value} (hi : v.ids U) (h : SR w Z ob v u) : SR w' Z' ob' v u := by
 cases v with
 | data t x => obtain ⟨vs, h1, h2⟩ := h; exact ⟨vs, h1.mono hw hz, h2⟩
 | row i => exact (show u = ob i from h).trans (ho i hi).symm
 | ref i T p => obtain ⟨g, h1, h2, h3⟩ := h; exact ⟨g, by rw [ho i hi]; exact h1, h2, by rw [ho i hi]; exact h3⟩
 | asl i n => obtain ⟨g, h1, h2⟩ := h; exact ⟨g, by rw [ho i hi]; exact h1, h2⟩
 | fp t x =>
  obtain ⟨b, o, vs, h1, h2, h3, h4, h5⟩ := h
  exact ⟨b, o, vs, h1, hz b h2, Nat.lt_of_lt_of_le h3 hw.size, h4.mono hw hz, fun j u hu => (hw.cell b _ h2 h3).trans (h5 j u hu)⟩
 | nil => exact h
 | nilp => exact h
 | sdata t x f => obtain ⟨vs, h1, h2, h3⟩ := h; exact ⟨vs, h1.mono hw hz, h2, h3⟩
 | ifc t => exact h
 | rsl i t l k =>
  intro w1 Z1 xs hd
  rw [ho i hi] at hd
  exact h w1 Z1 xs hd
theorem All2.srMono {w w' : World} {Z Z' : Nat → Prop} {ob ob' : Nat → Value} {U : Nat → Prop} (hw : Same Z w w') (hz : ∀ b, Z b → Z' b) (ho : ∀ i, U i → ob' i = ob i) : ∀ {l : List SV} {us : List Value}, (∀ v ∈ l, v.ids U) → All2 (SR w Z ob) l us → All2 (SR w' Z' ob') l us
 | [], [], _, _ => trivial
 | _ :: _, _ :: _, hi, ⟨x, y⟩ => ⟨x.mono hw hz ho (hi _ (by simp)), All2.srMono hw hz ho (fun v hv => hi v (by simp [hv])) y⟩
theorem VR.mono {w w' : World} {Z Z' : Nat → Prop} {ob ob' : Nat → Value} {U : Nat → Prop} (hw : Same Z w w') (hz : ∀ b, Z b → Z' b) (ho : ∀ i, U i → ob' i = ob i) {v : GV} {u : Value} (hi : v.ids U) (h : VR w Z ob v u) : VR w' Z' ob' v u := by
 cases v with
 | sv v => exact SR.mono hw hz ho hi h
 | tup l => obtain ⟨us, h1, h2⟩ := h; exact ⟨us, h1, All2.srMono hw hz ho hi h2⟩
 | clo f l => obtain ⟨us, h1, h2⟩ := h; exact ⟨us, h1, All2.srMono hw hz ho hi h2⟩

structure Kept (M : Nat → Prop) (w w' : World) : Prop where
 os : w'.os = w.os
 tape : w'.tape = w.tape
 output : w'.output = w.output
 size : w.heap.size ≤ w'.heap.size
 block : ∀ k, k < w.heap.size → ¬ M k → w'.heap[k]? = w.heap[k]?
theorem Kept.refl (M : Nat → Prop) (w : World) : Kept M w w := ⟨rfl, rfl, rfl, Nat.le_refl _, fun _ _ _ => rfl⟩
theorem Kept.trans {M M' : Nat → Prop} {w w1 w2 : World} (h : Kept M w w1) (k : Kept M' w1 w2) (hm : ∀ b, M' b → M b ∨ w.heap.size ≤ b) : Kept M w w2 :=
 ⟨k.os.trans h.os, k.tape.trans h.tape, k.output.trans h.output, Nat.le_trans h.size k.size, fun b hb hn => (k.block b (Nat.lt_of_lt_of_le hb h.size) fun e => by
  rcases hm b e with e | e
  ·exact hn e
  ·omega).trans (h.block b hb hn)⟩
theorem Kept.of_grown {w w' : World} {m : Option Nat} (h : w.grownBy w' m) : Kept (fun b => m = some b) w w' := ⟨h.os, h.tape, h.output, h.size, fun k hk hn => h.block k hk fun e => hn e.symm⟩
theorem Kept.same {M Z : Nat → Prop} {w w' : World} (h : Kept M w w') (hz : ∀ b, Z b → ¬ M b) : Same Z w w' :=
 ⟨h.size, fun b o hZ hb => by simp only [World.cell?, h.block b hb (hz b hZ)]⟩

structure Env where
 w0 : World
 M : Nat → Prop
 Z0 : Nat → Prop
 pins : List (Nat × Value)
 globs : List (Nat × Dt)
 x : Option Value := none

structure RepAt (E : Env) (N : Nat) (U : Nat → Prop) (ob : Nat → Value) (Z : Nat → Prop) (s : GS) (a : Act) (w : World) : Prop where
 defers : a.defers = []
 size : a.tmps.size = N
 kept : Kept E.M E.w0 w
 zlt : ∀ b, Z b → b < w.heap.size
 z0 : ∀ b, Z b → b < E.w0.heap.size → E.Z0 b ∨ E.M b
 slots : ∀ n g, look n s.slots = some g → n < N ∧ VR w Z ob g (a.tmps.getD n undef) ∧ g.ids U
 objs : ∀ i o, look i s.objs = some o → U i ∧ OR w Z ob i o ∧ o.ids U
 own : ∀ i o, look i s.objs = some o → o.own = true → ∀ b, blk (ob i) = some b → ¬ Z b ∧ (E.M b ∨ E.w0.heap.size ≤ b)
 apart : ∀ i j o o', i ≠ j → look i s.objs = some o → look j s.objs = some o' → o.own = true → o'.own = true → ∀ b, blk (ob i) = some b → blk (ob j) ≠ some b
 globs : ∀ g d, look g E.globs = some d → SR w Z ob (.fp d.1 d.2) (.pointer (some ⟨g, 0, none⟩))
 pins : ∀ p ∈ E.pins, ob p.1 = p.2 ∧ U p.1

theorem nbeq_ne {n m : Nat} (h : n ≠ m) : Nat.beq n m = false := by
 cases e : Nat.beq n m with
 | false => rfl
 | true => exact absurd (Nat.eq_of_beq_eq_true e) h
theorem nbeq_self (n : Nat) : Nat.beq n n = true := Nat.beq_refl n
section
variable {α : Type}
theorem look_lput_same (n : Nat) (v : α) : ∀ l : List (Nat × α), look n (lput n v l) = some v
 | [] => by simp [lput, look, nbeq_self]
 | (k, u) :: l => by
  simp only [lput]
  cases h : Nat.beq k n with
  | true => simp [look, nbeq_self]
  | false => simp only [cond_false, look, h]; exact look_lput_same n v l
theorem look_lput_ne {n m : Nat} (h : m ≠ n) (v : α) : ∀ l : List (Nat × α), look m (lput n v l) = look m l
 | [] => by
  have : Nat.beq n m = false := nbeq_ne fun e => h e.symm
  simp [lput, look, this]
 | (k, u) :: l => by
  have hnm : Nat.beq n m = false := nbeq_ne fun e => h e.symm
  simp only [lput]
  cases hk : Nat.beq k n with
  | true =>
   have e : k = n := Nat.eq_of_beq_eq_true hk
   subst e
   simp [look, hnm]
  | false =>
   simp only [cond_false, look]
   cases hm : Nat.beq k m with
   | true => simp
   | false => simp only [cond_false]; exact look_lput_ne h v l
theorem look_ldel_same (n : Nat) : ∀ l : List (Nat × α), look n (ldel n l) = none
 | [] => rfl
 | (k, u) :: l => by
  simp only [ldel]
  cases h : Nat.beq k n with
  | true => simp only [cond_true]; exact look_ldel_same n l
  | false => simp only [cond_false, look, h]; exact look_ldel_same n l
theorem look_ldel_ne {n m : Nat} (h : m ≠ n) : ∀ l : List (Nat × α), look m (ldel n l) = look m l
 | [] => rfl
 | (k, u) :: l => by
  simp only [ldel]
  cases hk : Nat.beq k n with
  | true =>
   have e : k = n := Nat.eq_of_beq_eq_true hk
   subst e
   have hnm : Nat.beq k m = false := nbeq_ne fun e => h e.symm
   simp only [cond_true, look, hnm, cond_false]
   exact look_ldel_ne h l
  | false =>
   simp only [cond_false, look]
   cases hm : Nat.beq k m with
   | true => simp
   | false => simp only [cond_false]; exact look_ldel_ne h l
end
end Go.Proofs.YtehbbcdhahnkgaaGreat
