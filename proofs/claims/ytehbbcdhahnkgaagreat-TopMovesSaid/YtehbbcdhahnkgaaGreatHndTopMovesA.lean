/- The ghost machine: an evaluator of the program's text over plain data, and its soundness. -/
import Derived.Test.YtehbbcdhahnkgaaGreatGmY
import Derived.Test.YtehbbcdhahnkgaaGreatFnsTopMovesA
import Derived.RangeFuncKeeps
import Derived.RangeFuncBound
import Derived.RangeFuncLeaves
import Derived.WalkKit
import Derived.OwnWalkIn
import Derived.TacticsInMore
import Derived.RegionIn
import Derived.LoopNIn
import Derived.LoopIn
import Derived.KernelRfl
import Derived.RangeFuncWrites
import Derived.Shelf.Abstract
import Derived.RangeFuncNested
set_option linter.unusedVariables false
set_option linter.unusedSimpArgs false
namespace Go.Proofs.YtehbbcdhahnkgaaGreat
open Go Go.RowKit
set_option linter.unusedVariables false
set_option maxRecDepth 100000
attribute [local go_sem] Oper.semAt_some
structure KC (X : Nat) (W W' : World) : Prop where
  os : W'.os = W.os
  tape : W'.tape = W.tape
  output : W'.output = W.output
  size : W.heap.size ≤ W'.heap.size
  block : ∀ k cs e fz, k ≠ X → W.heap[k]? = some (.cells cs e fz) → W'.heap[k]? = some (.cells cs e fz)
theorem KC.refl (X : Nat) (W : World) : KC X W W := ⟨rfl, rfl, rfl, Nat.le_refl _, fun _ _ _ _ _ h => h⟩
theorem KC.trans {X : Nat} {A B C : World} (h : KC X A B) (k : KC X B C) : KC X A C := ⟨k.os.trans h.os, k.tape.trans h.tape, k.output.trans h.output, Nat.le_trans h.size k.size, fun b cs e fz hb hc => k.block b cs e fz hb (h.block b cs e fz hb hc)⟩
theorem KC.alloc {X : Nat} (W : World) (o : Obj) : KC X W (W.alloc o) := ⟨rfl, rfl, rfl, by simp, fun k cs e fz _ h => by rw [Go.heap_alloc_old W o (Array.getElem?_eq_some_iff.1 h).1]; exact h⟩
theorem KC.cell {X : Nat} {W W' : World} (h : KC X W W') {b o : Nat} {u : Value} (hb : b ≠ X) (hc : W.cell? ⟨b, o, none⟩ = some u) : W'.cell? ⟨b, o, none⟩ = some u := by
  cases hh : W.heap[b]? with
  | none => simp [World.cell?, hh] at hc
  | some x =>
    cases x with
    | cells cs e fz =>
      have := h.block b cs e fz hb hh
      simp only [World.cell?, hh] at hc
      simp only [World.cell?, this]
      exact hc
    | _ => simp [World.cell?, hh] at hc
abbrev Nd : Type := Tree × List Value × Int
mutual
def Pre (X : Nat) (W : World) : Tree → List Value → Int → List Nd → Prop
  | .mk o v l, cs, d, ys => ∃ A c zs, l.length ≤ maxLen ∧ cs = [.int .i64 o, .int .i64 v, .slice A l.length c] ∧ ys = (.mk o v l, cs, d) :: zs ∧ ((l = [] ∧ zs = []) ∨ ∃ b k uss, A = some ⟨b, k, none⟩ ∧ b ≠ X ∧ PreL X W l uss (IntKind.i64.wrap (d + 1)) zs ∧ ∀ j u, uss.flatten[j]? = some u → W.cell? ⟨b, k + j, none⟩ = some u)
def PreL (X : Nat) (W : World) : List Tree → List (List Value) → Int → List Nd → Prop
  | [], [], _, zs => zs = []
  | t :: l, us :: uss, d, zs => ∃ y z, zs = y ++ z ∧ Pre X W t us d y ∧ PreL X W l uss d z
  | _, _, _, _ => False
end
mutual
theorem Pre.keep {X : Nat} {W W' : World} (h : KC X W W') : ∀ {t : Tree} {cs : List Value} {d : Int} {ys : List Nd}, Pre X W t cs d ys → Pre X W' t cs d ys
  | .mk o v l, cs, d, ys, hp => by
    unfold Pre at hp ⊢
    obtain ⟨A, c, zs, h0, h1, h2, h3⟩ := hp
    refine ⟨A, c, zs, h0, h1, h2, h3.imp id ?_⟩
    rintro ⟨b, k, uss, q1, q2, q3, q4⟩
    exact ⟨b, k, uss, q1, q2, PreL.keep h q3, fun j u hu => h.cell q2 (q4 j u hu)⟩
theorem PreL.keep {X : Nat} {W W' : World} (h : KC X W W') : ∀ {l : List Tree} {uss : List (List Value)} {d : Int} {zs : List Nd}, PreL X W l uss d zs → PreL X W' l uss d zs
  | [], [], _, _, hp => by unfold PreL at hp ⊢; exact hp
  | [], _ :: _, _, _, hp => by unfold PreL at hp; exact hp.elim
  | _ :: _, [], _, _, hp => by unfold PreL at hp; exact hp.elim
  | t :: l, us :: uss, d, zs, hp => by
    unfold PreL at hp ⊢
    obtain ⟨y, z, h1, h2, h3⟩ := hp
    exact ⟨y, z, h1, Pre.keep h h2, PreL.keep h h3⟩
end
theorem Pre.pos {X : Nat} {W : World} {t : Tree} {cs : List Value} {d : Int} {ys : List Nd} (h : Pre X W t cs d ys) : 1 ≤ ys.length ∧ cs.length = 3 := by
  obtain ⟨o, v, l⟩ := t
  unfold Pre at h
  obtain ⟨A, c, zs, _, rfl, rfl, _⟩ := h
  exact ⟨by simp, rfl⟩
theorem PreL.at {X : Nat} {W : World} : ∀ {l : List Tree} {uss : List (List Value)} {d : Int} {zs : List Nd}, PreL X W l uss d zs → uss.length = l.length ∧ (∀ v ∈ uss, v.length = 3) ∧ ∃ yss : List (List Nd), yss.length = l.length ∧ zs = yss.flatten ∧ ∀ (k : Nat) t, l[k]? = some t → Pre X W t (uss.getD k []) d (yss.getD k [])
  | [], [], _, _, hp => by unfold PreL at hp; exact ⟨rfl, by simp, [], rfl, by simp [hp], fun k t h => by simp at h⟩
  | [], _ :: _, _, _, hp => by unfold PreL at hp; exact hp.elim
  | _ :: _, [], _, _, hp => by unfold PreL at hp; exact hp.elim
  | t :: l, us :: uss, d, zs, hp => by
    unfold PreL at hp
    obtain ⟨y, z, h1, h2, h3⟩ := hp
    obtain ⟨q1, q2, yss, q3, q4, q5⟩ := PreL.at h3
    refine ⟨by simp [q1], fun v hv => ?_, y :: yss, by simp [q3], by rw [h1, q4]; rfl, fun k t' hk => ?_⟩
    · rcases List.mem_cons.1 hv with rfl | hv
      · exact h2.pos.2
      · exact q2 v hv
    · cases k with
      | zero => simp at hk; subst hk; exact h2
      | succ k => exact q5 k t' (by simpa using hk)
end Go.Proofs.YtehbbcdhahnkgaaGreat

namespace Go.Proofs.YtehbbcdhahnkgaaGreat
open Go Go.RowKit
set_option linter.unusedVariables false
set_option maxRecDepth 100000
attribute [local go_sem] Oper.semAt_some
def Rounds (l X N : Nat) (Y : Nd → Prop) (J Jx : List Nd → World → Prop) : Prop := ∀ m pre t cs d W, Y (t, cs, d) → J pre W → pre.length < N → YieldAt Fence.wide m Tryz.prog l #[.agg (List.toArray cs), .int .i64 d] W fun e W' =>
  (e = .returned (.bool true) ∧ J (pre ++ [(t, cs, d)]) W' ∧ KC X W W') ∨ (e = .returned (.bool false) ∧ Jx (pre ++ [(t, cs, d)]) W')
theorem kids {X : Nat} {W : World} {ch : List Tree} {A : Option Addr} {zs : List Nd} {d : Int} (h : (ch = [] ∧ zs = []) ∨ ∃ b k uss, A = some ⟨b, k, none⟩ ∧ b ≠ X ∧ PreL X W ch uss d zs ∧ ∀ (j : Nat) (u : Value), uss.flatten[j]? = some u → W.cell? ⟨b, k + j, none⟩ = some u) :
    ∃ (b k0 : Nat) (uss : List (List Value)) (yss : List (List Nd)), (0 < ch.length → A = some ⟨b, k0, none⟩ ∧ b ≠ X) ∧ yss.length = ch.length ∧ zs = yss.flatten ∧ (∀ (k : Nat) t, ch[k]? = some t → Pre X W t (uss.getD k []) d (yss.getD k [])) ∧
      ∀ k, k < ch.length → ∀ (j : Nat) (u : Value), (uss.getD k [])[j]? = some u → W.cell? ⟨b, k0 + k * 3 + j, none⟩ = some u := by
  rcases h with ⟨rfl, rfl⟩ | ⟨b, k0, uss, h1, h2, h3, h4⟩
  · exact ⟨0, 0, [], [], fun h => absurd h (by simp), rfl, rfl, fun k t h => by simp at h, fun k hk => absurd hk (by simp)⟩
  · obtain ⟨q1, q2, yss, q3, q4, q5⟩ := h3.at
    refine ⟨b, k0, uss, yss, fun _ => ⟨h1, h2⟩, q3, q4, q5, fun k hk j u hu => ?_⟩
    have hkl : k < uss.length := by rw [q1]; exact hk
    have hck : uss[k]? = some (uss.getD k []) := by simp [List.getD, hkl]
    have hj : j < 3 := by
      have := (List.getElem?_eq_some_iff.1 hu).1
      rw [q2 _ (List.mem_of_getElem? hck)] at this
      exact this
    have := flatten_at (k := 3) q2 k j _ hck hj
    rw [Nat.add_assoc]
    exact h4 _ _ (this.trans hu)
theorem flat_len (yss : List (List Nd)) : ∀ {k : Nat}, k < yss.length → (yss.take k).flatten.length + (yss.getD k []).length ≤ yss.flatten.length := by
  induction yss with
  | nil => intro k h; simp at h
  | cons y l ih =>
    intro k h
    cases k with
    | zero => simp [List.getD]
    | succ k =>
      have := ih (k := k) (by simpa using h)
      simp only [List.take_succ_cons, List.flatten_cons, List.length_append, List.getD_cons_succ]
      omega
theorem flat_succ (yss : List (List Nd)) {k : Nat} (h : k < yss.length) : (yss.take (k + 1)).flatten = (yss.take k).flatten ++ yss.getD k [] := by
  rw [List.take_succ_eq_append_getElem h, List.flatten_append]
  simp [List.getD, h]
theorem Pre.form {X : Nat} {W : World} {t : Tree} {cs : List Value} {d : Int} {ys : List Nd} (h : Pre X W t cs d ys) : ∃ o v A n c, cs = [.int .i64 o, .int .i64 v, .slice A n c] := by
  obtain ⟨o, v, l⟩ := t
  unfold Pre at h
  obtain ⟨A, c, zs, _, rfl, rfl, _⟩ := h
  exact ⟨_, _, _, _, _, rfl⟩
theorem flat_ge (yss : List (List Nd)) (h : ∀ k, k < yss.length → 1 ≤ (yss.getD k []).length) : ∀ k, k ≤ yss.length → k ≤ (yss.take k).flatten.length := by
  intro k
  induction k with
  | zero => intro _; exact Nat.zero_le _
  | succ k ih =>
    intro hk
    have := ih (by omega)
    have h1 := h k (by omega)
    rw [flat_succ yss (by omega), List.length_append]
    omega
set_option maxHeartbeats 4000000 in
theorem walkCt {l X N : Nat} {Y : Nd → Prop} {J Jx : List Nd → World → Prop} (hY : Rounds l X N Y J Jx) (hJa : ∀ pre o W, J pre W → J pre (World.alloc W o)) :
    ∀ (s : Nat) (T : Tree), SizeOf.sizeOf T ≤ s → ∀ (n : Nat) (cs : List Value) (d : Int) (ys pre : List Nd) (W : World), Pre X W T cs d ys → (∀ x ∈ ys, Y x) → J pre W → pre.length + ys.length ≤ N → X < W.heap.size →
      CallsIn Fence.wide n Tryz.prog 123 #[.agg cs.toArray, .int .i64 d, .func (.yield l) #[] #[]] W fun e W' => (e = .returned (.bool true) ∧ J (pre ++ ys) W' ∧ KC X W W') ∨ (e = .returned (.bool false) ∧ ∃ q, q <+: ys ∧ Jx (pre ++ q) W') := by
  intro s
  induction s with
  | zero =>
    intro T hT
    obtain ⟨o, v, ch⟩ := T
    simp at hT
  | succ s ih =>
    intro T hT n cs d ys pre W hp hYs hJ hN hX
    obtain ⟨o, v, ch⟩ := T
    unfold Pre at hp
    obtain ⟨A, c, zs, hchl, rfl, rfl, hch⟩ := hp
    have hmaxl : maxLen = 9223372036854775807 := rfl
    obtain ⟨d', hw⟩ : ∃ d', IntKind.i64.wrap (d + 1) = d' := ⟨_, rfl⟩
    rw [hw] at hch
    have hb3 : W.heap.size ≠ X := by omega
    obtain ⟨W1, hW1⟩ : ∃ W1, W1 = W.alloc (.cells #[.int .i64 o, .int .i64 v, .slice A ch.length c] 28) := ⟨_, rfl⟩
    have hk1 : KC X W W1 := by rw [hW1]; exact KC.alloc _ _
    have hJ1 : J pre W1 := by rw [hW1]; exact hJa _ _ _ hJ
    have hnew : W1.heap[W.heap.size]? = some (.cells #[.int .i64 o, .int .i64 v, .slice A ch.length c] 28 (0, 0)) := by rw [hW1]; exact World.alloc_heap_new W _
    simp only [List.length_cons] at hN
    obtain ⟨yfn, ytmps, yassign, ybody, hy, hRd⟩ := hY (n - 1) pre (.mk o v ch) [.int .i64 o, .int .i64 v, .slice A ch.length c] d W1 (hYs _ (List.mem_cons_self ..)) hJ1 (by omega)
    replace hRd := hRd.mono (R' := fun e W' => (e = .returned (.bool true) ∧ W'.cell? ⟨W.heap.size, 2, none⟩ = some (.slice A ch.length c) ∧ J (pre ++ [(.mk o v ch, [.int .i64 o, .int .i64 v, .slice A ch.length c], d)]) W' ∧ KC X W1 W') ∨ (e = .returned (.bool false) ∧ Jx (pre ++ [(.mk o v ch, [.int .i64 o, .int .i64 v, .slice A ch.length c], d)]) W'))
      (fun e W' h => h.elim (fun h => .inl ⟨h.1, by
        have := h.2.2.block _ _ _ _ hb3 hnew
        exact cell_at this rfl, h.2.1, h.2.2⟩) .inr)
    obtain ⟨b, k0, uss, yss, hA, hyl, rfl, hkid, hcell⟩ := kids hch
    clear hch
    have hkw : ∀ {W2 : World}, KC X W1 W2 → KC X W W2 := fun h => hk1.trans h
    subst hW1
    refine callsIn_of_wp Tryz.func123 rfl trivial ?_ rfl
    simp only [Tryz.ntmps123, List.size_toArray, List.length_cons, List.length_nil, Nat.reduceAdd, Nat.reduceSub, Array.replicate_succ, Array.replicate_zero, List.push_toArray, List.append_toArray, List.nil_append, List.cons_append]
    clear hY hnew
    gi_wp2
    refine ⟨fun h => by simp [Fence.wide] at h, hRd.mono ?_⟩
    rintro e W2 (⟨rfl, hc2, hJ2, hk2⟩ | ⟨rfl, hx2⟩)
    · have hkk := hkw hk2
      clear hkw hk1 hk2 hJ1 hRd hy
      gi_wp2
      gi_loopw [17] (fun iv wr => ∃ k : Nat, k ≤ ch.length ∧ iv = .int .i64 k ∧ J (pre ++ (.mk o v ch, [.int .i64 o, .int .i64 v, .slice A ch.length c], d) :: (yss.take k).flatten) wr ∧ KC X W wr) (fun iv _ => ch.length - (intOf iv).toNat)
      case atStart => exact ⟨0, Nat.zero_le _, rfl, by simpa using hJ2, hkk⟩
      case round =>
        obtain ⟨k, hk, rfl, hJk, hkc⟩ := hrel
        by_cases hlt : k < ch.length
        · obtain ⟨rfl, hbX⟩ := hA (by omega)
          have hlt' : (k : Int) < (ch.length : Int) := by omega
          obtain ⟨t, ht⟩ : ∃ t, ch[k]? = some t := ⟨ch[k], by simp [hlt]⟩
          have hpk := (hkid k t ht).keep hkc
          obtain ⟨q0, q1, q2, q3, q4, hq⟩ := hpk.form
          have hc := hcell k hlt
          rw [hq] at hpk hc
          have c0 : wr.cell? ⟨b, k0 + k * 3, none⟩ = some (.int .i64 q0) := hkc.cell hbX (hc 0 (.int .i64 q0) rfl)
          have c1 : wr.cell? ⟨b, k0 + k * 3 + 1, none⟩ = some (.int .i64 q1) := hkc.cell hbX (hc 1 (.int .i64 q1) rfl)
          have c2 : wr.cell? ⟨b, k0 + k * 3 + 2, none⟩ = some (.slice q2 q3 q4) := hkc.cell hbX (hc 2 (.slice q2 q3 q4) rfl)
          have hfl := flat_len yss (k := k) (by omega)
          have hge := flat_ge yss (fun j hj => (hkid j _ (List.getElem?_eq_getElem (by omega : j < ch.length))).pos.1) k (by omega)
          have hw2 : IntKind.i64.wrap ((k : Int) + 1) = (k : Int) + 1 := by rw [IntKind.wrap_i64]; omega
          have ihk := ih t (by
            have := List.sizeOf_lt_of_mem (List.mem_of_getElem? ht)
            simp only [Tree.mk.sizeOf_spec] at hT
            omega) (n - 1) [.int .i64 q0, .int .i64 q1, .slice q2 q3 q4] d' (yss.getD k []) (pre ++ (.mk o v ch, [.int .i64 o, .int .i64 v, .slice (some ⟨b, k0, none⟩) ch.length c], d) :: (yss.take k).flatten) (wr.alloc (.cells #[.int .i64 q0, .int .i64 q1, .slice q2 q3 q4] 28)) (hpk.keep (KC.alloc _ _)) (fun x hx => hYs _ (List.mem_cons_of_mem _ (List.mem_flatten.2 ⟨_, List.mem_of_getElem? (List.getElem?_eq_getElem (by omega : k < yss.length)), by simpa [List.getD, show k < yss.length by omega] using hx⟩))) (hJa _ _ _ hJk)
            (by simp only [List.length_append, List.length_cons]; omega) (by have := hkc.size; simp; omega)
          clear hkid hcell hq hpk hc ih hJk
          gi_wp2
          refine ⟨trivial, fun h => by simp [Fence.wide] at h, ihk.mono ?_⟩
          rintro e W3 (⟨rfl, hJ3, hk3⟩ | ⟨rfl, q, hq, hx⟩)
          · gi_wp2
            go_roundw
            · refine ⟨k + 1, by omega, rfl, ?_, hkc.trans ((KC.alloc _ _).trans hk3)⟩
              rw [flat_succ yss (by omega)]
              simpa using hJ3
            · simp only [intOf]; omega
          · gi_wp2
            go_ret
            obtain ⟨r, hr⟩ := hq
            have h5 := flat_succ yss (k := k) (by omega)
            refine .inr ⟨rfl, (.mk o v ch, [.int .i64 o, .int .i64 v, .slice (some ⟨b, k0, none⟩) ch.length c], d) :: ((yss.take k).flatten ++ q), ⟨r ++ (yss.drop (k + 1)).flatten, ?_⟩, ?_⟩
            · conv => rhs; rw [← List.take_append_drop (k + 1) yss, List.flatten_append, h5, ← hr]
              simp
            · simpa using hx
        · obtain rfl : k = ch.length := by omega
          gi_wp2
          go_ret
          rw [show yss.take ch.length = yss by rw [← hyl, List.take_length]] at hJk
          exact .inl ⟨rfl, hJk, hkc⟩
    · gi_wp2
      go_ret
      exact .inr ⟨rfl, _, ⟨yss.flatten, rfl⟩, hx2⟩
end Go.Proofs.YtehbbcdhahnkgaaGreat

namespace Go.Proofs.YtehbbcdhahnkgaaGreat
open Go Go.RowKit
set_option linter.unusedVariables false
set_option maxRecDepth 100000
attribute [local go_sem] Oper.semAt_some
theorem yield_any {m : Nat} (m' : Nat) {P : Program} {l : Nat} {args : Array Value} {W : World} {R : Ending → World → Prop} (h : YieldAt Fence.wide m P l args W R) : YieldAt Fence.wide m' P l args W R := by
  obtain ⟨fn, tmps, assign, body, hy, hR⟩ := h
  exact ⟨fn, tmps, assign, body, hy, hR.1, fun c cs _ => hR.2 c cs (fun d h => by simp [Fence.wide] at h)⟩
theorem KC.below {X : Nat} {w W : World} (h : Below w.heap.size w W) : KC X w W := ⟨h.os, h.tape, h.output, h.size, fun k cs e fz _ hk => (h.block k (Array.getElem?_eq_some_iff.1 hk).1).trans hk⟩
abbrev NdIn (ys : List Nd) : Type := {x : Nd // x ∈ ys}
def encNd (ys : List Nd) (x : NdIn ys) : Array Value := #[.agg x.1.2.1.toArray, .int .i64 x.1.2.2]
set_option maxHeartbeats 4000000 in
theorem nodes1_stops (n X B : Nat) (T : Tree) (cs : List Value) (ys : List Nd) (w : World) (hB : ∀ j u, cs[j]? = some u → w.cell? ⟨B, j, none⟩ = some u) (hX : X < w.heap.size) (hp : Pre X w T cs 1 ys) :
    SeqStopsK Fence.wide n Tryz.prog 122 #[.pointer (some ⟨B, 0, none⟩)] (encNd ys) (KC X) (fun zs => zs.map Subtype.val = ys) (fun pre => pre.map Subtype.val <+: ys) ys.length w := by
  intro l J Jx W hb hJ hJx hY h0
  obtain ⟨o, v, A, q, c, rfl⟩ := hp.form
  have hB0 := hB 0 _ rfl
  have hB1 := hB 1 _ rfl
  have hB2 := hB 2 _ rfl
  have hBl : B < w.heap.size := cell_lt hB0
  replace hB0 := (hb.cell (p := ⟨B, 0, none⟩) hBl).trans hB0
  replace hB1 := (hb.cell (p := ⟨B, 1, none⟩) hBl).trans hB1
  replace hB2 := (hb.cell (p := ⟨B, 2, none⟩) hBl).trans hB2
  have hw := walkCt (l := l) (X := X) (N := ys.length) (Y := fun x => x ∈ ys) (J := fun pre W => ∃ p : List (NdIn ys), p.map Subtype.val = pre ∧ J p W) (Jx := fun pre W => ∃ p : List (NdIn ys), p.map Subtype.val = pre ∧ Jx p W)
    (fun m pre t cs d W hy ⟨p, hp1, h1⟩ h2 => yield_any m ((hY p ⟨(t, cs, d), hy⟩ W h1 (by rw [← hp1, List.length_map] at h2; exact h2)).mono fun e W' h => h.imp (fun h => ⟨h.1, ⟨_, by rw [List.map_append, hp1]; rfl, h.2.1⟩, h.2.2⟩) (fun h => ⟨h.1, _, by rw [List.map_append, hp1]; rfl, h.2⟩)))
    (fun pre o W ⟨p, hp1, h⟩ => ⟨p, hp1, hJ _ _ _ none h (World.grownBy_alloc W o none) (fun r e => by cases e)⟩)
    _ T (Nat.le_refl _) (n - 1) _ 1 ys [] W (hp.keep (KC.below hb)) (fun x hx => hx) ⟨[], rfl, h0⟩ (by simp) (Nat.lt_of_lt_of_le hX hb.size)
  clear hY h0 hJ hJx
  refine callsIn_of_wp Tryz.func122 rfl trivial ?_ rfl
  simp only [Tryz.ntmps122, List.size_toArray, List.length_cons, List.length_nil, Nat.reduceAdd, Nat.reduceSub, Array.replicate_succ, Array.replicate_zero, List.push_toArray, List.append_toArray, List.nil_append, List.cons_append]
  gi_wp2
  refine ⟨trivial, fun h => by simp [Fence.wide] at h, hw.mono ?_⟩
  rintro e W3 (⟨rfl, hJ3, hk3⟩ | ⟨rfl, q, hq, hx⟩)
  · gi_wp2
    go_end0
    obtain ⟨p, hp1, hJ4⟩ := hJ3
    exact ⟨⟨_, rfl⟩, .inl ⟨p, by simpa using hp1, hJ4⟩⟩
  · gi_wp2
    go_end0
    obtain ⟨p, hp1, hJ4⟩ := hx
    exact ⟨⟨_, rfl⟩, .inr ⟨p, by rw [hp1]; simpa using hq, hJ4⟩⟩
set_option maxHeartbeats 1000000 in
theorem nodes_in (n : Nat) (o v : Int) (A : Option Addr) (k c : Nat) (w : World) :
    CallsIn Fence.wide n Tryz.prog 80 #[.agg #[.int .i64 o, .int .i64 v, .slice A k c]] w fun e w' => e = .returned (.func (.func 122) #[] #[.pointer (some ⟨w.heap.size, 0, none⟩)]) ∧ w' = w.alloc (.cells #[.int .i64 o, .int .i64 v, .slice A k c] 28) := by
  refine callsIn_of_wp Tryz.func80 rfl trivial ?_ rfl
  simp only [Tryz.ntmps80, List.size_toArray, List.length_cons, List.length_nil, Nat.reduceAdd, Nat.reduceSub, Array.replicate_succ, Array.replicate_zero, List.push_toArray, List.append_toArray, List.nil_append, List.cons_append]
  gi_wp2
  go_ret
  exact ⟨rfl, rfl⟩
end Go.Proofs.YtehbbcdhahnkgaaGreat

namespace Go.Proofs.YtehbbcdhahnkgaaGreat
open Go Go.RowKit
set_option linter.unusedVariables false
set_option maxRecDepth 100000
attribute [local go_sem] Oper.semAt_some
theorem cell_boxCt {W : World} {B : Nat} {v : Value} {t : TypeId} (h : W.heap[B]? = some (.cells #[v] t (0, 0))) : W.cell? ⟨B, 0, none⟩ = some v ∧ W.frozen? ⟨B, 0, none⟩ = false := by
  constructor <;> simp [World.cell?, World.frozen?, h]
theorem cell_newCt (W : World) (v : Value) (t : TypeId) : (W.alloc (.cells #[v] t)).cell? ⟨W.heap.size, 0, none⟩ = some v ∧ (W.alloc (.cells #[v] t)).frozen? ⟨W.heap.size, 0, none⟩ = false :=
  cell_boxCt (World.alloc_heap_new W _)
theorem cell_allocCt {W : World} {a : Addr} {v : Value} (o : Obj) (h : W.cell? a = some v) : (W.alloc o).cell? a = some v := cell_kept h (World.grownBy_alloc W o none) (fun r e => by cases e)
theorem frozen_allocCt {W : World} {a : Addr} {v : Value} (o : Obj) (h : W.cell? a = some v) (hf : W.frozen? a = false) : (W.alloc o).frozen? a = false := (frozen_kept h (World.grownBy_alloc W o none) (fun r e => by cases e)).trans hf
theorem KC.setCell (W : World) (X o : Nat) (v : Value) : KC X W (W.setCell ⟨X, o, none⟩ v) := by
  have hb := (Below.refl X W).setCell (p := ⟨X, o, none⟩) (Nat.le_refl _) v
  refine ⟨hb.os, hb.tape, hb.output, hb.size, fun k cs e fz hk h => ?_⟩
  exact (Below.heap_setCell W _ v k (by simpa using hk)).trans h
set_option maxHeartbeats 4000000 in
theorem Nodes_in (n : Nat) (hn : 3 ≤ n) (T : Tree) (cs : List Value) (ys : List Nd) (w : World) (hp : Pre (w.heap.size + 1) w T cs 1 ys) (r : Int) (hr : r = if ys.length ≤ 600 then (ys.length : Int) else 601) :
    CallsIn Fence.wide n Tryz.prog 79 #[.agg cs.toArray] w fun e w' => e = .returned (.int .i64 r) ∧ Below w.heap.size w w' := by
  have h1 : 1 ≤ n := by omega
  obtain ⟨o, v, A, k, c, rfl⟩ := hp.form
  refine callsIn_of_wp_marks Tryz.func79 rfl trivial ?_ rfl
  simp only [Tryz.ntmps79, List.size_toArray, List.length_cons, List.length_nil, Nat.reduceAdd, Nat.reduceSub, Array.replicate_succ, Array.replicate_zero, List.push_toArray, List.append_toArray, List.nil_append, List.cons_append]
  gi_wp2
  refine ⟨trivial, (nodes_in (n - 1) o v A k c _).mono ?_⟩
  rintro e w' ⟨rfl, rfl⟩
  gi_wp2
  obtain ⟨WA, hWA⟩ : ∃ WA, WA = w.alloc (.cells #[.int .i64 o, .int .i64 v, .slice A k c] 28) := ⟨_, rfl⟩
  have hsA : WA.heap.size = w.heap.size + 1 := by rw [hWA]; simp
  have hkA : KC (w.heap.size + 1) w WA := by rw [hWA]; exact KC.alloc _ _
  have hbA : Below w.heap.size w WA := by rw [hWA]; exact (Below.refl _ w).alloc (Nat.le_refl _) _
  have hs := cell_newCt WA (.int .i64 0) 3
  obtain ⟨WB, hWB⟩ : ∃ WB, WB = WA.alloc (.cells #[.int .i64 0] 3) := ⟨_, rfl⟩
  have hsB : WB.heap.size = w.heap.size + 2 := by rw [hWB]; simp [hsA]
  have hkB : KC (w.heap.size + 1) w WB := by rw [hWB]; exact hkA.trans (KC.alloc _ _)
  have hbB : Below w.heap.size w WB := by rw [hWB]; exact hbA.alloc hbA.size _
  rw [← hWB, hsA] at hs
  obtain ⟨WC, hWC⟩ : ∃ WC, WC = WB.alloc (.cells #[.int .i64 o, .int .i64 v, .slice A k c] 28) := ⟨_, rfl⟩
  have hsC : WC.heap.size = w.heap.size + 3 := by rw [hWC]; simp [hsB]
  have hkC : KC (w.heap.size + 1) w WC := by rw [hWC]; exact hkB.trans (KC.alloc _ _)
  have hbC : Below w.heap.size w WC := by rw [hWC]; exact hbB.alloc hbB.size _
  have hcC := cell_allocCt (.cells #[.int .i64 o, .int .i64 v, .slice A k c] 28) hs.1
  have hfC := frozen_allocCt (.cells #[.int .i64 o, .int .i64 v, .slice A k c] 28) hs.1 hs.2
  have hnC : WC.heap[w.heap.size + 2]? = some (.cells #[.int .i64 o, .int .i64 v, .slice A k c] 28 (0, 0)) := by rw [hWC, ← hsB]; exact World.alloc_heap_new WB _
  rw [← hWC] at hcC hfC
  rw [← hWA, ← hWB, ← hWC]
  clear hWA hWB hWC
  refine wpIn_rangeFunc_ownG rfl h1 (gf := 122) (lb := #[.pointer (some ⟨w.heap.size + 2, 0, none⟩)]) rfl trivial (Go.Proofs.enters_of Tryz.func122 (by kernel_rfl) rfl)
    (nodes1_stops (n - 1) (w.heap.size + 1) (w.heap.size + 2) T [.int .i64 o, .int .i64 v, .slice A k c] ys WC (fun j u hj => cell_at hnC (by simpa using hj)) (by omega) (hp.keep hkC)) KC.trans
    (fun W l o o' h1 h2 h3 h4 => ⟨rfl, rfl, rfl, by simp, fun k cs e fz hk hc => (World.putObj_heap_other (fun e => by subst e; rw [h2] at hc; cases hc; cases h3)).trans hc⟩) (Below.refl _ _) (fun _ => rfl)
    (fun pre W => W.cell? ⟨w.heap.size + 1, 0, none⟩ = some (.int .i64 pre.length) ∧ W.frozen? ⟨w.heap.size + 1, 0, none⟩ = false ∧ Below w.heap.size w W ∧ pre.length ≤ 600)
    (fun c pre W => c = .exit 0 ∧ W.cell? ⟨w.heap.size + 1, 0, none⟩ = some (.int .i64 pre.length) ∧ Below w.heap.size w W ∧ pre.length = 601)
    (fun s A B row hs hg hr => ⟨cell_kept hs.1 hg (fun r e => (hr r e).2), (frozen_kept hs.1 hg (fun r e => (hr r e).2)).trans hs.2.1, hs.2.2.1.grown hg hs.2.2.1.size (fun k e => by have := (hr k e).1; omega), hs.2.2.2⟩)
    (fun c s A B row hs hg hr => ⟨hs.1, cell_kept hs.2.1 hg (fun r e => (hr r e).2), hs.2.2.1.grown hg hs.2.2.1.size (fun k e => by have := (hr k e).1; omega), hs.2.2.2⟩)
    ⟨hcC, hfC, hbC, by simp⟩
    (fun x => { tmps := #[.agg #[.int .i64 o, .int .i64 v, .slice A k c], .pointer (some ⟨w.heap.size, 0, none⟩), .int .i64 0, .pointer (some ⟨w.heap.size + 1, 0, none⟩), .agg #[.int .i64 o, .int .i64 v, .slice A k c], .func (.func 122) #[] #[.pointer (some ⟨w.heap.size + 1 + 1, 0, none⟩)], .agg x.1.2.1.toArray, .int .i64 x.1.2.2, undef, undef, undef, undef, undef], defers := [] }) ?assign ?body ?done ?stop
  case assign =>
    intro l x W K hK
    gi_wp2
    simpa [encNd] using hK
  case body =>
    rintro l pre x W ⟨hc, hf, hb, hp6⟩ hlt
    have hw : IntKind.i64.wrap ((pre.length : Int) + 1) = (pre.length : Int) + 1 := by rw [IntKind.wrap_i64]; omega
    have hcl : w.heap.size + 1 < W.heap.size := cell_lt hc
    have hc2 : (W.setCell ⟨w.heap.size + 1, 0, none⟩ (.int .i64 ((pre.length : Int) + 1))).cell? ⟨w.heap.size + 1, 0, none⟩ = some (.int .i64 ((pre ++ [x]).length : Int)) := by
      rw [World.cell?_setCell_same' _ _ _ (by rw [hc]; rfl)]; simp
    have hb2 := hb.setCell (p := ⟨w.heap.size + 1, 0, none⟩) (Nat.le_succ _) (.int .i64 ((pre.length : Int) + 1))
    by_cases h6 : (pre.length : Int) + 1 > 600
    · gi_wp2
      exact ⟨(KeepsOthers.setCell _ _ _).from _, rfl, hc2, hb2, by simp; omega⟩
    · gi_wp2
      exact ⟨(KeepsOthers.setCell _ _ _).from _, KC.setCell _ _ _ _, hc2, by rw [World.frozen?_setCell]; exact hf, hb2, by simp; omega⟩
  case done =>
    rintro D zs W hD hzs ⟨hc, _, hb, h6⟩ hK
    have hzl : zs.length = ys.length := by have := congrArg List.length hzs; rwa [List.length_map] at this
    rw [hzl] at hc h6
    clear hzs
    rw [if_pos h6] at hr
    subst hr
    gi_wp2
    refine ⟨by simp, .inl ⟨_, _, rfl, run_takeDeferred hK, ?_⟩⟩
    exact ⟨_, results_tmp rfl _ _ _, rfl, hb.grown (grownBy_putObj' _ _ _) hb.size (fun k e => by cases e; omega)⟩
  case stop =>
    rintro D c pre W hD hpre ⟨rfl, hc, hb, h6⟩ hK
    rw [h6] at hc
    rw [if_neg (by have := hpre.length_le; rw [List.length_map] at this; omega)] at hr
    subst hr
    gi_wp2
    refine ⟨by simp, .inl ⟨_, _, rfl, run_takeDeferred hK, ?_⟩⟩
    exact ⟨_, results_tmp rfl _ _ _, rfl, hb.grown (grownBy_putObj' _ _ _) hb.size (fun k e => by cases e; omega)⟩
end Go.Proofs.YtehbbcdhahnkgaaGreat

namespace Go.Proofs.YtehbbcdhahnkgaaGreat
open Go Go.RowKit
set_option linter.unusedVariables false
set_option maxRecDepth 100000
def GlCt (w : World) (Z : Nat → Prop) : Prop := ∀ g d, look g G_globs = some d → SR w Z (fun _ => undef) (.fp d.1 d.2) (.pointer (some ⟨g, 0, none⟩))
theorem GlCt.keep {w w' : World} {Z : Nat → Prop} (h : GlCt w Z) (hk : Kept (fun _ => False) w w') : GlCt w' Z := fun g d hl => (h g d hl).mono (U := fun _ => True) (hk.same fun _ _ h => h) (fun _ h => h) (fun _ _ => rfl) trivial
section
variable {P : Program} {fn : FuncId} {c : Ctr} {w : World} {Z M : Nat → Prop} {ob : Nat → Value}
theorem ctr_callX {xv : Option Value} (h : Ctr.okx xv P G_globs fn c) (hnp : c.np ≤ c.ps.os.length) (hgl : GlCt w Z) {args : List Value} {x : c.ps.den} {y : c.rs.den} (hlen : args.length = c.ps.ks.length) (hZ : ∀ b, Z b → b < w.heap.size)
    (ha : All2 (VR w Z ob) (stKs id c.ps.ks x.1) args) (hid : ∀ g ∈ stKs id c.ps.ks x.1, g.ids fun k => k < c.ps.os.length)
    (hob : ∀ i o, (stOs id c.ps.os x.2)[i]? = some o → OR w Z ob i o ∧ (o.ids fun k => k < c.ps.os.length) ∧ ∀ b, blk (ob i) = some b → ¬ Z b ∧ M b)
    (hap : ∀ i j, i < j → j < c.ps.os.length → ∀ b, blk (ob i) = some b → blk (ob j) ≠ some b) (hF : c.F x = some y) :
    Calls P fn args.toArray w fun e w' => (∃ vs ob' Z', e = .returned (tupV vs) ∧ vs.length = c.rs.ks.length ∧
      RepAt ⟨w, M, Z, (List.range c.np).map (fun k => (k, ob k)), G_globs, xv⟩ vs.length (fun k => k < c.rs.os.length) ob' Z' (c.rs.st (List.range c.rs.ks.length) y) ⟨vs.toArray, []⟩ w') ∨ ∃ v, xv = some v ∧ e = .panicked [{ v := v, recovered := false }] ∧ Kept M w w' := by
  have hlo : ∀ i o, look i (number 0 (stOs id c.ps.os x.2)) = some o → (stOs id c.ps.os x.2)[i]? = some o := fun i o hl => by
    have := look_number hl
    simpa using this
  have hls : ∀ i o, (stOs id c.ps.os x.2)[i]? = some o → i < c.ps.os.length := fun i o hl => by
    have := (List.getElem?_eq_some_iff.1 hl).1
    rw [(stOs_len id).2] at this
    exact this
  refine h.call ⟨w, M, Z, (List.range c.np).map (fun k => (k, ob k)), G_globs, xv⟩ ob Z args x y rfl rfl rfl hlen ?_ hF
  exact {
    defers := rfl
    size := by simp
    kept := Kept.refl _ _
    zlt := hZ
    z0 := fun b hb _ => .inl hb
    slots := by
      intro n g hl
      obtain ⟨i, h1, h2⟩ := look_zip hl
      have e : i = n := by
        obtain ⟨hi, e⟩ := List.getElem?_eq_some_iff.1 h1
        simpa using e
      subst e
      obtain ⟨v, h3, h4⟩ := ha.get i g h2
      have hi := (List.getElem?_eq_some_iff.1 h3).1
      refine ⟨hi, ?_, hid g (List.mem_of_getElem? h2)⟩
      have : (args.toArray).getD i undef = v := by simp [h3]
      show VR w Z ob g (args.toArray.getD i undef)
      rw [this]; exact h4
    objs := fun i o hl => ⟨hls i o (hlo i o hl), (hob i o (hlo i o hl)).1, (hob i o (hlo i o hl)).2.1⟩
    own := fun i o hl _ b hb => ⟨((hob i o (hlo i o hl)).2.2 b hb).1, .inl ((hob i o (hlo i o hl)).2.2 b hb).2⟩
    apart := by
      intro i j o o' hij hl hl' _ _ b hb hb'
      have h1 := hls i o (hlo i o hl)
      have h2 := hls j o' (hlo j o' hl')
      rcases Nat.lt_or_gt_of_ne hij with hlt | hgt
      · exact hap i j hlt h2 b hb hb'
      · exact hap j i hgt h1 b hb' hb
    globs := fun g d hl => (hgl g d hl).mono (U := fun _ => False) (Same.refl _ _) (fun _ h => h) (fun _ h => h.elim) (by simp [SV.ids])
    pins := by
      intro p hp
      obtain ⟨k, hk, rfl⟩ := List.mem_map.1 hp
      have := List.mem_range.1 hk
      exact ⟨rfl, by show k < c.ps.os.length; omega⟩ }
theorem ctr_callG (h : Ctr.ok P G_globs fn c) (hnp : c.np ≤ c.ps.os.length) (hgl : GlCt w Z) {args : List Value} {x : c.ps.den} {y : c.rs.den} (hlen : args.length = c.ps.ks.length) (hZ : ∀ b, Z b → b < w.heap.size)
    (ha : All2 (VR w Z ob) (stKs id c.ps.ks x.1) args) (hid : ∀ g ∈ stKs id c.ps.ks x.1, g.ids fun k => k < c.ps.os.length)
    (hob : ∀ i o, (stOs id c.ps.os x.2)[i]? = some o → OR w Z ob i o ∧ (o.ids fun k => k < c.ps.os.length) ∧ ∀ b, blk (ob i) = some b → ¬ Z b ∧ M b)
    (hap : ∀ i j, i < j → j < c.ps.os.length → ∀ b, blk (ob i) = some b → blk (ob j) ≠ some b) (hF : c.F x = some y) :
    Calls P fn args.toArray w fun e w' => ∃ vs ob' Z', e = .returned (tupV vs) ∧ vs.length = c.rs.ks.length ∧
      RepAt ⟨w, M, Z, (List.range c.np).map (fun k => (k, ob k)), G_globs, none⟩ vs.length (fun k => k < c.rs.os.length) ob' Z' (c.rs.st (List.range c.rs.ks.length) y) ⟨vs.toArray, []⟩ w' := by
  refine (ctr_callX (xv := none) h.okx hnp hgl hlen hZ ha hid hob hap hF).mono fun e w' q => ?_
  rcases q with q | ⟨v, h1, _⟩
  · exact q
  · cases h1
end
theorem sound_calls {N : Nat} {w : World} {Z : Nat → Prop} (hgl : GlCt w Z) (hZ : ∀ b, Z b → b < w.heap.size) {t : Tree} {cs : List Value} (ht : TR w Z t cs) {r : Bool} (hF : term_sound N t.un = some ((r, ()), ())) :
    Calls Tryz.prog 81 #[.agg cs.toArray] w fun e w' => e = .returned (.bool r) ∧ Kept (fun _ => False) w w' := by
  refine (ctr_callG (M := fun _ => False) (Z := Z) (ob := fun _ => undef) (term_sound_ok N) (Nat.le_refl _) hgl (args := [.agg cs.toArray]) (x := ((t.un, ()), ())) (y := ((r, ()), ())) rfl hZ ⟨⟨cs, TR_DR.1 ht, rfl⟩, trivial⟩ (fun g hg => ?_) (fun i o hl => by simp [term_sound_ctr, term_sound_S0, stOs] at hl) (fun i j h1 h2 => absurd h2 (Nat.not_lt_zero _)) hF).mono ?_
  · obtain rfl := List.mem_singleton.1 hg; trivial
  · rintro e w' ⟨vs, ob', Z', rfl, hl, hr⟩
    match vs, hl with
    | [v], _ =>
    have h1 : v = .bool r := SR.bool (ob := ob') (hr.slots 0 (.sv (.data .bool r)) rfl).2.1
    exact ⟨by rw [h1]; rfl, hr.kept⟩
mutual
def vN : Tree → Int → List (Tree × Int)
  | .mk o v l, d => (.mk o v l, d) :: vNL l (IntKind.i64.wrap (d + 1))
def vNL : List Tree → Int → List (Tree × Int)
  | [], _ => []
  | t :: l, d => vN t d ++ vNL l d
end
def ndOf (x : Nd) : Tree × Int := (x.1, x.2.2)
mutual
theorem TR.pre {X : Nat} {w : World} {Z : Nat → Prop} (hX : ¬ Z X) : ∀ {t : Tree} {cs : List Value}, TR w Z t cs → ∀ d, ∃ ys, Pre X w t cs d ys ∧ ys.map ndOf = vN t d ∧ ∀ x ∈ ys, TR w Z x.1 x.2.1
  | .mk o v l, cs, h, d => by
    have h0 := h
    unfold TR at h
    obtain ⟨A, c, rfl, h1, h2, h3, h4, h5⟩ := h
    rcases Nat.eq_zero_or_pos l.length with hz | hp
    · obtain rfl := List.length_eq_zero_iff.1 hz
      refine ⟨[(.mk o v [], [.int .i64 o, .int .i64 v, .slice A 0 c], d)], ?_, by simp [ndOf, vN, vNL], fun x hx => by simp at hx; subst hx; exact h0⟩
      unfold Pre
      exact ⟨A, c, [], Nat.zero_le _, rfl, rfl, .inl ⟨rfl, rfl⟩⟩
    · obtain ⟨b, k, uss, rfl, hb, hlt, hl, hc⟩ := h5 hp
      obtain ⟨zs, q1, q2, q3⟩ := TL.preL hX hl (IntKind.i64.wrap (d + 1))
      refine ⟨(.mk o v l, [.int .i64 o, .int .i64 v, .slice (some ⟨b, k, none⟩) l.length c], d) :: zs, ?_, by simp [ndOf, vN]; exact q2, fun x hx => ?_⟩
      · unfold Pre
        exact ⟨_, c, zs, Nat.le_trans h3 h4, rfl, rfl, .inr ⟨b, k, uss, rfl, fun e => hX (e ▸ hb), q1, hc⟩⟩
      · rcases List.mem_cons.1 hx with rfl | hx
        · exact h0
        · exact q3 x hx
theorem TL.preL {X : Nat} {w : World} {Z : Nat → Prop} (hX : ¬ Z X) : ∀ {l : List Tree} {uss : List (List Value)}, TL w Z l uss → ∀ d, ∃ zs, PreL X w l uss d zs ∧ zs.map ndOf = vNL l d ∧ ∀ x ∈ zs, TR w Z x.1 x.2.1
  | [], [], _, d => ⟨[], by unfold PreL; rfl, by simp [vNL], by simp⟩
  | [], _ :: _, h, _ => by unfold TL at h; exact h.elim
  | _ :: _, [], h, _ => by unfold TL at h; exact h.elim
  | t :: l, us :: uss, h, d => by
    unfold TL at h
    obtain ⟨y, a1, a2, a3⟩ := TR.pre hX h.1 d
    obtain ⟨z, b1, b2, b3⟩ := TL.preL hX h.2 d
    refine ⟨y ++ z, by unfold PreL; exact ⟨y, z, rfl, a1, b1⟩, by simp [vNL, a2, b2], fun x hx => (List.mem_append.1 hx).elim (a3 x) (b3 x)⟩
end
abbrev term_Valid_R : Type := ((Bool × Unit) × (Unit))
noncomputable def vAll (N : Nat) : List (Tree × Int) → Option Bool
  | [] => some true
  | p :: l => (term_sound N p.1.un).bind fun y => (vAll N l).bind fun b => some ((decide (p.2 ≤ 60)) && y.1.1 && b)
noncomputable def term_Valid (N : Nat) (x : TT.den) : Option term_Valid_R :=
  bif Nat.ble (vN (mkT x) 1).length 600 then Option.bind (vAll N (vN (mkT x) 1)) fun b => some ((b, ()), ())
  else some ((false, ()), ())
theorem vAll_of {N : Nat} : ∀ {l : List (Tree × Int)} {b : Bool}, vAll N l = some b → (∀ p ∈ l, ∃ r, term_sound N p.1.un = some ((r, ()), ()) ∧ (b = true → p.2 ≤ 60 ∧ r = true)) ∧ ((∀ p ∈ l, p.2 ≤ 60 ∧ ∀ r, term_sound N p.1.un = some ((r, ()), ()) → r = true) → b = true)
  | [], b, h => by
    simp only [vAll, Option.some.injEq] at h
    exact ⟨fun p hp => absurd hp (by simp), fun _ => h.symm⟩
  | p :: l, b, h => by
    simp only [vAll, Option.bind_eq_some_iff, Option.some.injEq] at h
    obtain ⟨⟨⟨r, ⟨⟩⟩, ⟨⟩⟩, h1, b', h2, rfl⟩ := h
    obtain ⟨q1, q2⟩ := vAll_of h2
    refine ⟨fun q hq => ?_, fun hall => ?_⟩
    · rcases List.mem_cons.1 hq with rfl | hq
      · exact ⟨r, h1, fun h => by simp at h; exact h.1⟩
      · obtain ⟨r', e1, e2⟩ := q1 q hq
        exact ⟨r', e1, fun h => e2 (by simp at h; exact h.2)⟩
    · obtain ⟨e1, e2⟩ := hall p (List.mem_cons_self ..)
      have e3 := q2 fun q hq => hall q (List.mem_cons_of_mem _ hq)
      simp [e1, e2 r h1, e3]
end Go.Proofs.YtehbbcdhahnkgaaGreat

namespace Go.Proofs.YtehbbcdhahnkgaaGreat
open Go Go.RowKit
set_option linter.unusedVariables false
set_option maxRecDepth 100000
attribute [local go_sem] Oper.semAt_some
theorem keptB {w w' : World} (h : Below w.heap.size w w') : Kept (fun _ => False) w w' := ⟨h.os, h.tape, h.output, h.size, fun k hk _ => h.block k hk⟩
theorem TR.form {w : World} {Z : Nat → Prop} {t : Tree} {cs : List Value} (h : TR w Z t cs) : ∃ o v A n c, cs = [.int .i64 o, .int .i64 v, .slice A n c] := by
  obtain ⟨o, v, l⟩ := t
  unfold TR at h
  obtain ⟨A, c, rfl, _⟩ := h
  exact ⟨_, _, _, _, _, rfl⟩
theorem heap_grown {A B : World} {row : Option Nat} {k B0 : Nat} {cs : Array Value} {e : TypeId} {fz : Nat × Nat} (h : A.heap[k]? = some (.cells cs e fz)) (hg : A.grownBy B row) (hr : ∀ r, row = some r → B0 ≤ r ∧ ∃ o : Obj, A.heap[r]? = some o ∧ o.isCells = false) : B.heap[k]? = some (.cells cs e fz) :=
  (hg.block k (Array.getElem?_eq_some_iff.1 h).1 (fun e => by obtain ⟨_, o, h1, h2⟩ := hr k e.symm; rw [h] at h1; cases h1; cases h2)).trans h
theorem TR.keep {w w' : World} {Z : Nat → Prop} (hk : Kept (fun _ => False) w w') {t : Tree} {cs : List Value} (h : TR w Z t cs) : TR w' Z t cs := h.mono (hk.same fun _ _ h => h) fun _ h => h
theorem res_bool {tmps : Array Value} {X : Nat} {w : World} {b : Bool} (h2 : tmps.getD 2 undef = .pointer (some ⟨X, 0, none⟩)) (hc : w.cell? ⟨X, 0, none⟩ = some (.bool b)) : (results Tryz.f51 tmps).run Tryz.prog w = .ok (.bool b) w := by
  have ha : (isAgg 4).run Tryz.prog w = .ok false w := by simp [isAgg, go_sem]
  have h2' : tmps[2]?.getD undef = .pointer (some ⟨X, 0, none⟩) := by simpa using h2
  simp [results, h2', asAddr, loadVar, Sem.run_bind, ha, Go.run_load, hc]
theorem cell_put {W : World} {D : Nat} {o : Obj} {X : Nat} {u : Value} (h : W.cell? ⟨X, 0, none⟩ = some u) (hne : X ≠ D) : (W.putObj D o).cell? ⟨X, 0, none⟩ = some u := by
  have : (W.putObj D o).heap[X]? = W.heap[X]? := World.putObj_heap_other hne
  simp only [World.cell?, this] at h ⊢
  exact h
set_option maxHeartbeats 4000000 in
theorem Valid_in (n : Nat) (hn : 5 ≤ n) {N : Nat} {w : World} {Z : Nat → Prop} (hgl : GlCt w Z) (hZ : ∀ b, Z b → b < w.heap.size) {T : Tree} {cs : List Value} (ht : TR w Z T cs) {b : Bool} (hF : term_Valid N T.un = some ((b, ()), ())) :
    CallsIn Fence.wide n Tryz.prog 51 #[.agg cs.toArray] w fun e w' => e = .returned (.bool b) ∧ Kept (fun _ => False) w w' := by
  have h1 : 1 ≤ n := by omega
  have hX : ¬ Z (w.heap.size + 1) := fun h => by have := hZ _ h; omega
  have hX3 : ¬ Z (w.heap.size + 2 + 1) := fun h => by have := hZ _ h; omega
  obtain ⟨ys, hp, hns, htr⟩ := TR.pre hX ht 1
  obtain ⟨ys3, hp3, hns3, _⟩ := TR.pre hX3 ht 1
  obtain ⟨o, v, A, k, c, rfl⟩ := hp.form
  obtain ⟨r, hr⟩ : ∃ r : Int, r = if ys.length ≤ 600 then (ys.length : Int) else 601 := ⟨_, rfl⟩
  have hyl : ys.length = (vN T 1).length := by rw [← hns, List.length_map]
  have hyl3 : ys3.length = ys.length := by rw [hyl, ← hns3, List.length_map]
  have hF1 : (600 < ys.length → b = false) ∧ (ys.length ≤ 600 → vAll N (vN T 1) = some b) := by
    rw [hyl]
    unfold term_Valid at hF
    have hT : mkT T.un = T := by cases T; rfl
    rw [hT] at hF
    cases hb6 : Nat.ble (vN T 1).length 600 with
    | true =>
      rw [hb6] at hF
      simp only [cond_true, Option.bind_eq_some_iff, Option.some.injEq] at hF
      obtain ⟨b', h1, h2⟩ := hF
      have := Nat.le_of_ble_eq_true hb6
      cases h2
      exact ⟨fun h => by omega, fun _ => h1⟩
    | false =>
      have h6 : ¬ (vN T 1).length ≤ 600 := fun h => by rw [Nat.ble_eq_true_of_le h] at hb6; cases hb6
      rw [hb6] at hF
      simp only [cond_false, Option.some.injEq] at hF
      cases hF
      exact ⟨fun _ => rfl, fun h => absurd h h6⟩
  obtain ⟨hF2, hF3⟩ := hF1
  clear hF hns3
  refine callsIn_of_wp_marks Tryz.func51 rfl trivial ?_ rfl
  simp only [Tryz.ntmps51, List.size_toArray, List.length_cons, List.length_nil, Nat.reduceAdd, Nat.reduceSub, Array.replicate_succ, Array.replicate_zero, List.push_toArray, List.append_toArray, List.nil_append, List.cons_append]
  gi_wp2
  obtain ⟨WA, hWA⟩ : ∃ WA, WA = w.alloc (.cells #[.int .i64 o, .int .i64 v, .slice A k c] 28) := ⟨_, rfl⟩
  have hsA : WA.heap.size = w.heap.size + 1 := by rw [hWA]; simp
  have hkA : KC (w.heap.size + 1) w WA := by rw [hWA]; exact KC.alloc _ _
  have hbA : Below w.heap.size w WA := by rw [hWA]; exact (Below.refl _ w).alloc (Nat.le_refl _) _
  have hs := cell_newCt WA (.bool false) 4
  have hnA : WA.heap[w.heap.size]? = some (.cells #[.int .i64 o, .int .i64 v, .slice A k c] 28 (0, 0)) := by rw [hWA]; exact World.alloc_heap_new w _
  obtain ⟨WB, hWB⟩ : ∃ WB, WB = WA.alloc (.cells #[.bool false] 4) := ⟨_, rfl⟩
  have hsB : WB.heap.size = w.heap.size + 2 := by rw [hWB]; simp [hsA]
  have hkB : KC (w.heap.size + 1) w WB := by rw [hWB]; exact hkA.trans (KC.alloc _ _)
  have hbB : Below w.heap.size w WB := by rw [hWB]; exact hbA.alloc hbA.size _
  have hnB : WB.heap[w.heap.size]? = some (.cells #[.int .i64 o, .int .i64 v, .slice A k c] 28 (0, 0)) := by rw [hWB]; exact (Below.heap_alloc _ _ _ (by omega)).trans hnA
  rw [← hWB, hsA] at hs
  rw [← hWA, ← hWB]
  clear hWA hWB
  refine ⟨trivial, (Nodes_in (n - 1) (by omega) T [.int .i64 o, .int .i64 v, .slice A k c] ys3 WB (by
    rw [hsB]; exact hp3.keep (KC.below hbB)) r (by rw [hyl3]; exact hr)).mono ?_⟩
  rintro e W1 ⟨rfl, hb1⟩
  have hb1' : Below w.heap.size w W1 := hbB.trans (hb1.mono hbB.size)
  have hn1 : W1.heap[w.heap.size]? = some (.cells #[.int .i64 o, .int .i64 v, .slice A k c] 28 (0, 0)) := (hb1.block _ (by omega)).trans hnB
  have hc1 : W1.cell? ⟨w.heap.size + 1, 0, none⟩ = some (.bool false) := (hb1.cell (p := ⟨w.heap.size + 1, 0, none⟩) (by show w.heap.size + 1 < _; omega)).trans hs.1
  have hf1 : W1.frozen? ⟨w.heap.size + 1, 0, none⟩ = false := by
    have := hb1.block (w.heap.size + 1) (by omega)
    have h2 := hs.2
    simp only [World.frozen?] at h2 ⊢
    rw [this]; exact h2
  have d0 : W1.cell? ⟨w.heap.size, 0, none⟩ = some (.int .i64 o) := cell_at hn1 rfl
  have d1 : W1.cell? ⟨w.heap.size, 1, none⟩ = some (.int .i64 v) := cell_at hn1 rfl
  have d2 : W1.cell? ⟨w.heap.size, 2, none⟩ = some (.slice A k c) := cell_at hn1 rfl
  have hcl1 : w.heap.size + 1 < W1.heap.size := cell_lt hc1
  by_cases h6 : ys.length ≤ 600
  · rw [if_pos h6] at hr
    have hr6 : ¬ r > 600 := by omega
    gi_wp2
    refine ⟨trivial, (nodes_in (n - 1) o v A k c _).mono ?_⟩
    rintro e w' ⟨rfl, rfl⟩
    gi_wp2
    obtain ⟨WC, hWC⟩ : ∃ WC, WC = W1.alloc (.cells #[.int .i64 o, .int .i64 v, .slice A k c] 28) := ⟨_, rfl⟩
    have hsC : WC.heap.size = W1.heap.size + 1 := by rw [hWC]; simp
    have hbC : Below w.heap.size w WC := by rw [hWC]; exact hb1'.alloc hb1'.size _
    have hkC : KC (w.heap.size + 1) w WC := KC.below hbC
    have hcC := cell_allocCt (.cells #[.int .i64 o, .int .i64 v, .slice A k c] 28) hc1
    have hfC := frozen_allocCt (.cells #[.int .i64 o, .int .i64 v, .slice A k c] 28) hc1 hf1
    have hnC : WC.heap[W1.heap.size]? = some (.cells #[.int .i64 o, .int .i64 v, .slice A k c] 28 (0, 0)) := by rw [hWC]; exact World.alloc_heap_new W1 _
    rw [← hWC] at hcC hfC
    rw [← hWC]
    clear hWC
    refine wpIn_rangeFunc_ownH rfl h1 (gf := 122) (lb := #[.pointer (some ⟨W1.heap.size, 0, none⟩)]) rfl trivial (Go.Proofs.enters_of Tryz.func122 (by kernel_rfl) rfl)
      (nodes1_stops (n - 1) (w.heap.size + 1) W1.heap.size T [.int .i64 o, .int .i64 v, .slice A k c] ys WC (fun j u hj => cell_at hnC (by simpa using hj)) (by omega) (hp.keep hkC)) KC.trans
      (fun W l o o' h1 h2 h3 h4 => ⟨rfl, rfl, rfl, by simp, fun k cs e fz hk hc => (World.putObj_heap_other (fun e => by subst e; rw [h2] at hc; cases hc; cases h3)).trans hc⟩) (Below.refl _ _) (fun _ => rfl)
      (fun pre W => (∃ u, W.cell? ⟨w.heap.size + 1, 0, none⟩ = some u) ∧ W.frozen? ⟨w.heap.size + 1, 0, none⟩ = false ∧ Below w.heap.size w W ∧ ∀ x ∈ pre, x.1.2.2 ≤ 60 ∧ ∀ r, term_sound N x.1.1.un = some ((r, ()), ()) → r = true)
      (fun c pre W => c = .ret ∧ W.cell? ⟨w.heap.size + 1, 0, none⟩ = some (.bool false) ∧ Below w.heap.size w W ∧ b = false)
      (fun s A B row hs hg hr => ⟨hs.1.imp fun u h => cell_kept h hg (fun r e => (hr r e).2), (frozen_kept hs.1.choose_spec hg (fun r e => (hr r e).2)).trans hs.2.1, hs.2.2.1.grown hg hs.2.2.1.size (fun k e => by have := (hr k e).1; omega), hs.2.2.2⟩)
      (fun c s A B row hs hg hr => ⟨hs.1, cell_kept hs.2.1 hg (fun r e => (hr r e).2), hs.2.2.1.grown hg hs.2.2.1.size (fun k e => by have := (hr k e).1; omega), hs.2.2.2⟩)
      ⟨⟨_, hcC⟩, hfC, hbC, by simp⟩
      (fun x a' W => ∃ p, a' = { tmps := #[.agg #[.int .i64 o, .int .i64 v, .slice A k c], .pointer (some ⟨w.heap.size, 0, none⟩), .pointer (some ⟨w.heap.size + 1, 0, none⟩), .pointer (some ⟨p, 0, none⟩), .int .i64 x.1.2.2, .agg #[.int .i64 o, .int .i64 v, .slice A k c],
        .int .i64 ((vN T 1).length : Nat), .bool (decide (600 < ((vN T 1).length : Int))), .agg #[.int .i64 o, .int .i64 v, .slice A k c], .func (.func 122) #[] #[.pointer (some ⟨W1.heap.size, 0, none⟩)], .agg x.1.2.1.toArray, .int .i64 x.1.2.2, undef, undef, undef, undef, undef, undef, undef], defers := [] } ∧ W.heap[p]? = some (.cells x.1.2.1.toArray 28 (0, 0)))
      (fun x a' s A B row hs hg hr => by obtain ⟨p, h1, h2⟩ := hs; exact ⟨p, h1, heap_grown h2 hg hr⟩) ?assign ?body ?done ?stop
    case assign =>
      rintro l pre ⟨⟨t, cs, d⟩, hxm⟩ W K hI hK
      obtain ⟨o', v', A', k', c', hcs⟩ := (htr _ hxm).form
      simp only at hcs
      subst hcs
      obtain ⟨⟨u, hu⟩, hf, hb, hg⟩ := hI
      have hnew : (W.alloc (.cells #[.int .i64 o', .int .i64 v', .slice A' k' c'] 28)).heap[W.heap.size]? = some (.cells #[.int .i64 o', .int .i64 v', .slice A' k' c'] 28 (0, 0)) := World.alloc_heap_new W _
      have hK2 := hK _ _ ((KeepsOthers.alloc W (.cells #[.int .i64 o', .int .i64 v', .slice A' k' c'] 28)).from _) (KC.alloc W _) ⟨⟨u, cell_allocCt _ hu⟩, frozen_allocCt _ hu hf, hb.alloc hb.size _, hg⟩ ⟨W.heap.size, rfl, hnew⟩
      clear hK hnew
      simp only [encNd]
      gi_wp2
      exact hK2
    case body =>
      rintro l pre ⟨⟨t, cs, d⟩, hxm⟩ a' W hlw _ ⟨⟨u, hu⟩, hf, hb, hg⟩ ⟨p, rfl, hp⟩ hlt
      obtain ⟨o', v', A', k', c', hcs⟩ := (htr _ hxm).form
      simp only at hcs
      subst hcs
      have htW := (htr _ hxm).keep (keptB hb)
      have hmem : (t, d) ∈ vN T 1 := by rw [← hns]; exact List.mem_map_of_mem (f := ndOf) hxm
      obtain ⟨rs, hrs, hrb⟩ := (vAll_of (hF3 h6)).1 _ hmem
      have p0 : W.cell? ⟨p, 0, none⟩ = some (.int .i64 o') := cell_at hp rfl
      have p1 : W.cell? ⟨p, 1, none⟩ = some (.int .i64 v') := cell_at hp rfl
      have p2 : W.cell? ⟨p, 2, none⟩ = some (.slice A' k' c') := cell_at hp rfl
      have hul : w.heap.size + 1 < W.heap.size := cell_lt hu
      clear hp hF2 hyl3 hp3
      by_cases h60 : d > 60
      · have hb0 : b = false := by
          cases b with
          | false => rfl
          | true => exact absurd (hrb rfl).1 (by simp only; omega)
        have hc2 : (W.setCell ⟨w.heap.size + 1, 0, none⟩ (.bool false)).cell? ⟨w.heap.size + 1, 0, none⟩ = some (.bool false) := World.cell?_setCell_same' _ _ _ (by rw [hu]; rfl)
        have hb2 := hb.setCell (p := ⟨w.heap.size + 1, 0, none⟩) (Nat.le_succ _) (.bool false)
        gi_wp2
        refine ⟨trivial, ?_⟩
        gi_wp2
        exact ⟨(KeepsOthers.setCell _ _ _).from _, rfl, hc2, hb2, hb0⟩
      · have hsc := callsR (ro := some l) (n := n - 1 - 1 - 1) (sound_calls (hgl.keep (keptB hb)) (fun b h => Nat.lt_of_lt_of_le (hZ b h) hb.size) htW hrs)
        gi_wp2
        refine ⟨trivial, fun h => by simp [Fence.wide] at h, hsc.mono ?_⟩
        rintro e W2 ⟨rfl, hk2⟩
        have hb2 : Below w.heap.size w W2 := ⟨hk2.os.trans hb.os, hk2.tape.trans hb.tape, hk2.output.trans hb.output, Nat.le_trans hb.size hk2.size, fun k hk => (hk2.block k (Nat.lt_of_lt_of_le hk hb.size) (fun h => h)).trans (hb.block k hk)⟩
        have hu2 : W2.cell? ⟨w.heap.size + 1, 0, none⟩ = some u := cell_keep (fun k hk => hk2.block k hk (fun h => h)) hu
        have hf2 : W2.frozen? ⟨w.heap.size + 1, 0, none⟩ = false := by
          have := hk2.block (w.heap.size + 1) hul (fun h => h)
          simp only [World.frozen?] at hf ⊢
          rw [this]; exact hf
        have hkf : KeepsFrom WC.heap.size W W2 := ⟨hk2.size, fun k o _ hk _ => (hk2.block k (Array.getElem?_eq_some_iff.1 hk).1 (fun h => h)).trans hk⟩
        have hul2 : w.heap.size + 1 < W2.heap.size := cell_lt hu2
        cases rs with
        | true =>
          gi_wp2
          refine ⟨hkf, ⟨hk2.os, hk2.tape, hk2.output, hk2.size, fun k cs e fz _ hk => (hk2.block k (Array.getElem?_eq_some_iff.1 hk).1 (fun h => h)).trans hk⟩, ⟨u, hu2⟩, hf2, hb2, fun x hx => ?_⟩
          rcases List.mem_append.1 hx with hx | hx
          · exact hg x hx
          · obtain rfl := List.mem_singleton.1 hx
            exact ⟨by simp only; omega, fun r hr => by rw [hrs] at hr; cases hr; rfl⟩
        | false =>
          have hb0 : b = false := by
            cases b with
            | false => rfl
            | true => exact absurd (hrb rfl).2 (by simp)
          have hc2 : (W2.setCell ⟨w.heap.size + 1, 0, none⟩ (.bool false)).cell? ⟨w.heap.size + 1, 0, none⟩ = some (.bool false) := World.cell?_setCell_same' _ _ _ (by rw [hu2]; rfl)
          have hb3 := hb2.setCell (p := ⟨w.heap.size + 1, 0, none⟩) (Nat.le_succ _) (.bool false)
          gi_wp2
          exact ⟨hkf.trans ((KeepsOthers.setCell _ _ _).from _), rfl, hc2, hb3, hb0⟩
    case done =>
      rintro D zs W hD hzs ⟨⟨u, hu⟩, hf, hb, hg⟩ hK
      have hbt : b = true := (vAll_of (hF3 h6)).2 fun p hp => by
        rw [← hns] at hp
        obtain ⟨x, hx, rfl⟩ := List.mem_map.1 hp
        rw [← hzs] at hx
        obtain ⟨z, hz, rfl⟩ := List.mem_map.1 hx
        exact hg z hz
      subst hbt
      have hc2 : (W.setCell ⟨w.heap.size + 1, 0, none⟩ (.bool true)).cell? ⟨w.heap.size + 1, 0, none⟩ = some (.bool true) := World.cell?_setCell_same' _ _ _ (by rw [hu]; rfl)
      have hb2 := hb.setCell (p := ⟨w.heap.size + 1, 0, none⟩) (Nat.le_succ _) (.bool true)
      have hul : w.heap.size + 1 < W.heap.size := cell_lt hu
      have hK2 := (Below.heap_setCell W ⟨w.heap.size + 1, 0, none⟩ (.bool true) D (by show D ≠ w.heap.size + 1; omega)).trans hK
      gi_wp2
      refine ⟨by simp, .inl ⟨_, _, rfl, run_takeDeferred hK2, ?_⟩⟩
      have hX2 : w.heap.size + 1 < D := by omega
      exact ⟨_, res_bool rfl (cell_put hc2 (by omega)), rfl, keptB (hb2.grown (grownBy_putObj' _ _ _) hb2.size (fun k e => by cases e; omega))⟩
    case stop =>
      rintro D c pre W hD hpre ⟨rfl, hc, hb, rfl⟩ hK
      gi_wp2
      refine ⟨by simp, .inl ⟨_, _, rfl, run_takeDeferred hK, ?_⟩⟩
      have hX2 : w.heap.size + 1 < D := by omega
      exact ⟨_, res_bool rfl (cell_put hc (by omega)), rfl, keptB (hb.grown (grownBy_putObj' _ _ _) hb.size (fun k e => by cases e; omega))⟩
  · rw [if_neg h6] at hr
    have hr6 : r > 600 := by omega
    obtain rfl := hF2 (by omega)
    have hc2 : (W1.setCell ⟨w.heap.size + 1, 0, none⟩ (.bool false)).cell? ⟨w.heap.size + 1, 0, none⟩ = some (.bool false) := World.cell?_setCell_same' _ _ _ (by rw [hc1]; rfl)
    have hb2 := hb1'.setCell (p := ⟨w.heap.size + 1, 0, none⟩) (Nat.le_succ _) (.bool false)
    gi_wp2
    exact ⟨_, res_bool rfl hc2, rfl, keptB hb2⟩
end Go.Proofs.YtehbbcdhahnkgaaGreat
