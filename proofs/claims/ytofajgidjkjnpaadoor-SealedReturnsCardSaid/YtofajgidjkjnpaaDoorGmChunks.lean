/- The ghost machine: slices.Collect(slices.Chunk(x, n)): the pieces of bytes, gathered by a range over a function. -/
import Derived.Test.YtofajgidjkjnpaaDoorGmRf
import Derived.Test.YtofajgidjkjnpaaDoorGmNil
import Derived.Test.YtofajgidjkjnpaaDoorProg
import Derived.WalkKit
import Derived.OwnWalkIn
import Derived.TacticsInMore
import Derived.RegionIn
import Derived.LoopNIn
import Derived.LoopIn
import Derived.Shelf.SlIter.Collect
import Derived.KernelRfl
set_option linter.unusedVariables false
set_option linter.unusedSimpArgs false
namespace Go.Proofs.YtofajgidjkjnpaaDoor
open Go Go.RowKit
set_option linter.unusedVariables false
set_option maxRecDepth 100000
section
attribute [local go_sem] Oper.semAt_some
/-- slices.Chunk hands back its iterator: two boxes, and a function that holds them. -/
theorem chunk_calls (A : Option Addr) (n c : Nat) (k : Int) (hk : 1 ≤ k) (w : World) : Calls Tryd.prog 133 #[.slice A n c, .int .i64 k] w fun e w' => e = .returned (.func (.func 176) #[] #[.pointer (some ⟨w.heap.size, 0, none⟩), .pointer (some ⟨w.heap.size + 1, 0, none⟩)]) ∧
    w' = (w.alloc (.cells #[.slice A n c] 22)).alloc (.cells #[.int .i64 k] 3) := by
  have h1 : ¬ k < 1 := by omega
  go_enter Tryd.func133, Tryd.ntmps133
  go_wp2
  exact ⟨rfl, _, results_tmp rfl _ _ _, rfl, rfl⟩
/-- The piece at i of a slice's bytes. -/
def pieceV (ab ao n k j : Nat) : Value := .slice (some ⟨ab, ao + j * k, none⟩) (min k (n - j * k)) (min k (n - j * k))
set_option maxHeartbeats 4000000 in
theorem chunk_iter {m l b1 b2 n c k ab ao : Nat} (hk : 1 ≤ k) (hk2 : k ≤ 4096) (hnc : n ≤ c) (hc : n ≤ 1000000) {W1 : World} (J : List Value → World → Prop) (hJd : ∀ p W, J p W → J p W.drew)
    (h1 : ∀ p W, J p W → W.cell? ⟨b1, 0, none⟩ = some (.slice (some ⟨ab, ao, none⟩) n c)) (h2 : ∀ p W, J p W → W.cell? ⟨b2, 0, none⟩ = some (.int .i64 k))
    (hY : ∀ p W, J p W → p.length * k < n → YieldAt Fence.wide (m - 1) Tryd.prog l #[pieceV ab ao n k p.length] W fun e W' => e = .returned (.bool true) ∧ J (p ++ [pieceV ab ao n k p.length]) W') (h0 : J [] W1) :
    CallsIn Fence.wide m Tryd.prog 176 #[.func (.yield l) #[] #[], .pointer (some ⟨b1, 0, none⟩), .pointer (some ⟨b2, 0, none⟩)] W1 fun e W' => (∃ v, e = .returned v) ∧ ∃ j : Nat, n ≤ j * k ∧ j * k < n + k ∧ J ((List.range j).map (pieceV ab ao n k)) W' := by
  refine callsIn_of_wp Tryd.func176 rfl trivial ?_ rfl
  simp only [Tryd.ntmps176, List.size_toArray, List.length_cons, List.length_nil, Nat.reduceAdd, Nat.reduceSub, Array.replicate_succ, Array.replicate_zero, List.push_toArray, List.append_toArray, List.nil_append, List.cons_append]
  gi_wp2
  gi_loopw [4] (fun v wr => ∃ i j : Nat, v = .int .i64 (i : Int) ∧ j * k = i ∧ i < n + k ∧ J ((List.range j).map (pieceV ab ao n k)) wr) (fun v _ => n + k - (intOf v).toNat)
  case atStart =>
    exact ⟨0, 0, rfl, by simp, by omega, h0⟩
  case round =>
    obtain ⟨i, j, rfl, hij, hj, hJ⟩ := hrel
    have hc1 := h1 _ _ hJ
    have hc2 := h2 _ _ hJ
    have hJ2 := hJd _ _ hJ
    have hd1 := h1 _ _ hJ2
    have hd2 := h2 _ _ hJ2
    by_cases hlt : i < n
    · have hlt' : (i : Int) < (n : Int) := by omega
      have hci : ¬ c = i := by omega
      have hin : (i : Int) ≤ (n : Int) := by omega
      have hy0 := hY _ _ hJ2 (by rw [List.length_map, List.length_range, hij]; exact hlt)
      rw [List.length_map, List.length_range] at hy0
      obtain ⟨e, he⟩ : ∃ e, e = min k (n - i) := ⟨_, rfl⟩
      have hpv : pieceV ab ao n k j = .slice (some ⟨ab, ao + i, none⟩) e e := by rw [he, ← hij]; rfl
      have hrange : (List.range (j + 1)).map (pieceV ab ao n k) = (List.range j).map (pieceV ab ao n k) ++ [pieceV ab ao n k j] := by rw [List.range_succ, List.map_append]; rfl
      rw [← hrange, hpv] at hy0
      obtain ⟨yfn, ytmps, yassign, ybody, hy, hRd⟩ := hy0
      have hif : (if n - i < k then ((n - i : Nat) : Int) else (k : Int)) = (e : Int) := by split <;> omega
      have he1 : 1 ≤ e := by omega
      have hien : i + e ≤ n := by omega
      have hw : IntKind.i64.wrap ((i : Int) + (e : Int)) = (i : Int) + (e : Int) := by rw [IntKind.wrap_i64]; omega
      have hb0 : (0 : Int) ≤ (i : Int) + (e : Int) := by omega
      have hb1 : (i : Int) ≤ (i : Int) + (e : Int) := by omega
      have hb2 : (i : Int) + (e : Int) ≤ (c : Int) := by omega
      have htn : ((i : Int) + (e : Int)).toNat = i + e := by omega
      have he0 : ¬ e = 0 := by omega
      have hw2 : IntKind.i64.wrap ((i : Int) + (k : Int)) = (i : Int) + (k : Int) := by rw [IntKind.wrap_i64]; omega
      replace hRd := hRd.mono (R' := fun e W' => e = .returned (.bool true) ∧ J ((List.range (j + 1)).map (pieceV ab ao n k)) W' ∧ W'.cell? ⟨b2, 0, none⟩ = some (.int .i64 k)) (fun e W' h => ⟨h.1, h.2, h2 _ _ h.2⟩)
      clear hY h1 h2 hJd hrange hpv he
      gi_wp2
      gi_region
      gi_wp2
      refine ⟨fun h => by simp [Fence.wide] at h, hRd.mono ?_⟩
      rintro x W' ⟨rfl, hJ3, hc3⟩
      gi_wp2
      go_roundw
      case rel => exact ⟨i + k, j + 1, by simp, by rw [Nat.add_mul, Nat.one_mul, hij], by omega, hJ3⟩
      case measure => simp [intOf]; omega
    · have hlt' : ¬ (i : Int) < (n : Int) := by omega
      clear hY h1 h2 hJd
      gi_wp2
      go_end0
      exact ⟨⟨_, rfl⟩, j, by omega, by omega, hJ⟩
end
/-- What an iterator's function does for whatever loop. -/
def IterOk (wB : World) (g : Nat) (lb : Array Value) (xs : List Value) : Prop := ∀ (l : Nat) (J : List Value → World → Prop) (W1 : World), (∀ p W, J p W → J p W.drew) → (∀ p W, J p W → Below wB.heap.size wB W) →
  (∀ p W A n c, J p W → p.length < xs.length → YieldAt Fence.wide 0 Tryd.prog l #[.slice A n c] W fun e W' => e = .returned (.bool true) ∧ J (p ++ [.slice A n c]) W') → J [] W1 →
    CallsIn Fence.wide 0 Tryd.prog g (#[.func (.yield l) #[] #[]] ++ lb) W1 fun e W' => (∃ v, e = .returned v) ∧ J xs W'
def apAssign : Code := .region 2 #[⟨some 5, .assign (.tmp 7), 22, "iter.go:51", #[], none⟩] false
def apBody : Code := .block 1 (.region 3 #[⟨some 8, .load 50 (.tmp 2), 50, "iter.go:52", #[], none⟩, ⟨some 9, .move (.tmp 5), 22, "iter.go:52", #[], none⟩, ⟨some 10, .buildSlice 50 1 #[(0, .tmp 9)], 50, "iter.go:52", #[⟨1, .data⟩], none⟩, ⟨some 11, .call ⟨.builtin .append, #[.tmp 8, .tmp 10], #[50, 50]⟩, 50, "iter.go:52", #[⟨0, .data⟩, ⟨2, .data⟩], none⟩, ⟨none, .store 50 (.tmp 2) (.tmp 11), 0, "iter.go:52", #[⟨3, .data⟩, ⟨3, .chain⟩, ⟨0, .phase⟩, ⟨1, .phase⟩, ⟨2, .phase⟩, ⟨3, .phase⟩], none⟩] false)
def apRec (fn : FuncId) (sv : Value) (Bs D : Nat) (st : LoopState) (pend : Option Code) : Loop :=
  { state := st, pending := pend, fn, tmps := #[.slice none 0 0, sv, .pointer (some ⟨Bs, 0, none⟩), undef, .slice none 0 0, undef, sv, undef, undef, undef, undef, undef, undef], params := #[7], assign := apAssign, body := apBody, defers := D }
structure ApAt (w0 : World) (fn : FuncId) (sv : Value) (Bs l D : Nat) (ss : List Value) (W : World) : Prop where
  box : ∃ v, W.heap[Bs]? = some (.cells #[v] 50 (0, 0)) ∧ W.ownsRow w0.heap.size 22 1 v ss.length ss
  L : W.heap[l]? = some (.loop (apRec fn sv Bs D .ready none))
  K : W.heap[D]? = some (.deferred (some []))
  below : Below w0.heap.size w0 W
theorem i22 : ∃ i, Tryd.prog.info? 22 = some i ∧ i.size = 1 ∧ i.bytes = 24 ∧ i.zero = some (.slice none 0 0) := by
  have h : (Tryd.prog.info? 22).map (fun i => (i.size, i.bytes)) = some (1, 24) := by kernel_rfl
  have h2 : (Tryd.prog.info? 22).bind (fun i => i.zero) = some (.slice none 0 0) := by kernel_rfl
  cases hi : Tryd.prog.info? 22 with
  | none => rw [hi] at h; cases h
  | some i =>
    rw [hi] at h h2
    simp only [Option.map_some, Option.some.injEq, Prod.mk.injEq] at h
    exact ⟨i, rfl, h.1, h.2, h2⟩
theorem u50 : Tryd.prog.underlying 50 = some (.slice 22) := by kernel_rfl
theorem u22 : Tryd.prog.underlying 22 = some (.slice 5) := by kernel_rfl
theorem mixedCh : Tryd.prog.follows .mixedOrders = true := by kernel_rfl
theorem ApAt.drew {w0 : World} {fn : FuncId} {sv : Value} {Bs l D : Nat} {ss : List Value} {W : World} (h : ApAt w0 fn sv Bs l D ss W) : ApAt w0 fn sv Bs l D ss W.drew :=
  ⟨h.box, h.L, h.K, ⟨h.below.os, h.below.tape, h.below.output, h.below.size, h.below.block⟩⟩
set_option maxHeartbeats 4000000 in
theorem apYield (w0 : World) (fn : FuncId) (sv : Value) (Bs l D : Nat) (hBl : Bs ≠ l) (hDl : D ≠ l) (hDB : D ≠ Bs) (h0B : w0.heap.size ≤ Bs) (h0l : w0.heap.size ≤ l)
    (N : Nat) (hN : N ≤ maxLen) (hNb : N * 24 ≤ 140737488355328) (ss : List Value) (xA : Option Addr) (xn xc : Nat) (W : World) (h : ApAt w0 fn sv Bs l D ss W) (hlen : ss.length < N) :
    YieldAt Fence.wide 0 Tryd.prog l #[.slice xA xn xc] W fun e W' => e = .returned (.bool true) ∧ ApAt w0 fn sv Bs l D (ss ++ [.slice xA xn xc]) W' := by
  have mixed := mixedCh
  have hne : (50 : TypeId) ≠ 22 := by decide
  obtain ⟨i0, hi, hz1, hz2, hz0⟩ := i22
  obtain ⟨v, hv, hrow⟩ := h.box
  refine ⟨fn, #[.slice none 0 0, sv, .pointer (some ⟨Bs, 0, none⟩), undef, .slice none 0 0, undef, sv, .slice xA xn xc, undef, undef, undef, undef, undef], apAssign, apBody, by simpa [apRec] using run_yield (P := Tryd.prog) (args := #[.slice xA xn xc]) h.L rfl, roundIn_of_wpIn trivial ?_⟩
  have hl : l < W.heap.size := (Array.getElem?_eq_some_iff.1 h.L).1
  have hbr := run_beginRound (P := Tryd.prog) h.L rfl
  obtain ⟨W2, hW2⟩ : ∃ W2, W.putObj l (.loop { apRec fn sv Bs D .ready none with state := .busy }) = W2 := ⟨_, rfl⟩
  rw [hW2] at hbr
  have hg2 : W.grownBy W2 (some l) := by rw [← hW2]; exact grownBy_putObj_a _ _ _
  have hv2 : W2.heap[Bs]? = some (.cells #[v] 50 (0, 0)) := by rw [← hW2]; exact (World.putObj_heap_other hBl).trans hv
  have hK2 : W2.heap[D]? = some (.deferred (some [])) := by rw [← hW2]; exact (World.putObj_heap_other hDl).trans h.K
  have hL2 : W2.heap[l]? = some (.loop { apRec fn sv Bs D .ready none with state := .busy }) := by rw [← hW2]; exact World.putObj_heap_same hl
  have hrow2 : W2.ownsRow w0.heap.size 22 1 v ss.length ss := hrow.kept hg2 (ownsRow_ne_a hrow h.L (fun cur e => by cases e))
  have hb2 : Below w0.heap.size w0 W2 := h.below.grown hg2 h.below.size (fun k e => by cases e; exact h0l)
  obtain ⟨hc2, hf2⟩ := cell_of_box_a hv2
  have hBlt : Bs < W2.heap.size := (Array.getElem?_eq_some_iff.1 hv2).1
  have hl2 : l < W2.heap.size := (Array.getElem?_eq_some_iff.1 hL2).1
  have hDlt : D < W2.heap.size := (Array.getElem?_eq_some_iff.1 hK2).1
  have ne_of : ∀ {j : Nat} {o : Obj}, W2.heap[j]? = some o → (∀ cur, o ≠ .cells cur 22 (0, 0)) → some j ≠ v.ownBlock := fun hj hno => by
    rcases ownsRow_ne_a hrow2 hj hno with e | e
    · rw [e]; simp
    · exact fun e' => e e'.symm
  clear hW2
  unfold apAssign
  gi_wp2_with gi_round_op_a
  unfold apBody
  gi_wp2_with (first
    | (gi_at_builtin; refine wpListIn_append_own _ rfl _ _ 50 rfl w0.heap.size 22 i0 (.slice none 0 0) 1 24 u50 hi hz0 hz1 hz2 rfl (by decide) _ _ _ rfl (hrow2.alloc _) ⟨W2.heap.size, 0, none⟩ 1 1 [.slice xA xn xc] rfl rfl (cell_one_new _ _ _) (by simp [Value.oneCell']) (by omega) (by omega) (by have := hb2.size; simp; omega) ?_; intro v' w3 hown' hg3 hnil3
       have hv3 : w3.heap[Bs]? = some (.cells #[v] 50 (0, 0)) := (hg3.block Bs (by simp; omega) (ne_of hv2 (fun cur e => by first | cases e | exact hne (Obj.cells.inj e).2.1))).trans ((Below.heap_alloc _ _ Bs hBlt).trans hv2)
       obtain ⟨hc3, hf3⟩ := cell_of_box_a hv3
       obtain ⟨g', cap', cur', rfl, hbase', hgb', hr1, hr2, hr3, hr4⟩ : ∃ g' cap' cur', v' = .slice (some ⟨g', 0, none⟩) (ss.length + 1) cap' ∧ w0.heap.size ≤ g' ∧ w3.heap[g']? = some (.cells cur' 22 (0, 0)) ∧ ss.length + 1 ≤ cap' ∧ cap' ≤ maxLen ∧ cur'.size = cap' * 1 ∧ cur'.toList.take ((ss.length + 1) * 1) = ss ++ [.slice xA xn xc] := by
         rcases hown'.2 with ⟨_, h0⟩ | h'
         · exact absurd h0 (by omega)
         · exact h'
       simp only [Act.put, List.setIfInBounds_toArray, List.set_cons_succ, List.set_cons_zero])
    | gi_round_op_a)
  have hg3' : (W2.alloc (.cells #[.slice xA xn xc] 22)).grownBy w3 v.ownBlock := hg3
  have hL3 : w3.heap[l]? = some (.loop { apRec fn sv Bs D .ready none with state := .busy }) := (hg3'.block l (by simp; omega) (ne_of hL2 (fun cur e => by cases e))).trans ((Below.heap_alloc _ _ l hl2).trans hL2)
  have hK3 : w3.heap[D]? = some (.deferred (some [])) := (hg3'.block D (by simp; omega) (ne_of hK2 (fun cur e => by cases e))).trans ((Below.heap_alloc _ _ D hDlt).trans hK2)
  obtain ⟨w4, hw4⟩ : ∃ w4, w3.setCell ⟨Bs, 0, none⟩ (.slice (some ⟨g', 0, none⟩) (ss.length + 1) cap') = w4 := ⟨_, rfl⟩
  rw [hw4]
  have hg4 : w3.grownBy w4 (some Bs) := by rw [← hw4]; exact grownBy_setCell0_a _ _ _
  have hv4 : w4.heap[Bs]? = some (.cells #[.slice (some ⟨g', 0, none⟩) (ss.length + 1) cap'] 50 (0, 0)) := by rw [← hw4]; exact heap_setCell_box_a _ hv3
  have hL4 : w4.heap[l]? = some (.loop { apRec fn sv Bs D .ready none with state := .busy }) := (hg4.block l (Array.getElem?_eq_some_iff.1 hL3).1 (fun e => hBl (by cases e; rfl))).trans hL3
  have hK4 : w4.heap[D]? = some (.deferred (some [])) := (hg4.block D (Array.getElem?_eq_some_iff.1 hK3).1 (fun e => hDB (by cases e; rfl))).trans hK3
  have hrow4 := hown'.kept hg4 (ownsRow_ne_a hown' hv3 (fun cur e => by first | cases e | exact hne (Obj.cells.inj e).2.1))
  have hl4 : l < w4.heap.size := (Array.getElem?_eq_some_iff.1 hL4).1
  have hb3 : Below w0.heap.size w0 w3 := (hb2.alloc hb2.size _).grown hg3' (by have := hb2.size; simp; omega) (fun k e => (hrow2.lt k e).1)
  have hb4 : Below w0.heap.size w0 w4 := hb3.grown hg4 hb3.size (fun k e => by cases e; exact h0B)
  clear hw4
  refine ⟨_, _, run_endRound none hL4, rfl, ⟨⟨_, (World.putObj_heap_other hBl).trans hv4, ?_⟩, World.putObj_heap_same hl4, (World.putObj_heap_other hDl).trans hK4, hb4.grown (grownBy_putObj_a _ _ _) hb4.size (fun k e => by cases e; exact h0l)⟩⟩
  have := hrow4.kept (grownBy_putObj_a w4 l (.loop { { apRec fn sv Bs D .ready none with state := .busy } with state := if (none : Option Code).isNone then .ready else .done, pending := none })) (ownsRow_ne_a hrow4 hL4 (fun cur e => by cases e))
  simpa using this
set_option maxHeartbeats 4000000 in
theorem appendSeq_in (lb : Array Value) (xs : List Value) (hN : xs.length ≤ maxLen) (hNb : xs.length * 24 ≤ 140737488355328) (w : World) (hseq : IterOk w 176 lb xs) :
    CallsIn Fence.wide 0 Tryd.prog 175 #[.slice none 0 0, .func (.func 176) #[] lb] w fun e w' => ∃ v, e = .returned v ∧ w'.ownsRow w.heap.size 22 1 v xs.length xs ∧ Below w.heap.size w w' := by
  have mixed := mixedCh
  have hne : (50 : TypeId) ≠ 22 := by decide
  refine callsIn_of_wp_marks Tryd.func175 rfl trivial ?_ rfl
  simp only [Tryd.ntmps175, List.size_toArray, List.length_cons, List.length_nil, Nat.reduceAdd, Nat.reduceSub, Array.replicate_succ, Array.replicate_zero, List.push_toArray, List.append_toArray, List.nil_append, List.cons_append]
  gi_wp2
  refine wpIn_rangeFunc ?_
  intro fn hfn
  obtain ⟨W0, hW0⟩ : ∃ W0, w.alloc (.cells #[.slice none 0 0] 50) = W0 := ⟨_, rfl⟩
  have hs0 : W0.heap.size = w.heap.size + 1 := by rw [← hW0]; simp
  have hv0 : W0.heap[w.heap.size]? = some (.cells #[.slice none 0 0] 50 (0, 0)) := by rw [← hW0]; exact World.alloc_heap_new w _
  have hb0 : Below w.heap.size w W0 := by rw [← hW0]; exact (Below.refl _ w).alloc (Nat.le_refl _) _
  rw [hW0]
  obtain ⟨W1, hW1⟩ : ∃ W1, (W0.alloc (.deferred (some []))).alloc (.loop (apRec fn (.func (.func 176) #[] lb) w.heap.size W0.heap.size .ready none)) = W1 := ⟨_, rfl⟩
  have hold : ∀ k, k < W0.heap.size → W1.heap[k]? = W0.heap[k]? := fun k hk => by
    rw [← hW1]; exact (Below.heap_alloc _ _ k (by simp; omega)).trans (Below.heap_alloc _ _ k hk)
  have hb1 : Below w.heap.size w W1 := by rw [← hW1]; exact (hb0.alloc hb0.size _).alloc (by have := hb0.size; simp; omega) _
  have hs1 : W1.heap.size = W0.heap.size + 2 := by rw [← hW1]; simp
  have hM : ApAt w fn (.func (.func 176) #[] lb) w.heap.size (W0.heap.size + 1) W0.heap.size [] W1 :=
    ⟨⟨_, (hold w.heap.size (by omega)).trans hv0, ⟨rfl, .inl ⟨rfl, rfl⟩⟩⟩,
     by rw [← hW1]; have := World.alloc_heap_new (W0.alloc (.deferred (some []))) (.loop (apRec fn (.func (.func 176) #[] lb) w.heap.size W0.heap.size .ready none)); rwa [World.size_alloc] at this,
     by rw [← hW1]; exact (Below.heap_alloc _ _ _ (by simp)).trans (World.alloc_heap_new W0 _), hb1⟩
  refine ⟨W0.heap.size + 1, [{ target := .collected W0.heap.size, args := #[] }], W1, { target := .fn (.func 176) lb, args := #[.func (.yield (W0.heap.size + 1)) #[] #[]] }, W1, 176,
    #[.func (.yield (W0.heap.size + 1)) #[] #[]] ++ lb, W1, ?_, ?_, fun _ _ => trivial, ?_, fun h => by simp [Fence.wide] at h, ?_⟩
  · rw [← hW1]; exact run_enterLoop_outer _ _ _ _ _
  · simp [resolve, go_sem]
  · simp [invoke, go_sem]
  · refine (hseq (W0.heap.size + 1) (ApAt w fn (.func (.func 176) #[] lb) w.heap.size (W0.heap.size + 1) W0.heap.size) W1 (fun p W h => h.drew) (fun p W h => h.below)
      (fun p W A n c hJ hl => apYield w fn _ w.heap.size (W0.heap.size + 1) W0.heap.size (by omega) (by omega) (by omega) (Nat.le_refl _) (by omega) xs.length hN hNb p A n c W hJ hl) hM).mono ?_
    rintro e W2 ⟨⟨v0, rfl⟩, h2⟩
    obtain ⟨v, hv, hrow⟩ := h2.box
    have hend := run_endLoop (P := Tryd.prog) h2.L (by simp [apRec])
    obtain ⟨W3, hW3⟩ : ∃ W3, W2.putObj (W0.heap.size + 1) (.loop { apRec fn (.func (.func 176) #[] lb) w.heap.size W0.heap.size .ready none with state := .exhausted }) = W3 := ⟨_, rfl⟩
    rw [hW3] at hend
    have hg3 : W2.grownBy W3 (some (W0.heap.size + 1)) := by rw [← hW3]; exact grownBy_putObj_a _ _ _
    have hv3 : W3.heap[w.heap.size]? = some (.cells #[v] 50 (0, 0)) := by rw [← hW3]; exact (World.putObj_heap_other (by omega)).trans hv
    have hK3 : W3.heap[W0.heap.size]? = some (.deferred (some [])) := by rw [← hW3]; exact (World.putObj_heap_other (by omega)).trans h2.K
    have hrow3 := hrow.kept hg3 (ownsRow_ne_a hrow h2.L (fun cur e => by cases e))
    have hb3 : Below w.heap.size w W3 := h2.below.grown hg3 h2.below.size (fun k e => by cases e; omega)
    obtain ⟨hc3, hf3⟩ := cell_of_box_a hv3
    clear hW3
    refine ⟨none, W3, hend, ?_⟩
    gi_wp2
    rw [← hs0]
    refine ⟨by simp, .inl ⟨_, _, rfl, run_takeDeferred hK3, ?_⟩⟩
    exact ⟨_, results_tmp rfl _ _ _, v, rfl, hrow3.kept (grownBy_putObj_a _ _ _) (ownsRow_ne_a hrow3 hK3 (fun cur e => by cases e)), hb3.grown (grownBy_putObj_a _ _ _) hb3.size (fun k e => by cases e; omega)⟩
set_option maxHeartbeats 1000000 in
theorem collect_calls (lb : Array Value) (xs : List Value) (hN : xs.length ≤ maxLen) (hNb : xs.length * 24 ≤ 140737488355328) (w : World) (hseq : IterOk w 176 lb xs) :
    Calls Tryd.prog 132 #[.func (.func 176) #[] lb] w fun e w' => ∃ v, e = .returned v ∧ w'.ownsRow w.heap.size 22 1 v xs.length xs ∧ Below w.heap.size w w' := by
  have hc := (callsIn_wide (n := 0)).1 (appendSeq_in lb xs hN hNb w hseq)
  go_enter Tryd.func132, Tryd.ntmps132
  go_wp2_with (go_at_call 175; refine hc.mono ?_; rintro e w' ⟨v, rfl, hrow, hb⟩)
  go_ret
  exact ⟨v, rfl, hrow, hb⟩
section
attribute [local go_sem] Oper.semAt_some
theorem chunk_iter0 {l b1 b2 c : Nat} {A : Option Addr} {W : World} (h1 : W.cell? ⟨b1, 0, none⟩ = some (.slice A 0 c)) :
    CallsIn Fence.wide 0 Tryd.prog 176 #[.func (.yield l) #[] #[], .pointer (some ⟨b1, 0, none⟩), .pointer (some ⟨b2, 0, none⟩)] W fun e W' => (∃ v, e = .returned v) ∧ W' = W := by
  refine callsIn_of_wp Tryd.func176 rfl trivial ?_ rfl
  simp only [Tryd.ntmps176, List.size_toArray, List.length_cons, List.length_nil, Nat.reduceAdd, Nat.reduceSub, Array.replicate_succ, Array.replicate_zero, List.push_toArray, List.append_toArray, List.nil_append, List.cons_append]
  gi_wp2
  refine wpIn_loop_once ?_
  gi_wp2
  go_end0
  exact ⟨⟨_, rfl⟩, rfl⟩
end
theorem iter_chunk (wB : World) {b1 b2 n c k : Nat} {A : Option Addr} (hk : 1 ≤ k) (hk2 : k ≤ 4096) (hn : n ≤ 1000000) (hnc : n ≤ c) (hb1 : wB.heap[b1]? = some (.cells #[.slice A n c] 22 (0, 0))) (hb2 : wB.heap[b2]? = some (.cells #[.int .i64 k] 3 (0, 0)))
    (hA : 0 < n → ∃ ab ao, A = some ⟨ab, ao, none⟩) : ∃ vs : List Value, vs.length = (n + k - 1) / k ∧ (∀ ab ao, 0 < n → A = some ⟨ab, ao, none⟩ → vs = (List.range ((n + k - 1) / k)).map (pieceV ab ao n k)) ∧
      IterOk wB 176 #[.pointer (some ⟨b1, 0, none⟩), .pointer (some ⟨b2, 0, none⟩)] vs := by
  have hl1 : b1 < wB.heap.size := (Array.getElem?_eq_some_iff.1 hb1).1
  have hl2 : b2 < wB.heap.size := (Array.getElem?_eq_some_iff.1 hb2).1
  rcases Nat.eq_zero_or_pos n with h0 | h0
  · subst h0
    have hz : (0 + k - 1) / k = 0 := Nat.div_eq_of_lt (by omega)
    refine ⟨[], by rw [hz]; rfl, fun _ _ h => absurd h (by omega), ?_⟩
    intro l J W1 hJd hJb hY hJ
    have hc1 : W1.cell? ⟨b1, 0, none⟩ = some (.slice A 0 c) := (cell_of_box_a (((hJb _ _ hJ).block b1 hl1).trans hb1)).1
    refine (chunk_iter0 hc1).mono ?_
    rintro e W' ⟨hv, rfl⟩
    exact ⟨hv, hJ⟩
  · obtain ⟨ab, ao, rfl⟩ := hA h0
    refine ⟨(List.range ((n + k - 1) / k)).map (pieceV ab ao n k), by simp, fun _ _ _ h => by cases h; rfl, ?_⟩
    intro l J W1 hJd hJb hY hJ
    refine (chunk_iter (m := 0) hk hk2 hnc hn J hJd (fun p W h => (cell_of_box_a (((hJb _ _ h).block b1 hl1).trans hb1)).1) (fun p W h => (cell_of_box_a (((hJb _ _ h).block b2 hl2).trans hb2)).1) ?_ hJ).mono ?_
    · intro p W h hlt
      refine hY p W _ _ _ h ?_
      rw [List.length_map, List.length_range]
      refine (Nat.le_div_iff_mul_le (by omega)).2 ?_
      rw [Nat.succ_mul]; omega
    · rintro e W' ⟨hv, j, q1, q2, q3⟩
      have : (n + k - 1) / k = j := Nat.div_eq_of_lt_le (by omega) (by rw [Nat.succ_mul]; omega)
      rw [this]
      exact ⟨hv, q3⟩
def chunks (x : List UInt8) (k : Nat) : List (List UInt8) := (List.range ((x.length + k - 1) / k)).map fun j => cut x (j * k) (min x.length ((j + 1) * k))
def chS (s : GS) (x : List UInt8) (k : Nat) : GS := ((((s.put (.slot 35 none)).put (.slot 36 none)).put (.slot 37 none)).put (.slot 38 none)).put (.slot 15 (some (.sv (.data (.sl (.sl .u8)) (chunks x k)))))
theorem flat_one : ∀ vs : List Value, (vs.map (fun u => [u])).flatten = vs
  | [] => rfl
  | u :: l => by simp [flat_one l]
theorem cut_len' {α : Type} (x : List α) (a b : Nat) : (cut x a b).length = min b x.length - a := by simp [cut]
theorem chunk_DR {w : World} {Z : Nat → Prop} {x : List UInt8} {k j ab ao : Nat} {uss : List (List Value)} (hk : 1 ≤ k) (hk2 : k ≤ 4096) (hz : Z ab) (hl : ab < w.heap.size) (ha : All2 (DR w Z .u8) x uss) (hc : ∀ j u, uss.flatten[j]? = some u → w.cell? ⟨ab, ao + j, none⟩ = some u) :
    DR w Z (.sl .u8) (cut x (j * k) (min x.length ((j + 1) * k))) [pieceV ab ao x.length k j] := by
  have hlen : (cut x (j * k) (min x.length ((j + 1) * k))).length = min k (x.length - j * k) := by
    rw [cut_len', Nat.succ_mul]; omega
  refine ⟨some ⟨ab, ao + j * k, none⟩, min k (x.length - j * k), by rw [hlen]; rfl, by omega, by unfold maxLen; omega, fun hpos => ?_⟩
  have hul : uss.flatten.length = x.length := by have := ha.flatD; simpa [Ty.size] using this
  refine ⟨ab, ao + j * k, cut uss (j * k) (min x.length ((j + 1) * k)), rfl, hz, hl, (ha.take _).drop _, fun q u hq => ?_⟩
  have hfl : (cut uss (j * k) (min x.length ((j + 1) * k))).flatten = cut uss.flatten (j * k) (min x.length ((j + 1) * k)) := by
    unfold cut
    rw [flatten_drop (fun v hv => ha.lenD v (List.mem_of_mem_take hv)), flatten_take ha.lenD]
    simp [Ty.size]
  rw [hfl] at hq
  unfold cut at hq
  rw [List.getElem?_drop, List.getElem?_take] at hq
  split at hq
  · rw [Nat.add_assoc]; exact hc _ _ hq
  · cases hq
section
variable {Γ : Ctx} {E : Env} {R : Type} {np : Nat}
theorem Blk_chunks (hb : Base Tryd.prog Γ E np) {ns : List Nat} {id : Nat} {c : Spec} {l : List Code} {i : Nat} {F : c.den → Option R} {K : XE → GS → Option R} {X : GS → Option R} {t1 t2 t3 t4 t5 : TypeId} {p1 p2 p3 p4 p5 : String} {e1 e2 e3 e4 e5 : Array Edge} {at1 at2 : Array TypeId}
    (hl : l[i]? = some (.region id #[⟨some 35, .move (.tmp 2), t1, p1, e1, none⟩, ⟨some 36, .move (.tmp 5), t2, p2, e2, none⟩, ⟨some 37, .call ⟨.value (.func 133), #[.tmp 35, .tmp 36], at1⟩, t3, p3, e3, none⟩, ⟨some 38, .call ⟨.value (.func 132), #[.tmp 37], at2⟩, t4, p4, e4, none⟩, ⟨some 15, .assign (.tmp 38), t5, p5, e5, none⟩] false))
    (hN : Nat.blt 38 Γ.N = true) (hX : NxOk Tryd.prog Γ E (l.drop (i + 1)) X K) (x : c.den → List UInt8) (k : c.den → Int) (hx : ∀ z, look 2 (c.st ns z).slots = some (.sv (.data (.sl .u8) (x z)))) (hk : ∀ z, look 5 (c.st ns z).slots = some (.sv (.data .i64 (k z))))
    (hF : ∀ z, F z = bif decide (1 ≤ k z) && (decide (k z ≤ 4096) && decide ((x z).length ≤ 1000000)) then X (chS (c.st ns z) (x z) (k z).toNat) else none) : Blk Tryd.prog Γ E ns c (l.drop i) F K := by
  intro z r Q hFr hK a w hrep
  rw [hF] at hFr
  have hc : (decide (1 ≤ k z) && (decide (k z ≤ 4096) && decide ((x z).length ≤ 1000000))) = true := by
    cases hb : (decide (1 ≤ k z) && (decide (k z ≤ 4096) && decide ((x z).length ≤ 1000000))) with
    | true => rfl
    | false => rw [hb] at hFr; cases hFr
  rw [hc] at hFr
  simp only [cond_true] at hFr
  simp only [Bool.and_eq_true, decide_eq_true_eq] at hc
  obtain ⟨hk1, hk2, hxl⟩ := hc
  rw [drop_at hl]
  obtain ⟨U, ob, Z, h, hU⟩ := hrep
  have hN' : 38 < Γ.N := Nat.lt_of_lt_of_le (Nat.lt_succ_self 38) (Nat.le_of_ble_eq_true hN)
  have hsz : a.tmps.size = Γ.N := h.size
  obtain ⟨_, ⟨vs2, hd2, hv2⟩, _⟩ := h.slots 2 _ (hx z)
  have hd2' := hd2
  obtain ⟨A, cp, rfl, hle, hmax, hpt⟩ := hd2'
  have hv2 : a.tmps.getD 2 undef = .slice A (x z).length cp := hv2
  obtain ⟨_, hv5, _⟩ := h.slots 5 _ (hk z)
  have hv5 : a.tmps.getD 5 undef = .int .i64 (k z) := (SR.i64 (ob := ob) hv5).1
  obtain ⟨kn, hkn⟩ := Int.eq_ofNat_of_zero_le (show 0 ≤ k z by omega)
  rw [hkn] at hv5 hk1 hk2
  rw [hkn, Int.toNat_natCast] at hFr
  have hk1 : 1 ≤ kn := by omega
  have hk2 : kn ≤ 4096 := by omega
  refine wp_region ?_
  show wpOps Tryd.prog _ _ [0, 1, 2, 3, 4] a w
  refine ops_step (o := ⟨some 35, .move (.tmp 2), t1, p1, e1, none⟩) rfl rfl ?_
  unfold Oper.wp
  rw [show (execOp a.eval (⟨some 35, .move (.tmp 2), t1, p1, e1, none⟩ : Oper)).run Tryd.prog w = .ok (.value (.slice A (x z).length cp)) w by simp only [execOp, Act.eval, hv2]; rfl, Oper.upon_value]
  have h1 := h.noSlot 35 (.slice A (x z).length cp)
  have g35 : (a.put (some 35) (.slice A (x z).length cp)).tmps.getD 35 undef = .slice A (x z).length cp := by simp [Act.put, Array.getD, hsz, show 35 < Γ.N by omega]
  have g5 : (a.put (some 35) (.slice A (x z).length cp)).tmps.getD 5 undef = .int .i64 (kn : Int) := by rw [← hv5]; exact put_ne a _ (show (5 : Nat) ≠ 35 by decide)
  generalize a.put (some 35) (.slice A (x z).length cp) = a1 at h1 g35 g5 ⊢
  refine ops_step (o := ⟨some 36, .move (.tmp 5), t2, p2, e2, none⟩) rfl rfl ?_
  unfold Oper.wp
  rw [show (execOp a1.eval (⟨some 36, .move (.tmp 5), t2, p2, e2, none⟩ : Oper)).run Tryd.prog w = .ok (.value (.int .i64 (kn : Int))) w by simp only [execOp, Act.eval, g5]; rfl, Oper.upon_value]
  have h2 := h1.noSlot 36 (.int .i64 (kn : Int))
  have hsz1 : a1.tmps.size = Γ.N := h1.size
  have g36 : (a1.put (some 36) (.int .i64 (kn : Int))).tmps.getD 36 undef = .int .i64 (kn : Int) := by simp [Act.put, Array.getD, hsz1, show 36 < Γ.N by omega]
  have g35' : (a1.put (some 36) (.int .i64 (kn : Int))).tmps.getD 35 undef = .slice A (x z).length cp := by rw [← g35]; exact put_ne a1 _ (show (35 : Nat) ≠ 36 by decide)
  generalize a1.put (some 36) (.int .i64 (kn : Int)) = a2 at h2 g36 g35' ⊢
  refine ops_step (o := ⟨some 37, .call ⟨.value (.func 133), #[.tmp 35, .tmp 36], at1⟩, t3, p3, e3, none⟩) rfl rfl ?_
  unfold Oper.wp
  have hrun : (execOp a2.eval (⟨some 37, .call ⟨.value (.func 133), #[.tmp 35, .tmp 36], at1⟩, t3, p3, e3, none⟩ : Oper)).run Tryd.prog w = .ok (.enter 133 #[.slice A (x z).length cp, .int .i64 (kn : Int)]) w := by
    have hb1 : Tryd.prog.funcs[133]? = some Tryd.f133 := Tryd.func133
    have hb4 : ¬ Tryd.f133.body = none := by intro h; cases h
    have hb5 : ¬ Tryd.f133.name = "runtime.NumGoroutine" := by decide
    have q1 : a2.eval (.tmp 35) = .slice A (x z).length cp := g35'
    have q2 : a2.eval (.tmp 36) = .int .i64 (kn : Int) := g36
    have ef : a2.eval (.func 133) = .func (.func 133) #[] #[] := rfl
    simp [execOp, resolve, q1, q2, ef, Deferred.ofValue, invoke, callFunc, hb1, hb4, hb5]
  rw [hrun]
  refine (chunk_calls A (x z).length cp (kn : Int) (by omega) w).mono ?_
  rintro e w1 ⟨rfl, hw1⟩
  show wpOps Tryd.prog _ _ [3, 4] (a2.put (some 37) _) w1
  have hk1w : Kept (fun _ => False) w w1 := by rw [hw1]; exact (Kept.alloc _ _).trans (Kept.alloc _ _) (fun _ h => h.elim)
  have h3 := (h2.step hk1w).noSlot 37 (.func (.func 176) #[] #[.pointer (some ⟨w.heap.size, 0, none⟩), .pointer (some ⟨w.heap.size + 1, 0, none⟩)])
  have hsz2 : a2.tmps.size = Γ.N := h2.size
  have g37 : (a2.put (some 37) (.func (.func 176) #[] #[.pointer (some ⟨w.heap.size, 0, none⟩), .pointer (some ⟨w.heap.size + 1, 0, none⟩)])).tmps.getD 37 undef = .func (.func 176) #[] #[.pointer (some ⟨w.heap.size, 0, none⟩), .pointer (some ⟨w.heap.size + 1, 0, none⟩)] := by simp [Act.put, Array.getD, hsz2, show 37 < Γ.N by omega]
  generalize a2.put (some 37) (.func (.func 176) #[] #[.pointer (some ⟨w.heap.size, 0, none⟩), .pointer (some ⟨w.heap.size + 1, 0, none⟩)]) = a3 at h3 g37 ⊢
  refine ops_step (o := ⟨some 38, .call ⟨.value (.func 132), #[.tmp 37], at2⟩, t4, p4, e4, none⟩) rfl rfl ?_
  unfold Oper.wp
  have hrun2 : (execOp a3.eval (⟨some 38, .call ⟨.value (.func 132), #[.tmp 37], at2⟩, t4, p4, e4, none⟩ : Oper)).run Tryd.prog w1 = .ok (.enter 132 #[.func (.func 176) #[] #[.pointer (some ⟨w.heap.size, 0, none⟩), .pointer (some ⟨w.heap.size + 1, 0, none⟩)]]) w1 := by
    have hb1 : Tryd.prog.funcs[132]? = some Tryd.f132 := Tryd.func132
    have hb4 : ¬ Tryd.f132.body = none := by intro h; cases h
    have hb5 : ¬ Tryd.f132.name = "runtime.NumGoroutine" := by decide
    have q1 : a3.eval (.tmp 37) = _ := g37
    have ef : a3.eval (.func 132) = .func (.func 132) #[] #[] := rfl
    simp [execOp, resolve, q1, ef, Deferred.ofValue, invoke, callFunc, hb1, hb4, hb5]
  rw [hrun2]
  have hb1 : w1.heap[w.heap.size]? = some (.cells #[.slice A (x z).length cp] 22 (0, 0)) := by
    rw [hw1, Go.heap_alloc_old _ _ (by simp)]; exact World.alloc_heap_new w _
  have hb2 : w1.heap[w.heap.size + 1]? = some (.cells #[.int .i64 (kn : Int)] 3 (0, 0)) := by
    rw [hw1]
    have := World.alloc_heap_new (w.alloc (.cells #[.slice A (x z).length cp] 22)) (.cells #[.int .i64 (kn : Int)] 3)
    rwa [World.size_alloc] at this
  obtain ⟨vs, hvl, hvs, hit⟩ := iter_chunk w1 hk1 hk2 hxl hle hb1 hb2 (fun h0 => by obtain ⟨b, o, _, rfl, _⟩ := hpt h0; exact ⟨b, o, rfl⟩)
  have hmle : vs.length ≤ 1004096 := by
    rw [hvl]
    exact Nat.le_trans (Nat.div_le_self _ _) (by omega)
  refine (collect_calls _ vs (by unfold maxLen; omega) (by omega) w1 hit).mono ?_
  rintro e w2 ⟨v, rfl, hown, hbel⟩
  show wpOps Tryd.prog _ _ [4] (a3.put (some 38) v) w2
  have hk2w : Kept (fun _ => False) w1 w2 := ⟨hbel.os, hbel.tape, hbel.output, hbel.size, fun q hq _ => hbel.block q hq⟩
  have h4 := (h3.step hk2w).noSlot 38 v
  have hsz3 : a3.tmps.size = Γ.N := h3.size
  have g38 : (a3.put (some 38) v).tmps.getD 38 undef = v := by simp [Act.put, Array.getD, hsz3, hN']
  generalize a3.put (some 38) v = a4 at h4 g38 ⊢
  refine ops_step (o := ⟨some 15, .assign (.tmp 38), t5, p5, e5, none⟩) rfl rfl ?_
  unfold Oper.wp
  rw [show (execOp a4.eval (⟨some 15, .assign (.tmp 38), t5, p5, e5, none⟩ : Oper)).run Tryd.prog w2 = .ok (.value v) w2 by simp only [execOp, Act.eval, g38]; rfl, Oper.upon_value]
  have hE1 : E.w0.heap.size ≤ w1.heap.size := h3.kept.size
  have h5 := h4.freeze (fun b => v.ownBlock = some b) (fun b hb => (hown.lt b hb).2) (fun b hb hlt => by have := (hown.lt b hb).1; omega)
    (fun i o hi _ b hbb hb => by have q := (h3.objs i o hi).2.1.block_lt b hbb; have := (hown.lt b hb).1; omega)
  have hsame : Same Z w w2 := (hk1w.trans hk2w (fun _ h => h.elim)).same (fun _ _ h => h)
  have hdr : DR w2 (fun b => Z b ∨ v.ownBlock = some b) (.sl (.sl .u8)) (chunks (x z) kn) [v] := by
    have hcl : (chunks (x z) kn).length = vs.length := by rw [hvl]; simp [chunks]
    rcases hown.2 with ⟨rfl, hz0⟩ | ⟨g, cap, cur, rfl, hge, hg, hnc, hcm, hcsz, ht⟩
    · exact ⟨none, 0, by rw [hcl, hz0], by rw [hcl, hz0]; exact Nat.le_refl _, by simp [maxLen], fun h0 => by rw [hcl, hz0] at h0; omega⟩
    · refine ⟨some ⟨g, 0, none⟩, cap, by rw [hcl], by rw [hcl]; exact hnc, hcm, fun h0 => ?_⟩
      have hx0 : 0 < (x z).length := by
        rcases Nat.eq_zero_or_pos (x z).length with h | h
        · rw [hcl, hvl, h, Nat.div_eq_of_lt (by omega)] at h0; omega
        · exact h
      obtain ⟨ab, ao, uss, rfl, hza, hab, hall, hcells⟩ := hpt hx0
      have hvs := hvs ab ao hx0 rfl
      refine ⟨g, 0, vs.map (fun u => [u]), rfl, .inr rfl, (Array.getElem?_eq_some_iff.1 hg).1, ?_, fun q u hq => ?_⟩
      · refine All2.ofGet (by rw [hcl, List.length_map]) fun q y u hy hu => ?_
        rw [List.getElem?_map] at hu
        obtain ⟨u0, hu0, rfl⟩ := Option.map_eq_some_iff.1 hu
        rw [hvs, List.getElem?_map] at hu0
        obtain ⟨q', hq', rfl⟩ := Option.map_eq_some_iff.1 hu0
        unfold chunks at hy
        rw [List.getElem?_map, hq'] at hy
        cases hy
        exact chunk_DR hk1 hk2 (.inl hza) (Nat.lt_of_lt_of_le hab hsame.1) (hall.mono fun _ _ hd => hd.mono hsame (fun _ h => .inl h)) (fun q u hq => (hsame.2 _ _ hza hab).trans (hcells q u hq))
      · rw [flat_one] at hq
        rw [Nat.zero_add]
        refine cell_at hg ?_
        rw [← ht, List.getElem?_take] at hq
        split at hq
        · exact hq
        · cases hq
  have h6 := h5.slot (d := 15) (by omega) (g := .sv (.data (.sl (.sl .u8)) (chunks (x z) kn))) (v := v) ⟨[v], hdr, rfl⟩ trivial
  exact hX _ r Q hFr hK _ _ ⟨U, ob, _, h6, hU⟩
end
end Go.Proofs.YtofajgidjkjnpaaDoor
