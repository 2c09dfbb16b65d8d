/- The ghost machine: an evaluator of the program's text over plain data, and its soundness. -/
import Derived.Test.YtajpblfinenmjaaGreatDoorHndConcreteWritesA
import Derived.Test.YtajpblfinenmjaaGreatDoorFnsConcreteWritesA
import Derived.Deep.RegionHeld3
import Derived.WalkKit
import Derived.Defers
import Derived.Recover
set_option linter.unusedVariables false
set_option linter.unusedSimpArgs false
namespace Go.Proofs.YtajpblfinenmjaaGreatDoor
open Go Go.RowKit
set_option linter.unusedVariables false
set_option maxRecDepth 100000
attribute [local go_sem] Oper.semAt_some
def wTab (q : Nat) : List Value := [.nilFunc, .func (.func 82) #[] #[], .func (.func 85) #[] #[.pointer (some ⟨q, 0, none⟩)], .func (.func 86) #[] #[], .func (.func 87) #[] #[], .func (.func 83) #[] #[], .func (.func 83) #[] #[], .func (.func 88) #[] #[], .func (.func 89) #[] #[], .func (.func 83) #[] #[], .func (.func 82) #[] #[]]
theorem zwfm {P : Program} {w : World} {a : Addr} {m : Mode} (f : FuncId) (t c : Array Value) : (store a (.func (.func f) t c) m).run P w = stored P w a (.func (.func f) t c) m := run_store P w a _ m rfl
theorem zwfn {P : Program} {w : World} {a : Addr} {m : Mode} : (store a .nilFunc m).run P w = stored P w a .nilFunc m := run_store P w a _ m rfl
attribute [local go_sem] zwfm zwfn
set_option maxHeartbeats 4000000 in
theorem zw92 (w : World) : Calls Tryz.prog 57 #[] w fun e w' => e = .returned (.agg (wTab (w.heap.size + 1)).toArray) ∧ Kept (fun _ => False) w w' ∧ w'.heap[w.heap.size + 1]? = some (.cells #[.func (.func 82) #[] #[]] 62 (0, 0)) := by
  have hb : ∀ l : List Value, ((w.alloc (.cells l.toArray 75)).alloc (.cells #[.func (.func 82) #[] #[]] 62)).heap[w.heap.size]? = some (.cells l.toArray 75 (0, 0)) := fun l => (Below.heap_alloc _ _ _ (by simp)).trans (World.alloc_heap_new w _)
  have hq : ∀ l : List Value, ((w.alloc (.cells l.toArray 75)).alloc (.cells #[.func (.func 82) #[] #[]] 62)).heap[w.heap.size + 1]? = some (.cells #[.func (.func 82) #[] #[]] 62 (0, 0)) := fun l => by
    have := World.alloc_heap_new (w.alloc (.cells l.toArray 75)) (.cells #[.func (.func 82) #[] #[]] 62); rwa [World.size_alloc] at this
  go_enter Tryz.func57, Tryz.ntmps57
  go_wp2
  refine ⟨rfl, .agg (wTab (w.heap.size + 1)).toArray, results_cell_row (P := Tryz.prog) (fn := Tryz.f57) rfl _ _ w.heap.size 75 (wTab (w.heap.size + 1)).toArray (0, 0) (.array 11 62) rfl (hb (wTab (w.heap.size + 1))) (by kernel_rfl) rfl (by kernel_rfl), rfl, (Kept.alloc _ _).trans (Kept.alloc _ _) (fun _ h => h.elim), hq _⟩
end Go.Proofs.YtajpblfinenmjaaGreatDoor

namespace Go.Proofs.YtajpblfinenmjaaGreatDoor
open Go Go.RowKit
set_option linter.unusedVariables false
set_option maxRecDepth 100000
attribute [local go_sem] Oper.semAt_some
def OwnB (w : World) (v : Value) (l : List UInt8) : Prop := ∃ uss, All2 (DR w (fun _ => False) .u8) l uss ∧ w.ownsRow 0 5 1 v l.length uss.flatten
theorem OwnB.form {w : World} {v : Value} {l : List UInt8} (h : OwnB w v l) : ∃ A c, v = .slice A l.length c := by
  obtain ⟨uss, _, h2⟩ := h
  rcases h2.2 with ⟨rfl, hz⟩ | ⟨b, c, _, rfl, _⟩
  · exact ⟨none, 0, by rw [hz]⟩
  · exact ⟨_, c, rfl⟩
theorem kN {a b c : World} (h : Kept (fun _ => False) a b) (k : Kept (fun _ => False) b c) : Kept (fun _ => False) a c := h.trans k fun _ h => h.elim
set_option maxHeartbeats 4000000 in
theorem zw93 {w : World} {o v : Int} {A : Option Addr} {k c : Nat} {out : List UInt8} (hout : out.length ≤ 8192) {g : FuncId} {caps : Nat → Array Value}
    (hi : ∀ (q : Nat) (W : World), (Instr.index 75 (.agg (wTab q).toArray) (.int .i64 o)).run Tryz.prog W = .ok (.func (.func g) #[] (caps q)) W) (hen : ∀ (vs : Array Value) (W : World), (callFunc g vs).run Tryz.prog W = .ok (.enter g vs) W)
    (hcall : ∀ (W : World) (r q : Nat), Kept (fun _ => False) w W → w.heap.size ≤ r → w.heap.size ≤ q → r ≠ q → W.heap[r]? = some (.cells #[.int .u8 (IntKind.u8.wrap o)] 5 (0, 0)) → W.heap[q]? = some (.cells #[.func (.func 82) #[] #[]] 62 (0, 0)) →
      Calls Tryz.prog g (#[.slice (some ⟨r, 0, none⟩) 1 1, .agg #[.int .i64 o, .int .i64 v, .slice A k c]] ++ caps q) W fun e W' => ∃ u, e = .returned u ∧ Kept (fun b => b = r) W W' ∧ OwnB W' u out ∧ ∀ b, blk u = some b → b = r ∨ W.heap.size ≤ b) :
    Calls Tryz.prog 37 #[.agg #[.int .i64 o, .int .i64 v, .slice A k c]] w fun e w' => ∃ u, e = .returned u ∧ Kept (fun _ => False) w w' ∧ OwnB w' u out ∧ ∀ b, blk u = some b → w.heap.size ≤ b := by
  have mixed := zw8w
  go_enter Tryz.func37, Tryz.ntmps37
  go_wp2
  obtain ⟨W1, hW1⟩ : ∃ W1, W1 = w.alloc (.cells #[.int .i64 o, .int .i64 v, .slice A k c] 24) := ⟨_, rfl⟩
  have hs1 : W1.heap.size = w.heap.size + 1 := by rw [hW1]; simp
  have hk1 : Kept (fun _ => False) w W1 := by rw [hW1]; exact Kept.alloc _ _
  have hn1 : W1.heap[w.heap.size]? = some (.cells #[.int .i64 o, .int .i64 v, .slice A k c] 24 (0, 0)) := by rw [hW1]; exact World.alloc_heap_new w _
  have c0 : W1.cell? ⟨w.heap.size, 0, none⟩ = some (.int .i64 o) := zwg hn1 rfl
  have c1 : W1.cell? ⟨w.heap.size, 1, none⟩ = some (.int .i64 v) := zwg hn1 rfl
  have c2 : W1.cell? ⟨w.heap.size, 2, none⟩ = some (.slice A k c) := zwg hn1 rfl
  rw [← hW1]
  clear hW1 hn1
  have n0 := World.new_ne W1 _ c0
  have n1 := World.new_ne W1 _ c1
  have n2 := World.new_ne W1 _ c2
  go_region_held3 (fun w' => w'.cell? ⟨w.heap.size, 0, none⟩ = some (.int .i64 o) ∧ w'.cell? ⟨w.heap.size, 1, none⟩ = some (.int .i64 v) ∧ w'.cell? ⟨w.heap.size, 2, none⟩ = some (.slice A k c)) (go_keep) (first
    | (go_at_call 57; refine (zw92 _).mono ?_; rintro e w' ⟨rfl, hk, hq⟩; have d0 : w'.cell? ⟨w.heap.size, 0, none⟩ = some (.int .i64 o) := (by first | exact zwf (fun k hk' => hk.block k hk' (fun h => h)) c0 | exact zwf (fun k hk' => hk.block k hk' (fun h => h)) (zw1y _ c0)); have d1 : w'.cell? ⟨w.heap.size, 1, none⟩ = some (.int .i64 v) := (by first | exact zwf (fun k hk' => hk.block k hk' (fun h => h)) c1 | exact zwf (fun k hk' => hk.block k hk' (fun h => h)) (zw1y _ c1)); have d2 : w'.cell? ⟨w.heap.size, 2, none⟩ = some (.slice A k c) := (by first | exact zwf (fun k hk' => hk.block k hk' (fun h => h)) c2 | exact zwf (fun k hk' => hk.block k hk' (fun h => h)) (zw1y _ c2)))
    | (have hKW0 : Kept (fun _ => False) W1 w' := kN (Kept.drew _) hk
       have hKW1 : Kept (fun _ => False) W1 (w'.alloc (.cells #[.int .u8 (IntKind.u8.wrap o)] 5)) := kN hKW0 (Kept.alloc _ _)
       have hq' : w'.heap[w.heap.size + 1 + 1]? = some (.cells #[.func (.func 82) #[] #[]] 62 (0, 0)) := by rw [← hs1]; exact hq
       have hql := (Array.getElem?_eq_some_iff.1 hq').1
       have hr0 := hKW0.size
       refine (hcall _ _ _ (kN hk1 hKW1) (by omega) (by omega) (fun e => by omega) (World.alloc_heap_new _ _) ((Below.heap_alloc _ _ _ hql).trans hq')).mono ?_
       rintro e w2 ⟨u, rfl, hku, hou, hbu⟩
       have hK2 : Kept (fun _ => False) W1 w2 := hKW1.trans hku (fun b hb => .inr (by rw [hb]; exact hr0))
       have hb2 : ∀ b, blk u = some b → w.heap.size ≤ b := fun b hb => by
         have h1 := hKW1.size
         rcases hbu b hb with h | h
         · rw [h]; omega
         · omega
       obtain ⟨A', c', rfl⟩ := hou.form
       have d0 : w2.cell? ⟨w.heap.size, 0, none⟩ = some (.int .i64 o) := zwf (fun k hk' => hK2.block k hk' (fun h => h)) c0; have d1 : w2.cell? ⟨w.heap.size, 1, none⟩ = some (.int .i64 v) := zwf (fun k hk' => hK2.block k hk' (fun h => h)) c1; have d2 : w2.cell? ⟨w.heap.size, 2, none⟩ = some (.slice A k c) := zwf (fun k hk' => hK2.block k hk' (fun h => h)) c2)
    | (have hKW1 : Kept (fun _ => False) W1 w' := kN (kN (Kept.drew _) (Kept.alloc _ _)) hk
       have hq' : w'.heap[w.heap.size + 1 + 1 + 1]? = some (.cells #[.func (.func 82) #[] #[]] 62 (0, 0)) := by
         have h2 := hq
         rw [show ((W1.alloc (.cells #[.int .u8 (IntKind.u8.wrap o)] 5)).drew).heap.size = w.heap.size + 1 + 1 from (World.size_alloc ..).trans (by rw [hs1])] at h2
         exact h2
       have hr' : w'.heap[w.heap.size + 1]? = some (.cells #[.int .u8 (IntKind.u8.wrap o)] 5 (0, 0)) := by
         rw [← hs1]; exact (hk.block _ (by simp) (fun h => h)).trans (World.alloc_heap_new _ _)
       refine (hcall _ _ _ (kN hk1 hKW1) (by omega) (by omega) (fun e => by omega) hr' hq').mono ?_
       rintro e w2 ⟨u, rfl, hku, hou, hbu⟩
       have hK2 : Kept (fun _ => False) W1 w2 := hKW1.trans hku (fun b hb => .inr (by rw [hb, hs1]; exact Nat.le_refl _))
       have hb2 : ∀ b, blk u = some b → w.heap.size ≤ b := fun b hb => by
         have h1 := hKW1.size
         rcases hbu b hb with h | h
         · rw [h]; omega
         · omega
       obtain ⟨A', c', rfl⟩ := hou.form
       have d0 : w2.cell? ⟨w.heap.size, 0, none⟩ = some (.int .i64 o) := zwf (fun k hk' => hK2.block k hk' (fun h => h)) c0; have d1 : w2.cell? ⟨w.heap.size, 1, none⟩ = some (.int .i64 v) := zwf (fun k hk' => hK2.block k hk' (fun h => h)) c1; have d2 : w2.cell? ⟨w.heap.size, 2, none⟩ = some (.slice A k c) := zwf (fun k hk' => hK2.block k hk' (fun h => h)) c2))
  all_goals
    have h8 : ¬ ((out.length : Nat) : Int) > 8192 := by omega
    have hkf := kN hk1 hK2
    clear hi hen hcall
    go_wp2
  all_goals
    go_ret
    exact ⟨_, rfl, hkf, hou, hb2⟩
end Go.Proofs.YtajpblfinenmjaaGreatDoor

namespace Go.Proofs.YtajpblfinenmjaaGreatDoor
open Go Go.RowKit
set_option linter.unusedVariables false
set_option maxRecDepth 100000
attribute [local go_sem] Oper.semAt_some
theorem zwfo (p : Addr) (w : World) :
    CallsD Tryz.prog 56 #[.pointer (some p)] .returning w fun e u' w' => e = .returned (.tuple #[]) ∧ u' = .returning ∧ w' = w := by
  refine callsD_of_wpS Tryz.func56 rfl fun c₀ cs hu => ?_
  apply wpS_seq
  apply wpS_region
  simp [wpOpsS, go_sem, recoverD, hu, Tryz.ntmps56, Exit.thenS]
  apply wpS_seq
  apply wpS_region
  simp [wpOpsS, go_sem, Exit.thenS]
  refine wpS_cond (t := false) (by simp [Act.eval, Array.replicate]) ?_
  simp only [Bool.false_eq_true, if_false]
  refine wpS_of_wp (wp_skip ?_)
  cases c₀
  simp_all [bodyPostS, results]
set_option maxHeartbeats 4000000 in
theorem zwfp {w : World} {g : FuncId} {caps : Array Value} {Q : World → Prop} (hen : ∀ (W : World), (callFunc g caps).run Tryz.prog W = .ok (.enter g caps) W)
    (hcall : Calls Tryz.prog g caps (w.alloc (.cells #[.int .i64 0] 31)) fun e w' => e = .returned (.tuple #[]) ∧ Q w' ∧ w'.heap[w.heap.size]? = some (.cells #[.int .i64 0] 31 (0, 0))) :
    Calls Tryz.prog 35 #[.func (.func g) #[] caps] w fun e w' => e = .returned (.int .i64 0) ∧ ∃ w1, Q w1 ∧ w' = w1.setCell ⟨w.heap.size, 0, none⟩ (.int .i64 0) := by
  have hmf : ∀ (fn : Fn) (first cap : Array Value) (w : World), (Instr.makeFunc fn first cap).run Tryz.prog w = .ok (.func fn first cap) w := fun _ _ _ _ => rfl
  go_enter_defers Tryz.func35, Tryz.ntmps35
  go_wp2
  refine hcall.mono ?_
  rintro e w1 ⟨rfl, hQ, hX⟩
  obtain ⟨hc, hf⟩ := zw2v hX
  have hc2 : (w1.setCell ⟨w.heap.size, 0, none⟩ (.int .i64 0)).cell? ⟨w.heap.size, 0, none⟩ = some (.int .i64 0) := World.cell?_setCell_same' _ _ _ (by rw [hc]; rfl)
  go_wp2
  refine leaves_cons (f := 56) (args := #[.pointer (some ⟨w.heap.size, 0, none⟩)]) (by simp) (by simp [go_sem]) ?_
  refine (zwfo ⟨w.heap.size, 0, none⟩ _).mono ?_
  rintro e u' w'' ⟨rfl, rfl, rfl⟩
  simp [Leaves, settle, results, go_sem, hc2]
  exact ⟨w1, hQ, rfl⟩
theorem zw94 {w w' : World} (h : Kept (fun _ => False) w w') : Below w.heap.size w w' := ⟨h.os, h.tape, h.output, h.size, fun k hk => h.block k hk (fun h => h)⟩
theorem OwnB.keep {w w' : World} {u : Value} {l : List UInt8} (h : OwnB w u l) (hb : ∀ b, blk u = some b → w'.heap[b]? = w.heap[b]?) : OwnB w' u l := by
  obtain ⟨uss, h1, h2, h3⟩ := h
  refine ⟨uss, h1, h2, ?_⟩
  rcases h3 with h3 | ⟨g, cp, cur, e, q1, q2, q3⟩
  · exact .inl h3
  · subst e
    exact .inr ⟨g, cp, cur, rfl, q1, (hb g rfl).trans q2, q3⟩
def WOut (out : List UInt8) (w : World) (e : Ending) (w' : World) : Prop := ∃ u, e = .returned u ∧ Kept (fun _ => False) w w' ∧ OwnB w' u out ∧ ∀ b, blk u = some b → w.heap.size ≤ b
set_option maxHeartbeats 4000000 in
theorem zwfq {W : World} {bt bb : Nat} {o v : Int} {A : Option Addr} {k c : Nat} {out : List UInt8} (ht : W.heap[bt]? = some (.cells #[.int .i64 o, .int .i64 v, .slice A k c] 24 (0, 0))) (hb : W.heap[bb]? = some (.cells #[.slice none 0 0] 25 (0, 0)))
    (hw : Calls Tryz.prog 37 #[.agg #[.int .i64 o, .int .i64 v, .slice A k c]] W (WOut out W)) :
    Calls Tryz.prog 36 #[.pointer (some ⟨bt, 0, none⟩), .pointer (some ⟨bb, 0, none⟩)] W fun e w' => e = .returned (.tuple #[]) ∧ ∃ w1 u, Kept (fun _ => False) W w1 ∧ OwnB w1 u out ∧ (∀ b, blk u = some b → W.heap.size ≤ b) ∧ w' = w1.setCell ⟨bb, 0, none⟩ u := by
  have c0 : W.cell? ⟨bt, 0, none⟩ = some (.int .i64 o) := zwg ht rfl
  have c1 : W.cell? ⟨bt, 1, none⟩ = some (.int .i64 v) := zwg ht rfl
  have c2 : W.cell? ⟨bt, 2, none⟩ = some (.slice A k c) := zwg ht rfl
  go_enter Tryz.func36, Tryz.ntmps36
  go_wp2_with (go_at_call 37; refine hw.mono ?_; rintro e w1 ⟨u, rfl, hk, hou, hfr⟩; have hb1 : w1.heap[bb]? = some (.cells #[.slice none 0 0] 25 (0, 0)) := (hk.block _ (Array.getElem?_eq_some_iff.1 hb).1 (fun h => h)).trans hb; obtain ⟨e1, e2⟩ := zw2v hb1; obtain ⟨A', c', rfl⟩ := hou.form)
  go_end0
  exact ⟨rfl, w1, _, hk, hou, hfr, rfl⟩
set_option maxHeartbeats 4000000 in
theorem zw95 {N : Nat} {w : World} {Z : Nat → Prop} (hgl : GlCt w Z) (hZ : ∀ b, Z b → b < w.heap.size) {T : Tree} {cs : List Value} (ht : TR w Z T cs) {b : Bool} (hV : zq97 N T.un = some ((b, ()), ())) {out : List UInt8}
    (hw : b = true → ∀ W, Kept (fun _ => False) w W → Calls Tryz.prog 37 #[.agg cs.toArray] W (WOut out W)) :
    Calls Tryz.prog 10 #[.agg cs.toArray] w fun e w' => Kept (fun _ => False) w w' ∧ ((b = false ∧ e = .returned (.tuple #[.slice none 0 0, .int .i64 26])) ∨ (b = true ∧ ∃ u, e = .returned (.tuple #[u, .int .i64 0]) ∧ OwnB w' u out ∧ ∀ b, blk u = some b → w.heap.size ≤ b)) := by
  have hmf : ∀ (fn : Fn) (first cap : Array Value) (w : World), (Instr.makeFunc fn first cap).run Tryz.prog w = .ok (.func fn first cap) w := fun _ _ _ _ => rfl
  obtain ⟨o, v, A, k, c, rfl⟩ := ht.form
  obtain ⟨W1, hW1⟩ : ∃ W1, W1 = w.alloc (.cells #[.int .i64 o, .int .i64 v, .slice A k c] 24) := ⟨_, rfl⟩
  have hs1 : W1.heap.size = w.heap.size + 1 := by rw [hW1]; simp
  have hk1 : Kept (fun _ => False) w W1 := by rw [hW1]; exact Kept.alloc _ _
  have hn1 : W1.heap[w.heap.size]? = some (.cells #[.int .i64 o, .int .i64 v, .slice A k c] 24 (0, 0)) := by rw [hW1]; exact World.alloc_heap_new w _
  have hval := callsIn_wide.1 (zw5n 5 (by omega) (hgl.keep hk1) (fun b h => Nat.lt_of_lt_of_le (hZ b h) hk1.size) (ht.keep hk1) hV)
  rw [hW1] at hval
  cases b with
  | false =>
    go_enter Tryz.func10, Tryz.ntmps10
    go_wp2_with (go_at_call 34; refine hval.mono ?_; rintro e W2 ⟨rfl, hk2⟩)
    rw [← hW1] at hk2
    go_ret2
    exact ⟨kN hk1 hk2, .inl ⟨trivial, rfl⟩⟩
  | true =>
    replace hw := hw rfl
    go_enter Tryz.func10, Tryz.ntmps10
    go_wp2_with (go_at_call 34; refine hval.mono ?_; rintro e W2 ⟨rfl, hk2⟩)
    rw [← hW1] at hk2
    have hK2 := kN hk1 hk2
    obtain ⟨W3, hW3⟩ : ∃ W3, W3 = W2.alloc (.cells #[.slice none 0 0] 25) := ⟨_, rfl⟩
    have hs3 : W3.heap.size = W2.heap.size + 1 := by rw [hW3]; simp
    have hK3 : Kept (fun _ => False) w W3 := by rw [hW3]; exact kN hK2 (Kept.alloc _ _)
    have hn3 : W3.heap[W2.heap.size]? = some (.cells #[.slice none 0 0] 25 (0, 0)) := by rw [hW3]; exact World.alloc_heap_new W2 _
    have hz2 := hK2.size
    have hz2' := hk2.size
    have ht3 : W3.heap[w.heap.size]? = some (.cells #[.int .i64 o, .int .i64 v, .slice A k c] 24 (0, 0)) := by
      rw [hW3]; exact (Below.heap_alloc _ _ _ (by omega)).trans ((hk2.block _ (by omega) (fun h => h)).trans hn1)
    rw [← hW3]
    clear hW3 hval
    obtain ⟨W4, hW4⟩ : ∃ W4, W4 = W3.alloc (.cells #[.int .i64 0] 31) := ⟨_, rfl⟩
    have hs4 : W4.heap.size = W3.heap.size + 1 := by rw [hW4]; simp
    have hk4 : Kept (fun _ => False) W3 W4 := by rw [hW4]; exact Kept.alloc _ _
    have hn4 : W4.heap[W3.heap.size]? = some (.cells #[.int .i64 0] 31 (0, 0)) := by rw [hW4]; exact World.alloc_heap_new W3 _
    have ht4 := (hk4.block _ (by omega) (fun h => h)).trans ht3
    have hb4 := (hk4.block _ (by omega) (fun h => h)).trans hn3
    have hcl := zwfq ht4 hb4 (hw W4 (kN hK3 hk4))
    have hca := zwfp (w := W3) (g := 36) (caps := #[.pointer (some ⟨w.heap.size, 0, none⟩), .pointer (some ⟨W2.heap.size, 0, none⟩)]) (Q := fun w' => ∃ w1 u, Kept (fun _ => False) W4 w1 ∧ OwnB w1 u out ∧ (∀ b, blk u = some b → W4.heap.size ≤ b) ∧ w' = w1.setCell ⟨W2.heap.size, 0, none⟩ u) (fun W => by kernel_rfl) (by
      rw [← hW4]
      refine hcl.mono ?_
      rintro e w' ⟨rfl, w1, u, q1, q2, q3, rfl⟩
      refine ⟨rfl, ⟨w1, u, q1, q2, q3, rfl⟩, ?_⟩
      exact (Below.heap_setCell _ ⟨W2.heap.size, 0, none⟩ _ _ (by show W3.heap.size ≠ W2.heap.size; omega)).trans ((q1.block _ (by omega) (fun h => h)).trans hn4))
    clear hcl
    refine hca.mono ?_
    rintro e w' ⟨rfl, w2, ⟨w1, u, q1, q2, q3, rfl⟩, rfl⟩
    have hb1 : w1.heap[W2.heap.size]? = some (.cells #[.slice none 0 0] 25 (0, 0)) := (q1.block _ (by omega) (fun h => h)).trans hb4
    have r1 : (w1.setCell ⟨W2.heap.size, 0, none⟩ u).cell? ⟨W2.heap.size, 0, none⟩ = some u := World.cell?_setCell_same' _ _ _ (by rw [(zw2v hb1).1]; rfl)
    have r2 : ((w1.setCell ⟨W2.heap.size, 0, none⟩ u).setCell ⟨W3.heap.size, 0, none⟩ (.int .i64 0)).heap[W2.heap.size]? = (w1.setCell ⟨W2.heap.size, 0, none⟩ u).heap[W2.heap.size]? := Below.heap_setCell _ ⟨W3.heap.size, 0, none⟩ _ _ (by show W2.heap.size ≠ W3.heap.size; omega)
    have r3 : ((w1.setCell ⟨W2.heap.size, 0, none⟩ u).setCell ⟨W3.heap.size, 0, none⟩ (.int .i64 0)).cell? ⟨W2.heap.size, 0, none⟩ = some u := (World.cell?_of_block r2).trans r1
    have hkf : Kept (fun _ => False) w ((w1.setCell ⟨W2.heap.size, 0, none⟩ u).setCell ⟨W3.heap.size, 0, none⟩ (.int .i64 0)) :=
      keptB (((zw94 (kN (kN hK3 hk4) q1)).setCell (p := ⟨W2.heap.size, 0, none⟩) (by show w.heap.size ≤ W2.heap.size; omega) _).setCell (p := ⟨W3.heap.size, 0, none⟩) (by show w.heap.size ≤ W3.heap.size; omega) _)
    have hou : OwnB ((w1.setCell ⟨W2.heap.size, 0, none⟩ u).setCell ⟨W3.heap.size, 0, none⟩ (.int .i64 0)) u out := q2.keep fun b hb => by
      have := q3 b hb
      exact (Below.heap_setCell _ ⟨W3.heap.size, 0, none⟩ _ _ (by show b ≠ W3.heap.size; omega)).trans (Below.heap_setCell _ ⟨W2.heap.size, 0, none⟩ _ _ (by show b ≠ W2.heap.size; omega))
    have hfr : ∀ b, blk u = some b → w.heap.size ≤ b := fun b hb => by have := q3 b hb; omega
    clear r1 r2
    obtain ⟨w5, hw5⟩ : ∃ w5, w5 = (w1.setCell ⟨W2.heap.size, 0, none⟩ u).setCell ⟨W3.heap.size, 0, none⟩ (.int .i64 0) := ⟨_, rfl⟩
    rw [← hw5] at r3 hkf hou
    rw [← hw5]
    clear hw5
    obtain ⟨A', c', rfl⟩ := q2.form
    go_wp2
    go_ret2
    exact ⟨hkf, .inr ⟨trivial, _, rfl, hou, hfr⟩⟩
end Go.Proofs.YtajpblfinenmjaaGreatDoor
