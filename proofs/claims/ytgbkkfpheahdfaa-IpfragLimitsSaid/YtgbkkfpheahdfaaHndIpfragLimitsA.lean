/- The ghost machine: an evaluator of the program's text over plain data, and its soundness. -/
import Derived.Test.YtgbkkfpheahdfaaGmRf
import Derived.Test.YtgbkkfpheahdfaaFnsIpfragLimitsA
import Derived.WalkKit
import Derived.KernelRfl
import Derived.Shelf.Spec.SlicesInsert
import Derived.Lib.AppendZerosOnto
import Derived.Laws.NewBlocks
import Derived.Laws.AppendOwn
import Derived.Deep.RegionLaw
import Derived.Test.YtgbkkfpheahdfaaGmLoop
import Derived.Deep.LoopGhost
set_option linter.unusedVariables false
set_option linter.unusedSimpArgs false
namespace Go.Proofs.Ytgbkkfpheahdfaa
open Go
open Go.RowKit
section
variable {P : Program} {fn : FuncId} {c : Ctr} {w : World} {Z M : Nat → Prop} {ob : Nat → Value}
/-- A call, with its arguments and the objects that it is given. -/
theorem ctr_call (h : Ctr.ok P [] fn c) (hnp : c.np ≤ c.ps.os.length) {args : List Value} {x : c.ps.den} {y : c.rs.den} (hlen : args.length = c.ps.ks.length) (hZ : ∀ b, Z b → b < w.heap.size)
    (ha : All2 (VR w Z ob) (stKs id c.ps.ks x.1) args) (hid : ∀ g ∈ stKs id c.ps.ks x.1, g.ids fun k => k < c.ps.os.length)
    (hob : ∀ i o, (stOs id c.ps.os x.2)[i]? = some o → OR w Z ob i o ∧ (o.ids fun k => k < c.ps.os.length) ∧ ∀ b, blk (ob i) = some b → ¬ Z b ∧ M b)
    (hap : ∀ i j, i < j → j < c.ps.os.length → ∀ b, blk (ob i) = some b → blk (ob j) ≠ some b) (hF : c.F x = some y) :
    Calls P fn args.toArray w fun e w' => ∃ vs ob' Z', e = .returned (tupV vs) ∧ vs.length = c.rs.ks.length ∧
      RepAt ⟨w, M, Z, (List.range c.np).map (fun k => (k, ob k)), []⟩ vs.length (fun k => k < c.rs.os.length) ob' Z' (c.rs.st (List.range c.rs.ks.length) y) ⟨vs.toArray, []⟩ w' := by
  have hlo : ∀ i o, look i (number 0 (stOs id c.ps.os x.2)) = some o → (stOs id c.ps.os x.2)[i]? = some o := fun i o hl => by
    have := look_number hl
    simpa using this
  have hls : ∀ i o, (stOs id c.ps.os x.2)[i]? = some o → i < c.ps.os.length := fun i o hl => by
    have := (List.getElem?_eq_some_iff.1 hl).1
    rw [(stOs_len id).2] at this
    exact this
  refine h.call ⟨w, M, Z, (List.range c.np).map (fun k => (k, ob k)), []⟩ ob Z args x y rfl rfl hlen ?_ hF
  exact {
    defers := rfl
    size := by simp
    kept := Kept.refl _ _
    zlt := hZ
    z0 := fun b hb _ => .inl hb
    slots := by
      intro n g hl
      obtain ⟨i, h1, h2⟩ := look_zip hl
      have e : i = n := by
        obtain ⟨hi, e⟩ := List.getElem?_eq_some_iff.1 h1
        simpa using e
      subst e
      obtain ⟨v, h3, h4⟩ := ha.get i g h2
      have hi := (List.getElem?_eq_some_iff.1 h3).1
      refine ⟨hi, ?_, hid g (List.mem_of_getElem? h2)⟩
      have : (args.toArray).getD i undef = v := by simp [h3]
      show VR w Z ob g (args.toArray.getD i undef)
      rw [this]; exact h4
    objs := fun i o hl => ⟨hls i o (hlo i o hl), (hob i o (hlo i o hl)).1, (hob i o (hlo i o hl)).2.1⟩
    own := fun i o hl _ b hb => ⟨((hob i o (hlo i o hl)).2.2 b hb).1, .inl ((hob i o (hlo i o hl)).2.2 b hb).2⟩
    apart := by
      intro i j o o' hij hl hl' _ _ b hb hb'
      have h1 := hls i o (hlo i o hl)
      have h2 := hls j o' (hlo j o' hl')
      rcases Nat.lt_or_gt_of_ne hij with hlt | hgt
      · exact hap i j hlt h2 b hb hb'
      · exact hap j i hgt h1 b hb' hb
    globs := fun g d hl => by simp [look] at hl
    pins := by
      intro p hp
      obtain ⟨k, hk, rfl⟩ := List.mem_map.1 hp
      have := List.mem_range.1 hk
      exact ⟨rfl, by show k < c.ps.os.length; omega⟩ }
end
/-- A question about two pieces. -/
theorem two_calls {fn : FuncId} {F : (Spec.mk [.val T97, .val T97] []).den → Option ((Spec.mk [.val .bool] []).un [false]).den} (h : Ctr.ok Try.prog [] fn ⟨⟨[.val T97, .val T97], []⟩, (Spec.mk [.val .bool] []).un [false], 0, F⟩) {w : World} {Z : Nat → Prop} (hZ : ∀ b, Z b → b < w.heap.size)
    {p q : T97.den} {ps qs : List Value} (hp : DR w Z T97 p ps) (hq : DR w Z T97 q qs) {r : Bool} (hF : F ((p, q, ()), ()) = some ((r, ()), ())) :
    Calls Try.prog fn #[.agg ps.toArray, .agg qs.toArray] w fun e w' => e = .returned (.bool r) ∧ Kept (fun _ => False) w w' := by
  refine (ctr_call (M := fun _ => False) (ob := fun _ => undef) h (Nat.le_refl _) (args := [.agg ps.toArray, .agg qs.toArray]) (x := ((p, q, ()), ())) rfl hZ ⟨⟨ps, hp, rfl⟩, ⟨qs, hq, rfl⟩, trivial⟩ (fun g hg => ?_) (fun i o hl => by simp [stOs] at hl) (fun i j h1 h2 => absurd h2 (Nat.not_lt_zero _)) hF).mono ?_
  · simp only [stKs, List.mem_cons, List.not_mem_nil, or_false] at hg
    rcases hg with rfl | rfl <;> trivial
  · rintro e w' ⟨vs, ob', Z', rfl, hl, hr⟩
    match vs, hl with
    | [v], _ =>
    have h0 := (hr.slots 0 (.sv (.data .bool r)) rfl).2.1
    have h1 : v = .bool r := SR.bool (ob := ob') h0
    exact ⟨by rw [h1]; rfl, hr.kept⟩
end Go.Proofs.Ytgbkkfpheahdfaa

namespace Go.Proofs.Ytgbkkfpheahdfaa
open Go
open Go.RowKit
theorem len10 : ∀ {l : List Value}, l.length = 10 → ∃ a b c d e f g h i j, l = [a, b, c, d, e, f, g, h, i, j]
  | [a, b, c, d, e, f, g, h, i, j], _ => ⟨a, b, c, d, e, f, g, h, i, j, rfl⟩
theorem len9 : ∀ {l : List Value}, l.length = 9 → ∃ a b c d e f g h i, l = [a, b, c, d, e, f, g, h, i]
  | [a, b, c, d, e, f, g, h, i], _ => ⟨a, b, c, d, e, f, g, h, i, rfl⟩
theorem blk_cell {w : World} {g : Nat} {cs : Array Value} {e : Nat} (h : w.heap[g]? = some (.cells cs e (0, 0))) (o : Obj) (j : Nat) : (w.alloc o).cell? ⟨g, j, none⟩ = cs[j]? := by
  rw [cell_of_row (w.alloc o) g j cs e (0, 0) (by rw [Go.heap_alloc_old w o (Array.getElem?_eq_some_iff.1 h).1]; exact h)]
set_option maxRecDepth 100000 in
set_option maxHeartbeats 1000000 in
/-- The question that a closure asks about a piece of the table. -/
theorem ask_calls {f : FuncId} {w : World} {b3 g0 : Nat} {qs ps : List Value} (hq : qs.length = 10) (hp : ps.length = 10) (hb3 : w.heap[b3]? = some (.cells #[.func (.func f) #[] #[]] 111 (0, 0))) (hb0 : w.heap[g0]? = some (.cells ps.toArray 98 (0, 0))) {r : Bool}
    (hcf : ∀ args W, (callFunc f args).run Try.prog W = .ok (.enter f args) W) (hc : ∀ W, Kept (fun _ => False) w W → Calls Try.prog f #[.agg ps.toArray, .agg qs.toArray] W fun e w' => e = .returned (.bool r) ∧ Kept (fun _ => False) W w') :
    Calls Try.prog 129 #[.agg qs.toArray, .pointer (some ⟨b3, 0, none⟩), .pointer (some ⟨g0, 0, none⟩)] w fun e w' => e = .returned (.bool r) ∧ Kept (fun _ => False) w w' := by
  obtain ⟨q0, q1, q2, q3, q4, q5, q6, q7, q8, q9, rfl⟩ := len10 hq
  obtain ⟨p0, p1, p2, p3, p4, p5, p6, p7, p8, p9, rfl⟩ := len10 hp
  have e3 := fun o => blk_cell hb3 o 0
  have c0 := fun o => blk_cell hb0 o 0
  have c1 := fun o => blk_cell hb0 o 1
  have c2 := fun o => blk_cell hb0 o 2
  have c3 := fun o => blk_cell hb0 o 3
  have c4 := fun o => blk_cell hb0 o 4
  have c5 := fun o => blk_cell hb0 o 5
  have c6 := fun o => blk_cell hb0 o 6
  have c7 := fun o => blk_cell hb0 o 7
  have c8 := fun o => blk_cell hb0 o 8
  have c9 := fun o => blk_cell hb0 o 9
  clear hb3 hb0 hq hp
  simp only [List.getElem?_toArray, List.getElem?_cons_zero, List.getElem?_cons_succ] at e3 c0 c1 c2 c3 c4 c5 c6 c7 c8 c9
  have hc' := hc (w.alloc (.cells #[q0, q1, q2, q3, q4, q5, q6, q7, q8, q9] 98)) (Kept.alloc _ _)
  clear hc
  go_enter Try.func129, Try.ntmps129
  go_wp2_with fail
  refine hc'.mono ?_
  rintro e W ⟨rfl, hk⟩
  go_wp2
  exact ⟨rfl, _, results_tmp rfl _ _ _, rfl, (Kept.alloc _ _).trans hk fun _ h => h.elim⟩
end Go.Proofs.Ytgbkkfpheahdfaa

namespace Go.Proofs.Ytgbkkfpheahdfaa
open Go
open Go.RowKit
theorem any_lt {n k : Nat} {r : Nat → Bool} (hk : k < n) (h : r k = true) : (List.range n).any r = true := List.any_eq_true.2 ⟨k, List.mem_range.2 hk, h⟩
theorem any_none {n : Nat} {r : Nat → Bool} (h : ∀ q, q < n → r q = false) : (List.range n).any r = false := by
  rw [List.any_eq_false]
  intro q hq
  rw [h q (List.mem_range.1 hq)]; decide
set_option maxRecDepth 100000 in
set_option maxHeartbeats 1000000 in
/-- slices.IndexFunc over pieces, with the closure that asks. -/
theorem index_calls {w : World} {g o n c b3 g0 : Nat} {css : List (List Value)} {A : Option Addr} (hA : 0 < n → A = some ⟨g, o, none⟩) (hn : n ≤ 9223372036854775807) (hl : ∀ k, k < n → (css.getD k []).length = 10)
    (hcell : ∀ W, Kept (fun _ => False) w W → ∀ k, k < n → ∀ j u, (css.getD k [])[j]? = some u → W.cell? ⟨g, o + k * 10 + j, none⟩ = some u) {r : Nat → Bool}
    (hc : ∀ k, k < n → ∀ W, Kept (fun _ => False) w W → Calls Try.prog 129 #[.agg (css.getD k []).toArray, .pointer (some ⟨b3, 0, none⟩), .pointer (some ⟨g0, 0, none⟩)] W fun e w' => e = .returned (.bool (r k)) ∧ Kept (fun _ => False) W w') :
    Calls Try.prog 158 #[.slice A n c, .func (.func 129) #[] #[.pointer (some ⟨b3, 0, none⟩), .pointer (some ⟨g0, 0, none⟩)]] w fun e w' => ∃ i : Int, e = .returned (.int .i64 i) ∧ decide (0 ≤ i) = (List.range n).any r ∧ Kept (fun _ => False) w w' := by
  go_enter Try.func158, Try.ntmps158
  go_wp2_with fail
  go_loopw [8] (fun i wr => ∃ k : Nat, k ≤ n ∧ i = .int .i64 k ∧ Kept (fun _ => False) w wr ∧ ∀ q, q < k → r q = false) (fun i _ => n - (intOf i).toNat)
  case atStart => exact ⟨0, by omega, rfl, Kept.refl _ _, fun q hq => by omega⟩
  case round =>
    obtain ⟨k, hk, rfl, hkp, hno⟩ := hrel
    by_cases h1 : k < n
    · obtain rfl := hA (by omega)
      clear hA
      obtain ⟨q0, q1, q2, q3, q4, q5, q6, q7, q8, q9, hq⟩ := len10 (hl k h1)
      have hcell := hcell wr hkp k h1
      have hc := hc k h1 wr hkp
      rw [hq] at hcell hc
      have c0 : wr.cell? ⟨g, o + k * 10, none⟩ = some q0 := hcell 0 q0 rfl
      have c1 := hcell 1 q1 rfl
      have c2 := hcell 2 q2 rfl
      have c3 := hcell 3 q3 rfl
      have c4 := hcell 4 q4 rfl
      have c5 := hcell 5 q5 rfl
      have c6 := hcell 6 q6 rfl
      have c7 := hcell 7 q7 rfl
      have c8 := hcell 8 q8 rfl
      have c9 := hcell 9 q9 rfl
      have hw : IntKind.i64.wrap ((k : Int) + 1) = (k : Int) + 1 := by rw [IntKind.wrap_i64]; omega
      clear hcell hq hl
      cases hr : r k with
      | true =>
        rw [hr] at hc
        have hany := any_lt h1 hr
        clear hno hr
        go_wp2_with (refine hc.mono ?_; rintro e W ⟨rfl, hk2⟩)
        go_ret
        refine ⟨_, rfl, ?_, hkp.trans hk2 fun _ h => h.elim⟩
        rw [hany]; simp
      | false =>
        rw [hr] at hc
        have hno' : ∀ q, q < k + 1 → r q = false := fun q hq => by
          rcases Nat.lt_or_ge q k with h | h
          · exact hno q h
          · obtain rfl : q = k := by omega
            exact hr
        clear hno hr
        go_wp2_with (refine hc.mono ?_; rintro e W ⟨rfl, hk2⟩)
        go_roundw
        case rel => exact ⟨k + 1, by omega, by go_num, hkp.trans hk2 fun _ h => h.elim, hno'⟩
        case measure => simp [intOf]; omega
    · obtain rfl : k = n := by omega
      have hany := any_none hno
      clear hno hcell hc hl hA
      go_wp2_with fail
      go_ret
      exact ⟨_, rfl, by rw [hany]; rfl, hkp⟩
set_option maxRecDepth 100000 in
/-- slices.ContainsFunc. -/
theorem contains_calls {w : World} {g o n c b3 g0 : Nat} {css : List (List Value)} {A : Option Addr} (hA : 0 < n → A = some ⟨g, o, none⟩) (hn : n ≤ 9223372036854775807) (hl : ∀ k, k < n → (css.getD k []).length = 10)
    (hcell : ∀ W, Kept (fun _ => False) w W → ∀ k, k < n → ∀ j u, (css.getD k [])[j]? = some u → W.cell? ⟨g, o + k * 10 + j, none⟩ = some u) {r : Nat → Bool}
    (hc : ∀ k, k < n → ∀ W, Kept (fun _ => False) w W → Calls Try.prog 129 #[.agg (css.getD k []).toArray, .pointer (some ⟨b3, 0, none⟩), .pointer (some ⟨g0, 0, none⟩)] W fun e w' => e = .returned (.bool (r k)) ∧ Kept (fun _ => False) W w') :
    Calls Try.prog 128 #[.slice A n c, .func (.func 129) #[] #[.pointer (some ⟨b3, 0, none⟩), .pointer (some ⟨g0, 0, none⟩)]] w fun e w' => e = .returned (.bool ((List.range n).any r)) ∧ Kept (fun _ => False) w w' := by
  have h := index_calls (c := c) hA hn hl hcell hc
  clear hA hn hl hcell hc
  go_enter Try.func128, Try.ntmps128
  go_wp2_with (refine h.mono ?_; rintro e W ⟨i, rfl, hi, hk⟩)
  go_ret
  refine ⟨?_, hk⟩
  rw [← hi]; rfl
set_option maxRecDepth 100000 in
set_option maxHeartbeats 1000000 in
/-- The closure that asks a question about all pieces of an assembly. -/
theorem against_calls {f : FuncId} {w : World} {gt k g o n c b11 g0 : Nat} {css : List (List Value)} {ps : List Value} {A : Option Addr} (hA : 0 < n → A = some ⟨g, o, none⟩) (hn : n ≤ 9223372036854775807) (hl : ∀ k, k < n → (css.getD k []).length = 10)
    (hcell : ∀ W, Kept (fun _ => False) w W → ∀ k, k < n → ∀ j u, (css.getD k [])[j]? = some u → W.cell? ⟨g, o + k * 10 + j, none⟩ = some u)
    (hb11 : w.heap[b11]? = some (.cells #[.pointer (some ⟨gt, k, none⟩)] 170 (0, 0))) (hvp : w.cell? ⟨gt, k + 7, none⟩ = some (.slice A n c)) (hp : ps.length = 10) (hb0 : w.heap[g0]? = some (.cells ps.toArray 98 (0, 0)))
    (hcf : ∀ args W, (callFunc f args).run Try.prog W = .ok (.enter f args) W) {r : Nat → Bool} (hc : ∀ k, k < n → ∀ W, Kept (fun _ => False) w W → Calls Try.prog f #[.agg ps.toArray, .agg (css.getD k []).toArray] W fun e w' => e = .returned (.bool (r k)) ∧ Kept (fun _ => False) W w') :
    Calls Try.prog 127 #[.func (.func f) #[] #[], .pointer (some ⟨b11, 0, none⟩), .pointer (some ⟨g0, 0, none⟩)] w fun e w' => e = .returned (.bool ((List.range n).any r)) ∧ Kept (fun _ => False) w w' := by
  have hk1 : Kept (fun _ => False) w (w.alloc (.cells #[.func (.func f) #[] #[]] 111)) := Kept.alloc _ _
  have h := contains_calls (w := w.alloc (.cells #[.func (.func f) #[] #[]] 111)) (c := c) (b3 := w.heap.size) (g0 := g0) hA hn hl (fun W hW => hcell W (hk1.trans hW fun _ h => h.elim)) (r := r) (fun q hq W hW => by
    have hb3 : W.heap[w.heap.size]? = some (.cells #[.func (.func f) #[] #[]] 111 (0, 0)) := by
      rw [hW.block _ (by simp) (fun h => h.elim)]
      exact heap_alloc_new w _
    have hb0' : W.heap[g0]? = some (.cells ps.toArray 98 (0, 0)) := by
      rw [(hk1.trans hW fun _ h => h.elim).block _ (Array.getElem?_eq_some_iff.1 hb0).1 (fun h => h)]
      exact hb0
    exact ask_calls (hl q hq) hp hb3 hb0' hcf fun W2 h2 => hc q hq W2 ((hk1.trans hW fun _ h => h.elim).trans h2 fun _ h => h.elim))
  have e1 := fun o => blk_cell hb11 o 0
  have e2 : ∀ o, (w.alloc o).cell? ⟨gt, k + 7, none⟩ = some (.slice A n c) := fun o => cell_keep (fun q hq => Go.heap_alloc_old w o hq) hvp
  simp only [List.getElem?_toArray, List.getElem?_cons_zero] at e1
  clear hA hn hl hcell hb11 hvp hb0 hcf hc
  go_enter Try.func127, Try.ntmps127
  go_wp2_with (refine h.mono ?_; rintro e W ⟨rfl, hk⟩)
  go_ret
  exact ⟨rfl, hk1.trans hk fun _ h => h.elim⟩
end Go.Proofs.Ytgbkkfpheahdfaa

namespace Go.Proofs.Ytgbkkfpheahdfaa
open Go
open Go.RowKit
theorem ip_mixed : Try.prog.follows .mixedOrders = true := by kernel_rfl
theorem u94 : Try.prog.underlying 94 = some (.slice 100) := by kernel_rfl
theorem u36 : Try.prog.underlying 36 = some (.slice 98) := by kernel_rfl
theorem u3 : Try.prog.underlying 3 = some (.int .i64) := by kernel_rfl
def Z100 : Value := .agg #[.int .i64 0, .int .u64 0, .int .u64 0, .int .i64 0, .int .u64 0, .int .u64 0, .int .i64 0, .slice none 0 0, .int .i64 0]
def Z98 : Value := .agg #[.int .i64 0, .int .u64 0, .int .u64 0, .int .i64 0, .int .u64 0, .int .u64 0, .int .i64 0, .int .i64 0, .bool false, .slice none 0 0]
theorem i100 : ∃ i, Try.prog.info? 100 = some i ∧ i.size = 9 ∧ i.bytes = 88 ∧ i.zero = some Z100 := by
  have h : (Try.prog.info? 100).map (fun i => (i.size, i.bytes)) = some (9, 88) := by kernel_rfl
  have h2 : (Try.prog.info? 100).bind (fun i => i.zero) = some Z100 := by kernel_rfl
  cases hi : Try.prog.info? 100 with
  | none => rw [hi] at h; cases h
  | some i =>
    rw [hi] at h h2
    simp only [Option.map_some, Option.some.injEq, Prod.mk.injEq] at h
    exact ⟨i, rfl, h.1, h.2, h2⟩
theorem i98 : ∃ i, Try.prog.info? 98 = some i ∧ i.size = 10 ∧ i.bytes = 96 ∧ i.zero = some Z98 := by
  have h : (Try.prog.info? 98).map (fun i => (i.size, i.bytes)) = some (10, 96) := by kernel_rfl
  have h2 : (Try.prog.info? 98).bind (fun i => i.zero) = some Z98 := by kernel_rfl
  cases hi : Try.prog.info? 98 with
  | none => rw [hi] at h; cases h
  | some i =>
    rw [hi] at h h2
    simp only [Option.map_some, Option.some.injEq, Prod.mk.injEq] at h
    exact ⟨i, rfl, h.1, h.2, h2⟩
theorem step_append_runI {P : Program} {ops : Array Oper} {o : Oper} {a : Act} {w : World} {K : Act → World → Prop} {Q : Exit → Act → World → Prop} {E : Prop}
    (hg : o.guard = none) (d x : Operand) (dT sT : TypeId) (hop : o.op = Op.call { callee := Callee.builtin Builtin.append, args := #[d, x], argTypes := #[dT, sT] })
    (v u : Value) (hd : a.eval d = v) (hx : a.eval x = u) {v' : Value} {w' : World} (hr : (Builtin.append_ #[dT, sT] o.type #[v, u]).run P w = .ok v' w') (hK : K (a.put o.dst v') w') :
    if Region.wanted o (yielded ops a.tmps) = true then Oper.wp P o a w K Q else E := by
  have hw : Region.wanted o (yielded ops a.tmps) = true := by simp [Region.wanted, hg]
  rw [if_pos hw]
  unfold Oper.wp
  simp [execOp, hop, resolve, invoke, builtin, hd, hx, hr, Result.andThen]
  exact hK
theorem zero1 : (Builtin.zeroCells Z100.cells 1).toList.length = 9 := by simp [Builtin.zeroCells, Z100, Value.cells]
set_option maxRecDepth 100000 in
set_option maxHeartbeats 4000000 in
/-- slices.Delete of one assembly. -/
theorem delete_calls {g n c i : Nat} {cur : Array Value} {w : World} (hi : i < n) (hnc : n ≤ c) (hcm : c ≤ maxLen) (hb : w.heap[g]? = some (.cells cur 100 (0, 0))) (hcs : cur.size = c * 9) (h1c : ∀ v ∈ cur.toList.take (n * 9), v.oneCell' = true) :
    Calls Try.prog 132 #[.slice (some ⟨g, 0, none⟩) n c, .int .i64 i, .int .i64 ((i : Int) + 1)] w fun e w' => ∃ ROW, e = .returned (.slice (some ⟨g, 0, none⟩) (n - 1) c) ∧ ROW.size = c * 9 ∧
      ROW.toList.take ((n - 1) * 9) = cur.toList.take (i * 9) ++ (cur.toList.take (n * 9)).drop ((i + 1) * 9) ∧ w'.heap[g]? = some (.cells ROW 100 (0, 0)) ∧ Kept (fun k => k = g) w w' := by
  have mixed := ip_mixed
  obtain ⟨i0, hi0, hzs, hzb, hz0⟩ := i100
  have hcl : cur.toList.length = c * 9 := by rw [← hcs]; exact Array.length_toList
  obtain ⟨news, hnews⟩ : ∃ news, news = (cur.toList.take (n * 9)).drop ((i + 1) * 9) := ⟨_, rfl⟩
  have hnl : news.length = (n - 1 - i) * 9 := by rw [hnews, List.length_drop, List.length_take, hcl]; omega
  have h1n : ∀ v ∈ news, v.oneCell' = true := fun v hv => h1c v (List.mem_of_mem_drop (hnews ▸ hv))
  obtain ⟨A, hA, hsrc⟩ : ∃ A : Addr, (if c = i + 1 then (some ⟨g, 0, none⟩ : Option Addr) else some ⟨g, (i + 1) * 9, none⟩) = some A ∧ ∀ j v, news[j]? = some v → w.drew.cell? (A.add j) = some v := by
    by_cases h : c = i + 1
    · refine ⟨⟨g, 0, none⟩, by simp [h], fun j v hv => ?_⟩
      have h0 : news.length = 0 := by rw [hnl]; omega
      rw [List.length_eq_zero_iff.1 h0] at hv
      simp at hv
    · refine ⟨⟨g, (i + 1) * 9, none⟩, by simp [h], fun j v hv => ?_⟩
      rw [Addr.add_lit]
      rw [hnews, List.getElem?_drop, List.getElem?_take] at hv
      split at hv
      · exact cell_at (w := w.drew) hb hv
      · cases hv
  have hap : ∀ ty c2, (Builtin.append_ #[94, 94] ty #[.slice (some ⟨g, 0, none⟩) i c, .slice (some A) (n - (i + 1)) c2]).run Try.prog w.drew = .ok (.slice (some ⟨g, 0, none⟩) (n - 1) c) (w.drew.setRow g (repl cur.toList news (i * 9)).toArray) := fun ty c2 => by
    have h := run_append_room (P := Try.prog) w.drew 94 ty 100 i0 u94 hi0 g i c cur hb A (n - 1 - i) c2 news (by rw [hzs]; exact hnl) hsrc h1n (by omega) (by rw [hzs, hnl, hcs]; omega)
    rw [hzs, show i + (n - 1 - i) = n - 1 by omega] at h
    rw [show n - (i + 1) = n - 1 - i by omega]
    exact h
  obtain ⟨R1, hR1⟩ : ∃ R1, R1 = (repl cur.toList news (i * 9)).toArray := ⟨_, rfl⟩
  rw [← hR1] at hap
  have hR1l : R1.toList = cur.toList.take (i * 9) ++ news ++ cur.toList.drop (i * 9 + (n - 1 - i) * 9) := by rw [hR1, ← hnl]; rfl
  have hR1s : R1.toList.length = c * 9 := by
    rw [hR1l]
    simp only [List.length_append, List.length_take, List.length_drop, hcl, hnl]; omega
  obtain ⟨W1, hW1⟩ : ∃ W1, W1 = w.drew.setRow g R1 := ⟨_, rfl⟩
  have hb1 : W1.heap[g]? = some (.cells R1 100 (0, 0)) := by rw [hW1]; exact setRow_heap _ _ _ _ _ _ hb
  obtain ⟨zs, hzs'⟩ : ∃ zs, zs = (Builtin.zeroCells Z100.cells 1).toList := ⟨_, rfl⟩
  have hzl : zs.length = 9 := by rw [hzs']; exact zero1
  have hz1 : ∀ v ∈ zs, v.oneCell' = true := by
    rw [hzs']
    have e : (Builtin.zeroCells Z100.cells 1).toList = [.int .i64 0, .int .u64 0, .int .u64 0, .int .i64 0, .int .u64 0, .int .u64 0, .int .i64 0, .slice none 0 0, .int .i64 0] := by kernel_rfl
    rw [e]
    intro v hv
    simp only [List.mem_cons, List.not_mem_nil, or_false] at hv
    rcases hv with rfl | rfl | rfl | rfl | rfl | rfl | rfl | rfl | rfl <;> rfl
  have hclr : ∀ ty c2, (Builtin.clear_ #[94] ty #[.slice (some ⟨g, (n - 1) * 9, none⟩) 1 c2]).run Try.prog W1 = .ok (.tuple #[]) (W1.setRow g (repl R1.toList zs ((n - 1) * 9)).toArray) := fun ty c2 => by
    have hst := run_storeCells_at Try.prog g ((n - 1) * 9) 100 zs 0 R1 W1 hb1 (by rw [← Array.length_toList, hR1s, hzl]; omega) hz1
    simp only [Nat.add_zero] at hst
    have hzv : ∀ W : World, (zeroValue 100).run Try.prog W = .ok Z100 W := fun W => by simp [zeroValue, typeInfo, hi0, hz0]
    simp [Builtin.clear_, run_underlying u94, hzv, ← hzs', hst, repl]
  obtain ⟨R2, hR2⟩ : ∃ R2, R2 = (repl R1.toList zs ((n - 1) * 9)).toArray := ⟨_, rfl⟩
  rw [← hR2] at hclr
  have hR2l : R2.toList = R1.toList.take ((n - 1) * 9) ++ zs ++ R1.toList.drop ((n - 1) * 9 + 9) := by rw [hR2, ← hzl]; rfl
  have hR2s : R2.size = c * 9 := by
    rw [← Array.length_toList, hR2l]
    simp only [List.length_append, List.length_take, List.length_drop, hR1s, hzl]; omega
  have hR2t : R2.toList.take ((n - 1) * 9) = cur.toList.take (i * 9) ++ (cur.toList.take (n * 9)).drop ((i + 1) * 9) := by
    rw [hR2l, List.append_assoc, List.take_left' (by rw [List.length_take, hR1s]; omega), hR1l, ← hnews]
    exact List.take_left' (by simp only [List.length_append, List.length_take, hcl, hnl]; omega)
  have hfin : (W1.setRow g R2).heap[g]? = some (.cells R2 100 (0, 0)) ∧ Kept (fun k => k = g) w (W1.setRow g R2) := by
    have k1 : Kept (fun k => k = g) w w.drew := (Kept.drew w).weak (fun _ h => h.elim)
    have k2 := k1.trans (setRow_kept w.drew g R1) (fun x hx => .inl (by cases hx; rfl))
    rw [← hW1] at k2
    have k3 := k2.trans (setRow_kept W1 g R2) (fun x hx => .inl (by cases hx; rfl))
    exact ⟨setRow_heap _ _ _ _ _ _ hb1, k3⟩
  have hw1 : IntKind.i64.wrap ((i : Int) + 1) = (i : Int) + 1 := by rw [IntKind.wrap_i64]; unfold maxLen at hcm; omega
  have hb1' : (0 : Int) ≤ (i : Int) + 1 := by omega
  have htn : ((i : Int) + 1).toNat = i + 1 := by omega
  have hin : i ≤ n := by omega
  have hi1n : (i : Int) + 1 ≤ (n : Int) := by omega
  have hne : ¬ ((i : Int) = (i : Int) + 1) := by omega
  have hle : (i : Int) ≤ (i : Int) + 1 := by omega
  have hnc' : (n : Int) ≤ (c : Int) := by omega
  have hic : (i : Int) ≤ (c : Int) := by omega
  have hci : ¬ (c = n - 1) := by omega
  have hn1 : n - (n - 1) = 1 := by omega
  have hn2 : n - 1 ≤ n := by omega
  subst hW1
  clear hb hcs h1c hcl hnews hnl h1n hsrc hR1 hR1l hR1s hb1 hzs' hzl hz1 hR2 hR2l hcm
  go_enter Try.func132, Try.ntmps132
  go_wp2_with fail
  go_region_law_o (refine step_append_runI rfl (.tmp 22) (.tmp 25) 94 94 rfl (.slice (some ⟨g, 0, none⟩) i c) (.slice (some A) (n - (i + 1)) (c - (i + 1))) (by simp [Act.eval, Act.put]) (by simp [Act.eval, Act.put]) (hap 94 (c - (i + 1))) ?_)
  go_wp2_with (rw [hclr])
  go_ret
  exact ⟨R2, rfl, hR2s, hR2t, hfin.1, hfin.2⟩
end Go.Proofs.Ytgbkkfpheahdfaa

namespace Go.Proofs.Ytgbkkfpheahdfaa
open Go
open Go.RowKit
theorem run_copy_multi {P : Program} {size : Nat} (w : World) (dT sT ty elem t0 : TypeId) (g o dLen dCap : Nat) (a : Addr) (sLen sCap : Nat) (cur : Array Value) (cs : List Value)
    (hu : P.underlying dT = some (.slice elem)) (hs : (P.info? elem).map (·.size) = some size) (hn : cs.length = Nat.min sLen dLen * size)
    (hsrc : ∀ j v, cs[j]? = some v → w.cell? (a.add j) = some v) (hg : w.heap[g]? = some (.cells cur t0 (0, 0))) (hl : o + cs.length ≤ cur.size) (h1 : ∀ v ∈ cs, v.oneCell' = true) :
    (Builtin.copy_ #[dT, sT] ty #[.slice (some ⟨g, o, none⟩) dLen dCap, .slice (some a) sLen sCap]).run P w = .ok (goInt (Nat.min sLen dLen)) (w.setRow g (repl cur.toList cs o).toArray) := by
  have hl' := run_loadCells_list (P := P) w a cs hsrc
  have hst := run_storeCells_at P g o t0 cs 0 cur w hg (by simpa using hl) h1
  cases hq : P.info? elem with
  | none => simp [hq] at hs
  | some i =>
    have hi : i.size = size := by simpa [hq] using hs
    simp only [Nat.add_zero] at hst
    simp [Builtin.copy_, run_underlying hu, Builtin.lenOf, Builtin.firstCells, sizeOf, typeInfo, hq, hi, ← hn, hl', hst, repl]
theorem s98 : (Try.prog.info? 98).map (·.size) = some 10 := by kernel_rfl
theorem setRow_drew (w : World) (g : Nat) (r : Array Value) : (w.setRow g r).drew = w.drew.setRow g r := rfl
set_option maxRecDepth 100000 in
set_option maxHeartbeats 4000000 in
theorem ins_grow (b n c i : Nat) (va : Addr) (vc : Nat) (cur : Array Value) (vs : List Value) (w : World) (hi : i < n) (hnc : n ≤ c) (hroom : c < n + 1) (hbig : (n + 1) * 96 ≤ 140737488355328)
    (hb : w.heap[b]? = some (.cells cur 98 (0, 0))) (hcs : cur.size = c * 10) (hvl : vs.length = 10) (hvs : ∀ j v, vs[j]? = some v → w.cell? (va.add j) = some v) (h1c : ∀ v ∈ cur.toList.take (n * 10), v.oneCell' = true) (h1v : ∀ v ∈ vs, v.oneCell' = true) :
    Calls Try.prog 136 #[.slice (some ⟨b, 0, none⟩) n c, .int .i64 i, .slice (some va) 1 vc] w fun e w' => ∃ G ROW, e = .returned (.slice (some ⟨w.heap.size, 0, none⟩) (n + 1) G) ∧ n + 1 ≤ G ∧ G ≤ maxLen ∧ ROW.size = G * 10 ∧ ROW.toList.take ((n + 1) * 10) = cur.toList.take (i * 10) ++ vs ++ (cur.toList.take (n * 10)).drop (i * 10) ∧
      w'.heap[w.heap.size]? = some (.cells ROW 98 (0, 0)) ∧ Kept (fun _ => False) w w' := by
  have mixed := ip_mixed
  have hz2 : ¬ ((i : Int) = (n : Int)) := by omega
  have hz3 : (c : Int) < (n : Int) + (1 : Int) := by omega
  obtain ⟨i0, hi0, hzs, hzb, hz0⟩ := i98
  have hcl : cur.toList.length = c * 10 := by rw [← hcs]; exact Array.length_toList
  have hbw : b < w.heap.size := (Array.getElem?_eq_some_iff.1 hb).1
  have hkk : (n : Int) + 1 - (i : Int) = ((n + 1 - i : Nat) : Int) := by omega
  have hik : i + (n + 1 - i) = n + 1 := by omega
  have hsrcb : ∀ k j v, (cur.toList.drop k)[j]? = some v → w.cell? ⟨b, k + j, none⟩ = some v := fun k j v hj => by
    rw [List.getElem?_drop] at hj
    have : cur[k + j]? = some v := by rw [← Array.getElem?_toList]; exact hj
    simp [World.cell?, hb, this]
  have hold : (Builtin.firstCells i0.size i (.slice (some ⟨b, 0, none⟩) i c)).run Try.prog w.drew = .ok (cur.toList.take (i * 10)).toArray w.drew := by
    rw [hzs]
    refine run_firstCells_some w.drew 10 i ⟨b, 0, none⟩ i c (cur.toList.take (i * 10)) (by rw [List.length_take, hcl]; omega) (fun j v hj => ?_)
    rw [Addr.add_lit]
    have h0 := hsrcb 0 j v (by rw [List.getElem?_take] at hj; split at hj; (· simpa using hj); (· cases hj))
    exact h0
  have hrz : ∀ ty, (Builtin.append_ #[36, 3] ty #[.slice (some ⟨b, 0, none⟩) i c, .int .i64 ((n : Int) + 1 - (i : Int))]).run Try.prog w =
      .ok (.slice (some ⟨w.heap.size, 0, none⟩) (n + 1) (grownCap w (n + 1) c 98)) (w.drew.alloc (.cells ((cur.toList.take (i * 10)).toArray ++ Builtin.zeroCells Z98.cells (n + 1 - i) ++ Builtin.zeroCells Z98.cells (grownCap w (n + 1) c 98 - (n + 1))) 98)) := fun ty => by
    have h := Lib.run_append_grow_zeros w 36 3 ty 98 i0 _ .i64 .i64 u36 u3 hi0 hz0 (some ⟨b, 0, none⟩) i c (cur.toList.take (i * 10)) hold (n + 1 - i) (by omega) (by omega) (by omega) (by omega) (by rw [hzb]; omega) (by rw [hzb, hik]; exact growslice_fits hroom hbig)
    rw [hik] at h
    rw [hkk]
    exact h
  obtain ⟨G, hG⟩ : ∃ G, G = grownCap w (n + 1) c 98 := ⟨_, rfl⟩
  have hGn : n + 1 ≤ G := by rw [hG]; exact grownCap_ge w _ _ _
  have hGm : G ≤ maxLen := by rw [hG]; exact grownCap_le_maxLen w (n + 1) c 98 (by unfold maxLen; omega)
  rw [← hG] at hrz
  obtain ⟨ROW, hROW⟩ : ∃ ROW : Array Value, ROW = (cur.toList.take (i * 10)).toArray ++ Builtin.zeroCells Z98.cells (n + 1 - i) ++ Builtin.zeroCells Z98.cells (G - (n + 1)) := ⟨_, rfl⟩
  rw [← hROW] at hrz
  have hRs : ROW.size = G * 10 := by
    rw [hROW]
    simp only [Array.size_append, size_zeroCells, List.size_toArray, List.length_take, hcl]
    have : Z98.cells.size = 10 := rfl
    rw [this]; omega
  have hRt : ROW.toList.take (i * 10) = cur.toList.take (i * 10) := by
    rw [hROW]
    simp only [Array.toList_append, List.append_assoc]
    rw [List.take_append_of_le_length (by rw [List.length_take, hcl]; omega)]
    rw [List.take_take, Nat.min_self]
  obtain ⟨W1, hW1⟩ : ∃ W1, W1 = w.drew.alloc (.cells ROW 98) := ⟨_, rfl⟩
  have hnew : W1.heap[w.heap.size]? = some (.cells ROW 98 (0, 0)) := by rw [hW1]; exact World.alloc_heap_new w.drew _
  have hold1 : ∀ k, k < w.heap.size → W1.heap[k]? = w.heap[k]? := fun k hk => by rw [hW1]; exact Go.heap_alloc_old w.drew _ hk
  have hcpA : ∀ (W : World) ty dc, W.heap = W1.heap → (Builtin.copy_ #[36, 36] ty #[.slice (some ⟨w.heap.size, i * 10, none⟩) (n + 1 - i) dc, .slice (some va) 1 vc]).run Try.prog W = .ok (goInt 1) (W.setRow w.heap.size (repl ROW.toList vs (i * 10)).toArray) := fun W ty dc hW => by
    have hm : Nat.min 1 (n + 1 - i) = 1 := Nat.min_eq_left (by omega)
    have := run_copy_multi (P := Try.prog) W 36 36 ty 98 98 w.heap.size (i * 10) (n + 1 - i) dc va 1 vc ROW vs u36 s98 (by rw [hm]; omega)
      (fun j v hj => cell_keep (fun k hk => by rw [hW]; exact hold1 k hk) (hvs j v hj)) (by rw [hW]; exact hnew) (by omega) h1v
    rw [hm] at this
    exact this
  obtain ⟨R2, hR2⟩ : ∃ R2, R2 = (repl ROW.toList vs (i * 10)).toArray := ⟨_, rfl⟩
  have hR2l : R2.toList = cur.toList.take (i * 10) ++ vs ++ ROW.toList.drop (i * 10 + 10) := by rw [hR2]; unfold repl; rw [hRt, hvl]
  have hRl : ROW.toList.length = G * 10 := by rw [← hRs]; exact Array.length_toList
  have hR2s : R2.size = G * 10 := by
    rw [← Array.length_toList, hR2l]
    simp only [List.length_append, List.length_take, List.length_drop, hcl, hRl, hvl]; omega
  obtain ⟨cs, hcsd⟩ : ∃ cs, cs = (cur.toList.take (n * 10)).drop (i * 10) := ⟨_, rfl⟩
  have hcsl : cs.length = (n - i) * 10 := by rw [hcsd, List.length_drop, List.length_take, hcl]; omega
  have hcsg : ∀ j v, cs[j]? = some v → w.cell? ⟨b, i * 10 + j, none⟩ = some v := fun j v hj => by
    rw [hcsd, List.getElem?_drop, List.getElem?_take] at hj
    split at hj
    · exact cell_at hb hj
    · cases hj
  have hcs1 : ∀ v ∈ cs, v.oneCell' = true := fun v hv => h1c v (List.mem_of_mem_drop (hcsd ▸ hv))
  have hcpB : ∀ (W : World) ty dc sc, W.heap = (W1.setRow w.heap.size R2).heap → (Builtin.copy_ #[36, 36] ty #[.slice (some ⟨w.heap.size, (i + 1) * 10, none⟩) (n + 1 - (i + 1)) dc, .slice (some ⟨b, i * 10, none⟩) (n - i) sc]).run Try.prog W = .ok (goInt ((n - i : Nat) : Int)) (W.setRow w.heap.size (repl R2.toList cs ((i + 1) * 10)).toArray) := fun W ty dc sc hW => by
    have hm : Nat.min (n - i) (n + 1 - (i + 1)) = n - i := Nat.min_eq_left (by omega)
    have := run_copy_multi (P := Try.prog) W 36 36 ty 98 98 w.heap.size ((i + 1) * 10) (n + 1 - (i + 1)) dc ⟨b, i * 10, none⟩ (n - i) sc R2 cs u36 s98 (by rw [hm]; exact hcsl)
      (fun j v hj => by
        rw [Addr.add_lit]
        refine cell_keep (fun k hk => ?_) (hcsg j v hj)
        rw [hW, Go.setRow_other W1 _ k _ (by omega)]
        exact hold1 k hk)
      (by rw [hW]; exact setRow_heap _ _ _ _ _ _ hnew) (by omega) hcs1
    rw [hm] at this
    exact this
  obtain ⟨R3, hR3⟩ : ∃ R3, R3 = (repl R2.toList cs ((i + 1) * 10)).toArray := ⟨_, rfl⟩
  have hR3l : R3.toList = cur.toList.take (i * 10) ++ vs ++ cs ++ R2.toList.drop ((i + 1) * 10 + (n - i) * 10) := by
    rw [hR3]
    show R2.toList.take ((i + 1) * 10) ++ cs ++ R2.toList.drop ((i + 1) * 10 + cs.length) = _
    rw [hcsl]
    have : R2.toList.take ((i + 1) * 10) = cur.toList.take (i * 10) ++ vs := by
      rw [hR2l]
      exact List.take_left' (by rw [List.length_append, List.length_take, hcl, hvl]; omega)
    rw [this]
  have hpl : (cur.toList.take (i * 10) ++ vs ++ cs).length = (n + 1) * 10 := by
    simp only [List.length_append, List.length_take, hcl, hvl, hcsl]; omega
  have hR3s : R3.size = G * 10 := by
    have h2 : R2.toList.length = G * 10 := by rw [← hR2s]; exact Array.length_toList
    rw [← Array.length_toList, hR3l, List.length_append, hpl, List.length_drop, h2]; omega
  have hR3t : R3.toList.take ((n + 1) * 10) = cur.toList.take (i * 10) ++ vs ++ cs := by rw [hR3l]; exact List.take_left' hpl
  rw [← hR2] at hcpA
  rw [← hR3] at hcpB
  have hfin : ∀ W : World, W = ((W1.setRow w.heap.size R2).drew.setRow w.heap.size R3) → W.heap[w.heap.size]? = some (.cells R3 98 (0, 0)) ∧ Kept (fun _ => False) w W := by
    rintro W rfl
    have k1 : Kept (fun _ => False) w W1 := by rw [hW1]; exact (Kept.drew w).trans (Kept.alloc _ _) (fun _ h => h.elim)
    have k2 : Kept (fun _ => False) w (W1.setRow w.heap.size R2) := k1.trans (setRow_kept W1 w.heap.size R2) (fun x hx => .inr (by cases hx; exact Nat.le_refl _))
    have k3 := (k2.trans (Kept.drew _) (fun _ h => h.elim)).trans (setRow_kept (W1.setRow w.heap.size R2).drew w.heap.size R3) (fun x hx => .inr (by cases hx; exact Nat.le_refl _))
    refine ⟨?_, k3⟩
    have h1 : (W1.setRow w.heap.size R2).drew.heap[w.heap.size]? = some (.cells R2 98 (0, 0)) := setRow_heap _ _ _ _ _ _ hnew
    exact setRow_heap _ _ _ _ _ _ h1
  rw [hcsd] at hR3t
  subst hW1
  have hw1 : IntKind.i64.wrap ((i : Int) + 1) = (i : Int) + 1 := by rw [IntKind.wrap_i64]; omega
  have hb1 : (0 : Int) ≤ (i : Int) + 1 := by omega
  have htn : ((i : Int) + 1).toNat = i + 1 := by omega
  have hin : i ≤ n := by omega
  have hGi : ¬ (G = i) := by omega
  have hGim : ¬ (G = i + 1) := by omega
  have hci : ¬ (c = i) := by omega
  have hb3 : (i : Int) ≤ (n : Int) := by omega
  clear hkk hik hold hROW hG hsrcb hRs hRt hb hvs h1c h1v hcl hnew hold1 hR2 hR2l hRl hR2s hcsl hcsg hcs1 hR3 hR3l hpl hvl hcs
  go_enter Try.func136, Try.ntmps136
  go_wp2_with (at_builtin; refine Lib.wpList_append_run _ rfl _ _ _ _ rfl _ _ rfl rfl _ _ (hrz _) ?_)
  rw [hcpA ((w.alloc (.cells ROW 98)).drew) 3 (G - i) rfl]
  simp only [Result.andThen_ok]
  go_wp2
  go_region_law_o (refine step_copy_runI rfl _ _ 36 36 rfl (.slice (some ⟨w.heap.size, (i + 1) * 10, none⟩) (n + 1 - (i + 1)) (G - (i + 1))) (.slice (some ⟨b, i * 10, none⟩) (n - i) (c - i)) (by simp [Act.eval, Act.put]) (by simp [Act.eval, Act.put]) (hcpB _ 3 (G - (i + 1)) (c - i) rfl) ?_)
  go_wp2
  go_ret
  obtain ⟨q1, q2⟩ := hfin _ rfl
  exact ⟨_, _, rfl, hGn, hGm, hR3s, hR3t, q1, q2⟩
set_option maxRecDepth 100000 in
set_option maxHeartbeats 4000000 in
theorem ins_end (v : Value) (n vc : Nat) (va : Addr) (xs vs : List Value) (w : World) (hown : w.ownsRow 0 98 10 v n xs) (hbig : (n + 1) * 96 ≤ 140737488355328)
    (hvl : vs.length = 10) (hvs : ∀ j u, vs[j]? = some u → w.cell? (va.add j) = some u) (h1v : ∀ u ∈ vs, u.oneCell' = true) :
    Calls Try.prog 136 #[v, .int .i64 n, .slice (some va) 1 vc] w fun e w' => ∃ v', e = .returned v' ∧ w'.ownsRow 0 98 10 v' (n + 1) (xs ++ vs) ∧ w.grownBy w' v.ownBlock ∧ (v'.ownBlock = v.ownBlock ∨ v'.ownBlock = some w.heap.size) := by
  have mixed := ip_mixed
  obtain ⟨i0, hi0, hzs, hzb, hz0⟩ := i98
  obtain ⟨v', w', hr, q1, q2, _, q5⟩ := run_append_own_at (P := Try.prog) w 0 36 36 98 i0 Z98 10 96 u36 hi0 hz0 hzs hzb rfl (by omega) v n xs hown va 1 vc vs (by omega) hvs h1v (by unfold maxLen; omega) hbig (Nat.zero_le _)
  have fin : ∃ v'', Ending.returned v' = .returned v'' ∧ w'.ownsRow 0 98 10 v'' (n + 1) (xs ++ vs) ∧ w.grownBy w' v.ownBlock ∧ (v''.ownBlock = v.ownBlock ∨ v''.ownBlock = some w.heap.size) := ⟨v', rfl, q1, q2, q5⟩
  rcases hown.2 with ⟨rfl, hn⟩ | ⟨g, cap, cur, rfl, _, hg, hnc, hcm, hcs, ht⟩
  · subst hn
    clear hown hvs h1v hvl q1 q2 q5 hbig
    go_enter Try.func136, Try.ntmps136
    go_wp2_with (at_builtin; refine Lib.wpList_append_run _ rfl _ _ _ _ rfl _ _ rfl rfl _ _ hr ?_)
    go_ret
    exact fin
  · have hle : n ≤ cap := hnc
    clear hown hvs h1v hvl q1 q2 q5 hbig hg hcs ht
    go_enter Try.func136, Try.ntmps136
    go_wp2_with (at_builtin; refine Lib.wpList_append_run _ rfl _ _ _ _ rfl _ _ rfl rfl _ _ hr ?_)
    all_goals (go_ret; exact fin)
theorem frozen00 {w : World} {b k : Nat} {cur : Array Value} {e : Nat} (hb : w.heap[b]? = some (.cells cur e (0, 0))) : w.frozen? ⟨b, k, none⟩ = false := by
  simp [World.frozen?, hb]
set_option maxRecDepth 100000 in
set_option maxHeartbeats 4000000 in
theorem ins_shift (b n c i vb vc : Nat) (cur vcur : Array Value) (vs : List Value) (w : World) (hi : i < n) (hroom : n + 1 ≤ c) (hc63 : c ≤ maxLen)
    (hb : w.heap[b]? = some (.cells cur 98 (0, 0))) (hcs : cur.size = c * 10) (hvb : vb ≠ b) (hv : w.heap[vb]? = some (.cells vcur 98 (0, 0))) (hvs : vcur.toList.take 10 = vs) (hvl : vs.length = 10) (h1c : ∀ v ∈ cur.toList.take (n * 10), v.oneCell' = true) (h1v : ∀ v ∈ vs, v.oneCell' = true) :
    Calls Try.prog 136 #[.slice (some ⟨b, 0, none⟩) n c, .int .i64 i, .slice (some ⟨vb, 0, none⟩) 1 vc] w fun e w' => ∃ ROW, e = .returned (.slice (some ⟨b, 0, none⟩) (n + 1) c) ∧ ROW.size = c * 10 ∧ ROW.toList.take ((n + 1) * 10) = cur.toList.take (i * 10) ++ vs ++ (cur.toList.take (n * 10)).drop (i * 10) ∧
      w'.heap[b]? = some (.cells ROW 98 (0, 0)) ∧ Kept (fun k => k = b) w w' := by
  have mixed := ip_mixed
  have hz2 : ¬ ((i : Int) = (n : Int)) := by omega
  have hcl : cur.toList.length = c * 10 := by rw [← hcs]; exact Array.length_toList
  have hvcl : 10 ≤ vcur.toList.length := by
    have : (vcur.toList.take 10).length = 10 := by rw [hvs]; exact hvl
    rw [List.length_take] at this; omega
  have hov : ∀ lb cb, (callFunc 162 #[.slice (some ⟨vb, 0, none⟩) 1 vc, .slice (some ⟨b, (i + 1) * 10, none⟩) lb cb]).run Try.prog w = .ok (.value (.bool false)) w := fun lb cb => by
    rw [run_callFunc_extern Try.func162 (by kernel_rfl) (by kernel_rfl) (by kernel_rfl) (e := Extern.SlicesOverlaps.overlaps #[36, 36] #[4]) (by kernel_rfl),
      Lib.run_overlaps_apart w 36 4 98 u36 10 (fun w => by have := i98; obtain ⟨i0, h1, h2, _⟩ := this; simp [sizeOf, typeInfo, h1, h2]) ⟨vb, 0, none⟩ ⟨b, (i + 1) * 10, none⟩ 1 vc lb cb hvb 98 98 vcur.size cur.size (by simp [World.shape?, hv]) (by simp [World.shape?, hb]) (by omega) (frozen00 hv) (frozen00 hv)]
    rfl
  obtain ⟨cs, hcsd⟩ : ∃ cs, cs = (cur.toList.take (n * 10)).drop (i * 10) := ⟨_, rfl⟩
  have hcsl : cs.length = (n - i) * 10 := by rw [hcsd, List.length_drop, List.length_take, hcl]; omega
  have hcsg : ∀ j v, cs[j]? = some v → w.cell? ⟨b, i * 10 + j, none⟩ = some v := fun j v hj => by
    rw [hcsd, List.getElem?_drop, List.getElem?_take] at hj
    split at hj
    · exact cell_at hb hj
    · cases hj
  have hcs1 : ∀ v ∈ cs, v.oneCell' = true := fun v hv => h1c v (List.mem_of_mem_drop (hcsd ▸ hv))
  have hcpA : ∀ ty dc sc, (Builtin.copy_ #[36, 36] ty #[.slice (some ⟨b, (i + 1) * 10, none⟩) (n + 1 - (i + 1)) dc, .slice (some ⟨b, i * 10, none⟩) (n + 1 - i) sc]).run Try.prog w.drew = .ok (goInt ((n - i : Nat) : Int)) (w.drew.setRow b (repl cur.toList cs ((i + 1) * 10)).toArray) := fun ty dc sc => by
    have hm : Nat.min (n + 1 - i) (n + 1 - (i + 1)) = n - i := by rw [show n + 1 - (i + 1) = n - i by omega]; exact Nat.min_eq_right (by omega)
    have := run_copy_multi (P := Try.prog) w.drew 36 36 ty 98 98 b ((i + 1) * 10) (n + 1 - (i + 1)) dc ⟨b, i * 10, none⟩ (n + 1 - i) sc cur cs u36 s98 (by rw [hm]; exact hcsl)
      (fun j v hj => by rw [Addr.add_lit]; exact hcsg j v hj) hb (by omega) hcs1
    rw [hm] at this
    exact this
  obtain ⟨R2, hR2⟩ : ∃ R2, R2 = (repl cur.toList cs ((i + 1) * 10)).toArray := ⟨_, rfl⟩
  have hR2l : R2.toList = cur.toList.take ((i + 1) * 10) ++ cs ++ cur.toList.drop ((i + 1) * 10 + (n - i) * 10) := by rw [hR2, ← hcsl]; rfl
  have hR2s : R2.toList.length = c * 10 := by
    rw [hR2l]
    simp only [List.length_append, List.length_take, List.length_drop, hcl, hcsl]; omega
  have hb2 : (w.drew.setRow b R2).heap[b]? = some (.cells R2 98 (0, 0)) := setRow_heap _ _ _ _ _ _ hb
  have hcpB : ∀ (W : World) ty dc, W.heap = (w.drew.setRow b R2).heap → (Builtin.copy_ #[36, 36] ty #[.slice (some ⟨b, i * 10, none⟩) (n + 1 - i) dc, .slice (some ⟨vb, 0, none⟩) 1 vc]).run Try.prog W = .ok (goInt 1) (W.setRow b (repl R2.toList vs (i * 10)).toArray) := fun W ty dc hW => by
    have hm : Nat.min 1 (n + 1 - i) = 1 := Nat.min_eq_left (by omega)
    have h2 : R2.size = c * 10 := by rw [← hR2s]; exact Array.length_toList.symm
    have := run_copy_multi (P := Try.prog) W 36 36 ty 98 98 b (i * 10) (n + 1 - i) dc ⟨vb, 0, none⟩ 1 vc R2 vs u36 s98 (by rw [hm]; omega)
      (fun j v hj => by
        rw [Addr.add_lit]
        have hvb' : W.heap[vb]? = some (.cells vcur 98 (0, 0)) := by rw [hW, Go.setRow_other w.drew b vb _ hvb]; exact hv
        refine cell_at hvb' ?_
        rw [← hvs, List.getElem?_take] at hj
        split at hj
        · rw [Nat.zero_add]; exact hj
        · cases hj)
      (by rw [hW]; exact hb2) (by omega) h1v
    rw [hm] at this
    exact this
  obtain ⟨R3, hR3⟩ : ∃ R3, R3 = (repl R2.toList vs (i * 10)).toArray := ⟨_, rfl⟩
  have hR3l : R3.toList = R2.toList.take (i * 10) ++ vs ++ R2.toList.drop (i * 10 + 10) := by rw [hR3, ← hvl]; rfl
  have hR3s : R3.size = c * 10 := by
    rw [← Array.length_toList, hR3l]
    simp only [List.length_append, List.length_take, List.length_drop, hR2s, hvl]; omega
  have ht1 : R2.toList.take (i * 10) = cur.toList.take (i * 10) := by
    rw [hR2l, List.append_assoc, List.take_append_of_le_length (by rw [List.length_take, hcl]; omega), List.take_take]
    congr 1; omega
  have ht2 : R2.toList.drop (i * 10 + 10) = cs ++ cur.toList.drop ((i + 1) * 10 + (n - i) * 10) := by
    rw [hR2l, List.append_assoc]
    exact List.drop_left' (by rw [List.length_take, hcl]; omega)
  have hR3t : R3.toList.take ((n + 1) * 10) = cur.toList.take (i * 10) ++ vs ++ cs := by
    rw [hR3l, ht1, ht2, ← List.append_assoc]
    exact List.take_left' (by simp only [List.length_append, List.length_take, hcl, hvl, hcsl]; omega)
  rw [← hR2] at hcpA
  rw [← hR3] at hcpB
  have hfin : ∀ W : World, W = ((w.drew.setRow b R2).setRow b R3) → W.heap[b]? = some (.cells R3 98 (0, 0)) ∧ Kept (fun k => k = b) w W := by
    rintro W rfl
    have k1 : Kept (fun k => k = b) w w.drew := (Kept.drew w).weak (fun _ h => h.elim)
    have k2 := k1.trans (setRow_kept w.drew b R2) (fun x hx => .inl (by cases hx; rfl))
    have k3 := k2.trans (setRow_kept (w.drew.setRow b R2) b R3) (fun x hx => .inl (by cases hx; rfl))
    exact ⟨setRow_heap _ _ _ _ _ _ hb2, k3⟩
  rw [hcsd] at hR3t
  have hw1 : IntKind.i64.wrap ((i : Int) + 1) = (i : Int) + 1 := by rw [IntKind.wrap_i64]; unfold maxLen at hc63; omega
  have hw2 : IntKind.i64.wrap ((n : Int) + 1) = (n : Int) + 1 := by rw [IntKind.wrap_i64]; unfold maxLen at hc63; omega
  have hb1 : (0 : Int) ≤ (i : Int) + 1 := by omega
  have htn : ((i : Int) + 1).toNat = i + 1 := by omega
  have hin : i ≤ n := by omega
  have hci : ¬ (c = i) := by omega
  have hcim : ¬ (c = i + 1) := by omega
  have hb3 : (i : Int) ≤ (n : Int) := by omega
  have hb4 : (i : Int) ≤ (n : Int) + 1 := by omega
  have hz3 : ¬ ((c : Int) < (n : Int) + 1) := by omega
  clear hb hcs hv hvs hvl h1c h1v hcl hvcl hcsl hcsg hcs1 hR2 hR2l hR2s hb2 hR3 hR3l ht1 ht2 hcsd hc63
  go_enter Try.func136, Try.ntmps136
  go_wp2_with (simp only [hov])
  go_region_law_o (refine step_copy_runI rfl _ _ 36 36 rfl (.slice (some ⟨b, (i + 1) * 10, none⟩) (n + 1 - (i + 1)) (c - (i + 1))) (.slice (some ⟨b, i * 10, none⟩) (n + 1 - i) (c - i)) (by simp [Act.eval, Act.put]) (by simp [Act.eval, Act.put]) (hcpA 3 (c - (i + 1)) (c - i)) ?_)
  go_wp2
  go_ret
  obtain ⟨q1, q2⟩ := hfin _ rfl
  exact ⟨_, rfl, hR3s, hR3t, q1, q2⟩
end Go.Proofs.Ytgbkkfpheahdfaa

namespace Go.Proofs.Ytgbkkfpheahdfaa
open Go
open Go.RowKit
theorem rowBlk {w : World} {e k n : Nat} {v : Value} {xs : List Value} (h : w.ownsRow 0 e k v n xs) : v.ownBlock = blk v := by
  rcases h.2 with ⟨rfl, _⟩ | ⟨g, _, _, rfl, _⟩ <;> rfl
set_option maxHeartbeats 1000000 in
/-- slices.Insert of one piece. -/
theorem insert_calls {v : Value} {n i vb vc : Nat} {vcur : Array Value} {vs xs : List Value} {w : World} (hown : w.ownsRow 0 98 10 v n xs) (hi : i ≤ n) (hroom : (n + 1) * 96 ≤ 140737488355328)
    (hv : w.heap[vb]? = some (.cells vcur 98 (0, 0))) (hvs : vcur.toList.take 10 = vs) (hvl : vs.length = 10) (hne : ∀ b, blk v = some b → vb ≠ b) (h1x : ∀ u ∈ xs, u.oneCell' = true) (h1v : ∀ u ∈ vs, u.oneCell' = true) :
    Calls Try.prog 136 #[v, .int .i64 i, .slice (some ⟨vb, 0, none⟩) 1 vc] w fun e w' => ∃ v', e = .returned v' ∧ w'.ownsRow 0 98 10 v' (n + 1) (xs.take (i * 10) ++ vs ++ xs.drop (i * 10)) ∧
      Kept (fun b => blk v = some b) w w' ∧ ∀ b, blk v' = some b → blk v = some b ∨ b = w.heap.size := by
  have hxl : xs.length = n * 10 := hown.1
  have hvs' : ∀ j u, vs[j]? = some u → w.cell? ((⟨vb, 0, none⟩ : Addr).add j) = some u := fun j u hj => by
    rw [Addr.add_lit, Nat.zero_add]
    refine cell_at hv ?_
    rw [← hvs, List.getElem?_take] at hj
    split at hj
    · exact hj
    · cases hj
  rcases Nat.lt_or_ge i n with hlt | hge
  · rcases hown.2 with ⟨_, hz⟩ | ⟨b, c, cur, rfl, _, hb, hnc, hcm, hcs, ht⟩
    · omega
    have h1c : ∀ u ∈ cur.toList.take (n * 10), u.oneCell' = true := fun u hu => h1x u (by rw [← ht]; exact hu)
    have htk : cur.toList.take (i * 10) = xs.take (i * 10) := by
      rw [← ht, List.take_take]; congr 1; omega
    rcases Nat.lt_or_ge c (n + 1) with hfull | hspare
    · refine (ins_grow b n c i ⟨vb, 0, none⟩ vc cur vs w hlt hnc hfull hroom hb hcs hvl hvs' h1c h1v).mono ?_
      rintro e w' ⟨G, ROW, rfl, g1, g2, g3, g4, g5, g6⟩
      refine ⟨_, rfl, ⟨?_, .inr ⟨w.heap.size, G, ROW, rfl, Nat.zero_le _, g5, g1, g2, g3, ?_⟩⟩, g6.weak fun _ h => h.elim, fun b hb => by cases hb; exact .inr rfl⟩
      · simp only [List.length_append, List.length_take, List.length_drop, hxl, hvl]; omega
      · rw [g4, htk, ht]
    · refine (ins_shift b n c i vb vc cur vcur vs w hlt hspare hcm hb hcs (hne b rfl) hv hvs hvl h1c h1v).mono ?_
      rintro e w' ⟨ROW, rfl, g3, g4, g5, g6⟩
      refine ⟨_, rfl, ⟨?_, .inr ⟨b, c, ROW, rfl, Nat.zero_le _, g5, hspare, hcm, g3, ?_⟩⟩, g6.weak fun k hk => by rw [hk]; rfl, fun b hb => .inl hb⟩
      · simp only [List.length_append, List.length_take, List.length_drop, hxl, hvl]; omega
      · rw [g4, htk, ht]
  · obtain rfl : i = n := by omega
    refine (ins_end v i vc ⟨vb, 0, none⟩ xs vs w hown hroom hvl hvs' h1v).mono ?_
    rintro e w' ⟨v', rfl, g1, g2, g3⟩
    have hfx : xs.take (i * 10) ++ vs ++ xs.drop (i * 10) = xs ++ vs := by
      rw [List.take_of_length_le (by omega), List.drop_of_length_le (by omega), List.append_nil]
    refine ⟨v', rfl, by rw [hfx]; exact g1, (Kept.of_grown g2).weak fun b hb => by rw [rowBlk hown] at hb; exact hb, fun b hb => ?_⟩
    rw [← rowBlk g1] at hb
    rcases g3 with g3 | g3
    · rw [g3, rowBlk hown] at hb; exact .inl hb
    · rw [g3] at hb; cases hb; exact .inr rfl
end Go.Proofs.Ytgbkkfpheahdfaa

namespace Go.Proofs.Ytgbkkfpheahdfaa
open Go
open Go.RowKit
def I64 (x : Int) : Prop := -9223372036854775808 ≤ x ∧ x ≤ 9223372036854775807
/-- The cells of an assembly whose pieces lie at u. -/
def AC (x : D99) (u : Value) : List Value := [.int .i64 x.1.1, .int .u64 (x.1.2.1.toNat : Int), .int .u64 (x.1.2.2.1.toNat : Int), .int .i64 x.2.1.1, .int .u64 (x.2.1.2.1.toNat : Int), .int .u64 (x.2.1.2.2.1.toNat : Int), .int .i64 x.2.2.1, u, .int .i64 x.2.2.2.2.1]
def AB (x : D99) : Prop := I64 x.1.1 ∧ I64 x.2.1.1 ∧ I64 x.2.2.1 ∧ I64 x.2.2.2.2.1
theorem dr_asm {w : World} {Z : Nat → Prop} {x : D99} {vs : List Value} (h : DR w Z T99 x vs) : ∃ u, vs = AC x u ∧ AB x ∧ DR w Z (.sl T97) x.2.2.2.1 [u] := by
  obtain ⟨_, _, rfl, ⟨_, _, rfl, ⟨rfl, f1⟩, _, _, rfl, rfl, _, _, rfl, rfl, rfl⟩, _, _, rfl, ⟨_, _, rfl, ⟨rfl, f2⟩, _, _, rfl, rfl, _, _, rfl, rfl, rfl⟩, _, _, rfl, ⟨rfl, f3⟩, us, _, rfl, h4, _, _, rfl, ⟨rfl, f5⟩, rfl⟩ := h
  obtain ⟨u, rfl⟩ := List.length_eq_one_iff.1 h4.len
  exact ⟨u, rfl, ⟨f1, f2, f3, f5⟩, h4⟩
theorem dr_asm_mk {w : World} {Z : Nat → Prop} {x : D99} {u : Value} (h : AB x) (hd : DR w Z (.sl T97) x.2.2.2.1 [u]) : DR w Z T99 x (AC x u) :=
  ⟨[_, _, _], [_, _, _, _, _, _], rfl, ⟨[_], [_, _], rfl, ⟨rfl, h.1⟩, [_], [_], rfl, rfl, [_], [], rfl, rfl, rfl⟩, [_, _, _], [_, _, _], rfl, ⟨[_], [_, _], rfl, ⟨rfl, h.2.1⟩, [_], [_], rfl, rfl, [_], [], rfl, rfl, rfl⟩, [_], [_, _], rfl, ⟨rfl, h.2.2.1⟩, [_], [_], rfl, hd, [_], [], rfl, ⟨rfl, h.2.2.2⟩, rfl⟩
section
variable {w w' w0 w1 w2 : World} {Z Z' Z0 Z1 : Nat → Prop} {e n k i : Nat} {v v' pv u : Value} {xs : List Value} {t : Ty}
theorem own_keep {M : Nat → Prop} (h : w.ownsRow 0 e k v n xs) (hk : Kept M w w') (hm : ∀ b, blk v = some b → ¬ M b) : w'.ownsRow 0 e k v n xs := by
  refine ⟨h.1, ?_⟩
  rcases h.2 with hn | ⟨g, cap, cur, hv, hg0, hg, rest⟩
  · exact .inl hn
  · refine .inr ⟨g, cap, cur, hv, hg0, ?_, rest⟩
    rw [hk.block g (Array.getElem?_eq_some_iff.1 hg).1 (hm g (by rw [hv]; rfl))]
    exact hg
theorem own_lt (h : w.ownsRow 0 e k v n xs) : ∀ b, blk v = some b → b < w.heap.size := by
  intro b hb
  rcases h.2 with ⟨rfl, _⟩ | ⟨g, cap, cur, rfl, _, hg, _⟩
  · cases hb
  · cases hb; exact (Array.getElem?_eq_some_iff.1 hg).1
theorem own_DR {ys : List t.den} {css : List (List Value)} (hd : All2 (DR w Z t) ys css) (ho : w.ownsRow 0 e t.size u ys.length css.flatten) (hz : ∀ b, Z b → Z' b) (hb : ∀ b, blk u = some b → Z' b) : DR w Z' (.sl t) ys [u] :=
  row_DR (i := 0) (ob := fun _ => u) (own := true) (show OR w Z (fun _ => u) 0 (.row e t ys true) from ⟨css, hd, ho, fun h => by cases h⟩) hz hb
/-- The pieces of assembly i. -/
def psAt (l : List D99) (i : Nat) : List D97 := match l[i]? with
  | some x => x.2.2.2.1
  | none => []
/-- The cells of a table whose pieces lie at us. -/
def TC (l : List D99) (us : List Value) : List (List Value) := List.zipWith AC l us
theorem tc_snoc {l : List D99} {us : List Value} (h : us.length = l.length) (x : D99) (u : Value) : (TC (l ++ [x]) (us ++ [u])).flatten = (TC l us).flatten ++ AC x u := by
  unfold TC
  rw [List.zipWith_append h.symm]
  simp
/-- A table that lies frozen but for the row itself. -/
theorem tab_all {l : List D99} {us : List Value} (hl : us.length = l.length) (h : ∀ (k : Nat) (x : D99) (u : Value), l[k]? = some x → us[k]? = some u → AB x ∧ DR w Z (.sl T97) x.2.2.2.1 [u]) : All2 (DR w Z T99) l (TC l us) := by
  refine All2.ofGet (by simp [TC, hl]) fun k x cs hx hc => ?_
  unfold TC at hc
  rw [List.getElem?_zipWith] at hc
  cases hu : us[k]? with
  | none => rw [hx, hu] at hc; cases hc
  | some u =>
    rw [hx, hu] at hc
    obtain rfl := Option.some.inj hc
    exact dr_asm_mk (h k x u hx hu).1 (h k x u hx hu).2
theorem tab_DR {l : List D99} {us : List Value} (hl : us.length = l.length) (h : ∀ (k : Nat) (x : D99) (u : Value), l[k]? = some x → us[k]? = some u → AB x ∧ DR w Z (.sl T97) x.2.2.2.1 [u]) (ho : w.ownsRow 0 100 9 v l.length (TC l us).flatten) (hz : ∀ b, Z b → Z' b) (hb : ∀ b, blk v = some b → Z' b) : DR w Z' (.sl T99) l [v] :=
  own_DR (tab_all hl h) ho hz hb
/-- A table of the call's own, of whose assembly i the pieces are the call's own too. -/
structure Deep (w0 : World) (Z0 : Nat → Prop) (l : List D99) (i : Nat) (w : World) (Z : Nat → Prop) (v pv : Value) (us : List Value) : Prop where
  kept : Kept (fun _ => False) w0 w
  zlt : ∀ b, Z b → b < w.heap.size
  zin : ∀ b, Z0 b → Z b
  zout : ∀ b, Z b → b < w0.heap.size → Z0 b
  len : us.length = l.length
  row : w.ownsRow 0 100 9 v l.length (TC l us).flatten
  els : ∀ (k : Nat) (x : D99) (u : Value), l[k]? = some x → us[k]? = some u → AB x ∧ (k = i → u = pv) ∧ (k ≠ i → DR w Z (.sl T97) x.2.2.2.1 [u])
  pcs : ∃ css, All2 (DR w Z T97) (psAt l i) css ∧ w.ownsRow 0 98 10 pv (psAt l i).length css.flatten
  vz : ∀ b, blk v = some b → ¬ Z b ∧ w0.heap.size ≤ b
  pz : ∀ b, blk pv = some b → ¬ Z b ∧ w0.heap.size ≤ b
  vp : ∀ b, blk v = some b → blk pv ≠ some b
theorem Deep.nil (hz : ∀ b, Z0 b → b < w0.heap.size) (i : Nat) : Deep w0 Z0 [] i w0 Z0 (.slice none 0 0) (.slice none 0 0) [] where
  kept := Kept.refl _ _
  zlt := hz
  zin _ h := h
  zout _ h _ := h
  len := rfl
  row := ⟨rfl, .inl ⟨rfl, rfl⟩⟩
  els k x u h := by simp at h
  pcs := ⟨[], trivial, rfl, .inl ⟨rfl, rfl⟩⟩
  vz b h := by cases h
  pz b h := by cases h
  vp b h := by cases h
theorem Deep.plt {l : List D99} {us : List Value} (h : Deep w0 Z0 l i w Z v pv us) : ∀ b, blk pv = some b → b < w.heap.size := by
  obtain ⟨css, _, h2⟩ := h.pcs
  exact own_lt h2
/-- The pieces, taken for frozen. -/
theorem Deep.pieces {l : List D99} {us : List Value} (h : Deep w0 Z0 l i w Z v pv us) (hz : ∀ b, Z b → Z' b) (hb : ∀ b, blk pv = some b → Z' b) : DR w Z' (.sl T97) (psAt l i) [pv] := by
  obtain ⟨css, h1, h2⟩ := h.pcs
  exact own_DR h1 h2 hz hb
/-- The table, taken for frozen. -/
theorem Deep.frozen {l : List D99} {us : List Value} (h : Deep w0 Z0 l i w Z v pv us) : DR w (fun b => Z b ∨ blk pv = some b ∨ blk v = some b) (.sl T99) l [v] := by
  refine tab_DR (Z := fun b => Z b ∨ blk pv = some b) h.len (fun k x u hx hu => ?_) h.row (fun b hb => hb.imp id .inl) (fun b hb => .inr (.inr hb))
  obtain ⟨h1, h2, h3⟩ := h.els k x u hx hu
  refine ⟨h1, ?_⟩
  by_cases e : k = i
  · have := h.pieces (Z' := fun b => Z b ∨ blk pv = some b) (fun _ h => .inl h) (fun _ h => .inr h)
    rw [h2 e]
    simpa only [psAt, ← e, hx] using this
  · exact (h3 e).mono (Same.refl _ _) fun _ h => .inl h
/-- The same where others have changed the world. -/
theorem Deep.world {l : List D99} {us : List Value} (h : Deep w0 Z0 l i w Z v pv us) (hk : Kept (fun _ => False) w w') : Deep w0 Z0 l i w' Z v pv us where
  kept := h.kept.trans hk fun _ h => h.elim
  zlt b hb := Nat.lt_of_lt_of_le (h.zlt b hb) hk.size
  zin := h.zin
  zout := h.zout
  len := h.len
  row := own_keep h.row hk fun _ _ h => h
  els k x u hx hu := ⟨(h.els k x u hx hu).1, (h.els k x u hx hu).2.1, fun e => ((h.els k x u hx hu).2.2 e).mono (hk.same fun _ _ h => h) fun _ h => h⟩
  pcs := by
    obtain ⟨css, h1, h2⟩ := h.pcs
    exact ⟨css, h1.mono fun _ _ hd => hd.mono (hk.same fun _ _ h => h) fun _ h => h, own_keep h2 hk fun _ _ h => h⟩
  vz := h.vz
  pz := h.pz
  vp := h.vp
theorem psAt_lt {l : List D99} {x : D99} (h : i ≠ l.length) : psAt (l ++ [x]) i = psAt l i := by
  unfold psAt
  rcases Nat.lt_or_ge i l.length with hlt | hge
  · rw [List.getElem?_append_left hlt]
  · rw [List.getElem?_append_right hge, List.getElem?_eq_none (l := l) hge, List.getElem?_eq_none (by simp; omega)]
theorem psAt_eq {l : List D99} {x : D99} : psAt (l ++ [x]) l.length = x.2.2.2.1 := by
  unfold psAt
  rw [List.getElem?_append_right (Nat.le_refl _)]
  simp
/-- One assembly more. -/
theorem Deep.snoc {l : List D99} {us : List Value} (h : Deep w0 Z0 l i w Z v pv us) {x : D99} (hk1 : Kept (fun _ => False) w w1) (hz1 : ∀ b, Z1 b → b < w1.heap.size ∧ blk v ≠ some b ∧ (b < w.heap.size → Z b)) (hx : AB x)
    {css : List (List Value)} (hc : All2 (DR w1 Z1 T97) x.2.2.2.1 css) (hu : w1.ownsRow 0 98 10 u x.2.2.2.1.length css.flatten) (hub : ∀ b, blk u = some b → ¬ Z1 b ∧ w.heap.size ≤ b)
    (hk2 : Kept (fun b => blk v = some b) w1 w2) (hr : w2.ownsRow 0 100 9 v' (l.length + 1) ((TC l us).flatten ++ AC x u)) (hb : ∀ b, blk v' = some b → blk v = some b ∨ w1.heap.size ≤ b) :
    ∃ Z' pv', Deep w0 Z0 (l ++ [x]) i w2 Z' v' pv' (us ++ [u]) ∧ (∀ b, Z1 b → Z' b) ∧ (∀ b, Z' b → Z b ∨ Z1 b ∨ blk u = some b) ∧ ∀ b, blk pv' = some b → blk pv = some b ∨ blk u = some b := by
  have hul := own_lt hu
  have hvl := own_lt h.row
  have hpl := h.plt
  have hk : Kept (fun b => blk v = some b) w w2 := (hk1.weak fun _ h => h.elim).trans hk2 fun b hb => .inl hb
  have hs : Same Z w w2 := hk.same fun b hZ e => (h.vz b e).1 hZ
  have hs0 : Same Z w w1 := hk1.same fun _ _ h => h
  have hs1 : Same (fun b => Z b ∨ Z1 b ∨ blk u = some b) w1 w2 := hk2.same fun b hZ e => by
    rcases hZ with q | q | q
    · exact (h.vz b e).1 q
    · exact (hz1 b q).2.1 e
    · have := hvl b e; have := (hub b q).2; omega
  have hzlt : ∀ b, Z b ∨ Z1 b ∨ blk u = some b → b < w1.heap.size := fun b hZ => by
    rcases hZ with q | q | q
    · exact Nat.lt_of_lt_of_le (h.zlt b q) hk1.size
    · exact (hz1 b q).1
    · exact hul b q
  have h0 : w0.heap.size ≤ w.heap.size := h.kept.size
  have hkept : Kept (fun _ => False) w0 w2 := ⟨hk.os.trans h.kept.os, hk.tape.trans h.kept.tape, hk.output.trans h.kept.output, Nat.le_trans h0 hk.size, fun k hk' _ => by
    rw [hk.block k (by omega) fun e => by have := (h.vz k e).2; omega]
    exact h.kept.block k hk' fun h => h⟩
  have hlen : (us ++ [u]).length = (l ++ [x]).length := by simp [h.len]
  have hrow : w2.ownsRow 0 100 9 v' (l ++ [x]).length (TC (l ++ [x]) (us ++ [u])).flatten := by
    rw [tc_snoc h.len, List.length_append]; exact hr
  have hels : ∀ (k : Nat) (y : D99) (t : Value), (l ++ [x])[k]? = some y → (us ++ [u])[k]? = some t → (k < l.length ∧ l[k]? = some y ∧ us[k]? = some t) ∨ (k = l.length ∧ y = x ∧ t = u) := by
    intro k y t hy ht
    rcases Nat.lt_trichotomy k l.length with q | q | q
    · rw [List.getElem?_append_left q] at hy
      rw [List.getElem?_append_left (by rw [h.len]; exact q)] at ht
      exact .inl ⟨q, hy, ht⟩
    · subst q
      rw [List.getElem?_append_right (Nat.le_refl _)] at hy
      rw [List.getElem?_append_right (by rw [h.len]; exact Nat.le_refl _)] at ht
      simp [h.len] at hy ht
      exact .inr ⟨rfl, hy.symm, ht.symm⟩
    · rw [List.getElem?_eq_none (by simp; omega)] at hy; cases hy
  by_cases e : i = l.length
  · refine ⟨fun b => Z b ∨ Z1 b, u, ?_, fun b hb => .inr hb, fun b hb => hb.imp id .inl, fun b hb => .inr hb⟩
    exact {
      kept := hkept
      zlt := fun b hZ => Nat.lt_of_lt_of_le (hzlt b (hZ.imp id .inl)) hk2.size
      zin := fun b hb => .inl (h.zin b hb)
      zout := fun b hZ hl => by
        rcases hZ with q | q
        · exact h.zout b q hl
        · exact h.zout b ((hz1 b q).2.2 (by omega)) hl
      len := hlen
      row := hrow
      els := fun k y t hy ht => by
        rcases hels k y t hy ht with ⟨q, q1, q2⟩ | ⟨rfl, rfl, rfl⟩
        · obtain ⟨a1, a2, a3⟩ := h.els k y t q1 q2
          exact ⟨a1, fun e' => by omega, fun _ => (a3 (by omega)).mono hs fun _ h => .inl h⟩
        · exact ⟨hx, fun _ => rfl, fun e' => absurd e.symm e'⟩
      pcs := by
        rw [e, psAt_eq]
        refine ⟨css, hc.mono fun _ _ hd => hd.mono (⟨hs1.size, fun b o hZ => hs1.cell b o (.inr (.inl hZ))⟩ : Same Z1 w1 w2) fun _ h => .inr h, own_keep hu hk2 fun b hb e => ?_⟩
        have := hvl b e; have := (hub b hb).2; omega
      vz := fun b hb' => by
        rcases hb b hb' with q | q
        · exact ⟨fun hZ => hZ.elim (h.vz b q).1 fun h1 => (hz1 b h1).2.1 q, (h.vz b q).2⟩
        · refine ⟨fun hZ => ?_, by have := hk1.size; omega⟩
          have := hzlt b (hZ.imp id .inl); omega
      pz := fun b hb' => ⟨fun hZ => hZ.elim (fun hZ => by have := h.zlt b hZ; have := (hub b hb').2; omega) (hub b hb').1, by have := (hub b hb').2; omega⟩
      vp := fun b hb1 hb2 => by
        rcases hb b hb1 with q | q
        · have := hvl b q; have := (hub b hb2).2; omega
        · have := hul b hb2; omega }
  · refine ⟨fun b => Z b ∨ Z1 b ∨ blk u = some b, pv, ?_, fun b hb => .inr (.inl hb), fun b hb => hb, fun b hb => .inl hb⟩
    exact {
      kept := hkept
      zlt := fun b hZ => Nat.lt_of_lt_of_le (hzlt b hZ) hk2.size
      zin := fun b hb => .inl (h.zin b hb)
      zout := fun b hZ hl => by
        rcases hZ with q | q | q
        · exact h.zout b q hl
        · exact h.zout b ((hz1 b q).2.2 (by omega)) hl
        · have := (hub b q).2; omega
      len := hlen
      row := hrow
      els := fun k y t hy ht => by
        rcases hels k y t hy ht with ⟨q, q1, q2⟩ | ⟨rfl, rfl, rfl⟩
        · obtain ⟨a1, a2, a3⟩ := h.els k y t q1 q2
          exact ⟨a1, a2, fun e' => (a3 e').mono hs fun _ h => .inl h⟩
        · refine ⟨hx, fun e' => absurd e'.symm e, fun _ => ?_⟩
          have hd : DR w1 (fun b => Z b ∨ Z1 b ∨ blk t = some b) (.sl T97) y.2.2.2.1 [t] := own_DR hc hu (fun _ h => .inr (.inl h)) fun _ h => .inr (.inr h)
          exact hd.mono hs1 fun _ h => h
      pcs := by
        rw [psAt_lt e]
        obtain ⟨ps, p1, p2⟩ := h.pcs
        exact ⟨ps, p1.mono fun _ _ hd => hd.mono hs fun _ h => .inl h, own_keep p2 hk fun b hb1 hb2 => h.vp b hb2 hb1⟩
      vz := fun b hb' => by
        rcases hb b hb' with q | q
        · refine ⟨fun hZ => ?_, (h.vz b q).2⟩
          rcases hZ with p | p | p
          · exact (h.vz b q).1 p
          · exact (hz1 b p).2.1 q
          · have := hvl b q; have := (hub b p).2; omega
        · refine ⟨fun hZ => ?_, by have := hk1.size; omega⟩
          have := hzlt b hZ; omega
      pz := fun b hb' => ⟨fun hZ => by
        rcases hZ with p | p | p
        · exact (h.pz b hb').1 p
        · exact (h.pz b hb').1 ((hz1 b p).2.2 (hpl b hb'))
        · have := hpl b hb'; have := (hub b p).2; omega, (h.pz b hb').2⟩
      vp := fun b hb1 hb2 => by
        rcases hb b hb1 with q | q
        · exact h.vp b q hb2
        · have := hpl b hb2; have := hk1.size; omega }
end
end Go.Proofs.Ytgbkkfpheahdfaa

namespace Go.Proofs.Ytgbkkfpheahdfaa
open Go
open Go.RowKit
set_option maxRecDepth 100000
set_option linter.unusedVariables false
abbrev CpH : Type := ((List D99) × Int × Int × Unit) × (Obj × Unit)
abbrev CpS : Type := ((List D99) × Int × Int × (List D97) × Int × Int × Unit) × (Obj × D99 × (List D97) × Unit)
abbrev CpE : Type := ((List D99) × Int × Int × Unit) × (Obj × D99 × (List D97) × Unit)
noncomputable def cp_s7 (N : Nat) (t_9 : (List D99)) (t_10 : Int) (t_11 : Int) (t_18 : (List D97)) (t_19 : Int) (t_20 : Int) (c : Obj) (b_6 : D99) (b_6_v : (List D97)) : Option (Lo CpS CpE CpE) :=
  bif (decide (t_20 < t_19)) then
    bif inR t_20 t_18.length then
    let x6 := t_18.getD t_20.toNat (((0 : Int), (0 : UInt64), (0 : UInt64), ()), ((0 : Int), (0 : UInt64), (0 : UInt64), ()), (0 : Int), (0 : Int), false, ([] : List UInt8), ())
    Option.bind (slices_Clone___byte_byte_ N x6.2.2.2.2.2.1) fun y7 =>
    bif room (b_6_v.length + ([(x6.1, x6.2.1, x6.2.2.1, x6.2.2.2.1, x6.2.2.2.2.1, y7.2.1, ())] : List D97).length) 96 then
    some (.go ((t_9, t_10, t_11, t_18, t_19, (w64 (t_20 + (1 : Int))), ()), (c, b_6, (b_6_v ++ ([(x6.1, x6.2.1, x6.2.2.1, x6.2.2.2.1, x6.2.2.2.2.1, y7.2.1, ())] : List D97)), ())))
    else none
    else none
  else
    some (.br ((t_9, t_10, t_11, ()), (c, b_6, b_6_v, ())))
noncomputable def cp_6 (N : Nat) (t_9 : (List D99)) (t_10 : Int) (t_11 : Int) (t_18 : (List D97)) (t_19 : Int) (t_20 : Int) (c : Obj) (b_6 : D99) (b_6_v : (List D97)) : Option CpE :=
  loopK N (fun (y : CpS) => cp_s7 N y.1.1 y.1.2.1 y.1.2.2.1 y.1.2.2.2.1 y.1.2.2.2.2.1 y.1.2.2.2.2.2.1 y.2.1 y.2.2.1 y.2.2.2.1) (fun (e : CpE) => some e) ((t_9, t_10, t_11, t_18, t_19, t_20, ()), (c, b_6, b_6_v, ()))
noncomputable def cp_5 (N : Nat) (t_9 : (List D99)) (t_10 : Int) (t_11 : Int) (c : Obj) : Option CpE :=
  bif inR t_11 t_9.length then
  let x3 := t_9.getD t_11.toNat (((0 : Int), (0 : UInt64), (0 : UInt64), ()), ((0 : Int), (0 : UInt64), (0 : UInt64), ()), (0 : Int), ([] : List D97), (0 : Int), ())
  cp_6 N t_9 t_10 t_11 x3.2.2.2.1 (x3.2.2.2.1.length : Int) (0 : Int) c (x3.1, x3.2.1, x3.2.2.1, x3.2.2.2.1, x3.2.2.2.2.1, ()) ([] : List D97)
  else none
noncomputable def cp_h (N : Nat) (t_9 : (List D99)) (t_10 : Int) (t_11 : Int) (c : Obj) : Option (Bool × CpH) :=
  bif (decide (t_11 < t_10)) then some (true, ((t_9, t_10, t_11, ()), (c, ()))) else some (false, ((t_9, t_10, t_11, ()), (c, ())))
noncomputable def cp_C (N : Nat) : Ctx := ⟨41, G_tys, [(74, slices_Clone___byte_byte__ctr N)], G_globs, G_ifs⟩
theorem cp_ctrs (N : Nat) : CtrsOk Try.prog (cp_C N) := ctrs_of (Γ := cp_C N) G_ifs_ok (by
  intro p hp
  simp only [cp_C, List.mem_cons, List.not_mem_nil, or_false] at hp
  rcases hp with rfl
  · exact slices_Clone___byte_byte__ok N)
noncomputable def cp_S0 : Spec := ⟨[.row 0, .ref 1 T99, .val (.sl T99), .val .i64, .val .i64, .val (.sl T97), .val .i64, .val .i64], [(.raw, .pos 0), (.srow 100 T99 3 2, .pos 1), (.row 98 T97, .inn 1)]⟩
noncomputable def cp_S1 : Spec := ⟨[.row 0, .val (.sl T99), .val .i64, .val .i64], [(.raw, .pos 0)]⟩
noncomputable def cp_S2 : Spec := ⟨[.row 0, .ref 1 T99, .val (.sl T99), .val .i64, .val .i64], [(.raw, .pos 0), (.srow 100 T99 3 2, .pos 1), (.row 98 T97, .inn 1)]⟩
noncomputable def cp_L : List Code := (bodyOf (some Try.f123))
noncomputable def cp_L2 : List Code := (loopOf (cp_L[3]?))
noncomputable def cp_L4b : List Code := (blockOf (cp_L2[2]?))
noncomputable def cp_cL : List Code := cp_L4b.take 5
noncomputable def cp_hL : List Code := cp_L2.take 2
noncomputable def cp_L7 : List Code := (loopOf (cp_cL[4]?))
noncomputable def cp_K (_N : Nat) : XE → GS → Option CpE
  | .normal, s => fit 1 [3, 6, 9, 10, 11] cp_S2 s
  | _, _ => none
noncomputable def cp_KH (_N : Nat) : XE → GS → Option (Bool × CpH)
  | .normal, s => (fit 1 [3, 9, 10, 11] cp_S1 s).map fun y => (true, y)
  | .exit 0, s => (fit 1 [3, 9, 10, 11] cp_S1 s).map fun y => (false, y)
  | _, _ => none
noncomputable def cp_K7 (N : Nat) : XE → GS → Option (Lo CpS CpE CpE) := roundK (some 2) (fit 1 [3, 6, 9, 10, 11, 18, 19, 20] cp_S0) (fit 1 [3, 6, 9, 10, 11] cp_S2) (cp_K N)
theorem cp_h_b {E : Env} (N : Nat) (hb : Base Try.prog (cp_C N) E 1) : Blk Try.prog (cp_C N) E [3, 9, 10, 11] cp_S1 (cp_hL.drop 0) (fun y => cp_h N y.1.1 y.1.2.1 y.1.2.2.1 y.2.1) (cp_KH N) :=
  Blk.chunkAt hb 2 (X := (cp_KH N .normal)) (NxOk.end (by kernel_rfl)) rfl (fun x => by kernel_rfl)
theorem cp_s7_b {E : Env} (N : Nat) (hb : Base Try.prog (cp_C N) E 1) : Blk Try.prog (cp_C N) E [3, 6, 9, 10, 11, 18, 19, 20] cp_S0 (cp_L7.drop 0) (fun y => cp_s7 N y.1.1 y.1.2.1 y.1.2.2.1 y.1.2.2.2.1 y.1.2.2.2.2.1 y.1.2.2.2.2.2.1 y.2.1 y.2.2.1 y.2.2.2.1) (cp_K7 N) :=
  Blk.chunkAt hb 4 (X := (cp_K7 N .normal)) (NxOk.end (by kernel_rfl)) rfl (fun x => by kernel_rfl)
theorem cp_6_b {E : Env} (N : Nat) (hb : Base Try.prog (cp_C N) E 1) : Blk Try.prog (cp_C N) E [3, 6, 9, 10, 11, 18, 19, 20] cp_S0 (cp_cL.drop 4) (fun y => cp_6 N y.1.1 y.1.2.1 y.1.2.2.1 y.1.2.2.2.1 y.1.2.2.2.2.1 y.1.2.2.2.2.2.1 y.2.1 y.2.2.1 y.2.2.2.1) (cp_K N) :=
  Blk.loopAt (Nf := N) (hns := [3, 6, 9, 10, 11, 18, 19, 20]) (ans := [3, 6, 9, 10, 11]) (hc := cp_S0) (ac := cp_S2) (bid := 2) (step := (fun y => cp_s7 N y.1.1 y.1.2.1 y.1.2.2.1 y.1.2.2.2.1 y.1.2.2.2.2.1 y.1.2.2.2.2.2.1 y.2.1 y.2.2.1 y.2.2.2.1)) (J := (fun e => some e)) hb (by kernel_rfl) (Blk.into (X := (cp_K N .normal)) (NxOk.end (by kernel_rfl)) (fun x => by kernel_rfl)) (cp_s7_b N hb) (fun x => by kernel_rfl)
theorem cp_5_b {E : Env} (N : Nat) (hb : Base Try.prog (cp_C N) E 1) : Blk Try.prog (cp_C N) E [3, 9, 10, 11] cp_S1 (cp_cL.drop 0) (fun y => cp_5 N y.1.1 y.1.2.1 y.1.2.2.1 y.2.1) (cp_K N) :=
  Blk.chunkAt hb 4 (X := (goK 1 [3, 6, 9, 10, 11, 18, 19, 20] cp_S0 (fun y => cp_6 N y.1.1 y.1.2.1 y.1.2.2.1 y.1.2.2.2.1 y.1.2.2.2.2.1 y.1.2.2.2.2.2.1 y.2.1 y.2.2.1 y.2.2.2.1))) (NxOk.go hb (cp_6_b N hb)) rfl (fun x => by kernel_rfl)
end Go.Proofs.Ytgbkkfpheahdfaa

namespace Go.Proofs.Ytgbkkfpheahdfaa
open Go
open Go.RowKit
set_option maxRecDepth 100000
theorem len41 : ∀ {l : List Value}, l.length = 41 → ∃ x0 x1 x2 x3 x4 x5 x6 x7 x8 x9 x10 x11 x12 x13 x14 x15 x16 x17 x18 x19 x20 x21 x22 x23 x24 x25 x26 x27 x28 x29 x30 x31 x32 x33 x34 x35 x36 x37 x38 x39 x40, l = [x0, x1, x2, x3, x4, x5, x6, x7, x8, x9, x10, x11, x12, x13, x14, x15, x16, x17, x18, x19, x20, x21, x22, x23, x24, x25, x26, x27, x28, x29, x30, x31, x32, x33, x34, x35, x36, x37, x38, x39, x40] := by
  intro l h
  obtain _ | ⟨x0, l⟩ := l
  · exfalso; simp only [List.length_cons, List.length_nil] at h; omega
  obtain _ | ⟨x1, l⟩ := l
  · exfalso; simp only [List.length_cons, List.length_nil] at h; omega
  obtain _ | ⟨x2, l⟩ := l
  · exfalso; simp only [List.length_cons, List.length_nil] at h; omega
  obtain _ | ⟨x3, l⟩ := l
  · exfalso; simp only [List.length_cons, List.length_nil] at h; omega
  obtain _ | ⟨x4, l⟩ := l
  · exfalso; simp only [List.length_cons, List.length_nil] at h; omega
  obtain _ | ⟨x5, l⟩ := l
  · exfalso; simp only [List.length_cons, List.length_nil] at h; omega
  obtain _ | ⟨x6, l⟩ := l
  · exfalso; simp only [List.length_cons, List.length_nil] at h; omega
  obtain _ | ⟨x7, l⟩ := l
  · exfalso; simp only [List.length_cons, List.length_nil] at h; omega
  obtain _ | ⟨x8, l⟩ := l
  · exfalso; simp only [List.length_cons, List.length_nil] at h; omega
  obtain _ | ⟨x9, l⟩ := l
  · exfalso; simp only [List.length_cons, List.length_nil] at h; omega
  obtain _ | ⟨x10, l⟩ := l
  · exfalso; simp only [List.length_cons, List.length_nil] at h; omega
  obtain _ | ⟨x11, l⟩ := l
  · exfalso; simp only [List.length_cons, List.length_nil] at h; omega
  obtain _ | ⟨x12, l⟩ := l
  · exfalso; simp only [List.length_cons, List.length_nil] at h; omega
  obtain _ | ⟨x13, l⟩ := l
  · exfalso; simp only [List.length_cons, List.length_nil] at h; omega
  obtain _ | ⟨x14, l⟩ := l
  · exfalso; simp only [List.length_cons, List.length_nil] at h; omega
  obtain _ | ⟨x15, l⟩ := l
  · exfalso; simp only [List.length_cons, List.length_nil] at h; omega
  obtain _ | ⟨x16, l⟩ := l
  · exfalso; simp only [List.length_cons, List.length_nil] at h; omega
  obtain _ | ⟨x17, l⟩ := l
  · exfalso; simp only [List.length_cons, List.length_nil] at h; omega
  obtain _ | ⟨x18, l⟩ := l
  · exfalso; simp only [List.length_cons, List.length_nil] at h; omega
  obtain _ | ⟨x19, l⟩ := l
  · exfalso; simp only [List.length_cons, List.length_nil] at h; omega
  obtain _ | ⟨x20, l⟩ := l
  · exfalso; simp only [List.length_cons, List.length_nil] at h; omega
  obtain _ | ⟨x21, l⟩ := l
  · exfalso; simp only [List.length_cons, List.length_nil] at h; omega
  obtain _ | ⟨x22, l⟩ := l
  · exfalso; simp only [List.length_cons, List.length_nil] at h; omega
  obtain _ | ⟨x23, l⟩ := l
  · exfalso; simp only [List.length_cons, List.length_nil] at h; omega
  obtain _ | ⟨x24, l⟩ := l
  · exfalso; simp only [List.length_cons, List.length_nil] at h; omega
  obtain _ | ⟨x25, l⟩ := l
  · exfalso; simp only [List.length_cons, List.length_nil] at h; omega
  obtain _ | ⟨x26, l⟩ := l
  · exfalso; simp only [List.length_cons, List.length_nil] at h; omega
  obtain _ | ⟨x27, l⟩ := l
  · exfalso; simp only [List.length_cons, List.length_nil] at h; omega
  obtain _ | ⟨x28, l⟩ := l
  · exfalso; simp only [List.length_cons, List.length_nil] at h; omega
  obtain _ | ⟨x29, l⟩ := l
  · exfalso; simp only [List.length_cons, List.length_nil] at h; omega
  obtain _ | ⟨x30, l⟩ := l
  · exfalso; simp only [List.length_cons, List.length_nil] at h; omega
  obtain _ | ⟨x31, l⟩ := l
  · exfalso; simp only [List.length_cons, List.length_nil] at h; omega
  obtain _ | ⟨x32, l⟩ := l
  · exfalso; simp only [List.length_cons, List.length_nil] at h; omega
  obtain _ | ⟨x33, l⟩ := l
  · exfalso; simp only [List.length_cons, List.length_nil] at h; omega
  obtain _ | ⟨x34, l⟩ := l
  · exfalso; simp only [List.length_cons, List.length_nil] at h; omega
  obtain _ | ⟨x35, l⟩ := l
  · exfalso; simp only [List.length_cons, List.length_nil] at h; omega
  obtain _ | ⟨x36, l⟩ := l
  · exfalso; simp only [List.length_cons, List.length_nil] at h; omega
  obtain _ | ⟨x37, l⟩ := l
  · exfalso; simp only [List.length_cons, List.length_nil] at h; omega
  obtain _ | ⟨x38, l⟩ := l
  · exfalso; simp only [List.length_cons, List.length_nil] at h; omega
  obtain _ | ⟨x39, l⟩ := l
  · exfalso; simp only [List.length_cons, List.length_nil] at h; omega
  obtain _ | ⟨x40, l⟩ := l
  · exfalso; simp only [List.length_cons, List.length_nil] at h; omega
  cases l with
  | cons _ _ => exfalso; simp only [List.length_cons] at h; omega
  | nil => exact ⟨x0, x1, x2, x3, x4, x5, x6, x7, x8, x9, x10, x11, x12, x13, x14, x15, x16, x17, x18, x19, x20, x21, x22, x23, x24, x25, x26, x27, x28, x29, x30, x31, x32, x33, x34, x35, x36, x37, x38, x39, x40, rfl⟩

theorem act41 {a : Act} (hd : a.defers = []) (hs : a.tmps.size = 41) : ∃ x0 x1 x2 x3 x4 x5 x6 x7 x8 x9 x10 x11 x12 x13 x14 x15 x16 x17 x18 x19 x20 x21 x22 x23 x24 x25 x26 x27 x28 x29 x30 x31 x32 x33 x34 x35 x36 x37 x38 x39 x40 : Value, a = ⟨#[x0, x1, x2, x3, x4, x5, x6, x7, x8, x9, x10, x11, x12, x13, x14, x15, x16, x17, x18, x19, x20, x21, x22, x23, x24, x25, x26, x27, x28, x29, x30, x31, x32, x33, x34, x35, x36, x37, x38, x39, x40], []⟩ := by
  obtain ⟨⟨l⟩, d⟩ := a
  subst hd
  obtain ⟨x0, x1, x2, x3, x4, x5, x6, x7, x8, x9, x10, x11, x12, x13, x14, x15, x16, x17, x18, x19, x20, x21, x22, x23, x24, x25, x26, x27, x28, x29, x30, x31, x32, x33, x34, x35, x36, x37, x38, x39, x40, rfl⟩ := len41 (show l.length = 41 from hs)
  exact ⟨x0, x1, x2, x3, x4, x5, x6, x7, x8, x9, x10, x11, x12, x13, x14, x15, x16, x17, x18, x19, x20, x21, x22, x23, x24, x25, x26, x27, x28, x29, x30, x31, x32, x33, x34, x35, x36, x37, x38, x39, x40, rfl⟩
theorem cp_6_eq {N : Nat} {ps : List D97} (hN : ps.length < N) (hp : ps.length ≤ 1000) (hd : ∀ p ∈ ps, p.2.2.2.2.2.1.length ≤ 100000) (t9 : List D99) (t10 t11 : Int) (c : Obj) (b : D99) :
    cp_6 N t9 t10 t11 ps (ps.length : Int) 0 c b [] = some ((t9, t10, t11, ()), (c, b, ps, ())) := by
  unfold cp_6
  refine loopK_run (fun k => (((t9, t10, t11, ps, (ps.length : Int), (k : Int), ()), (c, b, ps.take k, ())) : CpS)) (n := ps.length) (fun k hk => ?_) (e := ((t9, t10, t11, ()), (c, b, ps, ()))) ?_ hN
  · have h1 : (decide ((k : Int) < (ps.length : Int))) = true := decide_eq_true (by omega)
    have h2 : inR (k : Int) ps.length = true := by simp [inR]; omega
    show cp_s7 N t9 t10 t11 ps (ps.length : Int) (k : Int) c b (ps.take k) = _
    unfold cp_s7
    rw [h1, h2, Int.toNat_natCast, show ps.getD k _ = ps[k] by simp [List.getD, hk]]
    have h3 := hd ps[k] (List.getElem_mem hk)
    generalize hq : ps[k] = q at h3 ⊢
    obtain ⟨q1, q2, q3, q4, q5, q6, u⟩ := q
    have h4 : slices_Clone___byte_byte_ N q6 = some ((), (q6, ())) := by
      unfold slices_Clone___byte_byte_
      have : room (([] : List UInt8).length + q6.length) 1 = true := by simp [room]; simp at h3; omega
      rw [this]; rfl
    simp only [cond_true, h4, Option.bind_some]
    have h5 : room ((ps.take k).length + [((q1, q2, q3, q4, q5, q6, ()) : D97)].length) 96 = true := by simp [room]; omega
    rw [h5]
    have h6 : w64 ((k : Int) + 1) = ((k + 1 : Nat) : Int) := by unfold w64; rw [IntKind.wrap_i64]; omega
    rw [h6, cond_true, List.take_succ_eq_append_getElem hk, hq]
  · show cp_s7 N t9 t10 t11 ps (ps.length : Int) (ps.length : Int) c b (ps.take ps.length) = _
    unfold cp_s7
    rw [show (decide ((ps.length : Int) < (ps.length : Int))) = false by simp, cond_false, List.take_length]
theorem cp_5_eq {N : Nat} {l : List D99} {j : Nat} {x : D99} (hj : l[j]? = some x) (hN : x.2.2.2.1.length < N) (hp : x.2.2.2.1.length ≤ 1000) (hd : ∀ p ∈ x.2.2.2.1, p.2.2.2.2.2.1.length ≤ 100000) (n : Int) (c : Obj) :
    cp_5 N l n (j : Int) c = some ((l, n, (j : Int), ()), (c, x, x.2.2.2.1, ())) := by
  have hlt := (List.getElem?_eq_some_iff.1 hj).1
  have h2 : inR (j : Int) l.length = true := by simp [inR]; omega
  unfold cp_5
  rw [h2, Int.toNat_natCast, cond_true, show l.getD j _ = x by simp [List.getD, hj]]
  obtain ⟨x1, x2, x3, x4, x5, u⟩ := x
  exact cp_6_eq hN hp hd l n _ c _
theorem listWp_block {P : Program} {l : List Code} {i bid : Nat} (hi : isBlock bid (l[i]?) = true) {Q : Exit → Act → World → Prop} {a : Act} {w : World}
    (h : listWp P (blockOf (l[i]?)) (Exit.inBlock bid (Exit.then (listWp P (l.drop (i + 1)) Q) Q)) a w) : listWp P (l.drop i) Q a w := by
  unfold isBlock at hi
  split at hi
  · rename_i id b hl
    have e := Nat.eq_of_beq_eq_true hi
    subst e
    rw [drop_at hl]
    rw [hl] at h
    exact wp_block (flat_wp h)
  · cases hi
theorem cp_rep {w : World} {Z : Nat → Prop} {l : List D99} {n j : Nat} {v lv : Value} {c : Obj} {a : Act} (hd : a.defers = []) (hs : a.tmps.size = 41) (h3 : a.tmps.getD 3 undef = v) (h9 : a.tmps.getD 9 undef = lv) (h10 : a.tmps.getD 10 undef = .int .i64 n)
    (h11 : a.tmps.getD 11 undef = .int .i64 j) (hl : DR w Z (.sl T99) l [lv]) (hn : n ≤ 1000000) (hj : j ≤ n) (hc : ∀ g, blk v = some g → w.heap[g]? = some c) (hz : ∀ b, Z b → b < w.heap.size) (hv : ∀ b, blk v = some b → ¬ Z b) :
    RepOk ⟨w, fun b => blk v = some b, Z, [(0, v)], []⟩ 41 (cp_S1.st [3, 9, 10, 11] ((l, (n : Int), (j : Int), ()), (c, ()))) a w := by
  refine ⟨fun k => k < 1, fun _ => v, Z, ?_, fun k hk => hk⟩
  have b1 : -9223372036854775808 ≤ (n : Int) := by omega
  have b2 : (n : Int) ≤ 9223372036854775807 := by omega
  have b3 : -9223372036854775808 ≤ (j : Int) := by omega
  have b4 : (j : Int) ≤ 9223372036854775807 := by omega
  exact {
    defers := hd
    size := hs
    kept := Kept.refl _ _
    zlt := hz
    z0 := fun b hb _ => .inl hb
    slots := by
      intro m g hl'
      obtain ⟨i, e1, e2⟩ := look_zip hl'
      match i with
      | 0 => cases e1; cases e2; exact ⟨by omega, h3, by show 0 < 1; omega⟩
      | 1 => cases e1; cases e2; exact ⟨by omega, ⟨[lv], hl, h9⟩, trivial⟩
      | 2 => cases e1; cases e2; exact ⟨by omega, ⟨_, ⟨rfl, b1, b2⟩, h10⟩, trivial⟩
      | 3 => cases e1; cases e2; exact ⟨by omega, ⟨_, ⟨rfl, b3, b4⟩, h11⟩, trivial⟩
      | k + 4 => simp at e1
    objs := by
      intro i o hl'
      have := look_number hl'
      obtain ⟨_, e⟩ := this
      rw [Nat.sub_zero] at e
      match i with
      | 0 => cases e; exact ⟨by omega, hc, trivial⟩
      | k + 1 => simp [cp_S1, stOs] at e
    own := fun i o hl' _ b hb => ⟨hv b hb, .inl hb⟩
    apart := by
      intro i j o o' hij h1 h2
      have e1 := (look_number h1).2
      have e2 := (look_number h2).2
      rw [Nat.sub_zero] at e1 e2
      match i, j with
      | 0, 0 => exact absurd rfl hij
      | k + 1, _ => simp [cp_S1, stOs] at e1
      | 0, k + 1 => simp [cp_S1, stOs] at e2
    globs := fun g d hl' => by simp [look] at hl'
    pins := fun p hp => by
      obtain rfl := List.mem_singleton.1 hp
      exact ⟨rfl, by show 0 < 1; omega⟩ }
end Go.Proofs.Ytgbkkfpheahdfaa

namespace Go.Proofs.Ytgbkkfpheahdfaa
open Go
open Go.RowKit
set_option maxRecDepth 100000
theorem cp_R13 : cp_L4b.drop 5 = [.region 13 #[⟨some 35, .move (.tmp 3), 94, "ipfrag.go:75", #[], none⟩, ⟨some 36, .load 100 (.tmp 6), 100, "ipfrag.go:75", #[], none⟩, ⟨some 37, .buildSlice 94 1 #[(0, (.tmp 36))], 94, "ipfrag.go:75", #[⟨1, .data⟩], none⟩, ⟨some 38, .call ⟨.builtin .append, #[(.tmp 35), (.tmp 37)], #[94, 94]⟩, 94, "ipfrag.go:75", #[⟨0, .data⟩, ⟨2, .data⟩], none⟩, ⟨some 3, .assign (.tmp 38), 94, "ipfrag.go:75", #[⟨3, .data⟩, ⟨3, .chain⟩, ⟨0, .phase⟩, ⟨1, .phase⟩, ⟨2, .phase⟩, ⟨3, .phase⟩], none⟩] false] := by kernel_rfl
theorem cp_R14 : cp_L2.drop 3 = [.region 14 #[⟨some 39, .binOp .add 3 (.tmp 11) (.const (.int .i64 1)) 3, 3, "ipfrag.go:68", #[], none⟩, ⟨some 11, .move (.tmp 39), 3, "ipfrag.go:68", #[⟨0, .data⟩], none⟩] false] := by kernel_rfl
theorem cp_base {N : Nat} {w : World} {v : Value} {Z : Nat → Prop} : Base Try.prog (cp_C N) ⟨w, fun b => blk v = some b, Z, [(0, v)], []⟩ 1 where
  mixed := ip_mixed
  tys := tys_ok G_tys_ok
  ctrs := cp_ctrs N
  globs := rfl
  pins := fun p hp => by obtain rfl := List.mem_singleton.1 hp; exact Nat.lt_succ_self 0
/-- What stands in memory behind the inner part of a round. -/
theorem cp_got {w w2 : World} {v : Value} {Z : Nat → Prop} {l : List D99} {n j : Nat} {c : Obj} {x : D99} {ps : List D97} {a : Act} (h : RepOk ⟨w, fun b => blk v = some b, Z, [(0, v)], []⟩ 41 (cp_S2.st [3, 6, 9, 10, 11] ((l, (n : Int), (j : Int), ()), (c, x, ps, ()))) a w2) :
    a.defers = [] ∧ a.tmps.size = 41 ∧ a.tmps.getD 3 undef = v ∧ a.tmps.getD 10 undef = .int .i64 n ∧ a.tmps.getD 11 undef = .int .i64 j ∧
    ∃ Z1 g u css, a.tmps.getD 6 undef = .pointer (some ⟨g, 0, none⟩) ∧ w2.heap[g]? = some (.cells (AC x u).toArray 100 (0, 0)) ∧ AB x ∧ All2 (DR w2 Z1 T97) ps css ∧ w2.ownsRow 0 98 10 u ps.length css.flatten ∧
      (∀ b, Z1 b → b < w2.heap.size ∧ blk v ≠ some b ∧ (b < w.heap.size → Z b)) ∧ (∀ b, blk u = some b → ¬ Z1 b ∧ w.heap.size ≤ b) ∧ Kept (fun b => blk v = some b) w w2 ∧ (∀ b, blk v = some b → w2.heap[b]? = some c) ∧ u.oneCell' = true ∧ ∃ lv, a.tmps.getD 9 undef = lv ∧ DR w2 Z1 (.sl T99) l [lv] := by
  obtain ⟨U, ob, Z1, hr, hU⟩ := h
  have s3 := (hr.slots 3 (.sv (.row 0)) rfl).2.1
  have s6 := (hr.slots 6 (.sv (.ref 1 T99 [])) rfl).2.1
  have s9 : ∃ lv, a.tmps.getD 9 undef = lv ∧ DR w2 Z1 (.sl T99) l [lv] := by
    obtain ⟨vs, d1, d2⟩ := (hr.slots 9 (.sv (.data (.sl T99) l)) rfl).2.1
    obtain ⟨u, rfl⟩ := List.length_eq_one_iff.1 d1.len
    exact ⟨u, d2, d1⟩
  have s10 := (hr.slots 10 (.sv (.data .i64 (n : Int))) rfl).2.1
  have s11 := (hr.slots 11 (.sv (.data .i64 (j : Int))) rfl).2.1
  have o0 := (hr.objs 0 (.raw c) rfl).2.1
  have o1 := (hr.objs 1 (.sbox 100 T99 x 3 (.row 2)) rfl).2.1
  have o2 := (hr.objs 2 (.row 98 T97 ps true) rfl).2.1
  have hp : ob 0 = v := (hr.pins (0, v) (by simp)).1
  have e3 : a.tmps.getD 3 undef = v := (show a.tmps.getD 3 undef = ob 0 from s3).trans hp
  obtain ⟨g, q1, q2, _⟩ := s6
  obtain ⟨g', vs, u, p1, p2, p3, p4, p5, _⟩ := o1
  have hg : g' = g := by rw [p1] at q1; cases q1; rfl
  subst hg
  obtain rfl : u = ob 2 := p3
  obtain ⟨u0, rfl, hx, _⟩ := dr_asm p2
  obtain ⟨css, c1, c2, _⟩ := o2
  have own0 := hr.own 0 (.raw c) rfl rfl
  have own2 := hr.own 2 (.row 98 T97 ps true) rfl rfl
  have ap := hr.apart 0 2 _ _ (by omega) (show look 0 _ = some (Ob.raw c) from rfl) (show look 2 _ = some (.row 98 T97 ps true) from rfl) rfl rfl
  rw [hp] at own0 ap
  refine ⟨hr.defers, hr.size, e3, (SR.i64 (ob := ob) s10).1, (SR.i64 (ob := ob) s11).1, Z1, g', ob 2, css, q2, p4, hx, c1, c2, fun b hb => ⟨hr.zlt b hb, fun e => (own0 b e).1 hb, fun hlt => ?_⟩, fun b hb => ⟨(own2 b hb).1, ?_⟩, hr.kept, ?_, p5, s9⟩
  · rcases hr.z0 b hb hlt with q | q
    · exact q
    · exact absurd hb (own0 b q).1
  · rcases (own2 b hb).2 with q | q
    · exact absurd hb (ap b q)
    · exact q
  · intro b hb
    have := o0 b
    rw [hp] at this
    exact this hb
/-- What stands in memory behind the head of a round. -/
theorem cp_got1 {w w2 : World} {v : Value} {Z : Nat → Prop} {l : List D99} {n j : Int} {c : Obj} {a : Act} (h : RepOk ⟨w, fun b => blk v = some b, Z, [(0, v)], []⟩ 41 (cp_S1.st [3, 9, 10, 11] ((l, n, j, ()), (c, ()))) a w2) :
    a.defers = [] ∧ a.tmps.size = 41 ∧ a.tmps.getD 3 undef = v ∧ Kept (fun b => blk v = some b) w w2 ∧ ∀ b, blk v = some b → w2.heap[b]? = some c := by
  obtain ⟨U, ob, Z1, hr, hU⟩ := h
  have s3 := (hr.slots 3 (.sv (.row 0)) rfl).2.1
  have o0 := (hr.objs 0 (.raw c) rfl).2.1
  have hp : ob 0 = v := (hr.pins (0, v) (by simp)).1
  refine ⟨hr.defers, hr.size, (show a.tmps.getD 3 undef = ob 0 from s3).trans hp, hr.kept, fun b hb => ?_⟩
  have := o0 b
  rw [hp] at this
  exact this hb
theorem kept_raw {w w2 : World} {v : Value} {c : Obj} (hk : Kept (fun b => blk v = some b) w w2) (hc : ∀ b, blk v = some b → w.heap[b]? = some c) (hc2 : ∀ b, blk v = some b → w2.heap[b]? = some c) : Kept (fun _ => False) w w2 :=
  ⟨hk.os, hk.tape, hk.output, hk.size, fun k h _ => by
    by_cases e : blk v = some k
    · rw [hc2 k e, hc k e]
    · exact hk.block k h e⟩
end Go.Proofs.Ytgbkkfpheahdfaa

namespace Go.Proofs.Ytgbkkfpheahdfaa
open Go
open Go.RowKit
set_option maxRecDepth 100000
theorem one_i {k : IntKind} {x : Int} : (Value.int k x).oneCell' = true := rfl
theorem ac_one {x : D99} {u : Value} (h : u.oneCell' = true) : ∀ v ∈ AC x u, v.oneCell' = true := by
  intro v hv
  simp only [AC, List.mem_cons, List.not_mem_nil, or_false] at hv
  rcases hv with rfl | rfl | rfl | rfl | rfl | rfl | rfl | rfl | rfl <;> first | rfl | exact h
set_option maxHeartbeats 4000000 in
/-- An assembly is appended to the table, and the next round begins. -/
theorem cp_tail {Q : Exit → Act → World → Prop} {a : Act} {w : World} {v u : Value} {g n j : Nat} {x : D99} {xs : List Value} (hd : a.defers = []) (hs : a.tmps.size = 41) (h3 : a.tmps.getD 3 undef = v) (h6 : a.tmps.getD 6 undef = .pointer (some ⟨g, 0, none⟩))
    (h11 : a.tmps.getD 11 undef = .int .i64 j) (hj : j ≤ 1000000) (hb : w.heap[g]? = some (.cells (AC x u).toArray 100 (0, 0))) (hown : w.ownsRow 0 100 9 v n xs) (hn : n ≤ 1000000) (hu : u.oneCell' = true)
    (hQ : ∀ a' w' v', a'.defers = [] → a'.tmps.size = 41 → a'.tmps.getD 3 undef = v' → a'.tmps.getD 9 undef = a.tmps.getD 9 undef → a'.tmps.getD 10 undef = a.tmps.getD 10 undef → a'.tmps.getD 11 undef = .int .i64 ((j + 1 : Nat) : Int) →
      w'.ownsRow 0 100 9 v' (n + 1) (xs ++ AC x u) → Kept (fun b => blk v = some b) w w' → (∀ b, blk v' = some b → blk v = some b ∨ w.heap.size ≤ b) → Q .normal a' w') :
    (.region 13 #[⟨some 35, .move (.tmp 3), 94, "ipfrag.go:75", #[], none⟩, ⟨some 36, .load 100 (.tmp 6), 100, "ipfrag.go:75", #[], none⟩, ⟨some 37, .buildSlice 94 1 #[(0, (.tmp 36))], 94, "ipfrag.go:75", #[⟨1, .data⟩], none⟩, ⟨some 38, .call ⟨.builtin .append, #[(.tmp 35), (.tmp 37)], #[94, 94]⟩, 94, "ipfrag.go:75", #[⟨0, .data⟩, ⟨2, .data⟩], none⟩, ⟨some 3, .assign (.tmp 38), 94, "ipfrag.go:75", #[⟨3, .data⟩, ⟨3, .chain⟩, ⟨0, .phase⟩, ⟨1, .phase⟩, ⟨2, .phase⟩, ⟨3, .phase⟩], none⟩] false : Code).wp Try.prog (Exit.inBlock 1 (Exit.then (listWp Try.prog [.region 14 #[⟨some 39, .binOp .add 3 (.tmp 11) (.const (.int .i64 1)) 3, 3, "ipfrag.go:68", #[], none⟩, ⟨some 11, .move (.tmp 39), 3, "ipfrag.go:68", #[⟨0, .data⟩], none⟩] false] Q) Q)) a w := by
  have mixed := ip_mixed
  obtain ⟨i0, hi0, hzs, hzb, hz0⟩ := i100
  obtain ⟨W, hW⟩ : ∃ W, W = w.alloc (.cells (AC x u).toArray 100) := ⟨_, rfl⟩
  have hk1 : Kept (fun _ => False) w W := by rw [hW]; exact Kept.alloc _ _
  have hown1 : W.ownsRow 0 100 9 v n xs := own_keep hown hk1 fun _ _ h => h
  have hcells : ∀ k t, (AC x u)[k]? = some t → W.cell? ((⟨w.heap.size, 0, none⟩ : Addr).add k) = some t := fun k t hk => by
    rw [Addr.add_lit, Nat.zero_add, hW]
    exact cell_at (heap_alloc_new w _) hk
  obtain ⟨v', w', hr, q1, q2, _, q5⟩ := run_append_own_at (P := Try.prog) W 0 94 94 100 i0 Z100 9 88 u94 hi0 hz0 hzs hzb rfl (by omega) v n xs hown1 ⟨w.heap.size, 0, none⟩ 1 1 (AC x u) rfl hcells (ac_one hu) (by unfold maxLen; omega) (by omega) (Nat.zero_le _)
  have hfin : w'.ownsRow 0 100 9 v' (n + 1) (xs ++ AC x u) ∧ Kept (fun b => blk v = some b) w w' ∧ ∀ b, blk v' = some b → blk v = some b ∨ w.heap.size ≤ b := by
    refine ⟨q1, (hk1.weak fun _ h => h.elim).trans ((Kept.of_grown q2).weak fun b hb => by rw [rowBlk hown] at hb; exact hb) fun b hb => .inl hb, fun b hb => ?_⟩
    rw [← rowBlk q1] at hb
    rcases q5 with q | q
    · rw [q, rowBlk hown] at hb; exact .inl hb
    · rw [q] at hb; cases hb; exact .inr hk1.size
  obtain ⟨f1, f2, f3⟩ := hfin
  obtain ⟨x0, x1, x2, x3, x4, x5, x6, x7, x8, x9, x10, x11, x12, x13, x14, x15, x16, x17, x18, x19, x20, x21, x22, x23, x24, x25, x26, x27, x28, x29, x30, x31, x32, x33, x34, x35, x36, x37, x38, x39, x40, rfl⟩ := act41 hd hs
  obtain rfl : x3 = v := h3
  obtain rfl : x6 = .pointer (some ⟨g, 0, none⟩) := h6
  obtain rfl : x11 = .int .i64 j := h11
  have hQ' := fun a' w' e1 e2 e3 e4 e5 e6 => hQ a' w' v' e1 e2 e3 e4 e5 e6
  have e0 := fun o => blk_cell hb o 0
  subst hW
  have k0 := cell_of_row w g 0 _ 100 (0, 0) hb
  have k1 := cell_of_row w g 1 _ 100 (0, 0) hb
  have k2 := cell_of_row w g 2 _ 100 (0, 0) hb
  have k3 := cell_of_row w g 3 _ 100 (0, 0) hb
  have k4 := cell_of_row w g 4 _ 100 (0, 0) hb
  have k5 := cell_of_row w g 5 _ 100 (0, 0) hb
  have k6 := cell_of_row w g 6 _ 100 (0, 0) hb
  have k7 := cell_of_row w g 7 _ 100 (0, 0) hb
  have k8 := cell_of_row w g 8 _ 100 (0, 0) hb
  simp only [AC, List.getElem?_toArray, List.getElem?_cons_zero, List.getElem?_cons_succ] at k0 k1 k2 k3 k4 k5 k6 k7 k8 hr
  clear hd hs hb hown hown1 hcells q1 q2 q5 hQ e0
  go_wp2_with (at_builtin; refine Lib.wpList_append_run _ rfl _ _ _ _ rfl _ _ rfl rfl _ _ hr ?_)
  have hw : IntKind.i64.wrap ((j : Int) + 1) = (j : Int) + 1 := by rw [IntKind.wrap_i64]; omega
  clear hr
  show (.region 14 #[⟨some 39, .binOp .add 3 (.tmp 11) (.const (.int .i64 1)) 3, 3, "ipfrag.go:68", #[], none⟩, ⟨some 11, .move (.tmp 39), 3, "ipfrag.go:68", #[⟨0, .data⟩], none⟩] false : Code).wp Try.prog (Exit.then (listWp Try.prog [] Q) Q) _ _
  go_wp2
  exact hQ' _ _ rfl rfl rfl rfl rfl (by go_num) f1 f2 f3
set_option maxHeartbeats 4000000 in
/-- ipfrag.copies. -/
theorem copies_calls {w0 : World} {Z0 : Nat → Prop} {l : List D99} {lv : Value} (i : Nat) (hl : DR w0 Z0 (.sl T99) l [lv]) (hz : ∀ b, Z0 b → b < w0.heap.size) (hsz : l.length ≤ 1000)
    (hps : ∀ x ∈ l, x.2.2.2.1.length ≤ 1000 ∧ ∀ p ∈ x.2.2.2.1, p.2.2.2.2.2.1.length ≤ 100000) :
    Calls Try.prog 123 #[lv] w0 fun e w' => ∃ v pv Z us, e = .returned v ∧ Deep w0 Z0 l i w' Z v pv us := by
  have mixed := ip_mixed
  have hlen : ∃ A c, lv = .slice A l.length c := by
    obtain ⟨A, c, e, _⟩ := hl
    exact ⟨A, c, List.head_eq_of_cons_eq e⟩
  obtain ⟨A, cp, hlv⟩ := hlen
  obtain ⟨I, hI⟩ : ∃ I : Nat → Act → World → Prop, I = fun m a w => ∃ j v Z pv us lv, j ≤ l.length ∧ m = l.length - j ∧ a.defers = [] ∧ a.tmps.size = 41 ∧ a.tmps.getD 3 undef = v ∧ a.tmps.getD 9 undef = lv ∧ a.tmps.getD 10 undef = .int .i64 (l.length : Nat) ∧ a.tmps.getD 11 undef = .int .i64 (j : Nat) ∧
    DR w Z (.sl T99) l [lv] ∧ Deep w0 Z0 (l.take j) i w Z v pv us := ⟨_, rfl⟩
  have h0 : ∀ a, a.defers = [] → a.tmps.size = 41 → a.tmps.getD 3 undef = .slice none 0 0 → a.tmps.getD 9 undef = lv → a.tmps.getD 10 undef = .int .i64 (l.length : Nat) → a.tmps.getD 11 undef = .int .i64 0 → I l.length a w0 := by
    intro a d1 d2 d3 d4 d5 d6
    rw [hI]
    exact ⟨0, _, Z0, _, [], lv, Nat.zero_le _, rfl, d1, d2, d3, d4, d5, d6, hl, Deep.nil hz i⟩
  have hround : ∀ (m : Nat) (a : Act) (w : World) (Q : Exit → Act → World → Prop), I m a w → (∀ m' a' w', m' < m → I m' a' w' → Q .normal a' w') → (∀ a' w' v pv Z us, a'.defers = [] → a'.tmps.size = 41 → a'.tmps.getD 3 undef = v → Deep w0 Z0 l i w' Z v pv us → Q (.exit 0) a' w') → listWp Try.prog cp_L2 Q a w := by
    intro m a w Q hi hQn hQe
    rw [hI] at hi
    obtain ⟨j, v, Z, pv, us, lv, hj, rfl, hd, hs, h3, h9, h10, h11, hdl, hD⟩ := hi
    obtain ⟨c, hc⟩ : ∃ c : Obj, ∀ g, blk v = some g → w.heap[g]? = some c := by
      cases hb : blk v with
      | none => exact ⟨.cells #[] 0 (0, 0), fun g h => by cases h⟩
      | some g =>
        have := own_lt hD.row g hb
        exact ⟨w.heap[g], fun g' h => by cases h; simp [this]⟩
    have hrep := cp_rep hd hs h3 h9 h10 h11 hdl (by omega) hj hc hD.zlt (fun b hb => (hD.vz b hb).1)
    rw [show cp_L2 = cp_hL ++ cp_L2.drop 2 from (List.take_append_drop 2 cp_L2).symm]
    refine listWp_append ?_
    rcases Nat.lt_or_ge j l.length with hlt | hge
    · refine cp_h_b 2000 cp_base ((l, (l.length : Int), (j : Int), ()), (c, ())) (true, ((l, (l.length : Int), (j : Int), ()), (c, ()))) _ (by simp [cp_h, hlt]) ?_ a w hrep
      intro e s a1 w1 hr1 hk
      match e with
      | .exit 0 =>
        obtain ⟨y, hy, ey⟩ := Option.map_eq_some_iff.1 (show (fit 1 [3, 9, 10, 11] cp_S1 s).map (fun y => (false, y)) = some _ from hk)
        cases ey
      | .exit (k + 1) => cases hk
      | .ret => cases hk
      | .normal =>
        obtain ⟨y, hy, ey⟩ := Option.map_eq_some_iff.1 (show (fit 1 [3, 9, 10, 11] cp_S1 s).map (fun y => (true, y)) = some _ from hk)
        obtain rfl := (Prod.mk.inj ey).2
        have hr2 := fit_ok (cp_base (N := 2000)).pins hr1 hy
        show listWp Try.prog (cp_L2.drop 2) Q a1 w1
        refine listWp_block (bid := 1) (by kernel_rfl) ?_
        show listWp Try.prog cp_L4b _ a1 w1
        rw [show cp_L4b = cp_cL ++ cp_L4b.drop 5 from (List.take_append_drop 5 cp_L4b).symm]
        refine listWp_append ?_
        obtain ⟨x, hx⟩ : ∃ x, l[j]? = some x := ⟨l[j], by simp [hlt]⟩
        have hxp := hps x (List.mem_of_getElem? hx)
        refine cp_5_b 2000 cp_base ((l, (l.length : Int), (j : Int), ()), (c, ())) _ _ (cp_5_eq hx (by omega) hxp.1 hxp.2 _ c) ?_ a1 w1 hr2
        intro e s a2 w2 hr3 hk
        match e with
        | .exit k => cases hk
        | .ret => cases hk
        | .normal =>
          have hr4 := fit_ok (cp_base (N := 2000)).pins hr3 (show fit 1 [3, 6, 9, 10, 11] cp_S2 s = some _ from hk)
          obtain ⟨d1, d2, d3, d10, d11, Z1, g, u, css, d6, hb, hx', c1, c2, z1, z2, hk2, hc2, hu, lv2, d9, hdl2⟩ := cp_got hr4
          have hk0 := kept_raw hk2 hc hc2
          show listWp Try.prog (cp_L4b.drop 5) (Exit.inBlock 1 (Exit.then (listWp Try.prog (cp_L2.drop 3) Q) Q)) a2 w2
          rw [cp_R13, cp_R14]
          have hjn : (l.take j).length = j := by rw [List.length_take]; omega
          refine wp_mono (cp_tail (Q := Q) (n := (l.take j).length) (xs := (TC (l.take j) us).flatten) d1 d2 d3 d6 d11 (by omega) hb (own_keep hD.row hk0 fun _ _ h => h) (by omega) hu ?_) (fun e a w h => by cases e <;> exact h)
          intro a' w' v' e1 e2 e3 e9 e10 e11 r1 r2 r3
          obtain ⟨Z', pv', hD', hz', _⟩ := hD.snoc (x := x) hk0 z1 hx' c1 c2 z2 r2 r1 r3
          refine hQn (l.length - (j + 1)) a' w' (by omega) ?_
          rw [hI]
          refine ⟨j + 1, v', Z', pv', us ++ [u], lv2, hlt, rfl, e1, e2, e3, e9.trans d9, e10.trans d10, e11, hdl2.mono (r2.same fun b hb e => (z1 b hb).2.1 e) hz', ?_⟩
          rw [List.take_succ_eq_append_getElem hlt, (List.getElem?_eq_some_iff.1 hx).2]
          exact hD'
    · obtain rfl : j = l.length := by omega
      refine cp_h_b 2000 cp_base ((l, (l.length : Int), (l.length : Int), ()), (c, ())) (false, ((l, (l.length : Int), (l.length : Int), ()), (c, ()))) _ (by simp [cp_h]) ?_ a w hrep
      intro e s a1 w1 hr1 hk
      match e with
      | .exit (k + 1) => cases hk
      | .ret => cases hk
      | .normal =>
        obtain ⟨y, hy, ey⟩ := Option.map_eq_some_iff.1 (show (fit 1 [3, 9, 10, 11] cp_S1 s).map (fun y => (true, y)) = some _ from hk)
        cases ey
      | .exit 0 =>
        obtain ⟨y, hy, ey⟩ := Option.map_eq_some_iff.1 (show (fit 1 [3, 9, 10, 11] cp_S1 s).map (fun y => (false, y)) = some _ from hk)
        obtain rfl := (Prod.mk.inj ey).2
        obtain ⟨d1, d2, d3, d4, d5⟩ := cp_got1 (fit_ok (cp_base (N := 2000)).pins hr1 hy)
        rw [List.take_length] at hD
        exact hQe a1 w1 v pv Z us d1 d2 d3 (hD.world (kept_raw d4 hc d5))
  subst hlv
  clear hl hz hps
  go_enter Try.func123, Try.ntmps123
  go_wp2_with fail
  refine wp_loop_ghost I l.length (h0 _ rfl rfl rfl rfl rfl rfl) ?_
  intro m a w hi
  refine flat_wp ?_
  generalize hL : flat _ = L
  have hL2 : L = cp_L2 := by rw [← hL]; kernel_rfl
  rw [hL2]
  refine hround m a w _ hi (fun m' a' w' h1 h2 => ⟨m', h1, h2⟩) (fun a' w' v pv Z us hd hs h3 hD => ?_)
  obtain ⟨x0, x1, x2, x3, x4, x5, x6, x7, x8, x9, x10, x11, x12, x13, x14, x15, x16, x17, x18, x19, x20, x21, x22, x23, x24, x25, x26, x27, x28, x29, x30, x31, x32, x33, x34, x35, x36, x37, x38, x39, x40, rfl⟩ := act41 hd hs
  obtain rfl : x3 = v := h3
  clear hround h0 hi hL hL2 hd hs
  rename_i Q' K hK
  show K _ _
  refine hK _ _ ?_
  go_wp2
  go_ret
  exact ⟨_, pv, Z, us, rfl, hD⟩
end Go.Proofs.Ytgbkkfpheahdfaa

namespace Go.Proofs.Ytgbkkfpheahdfaa
open Go
open Go.RowKit
/-- What is frozen behind a call: nothing old that was not so before. -/
def Zok (w : World) (Z : Nat → Prop) (w' : World) (Z' : Nat → Prop) : Prop := ∀ b, Z' b → b < w'.heap.size ∧ (b < w.heap.size → Z b)
section
variable {N : Nat} {w : World} {Z : Nat → Prop}
theorem right_calls (hZ : ∀ b, Z b → b < w.heap.size) {p : D97} {ps : List Value} (hp : DR w Z T97 p ps) {r : Bool} (hF : ipfrag_right N p = some ((r, ()), ())) :
    Calls Try.prog 124 #[.agg ps.toArray] w fun e w' => e = .returned (.bool r) ∧ Kept (fun _ => False) w w' := by
  refine (ctr_call (M := fun _ => False) (Z := Z) (ob := fun _ => undef) (ipfrag_right_ok N) (Nat.le_refl _) (args := [.agg ps.toArray]) (x := ((p, ()), ())) (y := ((r, ()), ())) rfl hZ ⟨⟨ps, hp, rfl⟩, trivial⟩ (fun g hg => ?_) (fun i o hl => by simp [ipfrag_right_ctr, ipfrag_right_S0, stOs] at hl) (fun i j h1 h2 => absurd h2 (Nat.not_lt_zero _)) hF).mono ?_
  · obtain rfl := List.mem_singleton.1 hg; trivial
  · rintro e w' ⟨vs, ob', Z', rfl, hl, hr⟩
    match vs, hl with
    | [v], _ =>
    have h1 : v = .bool r := SR.bool (ob := ob') (hr.slots 0 (.sv (.data .bool r)) rfl).2.1
    exact ⟨by rw [h1]; rfl, hr.kept⟩
theorem clone_calls (hZ : ∀ b, Z b → b < w.heap.size) {d d' : List UInt8} {dv : Value} (hd : DR w Z (.sl .u8) d [dv]) (hF : slices_Clone___byte_byte_ N d = some ((), (d', ()))) :
    Calls Try.prog 74 #[dv] w fun e w' => ∃ dv' Z', e = .returned dv' ∧ Kept (fun _ => False) w w' ∧ DR w' Z' (.sl .u8) d' [dv'] ∧ Zok w Z w' Z' := by
  refine (ctr_call (M := fun _ => False) (Z := Z) (ob := fun _ => undef) (slices_Clone___byte_byte__ok N) (Nat.zero_le _) (args := [dv]) (x := ((d, ()), ())) (y := ((), (d', ()))) rfl hZ ⟨⟨[dv], hd, rfl⟩, trivial⟩ (fun g hg => ?_) (fun i o hl => by simp [slices_Clone___byte_byte__ctr, slices_Clone___byte_byte__S0, stOs] at hl) (fun i j h1 h2 => absurd h2 (Nat.not_lt_zero _)) hF).mono ?_
  · obtain rfl := List.mem_singleton.1 hg; trivial
  · rintro e w' ⟨vs, ob', Z', rfl, hl, hr⟩
    match vs, hl with
    | [v], _ =>
    obtain rfl : v = ob' 0 := (hr.slots 0 (.sv (.row 0)) rfl).2.1
    have ho := (hr.objs 0 (.row 5 .u8 d' true) rfl).2.1
    have hw := hr.own 0 (.row 5 .u8 d' true) rfl rfl
    refine ⟨ob' 0, fun b => Z' b ∨ blk (ob' 0) = some b, rfl, hr.kept, row_DR ho (fun _ h => .inl h) (fun _ h => .inr h), fun b hb => ?_⟩
    rcases hb with hb | hb
    · exact ⟨hr.zlt b hb, fun hlt => (hr.z0 b hb hlt).resolve_right fun h => h⟩
    · refine ⟨ho.block_lt b hb, fun hlt => ?_⟩
      rcases (hw b hb).2 with q | q
      · exact q.elim
      · exact absurd hlt (Nat.not_lt.2 q)
theorem complete_calls (hZ : ∀ b, Z b → b < w.heap.size) {l : List D97} {pv : Value} (hd : DR w Z (.sl T97) l [pv]) {ok : Bool} {d : List UInt8} (hF : ipfrag_complete N l = some ((ok, ()), (d, ()))) :
    Calls Try.prog 137 #[pv] w fun e w' => ∃ dv Z', e = .returned (.tuple #[dv, .bool ok]) ∧ Kept (fun _ => False) w w' ∧ DR w' Z' (.sl .u8) d [dv] ∧ Zok w Z w' Z' := by
  refine (ctr_call (M := fun _ => False) (Z := Z) (ob := fun _ => undef) (ipfrag_complete_ok N) (Nat.zero_le _) (args := [pv]) (x := ((l, ()), ())) (y := ((ok, ()), (d, ()))) rfl hZ ⟨⟨[pv], hd, rfl⟩, trivial⟩ (fun g hg => ?_) (fun i o hl => by simp [ipfrag_complete_ctr, ipfrag_complete_S2, stOs] at hl) (fun i j h1 h2 => absurd h2 (Nat.not_lt_zero _)) hF).mono ?_
  · obtain rfl := List.mem_singleton.1 hg; trivial
  · rintro e w' ⟨vs, ob', Z', rfl, hl, hr⟩
    match vs, hl with
    | [v, u], _ =>
    obtain rfl : v = ob' 0 := (hr.slots 0 (.sv (.row 0)) rfl).2.1
    have h1 : u = .bool ok := SR.bool (ob := ob') (hr.slots 1 (.sv (.data .bool ok)) rfl).2.1
    subst h1
    have ho := (hr.objs 0 (.row 5 .u8 d true) rfl).2.1
    have hw := hr.own 0 (.row 5 .u8 d true) rfl rfl
    refine ⟨ob' 0, fun b => Z' b ∨ blk (ob' 0) = some b, rfl, hr.kept, row_DR ho (fun _ h => .inl h) (fun _ h => .inr h), fun b hb => ?_⟩
    rcases hb with hb | hb
    · exact ⟨hr.zlt b hb, fun hlt => (hr.z0 b hb hlt).resolve_right fun h => h⟩
    · refine ⟨ho.block_lt b hb, fun hlt => ?_⟩
      rcases (hw b hb).2 with q | q
      · exact q.elim
      · exact absurd hlt (Nat.not_lt.2 q)
theorem search_calls (hZ : ∀ b, Z b → b < w.heap.size) {l : List D97} {pv : Value} (hd : DR w Z (.sl T97) l [pv]) {t k : Int} (ht : I64 t) {f : Bool} (hF : slices_BinarySearchFunc___api_Piece_api_Piece_int__ipfrag_Add_f3 N l t = some ((k, f, ()), ())) :
    Calls Try.prog 134 #[pv, .int .i64 t, .func (.func 135) #[] #[]] w fun e w' => e = .returned (.tuple #[.int .i64 k, .bool f]) ∧ Kept (fun _ => False) w w' := by
  refine (ctr_call (M := fun _ => False) (Z := Z) (ob := fun _ => undef) (slices_BinarySearchFunc___api_Piece_api_Piece_int__ipfrag_Add_f3_ok N) (Nat.zero_le _) (args := [pv, .int .i64 t, .func (.func 135) #[] #[]]) (x := ((l, t, ()), ())) (y := ((k, f, ()), ())) rfl hZ
    ⟨⟨[pv], hd, rfl⟩, ⟨_, ⟨rfl, ht⟩, rfl⟩, ⟨[], rfl, trivial⟩, trivial⟩ (fun g hg => ?_) (fun i o hl => by simp [slices_BinarySearchFunc___api_Piece_api_Piece_int__ipfrag_Add_f3_ctr, slices_BinarySearchFunc___api_Piece_api_Piece_int__ipfrag_Add_f3_S2, stOs] at hl) (fun i j h1 h2 => absurd h2 (Nat.not_lt_zero _)) hF).mono ?_
  · have hg' : g ∈ [GV.sv (.data (.sl T97) l), .sv (.data .i64 t), .clo 135 []] := hg
    simp only [List.mem_cons, List.not_mem_nil, or_false] at hg'
    rcases hg' with rfl | rfl | rfl
    · trivial
    · trivial
    · intro v hv; cases hv
  · rintro e w' ⟨vs, ob', Z', rfl, hl, hr⟩
    match vs, hl with
    | [v, u], _ =>
    have h1 : v = .int .i64 k := (SR.i64 (ob := ob') (hr.slots 0 (.sv (.data .i64 k)) rfl).2.1).1
    have h2 : u = .bool f := SR.bool (ob := ob') (hr.slots 1 (.sv (.data .bool f)) rfl).2.1
    exact ⟨by rw [h1, h2]; rfl, hr.kept⟩
theorem find_calls (hZ : ∀ b, Z b → b < w.heap.size) {l : List D99} {v : Value} {p p' : D97} {ps : List Value} {b4 : Nat} (hl : DR w Z (.sl T99) l [v]) (hp : DR w Z T97 p ps) (hb : w.heap[b4]? = some (.cells ps.toArray 98 (0, 0))) (h4 : ¬ Z b4) {k : Int}
    (hF : slices_IndexFunc___api_Assembly_api_Assembly__ipfrag_Add_f1 N l p = some ((k, ()), (p', ()))) :
    Calls Try.prog 125 #[v, .func (.func 126) #[] #[.pointer (some ⟨b4, 0, none⟩)]] w fun e w' => e = .returned (.int .i64 k) ∧ I64 k ∧ Kept (fun b => b = b4) w w' ∧ ∃ Z' ps', Zok w Z w' Z' ∧ ¬ Z' b4 ∧ DR w' Z' T97 p' ps' ∧ w'.heap[b4]? = some (.cells ps'.toArray 98 (0, 0)) := by
  refine (ctr_call (M := fun b => b = b4) (Z := Z) (ob := fun _ => .pointer (some ⟨b4, 0, none⟩)) (slices_IndexFunc___api_Assembly_api_Assembly__ipfrag_Add_f1_ok N) (Nat.le_refl _) (args := [v, .func (.func 126) #[] #[.pointer (some ⟨b4, 0, none⟩)]]) (x := ((l, ()), (p, ()))) (y := ((k, ()), (p', ()))) rfl hZ
    ⟨⟨[v], hl, rfl⟩, ⟨[.pointer (some ⟨b4, 0, none⟩)], rfl, ⟨b4, rfl, rfl, trivial⟩, trivial⟩, trivial⟩ (fun g hg => ?_) (fun i o hl => ?_) (fun i j h1 h2 => ?_) hF).mono ?_
  · have hg' : g ∈ [GV.sv (.data (.sl T99) l), .clo 126 [.ref 0 T97 []]] := hg
    simp only [List.mem_cons, List.not_mem_nil, or_false] at hg'
    rcases hg' with rfl | rfl
    · trivial
    · intro v hv
      obtain rfl := List.mem_singleton.1 hv
      show 0 < 1; omega
  · match i with
    | 0 =>
      obtain rfl : Ob.box 98 T97 p true = o := Option.some.inj hl
      exact ⟨⟨b4, ps, rfl, hp, hb, fun h => by cases h⟩, trivial, fun b hb' => by cases hb'; exact ⟨h4, rfl⟩⟩
    | i + 1 => cases hl
  · have : j < 1 := h2
    omega
  · rintro e w' ⟨vs, ob', Z', rfl, hl, hr⟩
    match vs, hl with
    | [u], _ =>
    obtain ⟨h1, h2⟩ := SR.i64 (ob := ob') (show SR w' Z' ob' (.data .i64 k) u from (hr.slots 0 (.sv (.data .i64 k)) rfl).2.1)
    have ho := (hr.objs 0 (.box 98 T97 p' true) rfl).2.1
    have hw := hr.own 0 (.box 98 T97 p' true) rfl rfl
    have hp0 : ob' 0 = .pointer (some ⟨b4, 0, none⟩) := (hr.pins (0, .pointer (some ⟨b4, 0, none⟩)) (by simp [slices_IndexFunc___api_Assembly_api_Assembly__ipfrag_Add_f1_ctr, List.range, List.range.loop])).1
    obtain ⟨g, ps', q1, q2, q3, _⟩ := ho
    rw [hp0] at q1 hw
    cases q1
    refine ⟨by rw [h1]; rfl, h2, hr.kept, Z', ps', fun b hzb => ⟨hr.zlt b hzb, fun hlt => ?_⟩, (hw b4 rfl).1, q2, q3⟩
    rcases hr.z0 b hzb hlt with q | q
    · exact q
    · subst q
      exact absurd hzb (hw b rfl).1
end
end Go.Proofs.Ytgbkkfpheahdfaa
