/- The ghost machine: an evaluator of the program's text over plain data, and its soundness. -/
import Derived.Test.YtehbbcdhahnkgaaGreatHmU
import Derived.Test.YtehbbcdhahnkgaaGreatHndTopMovesA
import Derived.LoopNIn
import Derived.Test.YtehbbcdhahnkgaaGreatHmTab
import Derived.KernelRfl
import Derived.Test.YtehbbcdhahnkgaaGreatHmVal
set_option linter.unusedVariables false
set_option linter.unusedSimpArgs false
namespace Go.Proofs.YtehbbcdhahnkgaaGreat.Hm
open Go Go.RowKit
set_option linter.unusedVariables false
set_option maxRecDepth 100000
attribute [local go_sem] Oper.semAt_some
set_option maxHeartbeats 4000000 in
theorem back_stops (n b4 bc off cap : Nat) (cvs : Array Value) (w : World) (h4 : w.heap[b4]? = some (.cells #[.slice (some ⟨bc, off, none⟩) 1 cap] 31 (0, 0))) (k : Nat) (hA : ∀ W, (isAgg 81).run Tryz.prog W = .ok true W) (hS : ∀ W, (sizeOf 81).run Tryz.prog W = .ok k W)
  (hld : ∀ W, W.heap[bc]? = w.heap[bc]? → (loadCellsFrom ⟨bc, off, none⟩ 0 k #[]).run Tryz.prog W = .ok cvs W) (hbc : bc < w.heap.size) :
  SeqStopsK Fence.wide n Tryz.prog 318 #[.pointer (some ⟨b4, 0, none⟩)] (fun (_ : Unit) => #[.int .i64 0, .agg cvs]) (fun _ _ => True) (fun xs => xs = [()]) (fun pre => pre = [()]) 1 w := by
 intro l J Jx W hb hJ hJx hY h0
 have h4l : b4 < w.heap.size := (Array.getElem?_eq_some_iff.1 h4).1
 replace h4 := (hb.block b4 h4l).trans h4
 have hldW := hld W (hb.block bc hbc)
 clear hld
 obtain ⟨hc, hf⟩ := cell_boxCt h4
 obtain ⟨fn, tmps, assign, body, hy, hround⟩ := hY [] () W h0 (by simp)
 clear hY hJ hJx h0 h4
 refine callsIn_of_wp Tryz.func318 rfl trivial ?_ rfl
 simp only [Tryz.ntmps318, List.size_toArray, List.length_cons, List.length_nil, Nat.reduceAdd, Nat.reduceSub, Array.replicate_succ, Array.replicate_zero, List.push_toArray, List.append_toArray, List.nil_append, List.cons_append]
 gi_wp2
 revert hA hS
 generalize 81 = t81
 intro hA hS
 refine wpIn_loop_rounds 2 ?_
 rw [roundsIn_succ]
 gi_wp2
 refine ⟨fun h => by simp [Fence.wide] at h, hround.mono ?_⟩
 rintro e W2 (⟨rfl, hJ2, _⟩ | ⟨rfl, hX2⟩)
 ·gi_wp2
  rw [roundsIn_succ]
  gi_wp2
  go_end0
  exact ⟨⟨_, rfl⟩, .inl ⟨_, rfl, hJ2⟩⟩
 ·gi_wp2
  exact ⟨rfl, _, results_none (by kernel_rfl) _ _ _, ⟨_, rfl⟩, .inr ⟨_, rfl, hX2⟩⟩
end Go.Proofs.YtehbbcdhahnkgaaGreat.Hm

namespace Go.Proofs.YtehbbcdhahnkgaaGreat.Hm
open Go Go.RowKit
set_option linter.unusedVariables false
set_option maxRecDepth 100000
attribute [local go_sem] Oper.semAt_some
noncomputable def ch0 : Code := bodyC.getD 0 .skip
noncomputable def ch1c : Code := bodyC.getD 1 .skip
noncomputable def ch5 : Code := bodyC.getD 3 .skip
noncomputable def ccnd : Code := (flat (blkOf cbdy)).getD 1 .skip
theorem choose_body : Tryz.f142.body = some (.seq ch0 (.seq (.seq ch1c (.block 0 (.rangeFunc (.tmp 11) #[12, 13] casg (.block 1 (.seq creg ccnd))))) (.seq ch5 .ret))) := by kernel_rfl
theorem choose_nt : Tryz.f142.ntmps = 43 := by kernel_rfl
theorem choose_pl : plainC ch0 = true ∧ plainC ch1c = true ∧ plainC casg = true ∧ plainC creg = true := ⟨by kernel_rfl, by kernel_rfl, by kernel_rfl, by kernel_rfl⟩
theorem choose_dst : codeDst 43 ch0 = true ∧ codeDst 43 ch1c = true ∧ codeDst 43 casg = true ∧ codeDst 43 creg = true := ⟨by kernel_rfl, by kernel_rfl, by kernel_rfl, by kernel_rfl⟩
theorem lit43 (x : Nat → Value) : Array.ofFn (n := 43) (fun i => x i.val) = (x 0 :: x 1 :: x 2 :: x 3 :: x 4 :: x 5 :: x 6 :: x 7 :: x 8 :: x 9 :: x 10 :: x 11 :: x 12 :: x 13 :: x 14 :: x 15 :: x 16 :: x 17 :: x 18 :: x 19 :: x 20 :: x 21 :: x 22 :: x 23 :: x 24 :: x 25 :: x 26 :: x 27 :: x 28 :: x 29 :: x 30 :: x 31 :: x 32 :: x 33 :: x 34 :: x 35 :: x 36 :: x 37 :: x 38 :: x 39 :: x 40 :: x 41 :: x 42 :: []).toArray := by kernel_rfl
theorem act43 {a : Act} (hd : a.defers = []) (hs : a.tmps.size = 43) : ∃ x : Nat → Value, a = ⟨(x 0 :: x 1 :: x 2 :: x 3 :: x 4 :: x 5 :: x 6 :: x 7 :: x 8 :: x 9 :: x 10 :: x 11 :: x 12 :: x 13 :: x 14 :: x 15 :: x 16 :: x 17 :: x 18 :: x 19 :: x 20 :: x 21 :: x 22 :: x 23 :: x 24 :: x 25 :: x 26 :: x 27 :: x 28 :: x 29 :: x 30 :: x 31 :: x 32 :: x 33 :: x 34 :: x 35 :: x 36 :: x 37 :: x 38 :: x 39 :: x 40 :: x 41 :: x 42 :: []).toArray, []⟩ ∧ ∀ k, x k = a.tmps.getD k undef := by
 obtain ⟨t, d⟩ := a
 subst hd
 obtain ⟨x, hx⟩ : ∃ x : Nat → Value, x = fun k => t.getD k undef := ⟨_, rfl⟩
 refine ⟨x, ?_, fun k => by rw [hx]⟩
 have hs' : t.size = 43 := hs
 have e : t = Array.ofFn (n := 43) fun i => x i.val := by
  rw [hx]
  refine Array.ext (by simp [hs']) fun i h1 h2 => ?_
  simp [h1]
 exact congrArg (fun t => (⟨t, []⟩ : Act)) (e.trans (lit43 x))
theorem cnd_eq : ∃ t1 p1 a1 t2 p2 a2 t3 p3 a3, ccnd = .cond (.tmp 40) (.seq (.region 4 #[⟨some 41, .fieldAddr 81 (.tmp 8) 0, t1, p1, a1, none⟩, ⟨some 42, .load 3 (.tmp 41), t2, p2, a2, none⟩, ⟨none, .store 3 (.tmp 6) (.tmp 42), t3, p3, a3, none⟩] false) .ret) .skip :=
 ⟨_, _, _, _, _, _, _, _, _, by unfold ccnd cbdy bodyC; rfl⟩
set_option maxHeartbeats 4000000 in
theorem cnd_in {l n : Nat} {Q : Exit → Act → World → Prop} {a : Act} {W : World} {b3 b5 : Nat} {u : Value} {z : Int} (hd : a.defers = []) (hs : a.tmps.size = 43) (h6 : a.tmps.getD 6 undef = .pointer (some ⟨b3, 0, none⟩)) (h8 : a.tmps.getD 8 undef = .pointer (some ⟨b5, 0, none⟩))
  (h40 : a.tmps.getD 40 undef = .bool true) (hc5 : W.cell? ⟨b5, 0, none⟩ = some (.int .i64 z)) (hb3 : W.heap[b3]? = some (.cells #[u] 3 (0, 0))) (hQ : ∀ a', Q .ret a' (W.setCell ⟨b3, 0, none⟩ (.int .i64 z))) : ccnd.wpIn (Fence.wide.inRound l) n Tryz.prog Q a W := by
 obtain ⟨t1, p1, f1, t2, p2, f2, t3, p3, f3, e⟩ := cnd_eq
 rw [e]
 clear e
 obtain ⟨x, rfl, hx⟩ := act43 hd hs
 have e6 : x 6 = .pointer (some ⟨b3, 0, none⟩) := h6
 have e8 : x 8 = .pointer (some ⟨b5, 0, none⟩) := h8
 have e40 : x 40 = .bool true := h40
 clear h6 h8 h40 hx hd hs
 rw [e6, e8, e40]
 obtain ⟨hc3, hf3⟩ := cell_boxCt hb3
 clear e6 e8 e40 hb3
 gi_wp2
 exact hQ _
theorem res_int {tmps : Array Value} {X : Nat} {w : World} {z : Int} (h6 : tmps.getD 6 undef = .pointer (some ⟨X, 0, none⟩)) (hc : w.cell? ⟨X, 0, none⟩ = some (.int .i64 z)) : (results Tryz.f142 tmps).run Tryz.prog w = .ok (.int .i64 z) w := by
 have ha : (isAgg 3).run Tryz.prog w = .ok false w := by simp [isAgg, go_sem]
 have h6' : tmps[6]?.getD undef = .pointer (some ⟨X, 0, none⟩) := by simpa using h6
 simp [results, h6', asAddr, loadVar, Sem.run_bind, ha, Go.run_load, hc]
end Go.Proofs.YtehbbcdhahnkgaaGreat.Hm

namespace Go.Proofs.YtehbbcdhahnkgaaGreat.Hm
open Go
open Go.RowKit (Below)
set_option linter.unusedVariables false
section
variable {P : Program} {ρ : En} {l : List (Nat × Ob)} {m m' : Mp} {w w' : World}
theorem RO.own (h : RO P ρ l m w) {row : Option Nat} (hg : w.grownBy w' row) (hr : ∀ r, row = some r → ∃ o : Obj, w.heap[r]? = some o ∧ o.isCells = false) : RO P ρ l m w' :=
 h.keep (Mp.le_refl m) fun i o b s hi hm => by
  obtain ⟨h1, el, cs, rfl⟩ := h.objs i o hi
  obtain ⟨b', s', vs, post, fr, e1, _, _, e2⟩ := h1
  rw [hm] at e1; cases e1
  exact grownBy_keeps_cells hg hr e2 rfl
theorem preL_hit {i : Nat} {o : Ob} {l : List (Nat × Ob)} : preL ((i, o) :: l) i = some o := by simp [preL]
theorem preL_skip {i j : Nat} {o : Ob} {l : List (Nat × Ob)} (h : i ≠ j) : preL ((i, o) :: l) j = preL l j := by
 have : Nat.beq i j = false := by
  cases hb : Nat.beq i j with
  | false => rfl
  | true => exact absurd (Nat.eq_of_beq_eq_true hb) h
 simp [preL, this]
theorem chA_ok {X : CH} {n sid : Nat} {g p : List HV} {rule ch : HV} {e : XE} {G : GS} {S : Sl} {H : Hp} {r : List Wr × Nat} (h : (chA X n sid g p rule ch e G).run S H = some r) : G.next ≤ 1000000000 ∧ e = .normal ∧ G.slots.get 3 = some (.p n 0) ∧ G.slots.get 4 = some (.p (n + 1) 0) ∧ G.slots.get 5 = some (.p (n + 2) 0) ∧ G.slots.get 6 = some (.p (n + 3) 0) ∧ G.slots.get 11 = some (.fn X.it [] [.p (n + 4) 0]) ∧
  G.over H n = some (.cells X.gt g false) ∧ G.over H (n + 1) = some (.cells X.rt [rule] false) ∧ G.over H (n + 2) = some (.cells X.pt p false) ∧ G.over H (n + 3) = some (.cells X.rt [.i .i64 (.lit 0)] false) ∧ G.over H (n + 4) = some (.cells X.st [ch] false) ∧ G.over H sid = H sid := by
 obtain ⟨h1, h2⟩ := endB_ok h
 simp only [Bool.and_eq_true] at h1
 obtain ⟨a1, a2, a3, a4, a5, a6, a7, a8, a9, a10, a11, a12⟩ := h1
 exact ⟨h2, isNm_ok a1, slB_ok a2, slB_ok a3, slB_ok a4, slB_ok a5, slB_ok a6, obB_ok a7 H, obB_ok a8 H, obB_ok a9 H, obB_ok a10 H, obB_ok a11 H, noB_ok a12 H⟩
theorem chB_ok {X : CH} {n sid : Nat} {c : List HV} {e : XE} {G : GS} {S : Sl} {H : Hp} {r : List Wr × Nat} (h : (chB X n sid c e G).run S H = some r) : G.next ≤ 1000000000 ∧ e = .normal ∧ G.slots.get 3 = some (.p n 0) ∧ G.slots.get 4 = some (.p (n + 1) 0) ∧ G.slots.get 5 = some (.p (n + 2) 0) ∧ G.slots.get 6 = some (.p (n + 3) 0) ∧ G.slots.get 8 = some (.p (n + 5) 0) ∧
  G.over H (n + 5) = some (.cells X.el c false) ∧ G.over H n = H n ∧ G.over H (n + 1) = H (n + 1) ∧ G.over H (n + 2) = H (n + 2) ∧ G.over H sid = H sid := by
 obtain ⟨h1, h2⟩ := endB_ok h
 simp only [Bool.and_eq_true] at h1
 obtain ⟨a1, a2, a3, a4, a5, a6, a7, a8, a9, a10, a11⟩ := h1
 exact ⟨h2, isNm_ok a1, slB_ok a2, slB_ok a3, slB_ok a4, slB_ok a5, slB_ok a6, obB_ok a7 H, noB_ok a8 H, noB_ok a9 H, noB_ok a10 H, noB_ok a11 H⟩
theorem chD_ok {n : Nat} {e : XE} {G : GS} {S : Sl} {H : Hp} {r : List Wr × Nat} (h : (chD n e G).run S H = some r) : G.next ≤ 1000000000 ∧ e = .normal ∧ G.slots.get 6 = some (.p (n + 3) 0) ∧ G.slots.get 8 = some (.p (n + 5) 0) ∧ G.slots.get 40 = some (.b true) := by
 obtain ⟨h1, h2⟩ := endB_ok h
 simp only [Bool.and_eq_true] at h1
 obtain ⟨a1, a2, a3, a4⟩ := h1
 exact ⟨h2, isNm_ok a1, slB_ok a2, slB_ok a3, slB_ok a4⟩
theorem slT_get : ∀ {l : List (Nat × HV)} {k : Nat} {v : HV}, (slT l).get k = some v → (k, v) ∈ l
 | [], k, v, h => by cases h
 | p :: l, k, v, h => by
  have h : ((slT l).set (some p.2) p.1).get k = some v := h
  rw [Tr.get_set] at h
  split at h
  ·rename_i e; cases h; subst e; simp
  ·exact List.mem_cons_of_mem _ (slT_get h)
mutual
theorem lt_mono {n n' : Nat} (h : n ≤ n') : ∀ {v : HV}, HV.lt n v = true → HV.lt n' v = true
 | .b _, _ | .i _ _, _ | .s _, _ | .np, _ | .ns, _ | .nf, _ | .nm, _ | .kv _, _ | .kp _ _, _ => rfl
 | .p _ _, e | .sl _ _ _ _ _, e | .es _ _ _, e | .mp _, e | .os _ _, e => by
  simp only [HV.lt] at e ⊢
  have := blt_lt e
  exact Nat.ble_eq_true_of_le (by omega)
 | .fn f fs cs, e => by
  simp only [HV.lt, Bool.and_eq_true] at e ⊢
  exact ⟨ltL_mono h e.1, ltL_mono h e.2⟩
 | .agg l, e | .tup l, e => by
  simp only [HV.lt] at e ⊢
  exact ltL_mono h e
theorem ltL_mono {n n' : Nat} (h : n ≤ n') : ∀ {l : List HV}, HV.ltL n l = true → HV.ltL n' l = true
 | [], _ => rfl
 | v :: l, e => by
  simp only [HV.ltL, Bool.and_eq_true] at e ⊢
  exact ⟨lt_mono h e.1, ltL_mono h e.2⟩
end
theorem den_ptr {id off b s : Nat} (h : m id = some (b, s)) : den ρ m (.p id off) = some (.pointer (some ⟨b, off, none⟩)) := by simp only [den, h]
end
theorem zip2 (t : Array Value) (x y : Value) : (Array.zip #[12, 13] #[x, y]).foldl (fun t (p, v) => t.setIfInBounds p v) t = (t.setIfInBounds 12 x).setIfInBounds 13 y := by simp
section
variable {ρ : En} {Γ : Ctx} {V : List EntV} {L n : Nat} {g p c scs : List HV} {rule : HV} {id off cap0 sid sel : Nat} {op : Bool} {z : IV} {ctl : List HV} {m : Mp} {w : World} {vals : List Value} {b so : Nat} {cvs : List Value}
set_option maxHeartbeats 1000000 in
theorem choose_in (hbel : Below ρ.base.heap.size ρ.base w) (mix : Tryz.prog.follows .mixedOrders = true) (hT : TysOk Tryz.prog Γ.tys) (hR : RngOk ρ Γ.R) (hF : FnsOk Tryz.prog Γ.fns) (hVal : ∀ ρ', RngOk ρ' Γ.R → ValOk Tryz.prog ρ' Γ) (hV : ∀ e ∈ V, EntVOk Tryz.prog ρ e)
  (hdom : ∀ i, m i ≠ none → i < n) (hargs : denL ρ m [.agg g, rule, .agg p] = some vals) (hid : id < n) (hch : m id = some (b, so))
  {k : Nat} (hA : ∀ W, (isAgg 81).run Tryz.prog W = .ok true W) (hS : ∀ W, (sizeOf 81).run Tryz.prog W = .ok k W) (hrow : ∀ W, W.heap[b]? = w.heap[b]? → (loadCellsFrom ⟨b, off, none⟩ 0 k #[]).run Tryz.prog W = .ok cvs.toArray W) (hb : b < w.heap.size)
  (hc : denL ρ m c = some cvs) (hc1 : c.all HV.one = true) (hcz : c = .i .i64 z :: ctl) (hsid : OR Tryz.prog ρ m w sid (.ro sel scs)) (hsl : sid < n) (lg : HV.ltL n g = true) (lp : HV.ltL n p = true) (lr : HV.ltL n [rule] = true) (lc : HV.ltL n c = true) (ls : HV.ltL n scs = true)
  (k1 : Hm.ch1 (chX V) Γ L n sid g p rule (.sl id off 1 cap0 op) = true) (k2 : Hm.ch2 (chX V) Γ L n sid c = true) (k3 : Hm.ch3 (chX V) Γ (memoV V (runM [] Γ L 40)) L n g p c rule sid (.ro sel scs) = true) {nf : Nat} (hnf : 4 ≤ nf) :
  CallsIn Fence.wide nf Tryz.prog 142 vals.toArray w fun e w' => e = .returned (.int .i64 (z.ev ρ)) ∧ Below w.heap.size w w' := by
 have h1f : 1 ≤ nf := by omega
 have base : ∀ W, Below w.heap.size w W → Below ρ.base.heap.size ρ.base W := fun W h => hbel.trans (h.mono hbel.size)
 have hRW : ∀ W, Below w.heap.size w W → RngOk { ρ with base := W } Γ.R := fun W h => rngOk_base hR (base W h)
 have noM : ∀ {ρ' : En}, ∀ e ∈ ([] : List Ent), EntOk Tryz.prog ρ' e := fun e h => by cases h
 have hclM : ∀ W, Below w.heap.size w W → ∀ j, CallOk Tryz.prog { ρ with base := W } (runM [] Γ L j) := fun W h j => runM_ok mix hT (hRW W h) hF (hVal _ (hRW W h)) noM j
 have hclV : ∀ W, Below w.heap.size w W → CallOk Tryz.prog { ρ with base := W } (memoV V (runM [] Γ L 40)) := fun W h => memoV_ok (hclM W h 40) fun e he => entV_base (hV e he)
 have hbw := Below.refl w.heap.size w
 have hlen : vals.length = 3 := by have := denL_length hargs; simpa using this
 refine callsIn_of_wp_marks Tryz.func142 choose_body trivial ?_ rfl
 obtain ⟨a0, ha0⟩ : ∃ a0 : Act, a0 = { tmps := vals.toArray ++ Array.replicate (Tryz.f142.ntmps - vals.toArray.size) undef, defers := [] } := ⟨_, rfl⟩
 have ha0d : a0.defers = [] := by rw [ha0]
 have ha0s : a0.tmps.size = 43 := by rw [ha0, choose_nt]; simp [hlen]
 have r0 : RO Tryz.prog ρ [(sid, .ro sel scs)] m w := by
  refine ⟨fun i o hi => ?_, fun i j o o' q q' hne hi hj => ?_⟩
  ·have := preL_mem hi
   simp only [List.mem_cons, List.not_mem_nil, or_false, Prod.mk.injEq] at this
   obtain ⟨rfl, rfl⟩ := this
   exact ⟨hsid, _, _, rfl⟩
  ·have h1 := preL_mem hi
   have h2 := preL_mem hj
   simp only [List.mem_cons, List.not_mem_nil, or_false, Prod.mk.injEq] at h1 h2
   exact absurd (h1.1.trans h2.1.symm) hne
 have st0 := st_ro (N := 43) (S := numbered 0 [.agg g, rule, .agg p] .lf) (a := a0) r0 hdom (fun j v hj => by
  rw [numbered_get] at hj
  split at hj
  ·rename_i hk2
   obtain ⟨x, hx1, hx2⟩ := denL_get hargs j v (by simpa using hj)
   rw [hx2]
   congr 1
   have hlt : j < vals.length := by rw [hlen]; simpa using hk2
   have : vals[j] = x := by rw [List.getElem?_eq_getElem hlt] at hx1; simpa using hx1
   rw [ha0]
   simp [Array.getElem?_append_left (show j < vals.toArray.size by simpa using hlt), hlt, this]
  ·cases hj) ha0d ha0s
 have run1 := run_mono (H' := preL [(sid, .ro sel scs)]) (fun i o h => by cases h) (isSomeB_eq k1)
 have run1' : (codeRT Γ (runM [] Γ L 3) L (.seq ch0 ch1c) { slots := numbered 0 [.agg g, rule, .agg p] .lf, st := .lf, ca := .lf, next := n } (chA (chX V) n sid g p rule (.sl id off 1 cap0 op))).run (fun _ => none) (preL [(sid, .ro sel scs)]) = some ([], 1000000000) := run1
 rw [← ha0, ← T_self (ds := []) ha0d]
 refine wpIn_seq (codeRT_in (L := L) (ro := none) (ds := []) mix hT (hRW w hbw) (hclM w hbw 3) bs_ro ch0 (K := seqK (chA (chX V) n sid g p rule (.sl id off 1 cap0 op)) (codeRT Γ (runM [] Γ L 3) L ch1c)) choose_pl.1 choose_dst.1 st0 run1' ⟨fun e G a1 w1 hst hk => ?_, fun e G hk => ?_⟩)
 rotate_left
 ·cases e with
  | normal => exact codeRT_up (L := L) (K := chA (chX V) n sid g p rule (.sl id off 1 cap0 op)) ch1c (fun e G h => (chA_ok h).1) hk
  | exit i => exact (chA_ok hk).1
  | ret => exact (chA_ok hk).1
 cases e with
 | exit i => exact absurd (chA_ok hk).2.1 (by simp)
 | ret => exact absurd (chA_ok hk).2.1 (by simp)
 | normal =>
 refine wpIn_seq (wpIn_seq (codeRT_in (L := L) (ro := none) (ds := []) mix hT (hRW w hbw) (hclM w hbw 3) bs_ro ch1c (K := chA (chX V) n sid g p rule (.sl id off 1 cap0 op)) choose_pl.2.1 choose_dst.2.1 hst hk ⟨fun e G a1 w1 hst hk => ?_, fun e G hk => (chA_ok hk).1⟩))
 obtain ⟨hup, rfl, s3, s4, s5, s6, s11, o0, o1, o2, o3, o4, os⟩ := chA_ok hk
 obtain ⟨⟨m1, hm1, ⟨hh1, hsl1, hd1, hz1⟩, _⟩, _⟩ := hst
 have hz1 : a1.tmps.size = 43 := hz1
 have hbel1 : Below w.heap.size w w1 := hh1.keep
 have os : G.over (preL [(sid, .ro sel scs)]) sid = some (.ro sel scs) := by rw [os]; exact preL_hit
 obtain ⟨b3, q3, us3, post3, e31, e32, e33, e34, e35, e36, _⟩ := hh1.objs _ _ o3
 have hq3 := e36 rfl
 subst hq3
 have hp3 : post3 = [] := List.eq_nil_of_length_eq_zero (by rw [e35]; omega)
 subst hp3
 have e30 : den { ρ with base := w } m1 (.i .i64 (.lit 0)) = some (.int .i64 0) := by simp only [den]; rfl
 have e32 : us3 = [Value.int .i64 0] := by
  have := denL_cons' e30 (show denL { ρ with base := w } m1 [] = some [] from rfl)
  exact Option.some.inj (e32.symm.trans this)
 subst e32
 have h3h : w1.heap[b3]? = some (.cells #[.int .i64 0] 3 (0, 0)) := e34
 have h3w : w.heap.size ≤ b3 := hh1.off _ _ _ o3 rfl e31
 obtain ⟨b4, q4, us4, post4, e41, e42, e43, e44, e45, e46, _⟩ := hh1.objs _ _ o4
 have hq4 := e46 rfl
 subst hq4
 have hp4 : post4 = [] := List.eq_nil_of_length_eq_zero (by rw [e45]; omega)
 subst hp4
 have hch1 : m1 id = some (b, so) := hm1 _ _ hch
 have e42 : us4 = [Value.slice (some ⟨b, off, none⟩) 1 (cap0 + bif op then so else 0)] := by simpa [denL, den, hch1] using e42.symm
 subst e42
 have h4h : w1.heap[b4]? = some (.cells #[.slice (some ⟨b, off, none⟩) 1 (cap0 + bif op then so else 0)] 31 (0, 0)) := e44
 have t6 : a1.tmps.getD 6 undef = .pointer (some ⟨b3, 0, none⟩) := by
  have := hsl1 _ _ s6
  rw [den_ptr e31] at this
  exact (Option.some.inj this).symm
 have t11 : a1.tmps.getD 11 undef = .func (.func 318) #[] #[.pointer (some ⟨b4, 0, none⟩)] := by
  have := hsl1 _ _ s11
  have e : den { ρ with base := w } m1 (.fn (chX V).it [] [.p (n + 4) 0]) = some (.func (.func 318) #[] #[.pointer (some ⟨b4, 0, none⟩)]) := by
   simp only [den, denL, e41]; rfl
  rw [e] at this
  exact (Option.some.inj this).symm
 obtain ⟨l1, hl1⟩ : ∃ l1 : List (Nat × Ob), l1 = [(n, .ro 34 g), (n + 1, .ro 3 [rule]), (n + 2, .ro 52 p), (sid, .ro sel scs)] := ⟨_, rfl⟩
 have ml1 : ∀ i o, preL l1 i = some o → (i = n ∧ o = .ro 34 g) ∨ (i = n + 1 ∧ o = .ro 3 [rule]) ∨ (i = n + 2 ∧ o = .ro 52 p) ∨ (i = sid ∧ o = .ro sel scs) := fun i o hi => by
  have := preL_mem hi
  rw [hl1] at this
  simpa using this
 have r1 : RO Tryz.prog ρ l1 (m1.cut (n + 5)) w1 := by
  refine RO.cut (ro_of hh1 fun i o hi => ?_) fun i o hi => ?_
  ·rcases ml1 i o hi with ⟨rfl, rfl⟩ | ⟨rfl, rfl⟩ | ⟨rfl, rfl⟩ | ⟨rfl, rfl⟩
   ·exact ⟨_, _, rfl, .inr ⟨_, o0⟩⟩
   ·exact ⟨_, _, rfl, .inr ⟨_, o1⟩⟩
   ·exact ⟨_, _, rfl, .inr ⟨_, o2⟩⟩
   ·exact ⟨_, _, rfl, .inl os⟩
  ·rcases ml1 i o hi with ⟨rfl, rfl⟩ | ⟨rfl, rfl⟩ | ⟨rfl, rfl⟩ | ⟨rfl, rfl⟩
   ·exact ⟨by omega, fun el cs e => by cases e; exact ltL_mono (by omega) lg⟩
   ·exact ⟨by omega, fun el cs e => by cases e; exact ltL_mono (by omega) lr⟩
   ·exact ⟨by omega, fun el cs e => by cases e; exact ltL_mono (by omega) lp⟩
   ·exact ⟨by omega, fun el cs e => by cases e; exact ltL_mono (by omega) ls⟩
 have dm1 : ∀ {v : HV} {x : Value} , HV.lt (n + 5) v = true → den ρ m1 v = some x → den ρ (m1.cut (n + 5)) v = some x := fun h1 h2 => den_lt (fun id hid => Mp.cut_lt m1 hid) h1 h2
 have sl4 : ∀ j v, (j, v) ∈ [(3, HV.p n 0), (4, .p (n + 1) 0), (5, .p (n + 2) 0), (6, .p (n + 3) 0)] → den ρ (m1.cut (n + 5)) v = some (a1.tmps.getD j undef) ∧ j < 7 := fun j v hj => by
  have := hj
  simp only [List.mem_cons, List.not_mem_nil, or_false, Prod.mk.injEq] at this
  rcases this with ⟨rfl, rfl⟩ | ⟨rfl, rfl⟩ | ⟨rfl, rfl⟩ | ⟨rfl, rfl⟩
  ·exact ⟨dm1 (Nat.ble_eq_true_of_le (by omega)) (by rw [← den_base (w := w)]; exact hsl1 _ _ s3), by omega⟩
  ·exact ⟨dm1 (Nat.ble_eq_true_of_le (by omega)) (by rw [← den_base (w := w)]; exact hsl1 _ _ s4), by omega⟩
  ·exact ⟨dm1 (Nat.ble_eq_true_of_le (by omega)) (by rw [← den_base (w := w)]; exact hsl1 _ _ s5), by omega⟩
  ·exact ⟨dm1 (Nat.ble_eq_true_of_le (by omega)) (by rw [← den_base (w := w)]; exact hsl1 _ _ s6), by omega⟩
 obtain ⟨l2, hl2⟩ : ∃ l2 : List (Nat × Ob), l2 = chP (chX V) n g p c rule sid (.ro sel scs) := ⟨_, rfl⟩
 have ml2 : ∀ i o, preL l2 i = some o → (i = n ∧ o = .ro 34 g) ∨ (i = n + 1 ∧ o = .ro 3 [rule]) ∨ (i = n + 2 ∧ o = .ro 52 p) ∨ (i = n + 5 ∧ o = .ro 81 c) ∨ (i = sid ∧ o = .ro sel scs) := fun i o hi => by
  have := preL_mem hi
  rw [hl2] at this
  simpa [chP, chX] using this
 rw [T_self hd1]
 show (Code.block 0 (.rangeFunc (.tmp 11) #[12, 13] casg (.block 1 (.seq creg ccnd)))).wpIn Fence.wide nf Tryz.prog _ a1 w1
 refine wpIn_block (wpIn_rangeFunc_ownH rfl h1f (gf := 318) (lb := #[.pointer (some ⟨b4, 0, none⟩)]) t11 trivial (Go.Proofs.enters_of Tryz.func318 (by kernel_rfl) rfl)
  (back_stops (nf - 1) b4 b off (cap0 + bif op then so else 0) cvs.toArray w1 h4h k hA hS (fun W hW => hrow W (hW.trans (hbel1.block b hb))) (Nat.lt_of_lt_of_le hb hbel1.size)) (fun _ _ => trivial) (fun _ _ _ _ _ _ _ _ => trivial) (Below.refl _ _) (fun _ => rfl)
  (fun pre W => pre = [] ∧ RO Tryz.prog ρ l1 (m1.cut (n + 5)) W ∧ Below w.heap.size w W ∧ W.heap[b3]? = some (.cells #[.int .i64 0] 3 (0, 0)))
  (fun cd pre W => cd = .ret ∧ pre = [()] ∧ W.cell? ⟨b3, 0, none⟩ = some (.int .i64 (z.ev ρ)) ∧ Below w.heap.size w W)
  (fun s A B row hs hg hr => ⟨hs.1, hs.2.1.own hg (fun r e => (hr r e).2), hs.2.2.1.grown hg hs.2.2.1.size (fun k e => by have := (hr k e).1; have := hbel1.size; omega), heap_grown hs.2.2.2 hg hr⟩)
  (fun cd s A B row hs hg hr => ⟨hs.1, hs.2.1, cell_kept hs.2.2.1 hg (fun r e => (hr r e).2), hs.2.2.2.grown hg hs.2.2.2.size (fun k e => by have := (hr k e).1; have := hbel1.size; omega)⟩)
  ⟨rfl, r1, hbel1, h3h⟩
  (fun x a' W => a'.defers = [] ∧ a'.tmps.size = 43 ∧ ∃ m2 : Mp, RO Tryz.prog ρ l2 m2 W ∧ (∀ i, m2 i ≠ none → i < n + 6) ∧ (∀ j v, (slT [(3, HV.p n 0), (4, .p (n + 1) 0), (5, .p (n + 2) 0), (6, .p (n + 3) 0), (8, .p (n + 5) 0)]).get j = some v → den ρ m2 v = some (a'.tmps.getD j undef)) ∧ (∃ s, m2 (n + 3) = some (b3, s)))
  (fun x a' s A B row hs hg hr => by obtain ⟨q1, q2, m2, q3, q4⟩ := hs; exact ⟨q1, q2, m2, q3.own hg (fun r e => (hr r e).2), q4⟩) ?assign ?body ?done ?stop)
 case assign =>
  rintro l pre x W K ⟨rfl, hro, hbW, hb3W⟩ hK
  obtain ⟨aB, haB⟩ : ∃ aB : Act, aB = { tmps := (a1.tmps.setIfInBounds 12 (.int .i64 0)).setIfInBounds 13 (.agg cvs.toArray), defers := [] } := ⟨_, rfl⟩
  have haBs : aB.tmps.size = 43 := by rw [haB]; simp [hz1]
  refine (congrArg (fun t => casg.wpIn (Fence.wide.inRound l) (nf - 1 - 1) Tryz.prog (Exit.then K fun _ _ _ => False) { tmps := t, defers := [] } W) (zip2 a1.tmps (.int .i64 0) (.agg cvs.toArray))).mpr ?_
  show casg.wpIn (Fence.wide.inRound l) (nf - 1 - 1) Tryz.prog _ { tmps := (a1.tmps.setIfInBounds 12 (.int .i64 0)).setIfInBounds 13 (.agg cvs.toArray), defers := [] } W
  rw [← haB, ← T_self (ds := []) (show aB.defers = [] by rw [haB])]
  have stB := st_ro (N := 43) (k := n + 5) (S := slT [(3, .p n 0), (4, .p (n + 1) 0), (5, .p (n + 2) 0), (6, .p (n + 3) 0), (13, .agg c)]) (a := aB) hro (fun i hi => Mp.cut_dom hi) (fun j v hj => by
   have hj2 : (j, v) ∈ [(3, HV.p n 0), (4, .p (n + 1) 0), (5, .p (n + 2) 0), (6, .p (n + 3) 0)] ∨ (j = 13 ∧ v = .agg c) := by
    have hm := slT_get hj
    simp only [List.mem_cons, List.not_mem_nil, or_false, Prod.mk.injEq] at hm
    rcases hm with ⟨rfl, rfl⟩ | ⟨rfl, rfl⟩ | ⟨rfl, rfl⟩ | ⟨rfl, rfl⟩ | ⟨rfl, rfl⟩
    ·exact .inl (by simp)
    ·exact .inl (by simp)
    ·exact .inl (by simp)
    ·exact .inl (by simp)
    ·exact .inr ⟨rfl, rfl⟩
   rcases hj2 with hj2 | ⟨rfl, rfl⟩
   ·obtain ⟨e1, e2⟩ := sl4 j v hj2
    rw [e1, haB]
    congr 1
    simp only [Array.getD_eq_getD_getElem?]
    rw [Array.getElem?_setIfInBounds_ne (by omega), Array.getElem?_setIfInBounds_ne (by omega)]
   ·have hcm : denL ρ (m1.cut (n + 5)) c = some cvs := denL_lt (fun id hid => Mp.cut_lt m1 hid) (ltL_mono (by omega) lc) (denL_mono hm1 hc)
    rw [haB]
    simp only [den, hc1, hcm, Array.getD_eq_getD_getElem?]
    rw [Array.getElem?_setIfInBounds_self_of_lt (by simp [hz1])]
    rfl) (by rw [haB]) haBs
  have run2 := run_mono (H' := preL l1) (fun i o h => by cases h) (isSomeB_eq k2)
  refine codeRT_in (L := L) (ro := some l) (ds := []) mix hT (hRW W hbW) (hclM W hbW 3) bs_ro casg (K := chB (chX V) n sid c) choose_pl.2.2.1 choose_dst.2.2.1 stB run2 ⟨fun e G2 a2 W2 hst hk => ?_, fun e G hk => (chB_ok hk).1⟩
  obtain ⟨_, rfl, u3, u4, u5, u6, u8, p5, p0, p1, p2, ps⟩ := chB_ok hk
  obtain ⟨⟨m2, hm2, ⟨hh2, hsl2, hd2, hz2⟩, _⟩, _⟩ := hst
  have hkp : Below W.heap.size W W2 := hh2.keep
  have n0 : preL l1 n = some (.ro 34 g) := by rw [hl1]; exact preL_hit
  have n1 : preL l1 (n + 1) = some (.ro 3 [rule]) := by rw [hl1, preL_skip (by omega)]; exact preL_hit
  have n2 : preL l1 (n + 2) = some (.ro 52 p) := by rw [hl1, preL_skip (by omega), preL_skip (by omega)]; exact preL_hit
  have ns : preL l1 sid = some (.ro sel scs) := by rw [hl1, preL_skip (by omega), preL_skip (by omega), preL_skip (by omega)]; exact preL_hit
  have r2 : RO Tryz.prog ρ l2 (m2.cut (n + 6)) W2 := by
   refine RO.cut (ro_of hh2 fun i o hi => ?_) fun i o hi => ?_
   ·rcases ml2 i o hi with ⟨rfl, rfl⟩ | ⟨rfl, rfl⟩ | ⟨rfl, rfl⟩ | ⟨rfl, rfl⟩ | ⟨rfl, rfl⟩
    ·exact ⟨_, _, rfl, .inl (p0.trans n0)⟩
    ·exact ⟨_, _, rfl, .inl (p1.trans n1)⟩
    ·exact ⟨_, _, rfl, .inl (p2.trans n2)⟩
    ·exact ⟨_, _, rfl, .inr ⟨_, p5⟩⟩
    ·exact ⟨_, _, rfl, .inl (ps.trans ns)⟩
   ·rcases ml2 i o hi with ⟨rfl, rfl⟩ | ⟨rfl, rfl⟩ | ⟨rfl, rfl⟩ | ⟨rfl, rfl⟩ | ⟨rfl, rfl⟩
    ·exact ⟨by omega, fun el cs e => by cases e; exact ltL_mono (by omega) lg⟩
    ·exact ⟨by omega, fun el cs e => by cases e; exact ltL_mono (by omega) lr⟩
    ·exact ⟨by omega, fun el cs e => by cases e; exact ltL_mono (by omega) lp⟩
    ·exact ⟨by omega, fun el cs e => by cases e; exact ltL_mono (by omega) lc⟩
    ·exact ⟨by omega, fun el cs e => by cases e; exact ltL_mono (by omega) ls⟩
  have dm2 : ∀ {v : HV} {x : Value} , HV.lt (n + 6) v = true → den { ρ with base := W } m2 v = some x → den ρ (m2.cut (n + 6)) v = some x := fun h1 h2 => den_lt (fun id hid => Mp.cut_lt m2 hid) h1 (by rw [← den_base (w := W)]; exact h2)
  have b3m : m2 (n + 3) = some (b3, 0) := hm2 _ _ (by show m1.cut (n + 5) (n + 3) = _; rw [Mp.cut_lt m1 (by omega)]; exact e31)
  refine hK (T [] a2) W2 ⟨hkp.size, fun k o _ hk _ => (hkp.block k (Array.getElem?_eq_some_iff.1 hk).1).trans hk⟩ trivial ⟨rfl, hro.below hkp, hbW.trans (hkp.mono hbW.size), (hkp.block b3 (Array.getElem?_eq_some_iff.1 hb3W).1).trans hb3W⟩ ⟨rfl, hz2, m2.cut (n + 6), r2, fun i hi => Mp.cut_dom hi, fun j v hj => ?_, 0, by rw [Mp.cut_lt m2 (by omega)]; exact b3m⟩
  have hm := slT_get hj
  simp only [List.mem_cons, List.not_mem_nil, or_false, Prod.mk.injEq] at hm
  rcases hm with ⟨rfl, rfl⟩ | ⟨rfl, rfl⟩ | ⟨rfl, rfl⟩ | ⟨rfl, rfl⟩ | ⟨rfl, rfl⟩
  ·exact dm2 (Nat.ble_eq_true_of_le (by omega)) (hsl2 _ _ u3)
  ·exact dm2 (Nat.ble_eq_true_of_le (by omega)) (hsl2 _ _ u4)
  ·exact dm2 (Nat.ble_eq_true_of_le (by omega)) (hsl2 _ _ u5)
  ·exact dm2 (Nat.ble_eq_true_of_le (by omega)) (hsl2 _ _ u6)
  ·exact dm2 (Nat.ble_eq_true_of_le (by omega)) (hsl2 _ _ u8)
 case body =>
  rintro l pre x a' W hlw hloop ⟨rfl, hro, hbW, hb3W⟩ ⟨q1, q2, m2, q3, q4, q5, s3', q6⟩ hlt
  rw [← T_self (ds := []) q1]
  have stC := st_ro (N := 43) (k := n + 6) (S := slT [(3, .p n 0), (4, .p (n + 1) 0), (5, .p (n + 2) 0), (6, .p (n + 3) 0), (8, .p (n + 5) 0)]) (a := a') q3 q4 q5 q1 q2
  have run3 := isSomeB_eq k3
  rw [← hl2] at run3
  refine wpIn_block (wpIn_seq (codeRT_in (L := L) (ro := some l) (ds := []) mix hT (hRW W hbW) (hclV W hbW) bs_ro creg (K := chD n) choose_pl.2.2.2 choose_dst.2.2.2 stC run3 ⟨fun e G3 a3 W3 hst hk => ?_, fun e G hk => (chD_ok hk).1⟩))
  obtain ⟨_, rfl, v6, v8, v40⟩ := chD_ok hk
  obtain ⟨⟨m3, hm3, ⟨hh3, hsl3, hd3, hz3⟩, _⟩, _⟩ := hst
  have hkp : Below W.heap.size W W3 := hh3.keep
  have n5 : preL l2 (n + 5) = some (.ro 81 c) := by
   rw [hl2]
   simp only [chP, chX]
   rw [preL_skip (by omega), preL_skip (by omega), preL_skip (by omega)]; exact preL_hit
  obtain ⟨b5, q5', us5, post5, fr5, e51, e52, _, e54⟩ := (q3.objs _ _ n5).1
  obtain ⟨y5, ys5, f1, f2, rfl⟩ := denL_cons (by rw [hcz] at e52; exact e52)
  have f1 := (den_i64 f1).1
  subst f1
  have t6 : a3.tmps.getD 6 undef = .pointer (some ⟨b3, 0, none⟩) := by
   have := hsl3 _ _ v6
   rw [den_ptr (hm3 _ _ q6)] at this
   exact (Option.some.inj this).symm
  have t8 : a3.tmps.getD 8 undef = .pointer (some ⟨b5, 0, none⟩) := by
   have := hsl3 _ _ v8
   rw [den_ptr (hm3 _ _ e51)] at this
   exact (Option.some.inj this).symm
  have t40 : a3.tmps.getD 40 undef = .bool true := by
   have := hsl3 _ _ v40
   simp only [den] at this
   exact (Option.some.inj this).symm
  have hb3' : W3.heap[b3]? = some (.cells #[.int .i64 0] 3 (0, 0)) := (hkp.block b3 (Array.getElem?_eq_some_iff.1 hb3W).1).trans hb3W
  have hc5 : W3.cell? ⟨b5, 0, none⟩ = some (.int .i64 (z.ev ρ)) := by
   rw [cell_of_row W3 b5 _ _ 81 fr5 ((hkp.block b5 (Array.getElem?_eq_some_iff.1 e54).1).trans e54)]
   rfl
  have hc3 : W3.cell? ⟨b3, 0, none⟩ = some (.int .i64 0) := (cell_boxCt hb3').1
  refine cnd_in (a := T [] a3) rfl hz3 t6 t8 t40 hc5 hb3' fun a4 => ?_
  have hb3l : b3 < w1.heap.size := (Array.getElem?_eq_some_iff.1 h3h).1
  exact ⟨(⟨hkp.size, fun k o _ hk _ => (hkp.block k (Array.getElem?_eq_some_iff.1 hk).1).trans hk⟩ : KeepsFrom w1.heap.size W W3).trans (KeepsFrom.of_grownBy (grownBy_setCell' W3 b3 _) (fun j e => by cases e; exact hb3l)),
   rfl, rfl, World.cell?_setCell_same' _ _ _ (by rw [hc3]; rfl), (hbW.trans (hkp.mono hbW.size)).setCell (p := ⟨b3, 0, none⟩) h3w _⟩
 case done =>
  rintro D zs W hD hzs ⟨h, _⟩ hK
  rw [hzs] at h; cases h
 case stop =>
  rintro D cd pre W hD hpre ⟨rfl, _, hcell, hbW⟩ hK
  refine wpIn_ret ?_
  refine ⟨by simp, .inl ⟨_, _, rfl, run_takeDeferred hK, ?_⟩⟩
  have hX2 : b3 < D := Nat.lt_of_lt_of_le (Array.getElem?_eq_some_iff.1 h3h).1 hD
  show LeavesInM _ _ _ _ _ _ a1.defers _ _
  rw [hd1]
  exact ⟨_, res_int t6 (cell_put hcell (by omega)), rfl, hbW.grown (grownBy_putObj' _ _ _) hbW.size (fun k e => by cases e; omega)⟩
end
end Go.Proofs.YtehbbcdhahnkgaaGreat.Hm

namespace Go.Proofs.YtehbbcdhahnkgaaGreat.Hm
open Go
open Go.RowKit (Below)
theorem cells_run {P : Program} {e : TypeId} {t : Ty} (he : EOk P e t) (ha : t.isAgg = true) {W : World} {b off el : Nat} {fr : Nat × Nat} {arr : List Value} (hg : W.heap[b]? = some (.cells arr.toArray el fr)) (hl : off + t.size ≤ arr.length) :
  (loadCellsFrom ⟨b, off, none⟩ 0 t.size #[]).run P W = .ok ((arr.drop off).take t.size).toArray W := by
 have h := run_loadAt (P := P) he hg hl
 simp only [Instr.loadAt, Instr.sureAddr, loadVar, loadCells, Sem.run_bind, Sem.run_pure, Result.andThen_ok, run_isAgg he, ha, if_true, run_sizeOf he] at h
 cases hr : (loadCellsFrom ⟨b, off, none⟩ 0 t.size #[]).run P W with
 | ok v w' =>
  rw [hr] at h
  simp only [Result.andThen_ok, pk, ha, if_true, Result.ok.injEq, Value.agg.injEq] at h
  rw [h.1, h.2]
 | _ => rw [hr] at h; cases h
section
variable {ρ : En} {Γ : Ctx} {V : List EntV} {L : Nat} {cl : CallFn}
theorem memoC_ok (mix : Tryz.prog.follows .mixedOrders = true) (hT : TysOk Tryz.prog Γ.tys) (hR : RngOk ρ Γ.R) (hF : FnsOk Tryz.prog Γ.fns) (hVal : ∀ ρ', RngOk ρ' Γ.R → ValOk Tryz.prog ρ' Γ) (hV : ∀ e ∈ V, EntVOk Tryz.prog ρ e)
  (hti : ∃ ti, Γ.tys.get 81 = some ti ∧ ti.ty.isAgg = true ∧ ti.ty.size = 42) (hcl : CallOk Tryz.prog ρ cl) : CallOk Tryz.prog ρ (memoC (chX V) Γ (memoV V (runM [] Γ L 40)) L cl) := by
 intro f args n K S H r h
 have h' : (bif Nat.beq f 142 then chR (chX V) Γ (memoV V (runM [] Γ L 40)) L n K args else cl f args n K).run S H = some r := h
 cases hb : Nat.beq f 142 with
 | false => rw [hb] at h'; exact hcl h'
 | true =>
  rw [hb] at h'
  have e1 := Nat.eq_of_beq_eq_true hb
  subst e1
  simp only [cond_true] at h'
  clear h hb
  unfold chR at h'
  split at h'
  ·rename_i g rule p
   obtain ⟨v17, hv17⟩ : ∃ v, v = g.getD 17 .np := ⟨_, rfl⟩
   obtain ⟨v16, hv16⟩ : ∃ v, v = g.getD 16 .np := ⟨_, rfl⟩
   rw [← hv17, ← hv16] at h'
   unfold chG at h'
   split at h'
   ·rename_i id off kk c' op sid o2 n2 c2 op2
    replace h' := run_bif h'
    obtain ⟨hq, h'⟩ := h'
    simp only [Bool.and_eq_true] at hq
    obtain ⟨hk1, hidn, lg, lp, k1⟩ := hq
    have hk1 := Nat.eq_of_beq_eq_true hk1
    subst hk1
    replace h' := run_obj h'
    obtain ⟨ob, hob, h'⟩ := h'
    unfold chO at h'
    split at h'
    ·rename_i el cs opn
     replace h' := run_bif h'
     obtain ⟨hq, h'⟩ := h'
     simp only [Bool.and_eq_true] at hq
     obtain ⟨hel, hin⟩ := hq
     have hel := Nat.eq_of_beq_eq_true hel
     subst hel
     have hin : off + 42 ≤ cs.length := inside_le hin
     replace h' := run_obj h'
     obtain ⟨sob, hsob, h'⟩ := h'
     obtain ⟨c, hc⟩ : ∃ c, c = cutAt cs off 42 := ⟨_, rfl⟩
     have h' : (chS (chX V) Γ (memoV V (runM [] Γ L 40)) L n K g p (.i .i64 rule) sid (cutAt cs off 42) sob).run S H = some r := h'
     rw [← hc] at h'
     unfold chS at h'
     split at h'
     ·rename_i sel scs sopn
      replace h' := run_bif h'
      obtain ⟨hq, h'⟩ := h'
      simp only [Bool.and_eq_true] at hq
      obtain ⟨lc, ls, lsid, k2, k3⟩ := hq
      split at h'
      ·rename_i z ctl
       refine ⟨_, _, _, h', Nat.le_refl _, fun x hx => by simp at hx, ⟨_, Tryz.func142, by kernel_rfl, by kernel_rfl⟩, fun m w U vals hrep hU _ hargs => ?_⟩
       obtain ⟨ti, ht1, ht2, ht3⟩ := hti
       have hE := (hT _ _ ht1).eok
       have cutm : ∀ i, i < n → (m.cut n) i = m i := fun i hi => Mp.cut_lt m hi
       have hargs' : denL ρ (m.cut n) [.agg g, .i .i64 rule, .agg p] = some vals := denL_lt cutm (by simp only [HV.ltL, HV.lt, lg, lp, Bool.and_self]) hargs
       obtain ⟨gv, y1, hg1, _, _⟩ := denL_cons hargs
       have hgl : ∃ gs, denL ρ m g = some gs := by
        simp only [den] at hg1
        split at hg1
        ·rename_i a _ ha; exact ⟨_, ha⟩
        ·cases hg1
       obtain ⟨gs, hgs⟩ := hgl
       have h17 : g[17]? = some (.sl id off 1 c' op) := by
        cases hq : g[17]? with
        | none => rw [List.getD, hq] at hv17; cases hv17
        | some v => rw [List.getD, hq] at hv17; rw [hv17]; rfl
       obtain ⟨x17, _, hx17⟩ := denL_get hgs 17 _ h17
       obtain ⟨b, s, us, post, o1, o2', o3, o4, o5, o6, o7⟩ := hrep.objs id _ hob
       have hul := denL_length o2'
       obtain ⟨sb, ss, sus, spost, p1, p2, p3, p4, _⟩ := hrep.objs sid _ hsob
       have hidl := blt_lt hidn
       have hsl := blt_lt lsid
       have hcc : denL ρ m (cutAt cs off 42) = some ((us.drop off).take 42) := denL_cut off 42 o2'
       rw [← hc] at hcc
       have hc1 : (HV.i .i64 z :: ctl).all HV.one = true := by rw [hc]; exact all_cut _ _ o3
       have hrow : ∀ W, W.heap[b]? = w.heap[b]? → (loadCellsFrom ⟨b, off, none⟩ 0 ti.ty.size #[]).run Tryz.prog W = .ok ((us.drop off).take 42).toArray W := fun W hW => by
        have := cells_run (P := Tryz.prog) hE ht2 (W := W) (b := b) (off := off) (hW.trans o4) (by rw [ht3, List.length_append]; omega)
        rw [this, ht3, List.drop_append_of_le_length (by omega), List.take_append_of_le_length (by rw [List.length_drop]; omega)]
       have key := choose_in (nf := 4) (m := m.cut n) (b := b) (so := s) (cap0 := c') hrep.keep mix hT hR hF hVal hV (fun i hi => Mp.cut_dom hi) hargs' hidl ((cutm id hidl).trans o1) (k := ti.ty.size) (fun W => by rw [run_isAgg hE, ht2]) (fun W => run_sizeOf hE) hrow
        (Array.getElem?_eq_some_iff.1 o4).1 (denL_lt cutm lc hcc) hc1 rfl ⟨sb, ss, sus, spost, _, (cutm sid hsl).trans p1, denL_lt cutm ls p2, p3, p4⟩ hsl lg lp (by simp only [HV.ltL, HV.lt, Bool.and_self]) lc ls k1 k2 k3 (Nat.le_refl 4)
       refine (callsIn_wide.1 key).mono ?_
       rintro e w' ⟨rfl, hbw⟩
       refine ⟨m, _, rfl, Mp.le_refl m, ?_, hrep.grow hbw.block ⟨hbw.os, hbw.tape, hbw.output⟩, fun id hid => .inl (hU id hid)⟩
       obtain ⟨zv, y2, hz1, _, _⟩ := denL_cons hcc
       rw [hz1, (den_i64 hz1).1]
      ·exact run_fail h'
     ·exact run_fail h'
    ·exact run_fail h'
   ·exact run_fail h'
  ·exact run_fail h'
theorem runC_ok {MP : List EntP} (mix : Tryz.prog.follows .mixedOrders = true) (hT : TysOk Tryz.prog Γ.tys) (hR : RngOk ρ Γ.R) (hF : FnsOk Tryz.prog Γ.fns) (hVal : ∀ ρ', RngOk ρ' Γ.R → ValOk Tryz.prog ρ' Γ) (hV : ∀ e ∈ V, EntVOk Tryz.prog ρ e) (hMP : ∀ e ∈ MP, EntPOk Tryz.prog ρ e)
  (hti : ∃ ti, Γ.tys.get 81 = some ti ∧ ti.ty.isAgg = true ∧ ti.ty.size = 42) : ∀ n, CallOk Tryz.prog ρ (runC (chX V) V MP Γ L n) := by
 intro k
 induction k with
 | zero => intro f args n K S H r h; exact run_fail h
 | succ k ih => exact memoC_ok mix hT hR hF hVal hV hti (memoV_ok (memoP_ok (stepF_ok mix hT hR hF (hVal _ hR) ih) hMP) hV)
end
end Go.Proofs.YtehbbcdhahnkgaaGreat.Hm
