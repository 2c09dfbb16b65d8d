/- The ghost machine: an evaluator of the program's text over plain data, and its soundness. -/
import Derived.Test.YtofajgidjkjnpaaDoorFnsSealedReturnsA
import Derived.Test.YtofajgidjkjnpaaDoorGmRf
import Derived.WalkKit
import Derived.OwnWalkIn
import Derived.TacticsInMore
import Derived.LoopNIn
import Derived.LoopIn
import Derived.KernelRfl
import Derived.Shelf.Spec.SlicesInsert
import Derived.Lib.AppendZerosOnto
import Derived.Laws.NewBlocks
import Derived.Laws.AppendOwn
set_option linter.unusedVariables false
set_option linter.unusedSimpArgs false
namespace Go.Proofs.YtofajgidjkjnpaaDoor
open Go
set_option maxRecDepth 100000
set_option linter.unusedVariables false
open Go.RowKit
/-! ipsecgate/chain.Parse: a range over a function -/
section
attribute [local go_sem] Oper.semAt_some
/-- The iterator: two boxes, and a function that holds them. -/
theorem payloads_calls (k : Int) (A : Option Addr) (n c : Nat) (w : World) : Calls Tryd.prog 206 #[.int .i64 k, .slice A n c] w fun e w' => e = .returned (.func (.func 224) #[] #[.pointer (some ⟨w.heap.size, 0, none⟩), .pointer (some ⟨w.heap.size + 1, 0, none⟩)]) ∧
    w' = (w.alloc (.cells #[.int .i64 k] 3)).alloc (.cells #[.slice A n c] 22) := by
  go_enter Tryd.func206, Tryd.ntmps206
  go_wp2
  exact ⟨rfl, _, results_tmp rfl _ _ _, rfl, rfl⟩
theorem last_calls (k : Int) (hk : k = 46 ∨ k = 53) (w : World) : Calls Tryd.prog 207 #[.int .i64 k] w fun e w' => e = .returned (.bool true) ∧ w' = w := by
  go_enter Tryd.func207, Tryd.ntmps207
  rcases hk with rfl | rfl
  · go_wp2
    exact ⟨rfl, _, results_tmp rfl _ _ _, rfl, rfl⟩
  · go_wp2
    exact ⟨rfl, _, results_tmp rfl _ _ _, rfl, rfl⟩
set_option maxRecDepth 100000 in
set_option maxHeartbeats 1000000 in
theorem iter_calls {m : Nat} {k : Int} (hk : k = 46 ∨ k = 53) {l b1 b2 : Nat} {A : Option Addr} {n c : Nat} {W1 : World} (h1 : W1.cell? ⟨b1, 0, none⟩ = some (.int .i64 k)) (h2 : W1.cell? ⟨b2, 0, none⟩ = some (.slice A n c))
    {R : Value → World → Prop} (hread : Calls Tryd.prog 225 #[.int .i64 k, .slice A n c] W1 fun e W2 => ∃ (p0 : Int) (p1 : Bool) (A2 : Option Addr) (n2 c2 : Nat) (p3 : Int) (A4 : Option Addr) (n4 c4 : Nat) (p5 : Int), e = .returned (.agg #[.int .i64 p0, .bool p1, .slice A2 n2 c2, .int .i64 p3, .slice A4 n4 c4, .int .i64 p5]) ∧ R (.agg #[.int .i64 p0, .bool p1, .slice A2 n2 c2, .int .i64 p3, .slice A4 n4 c4, .int .i64 p5]) W2)
    {J : World → Prop} (hY : ∀ sv W2, R sv W2 → YieldAt Fence.wide (m - 1) Tryd.prog l #[.int .i64 0, sv] (W2.alloc (.cells sv.cells 242)) fun e W' =>
      (e = .returned (.bool true) ∧ J W' ∧ W'.cell? ⟨b1, 0, none⟩ = some (.int .i64 k) ∧ W'.cell? ⟨W2.heap.size, 5, none⟩ = some (.int .i64 0)) ∨ (e = .returned (.bool false) ∧ J W')) :
    CallsIn Fence.wide m Tryd.prog 224 #[.func (.yield l) #[] #[], .pointer (some ⟨b1, 0, none⟩), .pointer (some ⟨b2, 0, none⟩)] W1 fun e W' => (∃ v, e = .returned v) ∧ J W' := by
  have hk0 : k ≠ 0 := by omega
  refine callsIn_of_wp Tryd.func224 rfl trivial ?_ rfl
  simp only [Tryd.ntmps224, List.size_toArray, List.length_cons, List.length_nil, Nat.reduceAdd, Nat.reduceSub, Array.replicate_succ, Array.replicate_zero, List.push_toArray, List.append_toArray, List.nil_append, List.cons_append]
  gi_wp2
  refine wpIn_loop_once ?_
  gi_wp2
  refine ⟨trivial, fun h => by simp [Fence.wide] at h, (callsIn_wide.2 hread).mono ?_⟩
  rintro e W2 ⟨p0, p1, A2, n2, c2, p3, A4, n4, c4, p5, rfl, hR⟩
  obtain ⟨fn, tmps, assign, body, hy, hRd⟩ := hY _ W2 hR
  simp only [Value.cells] at hy hRd
  gi_wp2
  refine ⟨fun h => by simp [Fence.wide] at h, hRd.mono ?_⟩
  rintro e W' (⟨rfl, hJ, hc1, hc5⟩ | ⟨rfl, hJ⟩)
  · gi_wp2
    refine ⟨trivial, fun h => by simp [Fence.wide] at h, (callsIn_wide.2 (last_calls k hk W')).mono ?_⟩
    rintro e W3 ⟨rfl, rfl⟩
    gi_wp2
    exact bodyPost_ret (results_none rfl _ _ _) rfl ⟨⟨_, rfl⟩, hJ⟩
  · gi_wp2
    refine ⟨trivial, ?_⟩
    gi_wp2
    exact bodyPost_ret (results_none rfl _ _ _) rfl ⟨⟨_, rfl⟩, hJ⟩
end
abbrev chain_Parse_R : Type := (((List D195) × Int × Int × Unit) × (Unit))
noncomputable def chain_Parse_U (N : Nat) (st : D242) : Option chain_Parse_R :=
  bif room (0 + ([st.1] : List D195).length) 40 then
  let x2 := ([st.1] : List D195)
  Option.bind (chain_last N st.1.1) fun y3 =>
  bif y3.1.1 then
    bif (decide ((0 : Int) < (st.2.2.1.length : Int))) then
      some ((([] : List D195), (0 : Int), (2 : Int), ()), (()))
    else
      some ((x2, st.2.1, (0 : Int), ()), (()))
  else
    bif (decide ((0 : Int) < (st.2.2.1.length : Int))) then
      some ((([] : List D195), (0 : Int), (2 : Int), ()), (()))
    else
      some ((x2, (0 : Int), (0 : Int), ()), (()))
  else none
noncomputable def chain_Parse_T (N : Nat) (st : D242) : Option chain_Parse_R :=
  bif (!(decide (st.2.2.2.1 = (0 : Int)))) then
    some ((([] : List D195), (0 : Int), st.2.2.2.1, ()), (()))
  else
    chain_Parse_U N st
noncomputable def chain_Parse (N : Nat) (k : Int) (b : List UInt8) : Option chain_Parse_R :=
  bif decide (k = 46) || decide (k = 53) then
  Option.bind (chain_read N k b) fun y =>
  chain_Parse_T N y.1.1
  else none
noncomputable def chain_Parse_C (N : Nat) : Ctx := ⟨45, G_tys, [(225, chain_read_ctr N), (207, chain_last_ctr N)], G_globs, G_ifs⟩
noncomputable def chain_Parse_S : Spec := ⟨[.fp (.sl T195), .fp .i64, .fp .i64], []⟩
noncomputable def chain_Parse_P : Spec := ⟨[.val .i64, .val (.sl .u8)], []⟩
noncomputable def chain_Parse_ctr (N : Nat) : Ctr := ⟨chain_Parse_P, chain_Parse_S.un [true, true, true], 0, fun y => chain_Parse N y.1.1 y.1.2.1⟩
theorem chain_Parse_ctrs (N : Nat) : CtrsOk Tryd.prog (chain_Parse_C N) := ctrs_of (Γ := chain_Parse_C N) G_ifs_ok (by
  intro p hp
  simp only [chain_Parse_C, List.mem_cons, List.not_mem_nil, or_false] at hp
  rcases hp with rfl | rfl
  · exact chain_read_ok N
  · exact chain_last_ok N)
def opsOf : Option Code → Array Oper
  | some (.region _ o _) => o
  | _ => #[]
def rfOf : Option Code → Code × Code
  | some (.block _ (.rangeFunc _ _ x y)) => (x, y)
  | _ => (.skip, .skip)
noncomputable def cp_L : List Code := bodyOf (some Tryd.f172)
noncomputable def cp_ops : Array Oper := opsOf (cp_L[5]?)
noncomputable def cp_asg : Code := (rfOf (cp_L[6]?)).1
noncomputable def cp_bdy : Code := (rfOf (cp_L[6]?)).2
theorem cp_split : cp_L = cp_L.take 5 ++ (.region 5 cp_ops false :: .block 0 (.rangeFunc (.tmp 19) #[20, 21] cp_asg cp_bdy) :: cp_L.drop 7) := by kernel_rfl
noncomputable def cp_K : XE → GS → Option chain_Parse_R := retK 0 [4, 5, 6] [true, true, true] chain_Parse_S
noncomputable def cp_sl : List (Nat × GV) := [(3, .sv (.ref 0 .unit [])), (4, .sv (.ref 4 .unit [])), (5, .sv (.ref 8 .i64 [])), (6, .sv (.ref 12 .i64 [])), (7, .sv (.ref 40 .unit [])), (8, .sv (.ref 44 .i64 []))]
noncomputable def cp_back (s : GS) : GS := { s with slots := cp_sl }
noncomputable def cp_KB (N : Nat) : XE → GS → Option chain_Parse_R
  | .normal, s => listK (chain_Parse_C N) (cp_L.drop 7) (cp_back s) cp_K
  | _, _ => none
noncomputable def cp_KA (N : Nat) : XE → GS → Option chain_Parse_R
  | .normal, s => codeK (chain_Parse_C N) cp_bdy s (cp_KB N)
  | _, _ => none
noncomputable def cp_KR : XE → GS → Option chain_Parse_R
  | .ret, s => cp_K .ret (cp_back s)
  | _, _ => none
noncomputable def cp_KS (N : Nat) : XE → GS → Option chain_Parse_R
  | .normal, s => codeK (chain_Parse_C N) cp_bdy s cp_KR
  | _, _ => none
def cp_K1 : XE → GS → Option GS
  | .normal, s => some s
  | _, _ => none
noncomputable def cp_s (N : Nat) (k : Int) (b : List UInt8) : GS := match listK (chain_Parse_C N) (cp_L.take 5) (chain_Parse_P.st (List.range 2) ((k, b, ()), ())) cp_K1 with
  | some s => s
  | none => ⟨[], [], 0⟩
noncomputable def cp_w0 (k : Int) : List Wr := [.slot 17 (some (.sv (.data .i64 k)))]
noncomputable def cp_w1 (b : List UInt8) : List Wr := [.slot 18 (some (.sv (.data (.sl .u8) b)))]
noncomputable def cp_s2 (N : Nat) (k : Int) (b : List UInt8) : GS := ((cp_s N k b).app (cp_w0 k)).app (cp_w1 b)
noncomputable def cp_sB (N : Nat) (k : Int) (b : List UInt8) (st : D242) : GS := { (((cp_s2 N k b).put (.slot 19 none)).put (.slot 20 (some (.sv (.data .i64 (0 : Int)))))).put (.slot 21 (some (.sv (.data T242 st)))) with next := 64 }
theorem cp_pre (N : Nat) {k : Int} (hk : k = 46 ∨ k = 53) (b : List UInt8) : listK (chain_Parse_C N) (cp_L.take 5) (chain_Parse_P.st (List.range 2) ((k, b, ()), ())) cp_K1 = some (cp_s N k b) := by
  rcases hk with rfl | rfl <;> kernel_rfl
/-- The body, where the step is none or an error. -/
theorem cp_tail (N : Nat) {k : Int} (hk : k = 46 ∨ k = 53) (b : List UInt8) (st : D242) : codeK (chain_Parse_C N) cp_asg (cp_sB N k b st) (cp_KA N) = bif (!(decide (st.2.2.2.1 = (0 : Int)))) then none else chain_Parse_U N st := by
  rcases hk with rfl | rfl <;> kernel_rfl
theorem cp_tailR (N : Nat) {k : Int} (hk : k = 46 ∨ k = 53) (b : List UInt8) (st : D242) : codeK (chain_Parse_C N) cp_asg (cp_sB N k b st) (cp_KS N) = bif (!(decide (st.2.2.2.1 = (0 : Int)))) then some ((([] : List D195), (0 : Int), st.2.2.2.1, ()), (())) else bif room (0 + ([st.1] : List D195).length) 40 then Option.bind (chain_last N st.1.1) fun y3 => bif y3.1.1 then none else none else none := by
  rcases hk with rfl | rfl <;> kernel_rfl
noncomputable def cp_op (i : Nat) : Oper := match cp_ops[i]? with
  | some o => o
  | none => ⟨none, .panic (.tmp 0), 0, "", #[], none⟩
theorem cp_ops_at : cp_ops[0]? = some (cp_op 0) ∧ cp_ops[1]? = some (cp_op 1) ∧ cp_ops[2]? = some (cp_op 2) ∧ cp_ops.size = 3 := by
  refine ⟨?_, ?_, ?_, ?_⟩ <;> kernel_rfl
theorem cp_ev0 (N : Nat) {k : Int} (hk : k = 46 ∨ k = 53) (b : List UInt8) : (evalOp (chain_Parse_C N) 52 (cp_op 0)).run (cp_s N k b) = some (cp_w0 k) := by
  rcases hk with rfl | rfl <;> kernel_rfl
theorem cp_ev1 (N : Nat) {k : Int} (hk : k = 46 ∨ k = 53) (b : List UInt8) : (evalOp (chain_Parse_C N) 56 (cp_op 1)).run ((cp_s N k b).app (cp_w0 k)) = some (cp_w1 b) := by
  rcases hk with rfl | rfl <;> kernel_rfl
theorem cp_next (N : Nat) {k : Int} (hk : k = 46 ∨ k = 53) (b : List UInt8) : (cp_s N k b).next = 52 := by
  rcases hk with rfl | rfl <;> kernel_rfl
theorem cp_look (N : Nat) {k : Int} (hk : k = 46 ∨ k = 53) (b : List UInt8) : look 17 (cp_s2 N k b).slots = some (.sv (.data .i64 k)) ∧ look 18 (cp_s2 N k b).slots = some (.sv (.data (.sl .u8) b)) ∧
    look 3 (cp_s2 N k b).slots = some (.sv (.ref 0 .unit [])) ∧ look 4 (cp_s2 N k b).slots = some (.sv (.ref 4 .unit [])) ∧ look 5 (cp_s2 N k b).slots = some (.sv (.ref 8 .i64 [])) ∧ look 6 (cp_s2 N k b).slots = some (.sv (.ref 12 .i64 [])) ∧ look 7 (cp_s2 N k b).slots = some (.sv (.ref 40 .unit [])) ∧ look 8 (cp_s2 N k b).slots = some (.sv (.ref 44 .i64 [])) := by
  rcases hk with rfl | rfl <;> (refine ⟨?_, ?_, ?_, ?_, ?_, ?_, ?_, ?_⟩ <;> kernel_rfl)
theorem cp_op2 : (cp_op 2).op = .call ⟨.value (.func 206), #[.tmp 17, .tmp 18], #[3, 22]⟩ ∧ (cp_op 2).dst = some 19 ∧ (cp_op 2).guard = none := by
  refine ⟨?_, ?_, ?_⟩ <;> kernel_rfl
theorem cp_plain : plainOp (cp_op 0) = true ∧ plainOp (cp_op 1) = true ∧ plainOp (cp_op 2) = true ∧ (cp_op 0).guard = none ∧ (cp_op 1).guard = none ∧ plainC cp_asg = true ∧ plainC cp_bdy = true ∧ (cp_L.take 5).all plainC = true ∧ (cp_L.drop 7).all plainC = true := by
  refine ⟨?_, ?_, ?_, ?_, ?_, ?_, ?_, ?_, ?_⟩ <;> kernel_rfl
theorem cp_mixed : Tryd.prog.follows .mixedOrders = true := by kernel_rfl
def cp_ps (ob : Nat → Value) : List (Nat × Value) := [(0, ob 0), (4, ob 4), (8, ob 8), (12, ob 12), (40, ob 40), (44, ob 44)]
noncomputable def cp_rec (fn : FuncId) (aQ : Act) (D : Nat) (st : LoopState) (pe : Option Code) : Loop := { state := st, pending := pe, fn := fn, tmps := aQ.tmps, params := #[20, 21], assign := cp_asg, body := cp_bdy, defers := D }
section
variable (N : Nat)
/-- What stands when the iterator has returned. -/
def PJ (fn : FuncId) (E : Env) (y : chain_Parse_R) (aQ : Act) (l D : Nat) (W : World) : Prop :=
  ∃ st pe, W.heap[l]? = some (.loop (cp_rec fn aQ D st pe)) ∧ st ≠ .busy ∧ W.heap[D]? = some (.deferred (some [])) ∧
    ∃ s U ob Z, RepAt E 45 U ob Z (cp_back s) aQ W ∧ (∀ j, U j → j < (cp_back s).next) ∧ (∀ b, ownB (cp_back s) ob b → b ≠ l ∧ b ≠ D) ∧ (∀ b, Z b → b ≠ l ∧ b ≠ D) ∧
      ((pe = none ∧ listK (chain_Parse_C N) (cp_L.drop 7) (cp_back s) cp_K = some y) ∨ (pe = some .ret ∧ cp_K .ret (cp_back s) = some y))
theorem ownB_objs {s s' : GS} {ob : Nat → Value} (h : s'.objs = s.objs) {b : Nat} (hb : ownB s' ob b) : ownB s ob b := by
  obtain ⟨i, o, h1, h2, h3⟩ := hb
  exact ⟨i, o, by rw [← h]; exact h1, h2, h3⟩
theorem cp_slots {E : Env} {U U2 : Nat → Prop} {ob ob2 : Nat → Value} {Z Z2 : Nat → Prop} {s : GS} {a : Act} {w w2 : World} (h : RepAt E 45 U ob Z s a w) (hps : ∀ p ∈ cp_ps ob, ob2 p.1 = p.2 ∧ U2 p.1)
    (h3 : look 3 s.slots = some (.sv (.ref 0 .unit [])) ∧ look 4 s.slots = some (.sv (.ref 4 .unit [])) ∧ look 5 s.slots = some (.sv (.ref 8 .i64 [])) ∧ look 6 s.slots = some (.sv (.ref 12 .i64 [])) ∧ look 7 s.slots = some (.sv (.ref 40 .unit [])) ∧ look 8 s.slots = some (.sv (.ref 44 .i64 []))) :
    ∀ n g, look n cp_sl = some g → n < 45 ∧ VR w2 Z2 ob2 g (a.tmps.getD n undef) ∧ g.ids U2 := by
  have key : ∀ (n i : Nat) (t : Ty), n < 45 → look n s.slots = some (.sv (.ref i t [])) → (i, ob i) ∈ cp_ps ob → n < 45 ∧ VR w2 Z2 ob2 (.sv (.ref i t [])) (a.tmps.getD n undef) ∧ (GV.sv (.ref i t [])).ids U2 := by
    intro n i t hn hl hm
    obtain ⟨_, ⟨g, q1, q2, q3⟩, _⟩ := h.slots n _ hl
    obtain ⟨r1, r2⟩ := hps _ hm
    simp only at r1 r2
    exact ⟨hn, ⟨g, by rw [r1]; exact q1, q2, by rw [r1]; exact q3⟩, r2⟩
  obtain ⟨l3, l4, l5, l6, l7, l8⟩ := h3
  intro n g hl
  obtain ⟨hn, hg⟩ : (n = 3 ∨ n = 4 ∨ n = 5 ∨ n = 6 ∨ n = 7 ∨ n = 8) ∧ True := by
    refine ⟨?_, trivial⟩
    simp only [cp_sl, look] at hl
    cases e3 : Nat.beq 3 n with
    | true => exact .inl (Nat.eq_of_beq_eq_true e3).symm
    | false => cases e4 : Nat.beq 4 n with
      | true => exact .inr (.inl (Nat.eq_of_beq_eq_true e4).symm)
      | false => cases e5 : Nat.beq 5 n with
        | true => exact .inr (.inr (.inl (Nat.eq_of_beq_eq_true e5).symm))
        | false => cases e6 : Nat.beq 6 n with
          | true => exact .inr (.inr (.inr (.inl (Nat.eq_of_beq_eq_true e6).symm)))
          | false => cases e7 : Nat.beq 7 n with
            | true => exact .inr (.inr (.inr (.inr (.inl (Nat.eq_of_beq_eq_true e7).symm))))
            | false => cases e8 : Nat.beq 8 n with
              | true => exact .inr (.inr (.inr (.inr (.inr (Nat.eq_of_beq_eq_true e8).symm))))
              | false => rw [e3, e4, e5, e6, e7, e8] at hl; cases hl
  rcases hn with rfl | rfl | rfl | rfl | rfl | rfl
  · cases hl; exact key 3 0 _ (by omega) l3 (by simp [cp_ps])
  · cases hl; exact key 4 4 _ (by omega) l4 (by simp [cp_ps])
  · cases hl; exact key 5 8 _ (by omega) l5 (by simp [cp_ps])
  · cases hl; exact key 6 12 _ (by omega) l6 (by simp [cp_ps])
  · cases hl; exact key 7 40 _ (by omega) l7 (by simp [cp_ps])
  · cases hl; exact key 8 44 _ (by omega) l8 (by simp [cp_ps])
attribute [local irreducible] cp_s2 cp_L cp_asg cp_bdy cp_K codeK listK in
set_option maxHeartbeats 1000000 in
theorem cp_round {E : Env} (hg : E.globs = G_globs) (hE0 : E.pins = []) {k : Int} (hk : k = 46 ∨ k = 53) {b : List UInt8} {U : Nat → Prop} {ob : Nat → Value} {Z : Nat → Prop} {aP : Act} {wP : World}
    (hP : RepAt E 45 U ob Z (cp_s2 N k b) aP wP) (hU : ∀ j, U j → j < 64) {W : World} (hkept : Kept (fun x => wP.heap.size ≤ x) wP W) {ZI : Nat → Prop} {vs : List Value} {st : D242} (hd : DR W ZI T242 st vs)
    (hz1 : ∀ x, ZI x → x < W.heap.size) (hz2 : ∀ x, ZI x → x < wP.heap.size + 4 → Z x) {clo : Value} {fn : FuncId} {aQ : Act} (haQ : aQ = aP.put (some 19) clo) {l D : Nat} (hlv : l = wP.heap.size + 3) (hDv : D = wP.heap.size + 2)
    (hl : W.heap[l]? = some (.loop (cp_rec fn aQ D .ready none))) (hDD : W.heap[D]? = some (.deferred (some []))) {y : chain_Parse_R} (hy : chain_Parse_T N st = some y) {m : Nat} :
    YieldAt Fence.wide m Tryd.prog l #[.int .i64 0, pk T242 vs] W fun e W' => ∃ bo, e = .returned (.bool bo) ∧ (bo = true → st.2.2.2.1 = 0) ∧ PJ N fn E y aQ l D W' ∧
      (∀ x, wP.heap.size ≤ x → x < W.heap.size → x ≠ l → W'.heap[x]? = W.heap[x]?) := by
  have hwW := hkept.size
  have hlW : l < W.heap.size := (Array.getElem?_eq_some_iff.1 hl).1
  have hDW : D < W.heap.size := (Array.getElem?_eq_some_iff.1 hDD).1
  have hB0 : RepAt E 45 U ob Z (cp_s2 N k b) aP W := hP.other hkept (fun x hx => .inr (Nat.le_trans hP.kept.size hx)) (fun x hx => by have := ownB_lt hP hx; omega) (fun x hx => by have := hP.zlt x hx; omega)
  have hB1 : RepAt E 45 U ob (fun x => Z x ∨ ZI x) (cp_s2 N k b) aP W := hB0.freeze ZI hz1 (fun x hx hl => hP.z0 x (hz2 x hx (by have := hP.kept.size; omega)) hl) (fun i o hi ho x hx hz => by
    have h1 := (hP.objs i o hi).2.1.block_lt x hx
    exact (hP.own i o hi ho x hx).1 (hz2 x hz (by omega)))
  have hB2 := hB1.noSlot 19 clo
  rw [← haQ] at hB2
  have hB3 := hB2.slot (d := 20) (by omega) (g := .sv (.data .i64 (0 : Int))) (v := .int .i64 0) (show SR W (fun x => Z x ∨ ZI x) ob (.data .i64 (0 : Int)) (.int .i64 0) from sr_i64 (by omega) (by omega)) trivial
  have hB4 := hB3.slot (d := 21) (by omega) (g := .sv (.data T242 st)) (v := pk T242 vs) ⟨vs, hd.mono (Same.refl _ _) (fun _ h => .inr h), rfl⟩ trivial
  have hB : RepAt E 45 U ob (fun x => Z x ∨ ZI x) (cp_sB N k b st) ((aQ.put (some 20) (.int .i64 0)).put (some 21) (pk T242 vs)) W := eqv_next (n := 64) hB4
  have hobjs : (cp_sB N k b st).objs = (cp_s2 N k b).objs := rfl
  have hown : ∀ x, ownB (cp_sB N k b st) ob x → x < wP.heap.size := fun x hx => ownB_lt hP (ownB_objs hobjs hx)
  have hZB : ∀ x, (Z x ∨ ZI x) → x < wP.heap.size ∨ wP.heap.size + 4 ≤ x := by
    rintro x (h | h)
    · exact .inl (hP.zlt x h)
    · rcases Nat.lt_or_ge x (wP.heap.size + 4) with h1 | h1
      · exact .inl (hP.zlt x (hz2 x h h1))
      · exact .inr h1
  obtain ⟨_, _, l3, l4, l5, l6, l7, l8⟩ := cp_look N hk b
  have hl19 : ∀ n g, n ≠ 19 → look n (cp_s2 N k b).slots = some g → look n ((cp_s2 N k b).put (.slot 19 none)).slots = some g := by
    intro n g hn h
    show look n (ldel 19 _) = _
    rw [look_ldel_ne hn]; exact h
  have hlk := And.intro (hl19 3 _ (by omega) l3) (And.intro (hl19 4 _ (by omega) l4) (And.intro (hl19 5 _ (by omega) l5) (And.intro (hl19 6 _ (by omega) l6) (And.intro (hl19 7 _ (by omega) l7) (hl19 8 _ (by omega) l8)))))
  have hps : ∀ p ∈ cp_ps ob, ob p.1 = p.2 ∧ U p.1 := by
    have u : ∀ (n i : Nat) (t : Ty), look n (cp_s2 N k b).slots = some (.sv (.ref i t [])) → U i := fun n i t h => (hP.slots n _ h).2.2
    intro p hp
    simp only [cp_ps, List.mem_cons, List.not_mem_nil, or_false] at hp
    rcases hp with rfl | rfl | rfl | rfl | rfl | rfl
    · exact ⟨rfl, u 3 0 _ l3⟩
    · exact ⟨rfl, u 4 4 _ l4⟩
    · exact ⟨rfl, u 5 8 _ l5⟩
    · exact ⟨rfl, u 6 12 _ l6⟩
    · exact ⟨rfl, u 7 40 _ l7⟩
    · exact ⟨rfl, u 8 44 _ l8⟩
  have hEp : ∀ p ∈ E.pins, p ∈ cp_ps ob := by rw [hE0]; simp
  obtain ⟨_, _, _, _, _, pasg, pbdy, _, _⟩ := cp_plain
  refine ⟨_, _, _, _, run_yield hl rfl, roundIn_of_wpIn trivial ?_⟩
  have hact : ({ tmps := ((cp_rec fn aQ D .ready none).params.zip #[.int .i64 0, pk T242 vs]).foldl (fun tmps (t, a) => tmps.setIfInBounds t a) (cp_rec fn aQ D .ready none).tmps, defers := [] } : Act) = T [] ((aQ.put (some 20) (.int .i64 0)).put (some 21) (pk T242 vs)) := by
    simp [cp_rec, T, Act.put]
  rw [hact]
  -- the assignment and the body, for whatever the body leads to
  have main : ∀ (KB : XE → GS → Option chain_Parse_R) (KA : XE → GS → Option chain_Parse_R), (∀ s, KA .normal s = codeK (chain_Parse_C N) cp_bdy s KB) → (∀ i s, KA (.exit i) s = none) → (∀ s, KA .ret s = none) →
      codeK (chain_Parse_C N) cp_asg (cp_sB N k b st) KA = some y → ∀ Q : Exit → Act → World → Prop,
      (∀ (e : XE) (s2 : GS) (a2 : Act) (w3 : World), KB e s2 = some y → w3.heap[l]? = some (.loop (cp_rec fn aQ D .busy none)) → w3.heap[D]? = some (.deferred (some [])) → (∀ x, wP.heap.size ≤ x → x < W.heap.size → x ≠ l → w3.heap[x]? = W.heap[x]?) →
        (∀ W4, Kept (fun x => x = l) w3 W4 → ∃ U2 ob2 Z2, RepAt E 45 U2 ob2 Z2 (cp_back s2) aQ W4 ∧ (∀ j, U2 j → j < (cp_back s2).next) ∧ (∀ x, ownB (cp_back s2) ob2 x → x ≠ l ∧ x ≠ D) ∧ (∀ x, Z2 x → x ≠ l ∧ x ≠ D)) → Q e.out a2 w3) →
      cp_asg.wpIn (Fence.wide.inRound l) m Tryd.prog (Exit.then (fun a₁ w₁ => ∃ w₂, (Instr.beginRound l).run Tryd.prog w₁ = .ok () w₂ ∧ cp_bdy.wpIn (Fence.wide.inRound l) m Tryd.prog Q a₁ w₂) (fun _ _ _ => False)) (T [] ((aQ.put (some 20) (.int .i64 0)).put (some 21) (pk T242 vs))) W := by
    intro KB KA k1 k2 k3 hr Q hQ
    refine run_code (ro := some l) (ps := cp_ps ob) cp_mixed (tys_ok G_tys_ok) (chain_Parse_ctrs N) hg pasg hB (fun j hj => hU j hj) hps hEp hr ?_
    rintro e s1 a1 w1 ⟨⟨U1, ob1, Z1, q1, q2, q3, q4, q5⟩, q6⟩ hK
    have hnl : ¬ ownB (cp_sB N k b st) ob l := fun h => by have := hown l h; omega
    have hnD : ¬ ownB (cp_sB N k b st) ob D := fun h => by have := hown D h; omega
    cases e with
    | exit i => rw [k2] at hK; cases hK
    | ret => rw [k3] at hK; cases hK
    | normal =>
      rw [k1] at hK
      have hl1 : w1.heap[l]? = some (.loop (cp_rec fn aQ D .ready none)) := (q6.block l hlW hnl).trans hl
      have hlw1 : l < w1.heap.size := (Array.getElem?_eq_some_iff.1 hl1).1
      refine ⟨_, run_beginRound hl1 rfl, ?_⟩
      have hs1 := q6.size
      have own1 : ∀ x, ownB s1 ob1 x → x < wP.heap.size ∨ W.heap.size ≤ x := fun x hx => (q4 x hx).imp (hown x) id
      have z1 : ∀ x, Z1 x → x < wP.heap.size ∨ wP.heap.size + 4 ≤ x := fun x hx => by
        rcases Nat.lt_or_ge x W.heap.size with h | h
        · rcases q5 x hx h with h | h
          · exact hZB x h
          · exact .inl (hown x h)
        · omega
      have q1' : RepAt E 45 U1 ob1 Z1 s1 a1 (w1.putObj l (.loop { cp_rec fn aQ D .ready none with state := .busy })) := q1.other (M := fun x => x = l) Kept.put (fun x hx => .inr (by have := hP.kept.size; omega)) (fun x hx e => by have := own1 x hx; omega) (fun x hx e => by have := z1 x hx; omega)
      refine run_code (ro := some l) (ps := cp_ps ob) cp_mixed (tys_ok G_tys_ok) (chain_Parse_ctrs N) hg pbdy q1' q2 (fun p hp => q3 p hp) hEp hK ?_
      rintro e s2 a2 w3 ⟨⟨U2, ob2, Z2, r1, r2, r3, r4, r5⟩, r6⟩ hK2
      have hsz : (w1.putObj l (.loop { cp_rec fn aQ D .ready none with state := .busy })).heap.size = w1.heap.size := by simp
      have own2 : ∀ x, ownB s2 ob2 x → x < wP.heap.size ∨ W.heap.size ≤ x := fun x hx => by
        rcases r4 x hx with h | h
        · exact own1 x h
        · rw [hsz] at h; omega
      have z2 : ∀ x, Z2 x → x < wP.heap.size ∨ wP.heap.size + 4 ≤ x := fun x hx => by
        rcases Nat.lt_or_ge x w1.heap.size with h | h
        · rcases r5 x hx (by rw [hsz]; exact h) with h | h
          · exact z1 x h
          · have := own1 x h; omega
        · omega
      have keep : ∀ x, wP.heap.size ≤ x → x < W.heap.size → w3.heap[x]? = (w1.putObj l (.loop { cp_rec fn aQ D .ready none with state := .busy })).heap[x]? := fun x h1 h2 =>
        r6.block x (by rw [hsz]; omega) fun h => by have := own1 x h; omega
      have keep1 : ∀ x, wP.heap.size ≤ x → x < W.heap.size → w1.heap[x]? = W.heap[x]? := fun x h1 h2 => q6.block x h2 fun h => by have := hown x h; omega
      refine hQ e s2 (T [] a2) w3 hK2 ?_ ?_ ?_ ?_
      · rw [keep l (by omega) hlW]; exact World.putObj_heap_same hlw1
      · rw [keep D (by omega) hDW, World.putObj_heap_other (by omega), keep1 D (by omega) hDW]; exact hDD
      · intro x h1 h2 h3
        rw [keep x h1 h2, World.putObj_heap_other h3, keep1 x h1 h2]
      · intro W4 hk4
        have r1' : RepAt E 45 U2 ob2 Z2 s2 a2 W4 := r1.other (M := fun x => x = l) hk4 (fun x hx => .inr (by have := hP.kept.size; omega)) (fun x hx e => by have := own2 x hx; omega) (fun x hx e => by have := z2 x hx; omega)
        refine ⟨U2, ob2, Z2, r1'.withSlots hB2.defers hB2.size (cp_slots (w2 := W4) (Z2 := Z2) hB2 r3 hlk), r2, fun x hx => ?_, fun x hx => ?_⟩
        · have := own2 x (ownB_objs (s := s2) rfl hx); omega
        · have := z2 x hx; omega
  by_cases h0 : st.2.2.2.1 = 0
  · have hr : codeK (chain_Parse_C N) cp_asg (cp_sB N k b st) (cp_KA N) = some y := by
      rw [cp_tail N hk, decide_eq_true h0]
      unfold chain_Parse_T at hy
      rw [decide_eq_true h0] at hy
      exact hy
    refine main (cp_KB N) (cp_KA N) (fun _ => rfl) (fun _ _ => rfl) (fun _ => rfl) hr _ ?_
    intro e s2 a2 w3 hK hl3 hD3 hkp hrep
    cases e with
    | normal =>
      refine ⟨_, _, run_endRound none hl3, true, rfl, fun _ => h0, ?_, ?_⟩
      · obtain ⟨U2, ob2, Z2, p1, p2, p3, p4⟩ := hrep _ Kept.put
        exact ⟨.ready, none, World.putObj_heap_same (Array.getElem?_eq_some_iff.1 hl3).1, by simp, (World.putObj_heap_other (by omega)).trans hD3, s2, U2, ob2, Z2, p1, p2, p3, p4, .inl ⟨rfl, hK⟩⟩
      · intro x h1 h2 h3
        rw [World.putObj_heap_other h3]; exact hkp x h1 h2 h3
    | exit i => cases hK
    | ret => cases hK
  · have hr : codeK (chain_Parse_C N) cp_asg (cp_sB N k b st) (cp_KS N) = some y := by
      rw [cp_tailR N hk, decide_eq_false h0]
      unfold chain_Parse_T at hy
      rw [decide_eq_false h0] at hy
      exact hy
    refine main cp_KR (cp_KS N) (fun _ => rfl) (fun _ _ => rfl) (fun _ => rfl) hr _ ?_
    intro e s2 a2 w3 hK hl3 hD3 hkp hrep
    cases e with
    | ret =>
      refine ⟨_, _, run_endRound (some .ret) hl3, false, rfl, fun h => (by cases h), ?_, ?_⟩
      · obtain ⟨U2, ob2, Z2, p1, p2, p3, p4⟩ := hrep _ Kept.put
        exact ⟨.done, some .ret, World.putObj_heap_same (Array.getElem?_eq_some_iff.1 hl3).1, by simp, (World.putObj_heap_other (by omega)).trans hD3, s2, U2, ob2, Z2, p1, p2, p3, p4, .inr ⟨rfl, hK⟩⟩
      · intro x h1 h2 h3
        rw [World.putObj_heap_other h3]; exact hkp x h1 h2 h3
    | exit i => cases hK
    | normal => cases hK
end
theorem cp_read_some (N : Nat) {k : Int} {b : List UInt8} {y : chain_Parse_R} (h : chain_Parse N k b = some y) : (k = 46 ∨ k = 53) ∧ ∃ yr, chain_read N k b = some yr ∧ chain_Parse_T N yr.1.1 = some y := by
  unfold chain_Parse at h
  by_cases hk : k = 46 ∨ k = 53
  · have hb : (decide (k = 46) || decide (k = 53)) = true := by rw [Bool.or_eq_true, decide_eq_true_eq, decide_eq_true_eq]; exact hk
    rw [hb, cond_true] at h
    cases hr : chain_read N k b with
    | none => rw [hr] at h; cases h
    | some yr => rw [hr] at h; exact ⟨hk, yr, rfl, h⟩
  · have hb : (decide (k = 46) || decide (k = 53)) = false := by
      rw [Bool.or_eq_false_iff, decide_eq_false_iff_not, decide_eq_false_iff_not]; omega
    rw [hb] at h; cases h
theorem step_cells {w : World} {Z : Nat → Prop} {st : D242} {vs : List Value} (h : DR w Z T242 st vs) : ∃ (p0 : Int) (p1 : Bool) (A2 : Option Addr) (n2 c2 : Nat) (p3 : Int) (A4 : Option Addr) (n4 c4 : Nat) (p5 : Int), vs = [.int .i64 p0, .bool p1, .slice A2 n2 c2, .int .i64 p3, .slice A4 n4 c4, .int .i64 p5] ∧ p5 = st.2.2.2.1 := by
  obtain ⟨us, rs, rfl, ⟨us1, rs1, rfl, ⟨rfl, _⟩, us2, rs2, rfl, e2, us3, rs3, rfl, ⟨A, c, rfl, _⟩, e4⟩, us5, rs5, rfl, ⟨rfl, _⟩, us6, rs6, rfl, ⟨A', c', rfl, _⟩, us7, rs7, rfl, ⟨rfl, _⟩, e8⟩ := h
  simp only [DR] at e2 e4 e8
  subst e2 e4 e8
  exact ⟨_, _, _, _, _, _, _, _, _, _, rfl, rfl⟩
section
variable (N : Nat)
/-- The call of read. -/
theorem cp_read {E : Env} (hg : E.globs = G_globs) {U : Nat → Prop} {ob : Nat → Value} {Z : Nat → Prop} {s : GS} {a : Act} {M : Nat} {W1 : World} (h : RepAt E M U ob Z s a W1) {k : Int} {b : List UInt8} {A : Option Addr} {n c : Nat} (hk : -9223372036854775808 ≤ k ∧ k ≤ 9223372036854775807)
    (hd : DR W1 Z (.sl .u8) b [.slice A n c]) {yr : chain_read_R} (hyr : chain_read N k b = some yr) :
    Calls Tryd.prog 225 #[.int .i64 k, .slice A n c] W1 fun e W2 => ∃ (p0 : Int) (p1 : Bool) (A2 : Option Addr) (n2 c2 : Nat) (p3 : Int) (A4 : Option Addr) (n4 c4 : Nat) (p5 : Int), e = .returned (.agg #[.int .i64 p0, .bool p1, .slice A2 n2 c2, .int .i64 p3, .slice A4 n4 c4, .int .i64 p5]) ∧
      (fun sv W2 => ∃ ZI vs, DR W2 ZI T242 yr.1.1 vs ∧ sv = pk T242 vs ∧ (∀ x, ZI x → x < W2.heap.size) ∧ (∀ x, ZI x → x < W1.heap.size → Z x) ∧ Kept (fun _ => False) W1 W2) (Value.agg #[.int .i64 p0, .bool p1, .slice A2 n2 c2, .int .i64 p3, .slice A4 n4 c4, .int .i64 p5]) W2 := by
  have hok := (chain_read_ok N).call ⟨W1, fun _ => False, Z, [], E.globs⟩ ob Z [.int .i64 k, .slice A n c] ((k, b, ()), ()) yr hg rfl rfl ?_ hyr
  · refine hok.mono ?_
    rintro e W2 ⟨vs, ob', Z2, rfl, hlen, hrep⟩
    obtain ⟨v0, rfl⟩ : ∃ v0, vs = [v0] := List.length_eq_one_iff.1 hlen
    obtain ⟨_, ⟨vs6, hd6, hv6⟩, _⟩ := hrep.slots 0 (.sv (.data T242 yr.1.1)) rfl
    obtain ⟨p0, p1, A2, n2, c2, p3, A4, n4, c4, p5, e6, _⟩ := step_cells hd6
    have hv0 : v0 = pk T242 vs6 := hv6
    refine ⟨p0, p1, A2, n2, c2, p3, A4, n4, c4, p5, ?_, Z2, vs6, hd6, ?_, hrep.zlt, fun x hx hl => (hrep.z0 x hx hl).elim id fun h => h.elim, hrep.kept⟩
    · show Ending.returned v0 = _
      rw [hv0, e6]; rfl
    · rw [e6]; rfl
  · refine { defers := rfl, size := rfl, kept := Kept.refl _ _, zlt := h.zlt, z0 := fun x hx _ => .inl hx, slots := ?_, objs := ?_, own := ?_, apart := ?_, globs := fun g d hl => h.globs g d hl, pins := fun p hp => by simp at hp }
    · intro m g hl
      have hl' : look m [(0, GV.sv (.data .i64 k)), (1, GV.sv (.data (.sl .u8) b))] = some g := hl
      simp only [look] at hl'
      cases e0 : Nat.beq 0 m with
      | true =>
        rw [e0] at hl'; cases hl'
        obtain rfl := Nat.eq_of_beq_eq_true e0
        exact ⟨by simp, ⟨_, ⟨rfl, hk⟩, rfl⟩, trivial⟩
      | false =>
        cases e1 : Nat.beq 1 m with
        | true =>
          rw [e0, e1] at hl'; cases hl'
          obtain rfl := Nat.eq_of_beq_eq_true e1
          exact ⟨by simp, ⟨_, hd, rfl⟩, trivial⟩
        | false => rw [e0, e1] at hl'; cases hl'
    · intro i o hl; cases hl
    · intro i o hl; cases hl
    · intro i j o o' _ hl; cases hl
end
theorem cell_of {w : World} {b o : Nat} {cs : Array Value} {e : Nat} {v : Value} (h : w.heap[b]? = some (.cells cs e (0, 0))) (hv : cs[o]? = some v) : w.cell? ⟨b, o, none⟩ = some v := by
  simp [World.cell?, h, hv]
theorem cp_fin (N : Nat) {E : Env} (hE0 : E.pins = []) {s : GS} {a : Act} {W : World} {D : Nat} {y : chain_Parse_R} {R : Ending → World → Prop} (hrep : RepOk E 45 s a (W.putObj D (.deferred none))) (hD : W.heap[D]? = some (.deferred (some []))) {e : XE} (he : e = .normal ∨ e = .ret) (hK : cp_K e s = some y)
    (hR : ∀ vs ob' Z' w', vs.length = (chain_Parse_S.un [true, true, true]).ks.length → RepAt E vs.length (fun k => k < (chain_Parse_S.un [true, true, true]).os.length) ob' Z' ((chain_Parse_S.un [true, true, true]).st (List.range (chain_Parse_S.un [true, true, true]).ks.length) y) ⟨vs.toArray, []⟩ w' → R (.returned (tupV vs)) w') :
    bodyPostM Fence.wide 0 Tryd.prog Tryd.f172 R e.out (T [{ target := .collected D, args := #[] }] a) W := by
  have key : ((fit 0 [4, 5, 6] chain_Parse_S s).map fun y => ((unK [true, true, true] chain_Parse_S.ks y.1, y.2) : (chain_Parse_S.un [true, true, true]).den)) = some y := by
    rcases he with rfl | rfl <;> exact hK
  obtain ⟨v, h1, vs, ob', Z', h2, h3, h4⟩ := ret_ok (P := Tryd.prog) (Γ := chain_Parse_C N) (g := Tryd.f172) (tys_ok G_tys_ok) (np := 0) (res := [4, 5, 6]) (bs := [true, true, true]) (rfit := chain_Parse_S) (by kernel_rfl) (by kernel_rfl) (by rw [hE0]; simp) hrep key
  have hv : v = tupV vs := by injection h2
  have main : LeavesInM Fence.wide 0 Tryd.prog Tryd.f172 a.tmps R [{ target := .collected D, args := #[] }] .returning W :=
    ⟨by simp, .inl ⟨D, _, rfl, run_takeDeferred hD, v, h1, by rw [hv]; exact hR vs ob' Z' _ h3 h4⟩⟩
  rcases he with rfl | rfl <;> exact main
section
variable (N : Nat)
attribute [local irreducible] cp_s2 cp_L cp_asg cp_bdy cp_K codeK listK in
set_option maxHeartbeats 1000000 in
theorem cp_loop {E : Env} (hg : E.globs = G_globs) (hE0 : E.pins = []) {k : Int} (hk : k = 46 ∨ k = 53) {b : List UInt8} {U : Nat → Prop} {ob : Nat → Value} {Z : Nat → Prop} {aP : Act} {wP : World}
    (hP : RepAt E 45 U ob Z (cp_s2 N k b) aP wP) (hU : ∀ j, U j → j < 64) {A : Option Addr} {n c : Nat} (hv : aP.tmps.getD 18 undef = .slice A n c) {yr : chain_read_R} (hyr : chain_read N k b = some yr) {y : chain_Parse_R} (hy : chain_Parse_T N yr.1.1 = some y) {clo : Value}
    (hclo : clo = .func (.func 224) #[] #[.pointer (some ⟨wP.heap.size, 0, none⟩), .pointer (some ⟨wP.heap.size + 1, 0, none⟩)]) {W1 : World} (hW1 : W1 = (wP.alloc (.cells #[.int .i64 k] 3)).alloc (.cells #[.slice A n c] 22)) {Q : Exit → Act → World → Prop}
    (hQ : ∀ (D : Nat) (s : GS) (W : World), (∃ U ob Z, RepAt E 45 U ob Z (cp_back s) (aP.put (some 19) clo) W ∧ (∀ j, U j → j < (cp_back s).next) ∧ (∀ b, ownB (cp_back s) ob b → b ≠ D) ∧ (∀ b, Z b → b ≠ D)) → E.w0.heap.size ≤ D → W.heap[D]? = some (.deferred (some [])) →
      (listK (chain_Parse_C N) (cp_L.drop 7) (cp_back s) cp_K = some y → Q .normal (T [{ target := .collected D, args := #[] }] (aP.put (some 19) clo)) W) ∧ (cp_K .ret (cp_back s) = some y → Q .ret (T [{ target := .collected D, args := #[] }] (aP.put (some 19) clo)) W)) :
    (Code.rangeFunc (.tmp 19) #[20, 21] cp_asg cp_bdy).wpIn Fence.wide 0 Tryd.prog Q (T [] (aP.put (some 19) clo)) W1 := by
  have hsz : 19 < aP.tmps.size := by rw [hP.size]; omega
  have hev : (aP.put (some 19) clo).eval (.tmp 19) = clo := by
    simp [Act.eval, Act.put, Array.getD, hsz]
  have hs1 : W1.heap.size = wP.heap.size + 2 := by rw [hW1]; simp
  refine wpIn_rangeFunc ?_
  intro fn hfn
  obtain ⟨aQ, haQ⟩ : ∃ aQ, aQ = aP.put (some 19) clo := ⟨_, rfl⟩
  rw [← haQ] at hQ hev ⊢
  obtain ⟨W2, hW2⟩ : ∃ W2, W2 = (W1.alloc (.deferred (some []))).alloc (.loop (cp_rec fn aQ W1.heap.size .ready none)) := ⟨_, rfl⟩
  have hk2 : Kept (fun _ => False) wP W2 := by
    rw [hW2, hW1]
    exact (((Kept.alloc _ _).trans (Kept.alloc _ _) (fun _ h => h.elim)).trans (Kept.alloc _ _) (fun _ h => h.elim)).trans (Kept.alloc _ _) (fun _ h => h.elim)
  have hs2 : W2.heap.size = wP.heap.size + 4 := by rw [hW2, hW1]; simp
  have hb1 : W2.heap[wP.heap.size]? = some (.cells #[.int .i64 k] 3 (0, 0)) := by
    rw [hW2, hW1]
    rw [Go.heap_alloc_old _ _ (by simp; omega), Go.heap_alloc_old _ _ (by simp; omega), Go.heap_alloc_old _ _ (by simp)]
    exact World.alloc_heap_new wP _
  have hb2 : W2.heap[wP.heap.size + 1]? = some (.cells #[.slice A n c] 22 (0, 0)) := by
    rw [hW2, hW1]
    rw [Go.heap_alloc_old _ _ (by simp), Go.heap_alloc_old _ _ (by simp)]
    have := World.alloc_heap_new (wP.alloc (.cells #[.int .i64 k] 3)) (.cells #[.slice A n c] 22)
    rwa [World.size_alloc] at this
  have hbD : W2.heap[wP.heap.size + 2]? = some (.deferred (some [])) := by
    rw [hW2]
    rw [Go.heap_alloc_old _ _ (by simp; omega)]
    have := World.alloc_heap_new W1 (.deferred (some []))
    rwa [hs1] at this
  have hbl : W2.heap[wP.heap.size + 3]? = some (.loop (cp_rec fn aQ (wP.heap.size + 2) .ready none)) := by
    rw [hW2, ← hs1]
    have := World.alloc_heap_new (W1.alloc (.deferred (some []))) (.loop (cp_rec fn aQ W1.heap.size .ready none))
    rw [World.size_alloc] at this
    rw [show wP.heap.size + 3 = W1.heap.size + 1 by omega]; exact this
  refine ⟨wP.heap.size + 3, [{ target := .collected (wP.heap.size + 2), args := #[] }], W2, { target := .fn (.func 224) #[.pointer (some ⟨wP.heap.size, 0, none⟩), .pointer (some ⟨wP.heap.size + 1, 0, none⟩)], args := #[.func (.yield (wP.heap.size + 3)) #[] #[]] }, W2, 224,
    #[.func (.yield (wP.heap.size + 3)) #[] #[], .pointer (some ⟨wP.heap.size, 0, none⟩), .pointer (some ⟨wP.heap.size + 1, 0, none⟩)], W2, ?_, ?_, fun _ _ => trivial, ?_, fun h => by simp [Fence.wide] at h, ?_⟩
  · have := run_enterLoop_outer (P := Tryd.prog) (w := W1) fn aQ.tmps #[20, 21] cp_asg cp_bdy
    rw [hs1] at this
    rw [hs1] at hW2
    rw [hW2]; exact this
  · have : (T [] aQ).eval (.tmp 19) = _ := hev.trans hclo
    simp only [resolve, this]
    simp [go_sem]
  · simp [invoke, go_sem]
  · have hB : RepAt E 45 U ob Z (cp_s2 N k b) aP W2 := hP.step hk2
    obtain ⟨_, l18, _⟩ := cp_look N hk b
    obtain ⟨_, ⟨vs, hd, hvs⟩, _⟩ := hB.slots 18 _ l18
    have hd' : DR W2 Z (.sl .u8) b [.slice A n c] := by
      obtain ⟨A', c', rfl, h⟩ := id hd
      have : (Value.slice A n c) = .slice A' b.length c' := hv.symm.trans hvs
      rw [this]; exact hd
    have hread := cp_read N hg hB (k := k) (by omega) hd' hyr
    refine (iter_calls (m := 0) (R := fun sv W2' => ∃ ZI vs, DR W2' ZI T242 yr.1.1 vs ∧ sv = pk T242 vs ∧ (∀ x, ZI x → x < W2'.heap.size) ∧ (∀ x, ZI x → x < W2.heap.size → Z x) ∧ Kept (fun _ => False) W2 W2') (J := fun W' => PJ N fn E y aQ (wP.heap.size + 3) (wP.heap.size + 2) W') hk (cell_of hb1 rfl) (cell_of hb2 rfl) hread ?_).mono ?_
    · rintro sv W3 ⟨ZI, vs, hd3, rfl, hz1, hz2, hk3⟩
      obtain ⟨p0, p1, A2, n2, c2, p3, A4, n4, c4, p5, e6, hp5⟩ := step_cells hd3
      have hk4 : Kept (fun _ => False) W3 (W3.alloc (.cells (pk T242 vs).cells 242)) := Kept.alloc _ _
      have hs3 := hk3.size
      have hold : ∀ x, x < wP.heap.size + 4 → (W3.alloc (.cells (pk T242 vs).cells 242)).heap[x]? = W2.heap[x]? := fun x hx => (hk4.block x (by omega) (fun h => h)).trans (hk3.block x (by omega) (fun h => h))
      have hnew : (W3.alloc (.cells (pk T242 vs).cells 242)).heap[W3.heap.size]? = some (.cells (pk T242 vs).cells 242 (0, 0)) := World.alloc_heap_new W3 _
      obtain ⟨rf, rt, ra, rb, hrun, hround⟩ := cp_round N hg hE0 hk hP hU (W := W3.alloc (.cells (pk T242 vs).cells 242)) (ZI := ZI) (((hk2.trans hk3 (fun _ h => h.elim)).trans hk4 (fun _ h => h.elim)).weak (fun _ h => h.elim)) (hd3.mono (hk4.same (fun _ _ h => h)) (fun _ h => h)) (fun x hx => Nat.lt_of_lt_of_le (hz1 x hx) hk4.size) (fun x hx hl => hz2 x hx (by omega)) haQ rfl rfl ((hold _ (by omega)).trans hbl) ((hold _ (by omega)).trans hbD) hy (m := 0 - 1)
      refine ⟨rf, rt, ra, rb, hrun, hround.mono ?_⟩
      rintro e W' ⟨bo, rfl, hbo, hPJ, hkeep⟩
      cases bo with
      | false => exact .inr ⟨rfl, hPJ⟩
      | true =>
        refine .inl ⟨rfl, hPJ, ?_, ?_⟩
        · have hlt : wP.heap.size < W3.heap.size := by omega
          exact cell_of ((hkeep _ (by omega) (by simp; omega) (by omega)).trans ((hold _ (by omega)).trans hb1)) rfl
        · refine cell_of ((hkeep _ (by omega) (by simp) (by omega)).trans hnew) ?_
          rw [e6, ← hbo rfl, ← hp5]; rfl
    · rintro e W' ⟨⟨v, rfl⟩, st, pe, hl, hst, hD, s, U2, ob2, Z2, hrep, hU2, ho, hz, hend⟩
      have hrep' : RepAt E 45 U2 ob2 Z2 (cp_back s) aQ (W'.putObj (wP.heap.size + 3) (.loop { cp_rec fn aQ (wP.heap.size + 2) st pe with state := .exhausted })) := hrep.other (M := fun x => x = wP.heap.size + 3) Kept.put (fun x hx => .inr (by have := hP.kept.size; omega)) (fun x hx e => (ho x hx).1 e) (fun x hx e => (hz x hx).1 e)
      have hD' : (W'.putObj (wP.heap.size + 3) (.loop { cp_rec fn aQ (wP.heap.size + 2) st pe with state := .exhausted })).heap[wP.heap.size + 2]? = some (.deferred (some [])) := (World.putObj_heap_other (by omega)).trans hD
      obtain ⟨q1, q2⟩ := hQ (wP.heap.size + 2) s _ ⟨U2, ob2, Z2, hrep', hU2, fun x hx => (ho x hx).2, fun x hx => (hz x hx).2⟩ (by have := hP.kept.size; omega) hD'
      refine ⟨pe, _, run_endLoop hl hst, ?_⟩
      rcases hend with ⟨rfl, hK⟩ | ⟨rfl, hK⟩
      · exact q1 hK
      · exact wpIn_ret (q2 hK)
end
theorem cp_end {e : XE} {s : GS} {y : chain_Parse_R} (h : cp_K e s = some y) : e = .normal ∨ e = .ret := by
  cases e with
  | normal => exact .inl rfl
  | ret => exact .inr rfl
  | exit i => cases h
theorem cp_s2_eq (N : Nat) (k : Int) (b : List UInt8) : ((cp_s N k b).app (cp_w0 k)).app (cp_w1 b) = cp_s2 N k b := rfl
theorem cp_flat {b : Code} (h : Tryd.f172.body = some b) : flat b = cp_L := by
  unfold cp_L bodyOf; simp only [h]
attribute [local irreducible] cp_s cp_s2 cp_L cp_asg cp_bdy cp_K codeK listK cp_ops in
set_option maxHeartbeats 1000000 in
theorem chain_Parse_ok (N : Nat) : Ctr.ok Tryd.prog G_globs 172 (chain_Parse_ctr N) where
  body := ⟨Tryd.f172, Tryd.func172, by kernel_rfl, by kernel_rfl⟩
  call := by
    intro E ob Z args x y hglobs hpins hlen hrep hF
    obtain ⟨⟨k, b, u⟩, u'⟩ := x
    obtain ⟨hk, yr, hyr, hT⟩ := cp_read_some N (show chain_Parse N k b = some y from hF)
    have hE0 : E.pins = [] := hpins
    have hEp : ∀ p ∈ E.pins, p ∈ ([] : List (Nat × Value)) := by rw [hE0]; simp
    have hargs : args.length = 2 := hlen
    obtain ⟨hp0, hp1, hp2, hg0, hg1, pasg, pbdy, ppre, ppost⟩ := cp_plain
    obtain ⟨b0, hb0⟩ : ∃ b0, Tryd.f172.body = some b0 := ⟨_, rfl⟩
    refine (callsIn_wide (n := 0)).1 (callsIn_of_wp_marks Tryd.func172 hb0 trivial (flat_wpIn ?_) rfl)
    have hsize : (args.toArray ++ Array.replicate (Tryd.f172.ntmps - args.toArray.size) undef).size = 45 := by
      simp [Tryd.ntmps172]; omega
    have hrep0 : RepAt E 45 (fun k => k < 0) ob Z (chain_Parse_P.st (List.range 2) ((k, b, ()), ())) ⟨args.toArray ++ Array.replicate (Tryd.f172.ntmps - args.toArray.size) undef, []⟩ E.w0 := RepAt.withSlots hrep rfl hsize (fun n gv hl => by
      obtain ⟨q1, q2, q3⟩ := hrep.slots n gv hl
      refine ⟨by omega, ?_, q3⟩
      have : (args.toArray ++ Array.replicate (Tryd.f172.ntmps - args.toArray.size) undef).getD n undef = args.toArray.getD n undef := by
        have h1 : n < args.toArray.size := by simpa using q1
        simp [Array.getElem?_append_left h1]
      rw [this]; exact q2)
    revert hrep0
    generalize (⟨args.toArray ++ Array.replicate (Tryd.f172.ntmps - args.toArray.size) undef, []⟩ : Act) = a0
    intro hrep0
    rw [cp_flat hb0]
    show listWpIn (FR none) 0 Tryd.prog cp_L _ a0 E.w0
    rw [← T_self hrep0.defers]
    rw [cp_split]
    refine listWpIn_append (run_list (ro := none) (ps := []) cp_mixed (tys_ok G_tys_ok) (chain_Parse_ctrs N) hglobs ppre hrep0 (fun j hj => by omega) (by simp) hEp (cp_pre N hk b) ?_)
    rintro e s1 a1 w1 ⟨⟨U1, ob1, Z1, q1, q2, _, q4, q5⟩, q6⟩ hK1
    obtain ⟨rfl, rfl⟩ : e = .normal ∧ s1 = cp_s N k b := by
      cases e with
      | normal => exact ⟨rfl, Option.some.inj hK1⟩
      | exit i => cases hK1
      | ret => cases hK1
    rw [cp_next N hk b] at q2
    obtain ⟨ho0, ho1, ho2, hosz⟩ := cp_ops_at
    show (Code.region 5 cp_ops false).wpIn (FR none) 0 Tryd.prog _ (T [] a1) w1
    refine wpIn_region ?_
    rw [hosz]
    show wpOpsIn (FR none) 0 Tryd.prog cp_ops _ [0, 1, 2] (T [] a1) w1
    refine step_in (ps := []) (fresh := 52) cp_mixed (tys_ok G_tys_ok) (chain_Parse_ctrs N) hglobs ho0 hg0 hp0 q1 (fun j h1 h2 h3 => by have := q2 j h3; omega) (by simp) hEp (cp_ev0 N hk b) ?_
    intro U2 ob2 Z2 a2 w2 r1 r2 _ r3 r4 r5
    refine step_in (ps := []) (fresh := 56) cp_mixed (tys_ok G_tys_ok) (chain_Parse_ctrs N) hglobs ho1 hg1 hp1 r1 (fun j h1 h2 h3 => by rcases r2 j h3 with h | h; (have := q2 j h; omega); omega) (by simp) hEp (cp_ev1 N hk b) ?_
    intro U3 ob3 Z3 a3 w3 t1 t2 _ t3 t4 t5
    rw [cp_s2_eq] at t1
    have hP : RepAt E 45 U3 ob3 Z3 (cp_s2 N k b) a3 w3 := t1
    have hU3 : ∀ j, U3 j → j < 64 := fun j hj => by
      rcases t2 j hj with h | h
      · rcases r2 j h with h | h
        · have := q2 j h; omega
        · omega
      · omega
    obtain ⟨l17, l18, _⟩ := cp_look N hk b
    obtain ⟨_, v17, _⟩ := hP.slots 17 _ l17
    obtain ⟨_, ⟨vs18, ⟨A, c, rfl, _⟩, v18⟩, _⟩ := hP.slots 18 _ l18
    have v17 : a3.tmps.getD 17 undef = .int .i64 k := (SR.i64 (ob := ob3) v17).1
    have v18 : a3.tmps.getD 18 undef = .slice A b.length c := v18
    obtain ⟨o1, o2, o3⟩ := cp_op2
    rw [wpOpsIn_cons]
    unfold wpOpIn
    simp only [ho2]
    rw [if_pos (by simp [Region.wanted, o3])]
    refine ⟨fun _ _ => trivial, ?_⟩
    rw [Oper.semAt_eq _ _ _ (plainOp_ok hp2), T_eval]
    have hrun : (execOp a3.eval (cp_op 2)).run Tryd.prog w3 = .ok (.enter 206 #[.int .i64 k, .slice A b.length c]) w3 := by
      have hb1 : Tryd.prog.funcs[206]? = some Tryd.f206 := Tryd.func206
      have hb4 : ¬ Tryd.f206.body = none := by intro h; cases h
      have hb5 : ¬ Tryd.f206.name = "runtime.NumGoroutine" := by decide
      have e17 : a3.eval (.tmp 17) = .int .i64 k := v17
      have e18 : a3.eval (.tmp 18) = .slice A b.length c := v18
      have ef : a3.eval (.func 206) = .func (.func 206) #[] #[] := rfl
      simp [execOp, o1, resolve, e17, e18, ef, Deferred.ofValue, invoke, callFunc, hb1, hb4, hb5]
    rw [hrun]
    refine ⟨fun h => by simp [FR, Fence.wide] at h, (callsR (ro := none) (payloads_calls k A b.length c w3)).mono ?_⟩
    rintro e w4 ⟨rfl, hw4⟩
    obtain ⟨clo, hclo⟩ : ∃ clo, clo = Value.func (.func 224) #[] #[.pointer (some ⟨w3.heap.size, 0, none⟩), .pointer (some ⟨w3.heap.size + 1, 0, none⟩)] := ⟨_, rfl⟩
    rw [← hclo]
    show listWpIn (FR none) 0 Tryd.prog (_ :: _) _ ((T [] a3).put (cp_op 2).dst clo) w4
    rw [T_put, o2]
    show (Code.block 0 _).wpIn (FR none) 0 Tryd.prog _ _ w4
    refine wpIn_block (cp_loop N hglobs hE0 hk hP hU3 v18 hyr hT hclo hw4 ?_)
    intro D s W ⟨U4, ob4, Z4, hrep4, hU4, ho4, hz4⟩ hDge hDW
    have hDlt : D < W.heap.size := (Array.getElem?_eq_some_iff.1 hDW).1
    refine ⟨fun hK => ?_, fun hK => ?_⟩
    · show listWpIn (FR none) 0 Tryd.prog (cp_L.drop 7) _ (T [_] _) W
      refine run_list (ro := none) (ps := []) cp_mixed (tys_ok G_tys_ok) (chain_Parse_ctrs N) hglobs ppost hrep4 hU4 (by simp) hEp hK ?_
      rintro e s5 a5 w5 ⟨⟨U5, ob5, Z5, z1, z2, _, z4, z5⟩, z6⟩ hK5
      have z1' : RepAt E 45 U5 ob5 Z5 s5 a5 (w5.putObj D (.deferred none)) := z1.other (M := fun x => x = D) Kept.put (fun x hx => .inr (by omega)) (fun x hx e => by
        rcases z4 x hx with h | h
        · exact ho4 x h e
        · omega) (fun x hx e => by
        rcases z5 x hx (by omega) with h | h
        · exact hz4 x h e
        · exact ho4 x h e)
      refine cp_fin N hE0 ⟨U5, ob5, Z5, z1', z2⟩ ((z6.block D hDlt (fun h => ho4 D h rfl)).trans hDW) (cp_end hK5) hK5 ?_
      intro vs ob' Z' w' h1 h2
      exact ⟨vs, ob', Z', rfl, h1, h2⟩
    · have hrep5 : RepAt E 45 U4 ob4 Z4 (cp_back s) _ (W.putObj D (.deferred none)) := hrep4.other (M := fun x => x = D) Kept.put (fun x hx => .inr (by omega)) (fun x hx e => ho4 x hx e) (fun x hx e => hz4 x hx e)
      refine cp_fin N hE0 (e := .ret) ⟨U4, ob4, Z4, hrep5, hU4⟩ hDW (.inr rfl) hK ?_
      intro vs ob' Z' w' h1 h2
      exact ⟨vs, ob', Z', rfl, h1, h2⟩

end Go.Proofs.YtofajgidjkjnpaaDoor
namespace Go.Proofs.YtofajgidjkjnpaaDoor
open Go
set_option maxRecDepth 100000
set_option linter.unusedVariables false
open Go.RowKit
/-! slices.Insert: a text by hand, as of a range over a function -/
theorem run_copy_multi {P : Program} {size : Nat} (w : World) (dT sT ty elem t0 : TypeId) (g o dLen dCap : Nat) (a : Addr) (sLen sCap : Nat) (cur : Array Value) (cs : List Value)
    (hu : P.underlying dT = some (.slice elem)) (hs : (P.info? elem).map (·.size) = some size) (hn : cs.length = Nat.min sLen dLen * size)
    (hsrc : ∀ j v, cs[j]? = some v → w.cell? (a.add j) = some v) (hg : w.heap[g]? = some (.cells cur t0 (0, 0))) (hl : o + cs.length ≤ cur.size) (h1 : ∀ v ∈ cs, v.oneCell' = true) :
    (Builtin.copy_ #[dT, sT] ty #[.slice (some ⟨g, o, none⟩) dLen dCap, .slice (some a) sLen sCap]).run P w = .ok (goInt (Nat.min sLen dLen)) (w.setRow g (repl cur.toList cs o).toArray) := by
  have hl' := run_loadCells_list (P := P) w a cs hsrc
  have hst := run_storeCells_at P g o t0 cs 0 cur w hg (by simpa using hl) h1
  cases hq : P.info? elem with
  | none => simp [hq] at hs
  | some i =>
    have hi : i.size = size := by simpa [hq] using hs
    simp only [Nat.add_zero] at hst
    simp [Builtin.copy_, run_underlying hu, Builtin.lenOf, Builtin.firstCells, sizeOf, typeInfo, hq, hi, ← hn, hl', hst, repl]
theorem u96 : Tryd.prog.underlying 96 = some (.slice 92) := by kernel_rfl
theorem u3 : Tryd.prog.underlying 3 = some (.int .i64) := by kernel_rfl
theorem s92 : (Tryd.prog.info? 92).map (·.size) = some 4 := by kernel_rfl
def Z92 : Value := .agg #[.int .i64 0, .int .i64 0, .int .i64 0, .slice none 0 0]
theorem i92 : ∃ i, Tryd.prog.info? 92 = some i ∧ i.size = 4 ∧ i.bytes = 48 ∧ i.zero = some Z92 := by
  have h : (Tryd.prog.info? 92).map (fun i => (i.size, i.bytes)) = some (4, 48) := by kernel_rfl
  have h2 : (Tryd.prog.info? 92).bind (fun i => i.zero) = some Z92 := by kernel_rfl
  cases hi : Tryd.prog.info? 92 with
  | none => rw [hi] at h; cases h
  | some i =>
    rw [hi] at h h2
    simp only [Option.map_some, Option.some.injEq, Prod.mk.injEq] at h
    exact ⟨i, rfl, h.1, h.2, h2⟩
theorem mixed' : Tryd.prog.follows .mixedOrders = true := by kernel_rfl
theorem setRow_drew (w : World) (g : Nat) (r : Array Value) : (w.setRow g r).drew = w.drew.setRow g r := rfl
set_option maxHeartbeats 4000000 in
theorem ins_grow (b n c i : Nat) (va : Addr) (vc : Nat) (cur : Array Value) (vs : List Value) (w : World) (hi : i < n) (hnc : n ≤ c) (hroom : c < n + 1) (hbig : (n + 1) * 48 ≤ 140737488355328)
    (hb : w.heap[b]? = some (.cells cur 92 (0, 0))) (hcs : cur.size = c * 4) (hvl : vs.length = 4) (hvs : ∀ j v, vs[j]? = some v → w.cell? (va.add j) = some v) (h1c : ∀ v ∈ cur.toList.take (n * 4), v.oneCell' = true) (h1v : ∀ v ∈ vs, v.oneCell' = true) :
    Calls Tryd.prog 149 #[.slice (some ⟨b, 0, none⟩) n c, .int .i64 i, .slice (some va) 1 vc] w fun e w' => ∃ G ROW, e = .returned (.slice (some ⟨w.heap.size, 0, none⟩) (n + 1) G) ∧ n + 1 ≤ G ∧ G ≤ maxLen ∧ ROW.size = G * 4 ∧ ROW.toList.take ((n + 1) * 4) = cur.toList.take (i * 4) ++ vs ++ (cur.toList.take (n * 4)).drop (i * 4) ∧
      w'.heap[w.heap.size]? = some (.cells ROW 92 (0, 0)) ∧ Kept (fun _ => False) w w' := by
  have mixed := mixed'
  have hz2 : ¬ ((i : Int) = (n : Int)) := by omega
  have hz3 : (c : Int) < (n : Int) + (1 : Int) := by omega
  obtain ⟨i0, hi0, hzs, hzb, hz0⟩ := i92
  have hcl : cur.toList.length = c * 4 := by rw [← hcs]; exact Array.length_toList
  have hbw : b < w.heap.size := (Array.getElem?_eq_some_iff.1 hb).1
  have hkk : (n : Int) + 1 - (i : Int) = ((n + 1 - i : Nat) : Int) := by omega
  have hik : i + (n + 1 - i) = n + 1 := by omega
  have hsrcb : ∀ k j v, (cur.toList.drop k)[j]? = some v → w.cell? ⟨b, k + j, none⟩ = some v := fun k j v hj => by
    rw [List.getElem?_drop] at hj
    have : cur[k + j]? = some v := by rw [← Array.getElem?_toList]; exact hj
    simp [World.cell?, hb, this]
  have hold : (Builtin.firstCells i0.size i (.slice (some ⟨b, 0, none⟩) i c)).run Tryd.prog w.drew = .ok (cur.toList.take (i * 4)).toArray w.drew := by
    rw [hzs]
    refine run_firstCells_some w.drew 4 i ⟨b, 0, none⟩ i c (cur.toList.take (i * 4)) (by rw [List.length_take, hcl]; omega) (fun j v hj => ?_)
    rw [Addr.add_lit]
    have h0 := hsrcb 0 j v (by rw [List.getElem?_take] at hj; split at hj; (· simpa using hj); (· cases hj))
    exact h0
  have hrz : ∀ ty, (Builtin.append_ #[96, 3] ty #[.slice (some ⟨b, 0, none⟩) i c, .int .i64 ((n : Int) + 1 - (i : Int))]).run Tryd.prog w =
      .ok (.slice (some ⟨w.heap.size, 0, none⟩) (n + 1) (grownCap w (n + 1) c 92)) (w.drew.alloc (.cells ((cur.toList.take (i * 4)).toArray ++ Builtin.zeroCells Z92.cells (n + 1 - i) ++ Builtin.zeroCells Z92.cells (grownCap w (n + 1) c 92 - (n + 1))) 92)) := fun ty => by
    have h := Lib.run_append_grow_zeros w 96 3 ty 92 i0 _ .i64 .i64 u96 u3 hi0 hz0 (some ⟨b, 0, none⟩) i c (cur.toList.take (i * 4)) hold (n + 1 - i) (by omega) (by omega) (by omega) (by omega) (by rw [hzb]; omega) (by rw [hzb, hik]; exact growslice_fits hroom hbig)
    rw [hik] at h
    rw [hkk]
    exact h
  obtain ⟨G, hG⟩ : ∃ G, G = grownCap w (n + 1) c 92 := ⟨_, rfl⟩
  have hGn : n + 1 ≤ G := by rw [hG]; exact grownCap_ge w _ _ _
  have hGm : G ≤ maxLen := by rw [hG]; exact grownCap_le_maxLen w (n + 1) c 92 (by unfold maxLen; omega)
  rw [← hG] at hrz
  obtain ⟨ROW, hROW⟩ : ∃ ROW : Array Value, ROW = (cur.toList.take (i * 4)).toArray ++ Builtin.zeroCells Z92.cells (n + 1 - i) ++ Builtin.zeroCells Z92.cells (G - (n + 1)) := ⟨_, rfl⟩
  rw [← hROW] at hrz
  have hRs : ROW.size = G * 4 := by
    rw [hROW]
    simp only [Array.size_append, size_zeroCells, List.size_toArray, List.length_take, hcl]
    have : Z92.cells.size = 4 := rfl
    rw [this]; omega
  have hRt : ROW.toList.take (i * 4) = cur.toList.take (i * 4) := by
    rw [hROW]
    simp only [Array.toList_append, List.append_assoc]
    rw [List.take_append_of_le_length (by rw [List.length_take, hcl]; omega)]
    rw [List.take_take, Nat.min_self]
  obtain ⟨W1, hW1⟩ : ∃ W1, W1 = w.drew.alloc (.cells ROW 92) := ⟨_, rfl⟩
  have hnew : W1.heap[w.heap.size]? = some (.cells ROW 92 (0, 0)) := by rw [hW1]; exact World.alloc_heap_new w.drew _
  have hold1 : ∀ k, k < w.heap.size → W1.heap[k]? = w.heap[k]? := fun k hk => by rw [hW1]; exact Go.heap_alloc_old w.drew _ hk
  have hcpA : ∀ (W : World) ty dc, W.heap = W1.heap → (Builtin.copy_ #[96, 96] ty #[.slice (some ⟨w.heap.size, i * 4, none⟩) (n + 1 - i) dc, .slice (some va) 1 vc]).run Tryd.prog W = .ok (goInt 1) (W.setRow w.heap.size (repl ROW.toList vs (i * 4)).toArray) := fun W ty dc hW => by
    have hm : Nat.min 1 (n + 1 - i) = 1 := Nat.min_eq_left (by omega)
    have := run_copy_multi (P := Tryd.prog) W 96 96 ty 92 92 w.heap.size (i * 4) (n + 1 - i) dc va 1 vc ROW vs u96 s92 (by rw [hm]; omega)
      (fun j v hj => cell_keep (fun k hk => by rw [hW]; exact hold1 k hk) (hvs j v hj)) (by rw [hW]; exact hnew) (by omega) h1v
    rw [hm] at this
    exact this
  obtain ⟨R2, hR2⟩ : ∃ R2, R2 = (repl ROW.toList vs (i * 4)).toArray := ⟨_, rfl⟩
  have hR2l : R2.toList = cur.toList.take (i * 4) ++ vs ++ ROW.toList.drop (i * 4 + 4) := by rw [hR2]; unfold repl; rw [hRt, hvl]
  have hRl : ROW.toList.length = G * 4 := by rw [← hRs]; exact Array.length_toList
  have hR2s : R2.size = G * 4 := by
    rw [← Array.length_toList, hR2l]
    simp only [List.length_append, List.length_take, List.length_drop, hcl, hRl, hvl]; omega
  obtain ⟨cs, hcsd⟩ : ∃ cs, cs = (cur.toList.take (n * 4)).drop (i * 4) := ⟨_, rfl⟩
  have hcsl : cs.length = (n - i) * 4 := by rw [hcsd, List.length_drop, List.length_take, hcl]; omega
  have hcsg : ∀ j v, cs[j]? = some v → w.cell? ⟨b, i * 4 + j, none⟩ = some v := fun j v hj => by
    rw [hcsd, List.getElem?_drop, List.getElem?_take] at hj
    split at hj
    · exact cell_at hb hj
    · cases hj
  have hcs1 : ∀ v ∈ cs, v.oneCell' = true := fun v hv => h1c v (List.mem_of_mem_drop (hcsd ▸ hv))
  have hcpB : ∀ (W : World) ty dc sc, W.heap = (W1.setRow w.heap.size R2).heap → (Builtin.copy_ #[96, 96] ty #[.slice (some ⟨w.heap.size, (i + 1) * 4, none⟩) (n + 1 - (i + 1)) dc, .slice (some ⟨b, i * 4, none⟩) (n - i) sc]).run Tryd.prog W = .ok (goInt ((n - i : Nat) : Int)) (W.setRow w.heap.size (repl R2.toList cs ((i + 1) * 4)).toArray) := fun W ty dc sc hW => by
    have hm : Nat.min (n - i) (n + 1 - (i + 1)) = n - i := Nat.min_eq_left (by omega)
    have := run_copy_multi (P := Tryd.prog) W 96 96 ty 92 92 w.heap.size ((i + 1) * 4) (n + 1 - (i + 1)) dc ⟨b, i * 4, none⟩ (n - i) sc R2 cs u96 s92 (by rw [hm]; exact hcsl)
      (fun j v hj => by
        rw [Addr.add_lit]
        refine cell_keep (fun k hk => ?_) (hcsg j v hj)
        rw [hW, Go.setRow_other W1 _ k _ (by omega)]
        exact hold1 k hk)
      (by rw [hW]; exact setRow_heap _ _ _ _ _ _ hnew) (by omega) hcs1
    rw [hm] at this
    exact this
  obtain ⟨R3, hR3⟩ : ∃ R3, R3 = (repl R2.toList cs ((i + 1) * 4)).toArray := ⟨_, rfl⟩
  have hR3l : R3.toList = cur.toList.take (i * 4) ++ vs ++ cs ++ R2.toList.drop ((i + 1) * 4 + (n - i) * 4) := by
    rw [hR3]
    show R2.toList.take ((i + 1) * 4) ++ cs ++ R2.toList.drop ((i + 1) * 4 + cs.length) = _
    rw [hcsl]
    have : R2.toList.take ((i + 1) * 4) = cur.toList.take (i * 4) ++ vs := by
      rw [hR2l]
      exact List.take_left' (by rw [List.length_append, List.length_take, hcl, hvl]; omega)
    rw [this]
  have hpl : (cur.toList.take (i * 4) ++ vs ++ cs).length = (n + 1) * 4 := by
    simp only [List.length_append, List.length_take, hcl, hvl, hcsl]; omega
  have hR3s : R3.size = G * 4 := by
    have h2 : R2.toList.length = G * 4 := by rw [← hR2s]; exact Array.length_toList
    rw [← Array.length_toList, hR3l, List.length_append, hpl, List.length_drop, h2]; omega
  have hR3t : R3.toList.take ((n + 1) * 4) = cur.toList.take (i * 4) ++ vs ++ cs := by rw [hR3l]; exact List.take_left' hpl
  rw [← hR2] at hcpA
  rw [← hR3] at hcpB
  have hfin : ∀ W : World, W = ((W1.setRow w.heap.size R2).drew.setRow w.heap.size R3) → W.heap[w.heap.size]? = some (.cells R3 92 (0, 0)) ∧ Kept (fun _ => False) w W := by
    rintro W rfl
    have k1 : Kept (fun _ => False) w W1 := by rw [hW1]; exact (Kept.drew w).trans (Kept.alloc _ _) (fun _ h => h.elim)
    have k2 : Kept (fun _ => False) w (W1.setRow w.heap.size R2) := k1.trans (setRow_kept W1 w.heap.size R2) (fun x hx => .inr (by cases hx; exact Nat.le_refl _))
    have k3 := (k2.trans (Kept.drew _) (fun _ h => h.elim)).trans (setRow_kept (W1.setRow w.heap.size R2).drew w.heap.size R3) (fun x hx => .inr (by cases hx; exact Nat.le_refl _))
    refine ⟨?_, k3⟩
    have h1 : (W1.setRow w.heap.size R2).drew.heap[w.heap.size]? = some (.cells R2 92 (0, 0)) := setRow_heap _ _ _ _ _ _ hnew
    exact setRow_heap _ _ _ _ _ _ h1
  rw [hcsd] at hR3t
  subst hW1
  have hw1 : IntKind.i64.wrap ((i : Int) + 1) = (i : Int) + 1 := by rw [IntKind.wrap_i64]; omega
  have hb1 : (0 : Int) ≤ (i : Int) + 1 := by omega
  have htn : ((i : Int) + 1).toNat = i + 1 := by omega
  have hin : i ≤ n := by omega
  have hGi : ¬ (G = i) := by omega
  have hGim : ¬ (G = i + 1) := by omega
  have hci : ¬ (c = i) := by omega
  have hb3 : (i : Int) ≤ (n : Int) := by omega
  clear hkk hik hold hROW hG hsrcb hRs hRt hb hvs h1c h1v hcl hnew hold1 hR2 hR2l hRl hR2s hcsl hcsg hcs1 hR3 hR3l hpl hvl hcs
  go_enter Tryd.func149, Tryd.ntmps149
  go_wp2_with (at_builtin; refine Lib.wpList_append_run _ rfl _ _ _ _ rfl _ _ rfl rfl _ _ (hrz _) ?_)
  rw [hcpA ((w.alloc (.cells ROW 92)).drew) 3 (G - i) rfl]
  simp only [Result.andThen_ok]
  go_wp2
  go_region_law_o (refine step_copy_runI rfl _ _ 96 96 rfl (.slice (some ⟨w.heap.size, (i + 1) * 4, none⟩) (n + 1 - (i + 1)) (G - (i + 1))) (.slice (some ⟨b, i * 4, none⟩) (n - i) (c - i)) (by simp [Act.eval, Act.put]) (by simp [Act.eval, Act.put]) (hcpB _ 3 (G - (i + 1)) (c - i) rfl) ?_)
  go_wp2
  go_ret
  obtain ⟨q1, q2⟩ := hfin _ rfl
  exact ⟨_, _, rfl, hGn, hGm, hR3s, hR3t, q1, q2⟩
set_option maxHeartbeats 4000000 in
theorem ins_end (v : Value) (n vc : Nat) (va : Addr) (xs vs : List Value) (w : World) (hown : w.ownsRow 0 92 4 v n xs) (hbig : (n + 1) * 48 ≤ 140737488355328)
    (hvl : vs.length = 4) (hvs : ∀ j u, vs[j]? = some u → w.cell? (va.add j) = some u) (h1v : ∀ u ∈ vs, u.oneCell' = true) :
    Calls Tryd.prog 149 #[v, .int .i64 n, .slice (some va) 1 vc] w fun e w' => ∃ v', e = .returned v' ∧ w'.ownsRow 0 92 4 v' (n + 1) (xs ++ vs) ∧ w.grownBy w' v.ownBlock ∧ (v'.ownBlock = v.ownBlock ∨ v'.ownBlock = some w.heap.size) := by
  have mixed := mixed'
  obtain ⟨i0, hi0, hzs, hzb, hz0⟩ := i92
  obtain ⟨v', w', hr, q1, q2, _, q5⟩ := run_append_own_at (P := Tryd.prog) w 0 96 96 92 i0 Z92 4 48 u96 hi0 hz0 hzs hzb rfl (by omega) v n xs hown va 1 vc vs (by omega) hvs h1v (by unfold maxLen; omega) hbig (Nat.zero_le _)
  have fin : ∃ v'', Ending.returned v' = .returned v'' ∧ w'.ownsRow 0 92 4 v'' (n + 1) (xs ++ vs) ∧ w.grownBy w' v.ownBlock ∧ (v''.ownBlock = v.ownBlock ∨ v''.ownBlock = some w.heap.size) := ⟨v', rfl, q1, q2, q5⟩
  rcases hown.2 with ⟨rfl, hn⟩ | ⟨g, cap, cur, rfl, _, hg, hnc, hcm, hcs, ht⟩
  · subst hn
    clear hown hvs h1v hvl q1 q2 q5 hbig
    go_enter Tryd.func149, Tryd.ntmps149
    go_wp2_with (at_builtin; refine Lib.wpList_append_run _ rfl _ _ _ _ rfl _ _ rfl rfl _ _ hr ?_)
    go_ret
    exact fin
  · have hle : n ≤ cap := hnc
    clear hown hvs h1v hvl q1 q2 q5 hbig hg hcs ht
    go_enter Tryd.func149, Tryd.ntmps149
    go_wp2_with (at_builtin; refine Lib.wpList_append_run _ rfl _ _ _ _ rfl _ _ rfl rfl _ _ hr ?_)
    all_goals (go_ret; exact fin)
theorem frozen00 {w : World} {b k : Nat} {cur : Array Value} {e : Nat} (hb : w.heap[b]? = some (.cells cur e (0, 0))) : w.frozen? ⟨b, k, none⟩ = false := by
  simp [World.frozen?, hb]
set_option maxHeartbeats 4000000 in
theorem ins_shift (b n c i vb vc : Nat) (cur vcur : Array Value) (vs : List Value) (w : World) (hi : i < n) (hroom : n + 1 ≤ c) (hc63 : c ≤ maxLen)
    (hb : w.heap[b]? = some (.cells cur 92 (0, 0))) (hcs : cur.size = c * 4) (hvb : vb ≠ b) (hv : w.heap[vb]? = some (.cells vcur 92 (0, 0))) (hvs : vcur.toList.take 4 = vs) (hvl : vs.length = 4) (h1c : ∀ v ∈ cur.toList.take (n * 4), v.oneCell' = true) (h1v : ∀ v ∈ vs, v.oneCell' = true) :
    Calls Tryd.prog 149 #[.slice (some ⟨b, 0, none⟩) n c, .int .i64 i, .slice (some ⟨vb, 0, none⟩) 1 vc] w fun e w' => ∃ ROW, e = .returned (.slice (some ⟨b, 0, none⟩) (n + 1) c) ∧ ROW.size = c * 4 ∧ ROW.toList.take ((n + 1) * 4) = cur.toList.take (i * 4) ++ vs ++ (cur.toList.take (n * 4)).drop (i * 4) ∧
      w'.heap[b]? = some (.cells ROW 92 (0, 0)) ∧ Kept (fun k => k = b) w w' := by
  have mixed := mixed'
  have hz2 : ¬ ((i : Int) = (n : Int)) := by omega
  have hcl : cur.toList.length = c * 4 := by rw [← hcs]; exact Array.length_toList
  have hvcl : 4 ≤ vcur.toList.length := by
    have : (vcur.toList.take 4).length = 4 := by rw [hvs]; exact hvl
    rw [List.length_take] at this; omega
  have hov : ∀ lb cb, (callFunc 187 #[.slice (some ⟨vb, 0, none⟩) 1 vc, .slice (some ⟨b, (i + 1) * 4, none⟩) lb cb]).run Tryd.prog w = .ok (.value (.bool false)) w := fun lb cb => by
    rw [run_callFunc_extern Tryd.func187 (by kernel_rfl) (by kernel_rfl) (by kernel_rfl) (e := Extern.SlicesOverlaps.overlaps #[96, 96] #[4]) (by kernel_rfl),
      Lib.run_overlaps_apart w 96 4 92 u96 4 (fun w => by have := i92; obtain ⟨i0, h1, h2, _⟩ := this; simp [sizeOf, typeInfo, h1, h2]) ⟨vb, 0, none⟩ ⟨b, (i + 1) * 4, none⟩ 1 vc lb cb hvb 92 92 vcur.size cur.size (by simp [World.shape?, hv]) (by simp [World.shape?, hb]) (by omega) (frozen00 hv) (frozen00 hv)]
    rfl
  obtain ⟨cs, hcsd⟩ : ∃ cs, cs = (cur.toList.take (n * 4)).drop (i * 4) := ⟨_, rfl⟩
  have hcsl : cs.length = (n - i) * 4 := by rw [hcsd, List.length_drop, List.length_take, hcl]; omega
  have hcsg : ∀ j v, cs[j]? = some v → w.cell? ⟨b, i * 4 + j, none⟩ = some v := fun j v hj => by
    rw [hcsd, List.getElem?_drop, List.getElem?_take] at hj
    split at hj
    · exact cell_at hb hj
    · cases hj
  have hcs1 : ∀ v ∈ cs, v.oneCell' = true := fun v hv => h1c v (List.mem_of_mem_drop (hcsd ▸ hv))
  have hcpA : ∀ ty dc sc, (Builtin.copy_ #[96, 96] ty #[.slice (some ⟨b, (i + 1) * 4, none⟩) (n + 1 - (i + 1)) dc, .slice (some ⟨b, i * 4, none⟩) (n + 1 - i) sc]).run Tryd.prog w.drew = .ok (goInt ((n - i : Nat) : Int)) (w.drew.setRow b (repl cur.toList cs ((i + 1) * 4)).toArray) := fun ty dc sc => by
    have hm : Nat.min (n + 1 - i) (n + 1 - (i + 1)) = n - i := by rw [show n + 1 - (i + 1) = n - i by omega]; exact Nat.min_eq_right (by omega)
    have := run_copy_multi (P := Tryd.prog) w.drew 96 96 ty 92 92 b ((i + 1) * 4) (n + 1 - (i + 1)) dc ⟨b, i * 4, none⟩ (n + 1 - i) sc cur cs u96 s92 (by rw [hm]; exact hcsl)
      (fun j v hj => by rw [Addr.add_lit]; exact hcsg j v hj) hb (by omega) hcs1
    rw [hm] at this
    exact this
  obtain ⟨R2, hR2⟩ : ∃ R2, R2 = (repl cur.toList cs ((i + 1) * 4)).toArray := ⟨_, rfl⟩
  have hR2l : R2.toList = cur.toList.take ((i + 1) * 4) ++ cs ++ cur.toList.drop ((i + 1) * 4 + (n - i) * 4) := by rw [hR2, ← hcsl]; rfl
  have hR2s : R2.toList.length = c * 4 := by
    rw [hR2l]
    simp only [List.length_append, List.length_take, List.length_drop, hcl, hcsl]; omega
  have hb2 : (w.drew.setRow b R2).heap[b]? = some (.cells R2 92 (0, 0)) := setRow_heap _ _ _ _ _ _ hb
  have hcpB : ∀ (W : World) ty dc, W.heap = (w.drew.setRow b R2).heap → (Builtin.copy_ #[96, 96] ty #[.slice (some ⟨b, i * 4, none⟩) (n + 1 - i) dc, .slice (some ⟨vb, 0, none⟩) 1 vc]).run Tryd.prog W = .ok (goInt 1) (W.setRow b (repl R2.toList vs (i * 4)).toArray) := fun W ty dc hW => by
    have hm : Nat.min 1 (n + 1 - i) = 1 := Nat.min_eq_left (by omega)
    have h2 : R2.size = c * 4 := by rw [← hR2s]; exact Array.length_toList.symm
    have := run_copy_multi (P := Tryd.prog) W 96 96 ty 92 92 b (i * 4) (n + 1 - i) dc ⟨vb, 0, none⟩ 1 vc R2 vs u96 s92 (by rw [hm]; omega)
      (fun j v hj => by
        rw [Addr.add_lit]
        have hvb' : W.heap[vb]? = some (.cells vcur 92 (0, 0)) := by rw [hW, Go.setRow_other w.drew b vb _ hvb]; exact hv
        refine cell_at hvb' ?_
        rw [← hvs, List.getElem?_take] at hj
        split at hj
        · rw [Nat.zero_add]; exact hj
        · cases hj)
      (by rw [hW]; exact hb2) (by omega) h1v
    rw [hm] at this
    exact this
  obtain ⟨R3, hR3⟩ : ∃ R3, R3 = (repl R2.toList vs (i * 4)).toArray := ⟨_, rfl⟩
  have hR3l : R3.toList = R2.toList.take (i * 4) ++ vs ++ R2.toList.drop (i * 4 + 4) := by rw [hR3, ← hvl]; rfl
  have hR3s : R3.size = c * 4 := by
    rw [← Array.length_toList, hR3l]
    simp only [List.length_append, List.length_take, List.length_drop, hR2s, hvl]; omega
  have ht1 : R2.toList.take (i * 4) = cur.toList.take (i * 4) := by
    rw [hR2l, List.append_assoc, List.take_append_of_le_length (by rw [List.length_take, hcl]; omega), List.take_take]
    congr 1; omega
  have ht2 : R2.toList.drop (i * 4 + 4) = cs ++ cur.toList.drop ((i + 1) * 4 + (n - i) * 4) := by
    rw [hR2l, List.append_assoc]
    exact List.drop_left' (by rw [List.length_take, hcl]; omega)
  have hR3t : R3.toList.take ((n + 1) * 4) = cur.toList.take (i * 4) ++ vs ++ cs := by
    rw [hR3l, ht1, ht2, ← List.append_assoc]
    exact List.take_left' (by simp only [List.length_append, List.length_take, hcl, hvl, hcsl]; omega)
  rw [← hR2] at hcpA
  rw [← hR3] at hcpB
  have hfin : ∀ W : World, W = ((w.drew.setRow b R2).setRow b R3) → W.heap[b]? = some (.cells R3 92 (0, 0)) ∧ Kept (fun k => k = b) w W := by
    rintro W rfl
    have k1 : Kept (fun k => k = b) w w.drew := (Kept.drew w).weak (fun _ h => h.elim)
    have k2 := k1.trans (setRow_kept w.drew b R2) (fun x hx => .inl (by cases hx; rfl))
    have k3 := k2.trans (setRow_kept (w.drew.setRow b R2) b R3) (fun x hx => .inl (by cases hx; rfl))
    exact ⟨setRow_heap _ _ _ _ _ _ hb2, k3⟩
  rw [hcsd] at hR3t
  have hw1 : IntKind.i64.wrap ((i : Int) + 1) = (i : Int) + 1 := by rw [IntKind.wrap_i64]; unfold maxLen at hc63; omega
  have hw2 : IntKind.i64.wrap ((n : Int) + 1) = (n : Int) + 1 := by rw [IntKind.wrap_i64]; unfold maxLen at hc63; omega
  have hb1 : (0 : Int) ≤ (i : Int) + 1 := by omega
  have htn : ((i : Int) + 1).toNat = i + 1 := by omega
  have hin : i ≤ n := by omega
  have hci : ¬ (c = i) := by omega
  have hcim : ¬ (c = i + 1) := by omega
  have hb3 : (i : Int) ≤ (n : Int) := by omega
  have hb4 : (i : Int) ≤ (n : Int) + 1 := by omega
  have hz3 : ¬ ((c : Int) < (n : Int) + 1) := by omega
  clear hb hcs hv hvs hvl h1c h1v hcl hvcl hcsl hcsg hcs1 hR2 hR2l hR2s hb2 hR3 hR3l ht1 ht2 hcsd hc63
  go_enter Tryd.func149, Tryd.ntmps149
  go_wp2_with (simp only [hov])
  go_region_law_o (refine step_copy_runI rfl _ _ 96 96 rfl (.slice (some ⟨b, (i + 1) * 4, none⟩) (n + 1 - (i + 1)) (c - (i + 1))) (.slice (some ⟨b, i * 4, none⟩) (n + 1 - i) (c - i)) (by simp [Act.eval, Act.put]) (by simp [Act.eval, Act.put]) (hcpA 3 (c - (i + 1)) (c - i)) ?_)
  go_wp2
  go_ret
  obtain ⟨q1, q2⟩ := hfin _ rfl
  exact ⟨_, rfl, hR3s, hR3t, q1, q2⟩
/-- What is handed back is one row of the callee's own. -/
theorem ret_row {E : Env} {n nx : Nat} {U : Nat → Prop} {ob : Nat → Value} {Z : Nat → Prop} {s : GS} {a : Act} (h : RepAt E n U ob Z s a E.w0) (hp : E.pins = []) {w' : World} {v' : Value} {e : Nat} {t : Ty} {xs : List t.den} {uss : List (List Value)} {M : Nat → Prop} (hk : Kept M E.w0 w')
    (hzm : ∀ b, Z b → ¬ M b) (hm : ∀ b, M b → E.M b ∨ E.w0.heap.size ≤ b) (hd : All2 (DR E.w0 Z t) xs uss) (hown : w'.ownsRow 0 e t.size v' xs.length uss.flatten) (hb : ∀ b, blk v' = some b → ¬ Z b ∧ (E.M b ∨ E.w0.heap.size ≤ b)) :
    RepAt E 1 (fun k => k < 1) (fun _ => v') Z { slots := [(0, .sv (.row 0))], objs := [(0, .row e t xs true)], next := nx } ⟨#[v'], []⟩ w' where
  defers := rfl
  size := rfl
  kept := h.kept.trans hk hm
  zlt b hZ := Nat.lt_of_lt_of_le (h.zlt b hZ) hk.size
  z0 := h.z0
  slots := by
    intro m g hl
    simp only [look] at hl
    cases e0 : Nat.beq 0 m with
    | true =>
      rw [e0] at hl; cases hl
      obtain rfl := Nat.eq_of_beq_eq_true e0
      exact ⟨by omega, rfl, by show 0 < 1; omega⟩
    | false => rw [e0] at hl; cases hl
  objs := by
    intro i o hl
    simp only [look] at hl
    cases e0 : Nat.beq 0 i with
    | true =>
      rw [e0] at hl; cases hl
      obtain rfl := Nat.eq_of_beq_eq_true e0
      exact ⟨by show 0 < 1; omega, ⟨uss, hd.mono fun _ _ h => h.mono (hk.same hzm) (fun _ h => h), hown, fun h => by cases h⟩, trivial⟩
    | false => rw [e0] at hl; cases hl
  own := by
    intro i o hl _ b hbb
    exact hb b hbb
  apart := by
    intro i j o o' hij hl hl'
    simp only [look] at hl hl'
    cases e0 : Nat.beq 0 i with
    | true =>
      cases e1 : Nat.beq 0 j with
      | true => exact absurd ((Nat.eq_of_beq_eq_true e0).symm.trans (Nat.eq_of_beq_eq_true e1)) hij
      | false => rw [e1] at hl'; cases hl'
    | false => rw [e0] at hl; cases hl
  globs g d hl := (h.globs g d hl).mono (U := fun _ => False) (hk.same hzm) (fun _ h => h) (fun _ h => h.elim) trivial
  pins := by rw [hp]; intro p hp; cases hp
abbrev TF : Ty := .pair .i64 (.pair .i64 (.pair .i64 (.pair (.sl .u8) .unit)))
abbrev slices_Insert___api_Fragment_api_Fragment__R : Type := ((Unit) × ((List TF.den) × Unit))
noncomputable def slices_Insert___api_Fragment_api_Fragment_ (N : Nat) (i : Int) (l v : List TF.den) : Option slices_Insert___api_Fragment_api_Fragment__R :=
  bif decide (0 ≤ i) && (decide (i ≤ (l.length : Int)) && (decide (v.length = 1) && room (l.length + v.length) 48)) then
    some ((()), ((l.take i.toNat ++ v ++ l.drop i.toNat), ()))
  else none
noncomputable def slices_Insert___api_Fragment_api_Fragment__S0 : Spec := ⟨[.row 0, .val .i64, .row 1], [(.row 92 TF, .pos 0), (.row 92 TF, .pos 2)]⟩
noncomputable def slices_Insert___api_Fragment_api_Fragment__S1 : Spec := ⟨[.row 0], [(.row 92 TF, .pos 0)]⟩
noncomputable def slices_Insert___api_Fragment_api_Fragment__ctr (N : Nat) : Ctr := ⟨slices_Insert___api_Fragment_api_Fragment__S0, slices_Insert___api_Fragment_api_Fragment__S1.un [false], 0, fun y => slices_Insert___api_Fragment_api_Fragment_ N y.1.1 y.2.1 y.2.2.1⟩
theorem slices_Insert___api_Fragment_api_Fragment__ok (N : Nat) : Ctr.ok Tryd.prog G_globs 149 (slices_Insert___api_Fragment_api_Fragment__ctr N) where
  body := ⟨Tryd.f149, Tryd.func149, by kernel_rfl, by kernel_rfl⟩
  call := by
    intro E ob Z args x y hglobs hpins hlen hrep hF
    obtain ⟨⟨i, u⟩, l, v, u'⟩ := x
    have hargs : args.length = 3 := hlen
    have hF' : slices_Insert___api_Fragment_api_Fragment_ N i l v = some y := hF
    unfold slices_Insert___api_Fragment_api_Fragment_ at hF'
    have hc : (decide (0 ≤ i) && (decide (i ≤ (l.length : Int)) && (decide (v.length = 1) && room (l.length + v.length) 48))) = true := by
      cases hb : (decide (0 ≤ i) && (decide (i ≤ (l.length : Int)) && (decide (v.length = 1) && room (l.length + v.length) 48))) with
      | true => rfl
      | false => rw [hb] at hF'; cases hF'
    rw [hc] at hF'
    simp only [Bool.and_eq_true, decide_eq_true_eq] at hc
    obtain ⟨hi0, hi1, hv1, hroom⟩ := hc
    have hroom : (l.length + 1) * 48 ≤ 140737488355328 := by rw [hv1] at hroom; simpa [room] using hroom
    obtain rfl : (((), (l.take i.toNat ++ v ++ l.drop i.toNat, ())) : slices_Insert___api_Fragment_api_Fragment__R) = y := Option.some.inj hF'
    match args, hargs with
    | [a0, a1, a2], _ =>
    obtain ⟨_, h0, _⟩ := hrep.slots 0 (.sv (.row 0)) rfl
    obtain ⟨_, h1, _⟩ := hrep.slots 1 (.sv (.data .i64 i)) rfl
    obtain ⟨_, h2, _⟩ := hrep.slots 2 (.sv (.row 1)) rfl
    have e0 : a0 = ob 0 := h0
    have e1 : a1 = .int .i64 i := (SR.i64 (ob := ob) h1).1
    have e2 : a2 = ob 1 := h2
    obtain ⟨n, rfl⟩ := Int.eq_ofNat_of_zero_le hi0

    have hn : n ≤ l.length := Int.ofNat_le.1 hi1
    obtain ⟨_, ⟨uss, p1, p2, _⟩, _⟩ := hrep.objs 0 (.row 92 TF l true) rfl
    obtain ⟨_, ⟨uss', r1, r2, _⟩, _⟩ := hrep.objs 1 (.row 92 TF v true) rfl
    have hsz : TF.size = 4 := rfl
    rw [hsz] at p2 r2
    rcases r2.2 with ⟨_, hz⟩ | ⟨vb, vc, vcur, ev, _, hvb, hvnc, hvcm, hvcs, hvt⟩
    · rw [hv1] at hz; cases hz
    rw [hv1] at ev hvt
    have hvl : uss'.flatten.length = 4 := by rw [r1.flatD, hv1]; rfl
    have hv1c : ∀ u ∈ uss'.flatten, u.oneCell' = true := fun u hu => r1.oneD u hu
    have hvs : ∀ j u, uss'.flatten[j]? = some u → E.w0.cell? ((⟨vb, 0, none⟩ : Addr).add j) = some u := fun j u hj => by
      rw [Addr.add_lit, Nat.zero_add]
      refine cell_at hvb ?_
      rw [← hvt, List.getElem?_take] at hj
      split at hj
      · exact hj
      · cases hj
    have hall : All2 (DR E.w0 Z TF) (l.take n ++ v ++ l.drop n) (uss.take n ++ uss' ++ uss.drop n) := ((p1.take n).append r1).append (p1.drop n)
    have hlen' : (l.take n ++ v ++ l.drop n).length = l.length + 1 := by simp [hv1]; omega
    have hfl : (uss.take n ++ uss' ++ uss.drop n).flatten = uss.flatten.take (n * 4) ++ uss'.flatten ++ uss.flatten.drop (n * 4) := by
      rw [List.flatten_append, List.flatten_append, flatten_take p1.lenD, flatten_drop p1.lenD]; rfl
    have o0 := hrep.own 0 (.row 92 TF l true) rfl rfl
    show Calls Tryd.prog 149 [a0, a1, a2].toArray E.w0 _
    rw [e0, e1, e2, ev, Int.toNat_natCast]
    have fin : ∀ (v' : Value) (w' : World) (M : Nat → Prop), Kept M E.w0 w' → (∀ b, M b → blk (ob 0) = some b) → w'.ownsRow 0 92 4 v' (l.length + 1) (uss.flatten.take (n * 4) ++ uss'.flatten ++ uss.flatten.drop (n * 4)) → (∀ b, blk v' = some b → blk (ob 0) = some b ∨ b = E.w0.heap.size) →
        ∃ vs ob' Z', Ending.returned v' = .returned (tupV vs) ∧ vs.length = (slices_Insert___api_Fragment_api_Fragment__ctr N).rs.ks.length ∧ RepAt E vs.length (fun k => k < (slices_Insert___api_Fragment_api_Fragment__ctr N).rs.os.length) ob' Z' ((slices_Insert___api_Fragment_api_Fragment__ctr N).rs.st (List.range (slices_Insert___api_Fragment_api_Fragment__ctr N).rs.ks.length) ((), (l.take n ++ v ++ l.drop n, ()))) ⟨vs.toArray, []⟩ w' := by
      intro v' w' M hk hM hown hb
      refine ⟨[v'], fun _ => v', Z, rfl, rfl, ?_⟩
      exact ret_row hrep hpins hk (fun b hZ hm => (o0 b (hM b hm)).1 hZ) (fun b hm => (o0 b (hM b hm)).2) hall (by rw [hlen', hfl]; exact hown) (fun b hbb => by
        rcases hb b hbb with h | rfl
        · exact o0 b h
        · exact ⟨fun hZ => absurd (hrep.zlt _ hZ) (Nat.lt_irrefl _), .inr (Nat.le_refl _)⟩)
    rcases Nat.lt_or_ge n l.length with hlt | hge
    · rcases p2.2 with ⟨_, hz⟩ | ⟨b, c, cur, eb, _, hb, hnc, hcm, hcs, ht⟩
      · omega
      have h1c : ∀ u ∈ cur.toList.take (l.length * 4), u.oneCell' = true := fun u hu => p1.oneD u (by rw [← ht]; exact hu)
      have hne : vb ≠ b := fun e => by
        have := hrep.apart 0 1 _ _ (by omega) (show look 0 _ = some (.row 92 TF l true) from rfl) (show look 1 _ = some (.row 92 TF v true) from rfl) rfl rfl b (by rw [eb]; rfl)
        rw [ev, e] at this
        exact this rfl
      have htk : cur.toList.take (n * 4) = uss.flatten.take (n * 4) := by
        rw [← ht, List.take_take]; congr 1; omega
      rw [eb]
      rw [eb] at fin
      rcases Nat.lt_or_ge c (l.length + 1) with hfull | hspare
      · refine (ins_grow b l.length c n ⟨vb, 0, none⟩ vc cur uss'.flatten E.w0 hlt hnc hfull hroom hb hcs hvl hvs h1c hv1c).mono ?_
        rintro e w' ⟨G, ROW, rfl, g1, g2, g3, g4, g5, g6⟩
        refine fin _ w' (fun _ => False) g6 (fun _ h => h.elim) ⟨?_, .inr ⟨E.w0.heap.size, G, ROW, rfl, Nat.zero_le _, g5, g1, g2, g3, ?_⟩⟩ (fun b hb => by cases hb; exact .inr rfl)
        · simp only [List.length_append, List.length_take, List.length_drop, p1.flatD, hvl]; simp only [hsz]; omega
        · rw [g4, htk, ht]
      · refine (ins_shift b l.length c n vb vc cur vcur uss'.flatten E.w0 hlt hspare hcm hb hcs hne hvb hvt hvl h1c hv1c).mono ?_
        rintro e w' ⟨ROW, rfl, g3, g4, g5, g6⟩
        refine fin _ w' (fun k => k = b) g6 (fun k hk => by rw [hk]; rfl) ⟨?_, .inr ⟨b, c, ROW, rfl, Nat.zero_le _, g5, hspare, hcm, g3, ?_⟩⟩ (fun b hb => .inl hb)
        · simp only [List.length_append, List.length_take, List.length_drop, p1.flatD, hvl]; simp only [hsz]; omega
        · rw [g4, htk, ht]
    · obtain rfl : n = l.length := by omega
      refine (ins_end (ob 0) l.length vc ⟨vb, 0, none⟩ uss.flatten uss'.flatten E.w0 p2 hroom hvl hvs hv1c).mono ?_
      rintro e w' ⟨v', rfl, g1, g2, g3⟩
      have hfx : uss.flatten.take (l.length * 4) ++ uss'.flatten ++ uss.flatten.drop (l.length * 4) = uss.flatten ++ uss'.flatten := by
        have : uss.flatten.length = l.length * 4 := p1.flatD
        rw [List.take_of_length_le (by omega), List.drop_of_length_le (by omega), List.append_nil]
      have hbl : ∀ {w : World} {v : Value} {n : Nat} {xs : List Value}, w.ownsRow 0 92 4 v n xs → v.ownBlock = blk v := by
        intro w v n xs h
        rcases h.2 with ⟨rfl, _⟩ | ⟨g, _, _, rfl, _⟩ <;> rfl
      refine fin v' w' _ (Kept.of_grown g2) (fun b hb => by rw [hbl p2] at hb; exact hb) (by rw [hfx]; exact g1) (fun b hb => ?_)
      rw [← hbl g1] at hb
      rcases g3 with g3 | g3
      · rw [g3, hbl p2] at hb; exact .inl hb
      · rw [g3] at hb; cases hb; exact .inr rfl

end Go.Proofs.YtofajgidjkjnpaaDoor