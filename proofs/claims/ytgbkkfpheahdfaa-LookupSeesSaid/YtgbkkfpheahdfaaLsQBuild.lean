/- Plain: the bytes of packets (lookup.Build and the document's). -/
import Derived.Test.YtgbkkfpheahdfaaLsQWords
import Derived.Test.YtgbkkfpheahdfaaLsQSum01
import Derived.Test.YtgbkkfpheahdfaaFnsLookupSeesB
import Derived.Test.YtgbkkfpheahdfaaFnsLookupSeesA
set_option linter.unusedVariables false
set_option linter.unusedSimpArgs false
namespace Go.Proofs.Ytgbkkfpheahdfaa.Pl
open Go
abbrev Ad := Int × (UInt64 × (UInt64 × Unit))
abbrev Pkt := Ad × (Ad × (Int × (Int × (Int × Unit))))
def lval (a : Ad) : Bool := decide (a.1 = 6) || (decide (a.1 = 4) && (decide (a.2.1 = 0) && decide (a.2.2.1 < 4294967296)))
theorem svalid_ok (N : Nat) (a : Ad) : selector_Valid N a = some ((lval a, ()), ()) := by
  unfold selector_Valid lval
  cases decide (a.1 = 6)
  · cases decide (a.1 = 4)
    · rfl
    · cases decide (a.2.1 = 0) <;> rfl
  · rfl
theorem rvalid_ok (N : Nat) (a : Ad) : ref05_Valid N a = some ((lval a, ()), ()) := by
  unfold ref05_Valid lval
  by_cases h6 : a.1 = 6
  · have h4 : ¬ a.1 = 4 := by omega
    rw [dpos h6, dneg h4]; rfl
  · rw [dneg h6]
    cases decide (a.1 = 4)
    · rfl
    · cases decide (a.2.1 = 0)
      · rfl
      · cases decide (a.2.2.1 < 4294967296) <;> rfl
def prt (n : Int) : Bool := decide (-1 ≤ n) && decide (n ≤ 65535)
theorem lport_ok (N : Nat) (n : Int) : lookup_port N n = some ((prt n, ()), ()) := by
  unfold lookup_port prt
  cases decide (-1 ≤ n) <;> rfl
theorem rport_ok (N : Nat) (n : Int) : ref22_port N n = some ((prt n, ()), ()) := by
  unfold ref22_port prt
  cases decide (-1 ≤ n) <;> rfl
theorem prt_bd {n : Int} (h : prt n = true) : -1 ≤ n ∧ n ≤ 65535 := by
  unfold prt at h
  rw [Bool.and_eq_true, decide_eq_true_eq, decide_eq_true_eq] at h
  exact h
/-- The data with the ports. -/
def put1 (d : List UInt8) (s : Int) : List UInt8 := if s = -1 then d else (d.set 0 (iu8 (shrI s 8))).set 1 (iu8 s)
def put2 (d : List UInt8) (t : Int) : List UInt8 := if t = -1 then d else (d.set 2 (iu8 (shrI t 8))).set 3 (iu8 t)
def trn (tcp : Bool) (s t : Int) (d : List UInt8) : Option (List UInt8) :=
  if tcp = true then (if s = -1 ∧ t = -1 then some d else if d.length < 4 then none else some (put2 (put1 d s) t)) else some d
theorem put1_len (d : List UInt8) (s : Int) : (put1 d s).length = d.length := by unfold put1; split <;> simp
theorem put2_len (d : List UInt8) (s : Int) : (put2 d s).length = d.length := by unfold put2; split <;> simp
theorem trn_len {tcp : Bool} {s t : Int} {d x : List UInt8} (h : trn tcp s t d = some x) : x.length = d.length := by
  unfold trn at h
  split at h
  · split at h
    · cases h; rfl
    · split at h
      · cases h
      · cases h; rw [put2_len, put1_len]
  · cases h; rfl
def tcpB (p : Pkt) : Bool := decide (p.2.2.1 = 6) || decide (p.2.2.1 = 17)
def outT : Option (List UInt8) → Option ((Int × Unit) × (List UInt8 × Unit))
  | none => some ((1, ()), ([], ()))
  | some x => some ((0, ()), (x, ()))
theorem tr_step (N : Nat) (d : List UInt8) (A : List Int) (hA : A.length = 2) {i : Nat} (hi : i < 2) {n : Int} (hn : A.getD i 0 = n) :
    lookup_transport_s3 N 2 (i : Int) d A = if n = -1 then some (.go ((2, ((i + 1 : Nat) : Int), ()), (d, A, ()))) else if d.length < 4 then some (.rt ((1, ()), ([], ()))) else some (.go ((2, ((i + 1 : Nat) : Int), ()), ((d.set (2 * i) (iu8 (shrI n 8))).set (2 * i + 1) (iu8 n), A, ()))) := by
  unfold lookup_transport_s3
  have hw : w64 ((i : Int) + 1) = ((i + 1 : Nat) : Int) := by rw [w64_of (by omega) (by omega)]; rfl
  have h2 : w64 (2 * (i : Int)) = ((2 * i : Nat) : Int) := by rw [w64_of (by omega) (by omega)]; omega
  have h3 : w64 (((2 * i : Nat) : Int) + 1) = ((2 * i + 1 : Nat) : Int) := by rw [w64_of (by omega) (by omega)]; omega
  have hr : inR (i : Int) A.length = true := inR_of (by omega) (by omega)
  rw [dpos (show ((i : Nat) : Int) < 2 by omega), hr]
  simp only [cond_true, Int.toNat_natCast, hn, hw, h2, h3]
  by_cases h : n = -1
  · rw [dpos h, if_pos h]; rfl
  · rw [dneg h, if_neg h, cond_false]
    by_cases h4 : d.length < 4
    · rw [dpos (by omega), if_pos h4]; rfl
    · have r0 : inR ((2 * i : Nat) : Int) d.length = true := inR_of (by omega) (by omega)
      have r1 : inR ((2 * i + 1 : Nat) : Int) (d.set (2 * i) (iu8 (shrI n 8))).length = true := inR_of (by omega) (by rw [List.length_set]; omega)
      rw [dneg (by omega), if_neg h4, cond_false, r0, cond_true, r1]; rfl
theorem transport_ok (N : Nat) (hN : 4611686018427387904 ≤ N) (p : Pkt) {d : List UInt8} (hd : d.length ≤ 140737488351232) : lookup_transport N p d = outT (trn (tcpB p) p.2.2.2.1 p.2.2.2.2.1 d) := by
  unfold lookup_transport
  rw [room_of (by omega), cond_true]
  have key : ∀ b, b = (!(tcpB p)) → lookup_transport_1 N b p d = outT (trn (tcpB p) p.2.2.2.1 p.2.2.2.2.1 d) := by
    intro b hb
    subst hb
    unfold lookup_transport_1 trn
    cases tcpB p
    · rfl
    · simp only [Bool.not_true, cond_false, if_true]
      show lookup_transport_2 N 2 0 d [p.2.2.2.1, p.2.2.2.2.1] = _
      have g0 : ([p.2.2.2.1, p.2.2.2.2.1] : List Int).getD 0 0 = p.2.2.2.1 := rfl
      have g1 : ([p.2.2.2.1, p.2.2.2.2.1] : List Int).getD 1 0 = p.2.2.2.2.1 := rfl
      have hA : ([p.2.2.2.1, p.2.2.2.2.1] : List Int).length = 2 := rfl
      generalize ([p.2.2.2.1, p.2.2.2.2.1] : List Int) = A at *
      generalize p.2.2.2.1 = s at *
      generalize p.2.2.2.2.1 = t at *
      obtain ⟨M, rfl⟩ : ∃ M, N = M + 3 := ⟨N - 3, by omega⟩
      unfold lookup_transport_2
      have e0 := tr_step (M + 3) d A hA (i := 0) (by omega) g0
      have fin : ∀ d', loopK (M + 1) (fun y => lookup_transport_s3 (M + 3) y.1.1 y.1.2.1 y.2.1 y.2.2.1) (fun (e : ((Unit) × (List UInt8 × Unit))) => lookup_transport_4 (M + 3) e.2.1) ((2, ((1 + 1 : Nat) : Int), ()), (d', A, ())) = some ((0, ()), (d', ())) := by
        intro d'
        rw [loopK_succ]
        show Option.bind (lookup_transport_s3 (M + 3) 2 ((1 + 1 : Nat) : Int) d' A) _ = _
        unfold lookup_transport_s3
        rw [dneg (by omega)]; rfl
      have mid : ∀ d', loopK (M + 2) (fun y => lookup_transport_s3 (M + 3) y.1.1 y.1.2.1 y.2.1 y.2.2.1) (fun (e : ((Unit) × (List UInt8 × Unit))) => lookup_transport_4 (M + 3) e.2.1) ((2, ((0 + 1 : Nat) : Int), ()), (d', A, ())) = (if t = -1 then some ((0, ()), (d', ())) else if d'.length < 4 then some ((1, ()), ([], ())) else some ((0, ()), ((d'.set 2 (iu8 (shrI t 8))).set 3 (iu8 t), ()))) := by
        intro d'
        have e1 := tr_step (M + 3) d' A hA (i := 1) (by omega) g1
        rw [loopK_succ]
        show Option.bind (lookup_transport_s3 (M + 3) 2 ((1 : Nat) : Int) d' A) _ = _
        rw [e1]
        by_cases ht : t = -1
        · rw [if_pos ht, if_pos ht, Option.bind_some]; exact fin d'
        · rw [if_neg ht, if_neg ht]
          by_cases h4 : d'.length < 4
          · rw [if_pos h4, if_pos h4]; rfl
          · rw [if_neg h4, if_neg h4, Option.bind_some]; exact fin _
      rw [loopK_succ]
      show Option.bind (lookup_transport_s3 (M + 3) 2 ((0 : Nat) : Int) d A) _ = _
      rw [e0]
      unfold put1 put2
      by_cases hs : s = -1
      · rw [if_pos hs, Option.bind_some]
        refine (mid d).trans ?_
        by_cases ht : t = -1
        · rw [if_pos ht, if_pos ⟨hs, ht⟩]; rfl
        · rw [if_neg ht, if_neg (show ¬ (s = -1 ∧ t = -1) from fun h => ht h.2)]
          by_cases h4 : d.length < 4
          · rw [if_pos h4, if_pos h4]; rfl
          · rw [if_neg h4, if_neg h4, if_pos hs, if_neg ht]; rfl
      · rw [if_neg hs, if_neg (show ¬ (s = -1 ∧ t = -1) from fun h => hs h.1)]
        by_cases h4 : d.length < 4
        · rw [if_pos h4, if_pos h4]; rfl
        · rw [if_neg h4, if_neg h4, Option.bind_some]
          refine (mid _).trans ?_
          have hl : ((d.set (2 * 0) (iu8 (shrI s 8))).set (2 * 0 + 1) (iu8 s)).length = d.length := by simp
          rw [hl, if_neg h4, if_neg hs]
          by_cases ht : t = -1
          · rw [if_pos ht, if_pos ht]; rfl
          · rw [if_neg ht, if_neg ht]; rfl
  by_cases h6 : p.2.2.1 = 6
  · rw [dpos h6]; exact key false (by unfold tcpB; rw [dpos h6]; rfl)
  · rw [dneg h6]; exact key (!(decide (p.2.2.1 = 17))) (by unfold tcpB; rw [dneg h6, Bool.false_or])
/-- The reference: the ports, and what follows. -/
theorem rports_ok (N : Nat) (p : Pkt) (hs : -1 ≤ p.2.2.2.1) (ht : -1 ≤ p.2.2.2.2.1) (d : List UInt8) (tcp : Bool) : ref22_Build_3 N tcp d p = match trn tcp p.2.2.2.1 p.2.2.2.2.1 d with
    | none => some ((1, ()), ([], ()))
    | some x => ref22_Build_4 N x p := by
  unfold ref22_Build_3 trn put1 put2
  cases tcp
  · rfl
  · simp only [cond_true, if_true]
    by_cases s0 : p.2.2.2.1 = -1
    · have s1 : ¬ 0 ≤ p.2.2.2.1 := by omega
      by_cases t0 : p.2.2.2.2.1 = -1
      · have t1 : ¬ 0 ≤ p.2.2.2.2.1 := by omega
        simp only [dneg s1, dneg t1, cond_false, if_pos (show (p.2.2.2.1 = -1 ∧ p.2.2.2.2.1 = -1) from ⟨s0, t0⟩)]
      · have t1 : 0 ≤ p.2.2.2.2.1 := by omega
        by_cases h4 : d.length < 4
        · have h4' : (d.length : Int) < 4 := by omega
          simp only [dneg s1, dpos t1, dpos h4', cond_false, cond_true, if_neg (show ¬ (p.2.2.2.1 = -1 ∧ p.2.2.2.2.1 = -1) from fun h => t0 h.2), if_pos h4]
        · have h4' : ¬ (d.length : Int) < 4 := by omega
          have r2 : inR (2 : Int) d.length = true := inR_of (by omega) (by omega)
          have r3 : inR (3 : Int) (d.set 2 (iu8 (shrI p.2.2.2.2.1 8))).length = true := inR_of (by omega) (by rw [List.length_set]; omega)
          simp only [dneg s1, dpos t1, dneg h4', cond_false, cond_true, r2, r3, if_neg (show ¬ (p.2.2.2.1 = -1 ∧ p.2.2.2.2.1 = -1) from fun h => t0 h.2), if_neg h4, if_pos s0, if_neg t0]
    · have s1 : 0 ≤ p.2.2.2.1 := by omega
      by_cases h4 : d.length < 4
      · have h4' : (d.length : Int) < 4 := by omega
        simp only [dpos s1, dpos h4', cond_true, if_neg (show ¬ (p.2.2.2.1 = -1 ∧ p.2.2.2.2.1 = -1) from fun h => s0 h.1), if_pos h4]
      · have h4' : ¬ (d.length : Int) < 4 := by omega
        have r0 : inR (0 : Int) d.length = true := inR_of (by omega) (by omega)
        have r1 : inR (1 : Int) (d.set 0 (iu8 (shrI p.2.2.2.1 8))).length = true := inR_of (by omega) (by rw [List.length_set]; omega)
        have r2 : inR (2 : Int) ((d.set 0 (iu8 (shrI p.2.2.2.1 8))).set 1 (iu8 p.2.2.2.1)).length = true := inR_of (by omega) (by simp only [List.length_set]; omega)
        have r3 : inR (3 : Int) (((d.set 0 (iu8 (shrI p.2.2.2.1 8))).set 1 (iu8 p.2.2.2.1)).set 2 (iu8 (shrI p.2.2.2.2.1 8))).length = true := inR_of (by omega) (by simp only [List.length_set]; omega)
        by_cases t0 : p.2.2.2.2.1 = -1
        · have t1 : ¬ 0 ≤ p.2.2.2.2.1 := by omega
          simp only [dpos s1, dneg t1, dneg h4', cond_false, cond_true, r0, r1, if_neg (show ¬ (p.2.2.2.1 = -1 ∧ p.2.2.2.2.1 = -1) from fun h => s0 h.1), if_neg h4, if_neg s0, if_pos t0]
        · have t1 : 0 ≤ p.2.2.2.2.1 := by omega
          simp only [dpos s1, dpos t1, dneg h4', cond_false, cond_true, r0, r1, r2, r3, if_neg (show ¬ (p.2.2.2.1 = -1 ∧ p.2.2.2.2.1 = -1) from fun h => s0 h.1), if_neg h4, if_neg s0, if_neg t0]
theorem build_2 (N : Nat) (hN : 4611686018427387904 ≤ N) (p : Pkt) (h1 : lval p.1 = true) (h2 : lval p.2.1 = true) (h3 : p.1.1 = p.2.1.1) {x : List UInt8} (hx : x.length ≤ 140737488351232) :
    ∃ e r, (bif decide (p.1.1 = 6) then lookup_Build_2 N (decide (p.1.1 = 6)) 40 p x else lookup_Build_2 N (decide (p.1.1 = 6)) 20 p x) = some ((e, ()), (r, ())) ∧ ref22_Build_4 N x p = some ((e, ()), (r, ())) ∧ r.length ≤ 5000 := by
  unfold ref22_Build_4
  by_cases h6 : p.1.1 = 6
  · have h62 : p.2.1.1 = 6 := by omega
    have n4 : ¬ p.1.1 = 4 := by omega
    have n42 : ¬ p.2.1.1 = 4 := by omega
    rw [dpos h6]
    simp only [cond_true]
    unfold lookup_Build_2 ref22_Build_5
    by_cases hl : (4096 : Int) < 40 + (x.length : Int)
    · have e : w64 (40 + (x.length : Int)) = 40 + (x.length : Int) := w64_of (by omega) (by omega)
      rw [e, dpos hl]
      exact ⟨_, _, rfl, rfl, by simp⟩
    · have e : w64 (40 + (x.length : Int)) = 40 + (x.length : Int) := w64_of (by omega) (by omega)
      rw [e, dneg hl, dneg (show ¬ (40 : Int) = 20 by decide)]
      simp only [cond_false]
      unfold lookup_Build_3 lookup_Build_5
      simp only [cond_true]
      have p1 : wire_Put N (iu64 (x.length : Int)) 2 [96, 0, 0, 0] = some ((), ([96, 0, 0, 0] ++ be (iu64 (x.length : Int)) 2, ())) := wire_put N (by omega) (by omega) (by simp) (by omega)
      have p2 : ref01_Put N [96, 0, 0, 0] (iu64 (x.length : Int)) 2 = some ((), ([96, 0, 0, 0] ++ be (iu64 (x.length : Int)) 2, ())) := ref_put N (by omega) (by omega) (by simp) (by omega)
      have l0 : ([96, 0, 0, 0] ++ be (iu64 (x.length : Int)) 2 : List UInt8).length = 6 := by rw [List.length_append, be_len]; rfl
      rw [p1, p2]
      simp only [Option.bind_some]
      generalize ([96, 0, 0, 0] ++ be (iu64 (x.length : Int)) 2 : List UInt8) = B at *
      have l1 : (B ++ [iu8 p.2.2.1, 64]).length = 8 := by rw [List.length_append, l0]; rfl
      have hr : room (B.length + ([iu8 p.2.2.1, 64] : List UInt8).length) 1 = true := room_of (by rw [l0]; simp only [List.length_cons, List.length_nil]; omega)
      rw [hr]
      simp only [cond_true]
      generalize B ++ [iu8 p.2.2.1, 64] = C at *
      have pa : ∀ (b : List UInt8) (a : Ad), b.length ≤ 1000 → ¬ a.1 = 4 → ref05_PutAddress N b a = some ((), (b ++ be a.2.1 8 ++ be a.2.2.1 8, ())) := by
        intro b a hb ha
        unfold ref05_PutAddress
        have q1 : ref01_Put N b a.2.1 8 = some ((), (b ++ be a.2.1 8, ())) := ref_put N (by omega) (by omega) (by omega) (by omega)
        have q2 : ref01_Put N (b ++ be a.2.1 8) a.2.2.1 8 = some ((), (b ++ be a.2.1 8 ++ be a.2.2.1 8, ())) := ref_put N (by omega) (by omega) (by rw [List.length_append, be_len]; omega) (by omega)
        rw [dneg ha, q1]
        simp only [cond_false, Option.bind_some]
        rw [q2]
        rfl
      have l2 : (C ++ be p.1.2.1 8 ++ be p.1.2.2.1 8).length = 24 := by simp only [List.length_append, be_len, l1]
      have l3 : (C ++ be p.1.2.1 8 ++ be p.1.2.2.1 8 ++ be p.2.1.2.1 8 ++ be p.2.1.2.2.1 8).length = 40 := by simp only [List.length_append, be_len, l1]
      rw [pa C p.1 (by omega) n4]
      simp only [Option.bind_some]
      rw [pa _ p.2.1 (by omega) n42]
      simp only [Option.bind_some]
      have lp : lookup_Build_6 N 2 0 x C [p.1, p.2.1] = lookup_Build_8 N x (C ++ be p.1.2.1 8 ++ be p.1.2.2.1 8 ++ be p.2.1.2.1 8 ++ be p.2.1.2.2.1 8) := by
        have st : ∀ (i : Nat) (b : List UInt8) (a : Ad), i < 2 → b.length ≤ 1000 → ([p.1, p.2.1] : List Ad).getD i (0, 0, 0, ()) = a → lookup_Build_s7 N 2 (i : Int) x b [p.1, p.2.1] = some (.go ((2, ((i + 1 : Nat) : Int), ()), (x, b ++ be a.2.1 8 ++ be a.2.2.1 8, [p.1, p.2.1], ()))) := by
          intro i b a hi hb ha
          unfold lookup_Build_s7
          have q1 : wire_Put N a.2.1 8 b = some ((), (b ++ be a.2.1 8, ())) := wire_put N (by omega) (by omega) (by omega) (by omega)
          have q2 : wire_Put N a.2.2.1 8 (b ++ be a.2.1 8) = some ((), (b ++ be a.2.1 8 ++ be a.2.2.1 8, ())) := wire_put N (by omega) (by omega) (by rw [List.length_append, be_len]; omega) (by omega)
          have hr : inR (i : Int) ([p.1, p.2.1] : List Ad).length = true := inR_of (by omega) (by show (i : Int) < 2; omega)
          have hw : w64 ((i : Int) + 1) = ((i + 1 : Nat) : Int) := by rw [w64_of (by omega) (by omega)]; rfl
          rw [dpos (show ((i : Nat) : Int) < 2 by omega), hr]
          simp only [cond_true, Int.toNat_natCast, ha, q1, q2, Option.bind_some, hw]
        obtain ⟨M, rfl⟩ : ∃ M, N = M + 3 := ⟨N - 3, by omega⟩
        unfold lookup_Build_6
        have s0 := st 0 C p.1 (by omega) (by omega) rfl
        have s1 := st 1 (C ++ be p.1.2.1 8 ++ be p.1.2.2.1 8) p.2.1 (by omega) (by omega) rfl
        rw [loopK_succ]
        show Option.bind (lookup_Build_s7 (M + 3) 2 ((0 : Nat) : Int) x C [p.1, p.2.1]) _ = _
        rw [s0, Option.bind_some]
        show loopK (M + 2) _ _ _ = _
        rw [loopK_succ]
        show Option.bind (lookup_Build_s7 (M + 3) 2 ((1 : Nat) : Int) x _ [p.1, p.2.1]) _ = _
        rw [s1, Option.bind_some]
        show loopK (M + 1) _ _ _ = _
        rw [loopK_succ]
        rfl
      refine ⟨0, C ++ be p.1.2.1 8 ++ be p.1.2.2.1 8 ++ be p.2.1.2.1 8 ++ be p.2.1.2.2.1 8 ++ x, ?_, ?_, by rw [List.length_append, l3]; omega⟩
      · refine lp.trans ?_
        unfold lookup_Build_8
        rw [room_of (by rw [l3]; omega)]; rfl
      · unfold ref22_Build_6
        rw [room_of (by rw [l3]; omega)]; rfl
  · have h4 : p.1.1 = 4 := by
      unfold lval at h1
      rw [dneg h6, Bool.false_or, Bool.and_eq_true, decide_eq_true_eq] at h1
      exact h1.1
    have h42 : p.2.1.1 = 4 := by omega
    rw [dneg h6]
    simp only [cond_false]
    unfold lookup_Build_2 ref22_Build_5
    have e : w64 (20 + (x.length : Int)) = 20 + (x.length : Int) := w64_of (by omega) (by omega)
    by_cases hl : (4096 : Int) < 20 + (x.length : Int)
    · rw [e, dpos hl]
      exact ⟨_, _, rfl, rfl, by simp⟩
    · rw [e, dneg hl, dpos (show (20 : Int) = 20 from rfl)]
      simp only [cond_false, cond_true]
      unfold lookup_Build_3 lookup_Build_9
      simp only [cond_false]
      rw [e]
      have p1 : wire_Put N (iu64 (20 + (x.length : Int))) 2 [69, 0] = some ((), ([69, 0] ++ be (iu64 (20 + (x.length : Int))) 2, ())) := wire_put N (by omega) (by omega) (by simp) (by omega)
      have p2 : ref01_Put N [69, 0] (iu64 (20 + (x.length : Int))) 2 = some ((), ([69, 0] ++ be (iu64 (20 + (x.length : Int))) 2, ())) := ref_put N (by omega) (by omega) (by simp) (by omega)
      have l0 : ([69, 0] ++ be (iu64 (20 + (x.length : Int))) 2 : List UInt8).length = 4 := by rw [List.length_append, be_len]; rfl
      rw [p1, p2]
      simp only [Option.bind_some]
      generalize ([69, 0] ++ be (iu64 (20 + (x.length : Int))) 2 : List UInt8) = B at *
      have l1 : (B ++ [0, 0, 0, 0, 64, iu8 p.2.2.1, 0, 0]).length = 12 := by rw [List.length_append, l0]; rfl
      have hr : room (B.length + ([0, 0, 0, 0, 64, iu8 p.2.2.1, 0, 0] : List UInt8).length) 1 = true := room_of (by rw [l0]; simp only [List.length_cons, List.length_nil]; omega)
      rw [hr]
      simp only [cond_true]
      generalize B ++ [0, 0, 0, 0, 64, iu8 p.2.2.1, 0, 0] = C at *
      have pa : ∀ (b : List UInt8) (a : Ad), b.length ≤ 1000 → a.1 = 4 → ref05_PutAddress N b a = some ((), (b ++ be a.2.2.1 4, ())) := by
        intro b a hb ha
        unfold ref05_PutAddress
        have q1 : ref01_Put N b a.2.2.1 4 = some ((), (b ++ be a.2.2.1 4, ())) := ref_put N (by omega) (by omega) (by omega) (by omega)
        rw [dpos ha, q1]
        rfl
      have q1 : wire_Put N p.1.2.2.1 4 C = some ((), (C ++ be p.1.2.2.1 4, ())) := wire_put N (by omega) (by omega) (by omega) (by omega)
      have l2 : (C ++ be p.1.2.2.1 4).length = 16 := by simp only [List.length_append, be_len, l1]
      have q2 : wire_Put N p.2.1.2.2.1 4 (C ++ be p.1.2.2.1 4) = some ((), (C ++ be p.1.2.2.1 4 ++ be p.2.1.2.2.1 4, ())) := wire_put N (by omega) (by omega) (by omega) (by omega)
      have l3 : (C ++ be p.1.2.2.1 4 ++ be p.2.1.2.2.1 4).length = 20 := by simp only [List.length_append, be_len, l1]
      rw [q1, pa C p.1 (by omega) h4]
      simp only [Option.bind_some]
      rw [q2, pa _ p.2.1 (by omega) h42]
      simp only [Option.bind_some]
      generalize C ++ be p.1.2.2.1 4 ++ be p.2.1.2.2.1 4 = D at *
      obtain ⟨v, c1, c2, _, _⟩ := checksum_ok N hN (b := D) (by omega)
      rw [c1, c2]
      simp only [Option.bind_some]
      have r0 : inR (10 : Int) D.length = true := inR_of (by omega) (by omega)
      have r1 : inR (11 : Int) (D.set 10 (iu8 (shrI v 8))).length = true := inR_of (by omega) (by rw [List.length_set]; omega)
      have l4 : ((D.set 10 (iu8 (shrI v 8))).set 11 (iu8 v)).length = 20 := by simp only [List.length_set, l3]
      have hr2 : room (((D.set 10 (iu8 (shrI v 8))).set 11 (iu8 v)).length + x.length) 1 = true := room_of (by rw [l4]; omega)
      unfold ref22_Build_6
      simp only [r0, r1, cond_true, hr2]
      exact ⟨_, _, rfl, rfl, by rw [List.length_append, l4]; omega⟩
theorem build_ok (N : Nat) (hN : 4611686018427387904 ≤ N) (p : Pkt) {d : List UInt8} (hd : d.length ≤ 140737488351232) : ∃ e r, lookup_Build N p d = some ((e, ()), (r, ())) ∧ ref22_Build N p d = some ((e, ()), (r, ())) ∧ r.length ≤ 5000 := by
  unfold lookup_Build ref22_Build
  simp only [svalid_ok, rvalid_ok, Option.bind_some]
  cases h1 : lval p.1
  · exact ⟨_, _, rfl, rfl, by simp⟩
  cases h2 : lval p.2.1
  · exact ⟨_, _, rfl, rfl, by simp⟩
  simp only [Bool.not_true, cond_false]
  by_cases h3' : ¬ p.1.1 = p.2.1.1
  · rw [dneg h3']; exact ⟨_, _, rfl, rfl, by simp⟩
  have h3 : p.1.1 = p.2.1.1 := by omega
  rw [dpos h3]
  unfold ref22_Build_1
  simp only [Bool.not_true, cond_false]
  by_cases h4 : p.2.2.1 < 0
  · rw [dpos h4]; exact ⟨_, _, rfl, rfl, by simp⟩
  by_cases h5 : 255 < p.2.2.1
  · rw [dneg h4, dpos h5]; exact ⟨_, _, rfl, rfl, by simp⟩
  rw [dneg h4, dneg h5]
  simp only [cond_false, lport_ok, rport_ok, Option.bind_some]
  have core : prt p.2.2.2.1 = true → prt p.2.2.2.2.1 = true → ∃ e r, lookup_Build_1 N d (decide (p.1.1 = 6)) p = some ((e, ()), (r, ())) ∧ ref22_Build_2 N d false p = some ((e, ()), (r, ())) ∧ r.length ≤ 5000 := by
    intro hs ht
    unfold lookup_Build_1 ref22_Build_2
    rw [transport_ok N hN p hd, room_of (by omega)]
    have e3 : (bif decide (p.2.2.1 = 6) then ref22_Build_3 N true d p else ref22_Build_3 N (decide (p.2.2.1 = 17)) d p) = ref22_Build_3 N (tcpB p) d p := by
      unfold tcpB
      cases decide (p.2.2.1 = 6) <;> rfl
    simp only [cond_false, cond_true]
    rw [e3, rports_ok N p (prt_bd hs).1 (prt_bd ht).1]
    cases ht2 : trn (tcpB p) p.2.2.2.1 p.2.2.2.2.1 d with
    | none => exact ⟨_, _, rfl, rfl, by simp⟩
    | some x =>
      have hx := trn_len ht2
      obtain ⟨e, r, q1, q2, q3⟩ := build_2 N hN p h1 h2 h3 (x := x) (by omega)
      exact ⟨e, r, q1, q2, q3⟩
  have pts : ∃ e r, (bif (!(prt p.2.2.2.1)) then some ((5, ()), ([], ())) else bif (!(prt p.2.2.2.2.1)) then some ((5, ()), ([], ())) else lookup_Build_1 N d (decide (p.1.1 = 6)) p) = some ((e, ()), (r, ())) ∧ (bif (!(prt p.2.2.2.1)) then ref22_Build_2 N d true p else ref22_Build_2 N d (!(prt p.2.2.2.2.1)) p) = some ((e, ()), (r, ())) ∧ r.length ≤ 5000 := by
    cases hs : prt p.2.2.2.1
    · exact ⟨_, _, rfl, rfl, by simp⟩
    · cases ht : prt p.2.2.2.2.1
      · exact ⟨_, _, rfl, rfl, by simp⟩
      · exact core hs ht
  by_cases h6 : p.1.1 = 6
  · rw [dpos h6] at pts ⊢
    by_cases h7 : p.2.2.1 = 44
    · rw [dpos h7]; exact ⟨_, _, rfl, rfl, by simp⟩
    · rw [dneg h7]; exact pts
  · rw [dneg h6] at pts ⊢
    exact pts
end Go.Proofs.Ytgbkkfpheahdfaa.Pl
