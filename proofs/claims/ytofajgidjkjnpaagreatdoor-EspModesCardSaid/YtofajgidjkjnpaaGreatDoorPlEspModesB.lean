/- The ghost machine: an evaluator of the program's text over plain data, and its soundness. -/
import Derived.Test.YtofajgidjkjnpaaGreatDoorPlEspModesA
import Derived.Test.YtofajgidjkjnpaaGreatDoorFnsEspModesB
import Derived.Test.YtofajgidjkjnpaaGreatDoorFnsEspModesA
import Derived.Test.YtofajgidjkjnpaaGreatDoorFnsEspModesC
set_option linter.unusedVariables false
set_option linter.unusedSimpArgs false
/- Plain: the bytes of packets (lookup.Build and the document's). -/
namespace Go.Proofs.YtofajgidjkjnpaaGreatDoor.Pl
open Go
abbrev Ad := Int × (UInt64 × (UInt64 × Unit))
abbrev Pkt := Ad × (Ad × (Int × (Int × (Int × Unit))))
def lval (a : Ad) : Bool := decide (a.1 = 6) || (decide (a.1 = 4) && (decide (a.2.1 = 0) && decide (a.2.2.1 < 4294967296)))
theorem svalid_ok (N : Nat) (a : Ad) : selector_Valid N a = some ((lval a, ()), ()) := by
  unfold selector_Valid lval
  cases decide (a.1 = 6)
  · cases decide (a.1 = 4)
    · rfl
    · cases decide (a.2.1 = 0) <;> rfl
  · rfl
theorem rvalid_ok (N : Nat) (a : Ad) : ref05_Valid N a = some ((lval a, ()), ()) := by
  unfold ref05_Valid lval
  by_cases h6 : a.1 = 6
  · have h4 : ¬ a.1 = 4 := by omega
    rw [dpos h6, dneg h4]; rfl
  · rw [dneg h6]
    cases decide (a.1 = 4)
    · rfl
    · cases decide (a.2.1 = 0)
      · rfl
      · cases decide (a.2.2.1 < 4294967296) <;> rfl
def prt (n : Int) : Bool := decide (-1 ≤ n) && decide (n ≤ 65535)
theorem lport_ok (N : Nat) (n : Int) : lookup_port N n = some ((prt n, ()), ()) := by
  unfold lookup_port prt
  cases decide (-1 ≤ n) <;> rfl
theorem rport_ok (N : Nat) (n : Int) : ref22_port N n = some ((prt n, ()), ()) := by
  unfold ref22_port prt
  cases decide (-1 ≤ n) <;> rfl
theorem prt_bd {n : Int} (h : prt n = true) : -1 ≤ n ∧ n ≤ 65535 := by
  unfold prt at h
  rw [Bool.and_eq_true, decide_eq_true_eq, decide_eq_true_eq] at h
  exact h
/-- The data with the ports. -/
def put1 (d : List UInt8) (s : Int) : List UInt8 := if s = -1 then d else (d.set 0 (iu8 (shrI s 8))).set 1 (iu8 s)
def put2 (d : List UInt8) (t : Int) : List UInt8 := if t = -1 then d else (d.set 2 (iu8 (shrI t 8))).set 3 (iu8 t)
def trn (tcp : Bool) (s t : Int) (d : List UInt8) : Option (List UInt8) :=
  if tcp = true then (if s = -1 ∧ t = -1 then some d else if d.length < 4 then none else some (put2 (put1 d s) t)) else some d
theorem put1_len (d : List UInt8) (s : Int) : (put1 d s).length = d.length := by unfold put1; split <;> simp
theorem put2_len (d : List UInt8) (s : Int) : (put2 d s).length = d.length := by unfold put2; split <;> simp
theorem trn_len {tcp : Bool} {s t : Int} {d x : List UInt8} (h : trn tcp s t d = some x) : x.length = d.length := by
  unfold trn at h
  split at h
  · split at h
    · cases h; rfl
    · split at h
      · cases h
      · cases h; rw [put2_len, put1_len]
  · cases h; rfl
def tcpB (p : Pkt) : Bool := decide (p.2.2.1 = 6) || decide (p.2.2.1 = 17)
def outT : Option (List UInt8) → Option ((Int × Unit) × (List UInt8 × Unit))
  | none => some ((1, ()), ([], ()))
  | some x => some ((0, ()), (x, ()))
theorem tr_step (N : Nat) (d : List UInt8) (A : List Int) (hA : A.length = 2) {i : Nat} (hi : i < 2) {n : Int} (hn : A.getD i 0 = n) :
    lookup_transport_s3 N 2 (i : Int) d A = if n = -1 then some (.go ((2, ((i + 1 : Nat) : Int), ()), (d, A, ()))) else if d.length < 4 then some (.rt ((1, ()), ([], ()))) else some (.go ((2, ((i + 1 : Nat) : Int), ()), ((d.set (2 * i) (iu8 (shrI n 8))).set (2 * i + 1) (iu8 n), A, ()))) := by
  unfold lookup_transport_s3
  have hw : w64 ((i : Int) + 1) = ((i + 1 : Nat) : Int) := by rw [w64_of (by omega) (by omega)]; rfl
  have h2 : w64 (2 * (i : Int)) = ((2 * i : Nat) : Int) := by rw [w64_of (by omega) (by omega)]; omega
  have h3 : w64 (((2 * i : Nat) : Int) + 1) = ((2 * i + 1 : Nat) : Int) := by rw [w64_of (by omega) (by omega)]; omega
  have hr : inR (i : Int) A.length = true := inR_of (by omega) (by omega)
  rw [dpos (show ((i : Nat) : Int) < 2 by omega), hr]
  simp only [cond_true, Int.toNat_natCast, hn, hw, h2, h3]
  by_cases h : n = -1
  · rw [dpos h, if_pos h]; rfl
  · rw [dneg h, if_neg h, cond_false]
    by_cases h4 : d.length < 4
    · rw [dpos (by omega), if_pos h4]; rfl
    · have r0 : inR ((2 * i : Nat) : Int) d.length = true := inR_of (by omega) (by omega)
      have r1 : inR ((2 * i + 1 : Nat) : Int) (d.set (2 * i) (iu8 (shrI n 8))).length = true := inR_of (by omega) (by rw [List.length_set]; omega)
      rw [dneg (by omega), if_neg h4, cond_false, r0, cond_true, r1]; rfl
theorem transport_ok (N : Nat) (hN : 4611686018427387904 ≤ N) (p : Pkt) {d : List UInt8} (hd : d.length ≤ 140737488351232) : lookup_transport N p d = outT (trn (tcpB p) p.2.2.2.1 p.2.2.2.2.1 d) := by
  unfold lookup_transport
  rw [room_of (by omega), cond_true]
  have key : ∀ b, b = (!(tcpB p)) → lookup_transport_1 N b p d = outT (trn (tcpB p) p.2.2.2.1 p.2.2.2.2.1 d) := by
    intro b hb
    subst hb
    unfold lookup_transport_1 trn
    cases tcpB p
    · rfl
    · simp only [Bool.not_true, cond_false, if_true]
      show lookup_transport_2 N 2 0 d [p.2.2.2.1, p.2.2.2.2.1] = _
      have g0 : ([p.2.2.2.1, p.2.2.2.2.1] : List Int).getD 0 0 = p.2.2.2.1 := rfl
      have g1 : ([p.2.2.2.1, p.2.2.2.2.1] : List Int).getD 1 0 = p.2.2.2.2.1 := rfl
      have hA : ([p.2.2.2.1, p.2.2.2.2.1] : List Int).length = 2 := rfl
      generalize ([p.2.2.2.1, p.2.2.2.2.1] : List Int) = A at *
      generalize p.2.2.2.1 = s at *
      generalize p.2.2.2.2.1 = t at *
      obtain ⟨M, rfl⟩ : ∃ M, N = M + 3 := ⟨N - 3, by omega⟩
      unfold lookup_transport_2
      have e0 := tr_step (M + 3) d A hA (i := 0) (by omega) g0
      have fin : ∀ d', loopK (M + 1) (fun y => lookup_transport_s3 (M + 3) y.1.1 y.1.2.1 y.2.1 y.2.2.1) (fun (e : ((Unit) × (List UInt8 × Unit))) => lookup_transport_4 (M + 3) e.2.1) ((2, ((1 + 1 : Nat) : Int), ()), (d', A, ())) = some ((0, ()), (d', ())) := by
        intro d'
        rw [loopK_succ]
        show Option.bind (lookup_transport_s3 (M + 3) 2 ((1 + 1 : Nat) : Int) d' A) _ = _
        unfold lookup_transport_s3
        rw [dneg (by omega)]; rfl
      have mid : ∀ d', loopK (M + 2) (fun y => lookup_transport_s3 (M + 3) y.1.1 y.1.2.1 y.2.1 y.2.2.1) (fun (e : ((Unit) × (List UInt8 × Unit))) => lookup_transport_4 (M + 3) e.2.1) ((2, ((0 + 1 : Nat) : Int), ()), (d', A, ())) = (if t = -1 then some ((0, ()), (d', ())) else if d'.length < 4 then some ((1, ()), ([], ())) else some ((0, ()), ((d'.set 2 (iu8 (shrI t 8))).set 3 (iu8 t), ()))) := by
        intro d'
        have e1 := tr_step (M + 3) d' A hA (i := 1) (by omega) g1
        rw [loopK_succ]
        show Option.bind (lookup_transport_s3 (M + 3) 2 ((1 : Nat) : Int) d' A) _ = _
        rw [e1]
        by_cases ht : t = -1
        · rw [if_pos ht, if_pos ht, Option.bind_some]; exact fin d'
        · rw [if_neg ht, if_neg ht]
          by_cases h4 : d'.length < 4
          · rw [if_pos h4, if_pos h4]; rfl
          · rw [if_neg h4, if_neg h4, Option.bind_some]; exact fin _
      rw [loopK_succ]
      show Option.bind (lookup_transport_s3 (M + 3) 2 ((0 : Nat) : Int) d A) _ = _
      rw [e0]
      unfold put1 put2
      by_cases hs : s = -1
      · rw [if_pos hs, Option.bind_some]
        refine (mid d).trans ?_
        by_cases ht : t = -1
        · rw [if_pos ht, if_pos ⟨hs, ht⟩]; rfl
        · rw [if_neg ht, if_neg (show ¬ (s = -1 ∧ t = -1) from fun h => ht h.2)]
          by_cases h4 : d.length < 4
          · rw [if_pos h4, if_pos h4]; rfl
          · rw [if_neg h4, if_neg h4, if_pos hs, if_neg ht]; rfl
      · rw [if_neg hs, if_neg (show ¬ (s = -1 ∧ t = -1) from fun h => hs h.1)]
        by_cases h4 : d.length < 4
        · rw [if_pos h4, if_pos h4]; rfl
        · rw [if_neg h4, if_neg h4, Option.bind_some]
          refine (mid _).trans ?_
          have hl : ((d.set (2 * 0) (iu8 (shrI s 8))).set (2 * 0 + 1) (iu8 s)).length = d.length := by simp
          rw [hl, if_neg h4, if_neg hs]
          by_cases ht : t = -1
          · rw [if_pos ht, if_pos ht]; rfl
          · rw [if_neg ht, if_neg ht]; rfl
  by_cases h6 : p.2.2.1 = 6
  · rw [dpos h6]; exact key false (by unfold tcpB; rw [dpos h6]; rfl)
  · rw [dneg h6]; exact key (!(decide (p.2.2.1 = 17))) (by unfold tcpB; rw [dneg h6, Bool.false_or])
/-- The reference: the ports, and what follows. -/
theorem rports_ok (N : Nat) (p : Pkt) (hs : -1 ≤ p.2.2.2.1) (ht : -1 ≤ p.2.2.2.2.1) (d : List UInt8) (tcp : Bool) : ref22_Build_3 N tcp d p = match trn tcp p.2.2.2.1 p.2.2.2.2.1 d with
    | none => some ((1, ()), ([], ()))
    | some x => ref22_Build_4 N x p := by
  unfold ref22_Build_3 trn put1 put2
  cases tcp
  · rfl
  · simp only [cond_true, if_true]
    by_cases s0 : p.2.2.2.1 = -1
    · have s1 : ¬ 0 ≤ p.2.2.2.1 := by omega
      by_cases t0 : p.2.2.2.2.1 = -1
      · have t1 : ¬ 0 ≤ p.2.2.2.2.1 := by omega
        simp only [dneg s1, dneg t1, cond_false, if_pos (show (p.2.2.2.1 = -1 ∧ p.2.2.2.2.1 = -1) from ⟨s0, t0⟩)]
      · have t1 : 0 ≤ p.2.2.2.2.1 := by omega
        by_cases h4 : d.length < 4
        · have h4' : (d.length : Int) < 4 := by omega
          simp only [dneg s1, dpos t1, dpos h4', cond_false, cond_true, if_neg (show ¬ (p.2.2.2.1 = -1 ∧ p.2.2.2.2.1 = -1) from fun h => t0 h.2), if_pos h4]
        · have h4' : ¬ (d.length : Int) < 4 := by omega
          have r2 : inR (2 : Int) d.length = true := inR_of (by omega) (by omega)
          have r3 : inR (3 : Int) (d.set 2 (iu8 (shrI p.2.2.2.2.1 8))).length = true := inR_of (by omega) (by rw [List.length_set]; omega)
          simp only [dneg s1, dpos t1, dneg h4', cond_false, cond_true, r2, r3, if_neg (show ¬ (p.2.2.2.1 = -1 ∧ p.2.2.2.2.1 = -1) from fun h => t0 h.2), if_neg h4, if_pos s0, if_neg t0]
    · have s1 : 0 ≤ p.2.2.2.1 := by omega
      by_cases h4 : d.length < 4
      · have h4' : (d.length : Int) < 4 := by omega
        simp only [dpos s1, dpos h4', cond_true, if_neg (show ¬ (p.2.2.2.1 = -1 ∧ p.2.2.2.2.1 = -1) from fun h => s0 h.1), if_pos h4]
      · have h4' : ¬ (d.length : Int) < 4 := by omega
        have r0 : inR (0 : Int) d.length = true := inR_of (by omega) (by omega)
        have r1 : inR (1 : Int) (d.set 0 (iu8 (shrI p.2.2.2.1 8))).length = true := inR_of (by omega) (by rw [List.length_set]; omega)
        have r2 : inR (2 : Int) ((d.set 0 (iu8 (shrI p.2.2.2.1 8))).set 1 (iu8 p.2.2.2.1)).length = true := inR_of (by omega) (by simp only [List.length_set]; omega)
        have r3 : inR (3 : Int) (((d.set 0 (iu8 (shrI p.2.2.2.1 8))).set 1 (iu8 p.2.2.2.1)).set 2 (iu8 (shrI p.2.2.2.2.1 8))).length = true := inR_of (by omega) (by simp only [List.length_set]; omega)
        by_cases t0 : p.2.2.2.2.1 = -1
        · have t1 : ¬ 0 ≤ p.2.2.2.2.1 := by omega
          simp only [dpos s1, dneg t1, dneg h4', cond_false, cond_true, r0, r1, if_neg (show ¬ (p.2.2.2.1 = -1 ∧ p.2.2.2.2.1 = -1) from fun h => s0 h.1), if_neg h4, if_neg s0, if_pos t0]
        · have t1 : 0 ≤ p.2.2.2.2.1 := by omega
          simp only [dpos s1, dpos t1, dneg h4', cond_false, cond_true, r0, r1, r2, r3, if_neg (show ¬ (p.2.2.2.1 = -1 ∧ p.2.2.2.2.1 = -1) from fun h => s0 h.1), if_neg h4, if_neg s0, if_neg t0]
theorem build_2 (N : Nat) (hN : 4611686018427387904 ≤ N) (p : Pkt) (h1 : lval p.1 = true) (h2 : lval p.2.1 = true) (h3 : p.1.1 = p.2.1.1) {x : List UInt8} (hx : x.length ≤ 140737488351232) :
    ∃ e r, (bif decide (p.1.1 = 6) then lookup_Build_2 N (decide (p.1.1 = 6)) 40 p x else lookup_Build_2 N (decide (p.1.1 = 6)) 20 p x) = some ((e, ()), (r, ())) ∧ ref22_Build_4 N x p = some ((e, ()), (r, ())) ∧ r.length ≤ 5000 := by
  unfold ref22_Build_4
  by_cases h6 : p.1.1 = 6
  · have h62 : p.2.1.1 = 6 := by omega
    have n4 : ¬ p.1.1 = 4 := by omega
    have n42 : ¬ p.2.1.1 = 4 := by omega
    rw [dpos h6]
    simp only [cond_true]
    unfold lookup_Build_2 ref22_Build_5
    by_cases hl : (4096 : Int) < 40 + (x.length : Int)
    · have e : w64 (40 + (x.length : Int)) = 40 + (x.length : Int) := w64_of (by omega) (by omega)
      rw [e, dpos hl]
      exact ⟨_, _, rfl, rfl, by simp⟩
    · have e : w64 (40 + (x.length : Int)) = 40 + (x.length : Int) := w64_of (by omega) (by omega)
      rw [e, dneg hl, dneg (show ¬ (40 : Int) = 20 by decide)]
      simp only [cond_false]
      unfold lookup_Build_3 lookup_Build_5
      simp only [cond_true]
      have p1 : wire_Put N (iu64 (x.length : Int)) 2 [96, 0, 0, 0] = some ((), ([96, 0, 0, 0] ++ be (iu64 (x.length : Int)) 2, ())) := wire_put N (by omega) (by omega) (by simp) (by omega)
      have p2 : ref01_Put N [96, 0, 0, 0] (iu64 (x.length : Int)) 2 = some ((), ([96, 0, 0, 0] ++ be (iu64 (x.length : Int)) 2, ())) := ref_put N (by omega) (by omega) (by simp) (by omega)
      have l0 : ([96, 0, 0, 0] ++ be (iu64 (x.length : Int)) 2 : List UInt8).length = 6 := by rw [List.length_append, be_len]; rfl
      rw [p1, p2]
      simp only [Option.bind_some]
      generalize ([96, 0, 0, 0] ++ be (iu64 (x.length : Int)) 2 : List UInt8) = B at *
      have l1 : (B ++ [iu8 p.2.2.1, 64]).length = 8 := by rw [List.length_append, l0]; rfl
      have hr : room (B.length + ([iu8 p.2.2.1, 64] : List UInt8).length) 1 = true := room_of (by rw [l0]; simp only [List.length_cons, List.length_nil]; omega)
      rw [hr]
      simp only [cond_true]
      generalize B ++ [iu8 p.2.2.1, 64] = C at *
      have pa : ∀ (b : List UInt8) (a : Ad), b.length ≤ 1000 → ¬ a.1 = 4 → ref05_PutAddress N b a = some ((), (b ++ be a.2.1 8 ++ be a.2.2.1 8, ())) := by
        intro b a hb ha
        unfold ref05_PutAddress
        have q1 : ref01_Put N b a.2.1 8 = some ((), (b ++ be a.2.1 8, ())) := ref_put N (by omega) (by omega) (by omega) (by omega)
        have q2 : ref01_Put N (b ++ be a.2.1 8) a.2.2.1 8 = some ((), (b ++ be a.2.1 8 ++ be a.2.2.1 8, ())) := ref_put N (by omega) (by omega) (by rw [List.length_append, be_len]; omega) (by omega)
        rw [dneg ha, q1]
        simp only [cond_false, Option.bind_some]
        rw [q2]
        rfl
      have l2 : (C ++ be p.1.2.1 8 ++ be p.1.2.2.1 8).length = 24 := by simp only [List.length_append, be_len, l1]
      have l3 : (C ++ be p.1.2.1 8 ++ be p.1.2.2.1 8 ++ be p.2.1.2.1 8 ++ be p.2.1.2.2.1 8).length = 40 := by simp only [List.length_append, be_len, l1]
      rw [pa C p.1 (by omega) n4]
      simp only [Option.bind_some]
      rw [pa _ p.2.1 (by omega) n42]
      simp only [Option.bind_some]
      have lp : lookup_Build_6 N 2 0 x C [p.1, p.2.1] = lookup_Build_8 N x (C ++ be p.1.2.1 8 ++ be p.1.2.2.1 8 ++ be p.2.1.2.1 8 ++ be p.2.1.2.2.1 8) := by
        have st : ∀ (i : Nat) (b : List UInt8) (a : Ad), i < 2 → b.length ≤ 1000 → ([p.1, p.2.1] : List Ad).getD i (0, 0, 0, ()) = a → lookup_Build_s7 N 2 (i : Int) x b [p.1, p.2.1] = some (.go ((2, ((i + 1 : Nat) : Int), ()), (x, b ++ be a.2.1 8 ++ be a.2.2.1 8, [p.1, p.2.1], ()))) := by
          intro i b a hi hb ha
          unfold lookup_Build_s7
          have q1 : wire_Put N a.2.1 8 b = some ((), (b ++ be a.2.1 8, ())) := wire_put N (by omega) (by omega) (by omega) (by omega)
          have q2 : wire_Put N a.2.2.1 8 (b ++ be a.2.1 8) = some ((), (b ++ be a.2.1 8 ++ be a.2.2.1 8, ())) := wire_put N (by omega) (by omega) (by rw [List.length_append, be_len]; omega) (by omega)
          have hr : inR (i : Int) ([p.1, p.2.1] : List Ad).length = true := inR_of (by omega) (by show (i : Int) < 2; omega)
          have hw : w64 ((i : Int) + 1) = ((i + 1 : Nat) : Int) := by rw [w64_of (by omega) (by omega)]; rfl
          rw [dpos (show ((i : Nat) : Int) < 2 by omega), hr]
          simp only [cond_true, Int.toNat_natCast, ha, q1, q2, Option.bind_some, hw]
        obtain ⟨M, rfl⟩ : ∃ M, N = M + 3 := ⟨N - 3, by omega⟩
        unfold lookup_Build_6
        have s0 := st 0 C p.1 (by omega) (by omega) rfl
        have s1 := st 1 (C ++ be p.1.2.1 8 ++ be p.1.2.2.1 8) p.2.1 (by omega) (by omega) rfl
        rw [loopK_succ]
        show Option.bind (lookup_Build_s7 (M + 3) 2 ((0 : Nat) : Int) x C [p.1, p.2.1]) _ = _
        rw [s0, Option.bind_some]
        show loopK (M + 2) _ _ _ = _
        rw [loopK_succ]
        show Option.bind (lookup_Build_s7 (M + 3) 2 ((1 : Nat) : Int) x _ [p.1, p.2.1]) _ = _
        rw [s1, Option.bind_some]
        show loopK (M + 1) _ _ _ = _
        rw [loopK_succ]
        rfl
      refine ⟨0, C ++ be p.1.2.1 8 ++ be p.1.2.2.1 8 ++ be p.2.1.2.1 8 ++ be p.2.1.2.2.1 8 ++ x, ?_, ?_, by rw [List.length_append, l3]; omega⟩
      · refine lp.trans ?_
        unfold lookup_Build_8
        rw [room_of (by rw [l3]; omega)]; rfl
      · unfold ref22_Build_6
        rw [room_of (by rw [l3]; omega)]; rfl
  · have h4 : p.1.1 = 4 := by
      unfold lval at h1
      rw [dneg h6, Bool.false_or, Bool.and_eq_true, decide_eq_true_eq] at h1
      exact h1.1
    have h42 : p.2.1.1 = 4 := by omega
    rw [dneg h6]
    simp only [cond_false]
    unfold lookup_Build_2 ref22_Build_5
    have e : w64 (20 + (x.length : Int)) = 20 + (x.length : Int) := w64_of (by omega) (by omega)
    by_cases hl : (4096 : Int) < 20 + (x.length : Int)
    · rw [e, dpos hl]
      exact ⟨_, _, rfl, rfl, by simp⟩
    · rw [e, dneg hl, dpos (show (20 : Int) = 20 from rfl)]
      simp only [cond_false, cond_true]
      unfold lookup_Build_3 lookup_Build_9
      simp only [cond_false]
      rw [e]
      have p1 : wire_Put N (iu64 (20 + (x.length : Int))) 2 [69, 0] = some ((), ([69, 0] ++ be (iu64 (20 + (x.length : Int))) 2, ())) := wire_put N (by omega) (by omega) (by simp) (by omega)
      have p2 : ref01_Put N [69, 0] (iu64 (20 + (x.length : Int))) 2 = some ((), ([69, 0] ++ be (iu64 (20 + (x.length : Int))) 2, ())) := ref_put N (by omega) (by omega) (by simp) (by omega)
      have l0 : ([69, 0] ++ be (iu64 (20 + (x.length : Int))) 2 : List UInt8).length = 4 := by rw [List.length_append, be_len]; rfl
      rw [p1, p2]
      simp only [Option.bind_some]
      generalize ([69, 0] ++ be (iu64 (20 + (x.length : Int))) 2 : List UInt8) = B at *
      have l1 : (B ++ [0, 0, 0, 0, 64, iu8 p.2.2.1, 0, 0]).length = 12 := by rw [List.length_append, l0]; rfl
      have hr : room (B.length + ([0, 0, 0, 0, 64, iu8 p.2.2.1, 0, 0] : List UInt8).length) 1 = true := room_of (by rw [l0]; simp only [List.length_cons, List.length_nil]; omega)
      rw [hr]
      simp only [cond_true]
      generalize B ++ [0, 0, 0, 0, 64, iu8 p.2.2.1, 0, 0] = C at *
      have pa : ∀ (b : List UInt8) (a : Ad), b.length ≤ 1000 → a.1 = 4 → ref05_PutAddress N b a = some ((), (b ++ be a.2.2.1 4, ())) := by
        intro b a hb ha
        unfold ref05_PutAddress
        have q1 : ref01_Put N b a.2.2.1 4 = some ((), (b ++ be a.2.2.1 4, ())) := ref_put N (by omega) (by omega) (by omega) (by omega)
        rw [dpos ha, q1]
        rfl
      have q1 : wire_Put N p.1.2.2.1 4 C = some ((), (C ++ be p.1.2.2.1 4, ())) := wire_put N (by omega) (by omega) (by omega) (by omega)
      have l2 : (C ++ be p.1.2.2.1 4).length = 16 := by simp only [List.length_append, be_len, l1]
      have q2 : wire_Put N p.2.1.2.2.1 4 (C ++ be p.1.2.2.1 4) = some ((), (C ++ be p.1.2.2.1 4 ++ be p.2.1.2.2.1 4, ())) := wire_put N (by omega) (by omega) (by omega) (by omega)
      have l3 : (C ++ be p.1.2.2.1 4 ++ be p.2.1.2.2.1 4).length = 20 := by simp only [List.length_append, be_len, l1]
      rw [q1, pa C p.1 (by omega) h4]
      simp only [Option.bind_some]
      rw [q2, pa _ p.2.1 (by omega) h42]
      simp only [Option.bind_some]
      generalize C ++ be p.1.2.2.1 4 ++ be p.2.1.2.2.1 4 = D at *
      obtain ⟨v, c1, c2, _, _⟩ := checksum_ok N hN (b := D) (by omega)
      rw [c1, c2]
      simp only [Option.bind_some]
      have r0 : inR (10 : Int) D.length = true := inR_of (by omega) (by omega)
      have r1 : inR (11 : Int) (D.set 10 (iu8 (shrI v 8))).length = true := inR_of (by omega) (by rw [List.length_set]; omega)
      have l4 : ((D.set 10 (iu8 (shrI v 8))).set 11 (iu8 v)).length = 20 := by simp only [List.length_set, l3]
      have hr2 : room (((D.set 10 (iu8 (shrI v 8))).set 11 (iu8 v)).length + x.length) 1 = true := room_of (by rw [l4]; omega)
      unfold ref22_Build_6
      simp only [r0, r1, cond_true, hr2]
      exact ⟨_, _, rfl, rfl, by rw [List.length_append, l4]; omega⟩
theorem build_ok (N : Nat) (hN : 4611686018427387904 ≤ N) (p : Pkt) {d : List UInt8} (hd : d.length ≤ 140737488351232) : ∃ e r, lookup_Build N p d = some ((e, ()), (r, ())) ∧ ref22_Build N p d = some ((e, ()), (r, ())) ∧ r.length ≤ 5000 := by
  unfold lookup_Build ref22_Build
  simp only [svalid_ok, rvalid_ok, Option.bind_some]
  cases h1 : lval p.1
  · exact ⟨_, _, rfl, rfl, by simp⟩
  cases h2 : lval p.2.1
  · exact ⟨_, _, rfl, rfl, by simp⟩
  simp only [Bool.not_true, cond_false]
  by_cases h3' : ¬ p.1.1 = p.2.1.1
  · rw [dneg h3']; exact ⟨_, _, rfl, rfl, by simp⟩
  have h3 : p.1.1 = p.2.1.1 := by omega
  rw [dpos h3]
  unfold ref22_Build_1
  simp only [Bool.not_true, cond_false]
  by_cases h4 : p.2.2.1 < 0
  · rw [dpos h4]; exact ⟨_, _, rfl, rfl, by simp⟩
  by_cases h5 : 255 < p.2.2.1
  · rw [dneg h4, dpos h5]; exact ⟨_, _, rfl, rfl, by simp⟩
  rw [dneg h4, dneg h5]
  simp only [cond_false, lport_ok, rport_ok, Option.bind_some]
  have core : prt p.2.2.2.1 = true → prt p.2.2.2.2.1 = true → ∃ e r, lookup_Build_1 N d (decide (p.1.1 = 6)) p = some ((e, ()), (r, ())) ∧ ref22_Build_2 N d false p = some ((e, ()), (r, ())) ∧ r.length ≤ 5000 := by
    intro hs ht
    unfold lookup_Build_1 ref22_Build_2
    rw [transport_ok N hN p hd, room_of (by omega)]
    have e3 : (bif decide (p.2.2.1 = 6) then ref22_Build_3 N true d p else ref22_Build_3 N (decide (p.2.2.1 = 17)) d p) = ref22_Build_3 N (tcpB p) d p := by
      unfold tcpB
      cases decide (p.2.2.1 = 6) <;> rfl
    simp only [cond_false, cond_true]
    rw [e3, rports_ok N p (prt_bd hs).1 (prt_bd ht).1]
    cases ht2 : trn (tcpB p) p.2.2.2.1 p.2.2.2.2.1 d with
    | none => exact ⟨_, _, rfl, rfl, by simp⟩
    | some x =>
      have hx := trn_len ht2
      obtain ⟨e, r, q1, q2, q3⟩ := build_2 N hN p h1 h2 h3 (x := x) (by omega)
      exact ⟨e, r, q1, q2, q3⟩
  have pts : ∃ e r, (bif (!(prt p.2.2.2.1)) then some ((5, ()), ([], ())) else bif (!(prt p.2.2.2.2.1)) then some ((5, ()), ([], ())) else lookup_Build_1 N d (decide (p.1.1 = 6)) p) = some ((e, ()), (r, ())) ∧ (bif (!(prt p.2.2.2.1)) then ref22_Build_2 N d true p else ref22_Build_2 N d (!(prt p.2.2.2.2.1)) p) = some ((e, ()), (r, ())) ∧ r.length ≤ 5000 := by
    cases hs : prt p.2.2.2.1
    · exact ⟨_, _, rfl, rfl, by simp⟩
    · cases ht : prt p.2.2.2.2.1
      · exact ⟨_, _, rfl, rfl, by simp⟩
      · exact core hs ht
  by_cases h6 : p.1.1 = 6
  · rw [dpos h6] at pts ⊢
    by_cases h7 : p.2.2.1 = 44
    · rw [dpos h7]; exact ⟨_, _, rfl, rfl, by simp⟩
    · rw [dneg h7]; exact pts
  · rw [dneg h6] at pts ⊢
    exact pts
end Go.Proofs.YtofajgidjkjnpaaGreatDoor.Pl

/- Plain: what the program and the document see of any bytes, with the family. -/
namespace Go.Proofs.YtofajgidjkjnpaaGreatDoor.Pl
open Go
abbrev Adr := Int × (UInt64 × (UInt64 × Unit))
abbrev Pck := Adr × (Adr × (Int × (Int × (Int × Unit))))
abbrev Sn := Pck × (Int × (Bool × (Bool × (Int × Unit))))
abbrev zsn : Sn := (((0, 0, 0, ()), (0, 0, 0, ()), 0, 0, 0, ()), 0, false, false, 0, ())
theorem wire_num (N : Nat) {b : List UInt8} {at_ w : Int} (hw : 1 ≤ w) (hw8 : w ≤ 8) (h0 : 0 ≤ at_) (ha : at_ ≤ 1000000) (hb : at_ + w ≤ (b.length : Int)) (hl : b.length ≤ 9223372036854775807) (hN : 8 < N) :
    wire_Number N b at_ w = some ((nbr ((b.drop at_.toNat).take w.toNat), true, ()), ()) := by
  obtain ⟨k, rfl⟩ := Int.eq_ofNat_of_zero_le h0
  obtain ⟨m, rfl⟩ := Int.eq_ofNat_of_zero_le (show 0 ≤ w by omega)
  have hs : cut b k (k + m) = (b.drop k).take m := cut_at b k m
  have hlen : ((b.drop k).take m).length = m := by simp; omega
  have e1 : ((k : Int) + (m : Int)).toNat = k + m := by omega
  unfold wire_Number wire_Number_1 wire_Slice wire_Slice_1
  simp (disch := omega) only [dpos, dneg, w64_of, inR_of, room_of, tmod_of, cond_true, cond_false, Bool.and_self, Bool.and_true, Bool.true_and, Bool.and_false, Bool.false_and, Bool.not_true, Bool.not_false, Option.bind_some, List.length_cons, List.length_nil, Nat.zero_add, Int.toNat_natCast, e1, hs]
  generalize (b.drop k).take m = s at hlen
  subst hlen
  unfold wire_Number_2
  refine (loopK_run (fun i : Nat => ((nbr (s.take i), s, (s.length : Int), (i : Int), ()), ())) (n := s.length) ?_ (e := ((nbr s, ()), ())) ?_ (by omega)).trans rfl
  · intro i hi
    show wire_Number_s3 N _ s _ _ = _
    unfold wire_Number_s3
    simp (disch := omega) only [dpos, dneg, w64_of, inR_of, room_of, tmod_of, cond_true, cond_false, Bool.and_self, Bool.and_true, Bool.true_and, Bool.and_false, Bool.false_and, Bool.not_true, Bool.not_false, Option.bind_some, List.length_cons, List.length_nil, Nat.zero_add, Int.toNat_natCast, nbr_take s hi, Int.natCast_add, Int.natCast_one]
  · show wire_Number_s3 N _ s _ _ = _
    unfold wire_Number_s3
    simp (disch := omega) only [dpos, dneg, w64_of, inR_of, room_of, tmod_of, cond_true, cond_false, Bool.and_self, Bool.and_true, Bool.true_and, Bool.and_false, Bool.false_and, Bool.not_true, Bool.not_false, Option.bind_some, List.length_cons, List.length_nil, Nat.zero_add, List.take_length]
theorem ref_num (N : Nat) {b : List UInt8} {at_ w : Int} (hw : 1 ≤ w) (hw8 : w ≤ 8) (h0 : 0 ≤ at_) (ha : at_ ≤ 1000000) (hb : at_ + w ≤ (b.length : Int)) (hl : b.length ≤ 9223372036854775807) (hN : 8 < N) :
    ref01_Number N b at_ w = some ((nbr ((b.drop at_.toNat).take w.toNat), true, ()), ()) := by
  obtain ⟨k, rfl⟩ := Int.eq_ofNat_of_zero_le h0
  obtain ⟨m, rfl⟩ := Int.eq_ofNat_of_zero_le (show 0 ≤ w by omega)
  have hlen : ((b.drop k).take m).length = m := by simp; omega
  unfold ref01_Number ref01_Number_1
  simp (disch := omega) only [dpos, dneg, w64_of, inR_of, room_of, tmod_of, cond_true, cond_false, Bool.and_self, Bool.and_true, Bool.true_and, Bool.and_false, Bool.false_and, Bool.not_true, Bool.not_false, Option.bind_some, List.length_cons, List.length_nil, Nat.zero_add, Int.toNat_natCast]
  unfold ref01_Number_2
  refine (loopK_run (fun i : Nat => ((b, (k : Int), (m : Int), nbr (((b.drop k).take m).take i), ((k + i : Nat) : Int), ()), ())) (n := m) ?_ (e := ((nbr ((b.drop k).take m), ()), ())) ?_ (by omega)).trans rfl
  · intro i hi
    have hg : ((b.drop k).take m).getD i 0 = b.getD (k + i) 0 := by
      simp [List.getD, hi]
    show ref01_Number_s3 N b k m _ _ = _
    unfold ref01_Number_s3
    simp (disch := omega) only [dpos, dneg, w64_of, inR_of, room_of, tmod_of, cond_true, cond_false, Bool.and_self, Bool.and_true, Bool.true_and, Bool.and_false, Bool.false_and, Bool.not_true, Bool.not_false, Option.bind_some, List.length_cons, List.length_nil, Nat.zero_add, Int.toNat_natCast, nbr_take _ (show i < ((b.drop k).take m).length by omega), hg]
    congr 5
  · show ref01_Number_s3 N b k m _ _ = _
    unfold ref01_Number_s3
    simp (disch := omega) only [dpos, dneg, w64_of, inR_of, room_of, tmod_of, cond_true, cond_false, Bool.and_self, Bool.and_true, Bool.true_and, Bool.and_false, Bool.false_and, Bool.not_true, Bool.not_false, Option.bind_some, List.length_cons, List.length_nil, Nat.zero_add]
    rw [List.take_of_length_le (by omega)]
/-- The number of w bytes from a place on. -/
def W (b : List UInt8) (k w : Int) : UInt64 := nbr ((b.drop k.toNat).take w.toNat)
theorem W_lt {b : List UInt8} {k w : Int} (h0 : 0 ≤ k) (hw : 1 ≤ w) (h2 : w ≤ 2) (hb : k + w ≤ (b.length : Int)) : ((W b k w).toNat : Int) ≤ 65535 ∧ 0 ≤ ((W b k w).toNat : Int) := by
  have hl : ((b.drop k.toNat).take w.toNat).length = w.toNat := by simp; omega
  have h := nbr_lt (k := w.toNat) (by omega) hl
  have hp : 256 ^ w.toNat ≤ 256 ^ 2 := Nat.pow_le_pow_right (by decide) (by omega)
  unfold W
  omega
theorem W_one {b : List UInt8} {k : Nat} (h : k < b.length) : (W b (k : Int) 1).toNat = (b.getD k 0).toNat := by
  unfold W
  have e : ((b.drop k).take 1) = [b.getD k 0] := by
    rw [List.drop_eq_getElem_cons h, List.take_succ_cons, List.take_zero, List.getD, List.getElem?_eq_getElem h]; rfl
  show (nbr ((b.drop ((k : Int)).toNat).take 1)).toNat = _
  rw [Int.toNat_natCast, e, nbr_nat (n := 1) rfl (by omega)]
  show 0 * 256 + (b.getD k 0).toNat = _
  omega
theorem and1 {x : Int} (h0 : 0 ≤ x) (h1 : x ≤ 65535) : and64 x 1 = x % 2 := by
  obtain ⟨n, rfl⟩ := Int.eq_ofNat_of_zero_le h0
  unfold and64
  have e : (BitVec.ofInt 64 (n : Int) &&& BitVec.ofInt 64 1).toNat = n % 2 := by
    rw [BitVec.toNat_and, BitVec.toNat_ofInt]
    have e1 : ((n : Int) % ((2 ^ 64 : Nat) : Int)).toNat = n := by omega
    have e2 : (BitVec.ofInt 64 1).toNat = 2 ^ 1 - 1 := rfl
    rw [e1, e2, Nat.and_two_pow_sub_one_eq_mod]
  rw [e, w64_of (by omega) (by omega)]
  omega
section
variable (N : Nat) (hN : 4611686018427387904 ≤ N) {b : List UInt8} (hl : b.length ≤ 9223372036854775807)
include hN hl
theorem cnum {k w : Int} (h0 : 0 ≤ k) (hk : k ≤ 1000) (hw : 1 ≤ w) (h8 : w ≤ 8) (hb : k + w ≤ (b.length : Int)) : lookup_cursor_number N (b, ()) k w = some ((W b k w, ()), ()) := by
  unfold lookup_cursor_number
  rw [wire_num N hw h8 h0 (by omega) hb hl (by omega)]; rfl
theorem cint {k w : Int} (h0 : 0 ≤ k) (hk : k ≤ 1000) (hw : 1 ≤ w) (h2 : w ≤ 2) (hb : k + w ≤ (b.length : Int)) : lookup_cursor_int N (b, ()) k w = some ((((W b k w).toNat : Int), ()), ()) := by
  unfold lookup_cursor_int
  have h := W_lt h0 hw h2 hb
  rw [cnum N hN hl h0 hk hw (by omega) hb, Option.bind_some]
  show some ((w64 ((W b k w).toNat : Int), ()), ()) = _
  rw [w64_of (by omega) (by omega)]
theorem rword {k : Int} (h0 : 0 ≤ k) (hk : k ≤ 1000) (hb : k + 2 ≤ (b.length : Int)) : ref22_word N b k = some ((((W b k 2).toNat : Int), ()), ()) := by
  unfold ref22_word
  have h := W_lt h0 (w := 2) (by omega) (by omega) hb
  rw [ref_num N (by omega) (by omega) h0 (by omega) hb hl (by omega), Option.bind_some]
  show some ((w64 ((W b k 2).toNat : Int), ()), ()) = _
  rw [w64_of (by omega) (by omega)]
theorem raddr4 {k : Int} (h0 : 0 ≤ k) (hk : k ≤ 1000) (hb : k + 4 ≤ (b.length : Int)) : ref05_GetAddress N b k 4 = some (((4, 0, W b k 4, ()), true, ()), ()) := by
  unfold ref05_GetAddress
  rw [ref_num N (by omega) (by omega) h0 (by omega) hb hl (by omega)]; rfl
theorem raddr6 {k : Int} (h0 : 0 ≤ k) (hk : k ≤ 900) (hb : k + 16 ≤ (b.length : Int)) : ref05_GetAddress N b k 6 = some (((6, W b k 8, W b (k + 8) 8, ()), true, ()), ()) := by
  unfold ref05_GetAddress
  rw [dneg (show ¬ (6 : Int) = 4 by decide), cond_false, ref_num N (by omega) (by omega) h0 (by omega) (by omega) hl (by omega), Option.bind_some, w64_of (by omega) (by omega), ref_num N (by omega) (by omega) (by omega) (by omega) (by omega) hl (by omega)]; rfl
theorem saddr6 {k : Int} (h0 : 0 ≤ k) (hk : k ≤ 900) (hb : k + 16 ≤ (b.length : Int)) : lookup_six_see_f1 N k (b, ()) = some (((6, W b k 8, W b (k + 8) 8, ()), ()), ()) := by
  unfold lookup_six_see_f1
  rw [cnum N hN hl h0 (by omega) (by omega) (by omega) (by omega), Option.bind_some, w64_of (by omega) (by omega), cnum N hN hl (by omega) (by omega) (by omega) (by omega) (by omega)]; rfl
theorem sum_eq {n : Nat} (hn : n ≤ 1000) : ∃ v, wire_Checksum N (cut b 0 n) = some ((v, ()), ()) ∧ ref01_Checksum N (cut b 0 n) = some ((v, ()), ()) := by
  obtain ⟨v, h1, h2, _⟩ := checksum_ok N hN (b := cut b 0 n) (by simp [cut]; omega)
  exact ⟨v, h1, h2⟩
theorem four_eq (h20 : 20 ≤ b.length) : ∃ s e, lookup_four_see N () (b, ()) = some ((s, e, ()), ()) ∧ ref22_four N b = some ((s, e, ()), ()) ∧ (e = 0 → 0 ≤ s.2.2.2.2.1 ∧ s.2.2.2.2.1 ≤ 60 ∧ s.2.2.2.2.1 ≤ (b.length : Int) ∧ s.1.1.1 = 4) := by
  unfold lookup_four_see ref22_four
  have hi : inR (0 : Int) b.length = true := inR_of (by omega) (by omega)
  have hx : ((b.getD 0 0 &&& 15).toNat : Int) ≤ 15 := by
    have : (b.getD 0 0 &&& 15).toNat ≤ 15 := by rw [UInt8.toNat_and]; exact Nat.and_le_right
    omega
  have hw : w64 (((b.getD 0 0 &&& 15).toNat : Int) * 4) = ((b.getD 0 0 &&& 15).toNat : Int) * 4 := w64_of (by omega) (by omega)
  simp only [hi, cond_true, dneg (show ¬ (b.length : Int) < 20 by omega), cond_false, hw]
  obtain ⟨m, hm, hm2⟩ : ∃ m : Nat, ((b.getD 0 0 &&& 15).toNat : Int) * 4 = (m : Int) ∧ m ≤ 60 := ⟨(b.getD 0 0 &&& 15).toNat * 4, by omega, by omega⟩
  rw [hm]
  by_cases h1 : (m : Int) < 20
  · rw [dpos h1]; exact ⟨zsn, 2, rfl, rfl, fun h => by omega⟩
  by_cases h2 : (b.length : Int) < (m : Int)
  · rw [dneg h1, dpos h2]; exact ⟨zsn, 2, rfl, rfl, fun h => by omega⟩
  rw [dneg h1, dneg h2, cint N hN hl (by omega) (by omega) (by omega) (by omega) (by omega), rword N hN hl (by omega) (by omega) (by omega)]
  simp only [cond_false, Option.bind_some]
  unfold lookup_four_see_1 ref22_four_1
  by_cases h3 : ((W b 2 2).toNat : Int) = (b.length : Int)
  · rw [dpos h3]
    obtain ⟨v, c1, c2⟩ := sum_eq N hN hl (n := m) (by omega)
    simp only [Bool.not_true, cond_false, dpos (show (0 : Int) ≤ 0 by omega), dpos (show (0 : Int) ≤ (m : Int) by omega), dpos (show (m : Int) ≤ (b.length : Int) by omega), Bool.and_self, cond_true, Int.toNat_natCast, c1, c2, Option.bind_some]
    by_cases h4 : v = 0
    · rw [dpos h4]
      have h9 : (W b 9 1).toNat = (b.getD 9 0).toNat := W_one (k := 9) (by omega)
      simp only [Bool.not_true, cond_false, cint N hN hl (show (0 : Int) ≤ 6 by omega) (by omega) (show (1 : Int) ≤ 2 by omega) (by omega) (by omega), cint N hN hl (show (0 : Int) ≤ 9 by omega) (by omega) (show (1 : Int) ≤ 1 by omega) (by omega) (by omega), rword N hN hl (show (0 : Int) ≤ 6 by omega) (by omega) (by omega),
        cnum N hN hl (show (0 : Int) ≤ 12 by omega) (by omega) (show (1 : Int) ≤ 4 by omega) (by omega) (by omega), cnum N hN hl (show (0 : Int) ≤ 16 by omega) (by omega) (show (1 : Int) ≤ 4 by omega) (by omega) (by omega), raddr4 N hN hl (show (0 : Int) ≤ 12 by omega) (by omega) (by omega), raddr4 N hN hl (show (0 : Int) ≤ 16 by omega) (by omega) (by omega), Option.bind_some, inR_of (show (0 : Int) ≤ 9 by omega) (show (9 : Int) < (b.length : Int) by omega), cond_true, h9]
      exact ⟨_, _, rfl, rfl, fun _ => ⟨by simp only; omega, by simp only; omega, by simp only; omega, rfl⟩⟩
    · rw [dneg h4]; exact ⟨zsn, 12, rfl, rfl, fun h => by omega⟩
  · rw [dneg h3]; exact ⟨zsn, 2, rfl, rfl, fun h => by omega⟩
theorem six_eq (h40 : 40 ≤ b.length) (h48 : b.getD 6 0 = 44 → 48 ≤ b.length) (t : Sn) : ∃ s e, lookup_six_see N () (b, ()) = some ((s, e, ()), ()) ∧ ref22_six_1 N b false t = some ((s, e, ()), ()) ∧ (e = 0 → 0 ≤ s.2.2.2.2.1 ∧ s.2.2.2.2.1 ≤ 60 ∧ s.2.2.2.2.1 ≤ (b.length : Int) ∧ s.1.1.1 = 6) := by
  unfold lookup_six_see ref22_six_1
  have hW := W_lt (b := b) (k := 4) (w := 2) (by omega) (by omega) (by omega) (by omega)
  rw [cint N hN hl (by omega) (by omega) (by omega) (by omega) (by omega), rword N hN hl (by omega) (by omega) (by omega)]
  simp only [cond_false, Option.bind_some]
  have hw1 : w64 (((W b 4 2).toNat : Int) + 40) = ((W b 4 2).toNat : Int) + 40 := w64_of (by omega) (by omega)
  have hw2 : w64 ((b.length : Int) - 40) = (b.length : Int) - 40 := w64_of (by omega) (by omega)
  rw [hw1, hw2]
  by_cases h1 : ((W b 4 2).toNat : Int) + 40 = (b.length : Int)
  · have h6 : (W b 6 1).toNat = (b.getD 6 0).toNat := W_one (k := 6) (by omega)
    rw [dpos h1, dpos (show ((W b 4 2).toNat : Int) = (b.length : Int) - 40 by omega)]
    simp only [Bool.not_true, cond_false, saddr6 N hN hl (show (0 : Int) ≤ 8 by omega) (by omega) (by omega), saddr6 N hN hl (show (0 : Int) ≤ 24 by omega) (by omega) (by omega), raddr6 N hN hl (show (0 : Int) ≤ 8 by omega) (by omega) (by omega), raddr6 N hN hl (show (0 : Int) ≤ 24 by omega) (by omega) (by omega), cint N hN hl (show (0 : Int) ≤ 6 by omega) (by omega) (show (1 : Int) ≤ 1 by omega) (by omega) (by omega), Option.bind_some, inR_of (show (0 : Int) ≤ 6 by omega) (show (6 : Int) < (b.length : Int) by omega), cond_true, h6]
    by_cases h2 : b.getD 6 0 = 44
    · have h48' := h48 h2
      have h40' : (W b 40 1).toNat = (b.getD 40 0).toNat := W_one (k := 40) (by omega)
      have hW2 := W_lt (b := b) (k := 42) (w := 2) (by omega) (by omega) (by omega) (by omega)
      have hd : decide (((b.getD 6 0).toNat : Int) = 44) = true := by rw [h2]; rfl
      rw [hd, dpos h2]
      simp only [cond_true, cint N hN hl (show (0 : Int) ≤ 42 by omega) (by omega) (show (1 : Int) ≤ 2 by omega) (by omega) (by omega), cint N hN hl (show (0 : Int) ≤ 40 by omega) (by omega) (show (1 : Int) ≤ 1 by omega) (by omega) (by omega), rword N hN hl (show (0 : Int) ≤ 42 by omega) (by omega) (by omega), Option.bind_some, inR_of (show (0 : Int) ≤ 40 by omega) (show (40 : Int) < (b.length : Int) by omega), h40', and1 hW2.2 hW2.1]
      have hm : (!(decide (((W b 42 2).toNat : Int) % 2 = 0))) = decide (((W b 42 2).toNat : Int) % 2 = 1) := by
        by_cases q : ((W b 42 2).toNat : Int) % 2 = 0
        · rw [dpos q, dneg (by omega)]; rfl
        · rw [dneg q, dpos (by omega)]; rfl
      rw [hm]
      exact ⟨_, _, rfl, rfl, fun _ => ⟨by simp only; omega, by simp only; omega, by simp only; omega, rfl⟩⟩
    · have hd : decide (((b.getD 6 0).toNat : Int) = 44) = false := dneg fun e => h2 (UInt8.toNat_inj.1 (by show (b.getD 6 0).toNat = 44; omega))
      rw [hd, dneg h2]
      exact ⟨_, _, rfl, rfl, fun _ => ⟨by simp only; omega, by simp only; omega, by simp only; omega, rfl⟩⟩
  · rw [dneg h1, dneg (show ¬ ((W b 4 2).toNat : Int) = (b.length : Int) - 40 by omega)]
    exact ⟨zsn, 2, rfl, rfl, fun h => by omega⟩
end
end Go.Proofs.YtofajgidjkjnpaaGreatDoor.Pl

/- Plain: what the program and the document see of any bytes is the same. -/
namespace Go.Proofs.YtofajgidjkjnpaaGreatDoor.Pl
open Go
section
variable (N : Nat) (hN : 4611686018427387904 ≤ N) {b : List UInt8} (hl : b.length ≤ 9223372036854775807)
include hN hl
theorem ports_eq {s : Sn} (h0 : 0 ≤ s.2.2.2.2.1) (h6 : s.2.2.2.2.1 ≤ 60) (hb : s.2.2.2.2.1 ≤ (b.length : Int)) (fr : Bool) (t : Sn) : ∃ a : Sn, lookup_cursor_ports N (b, ()) s = some ((), (a, ())) ∧
    ref22_See_4 N b t (s.1, s.2.1, s.2.2.1, fr, s.2.2.2.2.1, ()) = some (((a.1, a.2.1, a.2.2.1, fr, a.2.2.2.2.1, ()), 0, ()), ()) ∧ a.2.1 = s.2.1 ∧ a.2.2.1 = s.2.2.1 ∧ a.1.1 = s.1.1 ∧ a.2.2.2.2.1 = s.2.2.2.2.1 := by
  obtain ⟨⟨src, dst, pr, sp, dp, u0⟩, off, mo, fg, hd, u1⟩ := s
  simp only at h0 h6 hb
  unfold lookup_cursor_ports ref22_See_4
  have hw : w64 ((b.length : Int) - hd) = (b.length : Int) - hd := w64_of (by omega) (by omega)
  have hw2 : w64 (hd + 2) = hd + 2 := w64_of (by omega) (by omega)
  simp only [hw, hw2]
  by_cases ho : off = 0
  · subst ho
    simp only [decide_true, Bool.not_true, cond_false, cond_true]
    by_cases q4 : 4 ≤ (b.length : Int) - hd
    · have q2 : 2 ≤ (b.length : Int) - hd := by omega
      rw [dpos q4, dpos q2]
      simp only [cond_true, cint N hN hl h0 (by omega) (show (1 : Int) ≤ 2 by omega) (by omega) (show hd + 2 ≤ (b.length : Int) by omega), cint N hN hl (show 0 ≤ hd + 2 by omega) (by omega) (show (1 : Int) ≤ 2 by omega) (by omega) (show hd + 2 + 2 ≤ (b.length : Int) by omega), rword N hN hl h0 (by omega) (show hd + 2 ≤ (b.length : Int) by omega), rword N hN hl (show 0 ≤ hd + 2 by omega) (by omega) (show hd + 2 + 2 ≤ (b.length : Int) by omega), Option.bind_some]
      cases decide (pr = 6) <;> cases decide (pr = 17) <;> cases decide (pr = 1) <;> cases decide (pr = 58) <;> exact ⟨_, rfl, rfl, rfl, rfl, rfl, rfl⟩
    · rw [dneg q4]
      simp only [cond_false]
      by_cases q2 : 2 ≤ (b.length : Int) - hd
      · rw [dpos q2]
        simp only [cond_true, cint N hN hl h0 (by omega) (show (1 : Int) ≤ 2 by omega) (by omega) (show hd + 2 ≤ (b.length : Int) by omega), rword N hN hl h0 (by omega) (show hd + 2 ≤ (b.length : Int) by omega), Option.bind_some]
        cases decide (pr = 6) <;> cases decide (pr = 17) <;> cases decide (pr = 1) <;> cases decide (pr = 58) <;> exact ⟨_, rfl, rfl, rfl, rfl, rfl, rfl⟩
      · rw [dneg q2]
        cases decide (pr = 6) <;> cases decide (pr = 17) <;> cases decide (pr = 1) <;> cases decide (pr = 58) <;> exact ⟨_, rfl, rfl, rfl, rfl, rfl, rfl⟩
  · rw [dneg ho]
    cases decide (pr = 6) <;> cases decide (pr = 17) <;> cases decide (pr = 1) <;> cases decide (pr = 58) <;> exact ⟨_, rfl, rfl, rfl, rfl, rfl, rfl⟩
/-- The end of both, once the head is read. -/
theorem tail_eq {s : Sn} {e : Int} {f : Int} (t : Sn) (h : e = 0 → 0 ≤ s.2.2.2.2.1 ∧ s.2.2.2.2.1 ≤ 60 ∧ s.2.2.2.2.1 ≤ (b.length : Int) ∧ s.1.1.1 = f) : ∃ s' e', (bif (!(decide (e = 0))) then some ((zsn, e, ()), ())
      else bif (decide ((4096 : Int) < (b.length : Int))) then some ((zsn, 11, ()), ())
      else Option.bind (lookup_cursor_ports N (b, ()) s) fun y => bif y.2.1.2.2.1 then some (((y.2.1.1, y.2.1.2.1, y.2.1.2.2.1, true, y.2.1.2.2.2.2.1, ()), 0, ()), ())
        else some (((y.2.1.1, y.2.1.2.1, y.2.1.2.2.1, (!(decide (y.2.1.2.1 = (0 : Int)))), y.2.1.2.2.2.2.1, ()), 0, ()), ()) : Option lookup_See_R) = some ((s', e', ()), ()) ∧ ref22_See_1 N b e t s = some ((s', e', ()), ()) ∧ (e' = 0 → (b.length : Int) ≤ 4096 ∧ 0 ≤ s'.2.2.2.2.1 ∧ s'.2.2.2.2.1 ≤ (b.length : Int) ∧ s'.1.1.1 = f) := by
  unfold ref22_See_1
  by_cases he : e = 0
  · obtain ⟨h0, h6, hb, hf⟩ := h he
    subst he
    simp only [decide_true, Bool.not_true, cond_false, cond_true]
    unfold ref22_See_2
    by_cases h4 : (4096 : Int) < (b.length : Int)
    · rw [dpos h4]; exact ⟨zsn, 11, rfl, rfl, fun h => by omega⟩
    · rw [dneg h4]
      simp only [cond_false]
      unfold ref22_See_3
      simp only [decide_true, Bool.not_true, cond_false]
      cases hm : s.2.2.1 with
      | true =>
        obtain ⟨a, e1, e2, e3, e4, e5, e6⟩ := ports_eq N hN hl h0 h6 hb true t
        rw [e1, Option.bind_some]
        simp only [cond_true]
        rw [hm] at e2 e4
        rw [e2, e4]
        exact ⟨_, _, rfl, rfl, fun _ => ⟨by omega, by simp only [e6]; exact h0, by simp only [e6]; exact hb, by simp only [e5]; exact hf⟩⟩
      | false =>
        obtain ⟨a, e1, e2, e3, e4, e5, e6⟩ := ports_eq N hN hl h0 h6 hb (!(decide (s.2.1 = 0))) t
        rw [e1, Option.bind_some]
        simp only [cond_false]
        rw [hm] at e2 e4
        rw [e2, e4, e3]
        exact ⟨_, _, rfl, rfl, fun _ => ⟨by omega, by simp only [e6]; exact h0, by simp only [e6]; exact hb, by simp only [e5]; exact hf⟩⟩
  · rw [dneg he]
    unfold ref22_See_2 ref22_See_3
    rw [dneg he]
    exact ⟨zsn, e, rfl, rfl, fun h => absurd h he⟩
/-- What holds of what is seen. -/
def SOk (b : List UInt8) (s : Sn) : Prop := 0 < b.length ∧ (b.length : Int) ≤ 4096 ∧ 0 ≤ s.2.2.2.2.1 ∧ s.2.2.2.2.1 ≤ (b.length : Int) ∧ ((shr8 (b.getD 0 0) 4 = 4 ∧ s.1.1.1 = 4) ∨ (shr8 (b.getD 0 0) 4 = 6 ∧ s.1.1.1 = 6))
theorem see_eq : ∃ s e, lookup_See N b = some ((s, e, ()), ()) ∧ ref22_See N b = some ((s, e, ()), ()) ∧ (e = 0 → SOk b s) := by
  unfold lookup_See ref22_See
  by_cases h0 : (b.length : Int) = 0
  · rw [dpos h0]; exact ⟨_, _, rfl, rfl, fun h => by omega⟩
  have hi : inR (0 : Int) b.length = true := inR_of (by omega) (by omega)
  simp only [dneg h0, cond_false, hi, cond_true]
  by_cases h4 : shr8 (b.getD 0 0) 4 = 4
  · rw [dpos h4]
    unfold lookup_four_least
    simp only [cond_true, Option.bind_some]
    by_cases h20 : (b.length : Int) < 20
    · rw [dpos h20]
      unfold ref22_four
      rw [dpos h20]
      exact ⟨zsn, 1, rfl, rfl, fun h => by omega⟩
    · obtain ⟨s, e, e1, e2, e3⟩ := four_eq N hN hl (by omega)
      rw [dneg h20, e1, e2]
      simp only [cond_false, Option.bind_some]
      obtain ⟨s', e', t1, t2, t3⟩ := tail_eq N hN hl _ e3
      exact ⟨s', e', t1, t2, fun h => ⟨by omega, (t3 h).1, (t3 h).2.1, (t3 h).2.2.1, .inl ⟨h4, (t3 h).2.2.2⟩⟩⟩
  · by_cases h6 : shr8 (b.getD 0 0) 4 = 6
    · rw [dneg h4, dpos h6]
      simp only [cond_false, cond_true]
      unfold lookup_six_least ref22_six
      by_cases h40 : (b.length : Int) < 40
      · rw [dpos h40]
        by_cases h7 : (6 : Int) < (b.length : Int)
        · simp only [dpos h7, cond_true, inR_of (show (0 : Int) ≤ 6 by omega) h7]
          cases decide (b.getD 6 0 = 44)
          · simp only [cond_false, Option.bind_some, dpos h40, cond_true]
            exact ⟨zsn, 1, rfl, rfl, fun h => by omega⟩
          · simp only [cond_true, Option.bind_some, dpos (show (b.length : Int) < 48 by omega)]
            exact ⟨zsn, 1, rfl, rfl, fun h => by omega⟩
        · simp only [dneg h7, cond_false, Option.bind_some, dpos h40, cond_true]
          exact ⟨zsn, 1, rfl, rfl, fun h => by omega⟩
      · have h7 : (6 : Int) < (b.length : Int) := by omega
        simp only [dpos h7, cond_true, inR_of (show (0 : Int) ≤ 6 by omega) h7, dneg h40, cond_false]
        by_cases h44 : b.getD 6 0 = 44
        · rw [dpos h44]
          simp only [cond_true, Option.bind_some]
          by_cases h48 : (b.length : Int) < 48
          · rw [dpos h48]
            exact ⟨zsn, 1, rfl, rfl, fun h => by omega⟩
          · obtain ⟨s, e, e1, e2, e3⟩ := six_eq N hN hl (by omega) (fun _ => by omega) zsn
            rw [dneg h48, e1]
            have e2' : ref22_six_1 N b false ((((0 : Int), (0 : UInt64), (0 : UInt64), ()), ((0 : Int), (0 : UInt64), (0 : UInt64), ()), (0 : Int), (0 : Int), (0 : Int), ()), (0 : Int), false, false, (0 : Int), ()) = some ((s, e, ()), ()) := e2
            rw [e2']
            simp only [cond_false, Option.bind_some]
            obtain ⟨s', e', t1, t2, t3⟩ := tail_eq N hN hl _ e3
            exact ⟨s', e', t1, t2, fun h => ⟨by omega, (t3 h).1, (t3 h).2.1, (t3 h).2.2.1, .inr ⟨h6, (t3 h).2.2.2⟩⟩⟩
        · rw [dneg h44]
          obtain ⟨s, e, e1, e2, e3⟩ := six_eq N hN hl (by omega) (fun h => absurd h h44) zsn
          simp only [cond_false, Option.bind_some, dneg h40]
          have e2' : ref22_six_1 N b false ((((0 : Int), (0 : UInt64), (0 : UInt64), ()), ((0 : Int), (0 : UInt64), (0 : UInt64), ()), (0 : Int), (0 : Int), (0 : Int), ()), (0 : Int), false, false, (0 : Int), ()) = some ((s, e, ()), ()) := e2
          rw [e1, e2']
          simp only [Option.bind_some]
          obtain ⟨s', e', t1, t2, t3⟩ := tail_eq N hN hl _ e3
          exact ⟨s', e', t1, t2, fun h => ⟨by omega, (t3 h).1, (t3 h).2.1, (t3 h).2.2.1, .inr ⟨h6, (t3 h).2.2.2⟩⟩⟩
    · rw [dneg h4, dneg h6]
      exact ⟨zsn, 3, rfl, rfl, fun h => by omega⟩
end
end Go.Proofs.YtofajgidjkjnpaaGreatDoor.Pl

/- Plain: the law EspModes. -/
namespace Go.Proofs.YtofajgidjkjnpaaGreatDoor.Pl
open Go
theorem awake24 : law24_awake 18446744073709551616 = some ((true, ()), ()) := by kernel_rfl
abbrev Dc := List UInt8 × (Int × Unit)
/-- A list of choices, and where it stands. -/
def DOk (c : List UInt8 × (Int × Unit)) : Prop := 0 ≤ c.2.1 ∧ c.2.1 ≤ (c.1.length : Int) ∧ c.1.length ≤ 1000000000000000
theorem dnext_ok (N : Nat) {c : List UInt8 × (Int × Unit)} {n : Int} (h : DOk c) (hn : 0 < n) (hn2 : n ≤ 1000000) : ∃ v c', draw_Codes_Next N n c = some ((v, ()), (c', ())) ∧ 0 ≤ v ∧ v < n ∧ DOk c' := by
  obtain ⟨l, i, u⟩ := c
  obtain ⟨h1, h2, h3⟩ := h
  simp only at h1 h2 h3
  unfold draw_Codes_Next
  by_cases hlt : (l.length : Int) ≤ i
  · rw [dpos hlt]
    exact ⟨0, _, rfl, by omega, hn, h1, h2, h3⟩
  · rw [dneg hlt]
    have e1 : w64 (i + 1) = i + 1 := w64_of (by omega) (by omega)
    have e2 : w64 (i + 1 - 1) = i := by rw [w64_of (by omega) (by omega)]; omega
    simp only [cond_false, e1, e2]
    rw [inR_of h1 (by omega), cond_true]
    have hb := (l.getD i.toNat 0).toNat_lt
    generalize (l.getD i.toNat 0).toNat = b at *
    have hm : (b : Int) * n ≤ 255 * n := Int.mul_le_mul_of_nonneg_right (by omega) (by omega)
    have hm0 : 0 ≤ (b : Int) * n := Int.mul_nonneg (by omega) (by omega)
    have e3 : w64 ((w64 ((b : Int) * n)).tdiv 256) = (b : Int) * n / 256 := by
      rw [w64_of (show -9223372036854775808 ≤ (b : Int) * n by omega) (by omega), Int.tdiv_eq_ediv_of_nonneg hm0, w64_of (by omega) (by omega)]
    rw [e3]
    refine ⟨_, _, rfl, by omega, by omega, ?_, ?_, h3⟩
    · show 0 ≤ i + 1; omega
    · show i + 1 ≤ (l.length : Int); omega
theorem dnew_ok (N : Nat) (l : List UInt8) {m : Int} (h0 : 0 ≤ m) (hm : m ≤ 1000000) (hl : l.length ≤ 9223372036854775807) : ∃ c, draw_New N l m = some ((), (c, ())) ∧ DOk c := by
  unfold draw_New
  have key : ∀ q : Int, 0 ≤ q → q ≤ m → q ≤ (l.length : Int) → ∃ c, (bif decide (0 ≤ (0 : Int)) && decide ((0 : Int) ≤ q) && decide (q ≤ (l.length : Int)) && true then
    bif room (0 + (cut l 0 q.toNat).length) 1 then (some ((()), (((cut l 0 q.toNat), (0 : Int), ()), ())) : Option draw_New_R) else none else none) = some ((), (c, ())) ∧ DOk c := by
    intro q q0 q1 q2
    have hc : (cut l 0 q.toNat).length ≤ 1000000 := by simp [cut]; omega
    simp (disch := omega) only [dpos, dneg, w64_of, inR_of, room_of, tmod_of, cond_true, cond_false, Bool.and_self, Bool.and_true, Bool.true_and, Bool.and_false, Bool.false_and, Bool.not_true, Bool.not_false, Option.bind_some, List.length_cons, List.length_nil, Nat.zero_add]
    exact ⟨_, rfl, by simp, by simp, by simp only; omega⟩
  by_cases hlt : m < (l.length : Int)
  · simp only [dpos hlt, cond_true]
    exact key m h0 (by omega) (by omega)
  · simp only [dneg hlt, cond_false]
    exact key (l.length : Int) (by omega) (by omega) (by omega)
theorem dmod_ok (N : Nat) (x : Int) {n : Int} (hn : 0 < n) (hn2 : n ≤ 1000000) : ∃ v, draw_Mod N x n = some ((v, ()), ()) ∧ 0 ≤ v ∧ v < n := by
  unfold draw_Mod
  have h1 : x.tmod n < n := Int.tmod_lt_of_pos x hn
  have h2 : -n < x.tmod n := by
    rcases Int.le_total 0 x with hx | hx
    · have := Int.tmod_nonneg n hx; omega
    · have hneg := Int.neg_tmod (a := -x) (b := n)
      rw [Int.neg_neg] at hneg
      have := Int.tmod_lt_of_pos (-x) hn
      omega
  generalize x.tmod n = t at *
  by_cases ht : t < 0
  · simp (disch := omega) only [dpos, dneg, w64_of, inR_of, room_of, tmod_of, cond_true, cond_false, Bool.and_self, Bool.and_true, Bool.true_and, Bool.and_false, Bool.false_and, Bool.not_true, Bool.not_false, Option.bind_some, List.length_cons, List.length_nil, Nat.zero_add]
    exact ⟨_, rfl, by omega, by omega⟩
  · simp (disch := omega) only [dpos, dneg, w64_of, inR_of, room_of, tmod_of, cond_true, cond_false, Bool.and_self, Bool.and_true, Bool.true_and, Bool.and_false, Bool.false_and, Bool.not_true, Bool.not_false, Option.bind_some, List.length_cons, List.length_nil, Nat.zero_add]
    exact ⟨_, rfl, by omega, by omega⟩
theorem key_ok (N : Nat) {c : List UInt8 × (Int × Unit)} (hc : DOk c) : ∃ k c', law24_key N c = some ((), (c', k, ())) ∧ DOk c' ∧ k.length ≤ 40 := by
  unfold law24_key
  have key : ∀ (n : Int) (c : List UInt8 × (Int × Unit)), DOk c → 0 < n → n ≤ 40 → ∃ k c', law24_key_1 N n c = some ((), (c', k, ())) ∧ DOk c' ∧ k.length ≤ 40 := by
    intro n c hc n0 n1
    unfold law24_key_1
    obtain ⟨v1, c1, e1, a0, a1, k1⟩ := dnext_ok N hc n0 (by omega)
    obtain ⟨v2, c2, e2, b0, b1, k2⟩ := dnext_ok N (n := 256) k1 (by omega) (by omega)
    obtain ⟨v3, c3, e3, d0, d1, k3⟩ := dnext_ok N k2 n0 (by omega)
    obtain ⟨v4, c4, e4, f0, f1, k4⟩ := dnext_ok N (n := 256) k3 (by omega) (by omega)
    simp (disch := omega) only [dpos, dneg, w64_of, inR_of, room_of, tmod_of, cond_true, cond_false, Bool.and_self, Bool.and_true, Bool.true_and, Bool.and_false, Bool.false_and, Bool.not_true, Bool.not_false, Option.bind_some, List.length_cons, List.length_nil, Nat.zero_add, e1, e2, e3, e4, List.length_replicate, List.length_set]
    exact ⟨_, _, rfl, k4, by simp; omega⟩
  obtain ⟨v1, c1, e1, a0, a1, k1⟩ := dnext_ok N (n := 12) hc (by omega) (by omega)
  rw [e1, Option.bind_some]
  by_cases h : v1 = 11
  · obtain ⟨v2, c2, e2, b0, b1, k2⟩ := dnext_ok N (n := 10) k1 (by omega) (by omega)
    rw [dpos h, cond_true, e2]
    simp only [Option.bind_some]
    rw [w64_of (by omega) (by omega)]
    exact key _ _ k2 (by omega) (by omega)
  · rw [dneg h, cond_false]
    exact key _ _ k1 (by omega) (by omega)
theorem daddr_some (N : Nat) (s x : Int) (six : Bool) : ∃ a, draw_address N s x six = some ((a, ()), ()) := by cases six <;> exact ⟨_, rfl⟩
theorem dpacket_2 (N : Nat) (t : Bool) {c : Dc} (h : DOk c) (x p : Pck) : ∃ q c', draw_Codes_Packet_2 N t c x p = some ((q, ()), (c', ())) ∧ DOk c' := by cases t <;> exact ⟨_, _, rfl, h⟩
theorem dpacket_1 (N : Nat) (s : Int) (six : Bool) (to : Int) {c : Dc} (h : DOk c) (x : Pck) : ∃ q c', draw_Codes_Packet_1 N s six to c x = some ((q, ()), (c', ())) ∧ DOk c' := by
  unfold draw_Codes_Packet_1
  obtain ⟨v1, c1, e1, _, _, k1⟩ := dnext_ok N (n := 256) h (by omega) (by omega)
  obtain ⟨a1, e2⟩ := daddr_some N s v1 six
  obtain ⟨v3, c3, e3, _, _, k3⟩ := dnext_ok N (n := 256) k1 (by omega) (by omega)
  obtain ⟨a4, e4⟩ := daddr_some N to v3 six
  obtain ⟨v5, c5, e5, q5, q5', k5⟩ := dnext_ok N (n := 4) k3 (by omega) (by omega)
  obtain ⟨v6, c6, e6, _, _, k6⟩ := dnext_ok N (n := 6) k5 (by omega) (by omega)
  obtain ⟨v7, c7, e7, _, _, k7⟩ := dnext_ok N (n := 6) k6 (by omega) (by omega)
  obtain ⟨v8, c8, e8, _, _, k8⟩ := dnext_ok N (n := 4) k7 (by omega) (by omega)
  simp only [e1, e2, e3, e4, e5, e6, e7, e8, Option.bind_some]
  rw [inR_of q5 (by simp only [List.length_cons, List.length_nil]; omega), cond_true]
  generalize [(6 : Int), 17, 1, 50].getD v5.toNat 0 = y
  cases decide (v8 = 3) <;> cases decide (y = 1) <;> simp only [cond_true, cond_false] <;> exact dpacket_2 N _ k8 _ _
theorem dpacket_ok (N : Nat) (s : Int) {c : Dc} (h : DOk c) : ∃ q c', draw_Codes_Packet N s c = some ((q, ()), (c', ())) ∧ DOk c' := by
  unfold draw_Codes_Packet
  obtain ⟨v1, c1, e1, _, _, k1⟩ := dnext_ok N (n := 10) h (by omega) (by omega)
  obtain ⟨v2, c2, e2, _, _, k2⟩ := dnext_ok N (n := 8) k1 (by omega) (by omega)
  simp only [e1, e2, Option.bind_some]
  cases decide (v2 = 7) <;> exact dpacket_1 N _ _ _ k2 _

section
variable (N : Nat) (hN : 4611686018427387904 ≤ N)
include hN
/-- A packet that is built by both. -/
theorem outs {f t : Adr} {p q : Int} {d : List UInt8} (hd : d.length ≤ 1000000) (q1 q2 : Int) : ∃ e r, lookup_Build N (f, t, p, q1, q2, ()) d = some ((e, ()), (r, ())) ∧ ref22_Build N (f, t, p, q1, q2, ()) d = some ((e, ()), (r, ())) ∧ r.length ≤ 5000 := build_ok N hN (f, t, p, q1, q2, ()) (by omega)
theorem tun_eq (k : List UInt8) (f t : Adr) {b : List UInt8} (hb : b.length ≤ 100000) : ∃ e r, esp_Tunnel N k 9 5 f t b = some ((e, ()), (r, ())) ∧ ref24_Tunnel N k 9 5 f t b = some ((e, ()), (r, ())) ∧ r.length ≤ 5000 := by
  obtain ⟨s, e, e1, e2, ok⟩ := see_eq N hN (b := b) (by omega)
  unfold esp_Tunnel ref24_Tunnel
  rw [e1, e2]
  simp only [Option.bind_some]
  by_cases he : e = 0
  · obtain ⟨h0, h1, h2, h3, h4⟩ := ok he
    rw [dpos he]
    simp only [Bool.not_true, cond_false, inR_of (show (0 : Int) ≤ 0 by omega) (show (0 : Int) < (b.length : Int) by omega), cond_true]
    have hn : ∃ n : Int, esp_whole N ((shr8 (b.getD 0 0) 4).toNat : Int) = some ((n, ()), ()) ∧ (bif decide (shr8 (b.getD 0 0) 4 = 6) then ref24_Tunnel_1 N k 9 5 b 41 f t else ref24_Tunnel_1 N k 9 5 b 4 f t) = ref24_Tunnel_1 N k 9 5 b n f t := by
      unfold esp_whole
      rcases h4 with ⟨h4, _⟩ | ⟨h4, _⟩
      · rw [h4]; exact ⟨4, rfl, rfl⟩
      · rw [h4]; exact ⟨41, rfl, rfl⟩
    obtain ⟨n, n1, n2⟩ := hn
    rw [n1, n2, Option.bind_some]
    unfold esp_wrap_esp_Tunnel_f1 ref24_Tunnel_1
    rw [eseal_ok N hN, reseal_ok N hN]
    simp only [Option.bind_some]
    have hsl := eseal_len k 9 5 n b 0
    by_cases hz : (eseal k 9 5 n b 0).2 = 0
    · rw [dpos hz]
      obtain ⟨e5, r, b1, b2, b3⟩ := outs N hN (f := f) (t := t) (p := 50) (q := 0) (d := (eseal k 9 5 n b 0).1) (by omega) (-1) (-1)
      unfold esp_Tunnel_f1 esp_hidden ref24_outer
      simp only [Bool.not_true, cond_false, Option.bind_some]
      rw [b1, b2]
      exact ⟨_, _, rfl, rfl, b3⟩
    · rw [dneg hz]
      exact ⟨_, _, rfl, rfl, by simp⟩
  · rw [dneg he]
    exact ⟨_, _, rfl, rfl, by simp⟩
theorem unt_1 {b : List UInt8} (hb : b.length ≤ 100000) {n : Int} (hn : n = 4 ∨ n = 41) : ∃ e r, esp_Untunnel_1 N b n = some ((r, e, ()), ()) ∧ ref24_Untunnel_1 N n false b = some ((e, ()), (r, ())) ∧ r.length ≤ b.length := by
  obtain ⟨s, e, e1, e2, ok⟩ := see_eq N hN (b := b) (by omega)
  unfold esp_Untunnel_1 ref24_Untunnel_1
  rw [e1, e2]
  simp only [Option.bind_some, cond_false]
  by_cases he : e = 0
  · obtain ⟨h0, h1, h2, h3, h4⟩ := ok he
    rw [dpos he]
    simp only [Bool.not_true, cond_false, inR_of (show (0 : Int) ≤ 0 by omega) (show (0 : Int) < (b.length : Int) by omega), cond_true]
    unfold esp_whole
    rcases h4 with ⟨h4, h5⟩ | ⟨h4, h5⟩ <;> rw [h4, h5] <;> rcases hn with rfl | rfl
    · exact ⟨0, b, rfl, rfl, Nat.le_refl _⟩
    · exact ⟨15, [], rfl, rfl, by simp⟩
    · exact ⟨15, [], rfl, rfl, by simp⟩
    · exact ⟨0, b, rfl, rfl, Nat.le_refl _⟩
  · rw [dneg he]
    exact ⟨e, [], rfl, rfl, by simp⟩
theorem untun_eq (k : List UInt8) {b : List UInt8} (hb : b.length ≤ 100000) : ∃ e r, esp_Untunnel N k b 5 = some ((r, e, ()), ()) ∧ ref24_Untunnel N k b 5 = some ((e, ()), (r, ())) ∧ r.length ≤ b.length := by
  obtain ⟨s, e, e1, e2, ok⟩ := see_eq N hN (b := b) (by omega)
  unfold esp_Untunnel ref24_Untunnel
  rw [e1, e2]
  simp only [Option.bind_some]
  by_cases he : e = 0
  · obtain ⟨h0, h1, h2, h3, h4⟩ := ok he
    rw [dpos he]
    simp only [Bool.not_true, cond_false]
    cases s.2.2.2.1 with
    | true => exact ⟨21, [], rfl, rfl, by simp⟩
    | false =>
      simp only [cond_false]
      by_cases h50 : s.1.2.2.1 = 50
      · rw [dpos h50]
        have hc : (cut b s.2.2.2.2.1.toNat b.length).length ≤ b.length := by simp [cut]
        simp only [Bool.not_true, cond_false, dpos h2, dpos h3, dpos (Int.le_refl (b.length : Int)), Bool.and_self, cond_true]
        rw [eopen_ok N hN k 5 (by omega), reopen_ok N hN k 5 (by omega)]
        simp only [Option.bind_some]
        have hol := eopen_len k (cut b s.2.2.2.2.1.toNat b.length) 5
        generalize eopen k (cut b s.2.2.2.2.1.toNat b.length) 5 = x at hol ⊢
        by_cases hx : x.2.2 = 0
        · rw [dpos hx]
          simp only [Bool.not_true, cond_false]
          by_cases q4 : x.2.1 = 4
          · obtain ⟨e5, r, u1, u2, u3⟩ := unt_1 N hN (b := x.1) (by omega) (n := x.2.1) (.inl q4)
            rw [dpos q4]
            simp only [Bool.not_true, cond_false]
            rw [u1, u2]
            exact ⟨e5, r, rfl, rfl, by omega⟩
          · by_cases q41 : x.2.1 = 41
            · obtain ⟨e5, r, u1, u2, u3⟩ := unt_1 N hN (b := x.1) (by omega) (n := x.2.1) (.inr q41)
              rw [dneg q4, dpos q41]
              simp only [Bool.not_true, Bool.not_false, cond_false, cond_true]
              rw [u1, u2]
              exact ⟨e5, r, rfl, rfl, by omega⟩
            · rw [dneg q4, dneg q41]
              exact ⟨4, [], rfl, rfl, by simp⟩
        · rw [dneg hx]
          exact ⟨_, [], rfl, rfl, by simp⟩
      · rw [dneg h50]
        exact ⟨4, [], rfl, rfl, by simp⟩
  · rw [dneg he]
    exact ⟨e, [], rfl, rfl, by simp⟩
theorem plain_eq {b : List UInt8} (hb : b.length ≤ 100000) : ∃ s e, esp_plain N b = some ((s, e, ()), ()) ∧ ref24_whole N b = some ((s, e, ()), ()) ∧ (e = 0 → 0 ≤ s.2.2.2.2.1 ∧ s.2.2.2.2.1 ≤ (b.length : Int)) := by
  obtain ⟨s, e, e1, e2, ok⟩ := see_eq N hN (b := b) (by omega)
  unfold esp_plain ref24_whole
  rw [e1, e2]
  simp only [Option.bind_some]
  by_cases he : e = 0
  · obtain ⟨h0, h1, h2, h3, h4⟩ := ok he
    rw [dpos he]
    simp only [Bool.not_true, cond_false]
    have key : ∀ w : Int, ∃ s' e', esp_plain_1 N w zsn s = some ((s', e', ()), ()) ∧ ref24_whole_1 N w zsn s = some ((s', e', ()), ()) ∧ (e' = 0 → 0 ≤ s'.2.2.2.2.1 ∧ s'.2.2.2.2.1 ≤ (b.length : Int)) := by
      intro w
      unfold esp_plain_1 ref24_whole_1 esp_plain_2 ref24_whole_2
      cases s.2.2.2.1
      · cases decide (s.2.2.2.2.1 = w)
        · exact ⟨zsn, 21, rfl, rfl, fun h => by omega⟩
        · exact ⟨s, 0, rfl, rfl, fun _ => ⟨h2, h3⟩⟩
      · exact ⟨zsn, 21, rfl, rfl, fun h => by omega⟩
    cases decide (s.1.1.1 = 6)
    · exact key 20
    · exact key 40
  · rw [dneg he]
    exact ⟨zsn, e, rfl, rfl, fun h => absurd h he⟩
theorem trans_eq (k : List UInt8) {b : List UInt8} (hb : b.length ≤ 100000) : ∃ e r, esp_Transport N k 9 5 b = some ((e, ()), (r, ())) ∧ ref24_Transport N k 9 5 b = some ((e, ()), (r, ())) ∧ r.length ≤ 5000 := by
  obtain ⟨s, e, e1, e2, ok⟩ := plain_eq N hN hb
  unfold esp_Transport ref24_Transport
  rw [e1, e2]
  simp only [Option.bind_some]
  by_cases he : e = 0
  · obtain ⟨h2, h3⟩ := ok he
    rw [dpos he]
    simp only [Bool.not_true, cond_false, dpos h2, dpos h3, dpos (Int.le_refl (b.length : Int)), Bool.and_self, cond_true]
    unfold esp_wrap_esp_Transport_f1
    rw [eseal_ok N hN, reseal_ok N hN]
    simp only [Option.bind_some]
    have hsl := eseal_len k 9 5 s.1.2.2.1 (cut b s.2.2.2.2.1.toNat b.length) 0
    by_cases hz : (eseal k 9 5 s.1.2.2.1 (cut b s.2.2.2.2.1.toNat b.length) 0).2 = 0
    · rw [dpos hz]
      obtain ⟨e5, r, b1, b2, b3⟩ := outs N hN (f := s.1.1) (t := s.1.2.1) (p := 50) (q := 0) (d := (eseal k 9 5 s.1.2.2.1 (cut b s.2.2.2.2.1.toNat b.length) 0).1) (by omega) (-1) (-1)
      unfold esp_Transport_f1 esp_hidden ref24_outer
      simp only [Bool.not_true, cond_false, Option.bind_some]
      rw [b1, b2]
      exact ⟨_, _, rfl, rfl, b3⟩
    · rw [dneg hz]
      exact ⟨_, _, rfl, rfl, by simp⟩
  · rw [dneg he]
    exact ⟨_, _, rfl, rfl, by simp⟩
theorem untrans_eq (k : List UInt8) {b : List UInt8} (hb : b.length ≤ 100000) : ∃ e r, esp_Untransport N k b 5 = some ((e, ()), (r, ())) ∧ ref24_Untransport N k b 5 = some ((e, ()), (r, ())) ∧ r.length ≤ 5000 := by
  obtain ⟨s, e, e1, e2, ok⟩ := plain_eq N hN hb
  unfold esp_Untransport ref24_Untransport
  rw [e1, e2]
  simp only [Option.bind_some]
  by_cases he : e = 0
  · obtain ⟨h2, h3⟩ := ok he
    rw [dpos he]
    simp only [Bool.not_true, cond_false]
    by_cases h50 : s.1.2.2.1 = 50
    · rw [dpos h50]
      have hc : (cut b s.2.2.2.2.1.toNat b.length).length ≤ b.length := by simp [cut]
      simp only [Bool.not_true, cond_false, dpos h2, dpos h3, dpos (Int.le_refl (b.length : Int)), Bool.and_self, cond_true]
      rw [eopen_ok N hN k 5 (by omega), reopen_ok N hN k 5 (by omega)]
      simp only [Option.bind_some]
      have hol := eopen_len k (cut b s.2.2.2.2.1.toNat b.length) 5
      generalize eopen k (cut b s.2.2.2.2.1.toNat b.length) 5 = x at hol ⊢
      by_cases hx : x.2.2 = 0
      · rw [dpos hx]
        obtain ⟨e5, r, b1, b2, b3⟩ := outs N hN (f := s.1.1) (t := s.1.2.1) (p := x.2.1) (q := 0) (d := x.1) (by omega) (-1) (-1)
        unfold esp_hidden
        simp only [Bool.not_true, cond_false, Option.bind_some]
        rw [b1, b2]
        exact ⟨_, _, rfl, rfl, b3⟩
      · rw [dneg hx]
        exact ⟨_, [], rfl, rfl, by simp⟩
    · rw [dneg h50]
      exact ⟨4, [], rfl, rfl, by simp⟩
  · rw [dneg he]
    exact ⟨_, _, rfl, rfl, by simp⟩
theorem modes_3 (k : List UInt8) (f t : Pck) {L : List (List UInt8)} {n : Int} (hn : (L.length : Int) = n) (h6 : L.length ≤ 1000) (hL : ∀ b ∈ L, b.length ≤ 100000) : law24_EspModes_3 N n 0 k f t L = some ((true, ()), ()) := by
  unfold law24_EspModes_3
  refine (loopK_run (fun i : Nat => ((k, n, (i : Int), ()), (f, t, L, ()))) (n := L.length) ?_ (e := ((), ())) ?_ (by omega)).trans rfl
  · intro i hi
    show law24_EspModes_s4 N k n (i : Int) f t L = _
    unfold law24_EspModes_s4
    have hg : L.getD i [] ∈ L := by rw [List.getD, List.getElem?_eq_getElem hi]; exact List.getElem_mem hi
    have hb := hL _ hg
    rw [dpos (show (i : Int) < n by omega), inR_of (by omega) (by omega), w64_of (by omega) (by omega)]
    simp only [cond_true, Int.toNat_natCast]
    generalize L.getD i [] = b at hb ⊢
    obtain ⟨a1, r1, p1, p2, p3⟩ := tun_eq N hN k f.1 t.1 hb
    obtain ⟨a2, r2, p4, p5, p6⟩ := untun_eq N hN k hb
    obtain ⟨a3, r3, p7, p8, p9⟩ := trans_eq N hN k hb
    obtain ⟨a4, r4, q1, q2, q3⟩ := untrans_eq N hN k hb
    rw [p1, p2, p4, p5, p7, p8, q1, q2]
    simp only [Option.bind_some, decide_true, Bool.not_true, cond_false]
    rw [same24 N hN r1 (by omega), same24 N hN r2 (by omega), same24 N hN r3 (by omega), same24 N hN r4 (by omega)]
    rfl
  · show law24_EspModes_s4 N k n (L.length : Int) f t L = _
    unfold law24_EspModes_s4
    rw [dneg (by omega)]; rfl
theorem lpacket_ok {c : Dc} (hc : DOk c) {d : List UInt8} (hd : d.length ≤ 1000) : ∃ c' r, law24_packet N d c = some ((), (c', r, ())) ∧ r.length ≤ 5000 := by
  unfold law24_packet
  obtain ⟨v, c1, e1, v0, v1, k1⟩ := dnext_ok N (n := 2) hc (by omega) (by omega)
  obtain ⟨p, c2, e2, k2⟩ := dpacket_ok N v k1
  rw [e1, Option.bind_some]
  simp only []
  rw [e2, Option.bind_some, room_of (by omega), cond_true, room_of (by simp only [List.length_cons, List.length_nil]; omega), cond_true]
  obtain ⟨e5, r, _, b2, b3⟩ := build_ok N hN p (d := d ++ [1, 2, 3, 4]) (by rw [List.length_append]; simp only [List.length_cons, List.length_nil]; omega)
  have b2' : ref22_Build N p (d ++ ([(1 : UInt8), (2 : UInt8), (3 : UInt8), (4 : UInt8)] : List UInt8)) = _ := b2
  rw [b2']
  exact ⟨_, _, rfl, b3⟩
end
theorem modes (codes : List UInt8) (hc : codes.length ≤ 9223372036854775807) (raw : List UInt8) (hr : raw.length ≤ 9223372036854775807) (d : List UInt8) (hd : d.length ≤ 9223372036854775807)
    (at_ : Int) (_n0 : -9223372036854775808 ≤ at_) (_n1 : at_ ≤ 9223372036854775807) (by_ : UInt8) : law24_EspModes 18446744073709551616 codes raw d at_ by_ = some ((true, ()), ()) := by
  unfold law24_EspModes
  rw [awake24]
  generalize hN0 : 18446744073709551616 = N
  have hN : 4611686018427387904 ≤ N := by omega
  clear hN0
  simp only [Option.bind_some, Bool.not_true, cond_false]
  unfold law24_EspModes_1
  by_cases h1 : (200 : Int) < (raw.length : Int)
  · rw [dpos h1]; rfl
  by_cases h2 : (100 : Int) < (d.length : Int)
  · rw [dneg h1, dpos h2]; rfl
  rw [dneg h1, dneg h2]
  simp only [cond_false]
  obtain ⟨c0, e0, k0⟩ := dnew_ok N codes (m := 60) (by omega) (by omega) hc
  obtain ⟨k, c1, e1, k1, hk⟩ := key_ok N k0
  obtain ⟨p, c2, e2, k2⟩ := dpacket_ok N 0 k1
  obtain ⟨q, c3, e3, k3⟩ := dpacket_ok N 1 k2
  obtain ⟨c4, w, e4, hw⟩ := lpacket_ok N hN k3 (d := d) (by omega)
  obtain ⟨a1, r1, _, p2, p3⟩ := tun_eq N hN k p.1 q.1 (b := w) (by omega)
  obtain ⟨a2, r2, _, p5, p6⟩ := trans_eq N hN k (b := w) (by omega)
  have e0' : draw_New N codes (60 : Int) = _ := e0
  have e2' : draw_Codes_Packet N (0 : Int) c1 = _ := e2
  have e3' : draw_Codes_Packet N (1 : Int) c2 = _ := e3
  rw [e0', Option.bind_some, e1, Option.bind_some, e2', Option.bind_some, e3', Option.bind_some, e4, Option.bind_some]
  simp only []
  rw [p2, Option.bind_some, p5, Option.bind_some, room_of (by omega), cond_true]
  have key : ∀ odd : List UInt8, odd.length ≤ 100000 → law24_EspModes_2 N raw k p q w r1 r2 odd = some ((true, ()), ()) := by
    intro odd ho
    unfold law24_EspModes_2
    refine modes_3 N hN k p q rfl (by simp) (fun x hx => ?_)
    simp only [List.mem_cons, List.not_mem_nil, or_false] at hx
    rcases hx with rfl | rfl | rfl | rfl | rfl <;> omega
  by_cases h3 : (0 : Int) < (w.length : Int)
  · obtain ⟨v, e5, v0, v1⟩ := dmod_ok N at_ (n := (w.length : Int)) h3 (by omega)
    rw [dpos h3, cond_true, e5, Option.bind_some]
    simp only []
    rw [inR_of v0 v1]
    exact key _ (by rw [List.length_set]; omega)
  · rw [dneg h3, cond_false]
    exact key _ (by omega)
end Go.Proofs.YtofajgidjkjnpaaGreatDoor.Pl
