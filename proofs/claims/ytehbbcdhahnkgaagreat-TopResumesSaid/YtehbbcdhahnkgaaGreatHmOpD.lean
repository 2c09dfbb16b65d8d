/- The heap machine and the machine: lengths, cuts, conversions. -/
import Derived.Test.YtehbbcdhahnkgaaGreatHmOpC
import Derived.Deep.AppendSrc
set_option linter.unusedVariables false
set_option linter.unusedSimpArgs false
namespace Go.Proofs.YtehbbcdhahnkgaaGreat.Hm
open Go
section
variable {P : Program} {Γ : Ctx} {ρ : En} {N : Nat} {S : Sl} {H : Hp} {m : Mp} {a : Act} {w : World} {o : Oper} {U : Nat → Prop} {fresh : Nat} {r : List Wr × Nat} {Q : Exit → Act → World → Prop}

theorem nat_i64 {n : Nat} (h : n ≤ 9223372036854775807) : inKind .i64 (n : Int) = true := by
  rw [inKind_iff, show IntKind.i64.min = -9223372036854775808 from rfl, show IntKind.i64.max = 9223372036854775807 from rfl]; omega
theorem op_len (hT : TysOk P Γ.tys) (h : Rep P ρ N S H m a w) (hU : ∀ id, m id ≠ none → U id) (hd : ∀ d, o.dst = some d → d < N) {c : Call} {x : Operand} (ho : o.op = .call c) (hc : c.callee = .builtin .len) (ha : c.args = #[x]) {t : TypeId} (hty : c.argTypes.toList = [t])
    (hr : (tyR Γ t fun ti => opdR x (evLenT fresh o ti)).run S H = some r) : o.wp P a w (After P ρ N U fresh S H m r) Q := by
  replace hr := tyR_ok hT hr
  obtain ⟨ti, hti, hr⟩ := hr
  have hsh := hti.shape
  replace hr := opdR_ok h hr
  obtain ⟨v, h1, hr⟩ := hr
  have hat : c.argTypes = #[t] := by apply Array.toList_inj.1; rw [hty]
  have key : ∀ n : Nat, (Builtin.len_ #[t] o.type #[a.eval x]).run P w = .ok (goInt n) w → (execOp a.eval o).run P w = .ok (.value (goInt n)) w := by
    intro n hn
    simp only [execOp, ho, resolve, hc, ha, hat, Sem.run_bind, Sem.run_pure, Result.andThen_ok, invoke, builtin, List.map_toArray, List.map_cons, List.map_nil, hn]
  unfold evLenT at hr
  split at hr
  · replace hr := run_bif hr
    obtain ⟨hb, hr⟩ := hr
    rw [is_sl hb] at hsh
    simp only [TSh] at hsh
    simp only [den, Option.some.injEq] at h1
    exact fin_pure h hU hd (key 0 (by rw [← h1]; simp [Builtin.len_, run_underlying hsh])) (den_int' (x := .lit 0) (nat_i64 (n := 0) (by omega))) hr
  · replace hr := run_bif hr
    obtain ⟨hb, hr⟩ := hr
    rw [is_sl hb] at hsh
    simp only [TSh] at hsh
    simp only [den] at h1
    split at h1 <;> (try cases h1)
    simp only [Option.some.injEq] at h1
    exact fin_pure h hU hd (key 0 (by rw [← h1]; simp [Builtin.len_, run_underlying hsh])) (den_int' (x := .lit 0) (nat_i64 (n := 0) (by omega))) hr
  · rename_i id off n c2 op
    replace hr := run_bif hr
    obtain ⟨hb, hr⟩ := hr
    simp only [Bool.and_eq_true] at hb
    rw [is_sl hb.1] at hsh
    simp only [TSh] at hsh
    obtain ⟨q, e1, e2⟩ := den_sl h1
    exact fin_pure h hU hd (key n (by rw [e2]; simp [Builtin.len_, run_underlying hsh])) (den_int' (x := .lit _) (nat_i64 (Nat.le_of_ble_eq_true hb.2))) hr
  · rename_i bs
    replace hr := run_bif hr
    obtain ⟨hb, hr⟩ := hr
    simp only [Bool.and_eq_true] at hb
    rw [is_str hb.1] at hsh
    simp only [TSh] at hsh
    simp only [den, Option.some.injEq] at h1
    have hsz : (⟨bs.toArray⟩ : ByteArray).size = List.length bs := by show bs.toArray.size = _; simp
    exact fin_pure h hU hd (key bs.length (by rw [← h1]; simp [Builtin.len_, run_underlying hsh, hsz])) (den_int' (x := .lit _) (nat_i64 (Nat.le_of_ble_eq_true hb.2))) hr
  · split at hr
    · rename_i n u hty
      replace hr := run_bif hr
      obtain ⟨hb, hr⟩ := hr
      rw [hty] at hsh
      simp only [TSh] at hsh
      exact fin_pure h hU hd (key n (by simp [Builtin.len_, run_underlying hsh.1])) (den_int' (x := .lit _) (nat_i64 (Nat.le_of_ble_eq_true hb))) hr
    · exact run_fail hr
  · exact run_fail hr
theorem op_min (hR : RngOk ρ Γ.R) (h : Rep P ρ N S H m a w) (hU : ∀ id, m id ≠ none → U id) (hd : ∀ d, o.dst = some d → d < N) {c : Call} {x y : Operand} (ho : o.op = .call c) (hc : c.callee = .builtin .min) (ha : c.args = #[x, y])
    (hr : (opdR x fun v => opdR y (evMin Γ fresh o v)).run S H = some r) : o.wp P a w (After P ρ N U fresh S H m r) Q := by
  replace hr := opdR_ok h hr
  obtain ⟨v, h1, hr⟩ := hr
  replace hr := opdR_ok h hr
  obtain ⟨u, h2, hr⟩ := hr
  unfold evMin at hr
  split at hr
  · rename_i k p k' q
    replace hr := run_bif hr
    obtain ⟨hb, hr⟩ := hr
    have := same_kind hb
    subst this
    replace hr := run_optR hr
    obtain ⟨t, ht, hr⟩ := hr
    have hlt := ivLt_ok hR ht
    obtain ⟨e1, b1⟩ := den_int h1
    obtain ⟨e2, b2⟩ := den_int h2
    refine fin_pure h hU hd (v := .int k (if q.ev ρ < p.ev ρ then q.ev ρ else p.ev ρ)) ?_ ?_ hr
    · simp [execOp, ho, resolve, hc, ha, invoke, builtin, Builtin.min_, e1, e2, Builtin.min2]
    · rw [hlt]
      by_cases hq : q.ev ρ < p.ev ρ
      · simp only [hq, decide_true, cond_true, if_true]; exact den_int' b2
      · simp only [hq, decide_false, cond_false, if_false]; exact den_int' b1
  · exact run_fail hr
theorem op_max (hR : RngOk ρ Γ.R) (h : Rep P ρ N S H m a w) (hU : ∀ id, m id ≠ none → U id) (hd : ∀ d, o.dst = some d → d < N) {c : Call} {x y : Operand} (ho : o.op = .call c) (hc : c.callee = .builtin .max) (ha : c.args = #[x, y])
    (hr : (opdR x fun v => opdR y (evMax Γ fresh o v)).run S H = some r) : o.wp P a w (After P ρ N U fresh S H m r) Q := by
  replace hr := opdR_ok h hr
  obtain ⟨v, h1, hr⟩ := hr
  replace hr := opdR_ok h hr
  obtain ⟨u, h2, hr⟩ := hr
  unfold evMax at hr
  split at hr
  · rename_i k p k' q
    replace hr := run_bif hr
    obtain ⟨hb, hr⟩ := hr
    have := same_kind hb
    subst this
    replace hr := run_optR hr
    obtain ⟨t, ht, hr⟩ := hr
    have hlt := ivLt_ok hR ht
    obtain ⟨e1, b1⟩ := den_int h1
    obtain ⟨e2, b2⟩ := den_int h2
    refine fin_pure h hU hd (v := .int k (if p.ev ρ < q.ev ρ then q.ev ρ else p.ev ρ)) ?_ ?_ hr
    · simp [execOp, ho, resolve, hc, ha, invoke, builtin, Builtin.max_, e1, e2, Builtin.max2]
    · rw [hlt]
      by_cases hq : p.ev ρ < q.ev ρ
      · simp only [hq, decide_true, cond_true, if_true]; exact den_int' b2
      · simp only [hq, decide_false, cond_false, if_false]; exact den_int' b1
  · exact run_fail hr
def OptR (ρ : En) (m : Mp) (a : Act) : Option Operand → Option HV → Prop
  | none, none => True
  | some x, some v => den ρ m v = some (a.eval x)
  | _, _ => False
theorem optOpd_ok (h : Rep P ρ N S H m a w) {x : Option Operand} {k : Option HV → RT} (hr : (optOpd x k).run S H = some r) : ∃ v : Option HV, OptR ρ m a x v ∧ (k v).run S H = some r := by
  cases x with
  | none => exact ⟨none, trivial, hr⟩
  | some x =>
    simp only [optOpd] at hr
    replace hr := opdR_ok h hr
    obtain ⟨v, h1, hr⟩ := hr
    exact ⟨some v, h1, hr⟩
theorem litO_ok {x : Option Operand} {v : Option HV} {n : Option Nat} (hv : OptR ρ m a x v) (h : litO v = some n) : ∃ κ, x.map a.eval = n.map fun i : Nat => Value.int κ (i : Int) := by
  cases x <;> cases v <;> simp only [OptR] at hv
  · simp only [litO] at h; cases h; exact ⟨.i64, rfl⟩
  · rename_i x v
    simp only [litO] at h
    split at h
    · rename_i k hk
      cases h
      obtain ⟨κ, e⟩ := litN_ok hk hv
      exact ⟨κ, by simp [e]⟩
    · cases h
theorem bounds_ok {b : Bool} {n c : Nat} {lo hi mx : Option Nat} {κ1 κ2 κ3 : IntKind} (h1 : lo.getD 0 ≤ hi.getD n) (h2 : hi.getD n ≤ mx.getD c) (h3 : mx.getD c ≤ c) (h4 : (hi.isSome || !mx.isSome) = true) :
    (Instr.sliceBounds b n c (lo.map (fun i : Nat => .int κ1 (i : Int))) (hi.map (fun i : Nat => .int κ2 (i : Int))) (mx.map (fun i : Nat => .int κ3 (i : Int)))).run P w = .ok (lo.getD 0, hi.getD n, mx.getD c) w := by
  have key : ∀ (κ : IntKind) (v : Nat) (y : Nat) (code : BoundsCode), v ≤ y → (Instr.sliceBound (.int κ (v : Int)) y code).run P w = .ok v w := by
    intro κ v y code q
    simp only [Instr.sliceBound, asIntOf, Sem.run_bind, Sem.run_pure, Result.andThen_ok, if_pos (⟨by omega, by omega⟩ : (0 : Int) ≤ (v : Int) ∧ (v : Int) ≤ (y : Int)), Int.toNat_natCast]
  cases lo <;> cases hi <;> cases mx <;> simp only [Option.getD_some, Option.getD_none, Option.isSome_none, Option.isSome_some, Bool.not_true, Bool.not_false, Bool.or_false, Bool.or_true, Bool.false_eq_true] at h1 h2 h3 h4 <;>
    simp only [Instr.sliceBounds, Option.map_some, Option.map_none, Sem.run_bind, Sem.run_pure, Result.andThen_ok, Option.getD_some, Option.getD_none]
  case none.some.none => rw [key _ _ _ _ (by omega)]; rfl
  case none.some.some => rw [key _ _ _ _ (by omega)]; simp only [Result.andThen_ok]; rw [key _ _ _ _ (by omega)]; rfl
  case some.none.none => rw [key _ _ _ _ (by omega)]; rfl
  case some.some.none => rw [key _ _ _ _ (by omega)]; simp only [Result.andThen_ok]; rw [key _ _ _ _ (by omega)]; rfl
  case some.some.some => rw [key _ _ _ _ (by omega)]; simp only [Result.andThen_ok]; rw [key _ _ _ _ (by omega)]; simp only [Result.andThen_ok]; rw [key _ _ _ _ (by omega)]; rfl
theorem den_es {id o1 o2 : Nat} {x : Value} (h : den ρ m (.es id o1 o2) = some x) : ∃ q, m id = some q ∧ x = .slice (some ⟨q.1, bif Nat.beq q.2 0 then o1 else o2, none⟩) 0 q.2 := by
  simp only [den] at h
  split at h
  · rename_i q hq; cases h; exact ⟨q, hq, rfl⟩
  · cases h
theorem op_slice (hT : TysOk P Γ.tys) (h : Rep P ρ N S H m a w) (hU : ∀ id, m id ≠ none → U id) (hd : ∀ d, o.dst = some d → d < N) {t : TypeId} {x : Operand} {lo hi mx : Option Operand} (ho : o.op = .slice t x lo hi mx)
    (hr : (tyR Γ t fun ti => opdR x fun v => optOpd lo fun lo => optOpd hi fun hi => optOpd mx fun mx => evSlice Γ fresh o ti v (litO lo) (litO hi) (litO mx)).run S H = some r) : o.wp P a w (After P ρ N U fresh S H m r) Q := by
  replace hr := tyR_ok hT hr
  obtain ⟨ti, hti, hr⟩ := hr
  have hsh := hti.shape
  replace hr := opdR_ok h hr
  obtain ⟨v, h1, hr⟩ := hr
  replace hr := optOpd_ok h hr
  obtain ⟨lo1, g1, hr⟩ := hr
  replace hr := optOpd_ok h hr
  obtain ⟨hi1, g2, hr⟩ := hr
  replace hr := optOpd_ok h hr
  obtain ⟨mx1, g3, hr⟩ := hr
  unfold evSlice at hr
  split at hr
  · rename_i lo2 hi2 mx2 l1 l2 l3
    replace hr := run_bif hr
    obtain ⟨hss, hr⟩ := hr
    obtain ⟨κ1, e1⟩ := litO_ok g1 l1
    obtain ⟨κ2, e2⟩ := litO_ok g2 l2
    obtain ⟨κ3, e3⟩ := litO_ok g3 l3
    unfold sliceR at hr
    split at hr
    · replace hr := tyR_ok hT hr
      obtain ⟨te, hte, hr⟩ := hr
      replace hr := run_bif hr
      obtain ⟨hb, hr⟩ := hr
      simp only [Bool.and_eq_true] at hb
      obtain ⟨⟨⟨⟨b1, b2⟩, b3⟩, b4⟩, b5⟩ := hb
      have b2 := Nat.eq_of_beq_eq_true b2
      have b3 := Nat.eq_of_beq_eq_true b3
      have b4 := Nat.eq_of_beq_eq_true b4
      rw [is_sl b1] at hsh
      simp only [TSh] at hsh
      simp only [den, Option.some.injEq] at h1
      have hrun := bounds_ok (P := P) (w := w) (b := true) (n := 0) (c := 0) (lo := lo2) (hi := hi2) (mx := mx2) (κ1 := κ1) (κ2 := κ2) (κ3 := κ3) (by omega) (by omega) (by omega) (by simpa using b5)
      rw [b2, b3, b4] at hrun
      refine fin_pure h hU hd (v := .slice none 0 0) ?_ rfl hr
      simp only [execOp, ho, Instr.sliceAt, Sem.run_bind, run_underlying hsh, Result.andThen_ok, ← h1, Instr.slice, e1, e2, e3, hrun, run_sizeOf hte.eok, Sem.run_pure]
      rfl
    · rename_i id off n c op
      replace hr := tyR_ok hT hr
      obtain ⟨te, hte, hr⟩ := hr
      obtain ⟨q, w1, w2⟩ := den_sl h1
      split at hr
      · rename_i mm
        replace hr := run_bif hr
        obtain ⟨hb, hr⟩ := hr
        simp only [Bool.and_eq_true] at hb
        obtain ⟨⟨⟨⟨b1, b2⟩, b3⟩, b4⟩, b5⟩ := hb
        have b2 := Nat.le_of_ble_eq_true b2
        have b3 := Nat.le_of_ble_eq_true b3
        have b4 := Nat.le_of_ble_eq_true b4
        rw [is_sl b1] at hsh
        simp only [TSh] at hsh
        have hrun := bounds_ok (P := P) (w := w) (b := true) (n := n) (c := c + bif op then q.2 else 0) (lo := lo2) (hi := hi2) (mx := some mm) (κ1 := κ1) (κ2 := κ2) (κ3 := κ3) b2 b3 (by show mm ≤ _; omega) (by rw [b5]; rfl)
        refine fin_pure h hU hd (v := .slice (some (if mm = lo2.getD 0 then ⟨q.1, off, none⟩ else (⟨q.1, off, none⟩ : Addr).add (lo2.getD 0 * te.ty.size))) (hi2.getD n - lo2.getD 0) (mm - lo2.getD 0)) ?_ ?_ hr
        · simp only [execOp, ho, Instr.sliceAt, Sem.run_bind, run_underlying hsh, Result.andThen_ok, w2, Instr.slice, e1, e2, e3, hrun, run_sizeOf hte.eok, Sem.run_pure, Option.getD_some]
          congr 4
          split <;> rfl
        · simp only [den, w1, cond_false, Nat.add_zero, Addr.add_mid]
          congr 3
          cases hbq : Nat.beq mm (lo2.getD 0)
          · rw [if_neg (fun e => by rw [e] at hbq; simp at hbq)]; rfl
          · rw [if_pos (Nat.eq_of_beq_eq_true hbq)]; rfl
      · replace hr := run_bif hr
        obtain ⟨hb, hr⟩ := hr
        simp only [Bool.and_eq_true] at hb
        obtain ⟨⟨b1, b2⟩, b3⟩ := hb
        have b2 := Nat.le_of_ble_eq_true b2
        have b3 := Nat.le_of_ble_eq_true b3
        rw [is_sl b1] at hsh
        simp only [TSh] at hsh
        obtain ⟨s, hs⟩ : ∃ s, s = bif op then q.2 else 0 := ⟨_, rfl⟩
        have hrun := bounds_ok (P := P) (w := w) (b := true) (n := n) (c := c + s) (lo := lo2) (hi := hi2) (mx := none) (κ1 := κ1) (κ2 := κ2) (κ3 := κ3) b2 (by show _ ≤ c + s; omega) (Nat.le_refl _) (by simp)
        rw [← hs] at w2
        have hex : (execOp a.eval o).run P w = .ok (.value (.slice (some (if c + s = lo2.getD 0 then ⟨q.1, off, none⟩ else (⟨q.1, off, none⟩ : Addr).add (lo2.getD 0 * te.ty.size))) (hi2.getD n - lo2.getD 0) (c + s - lo2.getD 0))) w := by
          simp only [execOp, ho, Instr.sliceAt, Sem.run_bind, run_underlying hsh, Result.andThen_ok, w2, Instr.slice, e1, e2, e3, hrun, run_sizeOf hte.eok, Sem.run_pure, Option.getD_none]
          congr 4
          split <;> rfl
        cases hcase : (!op || Nat.beq (lo2.getD 0) 0 || Nat.blt (lo2.getD 0) c)
        · rw [hcase] at hr
          simp only [cond_false] at hr
          simp only [Bool.or_eq_false_iff, Bool.not_eq_false'] at hcase
          obtain ⟨⟨c1, c2⟩, c3⟩ := hcase
          subst c1
          simp only [cond_true] at hs
          have c3' : ¬ lo2.getD 0 < c := fun hl => by
            have : Nat.blt (lo2.getD 0) c = true := Nat.ble_eq_true_of_le hl
            rw [c3] at this; cases this
          refine fin_pure h hU hd hex ?_ hr
          have ec : c = lo2.getD 0 := by omega
          have eh : hi2.getD n = lo2.getD 0 := by omega
          simp only [den, w1, Addr.add_mid]
          rw [eh, Nat.sub_self, ← ec, Nat.add_sub_cancel_left, hs]
          congr 3
          cases hbq : Nat.beq q.2 0
          · rw [if_neg (fun e => by have : q.2 = 0 := by omega
                                    rw [this] at hbq; simp at hbq)]; rfl
          · have := Nat.eq_of_beq_eq_true hbq
            rw [if_pos (by omega)]; rfl
        · rw [hcase] at hr
          simp only [cond_true] at hr
          refine fin_pure h hU hd hex ?_ hr
          simp only [den, w1, Addr.add_mid, ← hs]
          have e4 : c - lo2.getD 0 + s = c + s - lo2.getD 0 := by omega
          rw [e4]
          congr 3
          cases op with
          | false =>
            simp only [cond_false] at hs
            subst hs
            simp only [Bool.not_false, Bool.true_and, Nat.add_zero]
            cases hbq : Nat.beq c (lo2.getD 0)
            · rw [if_neg (fun e => by rw [e] at hbq; simp at hbq)]; rfl
            · rw [if_pos (Nat.eq_of_beq_eq_true hbq)]; rfl
          | true =>
            simp only [Bool.not_true, Bool.false_and, cond_false]
            simp only [Bool.not_true, Bool.false_or, Bool.or_eq_true] at hcase
            rcases hcase with hz | hz
            · have hz := Nat.eq_of_beq_eq_true hz
              rw [hz]
              split <;> simp
            · have hz : lo2.getD 0 < c := Nat.le_of_ble_eq_true hz
              rw [if_neg (by omega)]
    · rename_i bs
      split at hr
      · replace hr := run_bif hr
        obtain ⟨hb, hr⟩ := hr
        simp only [Bool.and_eq_true] at hb
        obtain ⟨⟨b1, b2⟩, b3⟩ := hb
        have b2 := Nat.le_of_ble_eq_true b2
        have b3 := Nat.le_of_ble_eq_true b3
        rw [is_str b1] at hsh
        simp only [TSh] at hsh
        simp only [den, Option.some.injEq] at h1
        have hsz : (⟨bs.toArray⟩ : ByteArray).size = bs.length := by show bs.toArray.size = _; simp
        have hex : (⟨bs.toArray⟩ : ByteArray).extract (lo2.getD 0) (hi2.getD bs.length) = ⟨((bs.take (hi2.getD bs.length)).drop (lo2.getD 0)).toArray⟩ := by
          apply ByteArray.ext
          rw [ByteArray.data_extract]
          apply Array.toList_inj.1
          simp only [Array.toList_extract, List.extract_eq_take_drop, List.take_drop]
          congr 2
          omega
        have hrun := bounds_ok (P := P) (w := w) (b := false) (n := bs.length) (c := bs.length) (lo := lo2) (hi := hi2) (mx := none) (κ1 := κ1) (κ2 := κ2) (κ3 := κ3) b2 b3 (Nat.le_refl _) (by simp)
        refine fin_pure h hU hd (v := .string ⟨((bs.take (hi2.getD bs.length)).drop (lo2.getD 0)).toArray⟩) ?_ rfl hr
        have z3 : mx.map a.eval = none := e3
        simp only [execOp, ho, Instr.sliceAt, Sem.run_bind, run_underlying hsh, Result.andThen_ok, ← h1, Instr.slice, e1, e2, z3, Option.isSome_none, Bool.false_eq_true, if_false, hsz]
        have hrun' : (Instr.sliceBounds false bs.length bs.length (lo2.map (fun i : Nat => .int κ1 (i : Int))) (hi2.map (fun i : Nat => .int κ2 (i : Int))) none).run P w = .ok (lo2.getD 0, hi2.getD bs.length, bs.length) w := hrun
        simp only [hrun', Result.andThen_ok, Sem.run_pure, hex]
      · exact run_fail hr
    · exact run_fail hr
  · exact run_fail hr
end
end Go.Proofs.YtehbbcdhahnkgaaGreat.Hm
