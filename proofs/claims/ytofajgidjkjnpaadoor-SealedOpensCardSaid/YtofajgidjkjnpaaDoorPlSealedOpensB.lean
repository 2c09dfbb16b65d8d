/- The ghost machine: an evaluator of the program's text over plain data, and its soundness. -/
import Derived.Test.YtofajgidjkjnpaaDoorPlSealedOpensA
import Derived.Test.YtofajgidjkjnpaaDoorFntSealedOpensB
import Derived.KernelRfl
set_option linter.unusedVariables false
set_option linter.unusedSimpArgs false
/- Plain: a message in parts, by the reference. -/
namespace Go.Proofs.YtofajgidjkjnpaaDoor.Pl
open Go
noncomputable section
def smid (i total : Nat) : List UInt8 := be (iu64 ((i : Int) + 1)) 2 ++ be (iu64 (total : Int)) 2
theorem smid_len (i total : Nat) : (smid i total).length = 4 := by simp [smid, be_len]
def stotal (len size : Nat) : Nat := max 1 ((len + size - 1) / size)
def swr (h : Hd) (first : Int) (inner key : List UInt8) (iv : UInt64) (size total i : Nat) : List UInt8 × Int :=
  swrite h 53 (if i = 0 then first else 0) (smid i total) (cut inner (i * size) (min inner.length ((i + 1) * size))) key (iv + iu64 (i : Int))
def ssplit (h : Hd) (first : Int) (inner key : List UInt8) (iv : UInt64) (size : Int) : List (List UInt8) × Int :=
  if ¬ scheck h key first = 0 then ([], scheck h key first) else if size < 1 ∨ 4096 < size then ([], 5) else if 16 < stotal inner.length size.toNat then ([], 10) else
    match firstAt (fun i => !(decide ((swr h first inner key iv size.toNat (stotal inner.length size.toNat) i).2 = 0))) 0 (stotal inner.length size.toNat) with
    | some i => ([], (swr h first inner key iv size.toNat (stotal inner.length size.toNat) i).2)
    | none => ((List.range (stotal inner.length size.toNat)).map fun i => (swr h first inner key iv size.toNat (stotal inner.length size.toNat) i).1, 0)
theorem piece_le {len size i : Nat} (hs : 1 ≤ size) (hi : i < stotal len size) : i * size ≤ min len ((i + 1) * size) := by
  have h1 : i * size ≤ (i + 1) * size := Nat.mul_le_mul_right _ (by omega)
  have h2 : i * size ≤ len := by
    cases i with
    | zero => simp
    | succ j =>
      unfold stotal at hi
      have h3 : j + 2 ≤ (len + size - 1) / size := by omega
      have h4 : (j + 2) * size ≤ (len + size - 1) / size * size := Nat.mul_le_mul_right _ h3
      have h5 := Nat.div_mul_le_self (len + size - 1) size
      have h6 : (j + 2) * size = (j + 1) * size + size := by rw [show j + 2 = (j + 1) + 1 by omega, Nat.succ_mul]
      omega
  omega
section
variable (N : Nat) (hN : 4611686018427387904 ≤ N)
include hN
theorem rsplit_ok (h : Hd) (first : Int) {inner : List UInt8} (key : List UInt8) (iv : UInt64) (size : Int) (hi : inner.length ≤ 100000) :
    ref17_Split N h first inner key iv size = some (((ssplit h first inner key iv size).2, ()), ((ssplit h first inner key iv size).1, ())) := by
  unfold ref17_Split ssplit
  rw [begin_ok]
  simp only [Option.bind_some]
  by_cases h1 : scheck h key first = 0
  · rw [if_neg (not_not_intro h1), dpos h1]
    simp only [Bool.not_true, cond_false]
    unfold ref17_Split_1
    by_cases h2 : size < 1
    · rw [if_pos (.inl h2), dpos h2]; rfl
    by_cases h3 : 4096 < size
    · rw [if_pos (.inr h3), dneg h2, dpos h3]; rfl
    rw [if_neg (by omega), dneg h2, dneg h3, dneg (show ¬ size = 0 by omega)]
    simp only [cond_false, Bool.not_false, cond_true]
    obtain ⟨z, rfl⟩ := Int.eq_ofNat_of_zero_le (show 0 ≤ size by omega)
    have ed : w64 ((w64 ((w64 ((inner.length : Int) + (z : Int))) - 1)).tdiv (z : Int)) = (((inner.length + z - 1) / z : Nat) : Int) := by
      rw [w64_of (x := (inner.length : Int) + (z : Int)) (by omega) (by omega), w64_of (x := (inner.length : Int) + (z : Int) - 1) (by omega) (by omega), show (inner.length : Int) + (z : Int) - 1 = ((inner.length + z - 1 : Nat) : Int) by omega, Int.tdiv_eq_ediv_of_nonneg (by omega), show ((inner.length + z - 1 : Nat) : Int) / (z : Int) = (((inner.length + z - 1) / z : Nat) : Int) from rfl]
      have hq := Nat.div_le_self (inner.length + z - 1) z
      generalize (inner.length + z - 1) / z = q at hq ⊢
      exact w64_of (by omega) (by omega)
    have et : (bif decide ((1 : Int) < (((inner.length + z - 1) / z : Nat) : Int)) then (((inner.length + z - 1) / z : Nat) : Int) else 1) = ((stotal inner.length z : Nat) : Int) := by
      unfold stotal
      by_cases h4 : (1 : Int) < (((inner.length + z - 1) / z : Nat) : Int)
      · rw [dpos h4, cond_true]; omega
      · rw [dneg h4, cond_false]; omega
    rw [ed, et, Int.toNat_natCast]
    have ht1 : 1 ≤ stotal inner.length z := by unfold stotal; omega
    by_cases h5 : 16 < stotal inner.length z
    · rw [if_pos h5, dpos (by omega)]; rfl
    rw [if_neg h5, dneg (by omega), cond_false]
    have hp := fun i => piece_le (len := inner.length) (size := z) (i := i) (by omega)
    generalize stotal inner.length z = t at *
    unfold ref17_Split_2
    have hk := scheck_len h1
    have step : ∀ i : Nat, i < t → ref17_Split_s3 N first inner key iv (z : Int) (t : Int) (i : Int) h ((List.range i).map fun i => (swr h first inner key iv z t i).1) =
        bif (!(decide ((swr h first inner key iv z t i).2 = 0))) then some (.rt (((swr h first inner key iv z t i).2, ()), ([], ()))) else
          some (.go ((first, inner, key, iv, (z : Int), (t : Int), ((i + 1 : Nat) : Int), ()), (h, ((List.range (i + 1)).map fun i => (swr h first inner key iv z t i).1), ()))) := by
      intro i hlt
      have hq := hp i hlt
      have hm1 : i * z ≤ 16 * 4096 := Nat.mul_le_mul (by omega) (by omega)
      have hm2 : (i + 1) * z ≤ 16 * 4096 := Nat.mul_le_mul (by omega) (by omega)
      have e1 : w64 ((i : Int) + 1) = (i : Int) + 1 := w64_of (by omega) (by omega)
      have e2 : w64 ((i : Int) * (z : Int)) = ((i * z : Nat) : Int) := by rw [← Int.natCast_mul]; exact w64_of (by omega) (by omega)
      have e3 : w64 (((i : Int) + 1) * (z : Int)) = (((i + 1) * z : Nat) : Int) := by
        rw [show ((i : Int) + 1) * (z : Int) = (((i + 1) * z : Nat) : Int) by rw [Int.natCast_mul]; rfl]
        exact w64_of (by omega) (by omega)
      have e4 : (bif decide ((((i + 1) * z : Nat) : Int) < (inner.length : Int)) then (((i + 1) * z : Nat) : Int) else (inner.length : Int)) = ((min inner.length ((i + 1) * z) : Nat) : Int) := by
        by_cases hc : (((i + 1) * z : Nat) : Int) < (inner.length : Int)
        · rw [dpos hc, cond_true]; omega
        · rw [dneg hc, cond_false]; omega
      have lm := smid_len i t
      have lc : (cut inner (i * z) (min inner.length ((i + 1) * z))).length ≤ inner.length := by simp [cut]; omega
      have lo : (((List.range i).map fun i => (swr h first inner key iv z t i).1).length) = i := by simp
      have eo : ((List.range (i + 1)).map fun i => (swr h first inner key iv z t i).1) = ((List.range i).map fun i => (swr h first inner key iv z t i).1) ++ [(swr h first inner key iv z t i).1] := by rw [List.range_succ, List.map_append]; rfl
      rw [eo]
      have ew : swr h first inner key iv z t i = swrite h 53 (if i = 0 then first else 0) (smid i t) (cut inner (i * z) (min inner.length ((i + 1) * z))) key (iv + iu64 (i : Int)) := rfl
      rw [ew]
      generalize ((List.range i).map fun i => (swr h first inner key iv z t i).1) = out at *
      unfold ref17_Split_s3
      rw [dpos (show (i : Int) < (t : Int) by omega), cond_true]
      have em : ref01_Put N [] (iu64 ((i : Int) + 1)) 2 = some ((), (be (iu64 ((i : Int) + 1)) 2, ())) := by
        rw [ref_put N (by omega) (by omega) (by simp) (by omega)]; rfl
      have em2 : ref01_Put N (be (iu64 ((i : Int) + 1)) 2) (iu64 (t : Int)) 2 = some ((), (smid i t, ())) := by
        rw [ref_put N (by omega) (by omega) (by simp [be_len]) (by omega)]; rfl
      simp only [e1, e2, e3, e4, em, em2, Option.bind_some, Int.toNat_natCast]
      rw [dpos (show (0 : Int) ≤ ((i * z : Nat) : Int) by omega), dpos (show ((i * z : Nat) : Int) ≤ ((min inner.length ((i + 1) * z) : Nat) : Int) by omega), dpos (show ((min inner.length ((i + 1) * z) : Nat) : Int) ≤ (inner.length : Int) by omega)]
      simp only [Bool.and_self, cond_true]
      have er : room (out.length + 1) 24 = true := room_of (by omega)
      by_cases h0 : i = 0
      · rw [if_pos h0, dpos (show (i : Int) = 0 by omega), cond_true, rwrite_ok N hN h 53 first _ (by omega) (by omega) hk]
        simp only [Option.bind_some]
        rw [show ([(swrite h 53 first (smid i t) (cut inner (i * z) (min inner.length ((i + 1) * z))) key (iv + iu64 (i : Int))).1] : List (List UInt8)).length = 1 from rfl, er, cond_true]
        rfl
      · rw [if_neg h0, dneg (show ¬ (i : Int) = 0 by omega), cond_false, rwrite_ok N hN h 53 0 _ (by omega) (by omega) hk]
        simp only [Option.bind_some]
        rw [show ([(swrite h 53 0 (smid i t) (cut inner (i * z) (min inner.length ((i + 1) * z))) key (iv + iu64 (i : Int))).1] : List (List UInt8)).length = 1 from rfl, er, cond_true]
        rfl
    refine (loopK_find (fun i : Nat => ((first, inner, key, iv, (z : Int), (t : Int), (i : Int), ()), (h, ((List.range i).map fun i => (swr h first inner key iv z t i).1), ()))) (fun i => !(decide ((swr h first inner key iv z t i).2 = 0))) (fun i => (((swr h first inner key iv z t i).2, ()), ([], ()))) (n := t) (e := ((), ((List.range t).map fun i => (swr h first inner key iv z t i).1, ()))) ?_ ?_ ?_ (by omega)).trans ?_
    · intro i hlt hq
      show ref17_Split_s3 N _ _ _ _ _ _ _ _ _ = _
      rw [step i hlt, hq]; rfl
    · intro i hlt hq
      show ref17_Split_s3 N _ _ _ _ _ _ _ _ _ = _
      rw [step i hlt, hq]; rfl
    · show ref17_Split_s3 N _ _ _ _ _ _ _ _ _ = _
      unfold ref17_Split_s3
      rw [dneg (show ¬ (t : Int) < (t : Int) by omega)]; rfl
    · cases firstAt (fun i => !(decide ((swr h first inner key iv z t i).2 = 0))) 0 t <;> rfl
  · rw [if_pos h1, dneg h1]; rfl
end
theorem swr_len (h : Hd) (first : Int) (inner key : List UInt8) (iv : UInt64) (size total i : Nat) : (swr h first inner key iv size total i).1.length ≤ 61 + inner.length := by
  unfold swr
  refine Nat.le_trans swrite_len ?_
  rw [smid_len]
  have : (cut inner (i * size) (min inner.length ((i + 1) * size))).length ≤ inner.length := by simp [cut]; omega
  omega
theorem ssplit_len (h : Hd) (first : Int) (inner key : List UInt8) (iv : UInt64) (size : Int) : (ssplit h first inner key iv size).1.length ≤ 16 ∧ ∀ x ∈ (ssplit h first inner key iv size).1, x.length ≤ 61 + inner.length := by
  unfold ssplit
  split
  · exact ⟨by simp, fun x hx => by cases hx⟩
  split
  · exact ⟨by simp, fun x hx => by cases hx⟩
  split
  · exact ⟨by simp, fun x hx => by cases hx⟩
  · rename_i h1 h2 h3
    split
    · exact ⟨by simp, fun x hx => by cases hx⟩
    · refine ⟨by simp; omega, fun x hx => ?_⟩
      obtain ⟨i, _, rfl⟩ := List.mem_map.1 hx
      exact swr_len ..
end
end Go.Proofs.YtofajgidjkjnpaaDoor.Pl

/- Plain: the law SealedOpens. -/
namespace Go.Proofs.YtofajgidjkjnpaaDoor.Pl
open Go
theorem awake17 : law17_awake 18446744073709551616 = some ((true, ()), ()) := by kernel_rfl
theorem change_ok (N : Nat) {c : List UInt8 × (Int × Unit)} {b : List UInt8} (hc : COk c) (hb : b.length ≤ 1000) : ∃ c' out, make_Codes_Change N b c = some ((out, ()), (c', ())) ∧ out.length ≤ b.length + 1 ∧ COk c' := by
  unfold make_Codes_Change
  obtain ⟨v, c1, e1, v0, v1, k1⟩ := next_ok N (n := 5) hc (by omega)
  simp (disch := omega) only [dpos, dneg, w64_of, inR_of, room_of, tmod_of, cond_true, cond_false, Bool.and_self, Bool.and_true, Bool.true_and, Bool.and_false, Bool.false_and, Bool.not_true, Bool.not_false, Option.bind_some, List.length_cons, List.length_nil, Nat.zero_add, e1]
  by_cases h0 : v = 0
  · obtain ⟨w, c2, e2, w0, w1, k2⟩ := next_ok N (n := 256) k1 (by omega)
    simp (disch := omega) only [dpos, dneg, w64_of, inR_of, room_of, tmod_of, cond_true, cond_false, Bool.and_self, Bool.and_true, Bool.true_and, Bool.and_false, Bool.false_and, Bool.not_true, Bool.not_false, Option.bind_some, List.length_cons, List.length_nil, Nat.zero_add, e2]
    exact ⟨_, _, rfl, by simp, k2⟩
  · by_cases h1 : v = 1
    · obtain ⟨w, c2, e2, w0, w1, k2⟩ := next_ok N (n := 9) k1 (by omega)
      have hm : (b.length : Int) * w ≤ (b.length : Int) * 8 := Int.mul_le_mul_of_nonneg_left (by omega) (by omega)
      have hm0 : 0 ≤ (b.length : Int) * w := Int.mul_nonneg (by omega) w0
      generalize hp : (b.length : Int) * w = p at hm hm0
      have hd : p.tdiv 9 = p / 9 := Int.tdiv_eq_ediv_of_nonneg hm0
      simp (disch := omega) only [dpos, dneg, w64_of, inR_of, room_of, tmod_of, cond_true, cond_false, Bool.and_self, Bool.and_true, Bool.true_and, Bool.and_false, Bool.false_and, Bool.not_true, Bool.not_false, Option.bind_some, List.length_cons, List.length_nil, Nat.zero_add, e2, hp, hd]
      exact ⟨_, _, rfl, by simp [cut]; omega, k2⟩
    · by_cases hl : (0 : Int) < (b.length : Int)
      · obtain ⟨w, c2, e2, w0, w1, k2⟩ := next_ok N (n := 256) k1 (by omega)
        obtain ⟨u, c3, e3, u0, u1, k3⟩ := next_ok N (n := 256) k2 (by omega)
        obtain ⟨x, c4, e4, x0, x1, k4⟩ := next_ok N (n := 255) k3 (by omega)
        have hor : 0 ≤ or64 (shlI w 8) u := by
          obtain ⟨w', rfl⟩ := Int.eq_ofNat_of_zero_le w0
          obtain ⟨u', rfl⟩ := Int.eq_ofNat_of_zero_le u0
          have hw : w' < 256 := by omega
          have hu : u' < 256 := by omega
          have q1 : shlI (w' : Int) 8 = ((w' * 256 : Nat) : Int) := by
            show w64 ((w' : Int) * 256) = _
            rw [w64_of (by omega) (by omega)]; omega
          have q2 : (BitVec.ofInt 64 ((w' * 256 : Nat) : Int) ||| BitVec.ofInt 64 (u' : Int)).toNat < 2 ^ 16 := by
            rw [BitVec.toNat_or, BitVec.ofInt_natCast, BitVec.ofInt_natCast, BitVec.toNat_ofNat, BitVec.toNat_ofNat]
            apply Nat.or_lt_two_pow <;> omega
          rw [q1]
          unfold or64
          rw [w64_of (by omega) (by omega)]
          omega
        have hmod : (or64 (shlI w 8) u).tmod (b.length : Int) = or64 (shlI w 8) u % (b.length : Int) := Int.tmod_eq_emod_of_nonneg hor
        have hm0 := Int.emod_nonneg (or64 (shlI w 8) u) (show (b.length : Int) ≠ 0 by omega)
        have hm1 := Int.emod_lt_of_pos (or64 (shlI w 8) u) hl
        have hr : inR ((or64 (shlI w 8) u).tmod (b.length : Int)) b.length = true := by rw [hmod]; exact inR_of hm0 hm1
        simp (disch := omega) only [dpos, dneg, w64_of, inR_of, room_of, tmod_of, cond_true, cond_false, Bool.and_self, Bool.and_true, Bool.true_and, Bool.and_false, Bool.false_and, Bool.not_true, Bool.not_false, Option.bind_some, List.length_cons, List.length_nil, Nat.zero_add, e2, e3, hr, e4]
        exact ⟨_, _, rfl, by simp, k4⟩
      · simp (disch := omega) only [dpos, dneg, w64_of, inR_of, room_of, tmod_of, cond_true, cond_false, Bool.and_self, Bool.and_true, Bool.true_and, Bool.and_false, Bool.false_and, Bool.not_true, Bool.not_false, Option.bind_some, List.length_cons, List.length_nil, Nat.zero_add]
        exact ⟨_, _, rfl, by omega, k1⟩
theorem dqL_refl {α : Type} {f : α → α → Bool} (h : ∀ x, f x x = true) : ∀ l : List α, dqL f l l = true
  | [] => rfl
  | x :: l => by simp only [dqL, h x, dqL_refl h l, Bool.and_self]
theorem dq_refl : ∀ (t : Ty) (x : t.den), t.flat = true → dq t x x = true := by
  intro t
  induction t with
  | sl t ih => intro x h; simp [Ty.flat] at h
  | arr n t ih => intro x h; exact dqL_refl (fun y => ih y (by simpa [Ty.flat] using h)) x
  | pair a b iha ihb =>
    intro x h
    simp only [Ty.flat, Bool.and_eq_true] at h
    simp only [dq, iha _ h.1, ihb _ h.2, Bool.and_self]
  | unit => intro x _; rfl
  | _ => intro x _; simp only [dq, decide_true]
theorem sopen_len (b key : List UInt8) : (sopen b key).2.2.1.length ≤ b.length := by
  unfold sopen
  have h1 : (sopn b key 32).1.length ≤ b.length := by
    unfold sopn
    exact Nat.le_trans (aopen_len ..) (by simp)
  have h2 : (supad (sopn b key 32).1).1.length ≤ (sopn b key 32).1.length := by
    unfold supad
    split
    · simp
    · simp; omega
  split
  · simp
  split
  · simp
  split
  · simp
  · show (supad (sopn b key 32).1).1.length ≤ b.length; omega
theorem spart_len (b key : List UInt8) : (spart b key).2.1.2.2.2.1.length ≤ b.length := by
  unfold spart
  have h1 : (sopn b key 36).1.length ≤ b.length := by
    unfold sopn
    exact Nat.le_trans (aopen_len ..) (by simp)
  have h2 : (supad (sopn b key 36).1).1.length ≤ (sopn b key 36).1.length := by
    unfold supad
    split
    · simp
    · simp; omega
  split
  · simp [fnil]
  split
  · simp [fnil]
  split
  · simp [fnil]
  split
  · simp [fnil]
  split
  · simp [fnil]
  · show (supad (sopn b key 36).1).1.length ≤ b.length; omega
section
variable (N : Nat) (hN : 4611686018427387904 ≤ N)
include hN
theorem same_ok (a : Fr) (hl : a.2.2.2.1.length < 4611686018427387904) : ref17_Same N [a] [a] = some ((true, ()), ()) := by
  unfold ref17_Same ref17_Same_1
  obtain ⟨M, rfl⟩ : ∃ M, N = M + 2 := ⟨N - 2, by omega⟩
  have hM : 4611686018427387904 ≤ M + 2 := hN
  have e1 : ref17_Same_s2 (M + 2) [a] [a] 0 = some (.go (([a], [a], 1, ()), ())) := by
    unfold ref17_Same_s2
    have hg : ([a] : List Fr).getD (0 : Int).toNat (0, 0, 0, [], ()) = a := rfl
    rw [show decide ((0 : Int) < (([a] : List Fr).length : Int)) = true from rfl, show inR (0 : Int) ([a] : List Fr).length = true from rfl]
    simp only [cond_true, hg, decide_true, Bool.not_true, cond_false]
    rw [equal_ok hl hl (by omega)]
    simp only [Option.bind_some, decide_true, Bool.not_true, cond_false]
    rw [w64_of (by omega) (by omega)]; rfl
  have e2 : ref17_Same_s2 (M + 2) [a] [a] 1 = some (.br ((), ())) := rfl
  rw [show decide ((([a] : List Fr).length : Int) = (([a] : List Fr).length : Int)) = true from decide_eq_true rfl]
  simp only [Bool.not_true, cond_false]
  rw [show M + 2 = (M + 1) + 1 from rfl, loopK_succ]
  show Option.bind (ref17_Same_s2 (M + 2) [a] [a] 0) _ = _
  rw [e1]
  show loopK (M + 1) _ _ (([a], [a], 1, ()), ()) = _
  rw [loopK_succ]
  show Option.bind (ref17_Same_s2 (M + 2) [a] [a] 1) _ = _
  rw [e2]; rfl
theorem padded_ok17 (h : Hd) {inner key : List UInt8} (iv : UInt64) (pad : UInt8) (hi : inner.length < 80) (hk : key.length = 36) : ∃ x, law17_padded N h inner key iv (pad.toNat : Int) = some ((), (x, ())) ∧ x.length ≤ 300 := by
  unfold law17_padded
  have hp := pad.toNat_lt
  have ht : ((pad.toNat : Int)).tmod 40 = ((pad.toNat % 40 : Nat) : Int) := by rw [Int.tmod_eq_emod_of_nonneg (by omega)]; omega
  rw [room_of (by omega), cond_true]
  simp only [ht]
  have hm : pad.toNat % 40 < 40 := Nat.mod_lt _ (by omega)
  generalize pad.toNat % 40 = m at *
  rw [dpos (show (0 : Int) ≤ (m : Int) by omega), cond_true, Int.toNat_natCast, room_of (by simp; omega), cond_true]
  have lp : (inner ++ List.replicate m (0 : UInt8)).length = inner.length + m := by simp
  generalize inner ++ List.replicate m (0 : UInt8) = p at *
  rw [room_of (by simp; omega), cond_true]
  have lq : (p ++ [iu8 (pad.toNat : Int)]).length = inner.length + m + 1 := by rw [List.length_append, lp]; rfl
  generalize p ++ [iu8 (pad.toNat : Int)] = q at *
  have ew : w64 (w64 ((40 : Int) + (q.length : Int)) + 16) = ((q.length + 56 : Nat) : Int) := by simp (disch := omega) only [w64_of]; omega
  rw [ew]
  show ∃ x, Option.bind (ref02_Build N (hset h 46) _) _ = _ ∧ _
  rw [rhbuild_ok N (by omega)]
  simp only [Option.bind_some]
  by_cases h2 : (hbuild (hset h 46) ((q.length + 56 : Nat) : Int)).2 = 0
  · have lh : (hbuild (hset h 46) ((q.length + 56 : Nat) : Int)).1.length ≤ 28 := by
      unfold hbuild
      split
      · simp
      · split
        · simp
        · simp [hbytes_len]
    rw [dpos h2]
    generalize (hbuild (hset h 46) ((q.length + 56 : Nat) : Int)).1 = hb at *
    simp only [Bool.not_true, cond_false]
    have l2 : (hb ++ [(41 : UInt8), 0]).length = hb.length + 2 := by simp
    rw [room_of (by simp; omega), cond_true, ref_put N (by omega) (by omega) (by omega) (by omega)]
    simp only [Option.bind_some]
    have l3 : (hb ++ [(41 : UInt8), 0] ++ be (iu64 (w64 (((q.length + 56 : Nat) : Int) - 28))) (2 : Int).toNat).length = hb.length + 4 := by rw [List.length_append, l2, be_len]; rfl
    generalize hb ++ [(41 : UInt8), 0] ++ be (iu64 (w64 (((q.length + 56 : Nat) : Int) - 28))) (2 : Int).toNat = d at *
    have c1 : cut key 0 32 = key.take 32 := by simp [cut]
    have c2 : cut key 32 key.length = key.drop 32 := by simp [cut]
    have l5 : (key.drop 32).length = 4 := by simp; omega
    rw [dpos (show (0 : Int) ≤ 32 by omega), dpos (show (32 : Int) ≤ (key.length : Int) by omega), dpos (show (key.length : Int) ≤ (key.length : Int) by omega), dpos (show (0 : Int) ≤ 0 by omega)]
    simp only [Bool.and_self, cond_true]
    rw [c1, c2, room_of (by omega), cond_true, ref_put N (by omega) (by omega) (by omega) (by omega)]
    simp only [Option.bind_some]
    have l6 : (key.drop 32 ++ be iv (8 : Int).toNat).length = 12 := by rw [List.length_append, l5, be_len]; rfl
    rw [rseal_ok N hN (by omega) (by omega) (by simp; omega) l6]
    simp only [Option.bind_some]
    rw [ref_put N (by omega) (by omega) (by omega) (by omega)]
    simp only [Option.bind_some]
    have l7 : (cx (key.take 32) 1 (key.drop 32 ++ be iv (8 : Int).toNat) q ++ atag (key.take 32) (key.drop 32 ++ be iv (8 : Int).toNat) d (cx (key.take 32) 1 (key.drop 32 ++ be iv (8 : Int).toNat) q)).length = q.length + 16 := by rw [List.length_append, cx_len, atag_len]
    have l8 : (d ++ be iv (8 : Int).toNat).length = hb.length + 12 := by rw [List.length_append, l3, be_len]; rfl
    generalize cx (key.take 32) 1 (key.drop 32 ++ be iv (8 : Int).toNat) q ++ atag (key.take 32) (key.drop 32 ++ be iv (8 : Int).toNat) d (cx (key.take 32) 1 (key.drop 32 ++ be iv (8 : Int).toNat) q) = s at *
    rw [room_of (by omega)]
    exact ⟨_, rfl, by rw [List.length_append]; omega⟩
  · rw [dneg h2]; exact ⟨_, rfl, by simp⟩
omit hN in
theorem numbered_ok {L : List (List UInt8)} (n t : Int) (hL : ∀ x ∈ L, x.length ≤ 200) : ∃ x, law17_numbered N L n t = some ((), (x, ())) ∧ x.length ≤ 200 := by
  unfold law17_numbered law17_numbered_1
  cases L with
  | nil => exact ⟨_, rfl, by simp⟩
  | cons y L =>
    have hy := hL y List.mem_cons_self
    have hg : (y :: L).getD 0 [] = y := rfl
    have hlen : (((y :: L).length : Nat) : Int) = (L.length : Int) + 1 := by simp
    rw [dneg (show ¬ (((y :: L).length : Nat) : Int) = 0 by omega), inR_of (by omega) (by omega), hg]
    simp only [cond_true, cond_false]
    by_cases h36 : (y.length : Int) < 36
    · rw [dpos h36]; exact ⟨_, rfl, by simp⟩
    · rw [dneg h36, room_of (by omega), inR_of (by omega) (by omega), inR_of (by omega) (by rw [List.length_set]; omega)]
      exact ⟨_, rfl, by rw [List.length_set, List.length_set]; omega⟩
theorem opens_4 (k x : List UInt8) (hk : k.length = 36) (hx : x.length ≤ 140737488351232) {all : List (List UInt8)} (ha : ∀ y ∈ all, y.length ≤ 140737488351232) (hal : all.length ≤ 1000) :
    law17_SealedOpens_4 N k x (all.length : Int) 0 all = some ((true, ()), ()) := by
  unfold law17_SealedOpens_4
  refine (loopK_run (fun i : Nat => ((k, x, (all.length : Int), (i : Int), ()), (all, ()))) (n := all.length) ?_ (e := ((k, x, ()), ())) ?_ (by omega)).trans ?_
  · intro i hi
    show law17_SealedOpens_s5 N k x (all.length : Int) (i : Int) all = _
    unfold law17_SealedOpens_s5
    have hy : (all.getD i []).length ≤ 140737488351232 := by
      rw [List.getD_eq_getElem?_getD, List.getElem?_eq_getElem hi]
      exact ha _ (List.getElem_mem _)
    rw [dpos (show (i : Int) < (all.length : Int) by omega), inR_of (by omega) (by omega)]
    simp only [cond_true, Int.toNat_natCast]
    generalize all.getD i [] = y at *
    rw [sopen_ok N hN k hy, rsopen_ok N hN k hy, spart_ok N hN k hy, rspart_ok N hN k hy]
    simp only [Option.bind_some, decide_true, Bool.not_true, cond_false]
    have l1 := sopen_len y k
    have l2 := spart_len y k
    rw [dq_refl _ _ rfl, dq_refl _ _ rfl]
    simp only [Bool.not_true, cond_false]
    rw [equal_ok (by omega) (by omega) (by omega)]
    simp only [Option.bind_some, decide_true, Bool.not_true, cond_false]
    rw [same_ok N hN _ (by omega)]
    simp only [Option.bind_some, Bool.not_true, cond_false]
    rw [w64_of (by omega) (by omega)]
    rfl
  · show law17_SealedOpens_s5 N k x (all.length : Int) (all.length : Int) all = _
    unfold law17_SealedOpens_s5
    rw [dneg (show ¬ (all.length : Int) < (all.length : Int) by omega)]; rfl
  · show law17_SealedOpens_6 N k x = _
    unfold law17_SealedOpens_6
    have lc : (cut k 1 k.length).length = 35 := by simp [cut]; omega
    rw [dpos (show (0 : Int) ≤ 1 by omega), dpos (show (1 : Int) ≤ (k.length : Int) by omega), dpos (show (k.length : Int) ≤ (k.length : Int) by omega)]
    simp only [Bool.and_self, cond_true]
    rw [sopen_ok N hN _ hx]
    simp only [Option.bind_some]
    have : sopen x (cut k 1 k.length) = (hnil, 0, [], 13) := by
      have hs : sread x (cut k 1 k.length) 46 = (hnil, 0, [], 13) := by unfold sread; rw [if_pos (by omega)]
      have hp : sparse x (cut k 1 k.length) 46 25 = (hnil, 0, [], 13) := by unfold sparse; rw [hs, if_neg (fun h => by cases h.1)]
      unfold sopen; rw [hp, if_pos (by decide)]
    rw [this]; rfl
theorem opens_1 (k x : List UInt8) (hk : k.length = 36) (hx : x.length ≤ 140737488351232) {L : List (List UInt8)} (hL : ∀ y ∈ L, y.length ≤ 200) (h16 : L.length ≤ 16) {c : List UInt8 × (Int × Unit)} (hc : COk c) {all0 : List (List UInt8)} (ha : ∀ y ∈ all0, y.length ≤ 140737488351232) (h5 : all0.length = 5) :
    law17_SealedOpens_1 N k x (L.length : Int) 0 c all0 L = some ((true, ()), ()) := by
  unfold law17_SealedOpens_1
  have := loopK_of (N := N) (step := fun y => law17_SealedOpens_s2 N y.1.1 y.1.2.1 y.1.2.2.1 y.1.2.2.2.1 y.2.1 y.2.2.1 y.2.2.2.1) (J := fun (e : ((List UInt8 × List UInt8 × Unit) × ((List (List UInt8)) × Unit))) => law17_SealedOpens_3 N e.1.1 e.1.2.1 e.2.1)
    (I := fun y => ∃ (i : Nat) (d : List UInt8 × (Int × Unit)) (all : List (List UInt8)), y = ((k, x, (L.length : Int), (i : Int), ()), (d, all, L, ())) ∧ i ≤ L.length ∧ COk d ∧ (∀ y ∈ all, y.length ≤ 140737488351232) ∧ all.length = 5 + 2 * i) (μ := fun y => (16 - y.1.2.2.2.1).toNat + 1) (T := fun r => r = ((true, ()), ())) ?_
    (x := ((k, x, (L.length : Int), 0, ()), (c, all0, L, ()))) ⟨0, c, all0, rfl, by omega, hc, ha, by omega⟩ (by simp only; omega)
  · obtain ⟨r, h1, h2⟩ := this
    rw [← h2]; exact h1
  · rintro _ ⟨i, d, all, rfl, hi, hd, hall, hlen⟩
    show ∃ o, law17_SealedOpens_s2 N k x (L.length : Int) (i : Int) d all L = some o ∧ _
    unfold law17_SealedOpens_s2
    by_cases hlt : i < L.length
    · have hy : (L.getD i []).length ≤ 200 := by
        rw [List.getD_eq_getElem?_getD, List.getElem?_eq_getElem hlt]
        exact hL _ (List.getElem_mem _)
      rw [dpos (show (i : Int) < (L.length : Int) by omega), inR_of (by omega) (by omega)]
      simp only [cond_true, Int.toNat_natCast]
      generalize L.getD i [] = y at *
      obtain ⟨c', out, e1, l1, k1⟩ := change_ok N (b := y) hd (by omega)
      rw [e1]
      simp only [Option.bind_some]
      rw [room_of (by simp; omega), cond_true, w64_of (by omega) (by omega)]
      refine ⟨_, rfl, ⟨i + 1, c', all ++ [y, out], rfl, by omega, k1, ?_, by simp; omega⟩, ?_⟩
      · intro z hz
        rcases List.mem_append.1 hz with hz | hz
        · exact hall z hz
        · simp only [List.mem_cons, List.not_mem_nil, or_false] at hz
          rcases hz with rfl | rfl <;> omega
      · show (16 - ((i : Int) + 1)).toNat + 1 < (16 - (i : Int)).toNat + 1
        omega
    · rw [dneg (show ¬ (i : Int) < (L.length : Int) by omega)]
      refine ⟨_, rfl, _, ?_, rfl⟩
      show law17_SealedOpens_3 N k x all = _
      unfold law17_SealedOpens_3
      exact opens_4 N hN k x hk hx hall (by omega)
end
theorem opens (codes : List UInt8) (_hc : codes.length ≤ 9223372036854775807) (raw : List UInt8) (hr : raw.length ≤ 140737488351232) (iv : UInt64) (pad : UInt8) :
    law17_SealedOpens 18446744073709551616 codes raw iv pad = some ((true, ()), ()) := by
  unfold law17_SealedOpens
  rw [awake17]
  generalize hN0 : 18446744073709551616 = N
  have hN : 4611686018427387904 ≤ N := by omega
  clear hN0
  obtain ⟨c0, e0, k0⟩ := new_ok N codes (m := 240) (by omega) (by omega)
  obtain ⟨h, c1, k, b, e1, k1, hh, hk, hb⟩ := draw_ok N hN k0
  obtain ⟨v, c2, e2, v0, v1, k2⟩ := next_ok N (n := 40) k1 (by omega)
  simp only [Option.bind_some, Bool.not_true, cond_false, e0, e1, e2]
  rw [rsseal_ok N hN h 33 k iv (by omega)]
  simp only [Option.bind_some]
  have lx : (sseal h 33 b k iv).1.length ≤ 200 := by
    unfold sseal
    split
    · simp
    · exact Nat.le_trans swrite_len (by simp; omega)
  generalize (sseal h 33 b k iv).1 = x at *
  rw [rsplit_ok N hN h 33 k iv (w64 (1 + v)) (by omega)]
  simp only [Option.bind_some]
  obtain ⟨hl16, hll⟩ := ssplit_len h 33 b k iv (w64 (1 + v))
  generalize (ssplit h 33 b k iv (w64 (1 + v))).1 = L at *
  obtain ⟨c3, out, e3, l3, k3⟩ := change_ok N (b := x) k2 (by omega)
  obtain ⟨pd, e4, l4⟩ := padded_ok17 N hN h iv pad hb hk
  obtain ⟨n1, c4, e5, _, _, k4⟩ := next_ok N (n := 20) k3 (by omega)
  obtain ⟨n2, c5, e6, _, _, k5⟩ := next_ok N (n := 20) k4 (by omega)
  have hL2 : ∀ y ∈ L, y.length ≤ 200 := fun y hy => by have := hll y hy; omega
  obtain ⟨nd, e7, l7⟩ := numbered_ok N n1 n2 hL2
  simp only [e3, e4, e5, e6, e7, Option.bind_some]
  refine opens_1 N hN k x hk (by omega) hL2 hl16 k5 ?_ rfl
  intro y hy
  simp only [List.mem_cons, List.not_mem_nil, or_false] at hy
  rcases hy with rfl | rfl | rfl | rfl | rfl <;> omega
end Go.Proofs.YtofajgidjkjnpaaDoor.Pl
