/- The law TopResumes: the run, joined. -/
import Derived.Test.YtehbbcdhahnkgaaGreatHmVal
import Derived.Test.YtehbbcdhahnkgaaGreatHmFacts
import Derived.Test.YtehbbcdhahnkgaaGreatHmV
import Derived.Test.YtehbbcdhahnkgaaGreatHmTrKA
import Derived.Test.YtehbbcdhahnkgaaGreatHmTrKB
import Derived.Test.YtehbbcdhahnkgaaGreatHmTrKC
import Derived.Deep.LoopGhost
set_option linter.unusedVariables false
set_option linter.unusedSimpArgs false
namespace Go.Proofs.YtehbbcdhahnkgaaGreat.Hm
open Go
open Go.RowKit (Below)

theorem hV {ρ : En} {R : Rng} (hR : RngOk ρ R) : ValOk Tryz.prog ρ (Γw R) := val_ok tysT_ok Tryz.func51 (by kernel_rfl) (by kernel_rfl) hR
theorem cl_ok {ρ : En} {R : Rng} (hR : RngOk ρ R) {M : List Ent} (hM : ∀ e ∈ M, EntOk Tryz.prog ρ e) (L n : Nat) : CallOk Tryz.prog ρ (runM M (Γw R) L n) := runM_ok (Γ := Γw R) mixT tysT_ok hR fnsT_ok (hV hR) hM n
theorem clP_ok {ρ : En} {R : Rng} (hR : RngOk ρ R) {MP : List EntP} (hMP : ∀ e ∈ MP, EntPOk Tryz.prog ρ e) {M : List Ent} (hM : ∀ e ∈ M, EntOk Tryz.prog ρ e) (L n : Nat) : CallOk Tryz.prog ρ (runP MP M (Γw R) L n) := runP_ok (Γ := Γw R) mixT tysT_ok hR fnsT_ok (hV hR) hMP hM n
theorem noM {ρ : En} : ∀ e ∈ ([] : List Ent), EntOk Tryz.prog ρ e := fun e h => by cases h
theorem r0_ok (ρ : En) : RngOk ρ R0 := rngOk_of (fun p h => by cases h) (fun p h => by cases h) (fun p h => by cases h) (fun p h => by cases h)
theorem eA_ok (ρ : En) : EntOk Tryz.prog ρ eA := ent_ok (cl_ok (r0_ok ρ) noM LL 40) ckKa
theorem eB_ok (ρ : En) : EntOk Tryz.prog ρ eB := ent_ok (cl_ok (r0_ok ρ) noM LL 40) ckKb
theorem eC_ok (ρ : En) : EntOk Tryz.prog ρ eC := by
  refine ent_ok (clP_ok (r0_ok ρ) (fun e h => ?_) (fun e h => ?_) LL 50) ckKc
  · simp only [List.mem_cons, List.not_mem_nil, or_false] at h
    rcases h with rfl | rfl | rfl
    · exact entP_ok (cl_ok (r0_ok ρ) noM LL 45) ckKn
    · exact entP_ok (cl_ok (r0_ok ρ) noM LL 45) ckKo
    · exact entP_ok (cl_ok (r0_ok ρ) noM LL 45) ckKp
  · simp only [List.mem_cons, List.not_mem_nil, or_false] at h
    rcases h with rfl | rfl
    · exact eA_ok ρ
    · exact eB_ok ρ
def en3 (x i : Int) (w : World) : En := ⟨fun j => if j = 0 then x else if j = 1 then x.tmod 90 else if j = 2 then i else 0, w⟩
section
variable {x i : Int} {w : World}
theorem rr_ok {a b : Int} (h1 : a ≤ x.tmod 90) (h2 : x.tmod 90 ≤ b) : RngOk (en3 x i w) (Rr a b) := by
  refine rngOk_of (fun p h => ?_) (fun p h => by cases h) (fun p h => by cases h) (fun p h => by cases h)
  have h : p ∈ [((1 : Nat), (a, b))] := h
  simp only [List.mem_cons, List.not_mem_nil, or_false] at h
  subst h
  exact ⟨h1, h2⟩
theorem ra_ok (h0 : 0 ≤ x) (h1 : x ≤ 255) : RngOk (en3 x i w) RA := by
  refine rngOk_of (fun p h => ?_) (fun p h => by cases h) (fun p h => by cases h) (fun p h => ?_)
  · have h : p ∈ [((0 : Nat), ((0 : Int), (255 : Int))), (1, (0, 89))] := h
    simp only [List.mem_cons, List.not_mem_nil, or_false] at h
    rcases h with rfl | rfl
    · exact ⟨h0, h1⟩
    · show 0 ≤ x.tmod 90 ∧ x.tmod 90 ≤ 89
      rw [Int.tmod_eq_emod_of_nonneg h0]; omega
  · have h : p ∈ [(((0 : Nat), (90 : Int)), (1 : Nat))] := h
    simp only [List.mem_cons, List.not_mem_nil, or_false] at h
    subst h
    rfl
theorem rl_ok (h0 : 0 ≤ x) (hi : 0 ≤ i) (hlt : i < x.tmod 90) : RngOk (en3 x i w) RL := by
  have hk : 0 ≤ x.tmod 90 ∧ x.tmod 90 ≤ 89 := by rw [Int.tmod_eq_emod_of_nonneg h0]; omega
  refine rngOk_of (fun p h => ?_) (fun p h => by cases h) (fun p h => ?_) (fun p h => by cases h)
  · have h : p ∈ [((1 : Nat), ((0 : Int), (89 : Int))), (2, (0, 88))] := h
    simp only [List.mem_cons, List.not_mem_nil, or_false] at h
    rcases h with rfl | rfl
    · exact hk
    · show 0 ≤ i ∧ i ≤ 88
      omega
  · have h : p ∈ [((2 : Nat), (1 : Nat))] := h
    simp only [List.mem_cons, List.not_mem_nil, or_false] at h
    subst h
    exact hlt
theorem pTo_ok {T : St} {s1 s2 : Sub} {src : List Nat} {e : XE} {G : GS} (h : pTo T s1 s2 src e G = true) : e = .normal ∧ satC T s1 s2 src G = true := by
  simp only [pTo, Bool.and_eq_true] at h
  cases e with
  | normal => exact ⟨rfl, h.2⟩
  | exit i => exact absurd h.1 (by simp [isN])
  | ret => exact absurd h.1 (by simp [isN])
theorem pX_ok {T : St} {src : List Nat} {e : XE} {G : GS} (h : pX T src e G = true) : e = .exit 0 ∧ satC T [] [] src G = true := by
  simp only [pX, Bool.and_eq_true] at h
  cases e with
  | normal => exact absurd h.1 (by simp [isX0])
  | exit i => exact ⟨by rw [Nat.eq_of_beq_eq_true h.1], h.2⟩
  | ret => exact absurd h.1 (by simp [isX0])
theorem pT_ok {e : XE} {G : GS} (h : pT e G = true) : e = .ret ∧ G.slots.get 2 = some (.b true) := by
  simp only [pT, Bool.and_eq_true] at h
  obtain ⟨h1, h2⟩ := h
  refine ⟨?_, ?_⟩
  · cases e with
    | normal => exact absurd h1 (by simp [isRet])
    | exit i => exact absurd h1 (by simp [isRet])
    | ret => rfl
  · unfold isT at h2
    split at h2
    · assumption
    · cases h2
theorem dA : codeDst 115 (seqs lA) = true := by kernel_rfl
theorem dL : codeDst 115 (seqs (flat bd)) = true := by kernel_rfl
theorem dB : codeDst 115 (seqs lB) = true := by kernel_rfl
theorem dC : codeDst 115 (seqs lC) = true := by kernel_rfl
theorem dD : codeDst 115 (seqs lD) = true := by kernel_rfl
theorem cut6 : flat (Tryz.f6.body.getD .skip) = lA ++ (.block 0 (.loop bd) :: (lB ++ (lC ++ lD))) := by kernel_rfl
theorem ends {R : Ending → World → Prop} {T : St} {ρ : En} {Γ : Ctx} {cl : CallFn} {a : Act} {w' : World} (hT : TysOk Tryz.prog Γ.tys) (hR : RngOk ρ Γ.R) (hcl : CallOk Tryz.prog ρ cl) {L : Nat} (hN : T.N = 115) (hs : Sat Tryz.prog ρ T a w') (hr : isBig (codeRT Γ cl L (seqs lD) T.gs (endK pT)) = true)
    (hb : ∀ w', Below ρ.base.heap.size ρ.base w' → R (.returned (.bool true)) w') : listWp Tryz.prog lD (bodyPost Tryz.prog Tryz.f6 R) a w' := by
  refine sat_run mixT hT hR hcl hs (by rw [hN]; exact dD) hr fun e G a w B hN2 hst hp => ?_
  obtain ⟨rfl, h2⟩ := pT_ok hp
  obtain ⟨⟨m, _, hrep, _⟩, _⟩ := hst
  have h3 := hrep.slots _ _ h2
  simp only [den, Option.some.injEq] at h3
  show a.defers = [] ∧ ∃ v, (results Tryz.f6 a.tmps).run Tryz.prog w = .ok v w ∧ R (.returned v) w
  refine ⟨hrep.defers, .bool true, ?_, hb _ hrep.heap.keep⟩
  have := results_run (P := Tryz.prog) (fn := Tryz.f6) (tmps := a.tmps) (w := w) (vs := [.bool true]) (.cons (by show (resRun Tryz.prog a.tmps w (.tmp 2) (.bool true)); simp [resRun, ← h3]) .nil)
  simpa [tupVal] using this
theorem getD_first (y : Value) (b : Array Value) : (#[y] ++ b).getD 0 undef = y := by
  simp [Array.getD]
theorem nt6 : Tryz.f6.ntmps = 115 := by kernel_rfl
theorem sat0 (h0 : 0 ≤ x) (h1 : x ≤ 255) (w : World) : Sat Tryz.prog (en3 x 0 w) t0 { tmps := #[Value.int .u8 x] ++ Array.replicate (Tryz.f6.ntmps - (#[Value.int .u8 x] : Array Value).size) undef, defers := [] } w := by
  refine ⟨fun _ => none, ⟨⟨fun i o h => ?_, fun i j o o' q q' _ h => ?_, Below.refl _ _, fun i o q h => ?_⟩, fun k v hk => ?_, rfl, ?_⟩, fun id h => absurd rfl h⟩
  · have h : (Tr.lf : Tr Ob).get i = some o := h
    cases h
  · have h : (Tr.lf : Tr Ob).get i = some o := h
    cases h
  · have h : (Tr.lf : Tr Ob).get i = some o := h
    cases h
  · have hk' : (Tr.nd .lf (some (HV.i .u8 (.sym 0 0))) .lf : Tr HV).get k = some v := hk
    rw [Tr.get_nd] at hk'
    by_cases e : k = 0
    · rw [if_pos e] at hk'
      have hv : v = HV.i .u8 (.sym 0 0) := (Option.some.inj hk').symm
      rw [hv, e]
      have hin : inKind .u8 ((IV.sym 0 0).ev (en3 x 0 w)) = true := inKind_iff.2 ⟨by show (0 : Int) ≤ x + 0; omega, by show x + 0 ≤ (255 : Int); omega⟩
      have hd : den (en3 x 0 w) (fun _ => none) (HV.i .u8 (.sym 0 0)) = some (Value.int .u8 (x + 0)) := by
        simp only [den, hin, cond_true]; rfl
      rw [hd, Int.add_zero]
      exact congrArg some (getD_first _ _).symm
    · rw [if_neg e] at hk'
      split at hk' <;> cases hk'
  · show (#[Value.int .u8 x] ++ Array.replicate (Tryz.f6.ntmps - (#[Value.int .u8 x] : Array Value).size) undef).size = 115
    rw [nt6]
    simp
set_option maxRecDepth 100000 in
theorem resumes (h0 : 0 ≤ x) (h1 : x ≤ 255) (w : World) : Calls Tryz.prog 6 #[.int .u8 x] w fun e w' => e = .returned (.bool true) ∧ Below w.heap.size w w' := by
  have hk : 0 ≤ x.tmod 90 ∧ x.tmod 90 ≤ 89 := by rw [Int.tmod_eq_emod_of_nonneg h0]; omega
  refine calls_of_wp (c := Tryz.f6.body.getD .skip) Tryz.func6 rfl (flat_wp ?_)
  rw [cut6]
  refine listWp_append ?_
  have hs0 := sat0 h0 h1 w
  refine sat_run mixT tysT_ok (ra_ok h0 h1) (cl_ok (ra_ok h0 h1) (M := [eC]) (fun e h => by simp only [List.mem_cons, List.not_mem_nil, or_false] at h; subst h; exact eC_ok _) LL 60) hs0 dA ckKd fun e G a w1 B hN hst hp => ?_
  obtain ⟨rfl, hp2⟩ := pTo_ok hp
  have hsA : Sat Tryz.prog (en3 x 0 w) tA a w1 := sat_of hst hN rfl (SubOk.nil _) (subOk_one (ρ := en3 x 0 w) (ρc := en3 x 0 w) rfl fun _ _ => rfl) hp2
  show Code.wp Tryz.prog (.block 0 (.loop bd)) _ a w1
  refine wp_block (wp_loop_ghost (fun n a w' => ∃ i : Int, 0 ≤ i ∧ i ≤ x.tmod 90 ∧ n = (x.tmod 90 - i).toNat ∧ Sat Tryz.prog (en3 x i w) tA a w') _ ⟨0, by omega, hk.1, rfl, hsA⟩ ?_)
  rintro n a w2 ⟨i, i0, i1, rfl, hs⟩
  by_cases hik : i < x.tmod 90
  · refine flat_wp (sat_run mixT tysT_ok (rl_ok h0 i0 hik) (cl_ok (rl_ok h0 i0 hik) noM LL 60) hs dL ckKe fun e G a w3 B hN hst hp => ?_)
    obtain ⟨rfl, hp2⟩ := pTo_ok hp
    refine ⟨(x.tmod 90 - (i + 1)).toNat, by omega, i + 1, by omega, by omega, rfl, ?_⟩
    refine sat_of hst hN rfl (ρc := en3 x i w) (SubOk.nil _) (subOk_one rfl fun j hj => ?_) hp2
    show (if j = 0 then x else if j = 1 then x.tmod 90 else if j = 2 then i + 1 else 0) = (if j = 0 then x else if j = 1 then x.tmod 90 else if j = 2 then i else 0)
    rw [if_neg hj, if_neg hj]
  · have hi : i = x.tmod 90 := by omega
    subst hi
    have hE : Sat Tryz.prog (en3 x (x.tmod 90) w) tE a w2 := hs.turn rfl rfl (ρc := en3 x (x.tmod 90) w) (subOk_one (by show x.tmod 90 = x.tmod 90 + 0; omega) fun _ _ => rfl) (SubOk.nil _) ckKs
    have hR9 : RngOk (en3 x (x.tmod 90) w) (Rr 0 89) := rr_ok hk.1 hk.2
    refine flat_wp (sat_run mixT tysT_ok hR9 (cl_ok hR9 noM LL 60) hE dL ckKf fun e G a w3 B hN hst hp => ?_)
    obtain ⟨rfl, hp2⟩ := pX_ok hp
    have hE : Sat Tryz.prog (en3 x (x.tmod 90) w) tE a w3 := sat_of hst hN rfl (SubOk.nil _) (SubOk.nil _) hp2
    show listWp Tryz.prog (lB ++ (lC ++ lD)) _ a w3
    refine listWp_append (sat_run mixT tysT_ok hR9 (cl_ok hR9 noM LL 60) hE dB ckKg fun e G a w4 B hN hst hp => ?_)
    obtain ⟨rfl, hp2⟩ := pTo_ok hp
    have hB : Sat Tryz.prog (en3 x (x.tmod 90) w) tB a w4 := sat_of hst hN rfl (SubOk.nil _) (SubOk.nil _) hp2
    show listWp Tryz.prog (lC ++ lD) _ a w4
    have fin : ∀ w', Below w.heap.size w w' → Ending.returned (.bool true) = .returned (.bool true) ∧ Below w.heap.size w w' := fun w' h => ⟨rfl, h⟩
    by_cases h36 : x.tmod 90 ≤ 36
    · have hR := rr_ok (i := x.tmod 90) (w := w) hk.1 h36
      refine listWp_append (sat_run mixT tysT_ok hR (clP_ok hR (MP := [p734, p1708]) (fun e h => ?_) noM LL 60) hB dC ckKh fun e G a w5 B hN hst hp => ?_)
      · simp only [List.mem_cons, List.not_mem_nil, or_false] at h
        rcases h with rfl | rfl
        · exact entP_ok (cl_ok hR noM LL 45) ckKq
        · exact entP_ok (cl_ok hR noM LL 45) ckKr
      obtain ⟨rfl, hp2⟩ := pTo_ok hp
      have hC : Sat Tryz.prog (en3 x (x.tmod 90) w) tC a w5 := sat_of hst hN rfl (SubOk.nil _) (SubOk.nil _) hp2
      by_cases h30 : x.tmod 90 ≤ 30
      · have hR := rr_ok (i := x.tmod 90) (w := w) hk.1 h30
        exact ends tysT_ok hR (cl_ok hR noM LL 60) rfl hC ckKj fin
      · have hR := rr_ok (i := x.tmod 90) (w := w) (show 31 ≤ x.tmod 90 by omega) h36
        exact ends tysT_ok hR (cl_ok hR noM LL 60) rfl hC ckKk fin
    · have hR := rr_ok (i := x.tmod 90) (w := w) (show 37 ≤ x.tmod 90 by omega) hk.2
      refine listWp_append (sat_run mixT tysT_ok hR (cl_ok hR noM LL 60) hB dC ckKi fun e G a w5 B hN hst hp => ?_)
      obtain ⟨rfl, hp2⟩ := pTo_ok hp
      have hC : Sat Tryz.prog (en3 x (x.tmod 90) w) tD a w5 := sat_of hst hN rfl (SubOk.nil _) (SubOk.nil _) hp2
      by_cases h39 : x.tmod 90 ≤ 39
      · have hR := rr_ok (i := x.tmod 90) (w := w) (show 37 ≤ x.tmod 90 by omega) h39
        exact ends tysT_ok hR (cl_ok hR noM LL 60) rfl hC ckKl fin
      · have hR := rr_ok (i := x.tmod 90) (w := w) (show 40 ≤ x.tmod 90 by omega) hk.2
        exact ends tysT_ok hR (cl_ok hR noM LL 60) rfl hC ckKm fin
end
end Go.Proofs.YtehbbcdhahnkgaaGreat.Hm
