/- The ghost machine: an evaluator of the program's text over plain data, and its soundness. -/
import Derived.Test.YtajpblfinenmjaaGreatDoorPlConcreteHidesA
import Derived.Test.YtajpblfinenmjaaGreatDoorFnsConcreteHidesA
import Derived.Test.YtajpblfinenmjaaGreatDoorFnvConcreteHidesA
import Derived.Test.YtajpblfinenmjaaGreatDoorRngConcreteHidesC
set_option linter.unusedVariables false
set_option linter.unusedSimpArgs false
namespace Go.Proofs.YtajpblfinenmjaaGreatDoor.Pl
open Go
theorem mk_un (t : Tree) : mkT t.un = t := by cases t; rfl
theorem zwah (l : List Tree) : (l.map Tree.un).map mkT = l := by
 induction l with
 | nil => rfl
 | cons t l ih => simp only [List.map_cons, ih, mk_un]
theorem zwai (B : List (List UInt8)) : (lsb B).length = (B.map fun b => 2 + b.length).sum := by
 induction B with
 | nil => rfl
 | cons b B ih => rw [zwae, List.length_append, List.length_append, be_len, ih]; simp
theorem zw4p {N : Nat} {x : TT.den} {k : List UInt8} (h : zq39 N x = some ((0, ()), (k, ()))) : zq52 N x = some ((), (k, ())) := by
 unfold zq52
 rw [h]
 rfl
theorem zw61 {p : Tree → List UInt8 → Prop} : ∀ {l : List Tree}, (∀ a ∈ l, ∃ b, p a b) → ∃ B : List (List UInt8), B.length = l.length ∧ ∀ (i : Nat) a, l[i]? = some a → p a (B.getD i [])
 | [], _ => ⟨[], rfl, fun i a h => by simp at h⟩
 | a :: l, h => by
  obtain ⟨b, hb⟩ := h a (by simp)
  obtain ⟨B, h1, h2⟩ := zw61 (l := l) fun x hx => h x (by simp [hx])
  refine ⟨b :: B, by simp [h1], fun i x hx => ?_⟩
  cases i with
  | zero => simp at hx; subst hx; exact hb
  | succ i => exact h2 i x (by simpa using hx)
theorem zwju {l : List Tree} {B : List (List UInt8)} (h : B.length = l.length) (h2 : ∀ (i : Nat) a, l[i]? = some a → (B.getD i []).length = wl a) : (B.map fun b => 2 + b.length).sum = (l.map fun a => 2 + wl a).sum := by
 induction l generalizing B with
 | nil =>
  have : B = [] := List.eq_nil_of_length_eq_zero h
  subst this; rfl
 | cons a l ih =>
  cases B with
  | nil => simp at h
  | cons b B =>
   have h0 := h2 0 a rfl
   have := ih (B := B) (by simpa using h) (fun i x hx => h2 (i + 1) x (by simpa using hx))
   simp only [List.map_cons, List.sum_cons, this]
   have h0' : b.length = wl a := h0
   rw [h0']
theorem nm_gd {i : Nat} (hi : i < 15) : Gd 1 (mkT (nmD i)) := ⟨⟨by show (0 : Int) ≤ ((_ : Nat) : Int); omega, by show ((_ : Nat) : Int) ≤ 10000000; omega, .inr (.inl ⟨rfl, rfl⟩)⟩, by simp [args, mkT, nmD], fun a ha => by simp [args, mkT, nmD] at ha⟩
section
variable (N : Nat) (hN : 4611686018427387904 ≤ N) (hsh : ∀ i j, i ≤ j → j < 15 → zq100 N (shD i j) = some ((true, ()), ()))
include hN
theorem zw62 {e : Nat} {t : Tree} {op : UInt8} {k : List UInt8} (hs : zq39 N t.un = some ((0, ()), (k, ()))) (hk : k.length = 32) (ho : t.un.1 = (op.toNat : Int)) (hw : ∀ rc, zw3k N rc t.un = zq17 N t.un [op])
  (htm : ∀ (rc : RcT) (y : List UInt8) (K : List TT.den), zq13 N rc (([op] ++ y, K, ()) : RdS) = Option.bind (zq9 N (op.toNat : Int) ((y, K, ()) : RdS)) fun y5 => some ((y5.1.1, ()), (y5.2.1, ()))) (hwl : wl t = 33) (hkz : kz t = [t.un]) (hmg : mg t = .mk 10 0 []) : RT N (e + 1) t ([op] ++ k) where
 len := by rw [hwl, List.length_append, hk]; rfl
 write := wr_of (by rw [List.length_append, hk, List.length_cons, List.length_nil]; omega) fun n _ => by
  rw [hw, f2_b N (zw4p hs) hk (by rw [List.length_cons, List.length_nil]; omega)]
 full := fun K hK hq => by
  rw [hkz] at hq
  obtain ⟨k', ti, s1, s2, _, p, p1, p2⟩ := hq t.un (by simp)
  rw [hs] at s1
  cases s1
  refine rd_of fun m _ => ?_
  rw [htm]
  have h := zwjo N hN (op := (op.toNat : Int)) hk [] hK p1 ho hs (by rw [← ho]; exact p2)
  rw [List.append_nil] at h
  rw [h]
  rfl
 miss := fun K hK hq => by
  rw [hkz] at hq
  obtain ⟨k', ti, s1, s2, _, p2⟩ := hq t.un (by simp)
  rw [hs] at s1
  cases s1
  refine rd_of fun m _ => ?_
  rw [htm]
  have h := zwjp N hN (op := (op.toNat : Int)) hk [] hK (by rw [← ho]; exact p2)
  rw [List.append_nil] at h
  rw [h, hmg]
  rfl
theorem zwaj {e : Nat} {l : List Tree} (h2' : l.length ≤ 4) {B : List (List UInt8)} (hB : B.length = l.length) (hRT : ∀ (i : Nat) a, l[i]? = some a → RT N e a (B.getD i [])) (hw : wl (.mk 3 0 l) ≤ 8192) : RT N (e + 1) (.mk 3 0 l) ([(3 : UInt8)] ++ (be (iu64 (l.length : Int)) 2 ++ lsb B)) ∧ ∀ b ∈ B, b.length ≤ 8192 := by
 have hm : wl (.mk 3 0 l) = 3 + (l.map fun a => 2 + wl a).sum := by
  show 3 + ((wll l).map (2 + ·)).sum = _
  rw [zw5z, List.map_map]
  rfl
 have hlb : (lsb B).length = (l.map fun a => 2 + wl a).sum := by rw [zwai]; exact zwju hB fun i a hi => (hRT i a hi).len
 have hbl : ∀ b ∈ B, b.length ≤ 8192 := fun b hb => by
  obtain ⟨l1, l2, hl⟩ := List.append_of_mem hb
  have := zwai B
  rw [hl] at this
  simp only [List.map_append, List.map_cons, List.sum_append, List.sum_cons] at this
  rw [← hl] at this
  omega
 have hkz : kz (.mk 3 0 l) = (l.map kz).flatten := by
  show (kzl l).flatten = _
  rw [zw4o]
 have hsub : ∀ (i : Nat) a, l[i]? = some a → ∀ q ∈ kz a, q ∈ kz (.mk 3 0 l) := fun i a hi q hq => by
  rw [hkz, List.mem_flatten]
  exact ⟨kz a, List.mem_map.2 ⟨a, List.mem_of_getElem? hi, rfl⟩, hq⟩
 have hlen : ([(3 : UInt8)] ++ (be (iu64 (l.length : Int)) 2 ++ lsb B)).length = wl (.mk 3 0 l) := by
  rw [List.length_append, List.length_append, be_len, hlb, hm, List.length_cons, List.length_nil]
  omega
 have hat : ∀ (i : Nat) b, B[i]? = some b → ∃ a, l[i]? = some a ∧ RT N e a b := fun i b hb => by
  have hiB := (List.getElem?_eq_some_iff.1 hb).1
  have hil : i < l.length := by omega
  have := hRT i _ (List.getElem?_eq_getElem hil)
  have e1 : B.getD i [] = b := by simp [List.getD, hb]
  rw [e1] at this
  exact ⟨_, List.getElem?_eq_getElem hil, this⟩
 refine ⟨⟨hlen, wr_of (by omega) (fun n hn => ?_), fun K hK hq => rd_of fun m hm => ?_, fun K hK hq => rd_of fun m hm => ?_⟩, hbl⟩
 ·show zq21 N (zwx N n) (3, 0, l, ()) [(3 : UInt8)] = _
  rw [list_b N hN h2' hB (fun i a hi => (hRT i a hi).write n hn) hbl, List.append_assoc]
 ·rw [tm3]
  have h := zw60 N hN (rc := zwe N m) (B := B) (ts := l.map Tree.un) (K := K) (by omega) (by rw [List.length_map, hB]) hbl (fun i b hb => by
   obtain ⟨a, ha, hr⟩ := hat i b hb
   exact ⟨a.un, by rw [List.getElem?_map, ha]; rfl, hr.full K hK (fun q hqa => hq q (hsub i a ha q hqa)) m hm⟩) []
  rw [List.append_nil, hB] at h
  rw [h, Option.bind_some, zwah]
  rfl
 ·rw [tm3]
  have h := zw60 N hN (rc := zwe N m) (B := B) (ts := (l.map mg).map Tree.un) (K := K) (by omega) (by rw [List.length_map, List.length_map, hB]) hbl (fun i b hb => by
   obtain ⟨a, ha, hr⟩ := hat i b hb
   exact ⟨(mg a).un, by rw [List.getElem?_map, List.getElem?_map, ha]; rfl, hr.miss K hK (fun q hqa => hq q (hsub i a ha q hqa)) m hm⟩) []
  rw [List.append_nil, hB] at h
  have hmg : mg (.mk 3 0 l) = .mk 3 0 (l.map mg) := by
   show Tree.mk 3 0 (mgl l) = _
   rw [zwjs]
  rw [h, Option.bind_some, zwah, hmg]
  rfl
include hsh
theorem zwak {e : Nat} (he : e ≤ 5) {a c : Tree} (hga : Gd e a) {body : List UInt8} (hRT : RT N e c body) (hw : wl (.mk 7 0 [a, c]) ≤ 8192) : ∃ b, RT N (e + 1) (.mk 7 0 [a, c]) b ∧ ∀ K : List TT.den, K.length ≤ 1000000 → (∃ k ti, zq39 N a.un = some ((0, ()), (k, ())) ∧ zq43 N k = some ((ti, ()), ()) ∧ ∀ x ∈ K, NT N ti x) → ∀ m, e + 1 ≤ m → zwe N m b K = some (((10, 0, [], ()), ()), ()) := by
 have hm : wl (.mk 7 0 [a, c]) = 37 + wl c := rfl
 have hbl := hRT.len
 obtain ⟨ka, hsa, hkal⟩ := zw3p N hN hsh (e := e) he hga
 obtain ⟨ti, hti, htl⟩ := zwg5 N hN (k := ka) (by omega)
 have hkz : kz (.mk 7 0 [a, c]) = a.un :: kz c := rfl
 have hhl := zw2n ka body
 have hon : (cut (hmac ka body) 0 12).length = 12 := by simp only [cut, List.drop_zero, List.length_take]; omega
 have hop := zwjt N hN (k := ka) (n := cut (hmac ka body) 0 12) (c := body) hkal hon (by omega)
 have hw0 : ∀ n, e ≤ n → zq23 N (zwx N n) (7, 0, [a, c], ()) [(7 : UInt8)] = _ := fun n hn => seal_b N hN (zw4p hsa) hkal hti htl (hRT.write n hn) (by omega) (by decide)
 obtain ⟨once, honce⟩ : ∃ once, once = cut (hmac ka body) 0 12 := ⟨_, rfl⟩
 obtain ⟨sealed, hsealed⟩ : ∃ sealed, sealed = cx ka 1 once body ++ atag ka once [] (cx ka 1 once body) := ⟨_, rfl⟩
 have hsl : sealed.length = body.length + 16 := by rw [hsealed, List.length_append, cx_len, zw2z]
 rw [← honce] at hop hon hw0
 rw [← hsealed] at hop hw0
 have hlen : ([(7 : UInt8)] ++ (ti ++ (once ++ sealed))).length = wl (.mk 7 0 [a, c]) := by
  simp only [List.length_append, List.length_cons, List.length_nil]
  omega
 have hmiss : ∀ K : List TT.den, K.length ≤ 1000000 → (∃ k ti, zq39 N a.un = some ((0, ()), (k, ())) ∧ zq43 N k = some ((ti, ()), ()) ∧ ∀ x ∈ K, NT N ti x) → ∀ m, e + 1 ≤ m → zwe N m ([(7 : UInt8)] ++ (ti ++ (once ++ sealed))) K = some (((10, 0, [], ()), ()), ()) := fun K hK hq => rd_of fun m hm => by
  obtain ⟨k', ti', s1, s2, p2⟩ := hq
  rw [hsa] at s1
  cases s1
  rw [hti] at s2
  cases s2
  rw [tm7, zwjr N hN htl hon (by omega) hK p2]
  rfl
 refine ⟨_, ⟨hlen, wr_of (by omega) (fun n hn => ?_), fun K hK hq => rd_of fun m hm => ?_, fun K hK hq => ?_⟩, hmiss⟩
 ·show zq23 N (zwx N n) (7, 0, [a, c], ()) [(7 : UInt8)] = _
  rw [hw0 n hn]
  simp only [List.append_assoc]
 ·rw [hkz] at hq
  obtain ⟨k', ti', s1, s2, ⟨p, p1, p2⟩, _⟩ := hq a.un (by simp)
  rw [hsa] at s1
  cases s1
  rw [hti] at s2
  cases s2
  rw [tm7, zwjq N hN htl hon (by omega) hK p1 hsa hti hop (hRT.full K hK (fun q h => hq q (by simp [h])) m hm) p2, Option.bind_some, mk_un, mk_un]
  rfl
 ·rw [hkz] at hq
  obtain ⟨k', ti', s1, s2, p2, _⟩ := hq a.un (by simp)
  exact hmiss K hK ⟨k', ti', s1, s2, p2⟩
theorem rt : ∀ (e : Nat) (t : Tree), e ≤ 5 → Gd e t → wl t ≤ 8192 → ∃ b, RT N e t b
 | 0, _, _, h, _ => h.elim
 | e + 1, .mk o v l, he, h, hw => by
  have hh := h
  obtain ⟨h1, h2, h3⟩ := h
  have h2' : l.length ≤ 4 := Nat.le_trans h2 (bdn_le _)
  have ih := fun t h hw => rt e t (by omega) h hw
  obtain ⟨g0, g1, h⟩ := h1
  obtain ⟨k, hsec, hkl⟩ := zw3p N hN hsh he hh
  have ew : w64 ((iu64 v).toNat : Int) = v := by rw [zw2d g0 g1]; exact w64_of (by omega) (by omega)
  rcases h with ⟨rfl, rfl⟩ | ⟨rfl, rfl⟩ | ⟨rfl, rfl⟩ | ⟨rfl, rfl⟩ | rfl | ⟨rfl, rfl, i, hi, rfl⟩ | ⟨rfl, a, rfl⟩ | ⟨rfl, rfl, i, j, hij, hj, rfl⟩ | ⟨rfl, rfl, a, c, rfl⟩
  ·have hr : ∀ (K : List TT.den) (m : Nat), e + 1 ≤ m → zwe N m ([(1 : UInt8)] ++ be (iu64 v) 8) K = some (((1, v, [], ()), ()), ()) := fun K => rd_of fun m _ => by
    rw [tm1]
    have h := num_ok N (by omega) (iu64 v) [] K (w := 8) (k := 8) (by rfl) (by omega) (by omega) (iu64 v).toNat_lt
    rw [List.append_nil] at h
    rw [h, Option.bind_some]
    simp only [ew]
   exact ⟨[(1 : UInt8)] ++ be (iu64 v) 8, by rw [List.length_append, be_len]; rfl, wr_of (by rw [List.length_append, be_len]; decide) (fun n _ => f1_b N hN _ (by decide)), fun K _ _ => hr K, fun K _ _ => hr K⟩
  ·have hr : ∀ (K : List TT.den) (m : Nat), e + 1 ≤ m → zwe N m ([(2 : UInt8)] ++ (be (iu64 v) 8 ++ k.take 16)) K = some (((2, v, [], ()), ()), ()) := fun K => rd_of fun m _ => by
    rw [tm2]
    have h := zwjj N hN hsh g0 g1 (zw4p hsec) [] K
    rw [List.append_nil] at h
    rw [h]
    rfl
   exact ⟨[(2 : UInt8)] ++ (be (iu64 v) 8 ++ k.take 16), by rw [List.length_append, List.length_append, be_len, List.length_take, hkl]; rfl, wr_of (by rw [List.length_append, List.length_append, be_len, List.length_take, hkl]; decide) (fun n _ => by rw [← List.append_assoc]; exact zwjk N hN (zw4p hsec) hkl (by decide)), fun K _ _ => hr K, fun K _ _ => hr K⟩
  ·exact ⟨_, zw62 N hN (op := 9) hsec hkl rfl (fun _ => rfl) (fun rc y K => tm9 N y K) rfl rfl rfl⟩
  ·obtain ⟨B, hB, hRT⟩ := zw61 (p := RT N e) fun a ha => ih a (h3 a ha) (by
    have hm : wl (.mk 3 0 l) = 3 + (l.map fun a => 2 + wl a).sum := by
     show 3 + ((wll l).map (2 + ·)).sum = _
     rw [zw5z, List.map_map]
     rfl
    rw [hm] at hw
    have ha' : a ∈ l := ha
    obtain ⟨l1, l2, rfl⟩ := List.append_of_mem ha'
    simp only [List.map_append, List.map_cons, List.sum_append, List.sum_cons] at hw
    omega)
   exact ⟨_, (zwaj N hN h2' hB hRT hw).1⟩
  ·exact ⟨_, zw62 N hN (op := 6) hsec hkl rfl (fun _ => rfl) (fun rc y K => tm6 N y K) rfl rfl rfl⟩
  ·obtain ⟨x, hx⟩ := zwg4 N hN hsh (e := 1) (by omega) (nm_gd hi)
   have hx' : zq28 N (nmD i) = some ((x, ()), ()) := hx
   have hx2 : zq28 N (2, (nmD i).2.1, [], ()) = some ((x, ()), ()) := hx
   have hv : zq98 N (2, (nmD i).2.1, [], ()) = some ((true, ()), ()) := zw2y N hsh (e := 1) (by omega) (nm_gd hi)
   have hr : ∀ (K : List TT.den) (m : Nat), e + 1 ≤ m → zwe N m ([(4 : UInt8)] ++ (be (iu64 (nmD i).2.1) 8 ++ be x 8)) K = some (((4, 0, [mkT (nmD i)], ()), ()), ()) := fun K => rd_of fun m _ => by
    rw [tm4]
    have h := zwjm N hN (v := (nmD i).2.1) (by show (0 : Int) ≤ ((_ : Nat) : Int); omega) (by show ((_ : Nat) : Int) ≤ 10000000; omega) hx2 hv [] K
    rw [List.append_nil] at h
    rw [h]
    rfl
   exact ⟨[(4 : UInt8)] ++ (be (iu64 (nmD i).2.1) 8 ++ be x 8), by rw [List.length_append, List.length_append, be_len, be_len]; rfl, wr_of (by rw [List.length_append, List.length_append, be_len, be_len]; decide) (fun n _ => by rw [← List.append_assoc]; exact zwjl N hN hx' (by decide)), fun K _ _ => hr K, fun K _ _ => hr K⟩
  ·have hm : wl (.mk 8 v [a]) = 43 + wl a := rfl
   obtain ⟨body, hRT⟩ := ih a (h3 a (by simp [args])) (by omega)
   have hbl := hRT.len
   obtain ⟨sig, hg, hsl⟩ := zwg3 N hN hsh g0 g1 (b := body) (by omega)
   have hkz : kz (.mk 8 v [a]) = kz a := by show [kz a].flatten = _; simp
   have hlen : ([(8 : UInt8)] ++ (be (iu64 v) 8 ++ (be (iu64 (body.length : Int)) 2 ++ (body ++ sig)))).length = wl (.mk 8 v [a]) := by
    simp only [List.length_append, be_len, List.length_cons, List.length_nil]
    omega
   have hrd : ∀ (K : List TT.den) (m : Nat) (z : TT.den), zwe N m body K = some ((z, ()), ()) → zq13 N (zwe N m) (([(8 : UInt8)] ++ (be (iu64 v) 8 ++ (be (iu64 (body.length : Int)) 2 ++ (body ++ sig))), K, ()) : RdS) = some (((8, v, [mkT z], ()), ()), ((([], K, ()) : RdS), ())) := fun K m z hz => by
    rw [tm8]
    have h := zwjn N hN g0 g1 (by omega) hsl hg (rc := zwe N m) (K := K) hz []
    rw [List.append_nil] at h
    rw [h]
    rfl
   refine ⟨_, hlen, wr_of (by omega) (fun n hn => ?_), fun K hK hq => rd_of fun m hm => ?_, fun K hK hq => rd_of fun m hm => ?_⟩
   ·show zq20 N (zwx N n) (8, v, [a], ()) [(8 : UInt8)] = _
    rw [sign_b N hN (hRT.write n hn) hg hsl (by omega) (by decide)]
    simp only [List.append_assoc]
   ·rw [hrd K m _ (hRT.full K hK (by rw [← hkz]; exact hq) m hm), mk_un]
    rfl
   ·rw [hrd K m _ (hRT.miss K hK (by rw [← hkz]; exact hq) m hm), mk_un]
    rfl
  ·exact ⟨_, zw62 N hN (op := 5) hsec hkl rfl (fun _ => rfl) (fun rc y K => tm5 N y K) rfl rfl rfl⟩
  ·have hm : wl (.mk 7 0 [a, c]) = 37 + wl c := rfl
   obtain ⟨body, hRT⟩ := ih c (h3 c (by simp [args])) (by omega)
   obtain ⟨b, hb, _⟩ := zwak N hN hsh (e := e) (by omega) (h3 a (by simp [args])) hRT hw
   exact ⟨b, hb⟩
end
end Go.Proofs.YtajpblfinenmjaaGreatDoor.Pl

namespace Go.Proofs.YtajpblfinenmjaaGreatDoor.Pl
open Go
def COk (c : List UInt8 × (Int × Unit)) : Prop := 0 ≤ c.2.1 ∧ c.2.1 ≤ (c.1.length : Int) ∧ c.1.length ≤ 1000000000000000
theorem zw2e (N : Nat) {c : List UInt8 × (Int × Unit)} {n : Int} (h : COk c) (hn : 0 < n) (hn2 : n ≤ 1000000) : ∃ v c', zq30 N n c = some ((v, ()), (c', ())) ∧ 0 ≤ v ∧ v < n ∧ COk c' := by
 obtain ⟨l, i, u⟩ := c
 obtain ⟨h1, h2, h3⟩ := h
 simp only at h1 h2 h3
 unfold zq30
 by_cases hlt : (l.length : Int) ≤ i
 ·simp only [hlt, decide_true, cond_true]
  exact ⟨0, _, rfl, by omega, hn, h1, h2, h3⟩
 ·have e1 : w64 (i + 1) = i + 1 := w64_of (by omega) (by omega)
  have e2 : w64 (i + 1 - 1) = i := by rw [w64_of (by omega) (by omega)]; omega
  simp only [hlt, decide_false, cond_false, e1, e2]
  have e3 : inR i l.length = true := by simp [inR, h1]; omega
  rw [e3, cond_true]
  obtain ⟨b, hb⟩ : ∃ b : Nat, b = (l.getD i.toNat 0).toNat := ⟨_, rfl⟩
  have hb2 : b < 256 := by rw [hb]; exact UInt8.toNat_lt _
  rw [← hb]
  have hm0 : 0 ≤ (b : Int) * n := Int.mul_nonneg (by omega) (by omega)
  have hm1 : (b : Int) * n ≤ 255 * n := Int.mul_le_mul_of_nonneg_right (by omega) (by omega)
  have e4 : w64 ((b : Int) * n) = (b : Int) * n := w64_of (by omega) (by omega)
  have e5 : ((b : Int) * n).tdiv 256 = ((b : Int) * n) / 256 := Int.tdiv_eq_ediv_of_nonneg hm0
  have e6 : w64 (((b : Int) * n) / 256) = ((b : Int) * n) / 256 := w64_of (by omega) (by omega)
  rw [e4, e5, e6]
  exact ⟨_, _, rfl, by omega, by omega, by simp only; omega, by simp only; omega, h3⟩
theorem zw2f (N : Nat) {c : List UInt8 × (Int × Unit)} (h : COk c) : ∃ i c', zq37 N c = some ((nmD i, ()), (c', ())) ∧ i < 15 ∧ COk c' := by
 obtain ⟨v, c1, e1, a1, a2, h1⟩ := zw2e N (n := 3) h (by omega) (by omega)
 obtain ⟨u, c2, e2, b1, b2, h2⟩ := zw2e N (n := 5) h1 (by omega) (by omega)
 refine ⟨v.toNat * 5 + u.toNat, c2, ?_, by omega, h2⟩
 unfold zq37 zq104
 simp only [e1, e2, Option.bind_some]
 have f1 : w64 ((1 : Int) + u) = 1 + u := w64_of (by omega) (by omega)
 have f2 : w64 (v * (1048576 : Int)) = v * 1048576 := w64_of (by omega) (by omega)
 have f3 : w64 (v * 1048576 + (1 + u)) = v * 1048576 + (1 + u) := w64_of (by omega) (by omega)
 rw [f1, f2, f3]
 have f4 : (((v.toNat * 5 + u.toNat) / 5 * 1048576 + (v.toNat * 5 + u.toNat) % 5 + 1 : Nat) : Int) = v * 1048576 + (1 + u) := by omega
 unfold nmD
 rw [f4]
theorem zwjv (N : Nat) (k : Nat) (hk : k ≤ 1000) (l : List UInt8) : ∃ c, zq117 N l (k : Int) = some ((), (c, ())) ∧ COk c := by
 unfold zq117
 by_cases hlt : (k : Int) < (l.length : Int)
 ·simp only [hlt, decide_true, cond_true]
  have e1 : decide ((k : Int) ≤ (l.length : Int)) = true := decide_eq_true (by omega)
  have e2 : cut l 0 (k : Int).toNat = l.take k := by simp [cut]
  have e3 : (l.take k).length = k := by rw [List.length_take]; omega
  have e0 : decide ((0 : Int) ≤ (k : Int)) = true := decide_eq_true (by omega)
  have e5 : decide (0 ≤ (0 : Int)) = true := by decide
  have e6 : room (0 + k) 1 = true := zw3 (by omega)
  simp only [e1, e2, e3, e0, e5, e6, Bool.and_self, cond_true]
  exact ⟨_, rfl, by simp, by simp, by simp only [e3]; omega⟩
 ·have hl : l.length ≤ k := by omega
  simp only [hlt, decide_false, cond_false]
  have e1 : decide ((0 : Int) ≤ (l.length : Int)) = true := decide_eq_true (by omega)
  have e4 : decide ((l.length : Int) ≤ (l.length : Int)) = true := decide_eq_true (by omega)
  have e2 : cut l 0 (l.length : Int).toNat = l := by simp [cut]
  have e3 : room (0 + l.length) 1 = true := zw3 (by omega)
  rw [e1, e4, e2, e3]
  exact ⟨_, rfl, by simp, by simp, by simp only; omega⟩

theorem zw3s {d : Nat} {o v : Int} (h0 : 0 ≤ v) (h1 : v ≤ 10000000) (ho : o = 1 ∨ o = 2 ∨ o = 9) : Gd (d + 1) (.mk o v []) := by
 refine ⟨⟨h0, h1, ?_⟩, by simp [args], fun a ha => by simp [args] at ha⟩
 rcases ho with rfl | rfl | rfl
 ·exact .inl ⟨rfl, rfl⟩
 ·exact .inr (.inl ⟨rfl, rfl⟩)
 ·exact .inr (.inr (.inl ⟨rfl, rfl⟩))
abbrev TmR : Type := ((TT.den × Unit) × (((List UInt8) × (Int × Unit)) × Unit))
section
variable (N : Nat) (hN : 4611686018427387904 ≤ N) (hag : ∀ i j, i < 15 → j < 15 → ∃ t, zq76 N (4, 0, [mkT (nmD i)], ()) (nmD j) = some ((shD (min i j) (max i j), t, ()), ()))
include hN hag
theorem zw63 {d : Nat} (hd : d ≤ 100) {rc : Int → ((List UInt8) × (Int × Unit)) → Option TmR} (hrc : 0 < d → ∀ c, COk c → ∃ t c', rc (d : Int) c = some ((t, ()), (c', ())) ∧ Gd d (mkT t) ∧ COk c')
  {k : Int} (h0 : 0 ≤ k) (h1 : k < 12) (hk : k ≤ 3 ∨ 0 < d) {c : List UInt8 × (Int × Unit)} (hc : COk c) (t4 : TT.den) :
  ∃ t c', zq36_5 N rc ((d + 1 : Nat) : Int) k c t4 = some ((t, ()), (c', ())) ∧ Gd (d + 1) (mkT t) ∧ COk c' := by
 have w1 : w64 (((d + 1 : Nat) : Int) - 1) = (d : Int) := by rw [w64_of (by omega) (by omega)]; omega
 have hcase : k = 0 ∨ (k = 1 ∨ k = 2) ∨ k = 3 ∨ (k = 4 ∨ k = 5) ∨ k = 6 ∨ k = 7 ∨ k = 8 ∨ (k = 9 ∨ k = 10) ∨ k = 11 := by omega
 rcases hcase with rfl | hk2 | rfl | hk2 | rfl | rfl | rfl | hk2 | rfl
 ·show ∃ t c', zq36_8 N rc c t4 = _ ∧ _
  obtain ⟨v, c1, e1, a1, a2, k1⟩ := zw2e N (n := 6) hc (by omega) (by omega)
  unfold zq36_8 zq57
  simp only [e1, Option.bind_some]
  exact ⟨_, _, rfl, zw3s a1 (by show v ≤ (10000000 : Int); omega) (.inl rfl), k1⟩
 ·have : zq36_5 N rc ((d + 1 : Nat) : Int) k c t4 = zq36_12 N rc c t4 := by rcases hk2 with rfl | rfl <;> rfl
  rw [this]
  obtain ⟨i, c1, e1, hi, k1⟩ := zw2f N hc
  unfold zq36_12
  simp only [e1, Option.bind_some]
  exact ⟨_, _, rfl, (nm_gd hi).le (by omega), k1⟩
 ·show ∃ t c', zq36_16 N rc c t4 = _ ∧ _
  obtain ⟨v, c1, e1, a1, a2, k1⟩ := zw2e N (n := 3) hc (by omega) (by omega)
  unfold zq36_16
  simp only [e1, Option.bind_some]
  exact ⟨_, _, rfl, zw3s a1 (by show v ≤ (10000000 : Int); omega) (.inr (.inr rfl)), k1⟩
 ·have : zq36_5 N rc ((d + 1 : Nat) : Int) k c t4 = zq36_20 N rc ((d + 1 : Nat) : Int) c t4 := by rcases hk2 with rfl | rfl <;> rfl
  rw [this]
  have hd0 : 0 < d := by omega
  obtain ⟨v, c1, e1, a1, a2, k1⟩ := zw2e N (n := 4) hc (by omega) (by omega)
  unfold zq36_20
  simp only [e1, Option.bind_some]
  unfold zq36_21
  have hl := zwc (N := N) (step := fun y => zq36_s22 N rc y.1.1 y.1.2.1 y.2.1 y.2.2.1 y.2.2.2.1) (J := fun (e : ((Unit) × (((List UInt8) × (Int × Unit)) × TT.den × (List TT.den) × Unit))) => zq36_23 N rc e.2.1 e.2.2.1 e.2.2.2.1)
   (I := fun y => y.1.1 = ((d + 1 : Nat) : Int) ∧ 0 ≤ y.1.2.1 ∧ y.1.2.1 + (y.2.2.2.1.length : Int) ≤ 3 ∧ COk y.2.1 ∧ ∀ x ∈ y.2.2.2.1, Gd d (mkT x)) (μ := fun y => y.1.2.1.toNat)
   (T := fun r => ∃ t c', r = ((t, ()), (c', ())) ∧ Gd (d + 1) (mkT t) ∧ COk c') ?_
   (x := ((((d + 1 : Nat) : Int), v, ()), (c1, t4, ([] : List TT.den), ()))) ⟨rfl, a1, by simp only [List.length_nil]; omega, k1, fun x hx => by simp at hx⟩ (by simp only; omega)
  ·obtain ⟨r, q1, t, c', rfl, q2, q3⟩ := hl
   exact ⟨t, c', q1, q2, q3⟩
  ·rintro ⟨⟨dd, n, ⟨⟩⟩, p0, t5, l, ⟨⟩⟩ ⟨g1, g2, g3, g4, g5⟩
   simp only at g1 g2 g3 g4 g5
   subst g1
   simp only [zq36_s22]
   by_cases hlt : (0 : Int) < n
   ·have e2 : decide ((0 : Int) < n) = true := decide_eq_true hlt
    obtain ⟨t, c2, r1, r2, r3⟩ := hrc hd0 p0 g4
    have er : room (l.length + ([t] : List TT.den).length) 40 = true := zw3 (by simp only [List.length_cons, List.length_nil]; omega)
    have e4 : w64 (n - 1) = n - 1 := w64_of (by omega) (by omega)
    rw [e2, w1, r1]
    simp only [cond_true, Option.bind_some, er, e4]
    refine ⟨_, rfl, ⟨rfl, by simp only; omega, by simp only [List.length_append, List.length_cons, List.length_nil]; omega, r3, fun x hx => ?_⟩, by simp only; omega⟩
    simp only [List.mem_append, List.mem_cons, List.not_mem_nil, or_false] at hx
    rcases hx with hx | rfl
    ·exact g5 x hx
    ·exact r2
   ·have e2 : decide ((0 : Int) < n) = false := decide_eq_false hlt
    rw [e2]
    have er : room (0 + l.length) 40 = true := zw3 (by omega)
    refine ⟨_, rfl, ?_⟩
    unfold zq36_23 zq93
    simp only [er, cond_true, Option.bind_some]
    refine ⟨_, rfl, _, _, rfl, ⟨⟨Int.le_refl _, (by decide : (0 : Int) ≤ 10000000), .inr (.inr (.inr (.inl ⟨rfl, rfl⟩)))⟩, by have := bdn_ge d; simp only [args, mkT, List.length_map]; omega, fun a ha => ?_⟩, g4⟩
    simp only [args, mkT, List.mem_map] at ha
    obtain ⟨x, hx, rfl⟩ := ha
    exact g5 x hx
 ·have hd0 : 0 < d := by omega
  show ∃ t c', (Option.bind (zq37 N c) fun y21 => Option.bind (zq62 N y21.1.1) fun y22 => some ((y22.1.1, ()), (y21.2.1, ()))) = _ ∧ _
  obtain ⟨i, c1, e1, hi, k1⟩ := zw2f N hc
  unfold zq62
  simp only [e1, Option.bind_some]
  refine ⟨_, _, rfl, ⟨⟨Int.le_refl _, (by decide : (0 : Int) ≤ 10000000), .inr (.inr (.inr (.inr (.inr (.inl ⟨rfl, rfl, i, hi, rfl⟩)))))⟩, by simp [args, mkT, bdn1, bdn2], fun a ha => ?_⟩, k1⟩
  simp only [args, mkT, List.map_cons, List.map_nil, List.mem_cons, List.not_mem_nil, or_false] at ha
  subst ha
  exact (nm_gd hi).le hd0
 ·have hd0 : 0 < d := by omega
  show ∃ t c', (Option.bind (zq37 N c) fun y24 => Option.bind (zq62 N y24.1.1) fun y25 => Option.bind (zq37 N y24.2.1) fun y26 => Option.bind (zq76 N y25.1.1 y26.1.1) fun y27 => some ((y27.1.1, ()), (y26.2.1, ()))) = _ ∧ _
  obtain ⟨i, c1, e1, hi, k1⟩ := zw2f N hc
  obtain ⟨j, c2, e2, hj, k2⟩ := zw2f N k1
  obtain ⟨tt, ha⟩ := hag i j hi hj
  have ep : zq62 N (nmD i) = some (((4, 0, [mkT (nmD i)], ()), ()), ()) := rfl
  simp only [e1, Option.bind_some, ep, e2, ha]
  refine ⟨_, _, rfl, ⟨⟨Int.le_refl _, (by decide : (0 : Int) ≤ 10000000), .inr (.inr (.inr (.inr (.inr (.inr (.inr (.inl ⟨rfl, rfl, min i j, max i j, by omega, by omega, rfl⟩)))))))⟩, by simp [args, mkT, shD, bdn2], fun a ha => ?_⟩, k2⟩
  simp only [args, mkT, shD, List.mem_cons, List.not_mem_nil, or_false] at ha
  rcases ha with rfl | rfl
  ·exact (nm_gd (i := min i j) (by omega)).le hd0
  ·exact (nm_gd (i := max i j) (by omega)).le hd0
 ·have hd0 : 0 < d := by omega
  show ∃ t c', (Option.bind (zq30 N (9 : Int) c) fun y29 => Option.bind (rc (w64 (((d + 1 : Nat) : Int) - (1 : Int))) y29.2.1) fun y32 => Option.bind (zq58 N (w64 ((1 : Int) + y29.1.1)) ([y32.1.1] : List TT.den)) fun y33 => some ((y33.1.1, ()), (y32.2.1, ()))) = _ ∧ _
  obtain ⟨v, c1, e1, a1, a2, k1⟩ := zw2e N (n := 9) hc (by omega) (by omega)
  obtain ⟨t, c2, r1, r2, r3⟩ := hrc hd0 c1 k1
  have e4 : w64 (1 + v) = 1 + v := w64_of (by omega) (by omega)
  have er : room (0 + ([t] : List TT.den).length) 40 = true := zw3 (by simp only [List.length_cons, List.length_nil]; omega)
  unfold zq58
  rw [w1]
  simp only [e1, Option.bind_some, r1, e4, er, cond_true]
  refine ⟨_, _, rfl, ⟨⟨by show (0 : Int) ≤ 1 + v; omega, by show 1 + v ≤ (10000000 : Int); omega, .inr (.inr (.inr (.inr (.inl rfl))))⟩, by simp [args, mkT, bdn1, bdn2], fun a ha => ?_⟩, r3⟩
  simp only [args, mkT, List.map_cons, List.map_nil, List.mem_cons, List.not_mem_nil, or_false] at ha
  subst ha
  exact r2
 ·have hd0 : 0 < d := by omega
  have : zq36_5 N rc ((d + 1 : Nat) : Int) k c t4 = (Option.bind (rc (w64 (((d + 1 : Nat) : Int) - (1 : Int))) c) fun y36 => Option.bind (rc (w64 (((d + 1 : Nat) : Int) - (1 : Int))) y36.2.1) fun y38 => Option.bind (zq105 N y36.1.1 y38.1.1) fun y39 => some ((y39.1.1, ()), (y38.2.1, ()))) := by rcases hk2 with rfl | rfl <;> rfl
  rw [this]
  obtain ⟨t, c1, r1, r2, r3⟩ := hrc hd0 c hc
  obtain ⟨u, c2, s1, s2, s3⟩ := hrc hd0 c1 r3
  unfold zq105
  rw [w1]
  simp only [Option.bind_some, r1, s1]
  refine ⟨_, _, rfl, ⟨⟨Int.le_refl _, (by decide : (0 : Int) ≤ 10000000), .inr (.inr (.inr (.inr (.inr (.inr (.inr (.inr ⟨rfl, rfl, mkT t, mkT u, rfl⟩)))))))⟩, by simp [args, mkT, bdn1, bdn2], fun a ha => ?_⟩, s3⟩
  simp only [args, mkT, List.map_cons, List.map_nil, List.mem_cons, List.not_mem_nil, or_false] at ha
  rcases ha with rfl | rfl
  ·exact r2
  ·exact s2
 ·have hd0 : 0 < d := by omega
  show ∃ t c', zq36_25 N rc ((d + 1 : Nat) : Int) c t4 = _ ∧ _
  obtain ⟨v, c1, e1, a1, a2, k1⟩ := zw2e N (n := 3) hc (by omega) (by omega)
  obtain ⟨t, c2, r1, r2, r3⟩ := hrc hd0 c1 k1
  unfold zq36_25 zq101
  rw [w1]
  simp only [e1, Option.bind_some, r1]
  refine ⟨_, _, rfl, ⟨⟨a1, by show v ≤ (10000000 : Int); omega, .inr (.inr (.inr (.inr (.inr (.inr (.inl ⟨rfl, mkT t, rfl⟩))))))⟩, by simp [args, mkT, bdn1, bdn2], fun a ha => ?_⟩, r3⟩
  simp only [args, mkT, List.map_cons, List.map_nil, List.mem_cons, List.not_mem_nil, or_false] at ha
  subst ha
  exact r2
theorem zwal : ∀ (d n : Nat), d ≤ 100 → d + 1 ≤ n → ∀ c, COk c → ∃ t c', zw1y N n ((d + 1 : Nat) : Int) c = some ((t, ()), (c', ())) ∧ Gd (d + 1) (mkT t) ∧ COk c'
 | d, 0, _, h, _, _ => absurd h (by omega)
 | d, n + 1, hd, hn, c, hc => by
  show ∃ t c', zq36 N (zw1y N n) ((d + 1 : Nat) : Int) c = _ ∧ _
  have hrc : 0 < d → ∀ c, COk c → ∃ t c', zw1y N n (d : Int) c = some ((t, ()), (c', ())) ∧ Gd d (mkT t) ∧ COk c' := by
   intro h0 c hc
   obtain ⟨d', rfl⟩ : ∃ d', d = d' + 1 := ⟨d - 1, by omega⟩
   exact zwal d' n (by omega) (by omega) c hc
  obtain ⟨k, c1, e1, a1, a2, k1⟩ := zw2e N (n := 12) hc (by omega) (by omega)
  unfold zq36
  simp only [e1, Option.bind_some]
  by_cases hd1 : d = 0
  ·subst hd1
   have e2 : decide (((0 + 1 : Nat) : Int) ≤ 1) = true := rfl
   rw [e2, cond_true]
   unfold zq36_1
   by_cases h3 : 3 < k
   ·rw [decide_eq_true h3, cond_true]
    have e5 : k.tmod 4 = k % 4 := zw4 a1
    rw [e5]
    exact zw63 N hN hag (by omega) hrc (by omega) (by omega) (.inl (by omega)) k1 _
   ·rw [decide_eq_false h3, cond_false]
    exact zw63 N hN hag (by omega) hrc a1 a2 (.inl (by omega)) k1 _
  ·have e2 : decide (((d + 1 : Nat) : Int) ≤ 1) = false := decide_eq_false (by omega)
   rw [e2, cond_false]
   exact zw63 N hN hag (by omega) hrc a1 a2 (.inr (by omega)) k1 _
end
end Go.Proofs.YtajpblfinenmjaaGreatDoor.Pl

namespace Go.Proofs.YtajpblfinenmjaaGreatDoor.Pl
open Go
theorem zwjw (l : List Tree) {i : Nat} {a : Tree} (h : l[i]? = some a) : ((l.take (i + 1)).map kz).flatten = ((l.take i).map kz).flatten ++ kz a := by
 rw [List.take_add_one, h]
 simp
theorem zw64 {l : List Tree} {m : Nat} (h : ∀ a ∈ l, (kz a).length ≤ m) : ((l.map kz).flatten).length ≤ l.length * m := by
 induction l with
 | nil => simp
 | cons a l ih =>
  have h1 := h a (by simp)
  have h2 := ih fun x hx => h x (by simp [hx])
  simp only [List.map_cons, List.flatten_cons, List.length_append, List.length_cons, Nat.succ_mul]
  omega
theorem nbd_le {e : Nat} (he : e ≤ 5) : nbd e ≤ 341 := by
 match e, he with
 | 0, _ => decide
 | 1, _ => decide
 | 2, _ => decide
 | 3, _ => decide
 | 4, _ => decide
 | 5, _ => decide
section
variable (N : Nat) (hN : 4611686018427387904 ≤ N)
include hN
theorem zwam {rc : TT.den → Option (Unit × (List TT.den × Unit))} {t : TT.den} {l : List Tree} (hl : t.2.2.1 = l) (h4 : l.length ≤ 4) {m : Nat} (hm : m ≤ 341) (hrc : ∀ a ∈ l, rc a.un = some ((), (kz a, ())) ∧ (kz a).length ≤ m) :
  zq91_15 N rc 0 t [] = some ((), ((l.map kz).flatten, ())) := by
 have hlen : (List.map Tree.un l).length = l.length := List.length_map ..
 unfold zq91_15
 have hll := zwc (N := N) (step := fun y => zq91_s16 N rc y.1.1 y.2.1 y.2.2.1) (J := fun (e : ((Unit) × ((List TT.den) × Unit))) => zq91_17 N rc e.2.1)
  (I := fun z => 0 ≤ z.1.1 ∧ z.1.1 ≤ (l.length : Int) ∧ z.2.1 = t ∧ z.2.2.1 = ((l.take z.1.1.toNat).map kz).flatten) (μ := fun z => ((l.length : Int) - z.1.1).toNat) (T := fun r => r = ((), ((l.map kz).flatten, ()))) ?_
  (x := (((0 : Int), ()), (t, ([] : List TT.den), ()))) ⟨Int.le_refl _, by simp only; omega, rfl, by simp⟩ (by simp only; omega)
 ·obtain ⟨r, h1, rfl⟩ := hll
  exact h1
 ·rintro ⟨⟨i, ⟨⟩⟩, t', l', ⟨⟩⟩ ⟨g1, g2, g3, g4⟩
  simp only at g1 g2 g3 g4
  subst g3 g4
  simp only [zq91_s16, hl, hlen]
  by_cases hlt : i < (l.length : Int)
  ·obtain ⟨a, ha, hai, hg⟩ := zw1s l g1 hlt ((0 : Int), (0 : Int), ([] : List Tree), ())
   obtain ⟨r1, r2⟩ := hrc a ha
   have e1 : decide (i < (l.length : Int)) = true := decide_eq_true hlt
   have e2 : inR i l.length = true := inR_of g1 hlt
   have e4 : w64 (i + 1) = i + 1 := w64_of (by omega) (by omega)
   have hb := zw64 (l := l.take i.toNat) (m := m) fun x hx => (hrc x (List.mem_of_mem_take hx)).2
   have hb2 : (l.take i.toNat).length ≤ 4 := by rw [List.length_take]; omega
   have hb3 := Nat.mul_le_mul hb2 hm
   have er : room (((l.take i.toNat).map kz).flatten.length + (kz a).length) 40 = true := zw3 (by omega)
   rw [e1, e2, hg, r1]
   simp only [cond_true, Option.bind_some, er, e4]
   refine ⟨_, rfl, ⟨by simp only; omega, by simp only; omega, rfl, ?_⟩, by simp only; omega⟩
   have e5 : (i + 1).toNat = i.toNat + 1 := by omega
   simp only [e5]
   rw [zwjw l hai]
  ·have e1 : decide (i < (l.length : Int)) = false := decide_eq_false hlt
   rw [e1]
   refine ⟨_, rfl, _, rfl, ?_⟩
   have : i.toNat = l.length := by omega
   rw [this, List.take_length]
theorem zwan : ∀ (e n : Nat) (t : Tree), e ≤ 5 → e ≤ n → Gd e t → zw1z N n t.un = some ((), (kz t, ())) ∧ (kz t).length ≤ nbd e
 | 0, _, _, _, _, h => h.elim
 | e + 1, 0, _, _, h, _ => absurd h (by omega)
 | e + 1, n + 1, .mk o v l, he, hn, h => by
  obtain ⟨h1, h2, h3⟩ := h
  have h2' : l.length ≤ 4 := Nat.le_trans h2 (bdn_le _)
  have ih := fun t h => zwan e n t (by omega) (by omega) h
  have hb5 := nbd_le (e := e) (by omega)
  show zq91 N (zw1z N n) (o, v, l, ()) = _ ∧ _ ≤ 1 + 4 * nbd e
  obtain ⟨g0, g1, h⟩ := h1
  rcases h with ⟨rfl, rfl⟩ | ⟨rfl, rfl⟩ | ⟨rfl, rfl⟩ | ⟨rfl, rfl⟩ | rfl | ⟨rfl, rfl, i, hi, rfl⟩ | ⟨rfl, a, rfl⟩ | ⟨rfl, rfl, i, j, hij, hj, rfl⟩ | ⟨rfl, rfl, a, c, rfl⟩
  ·exact ⟨rfl, Nat.zero_le _⟩
  ·exact ⟨rfl, Nat.zero_le _⟩
  ·exact ⟨rfl, by show 1 ≤ _; omega⟩
  ·have hk : kz (.mk 3 0 l) = (l.map kz).flatten := by show (kzl l).flatten = _; rw [zw4o]
   rw [hk]
   have hb := zw64 (l := l) (m := nbd e) fun a ha => (ih a (h3 a ha)).2
   have := Nat.mul_le_mul_right (nbd e) h2'
   exact ⟨zwam N hN (t := (3, 0, l, ())) rfl h2' hb5 fun a ha => ih a (h3 a ha), by omega⟩
  ·exact ⟨rfl, by show 1 ≤ _; omega⟩
  ·exact ⟨rfl, Nat.zero_le _⟩
  ·have hk : kz (.mk 8 v [a]) = ([a].map kz).flatten := rfl
   rw [hk]
   have hb := zw64 (l := [a]) (m := nbd e) fun a ha => (ih a (h3 a ha)).2
   exact ⟨zwam N hN (t := (8, v, [a], ())) rfl h2' hb5 fun a ha => ih a (h3 a ha), by simp only [List.length_cons, List.length_nil] at hb; omega⟩
  ·exact ⟨rfl, by show 1 ≤ _; omega⟩
  ·obtain ⟨k1, k2⟩ := ih c (h3 c (by simp [args]))
   have hk : kz (.mk 7 0 [a, c]) = [a.un] ++ kz c := rfl
   rw [hk]
   refine ⟨?_, by simp only [List.length_append, List.length_cons, List.length_nil]; omega⟩
   show zq91_6 N (zw1z N n) (7, 0, [a, c], ()) = _
   unfold zq91_6
   have e1 : (List.map Tree.un [a, c]) = [a.un, c.un] := rfl
   have e2 : inR (0 : Int) [a.un, c.un].length = true := rfl
   have e2' : inR (1 : Int) [a.un, c.un].length = true := rfl
   have e3 : ∀ z : TT.den, [a.un, c.un].getD 0 z = a.un := fun z => rfl
   have e3' : ∀ z : TT.den, [a.un, c.un].getD 1 z = c.un := fun z => rfl
   have er : room (([a.un] : List TT.den).length + (kz c).length) 40 = true := zw3 (by simp only [List.length_cons, List.length_nil]; omega)
   simp only [e1, e2, e2', e3, e3', cond_true, k1, Option.bind_some, er]
end
theorem kz_gd : ∀ {e : Nat} {t : Tree}, Gd e t → ∀ q ∈ kz t, Gd e (mkT q)
 | 0, _, h => h.elim
 | e + 1, .mk o v l, h => by
  have hh := h
  obtain ⟨h1, h2, h3⟩ := h
  have ih := fun a (ha : a ∈ l) q hq => (kz_gd (h3 a ha) q hq).mono
  obtain ⟨g0, g1, h⟩ := h1
  rcases h with ⟨rfl, rfl⟩ | ⟨rfl, rfl⟩ | ⟨rfl, rfl⟩ | ⟨rfl, rfl⟩ | rfl | ⟨rfl, rfl, i, hi, rfl⟩ | ⟨rfl, a, rfl⟩ | ⟨rfl, rfl, i, j, hij, hj, rfl⟩ | ⟨rfl, rfl, a, c, rfl⟩
  ·intro q hq; cases hq
  ·intro q hq; cases hq
  ·intro q hq
   have : q = (9, v, [], ()) := by simpa using (show q ∈ [((9 : Int), v, ([] : List Tree), ())] from hq)
   subst this; exact hh
  ·intro q hq
   have hk : kz (.mk 3 0 l) = (l.map kz).flatten := by show (kzl l).flatten = _; rw [zw4o]
   rw [hk, List.mem_flatten] at hq
   obtain ⟨x, hx, hqx⟩ := hq
   obtain ⟨a, ha, rfl⟩ := List.mem_map.1 hx
   exact ih a ha q hqx
  ·intro q hq
   have : q = (6, v, l, ()) := by simpa using (show q ∈ [((6 : Int), v, l, ())] from hq)
   subst this; exact hh
  ·intro q hq; cases hq
  ·intro q hq
   have hk : kz (.mk 8 v [a]) = kz a := by show [kz a].flatten = _; simp
   rw [hk] at hq
   exact ih a (by simp) q hq
  ·intro q hq
   have : q = (5, 0, [mkT (nmD i), mkT (nmD j)], ()) := by simpa using (show q ∈ [((5 : Int), (0 : Int), [mkT (nmD i), mkT (nmD j)], ())] from hq)
   subst this; exact hh
  ·intro q hq
   have hk : kz (.mk 7 0 [a, c]) = a.un :: kz c := rfl
   rw [hk, List.mem_cons] at hq
   rcases hq with rfl | hq
   ·rw [mk_un]; exact (h3 a (by simp [args])).mono
   ·exact ih c (by simp) q hq
end Go.Proofs.YtajpblfinenmjaaGreatDoor.Pl

namespace Go.Proofs.YtajpblfinenmjaaGreatDoor.Pl
open Go
theorem frm_0 (j : Nat) (h : 0 ≤ j) (h2 : j < 15) : zq97 18446744073709551616 (shD 0 j) = some ((true, ()), ()) := by
 match j, h, h2 with
 | 0, h, _ => show _ = _; kernel_rfl
 | 1, h, _ => show _ = _; kernel_rfl
 | 2, h, _ => show _ = _; kernel_rfl
 | 3, h, _ => show _ = _; kernel_rfl
 | 4, h, _ => show _ = _; kernel_rfl
 | 5, h, _ => show _ = _; kernel_rfl
 | 6, h, _ => show _ = _; kernel_rfl
 | 7, h, _ => show _ = _; kernel_rfl
 | 8, h, _ => show _ = _; kernel_rfl
 | 9, h, _ => show _ = _; kernel_rfl
 | 10, h, _ => show _ = _; kernel_rfl
 | 11, h, _ => show _ = _; kernel_rfl
 | 12, h, _ => show _ = _; kernel_rfl
 | 13, h, _ => show _ = _; kernel_rfl
 | 14, h, _ => show _ = _; kernel_rfl
 | n + 15, _, h => exact absurd h (by omega)
theorem frm_1 (j : Nat) (h : 1 ≤ j) (h2 : j < 15) : zq97 18446744073709551616 (shD 1 j) = some ((true, ()), ()) := by
 match j, h, h2 with
 | 0, h, _ => exact absurd h (by decide)
 | 1, h, _ => show _ = _; kernel_rfl
 | 2, h, _ => show _ = _; kernel_rfl
 | 3, h, _ => show _ = _; kernel_rfl
 | 4, h, _ => show _ = _; kernel_rfl
 | 5, h, _ => show _ = _; kernel_rfl
 | 6, h, _ => show _ = _; kernel_rfl
 | 7, h, _ => show _ = _; kernel_rfl
 | 8, h, _ => show _ = _; kernel_rfl
 | 9, h, _ => show _ = _; kernel_rfl
 | 10, h, _ => show _ = _; kernel_rfl
 | 11, h, _ => show _ = _; kernel_rfl
 | 12, h, _ => show _ = _; kernel_rfl
 | 13, h, _ => show _ = _; kernel_rfl
 | 14, h, _ => show _ = _; kernel_rfl
 | n + 15, _, h => exact absurd h (by omega)
theorem frm_2 (j : Nat) (h : 2 ≤ j) (h2 : j < 15) : zq97 18446744073709551616 (shD 2 j) = some ((true, ()), ()) := by
 match j, h, h2 with
 | 0, h, _ => exact absurd h (by decide)
 | 1, h, _ => exact absurd h (by decide)
 | 2, h, _ => show _ = _; kernel_rfl
 | 3, h, _ => show _ = _; kernel_rfl
 | 4, h, _ => show _ = _; kernel_rfl
 | 5, h, _ => show _ = _; kernel_rfl
 | 6, h, _ => show _ = _; kernel_rfl
 | 7, h, _ => show _ = _; kernel_rfl
 | 8, h, _ => show _ = _; kernel_rfl
 | 9, h, _ => show _ = _; kernel_rfl
 | 10, h, _ => show _ = _; kernel_rfl
 | 11, h, _ => show _ = _; kernel_rfl
 | 12, h, _ => show _ = _; kernel_rfl
 | 13, h, _ => show _ = _; kernel_rfl
 | 14, h, _ => show _ = _; kernel_rfl
 | n + 15, _, h => exact absurd h (by omega)
theorem frm_3 (j : Nat) (h : 3 ≤ j) (h2 : j < 15) : zq97 18446744073709551616 (shD 3 j) = some ((true, ()), ()) := by
 match j, h, h2 with
 | 0, h, _ => exact absurd h (by decide)
 | 1, h, _ => exact absurd h (by decide)
 | 2, h, _ => exact absurd h (by decide)
 | 3, h, _ => show _ = _; kernel_rfl
 | 4, h, _ => show _ = _; kernel_rfl
 | 5, h, _ => show _ = _; kernel_rfl
 | 6, h, _ => show _ = _; kernel_rfl
 | 7, h, _ => show _ = _; kernel_rfl
 | 8, h, _ => show _ = _; kernel_rfl
 | 9, h, _ => show _ = _; kernel_rfl
 | 10, h, _ => show _ = _; kernel_rfl
 | 11, h, _ => show _ = _; kernel_rfl
 | 12, h, _ => show _ = _; kernel_rfl
 | 13, h, _ => show _ = _; kernel_rfl
 | 14, h, _ => show _ = _; kernel_rfl
 | n + 15, _, h => exact absurd h (by omega)
theorem frm_4 (j : Nat) (h : 4 ≤ j) (h2 : j < 15) : zq97 18446744073709551616 (shD 4 j) = some ((true, ()), ()) := by
 match j, h, h2 with
 | 0, h, _ => exact absurd h (by decide)
 | 1, h, _ => exact absurd h (by decide)
 | 2, h, _ => exact absurd h (by decide)
 | 3, h, _ => exact absurd h (by decide)
 | 4, h, _ => show _ = _; kernel_rfl
 | 5, h, _ => show _ = _; kernel_rfl
 | 6, h, _ => show _ = _; kernel_rfl
 | 7, h, _ => show _ = _; kernel_rfl
 | 8, h, _ => show _ = _; kernel_rfl
 | 9, h, _ => show _ = _; kernel_rfl
 | 10, h, _ => show _ = _; kernel_rfl
 | 11, h, _ => show _ = _; kernel_rfl
 | 12, h, _ => show _ = _; kernel_rfl
 | 13, h, _ => show _ = _; kernel_rfl
 | 14, h, _ => show _ = _; kernel_rfl
 | n + 15, _, h => exact absurd h (by omega)
theorem frm_5 (j : Nat) (h : 5 ≤ j) (h2 : j < 15) : zq97 18446744073709551616 (shD 5 j) = some ((true, ()), ()) := by
 match j, h, h2 with
 | 0, h, _ => exact absurd h (by decide)
 | 1, h, _ => exact absurd h (by decide)
 | 2, h, _ => exact absurd h (by decide)
 | 3, h, _ => exact absurd h (by decide)
 | 4, h, _ => exact absurd h (by decide)
 | 5, h, _ => show _ = _; kernel_rfl
 | 6, h, _ => show _ = _; kernel_rfl
 | 7, h, _ => show _ = _; kernel_rfl
 | 8, h, _ => show _ = _; kernel_rfl
 | 9, h, _ => show _ = _; kernel_rfl
 | 10, h, _ => show _ = _; kernel_rfl
 | 11, h, _ => show _ = _; kernel_rfl
 | 12, h, _ => show _ = _; kernel_rfl
 | 13, h, _ => show _ = _; kernel_rfl
 | 14, h, _ => show _ = _; kernel_rfl
 | n + 15, _, h => exact absurd h (by omega)
theorem frm_6 (j : Nat) (h : 6 ≤ j) (h2 : j < 15) : zq97 18446744073709551616 (shD 6 j) = some ((true, ()), ()) := by
 match j, h, h2 with
 | 0, h, _ => exact absurd h (by decide)
 | 1, h, _ => exact absurd h (by decide)
 | 2, h, _ => exact absurd h (by decide)
 | 3, h, _ => exact absurd h (by decide)
 | 4, h, _ => exact absurd h (by decide)
 | 5, h, _ => exact absurd h (by decide)
 | 6, h, _ => show _ = _; kernel_rfl
 | 7, h, _ => show _ = _; kernel_rfl
 | 8, h, _ => show _ = _; kernel_rfl
 | 9, h, _ => show _ = _; kernel_rfl
 | 10, h, _ => show _ = _; kernel_rfl
 | 11, h, _ => show _ = _; kernel_rfl
 | 12, h, _ => show _ = _; kernel_rfl
 | 13, h, _ => show _ = _; kernel_rfl
 | 14, h, _ => show _ = _; kernel_rfl
 | n + 15, _, h => exact absurd h (by omega)
theorem frm_7 (j : Nat) (h : 7 ≤ j) (h2 : j < 15) : zq97 18446744073709551616 (shD 7 j) = some ((true, ()), ()) := by
 match j, h, h2 with
 | 0, h, _ => exact absurd h (by decide)
 | 1, h, _ => exact absurd h (by decide)
 | 2, h, _ => exact absurd h (by decide)
 | 3, h, _ => exact absurd h (by decide)
 | 4, h, _ => exact absurd h (by decide)
 | 5, h, _ => exact absurd h (by decide)
 | 6, h, _ => exact absurd h (by decide)
 | 7, h, _ => show _ = _; kernel_rfl
 | 8, h, _ => show _ = _; kernel_rfl
 | 9, h, _ => show _ = _; kernel_rfl
 | 10, h, _ => show _ = _; kernel_rfl
 | 11, h, _ => show _ = _; kernel_rfl
 | 12, h, _ => show _ = _; kernel_rfl
 | 13, h, _ => show _ = _; kernel_rfl
 | 14, h, _ => show _ = _; kernel_rfl
 | n + 15, _, h => exact absurd h (by omega)
theorem frm_8 (j : Nat) (h : 8 ≤ j) (h2 : j < 15) : zq97 18446744073709551616 (shD 8 j) = some ((true, ()), ()) := by
 match j, h, h2 with
 | 0, h, _ => exact absurd h (by decide)
 | 1, h, _ => exact absurd h (by decide)
 | 2, h, _ => exact absurd h (by decide)
 | 3, h, _ => exact absurd h (by decide)
 | 4, h, _ => exact absurd h (by decide)
 | 5, h, _ => exact absurd h (by decide)
 | 6, h, _ => exact absurd h (by decide)
 | 7, h, _ => exact absurd h (by decide)
 | 8, h, _ => show _ = _; kernel_rfl
 | 9, h, _ => show _ = _; kernel_rfl
 | 10, h, _ => show _ = _; kernel_rfl
 | 11, h, _ => show _ = _; kernel_rfl
 | 12, h, _ => show _ = _; kernel_rfl
 | 13, h, _ => show _ = _; kernel_rfl
 | 14, h, _ => show _ = _; kernel_rfl
 | n + 15, _, h => exact absurd h (by omega)
theorem frm_9 (j : Nat) (h : 9 ≤ j) (h2 : j < 15) : zq97 18446744073709551616 (shD 9 j) = some ((true, ()), ()) := by
 match j, h, h2 with
 | 0, h, _ => exact absurd h (by decide)
 | 1, h, _ => exact absurd h (by decide)
 | 2, h, _ => exact absurd h (by decide)
 | 3, h, _ => exact absurd h (by decide)
 | 4, h, _ => exact absurd h (by decide)
 | 5, h, _ => exact absurd h (by decide)
 | 6, h, _ => exact absurd h (by decide)
 | 7, h, _ => exact absurd h (by decide)
 | 8, h, _ => exact absurd h (by decide)
 | 9, h, _ => show _ = _; kernel_rfl
 | 10, h, _ => show _ = _; kernel_rfl
 | 11, h, _ => show _ = _; kernel_rfl
 | 12, h, _ => show _ = _; kernel_rfl
 | 13, h, _ => show _ = _; kernel_rfl
 | 14, h, _ => show _ = _; kernel_rfl
 | n + 15, _, h => exact absurd h (by omega)
theorem frm_10 (j : Nat) (h : 10 ≤ j) (h2 : j < 15) : zq97 18446744073709551616 (shD 10 j) = some ((true, ()), ()) := by
 match j, h, h2 with
 | 0, h, _ => exact absurd h (by decide)
 | 1, h, _ => exact absurd h (by decide)
 | 2, h, _ => exact absurd h (by decide)
 | 3, h, _ => exact absurd h (by decide)
 | 4, h, _ => exact absurd h (by decide)
 | 5, h, _ => exact absurd h (by decide)
 | 6, h, _ => exact absurd h (by decide)
 | 7, h, _ => exact absurd h (by decide)
 | 8, h, _ => exact absurd h (by decide)
 | 9, h, _ => exact absurd h (by decide)
 | 10, h, _ => show _ = _; kernel_rfl
 | 11, h, _ => show _ = _; kernel_rfl
 | 12, h, _ => show _ = _; kernel_rfl
 | 13, h, _ => show _ = _; kernel_rfl
 | 14, h, _ => show _ = _; kernel_rfl
 | n + 15, _, h => exact absurd h (by omega)
theorem frm_11 (j : Nat) (h : 11 ≤ j) (h2 : j < 15) : zq97 18446744073709551616 (shD 11 j) = some ((true, ()), ()) := by
 match j, h, h2 with
 | 0, h, _ => exact absurd h (by decide)
 | 1, h, _ => exact absurd h (by decide)
 | 2, h, _ => exact absurd h (by decide)
 | 3, h, _ => exact absurd h (by decide)
 | 4, h, _ => exact absurd h (by decide)
 | 5, h, _ => exact absurd h (by decide)
 | 6, h, _ => exact absurd h (by decide)
 | 7, h, _ => exact absurd h (by decide)
 | 8, h, _ => exact absurd h (by decide)
 | 9, h, _ => exact absurd h (by decide)
 | 10, h, _ => exact absurd h (by decide)
 | 11, h, _ => show _ = _; kernel_rfl
 | 12, h, _ => show _ = _; kernel_rfl
 | 13, h, _ => show _ = _; kernel_rfl
 | 14, h, _ => show _ = _; kernel_rfl
 | n + 15, _, h => exact absurd h (by omega)
theorem frm_12 (j : Nat) (h : 12 ≤ j) (h2 : j < 15) : zq97 18446744073709551616 (shD 12 j) = some ((true, ()), ()) := by
 match j, h, h2 with
 | 0, h, _ => exact absurd h (by decide)
 | 1, h, _ => exact absurd h (by decide)
 | 2, h, _ => exact absurd h (by decide)
 | 3, h, _ => exact absurd h (by decide)
 | 4, h, _ => exact absurd h (by decide)
 | 5, h, _ => exact absurd h (by decide)
 | 6, h, _ => exact absurd h (by decide)
 | 7, h, _ => exact absurd h (by decide)
 | 8, h, _ => exact absurd h (by decide)
 | 9, h, _ => exact absurd h (by decide)
 | 10, h, _ => exact absurd h (by decide)
 | 11, h, _ => exact absurd h (by decide)
 | 12, h, _ => show _ = _; kernel_rfl
 | 13, h, _ => show _ = _; kernel_rfl
 | 14, h, _ => show _ = _; kernel_rfl
 | n + 15, _, h => exact absurd h (by omega)
theorem frm_13 (j : Nat) (h : 13 ≤ j) (h2 : j < 15) : zq97 18446744073709551616 (shD 13 j) = some ((true, ()), ()) := by
 match j, h, h2 with
 | 0, h, _ => exact absurd h (by decide)
 | 1, h, _ => exact absurd h (by decide)
 | 2, h, _ => exact absurd h (by decide)
 | 3, h, _ => exact absurd h (by decide)
 | 4, h, _ => exact absurd h (by decide)
 | 5, h, _ => exact absurd h (by decide)
 | 6, h, _ => exact absurd h (by decide)
 | 7, h, _ => exact absurd h (by decide)
 | 8, h, _ => exact absurd h (by decide)
 | 9, h, _ => exact absurd h (by decide)
 | 10, h, _ => exact absurd h (by decide)
 | 11, h, _ => exact absurd h (by decide)
 | 12, h, _ => exact absurd h (by decide)
 | 13, h, _ => show _ = _; kernel_rfl
 | 14, h, _ => show _ = _; kernel_rfl
 | n + 15, _, h => exact absurd h (by omega)
theorem frm_14 (j : Nat) (h : 14 ≤ j) (h2 : j < 15) : zq97 18446744073709551616 (shD 14 j) = some ((true, ()), ()) := by
 match j, h, h2 with
 | 0, h, _ => exact absurd h (by decide)
 | 1, h, _ => exact absurd h (by decide)
 | 2, h, _ => exact absurd h (by decide)
 | 3, h, _ => exact absurd h (by decide)
 | 4, h, _ => exact absurd h (by decide)
 | 5, h, _ => exact absurd h (by decide)
 | 6, h, _ => exact absurd h (by decide)
 | 7, h, _ => exact absurd h (by decide)
 | 8, h, _ => exact absurd h (by decide)
 | 9, h, _ => exact absurd h (by decide)
 | 10, h, _ => exact absurd h (by decide)
 | 11, h, _ => exact absurd h (by decide)
 | 12, h, _ => exact absurd h (by decide)
 | 13, h, _ => exact absurd h (by decide)
 | 14, h, _ => show _ = _; kernel_rfl
 | n + 15, _, h => exact absurd h (by omega)
theorem zwjx (i j : Nat) (h : i ≤ j) (h2 : j < 15) : zq97 18446744073709551616 (shD i j) = some ((true, ()), ()) := by
 have hi : i < 15 := by omega
 match i, hi with
 | 0, _ => exact frm_0 j h h2
 | 1, _ => exact frm_1 j h h2
 | 2, _ => exact frm_2 j h h2
 | 3, _ => exact frm_3 j h h2
 | 4, _ => exact frm_4 j h h2
 | 5, _ => exact frm_5 j h h2
 | 6, _ => exact frm_6 j h h2
 | 7, _ => exact frm_7 j h h2
 | 8, _ => exact frm_8 j h h2
 | 9, _ => exact frm_9 j h h2
 | 10, _ => exact frm_10 j h h2
 | 11, _ => exact frm_11 j h h2
 | 12, _ => exact frm_12 j h h2
 | 13, _ => exact frm_13 j h h2
 | 14, _ => exact frm_14 j h h2
 | n + 15, h => exact absurd h (by omega)
end Go.Proofs.YtajpblfinenmjaaGreatDoor.Pl

namespace Go.Proofs.YtajpblfinenmjaaGreatDoor.Pl
open Go
section
variable (N : Nat) (hN : 4611686018427387904 ≤ N)
include hN
theorem zwao : ∀ (e n : Nat) (t : Tree), e ≤ 5 → e ≤ n → Gd e t → ∃ m : Int, zw20 N n t.un = some ((m, ()), ()) ∧ 1 ≤ m ∧ m ≤ (nbd e : Int)
 | 0, _, _, _, _, h => h.elim
 | e + 1, 0, _, _, h, _ => absurd h (by omega)
 | e + 1, n + 1, .mk o v l, he, hn, h => by
  obtain ⟨h1, h2, h3⟩ := h
  have h2' : l.length ≤ 4 := Nat.le_trans h2 (bdn_le _)
  have ih := fun t h => zwao e n t (by omega) (by omega) h
  have hb5 := nbd_le (e := e) (by omega)
  have hb6 : nbd (e + 1) ≤ 600 := Nat.le_trans (nbd_le he) (by decide)
  obtain ⟨M, hM⟩ : ∃ M, M = nbd e := ⟨_, rfl⟩
  have hM1 : nbd (e + 1) = 1 + 4 * M := by rw [hM]; rfl
  have hlen : (List.map Tree.un l).length = l.length := List.length_map ..
  show ∃ m : Int, zq71 N (zw20 N n) (o, v, l, ()) = _ ∧ _
  unfold zq71 zq71_1
  have hll := zwc (N := N) (step := fun y => zq71_s2 N (zw20 N n) y.1.1 y.1.2.1 y.2.1) (J := fun (e : ((Int × Unit) × (Unit))) => zq71_4 N (zw20 N n) e.1.1)
   (I := fun z => 1 ≤ z.1.1 ∧ 0 ≤ z.1.2.1 ∧ z.1.2.1 ≤ (l.length : Int) ∧ z.1.1 ≤ 1 + ((z.1.2.1.toNat * M : Nat) : Int) ∧ z.2.1 = (o, v, l, ())) (μ := fun z => ((l.length : Int) - z.1.2.1).toNat) (T := fun r => ∃ m : Int, r = ((m, ()), ()) ∧ 1 ≤ m ∧ m ≤ (nbd (e + 1) : Int)) ?_
   (x := (((1 : Int), (0 : Int), ()), ((o, v, l, ()), ()))) ⟨Int.le_refl _, Int.le_refl _, by simp only; omega, by simp, rfl⟩ (by simp only; omega)
  ·obtain ⟨r, q1, m, rfl, q2, q3⟩ := hll
   exact ⟨m, q1, q2, q3⟩
  ·rintro ⟨⟨c, i, ⟨⟩⟩, t', ⟨⟩⟩ ⟨g1, g2, g3, g4, g5⟩
   simp only at g1 g2 g3 g4 g5
   subst g5
   have hi4 : i.toNat * M ≤ 4 * M := Nat.mul_le_mul_right M (by omega)
   simp only [zq71_s2, hlen]
   by_cases hlt : i < (l.length : Int)
   ·obtain ⟨a, ha, _, hg⟩ := zw1s l g2 hlt ((0 : Int), (0 : Int), ([] : List Tree), ())
    obtain ⟨m, r1, r2, r3⟩ := ih a (h3 a ha)
    have e1 : decide (i < (l.length : Int)) = true := decide_eq_true hlt
    have e2 : inR i (List.map Tree.un l).length = true := inR_of g2 (by rw [hlen]; exact hlt)
    have hi5 : (i.toNat + 1) * M ≤ 4 * M := Nat.mul_le_mul_right M (by omega)
    have hi6 : (i.toNat + 1) * M = i.toNat * M + M := Nat.succ_mul ..
    have e3 : decide (c ≤ (600 : Int)) = true := decide_eq_true (by omega)
    have e4 : w64 (i + 1) = i + 1 := w64_of (by omega) (by omega)
    have e5 : w64 (c + m) = c + m := w64_of (by omega) (by omega)
    rw [e1, e3, cond_true]
    unfold zq71_3
    simp only [cond_true, e2, hg, r1, Option.bind_some, e4, e5]
    have e6 : (i + 1).toNat = i.toNat + 1 := by omega
    refine ⟨_, rfl, ⟨by simp only; omega, by simp only; omega, by simp only; omega, ?_, rfl⟩, by simp only; omega⟩
    simp only [e6]
    omega
   ·rw [decide_eq_false hlt, cond_false]
    unfold zq71_3
    rw [cond_false]
    refine ⟨_, rfl, _, rfl, c, ?_, g1, by omega⟩
    have e7 : decide ((601 : Int) < c) = false := decide_eq_false (by omega)
    rw [e7]
    rfl
theorem zwap : ∀ (e n : Nat) (t : Tree) (k : Int), e ≤ n → (e : Int) ≤ k → k ≤ 60 → Gd e t → zw21 N n t.un k = some ((true, ()), ())
 | 0, _, _, _, _, _, _, h => h.elim
 | e + 1, 0, _, _, h, _, _, _ => absurd h (by omega)
 | e + 1, n + 1, .mk o v l, k, hn, hk, hk2, h => by
  obtain ⟨h1, h2, h3⟩ := h
  have h2' : l.length ≤ 4 := Nat.le_trans h2 (bdn_le _)
  have ih := fun t h => zwap e n t (k - 1) (by omega) (by omega) (by omega) h
  have hlen : (List.map Tree.un l).length = l.length := List.length_map ..
  show zq79 N (zw21 N n) (o, v, l, ()) k = _
  unfold zq79
  have e0 : decide (k < (1 : Int)) = false := decide_eq_false (by omega)
  rw [e0, cond_false]
  unfold zq79_1
  have hll := zwc (N := N) (step := fun y => zq79_s2 N (zw21 N n) y.1.1 y.1.2.1 y.2.1) (J := fun (e : ((Unit) × (Unit))) => zq79_3 N (zw21 N n))
   (I := fun z => z.1.1 = k ∧ 0 ≤ z.1.2.1 ∧ z.1.2.1 ≤ (l.length : Int) ∧ z.2.1 = (o, v, l, ())) (μ := fun z => ((l.length : Int) - z.1.2.1).toNat) (T := fun r => r = ((true, ()), ())) ?_
   (x := ((k, (0 : Int), ()), ((o, v, l, ()), ()))) ⟨rfl, Int.le_refl _, by simp only; omega, rfl⟩ (by simp only; omega)
  ·obtain ⟨r, q1, rfl⟩ := hll
   exact q1
  ·rintro ⟨⟨c, i, ⟨⟩⟩, t', ⟨⟩⟩ ⟨g1, g2, g3, g5⟩
   simp only at g1 g2 g3 g5
   subst g1 g5
   simp only [zq79_s2, hlen]
   by_cases hlt : i < (l.length : Int)
   ·obtain ⟨a, ha, _, hg⟩ := zw1s l g2 hlt ((0 : Int), (0 : Int), ([] : List Tree), ())
    have e1 : decide (i < (l.length : Int)) = true := decide_eq_true hlt
    have e2 : inR i l.length = true := inR_of g2 hlt
    have e3 : w64 (c - 1) = c - 1 := w64_of (by omega) (by omega)
    have e4 : w64 (i + 1) = i + 1 := w64_of (by omega) (by omega)
    rw [e1, e2, hg, e3, ih a (h3 a ha)]
    simp only [cond_true, Option.bind_some, Bool.not_true, cond_false, e4]
    exact ⟨_, rfl, ⟨rfl, by simp only; omega, by simp only; omega, rfl⟩, by simp only; omega⟩
   ·rw [decide_eq_false hlt]
    exact ⟨_, rfl, _, rfl, rfl⟩
end
section
variable (N : Nat) (hN : 4611686018427387904 ≤ N) (hfm : ∀ i j, i ≤ j → j < 15 → zq97 N (shD i j) = some ((true, ()), ()))
include hfm
theorem zwjy {t : Tree} (h : SOk t) : zq97 N t.un = some ((true, ()), ()) := by
 obtain ⟨o, v, l⟩ := t
 obtain ⟨h0, h1, h⟩ := h
 have e0 : decide ((0 : Int) ≤ v) = true := decide_eq_true h0
 rcases h with ⟨rfl, rfl⟩ | ⟨rfl, rfl⟩ | ⟨rfl, rfl⟩ | ⟨rfl, rfl⟩ | rfl | ⟨rfl, rfl, i, hi, rfl⟩ | ⟨rfl, a, rfl⟩ | ⟨rfl, rfl, i, j, hij, hj, rfl⟩ | ⟨rfl, rfl, a, b, rfl⟩
 ·rfl
 ·show some ((decide ((0 : Int) ≤ v), ()), ()) = _
  rw [e0]
 ·show some ((decide ((0 : Int) ≤ v), ()), ()) = _
  rw [e0]
 ·rfl
 ·show some ((decide ((0 : Int) ≤ v), ()), ()) = _
  rw [e0]
 ·rfl
 ·show some ((decide ((0 : Int) ≤ v), ()), ()) = _
  rw [e0]
 ·exact hfm i j hij hj
 ·rfl
include hN
theorem zwaq : ∀ (e n : Nat) (t : Tree), e ≤ n → Gd e t → zw1q N n t.un = some ((true, ()), ())
 | 0, _, _, _, h => h.elim
 | e + 1, 0, _, h, _ => absurd h (by omega)
 | e + 1, n + 1, .mk o v l, hn, h => by
  obtain ⟨h1, h2, h3⟩ := h
  have h2' : l.length ≤ 4 := Nat.le_trans h2 (bdn_le _)
  have ih := fun t h => zwaq e n t (by omega) h
  have hlen : (List.map Tree.un l).length = l.length := List.length_map ..
  have hfo := zwjy N hfm h1
  have hfo' : zq97 N (o, v, l, ()) = some ((true, ()), ()) := hfo
  show zq85 N (zw1q N n) (o, v, l, ()) = _
  unfold zq85 zq85_1
  have hll := zwc (N := N) (step := fun y => zq85_s2 N (zw1q N n) y.1.1 y.2.1) (J := fun (e : ((Unit) × (TT.den × Unit))) => zq85_3 N (zw1q N n) e.2.1)
   (I := fun z => 0 ≤ z.1.1 ∧ z.1.1 ≤ (l.length : Int) ∧ z.2.1 = (o, v, l, ())) (μ := fun z => ((l.length : Int) - z.1.1).toNat) (T := fun r => r = ((true, ()), ())) ?_
   (x := (((0 : Int), ()), ((o, v, l, ()), ()))) ⟨Int.le_refl _, by simp only; omega, rfl⟩ (by simp only; omega)
  ·obtain ⟨r, q1, rfl⟩ := hll
   exact q1
  ·rintro ⟨⟨i, ⟨⟩⟩, t', ⟨⟩⟩ ⟨g2, g3, g5⟩
   simp only at g2 g3 g5
   subst g5
   simp only [zq85_s2, hlen]
   by_cases hlt : i < (l.length : Int)
   ·obtain ⟨a, ha, _, hg⟩ := zw1s l g2 hlt ((0 : Int), (0 : Int), ([] : List Tree), ())
    have e1 : decide (i < (l.length : Int)) = true := decide_eq_true hlt
    have e2 : inR i l.length = true := inR_of g2 hlt
    have e4 : w64 (i + 1) = i + 1 := w64_of (by omega) (by omega)
    rw [e1, e2, hg, ih a (h3 a ha)]
    simp only [cond_true, Option.bind_some, Bool.not_true, cond_false, e4]
    exact ⟨_, rfl, ⟨by simp only; omega, by simp only; omega, rfl⟩, by simp only; omega⟩
   ·rw [decide_eq_false hlt]
    refine ⟨_, rfl, _, ?_, rfl⟩
    show zq85_3 N (zw1q N n) (o, v, l, ()) = _
    unfold zq85_3
    rw [hfo']
    rfl
theorem zwar {e : Nat} (he : e ≤ 5) {t : Tree} (h : Gd e t) : zq77 N t.un = some ((true, ()), ()) := by
 obtain ⟨m, h1, h2, h3⟩ := zwao N hN e N t he (by omega) h
 have hb := nbd_le he
 unfold zq77
 have e1 : decide (m ≤ (600 : Int)) = true := decide_eq_true (by omega)
 simp only [h1, Option.bind_some, e1, cond_true, zwap N hN e N t 60 (by omega) (by omega) (by omega) h, zwaq N hN hfm e N t (by omega) h]
end
end Go.Proofs.YtajpblfinenmjaaGreatDoor.Pl

namespace Go.Proofs.YtajpblfinenmjaaGreatDoor.Pl
open Go
theorem zwjz (N : Nat) (hN : 4611686018427387904 ≤ N) {k : List UInt8} (hk : k.length ≤ 10000) : zq43 N k = some ((cut (hmac k [(1 : UInt8)]) 0 8, ()), ()) := by
 unfold zq43
 rw [zw4k N (show k.length ≤ 17592186044416 by omega) (show [(1 : UInt8)].length ≤ 17592186044416 by decide) hN, Option.bind_some]
 have hl := zw2n k [(1 : UInt8)]
 generalize hmac k [(1 : UInt8)] = z at hl
 have e1 : decide ((8 : Int) ≤ (z.length : Int)) = true := decide_eq_true (by omega)
 have e0 : decide (0 ≤ (0 : Int)) = true := by decide
 have e8 : decide ((0 : Int) ≤ (8 : Int)) = true := by decide
 simp only [e0, e1, e8, Bool.and_self, cond_true]
theorem zwas (N : Nat) (hN : 4611686018427387904 ≤ N) (hsh : ∀ i j, i ≤ j → j < 15 → zq100 N (shD i j) = some ((true, ()), ())) {e : Nat} (he : e ≤ 5) {t : Tree} (h : Gd e t) : zq51 N t.un t.un = some ((true, ()), ()) := by
 have hn := nbd_le he
 obtain ⟨out, h1, h2⟩ := enc_ok hN e N t [] (by omega) h (by simp only [List.length_nil]; omega)
 have hE : zq38 N t.un = some ((0, ()), (out, ())) := by
  unfold zq38
  rw [zw2y N hsh he h]
  simp only [Option.bind_some, Bool.not_true, cond_false, h1]
 simp only [List.length_nil] at h2
 unfold zq51
 simp only [hE, Option.bind_some, decide_true, cond_true]
 rw [seq_ok N hN (by omega)]
 simp
section
variable (N : Nat) (hN : 4611686018427387904 ≤ N)
include hN
theorem eq_ok : ∀ (e n : Nat) (t u : Tree), e ≤ n → Gd e t → ∃ r, zw1j N n t.un u.un = some ((r, ()), ()) ∧ (r = true ↔ t = u)
 | 0, _, _, _, _, h => h.elim
 | e + 1, 0, _, _, h, _ => absurd h (by omega)
 | e + 1, n + 1, .mk o v l, .mk o' v' l', hn, h => by
  obtain ⟨h1, h2, h3⟩ := h
  have h2' : l.length ≤ 4 := Nat.le_trans h2 (bdn_le _)
  have ih := fun t u h => eq_ok e n t u (by omega) h
  have hlen : (List.map Tree.un l).length = l.length := List.length_map ..
  have hlen' : (List.map Tree.un l').length = l'.length := List.length_map ..
  show ∃ r, zq70 N (zw1j N n) (o, v, l, ()) (o', v', l', ()) = _ ∧ _
  unfold zq70
  by_cases ho : o = o'
  ·subst ho
   simp only [decide_true, Bool.not_true, cond_false]
   by_cases hv : v = v'
   ·subst hv
    simp only [decide_true, Bool.not_true, cond_false, hlen, hlen']
    by_cases hl : l.length = l'.length
    ·have e0 : decide ((l.length : Int) = (l'.length : Int)) = true := decide_eq_true (by omega)
     simp only [e0, Bool.not_true]
     unfold zq70_1
     rw [cond_false]
     unfold zq70_2
     have hll := zwc (N := N) (step := fun y => zq70_s3 N (zw1j N n) y.1.1 y.2.1 y.2.2.1) (J := fun (e : ((Unit) × (Unit))) => zq70_4 N (zw1j N n))
      (I := fun z => 0 ≤ z.1.1 ∧ z.1.1 ≤ (l.length : Int) ∧ z.2.1 = (o, v, l, ()) ∧ z.2.2.1 = (o, v, l', ()) ∧ l.take z.1.1.toNat = l'.take z.1.1.toNat) (μ := fun z => ((l.length : Int) - z.1.1).toNat) (T := fun r => ∃ b, r = ((b, ()), ()) ∧ (b = true ↔ l = l')) ?_
      (x := (((0 : Int), ()), ((o, v, l, ()), (o, v, l', ()), ()))) ⟨Int.le_refl _, by simp only; omega, rfl, rfl, by simp⟩ (by simp only; omega)
     ·obtain ⟨r, q1, b, rfl, q2⟩ := hll
      exact ⟨b, q1, by rw [q2]; simp⟩
     ·rintro ⟨⟨i, ⟨⟩⟩, a', b', ⟨⟩⟩ ⟨g1, g2, g3, g4, g5⟩
      simp only at g1 g2 g3 g4 g5
      subst g3 g4
      simp only [zq70_s3, hlen, hlen']
      by_cases hlt : i < (l.length : Int)
      ·obtain ⟨a, ha, hai, hg⟩ := zw1s l g1 hlt ((0 : Int), (0 : Int), ([] : List Tree), ())
       obtain ⟨c, hc, hci, hg'⟩ := zw1s l' g1 (by omega) ((0 : Int), (0 : Int), ([] : List Tree), ())
       obtain ⟨r, r1, r2⟩ := ih a c (h3 a ha)
       have e1 : decide (i < (l.length : Int)) = true := decide_eq_true hlt
       have e2 : inR i l.length = true := inR_of g1 hlt
       have e3 : inR i l'.length = true := inR_of g1 (by omega)
       have e4 : w64 (i + 1) = i + 1 := w64_of (by omega) (by omega)
       rw [e1, e2, e3, hg, hg', r1]
       simp only [cond_true, Option.bind_some, e4]
       cases r with
       | true =>
        have hac := r2.1 rfl
        subst hac
        refine ⟨_, rfl, ⟨by simp only; omega, by simp only; omega, rfl, rfl, ?_⟩, by simp only; omega⟩
        have e5 : (i + 1).toNat = i.toNat + 1 := by omega
        simp only [e5]
        rw [List.take_add_one, List.take_add_one, hai, hci, g5]
       | false =>
        refine ⟨_, rfl, false, rfl, ⟨fun h => Bool.noConfusion h, fun h => ?_⟩⟩
        subst h
        rw [hai] at hci
        cases hci
        have := r2.2 rfl
        cases this
      ·rw [decide_eq_false hlt]
       refine ⟨_, rfl, _, rfl, true, rfl, ⟨fun _ => ?_, fun _ => rfl⟩⟩
       have : i.toNat = l.length := by omega
       rw [this, List.take_length, hl, List.take_length] at g5
       exact g5
    ·have e0 : decide ((l.length : Int) = (l'.length : Int)) = false := decide_eq_false (by omega)
     simp only [e0, Bool.not_false]
     exact ⟨false, rfl, ⟨fun h => Bool.noConfusion h, fun h => by cases h; exact absurd rfl hl⟩⟩
   ·rw [decide_eq_false hv]
    exact ⟨false, rfl, ⟨fun h => Bool.noConfusion h, fun h => by cases h; exact absurd rfl hv⟩⟩
  ·rw [decide_eq_false ho]
   exact ⟨false, rfl, ⟨fun h => Bool.noConfusion h, fun h => by cases h; exact absurd rfl ho⟩⟩
end
end Go.Proofs.YtajpblfinenmjaaGreatDoor.Pl

namespace Go.Proofs.YtajpblfinenmjaaGreatDoor.Pl
open Go
theorem byte44 {v : Int} (h0 : 0 ≤ v) (h1 : v ≤ 10000000) {s : Nat} (hs : s < 64) : iu8 (shrI v s) = (shr64 (iu64 v) s).toUInt8 := by
 have hv := zw2d h0 h1
 obtain ⟨m, rfl⟩ := Int.eq_ofNat_of_zero_le h0
 have hm : (iu64 (m : Int)).toNat = m := by omega
 apply UInt8.toNat_inj.1
 have e1 : min s 64 = s := by omega
 have e2 : (m : Int).fdiv (2 ^ s) = ((m / 2 ^ s : Nat) : Int) := by
  rw [Int.fdiv_eq_ediv_of_nonneg _ (by exact Int.le_of_lt (Int.pow_pos (by decide)))]
  norm_cast
 unfold iu8 shrI shr64
 rw [e1, e2]
 have e3 : (UInt64.ofBitVec ((iu64 (m : Int)).toBitVec >>> s)).toNat = m / 2 ^ s := by
  rw [UInt64.toNat_ofBitVec, BitVec.toNat_ushiftRight, Nat.shiftRight_eq_div_pow, UInt64.toNat_toBitVec, hm]
 rw [UInt64.toNat_toUInt8, e3, UInt8.toNat_ofBitVec, BitVec.ofInt_natCast, BitVec.toNat_ofNat]
theorem zwat (N : Nat) (hN : 4611686018427387904 ≤ N) {v : Int} (h0 : 0 ≤ v) (h1 : v ≤ 10000000) {k : Nat} (hk : 1 ≤ k) (hk8 : k ≤ 8) {w : Int} (hw : w = (k : Int)) {b : List UInt8} (hb : b.length ≤ 1000000) : zq54 N v w b = some ((), (b ++ be (iu64 v) k, ())) := by
 unfold zq54
 have e0 : w64 (w - 1) = (k : Int) - 1 := by rw [hw]; exact w64_of (by omega) (by omega)
 rw [e0]
 unfold zq54_1
 have hll := zwc (N := N) (step := fun y => zq54_s2 N y.1.1 y.1.2.1 y.2.1) (J := fun (e : ((Unit) × ((List UInt8) × Unit))) => zq54_3 N e.2.1)
  (I := fun z => z.1.1 = v ∧ -1 ≤ z.1.2.1 ∧ z.1.2.1 ≤ (k : Int) - 1 ∧ z.2.1 ++ be (iu64 v) (z.1.2.1 + 1).toNat = b ++ be (iu64 v) k) (μ := fun z => (z.1.2.1 + 1).toNat) (T := fun r => r = ((), (b ++ be (iu64 v) k, ()))) ?_
  (x := ((v, (k : Int) - 1, ()), (b, ()))) ⟨rfl, by simp only; omega, Int.le_refl _, by simp only; rw [show ((k : Int) - 1 + 1).toNat = k by omega]⟩ (by simp only; omega)
 ·obtain ⟨r, q1, rfl⟩ := hll
  exact q1
 ·rintro ⟨⟨v', i, ⟨⟩⟩, b', ⟨⟩⟩ ⟨g1, g2, g3, g4⟩
  simp only at g1 g2 g3 g4
  subst g1
  simp only [zq54_s2]
  by_cases hlt : (0 : Int) ≤ i
  ·have e1 : decide ((0 : Int) ≤ i) = true := decide_eq_true hlt
   have e2 : w64 (8 * i) = 8 * i := w64_of (by omega) (by omega)
   have e3 : decide (0 ≤ 8 * i) = true := decide_eq_true (by omega)
   have hl : b'.length ≤ 1000100 := by
    have := congrArg List.length g4
    simp only [List.length_append, be_len] at this
    omega
   have er : room (b'.length + ([iu8 (shrI v' (8 * i).toNat)] : List UInt8).length) 1 = true := zw3 (by simp only [List.length_cons, List.length_nil]; omega)
   have e4 : w64 (i - 1) = i - 1 := w64_of (by omega) (by omega)
   rw [e1, e2, e3]
   simp only [cond_true, er, e4]
   refine ⟨_, rfl, ⟨rfl, by simp only; omega, by simp only; omega, ?_⟩, by simp only; omega⟩
   obtain ⟨j, hj⟩ : ∃ j : Nat, i = (j : Int) := ⟨i.toNat, by omega⟩
   subst hj
   have e5 : ((j : Int) + 1).toNat = j + 1 := by omega
   have e6 : ((j : Int) - 1 + 1).toNat = j := by omega
   rw [e5] at g4
   simp only [e6]
   rw [← g4, byte44 h0 h1 (by omega)]
   simp [be]
  ·have e1 : decide ((0 : Int) ≤ i) = false := decide_eq_false hlt
   rw [e1]
   refine ⟨_, rfl, _, rfl, ?_⟩
   have : (i + 1).toNat = 0 := by omega
   rw [this] at g4
   have h : b' = b ++ be (iu64 v') k := by simpa [be] using g4
   rw [h]
mutual
def eb : Tree → List UInt8
 | .mk o v l => [iu8 o] ++ be (iu64 v) 8 ++ be (iu64 (l.length : Int)) 2 ++ (ebl l).flatten
def ebl : List Tree → List (List UInt8)
 | [] => []
 | t :: l => eb t :: ebl l
end
theorem zw65 (l : List Tree) : ebl l = l.map eb := by
 induction l with
 | nil => rfl
 | cons t l ih => simp only [ebl, List.map_cons, ih]
theorem zwau (l : List Tree) {i : Nat} {a : Tree} (h : l[i]? = some a) : ((l.take (i + 1)).map eb).flatten = ((l.take i).map eb).flatten ++ eb a := by
 rw [List.take_add_one, h]
 simp
theorem ebf_le {l : List Tree} {m : Nat} (h : ∀ a ∈ l, (eb a).length ≤ m) : ((l.map eb).flatten).length ≤ l.length * m := by
 induction l with
 | nil => simp
 | cons a l ih =>
  have h1 := h a (by simp)
  have h2 := ih fun x hx => h x (by simp [hx])
  simp only [List.map_cons, List.flatten_cons, List.length_append, List.length_cons, Nat.succ_mul]
  omega
theorem eb_len : ∀ {e : Nat} {t : Tree}, Gd e t → (eb t).length ≤ 11 * nbd e
 | 0, _, h => h.elim
 | e + 1, .mk o v l, h => by
  obtain ⟨h1, h2, h3⟩ := h
  have h2' : l.length ≤ 4 := Nat.le_trans h2 (bdn_le _)
  have hb := ebf_le (l := l) (m := 11 * nbd e) fun a ha => eb_len (h3 a ha)
  have hc := Nat.mul_le_mul_right (11 * nbd e) h2'
  have hd : 11 * nbd (e + 1) = 11 + 4 * (11 * nbd e) := by simp only [nbd]; omega
  rw [hd]
  show ([iu8 o] ++ be (iu64 v) 8 ++ be (iu64 (l.length : Int)) 2 ++ (ebl l).flatten).length ≤ _
  rw [zw65]
  simp only [List.length_append, be_len, List.length_cons, List.length_nil]
  omega
section
variable (N : Nat) (hN : 4611686018427387904 ≤ N)
include hN
theorem enc44 : ∀ (e n : Nat) (t : Tree) (b : List UInt8), e ≤ 5 → e ≤ n → Gd e t → b.length + 11 * nbd e ≤ 100000 → zw22 N n t.un b = some ((), (b ++ eb t, ()))
 | 0, _, _, _, _, _, h, _ => h.elim
 | e + 1, 0, _, _, _, h, _, _ => absurd h (by omega)
 | e + 1, n + 1, .mk o v l, b, he, hn, h, hb => by
  obtain ⟨h1, h2, h3⟩ := h
  have h2' : l.length ≤ 4 := Nat.le_trans h2 (bdn_le _)
  obtain ⟨g0, g1, _⟩ := h1
  have ih := fun t b h hb => enc44 e n t b (by omega) (by omega) h hb
  have hbn := nbd_le (e := e) (by omega)
  have hlen : (List.map Tree.un l).length = l.length := List.length_map ..
  obtain ⟨M, hM⟩ : ∃ M, M = 11 * nbd e := ⟨_, rfl⟩
  have hM1 : 11 * nbd (e + 1) = 11 + 4 * M := by rw [hM]; simp only [nbd]; omega
  have hel : ∀ a ∈ l, (eb a).length ≤ M := fun a ha => by rw [hM]; exact eb_len (h3 a ha)
  rw [hM1] at hb
  rw [← hM] at ih
  show zq69 N (zw22 N n) (o, v, l, ()) b = some ((), (b ++ ([iu8 o] ++ be (iu64 v) 8 ++ be (iu64 (l.length : Int)) 2 ++ (ebl l).flatten), ()))
  rw [zw65]
  unfold zq69
  have er : room (b.length + ([iu8 o] : List UInt8).length) 1 = true := zw3 (by simp only [List.length_cons, List.length_nil]; omega)
  have p1 := zwat N hN g0 g1 (k := 8) (w := 8) (by omega) (by omega) rfl (b := b ++ [iu8 o]) (by simp only [List.length_append, List.length_cons, List.length_nil] <;> omega)
  have p2 := zwat N hN (v := ((List.map Tree.un l).length : Int)) (by omega) (by omega) (k := 2) (w := 2) (by omega) (by omega) rfl (b := b ++ [iu8 o] ++ be (iu64 v) 8) (by simp only [List.length_append, List.length_cons, List.length_nil, be_len] <;> omega)
  simp only [er, cond_true, p1, p2, Option.bind_some]
  have hl0 : (b ++ [iu8 o] ++ be (iu64 v) 8 ++ be (iu64 ((List.map Tree.un l).length : Int)) 2).length = b.length + 11 := by simp only [List.length_append, List.length_cons, List.length_nil, be_len] <;> omega
  have hassoc : b ++ ([iu8 o] ++ be (iu64 v) 8 ++ be (iu64 (l.length : Int)) 2 ++ (l.map eb).flatten) = (b ++ [iu8 o] ++ be (iu64 v) 8 ++ be (iu64 ((List.map Tree.un l).length : Int)) 2) ++ (l.map eb).flatten := by rw [hlen]; simp only [List.append_assoc]
  rw [hassoc]
  generalize b ++ [iu8 o] ++ be (iu64 v) 8 ++ be (iu64 ((List.map Tree.un l).length : Int)) 2 = b0 at hl0
  unfold zq69_1
  have hll := zwc (N := N) (step := fun y => zq69_s2 N (zw22 N n) y.1.1 y.2.1 y.2.2.1) (J := fun (e : ((Unit) × ((List UInt8) × Unit))) => zq69_3 N (zw22 N n) e.2.1)
   (I := fun z => 0 ≤ z.1.1 ∧ z.1.1 ≤ (l.length : Int) ∧ z.2.1 = b0 ++ ((l.take z.1.1.toNat).map eb).flatten ∧ z.2.2.1 = (o, v, l, ())) (μ := fun z => ((l.length : Int) - z.1.1).toNat) (T := fun r => r = ((), (b0 ++ (l.map eb).flatten, ()))) ?_
   (x := (((0 : Int), ()), (b0, (o, v, l, ()), ()))) ⟨Int.le_refl _, by simp only; omega, by simp, rfl⟩ (by simp only; omega)
  ·obtain ⟨r, q1, rfl⟩ := hll
   exact q1
  ·rintro ⟨⟨i, ⟨⟩⟩, b', t', ⟨⟩⟩ ⟨g2, g3, g4, g5⟩
   simp only at g2 g3 g4 g5
   subst g5
   simp only [zq69_s2, hlen]
   by_cases hlt : i < (l.length : Int)
   ·obtain ⟨a, ha, hai, hg⟩ := zw1s l g2 hlt ((0 : Int), (0 : Int), ([] : List Tree), ())
    have e1 : decide (i < (l.length : Int)) = true := decide_eq_true hlt
    have e2 : inR i l.length = true := inR_of g2 hlt
    have e4 : w64 (i + 1) = i + 1 := w64_of (by omega) (by omega)
    have hf := ebf_le (l := l.take i.toNat) (m := M) fun x hx => hel x (List.mem_of_mem_take hx)
    have hf2 : (l.take i.toNat).length * M ≤ 3 * M := Nat.mul_le_mul_right M (by rw [List.length_take]; omega)
    have hbl : b'.length + M ≤ 100000 := by
     rw [g4, List.length_append]
     omega
    rw [e1, e2, hg, ih a b' (h3 a ha) hbl]
    simp only [cond_true, Option.bind_some, e4]
    refine ⟨_, rfl, ⟨by simp only; omega, by simp only; omega, ?_, rfl⟩, by simp only; omega⟩
    have e5 : (i + 1).toNat = i.toNat + 1 := by omega
    simp only [e5]
    rw [zwau l hai, g4, List.append_assoc]
   ·rw [decide_eq_false hlt]
    refine ⟨_, rfl, _, rfl, ?_⟩
    have : i.toNat = l.length := by omega
    rw [this, List.take_length] at g4
    rw [g4]
end
end Go.Proofs.YtajpblfinenmjaaGreatDoor.Pl

namespace Go.Proofs.YtajpblfinenmjaaGreatDoor.Pl
open Go
section
variable (N : Nat) (hN : 4611686018427387904 ≤ N)
include hN
theorem enc_b : ∀ (e n : Nat) (t : Tree) (b : List UInt8), e ≤ 5 → e ≤ n → Gd e t → b.length + 11 * nbd e ≤ 100000 → zw13 N n t.un b = some ((), (b ++ eb t, ()))
 | 0, _, _, _, _, _, h, _ => h.elim
 | e + 1, 0, _, _, _, h, _, _ => absurd h (by omega)
 | e + 1, n + 1, .mk o v l, b, he, hn, h, hb => by
  obtain ⟨h1, h2, h3⟩ := h
  have h2' : l.length ≤ 4 := Nat.le_trans h2 (bdn_le _)
  have ih := fun t b h hb => enc_b e n t b (by omega) (by omega) h hb
  have hbn := nbd_le (e := e) (by omega)
  have hlen : (List.map Tree.un l).length = l.length := List.length_map ..
  obtain ⟨M, hM⟩ : ∃ M, M = 11 * nbd e := ⟨_, rfl⟩
  have hM1 : 11 * nbd (e + 1) = 11 + 4 * M := by rw [hM]; simp only [nbd]; omega
  have hel : ∀ a ∈ l, (eb a).length ≤ M := fun a ha => by rw [hM]; exact eb_len (h3 a ha)
  rw [hM1] at hb
  rw [← hM] at ih
  show zq34 N (zw13 N n) (o, v, l, ()) b = some ((), (b ++ ([iu8 o] ++ be (iu64 v) 8 ++ be (iu64 (l.length : Int)) 2 ++ (ebl l).flatten), ()))
  rw [zw65]
  unfold zq34
  have w8 : (8 : Int).toNat = 8 := rfl
  have w2 : (2 : Int).toNat = 2 := rfl
  have er : room (b.length + ([iu8 o] : List UInt8).length) 1 = true := zw3 (by simp only [List.length_cons, List.length_nil]; omega)
  have p1 := zw14 N (v := iu64 v) (w := 8) (b := b ++ [iu8 o]) (by omega) (by omega) (by simp only [List.length_append, List.length_cons, List.length_nil]; omega) (by omega)
  rw [w8] at p1
  have p2 := zw14 N (v := iu64 ((List.map Tree.un l).length : Int)) (w := 2) (b := b ++ [iu8 o] ++ be (iu64 v) 8) (by omega) (by omega) (by simp only [List.length_append, List.length_cons, List.length_nil, be_len]; omega) (by omega)
  rw [w2] at p2
  simp only [er, cond_true, p1, p2, Option.bind_some]
  have hl0 : (b ++ [iu8 o] ++ be (iu64 v) 8 ++ be (iu64 ((List.map Tree.un l).length : Int)) 2).length = b.length + 11 := by simp only [List.length_append, List.length_cons, List.length_nil, be_len] <;> omega
  have hassoc : b ++ ([iu8 o] ++ be (iu64 v) 8 ++ be (iu64 (l.length : Int)) 2 ++ (l.map eb).flatten) = (b ++ [iu8 o] ++ be (iu64 v) 8 ++ be (iu64 ((List.map Tree.un l).length : Int)) 2) ++ (l.map eb).flatten := by rw [hlen]; simp only [List.append_assoc]
  rw [hassoc]
  generalize b ++ [iu8 o] ++ be (iu64 v) 8 ++ be (iu64 ((List.map Tree.un l).length : Int)) 2 = b0 at hl0
  rw [hlen]
  unfold zq34_1
  have hll := zwc (N := N) (step := fun y => zq34_s2 N (zw13 N n) y.1.1 y.1.2.1 y.1.2.2.1 y.2.1) (J := fun (e : ((Unit) × ((List UInt8) × Unit))) => zq34_3 N (zw13 N n) e.2.1)
   (I := fun z => z.1.1 = List.map Tree.un l ∧ z.1.2.1 = (l.length : Int) ∧ 0 ≤ z.1.2.2.1 ∧ z.1.2.2.1 ≤ (l.length : Int) ∧ z.2.1 = b0 ++ ((l.take z.1.2.2.1.toNat).map eb).flatten) (μ := fun z => ((l.length : Int) - z.1.2.2.1).toNat) (T := fun r => r = ((), (b0 ++ (l.map eb).flatten, ()))) ?_
   (x := ((List.map Tree.un l, (l.length : Int), 0, ()), (b0, ()))) ⟨rfl, rfl, Int.le_refl _, by simp only; omega, by simp⟩ (by simp only; omega)
  ·obtain ⟨r, q1, rfl⟩ := hll
   exact q1
  ·rintro ⟨⟨xs, m, i, ⟨⟩⟩, b', ⟨⟩⟩ ⟨g0, g1, g2, g3, g4⟩
   simp only at g0 g1 g2 g3 g4
   subst g0 g1
   simp only [zq34_s2]
   by_cases hlt : i < (l.length : Int)
   ·obtain ⟨a, ha, hai, hg⟩ := zw1s l g2 hlt ((0 : Int), (0 : Int), ([] : List Tree), ())
    have e1 : decide (i < (l.length : Int)) = true := decide_eq_true hlt
    have e2 : inR i (List.map Tree.un l).length = true := inR_of g2 (by rw [hlen]; exact hlt)
    have e4 : w64 (i + 1) = i + 1 := w64_of (by omega) (by omega)
    have hf := ebf_le (l := l.take i.toNat) (m := M) fun x hx => hel x (List.mem_of_mem_take hx)
    have hf2 : (l.take i.toNat).length * M ≤ 3 * M := Nat.mul_le_mul_right M (by rw [List.length_take]; omega)
    have hbl : b'.length + M ≤ 100000 := by
     rw [g4, List.length_append]
     omega
    rw [e1, e2, hg, ih a b' (h3 a ha) hbl]
    simp only [cond_true, Option.bind_some, e4]
    refine ⟨_, rfl, ⟨rfl, rfl, by simp only; omega, by simp only; omega, ?_⟩, by simp only; omega⟩
    have e5 : (i + 1).toNat = i.toNat + 1 := by omega
    simp only [e5]
    rw [zwau l hai, g4, List.append_assoc]
   ·rw [decide_eq_false hlt]
    refine ⟨_, rfl, _, rfl, ?_⟩
    have : i.toNat = l.length := by omega
    rw [this, List.take_length] at g4
    rw [g4]
theorem zwk0 (hsh : ∀ i j, i ≤ j → j < 15 → zq100 N (shD i j) = some ((true, ()), ())) {e : Nat} (he : e ≤ 5) {t : Tree} (h : Gd e t) : zq39 N t.un = some ((0, ()), (sha (eb t), ())) := by
 have hn := nbd_le he
 have h1 := enc_b N hN e N t [] he (by omega) h (by simp only [List.length_nil]; omega)
 have h2 := eb_len h
 unfold zq39 zq38
 rw [zw2y N hsh he h]
 simp only [Option.bind_some, Bool.not_true, cond_false, h1, List.nil_append, decide_true, zw4j N (show (eb t).length ≤ 35184372088832 by omega) hN]
theorem zwk1 (hfm : ∀ i j, i ≤ j → j < 15 → zq97 N (shD i j) = some ((true, ()), ())) {e : Nat} (he : e ≤ 5) {t : Tree} (h : Gd e t) : zq64 N t.un = some ((), (sha (eb t), ())) := by
 have hn := nbd_le he
 have h1 := enc44 N hN e N t [] he (by omega) h (by simp only [List.length_nil]; omega)
 have h2 := eb_len h
 unfold zq64 zq60 zq61
 rw [zwar N hN hfm he h]
 simp only [Option.bind_some, Bool.not_true, cond_false, h1, List.nil_append, decide_true, zw5s N (show (eb t).length ≤ 35184372088832 by omega) hN]
end
end Go.Proofs.YtajpblfinenmjaaGreatDoor.Pl

namespace Go.Proofs.YtajpblfinenmjaaGreatDoor.Pl
open Go
theorem zwav (N : Nat) (hN : 4611686018427387904 ≤ N) {a b : List UInt8} (ha : a.length ≤ 1000000) (hab : a.length = b.length) : zq29 N a b = some ((decide (a = b), ()), ()) := by
 unfold zq29 zq29_1
 have e0 : (!(decide ((a.length : Int) = (b.length : Int)))) = false := by simp [hab]
 rw [e0, cond_false]
 have hl := zwc (N := N) (step := fun y => zq29_s2 N y.1.1 y.1.2.1 y.1.2.2.1) (J := fun (e : ((Unit) × (Unit))) => zq29_3 N)
  (I := fun y => y.1.1 = a ∧ y.1.2.1 = b ∧ 0 ≤ y.1.2.2.1 ∧ y.1.2.2.1 ≤ (a.length : Int) ∧ a.take y.1.2.2.1.toNat = b.take y.1.2.2.1.toNat) (μ := fun y => ((a.length : Int) - y.1.2.2.1).toNat) (T := fun r => r = ((decide (a = b), ()), ())) ?_
  (x := ((a, b, 0, ()), ())) ⟨rfl, rfl, Int.le_refl _, by simp, by simp⟩ (by simp only; omega)
 ·obtain ⟨r, h1, h2⟩ := hl
  rw [h1, h2]
 ·rintro ⟨⟨a', b', i, ⟨⟩⟩, ⟨⟩⟩ ⟨h1, h2, h3, h4, h5⟩
  simp only at h1 h2 h3 h4 h5
  subst h1
  subst h2
  simp only [zq29_s2]
  by_cases hlt : i < (a'.length : Int)
  ·have e1 : decide (i < (a'.length : Int)) = true := decide_eq_true hlt
   have e2 : inR i a'.length = true := inR_of h3 hlt
   have e3 : inR i b'.length = true := inR_of h3 (by omega)
   rw [e1, e2, e3]
   simp only [cond_true]
   by_cases hg : a'.getD i.toNat 0 = b'.getD i.toNat 0
   ·have e4 : w64 (i + 1) = i + 1 := w64_of (by omega) (by omega)
    rw [hg, decide_eq_true rfl, e4]
    refine ⟨_, rfl, ⟨rfl, rfl, by simp only; omega, by simp only; omega, ?_⟩, by simp only; omega⟩
    have e5 : (i + 1).toNat = i.toNat + 1 := by omega
    simp only [e5]
    rw [zw1k a' 0 (by omega), zw1k b' 0 (by omega), h5, hg]
   ·have e4 : decide (a'.getD i.toNat 0 = b'.getD i.toNat 0) = false := decide_eq_false hg
    rw [e4]
    refine ⟨_, rfl, ?_⟩
    have : a' ≠ b' := fun e => hg (by rw [e])
    simp [this]
  ·have e1 : decide (i < (a'.length : Int)) = false := decide_eq_false hlt
   rw [e1]
   refine ⟨_, rfl, _, rfl, ?_⟩
   have h6 : i.toNat = a'.length := by omega
   rw [h6, List.take_length, hab, List.take_length] at h5
   simp [h5]

noncomputable def sq (q : TT.den) : List UInt8 := sha (eb (mkT q))
noncomputable def nq (q : TT.den) : List UInt8 := cut (hmac (sq q) [(1 : UInt8)]) 0 8
theorem sq_len (q : TT.den) : (sq q).length = 32 := zw2b _
theorem nq_len (q : TT.den) : (nq q).length = 8 := by
 have := zw2n (sq q) [(1 : UInt8)]
 unfold nq
 simp only [cut, List.drop_zero, List.length_take]
 omega
section
variable (N : Nat) (hN : 4611686018427387904 ≤ N) (hfm : ∀ i j, i ≤ j → j < 15 → zq97 N (shD i j) = some ((true, ()), ()))
include hN
theorem zwk2 {L : List TT.den} {e : Nat} (he : e ≤ 5) (hL : ∀ q ∈ L, Gd e (mkT q)) (hl : L.length ≤ 1000) {i : Nat} (hi : i < L.length) :
  ∃ r, zq81_7 N L (i : Int) (nq (L.getD i (0, 0, [], ()))) 0 (L.take i) ((L.take i).map nq) ((L.take i).map sq) (sq (L.getD i (0, 0, [], ()))) = some r ∧
   (r = .rt ((true, ()), ()) ∨ (r = .go ((L, ((i + 1 : Nat) : Int), ()), (L.take (i + 1), (L.take (i + 1)).map nq, (L.take (i + 1)).map sq, ())) ∧
    ∀ k, k < i → (nq (L.getD i (0, 0, [], ())) = nq (L.getD k (0, 0, [], ())) ∨ sq (L.getD i (0, 0, [], ())) = sq (L.getD k (0, 0, [], ()))) → L.getD i (0, 0, [], ()) = L.getD k (0, 0, [], ()))) := by
 have hgi : Gd e (mkT (L.getD i (0, 0, [], ()))) := hL _ (by simp only [List.getD, List.getElem?_eq_getElem hi, Option.getD_some]; exact List.getElem_mem hi)
 generalize hx : L.getD i (0, 0, [], ()) = x at *
 have htl : (L.take i).length = i := by rw [List.length_take]; omega
 unfold zq81_7
 have hll := zwc (N := N) (step := fun y => zq81_s8 N y.1.1 y.1.2.1 y.1.2.2.1 y.1.2.2.2.1 y.2.1 y.2.2.1 y.2.2.2.1 y.2.2.2.2.1) (J := fun (e : (((List TT.den) × Int × (List UInt8) × Unit) × ((List TT.den) × (List (List UInt8)) × (List (List UInt8)) × (List UInt8) × Unit))) => zq81_9 N e.1.1 e.1.2.1 e.1.2.2.1 e.2.1 e.2.2.1 e.2.2.2.1 e.2.2.2.2.1)
  (I := fun z => z.1.1 = L ∧ z.1.2.1 = (i : Int) ∧ z.1.2.2.1 = nq x ∧ 0 ≤ z.1.2.2.2.1 ∧ z.1.2.2.2.1 ≤ (i : Int) ∧ z.2.1 = L.take i ∧ z.2.2.1 = (L.take i).map nq ∧ z.2.2.2.1 = (L.take i).map sq ∧ z.2.2.2.2.1 = sq x ∧ ∀ k : Nat, (k : Int) < z.1.2.2.2.1 → (nq x = nq (L.getD k (0, 0, [], ())) ∨ sq x = sq (L.getD k (0, 0, [], ()))) → x = L.getD k (0, 0, [], ())) (μ := fun z => ((i : Int) - z.1.2.2.2.1).toNat)
  (T := fun r => r = .rt ((true, ()), ()) ∨ (r = .go ((L, ((i + 1 : Nat) : Int), ()), (L.take (i + 1), (L.take (i + 1)).map nq, (L.take (i + 1)).map sq, ())) ∧ ∀ k, k < i → (nq x = nq (L.getD k (0, 0, [], ())) ∨ sq x = sq (L.getD k (0, 0, [], ()))) → x = L.getD k (0, 0, [], ()))) ?_
  (x := ((L, (i : Int), nq x, 0, ()), (L.take i, (L.take i).map nq, (L.take i).map sq, sq x, ()))) ⟨rfl, rfl, rfl, Int.le_refl _, by simp only; omega, rfl, rfl, rfl, rfl, fun k hk => absurd hk (by simp only; omega)⟩ (by simp only; omega)
 ·exact hll
 ·rintro ⟨⟨L', i', n', k, ⟨⟩⟩, ks', ns', ss', s', ⟨⟩⟩ ⟨g1, g2, g3, g4, g5, g6, g7, g8, g9, g10⟩
  simp only at g1 g2 g3 g4 g5 g6 g7 g8 g9 g10
  subst g1 g2 g3 g6 g7 g8 g9
  simp only [zq81_s8, htl]
  by_cases hlt : k < (i : Int)
  ·have hk : k.toNat < i := by omega
   have hkL : k.toNat < L'.length := by omega
   have e1 : decide (k < (i : Int)) = true := decide_eq_true hlt
   have e2 : inR k ((L'.take i).map nq).length = true := inR_of g4 (by rw [List.length_map, htl]; exact hlt)
   have e2' : inR k ((L'.take i).map sq).length = true := inR_of g4 (by rw [List.length_map, htl]; exact hlt)
   have e3 : inR (i : Int) L'.length = true := inR_of (by omega) (by omega)
   have e3' : inR k i = true := inR_of g4 hlt
   have hat : ∀ z : TT.den, (L'.take i).getD k.toNat z = L'.getD k.toNat (0, 0, [], ()) := fun z => by simp [List.getD, List.getElem?_take, hk, hkL]
   have hn : ((L'.take i).map nq).getD k.toNat ([] : List UInt8) = nq (L'.getD k.toNat (0, 0, [], ())) := by simp [List.getD, List.getElem?_take, hk, hkL]
   have hs : ((L'.take i).map sq).getD k.toNat ([] : List UInt8) = sq (L'.getD k.toNat (0, 0, [], ())) := by simp [List.getD, List.getElem?_take, hk, hkL]
   have e4 : w64 (k + 1) = k + 1 := w64_of (by omega) (by omega)
   have hti : (i : Int).toNat = i := by omega
   generalize hy : L'.getD k.toNat (0, 0, [], ()) = y at *
   obtain ⟨r, r1, r2⟩ := eq_ok N hN e N (mkT x) (mkT y) (by omega) hgi
   have r1' : zw1j N N x y = some ((r, ()), ()) := r1
   have hxy : mkT x = mkT y ↔ x = y := ⟨fun h => by have := congrArg Tree.un h; exact this, fun h => by rw [h]⟩
   have sN := zwav N hN (a := nq x) (b := nq y) (by rw [nq_len]; omega) (by rw [nq_len, nq_len])
   have sS := zwav N hN (a := sq x) (b := sq y) (by rw [sq_len]; omega) (by rw [sq_len, sq_len])
   have hnext : ((nq x = nq y ∨ sq x = sq y) → x = y) → ∀ k1 : Nat, (k1 : Int) < k + 1 → (nq x = nq (L'.getD k1 (0, 0, [], ())) ∨ sq x = sq (L'.getD k1 (0, 0, [], ()))) → x = L'.getD k1 (0, 0, [], ()) := fun hh k1 h1 h2 => by
    by_cases h3 : (k1 : Int) < k
    ·exact g10 k1 h3 h2
    ·have : k1 = k.toNat := by omega
     subst this
     rw [hy] at h2 ⊢
     exact hh h2
   rw [e1, e2, hn, sN]
   simp only [cond_true, Option.bind_some, e2', hs, sS, e3, e3', hti, hx, hat, r1', e4]
   by_cases hnn : nq x = nq y
   ·simp only [decide_eq_true hnn, cond_true]
    cases r with
    | true => exact ⟨_, rfl, ⟨rfl, rfl, rfl, by simp only; omega, by simp only; omega, rfl, rfl, rfl, rfl, hnext fun _ => hxy.1 (r2.1 rfl)⟩, by simp only; omega⟩
    | false => exact ⟨_, rfl, .inl rfl⟩
   ·simp only [decide_eq_false hnn, cond_false]
    by_cases hss : sq x = sq y
    ·simp only [decide_eq_true hss, cond_true]
     cases r with
     | true => exact ⟨_, rfl, ⟨rfl, rfl, rfl, by simp only; omega, by simp only; omega, rfl, rfl, rfl, rfl, hnext fun _ => hxy.1 (r2.1 rfl)⟩, by simp only; omega⟩
     | false => exact ⟨_, rfl, .inl rfl⟩
    ·simp only [decide_eq_false hss, cond_false]
     exact ⟨_, rfl, ⟨rfl, rfl, rfl, by simp only; omega, by simp only; omega, rfl, rfl, rfl, rfl, hnext fun h => h.elim (fun h => absurd h hnn) (fun h => absurd h hss)⟩, by simp only; omega⟩
  ·rw [decide_eq_false hlt]
   refine ⟨_, rfl, _, ?_, .inr ⟨rfl, fun k1 h1 h2 => g10 k1 (by omega) h2⟩⟩
   show zq81_9 N L' (i : Int) (nq x) (L'.take i) ((L'.take i).map nq) ((L'.take i).map sq) (sq x) = _
   unfold zq81_9 zq81_6
   have e3 : inR (i : Int) L'.length = true := inR_of (by omega) (by omega)
   have hti : (i : Int).toNat = i := by omega
   have r1 : room ((L'.take i).length + ([x] : List TT.den).length) 40 = true := zw3 (by rw [htl, List.length_cons, List.length_nil]; omega)
   have r2 : room (((L'.take i).map nq).length + ([nq x] : List (List UInt8)).length) 24 = true := zw3 (by rw [List.length_map, htl, List.length_cons, List.length_nil]; omega)
   have r3 : room (((L'.take i).map sq).length + ([sq x] : List (List UInt8)).length) 24 = true := zw3 (by rw [List.length_map, htl, List.length_cons, List.length_nil]; omega)
   have e4 : w64 ((i : Int) + 1) = ((i + 1 : Nat) : Int) := by rw [w64_of (by omega) (by omega)]; omega
   have hs : L'.take (i + 1) = L'.take i ++ [x] := by
    rw [List.take_add_one, List.getElem?_eq_getElem hi]
    have : L'[i] = x := by rw [← hx]; simp [List.getD, hi]
    rw [this]; rfl
   simp only [e3, hti, hx, r1, r2, r3, cond_true, e4, hs, List.map_append, List.map_cons, List.map_nil]
end
end Go.Proofs.YtajpblfinenmjaaGreatDoor.Pl

namespace Go.Proofs.YtajpblfinenmjaaGreatDoor.Pl
open Go
theorem least {p : Nat → Prop} : ∀ n, p n → ∃ k, k ≤ n ∧ p k ∧ ∀ j, j < k → ¬ p j := by
 intro n
 induction n using Nat.strongRecOn with
 | _ n ih =>
  intro h
  by_cases hx : ∃ j, j < n ∧ p j
  ·obtain ⟨j, h1, h2⟩ := hx
   obtain ⟨k, k1, k2, k3⟩ := ih j h1 h2
   exact ⟨k, by omega, k2, k3⟩
  ·exact ⟨n, Nat.le_refl _, h, fun j hj hp => hx ⟨j, hj, hp⟩⟩
def NoCl (L : List TT.den) : Prop := ∀ i k, k < i → i < L.length → (nq (L.getD i (0, 0, [], ())) = nq (L.getD k (0, 0, [], ())) ∨ sq (L.getD i (0, 0, [], ())) = sq (L.getD k (0, 0, [], ()))) → L.getD i (0, 0, [], ()) = L.getD k (0, 0, [], ())
section
variable (N : Nat) (hN : 4611686018427387904 ≤ N) (hsh : ∀ i j, i ≤ j → j < 15 → zq100 N (shD i j) = some ((true, ()), ())) (hfm : ∀ i j, i ≤ j → j < 15 → zq97 N (shD i j) = some ((true, ()), ())) (hag : ∀ i j, i < 15 → j < 15 → ∃ t, zq76 N (4, 0, [mkT (nmD i)], ()) (nmD j) = some ((shD (min i j) (max i j), t, ()), ()))
include hN hfm
theorem zwk3 {L : List TT.den} {e : Nat} (he : e ≤ 5) (hL : ∀ q ∈ L, Gd e (mkT q)) (hl : L.length ≤ 1000) : ∃ r, zq81 N L = some ((r, ()), ()) ∧ (r = false → NoCl L) := by
 unfold zq81 zq81_1
 have hll := zwc (N := N) (step := fun y => zq81_s2 N y.1.1 y.1.2.1 y.2.1 y.2.2.1 y.2.2.2.1) (J := fun (e : ((Unit) × (Unit))) => zq81_10 N)
  (I := fun z => ∃ i : Nat, z = ((L, (i : Int), ()), (L.take i, (L.take i).map nq, (L.take i).map sq, ())) ∧ i ≤ L.length ∧ ∀ i' k, k < i' → i' < i → (nq (L.getD i' (0, 0, [], ())) = nq (L.getD k (0, 0, [], ())) ∨ sq (L.getD i' (0, 0, [], ())) = sq (L.getD k (0, 0, [], ()))) → L.getD i' (0, 0, [], ()) = L.getD k (0, 0, [], ()))
  (μ := fun z => ((L.length : Int) - z.1.2.1).toNat) (T := fun r => ∃ b, r = ((b, ()), ()) ∧ (b = false → NoCl L)) ?_
  (x := ((L, (0 : Int), ()), (([] : List TT.den), ([] : List (List UInt8)), ([] : List (List UInt8)), ()))) ⟨0, by simp, Nat.zero_le _, fun i' k _ h => absurd h (by omega)⟩ (by simp only; omega)
 ·obtain ⟨r, q1, b, rfl, q2⟩ := hll
  exact ⟨b, q1, q2⟩
 ·rintro z ⟨i, rfl, hi, hc⟩
  simp only [zq81_s2]
  by_cases hlt : i < L.length
  ·have e1 : decide ((i : Int) < (L.length : Int)) = true := decide_eq_true (by omega)
   rw [e1, cond_true]
   unfold zq81_3 zq81_5
   have e3 : inR (i : Int) L.length = true := inR_of (by omega) (by omega)
   have hti : (i : Int).toNat = i := by omega
   have hg : Gd e (mkT (L.getD i (0, 0, [], ()))) := hL _ (by simp only [List.getD, List.getElem?_eq_getElem hlt, Option.getD_some]; exact List.getElem_mem hlt)
   have hv : zq77 N (L.getD i (0, 0, [], ())) = some ((true, ()), ()) := zwar N hN hfm he hg
   have hs : zq64 N (L.getD i (0, 0, [], ())) = some ((), (sq (L.getD i (0, 0, [], ())), ())) := zwk1 N hN hfm he hg
   have hh := zwfz N (k := sq (L.getD i (0, 0, [], ()))) (b := [(1 : UInt8)]) (by rw [sq_len]; omega) (by decide) hN
   have hhl := zw2n (sq (L.getD i (0, 0, [], ()))) [(1 : UInt8)]
   have c0 : decide (0 ≤ (0 : Int)) = true := by decide
   have c1 : decide ((0 : Int) ≤ (8 : Int)) = true := by decide
   have c2 : decide ((8 : Int) ≤ ((hmac (sq (L.getD i (0, 0, [], ()))) [(1 : UInt8)]).length : Int)) = true := decide_eq_true (by omega)
   obtain ⟨r, r1, r2⟩ := zwk2 N hN he hL hl hlt
   have r1' : zq81_7 N L (i : Int) (cut (hmac (sq (L.getD i (0, 0, [], ()))) [(1 : UInt8)]) 0 8) 0 (L.take i) ((L.take i).map nq) ((L.take i).map sq) (sq (L.getD i (0, 0, [], ()))) = some r := r1
   simp only [e3, cond_true, hti, hv, Option.bind_some, Bool.not_true, cond_false, hs, hh, c0, c1, c2, Bool.and_self, r1']
   rcases r2 with rfl | ⟨rfl, r3⟩
   ·exact ⟨_, rfl, true, rfl, fun h => by cases h⟩
   ·refine ⟨_, rfl, ⟨i + 1, rfl, by omega, fun i' k h1 h2 h3 => ?_⟩, by simp only; omega⟩
    by_cases hii : i' = i
    ·subst hii; exact r3 k h1 h3
    ·exact hc i' k h1 (by omega) h3
  ·have e1 : decide ((i : Int) < (L.length : Int)) = false := decide_eq_false (by omega)
   rw [e1]
   exact ⟨_, rfl, _, rfl, false, rfl, fun _ i' k h1 h2 h3 => hc i' k h1 (by omega) h3⟩
omit hfm
include hsh
theorem zw3t {q : TT.den} {e : Nat} (he : e ≤ 5) (h : Gd e (mkT q)) : zq39 N q = some ((0, ()), (sq q, ())) ∧ zq43 N (sq q) = some ((nq q, ()), ()) :=
 ⟨zwk0 N hN hsh he h, zwjz N hN (by rw [sq_len]; omega)⟩
theorem zwk4 {L : List TT.den} {e : Nat} (he : e ≤ 5) (hL : ∀ q ∈ L, Gd e (mkT q)) (hn : NoCl L) : ∀ q ∈ L, FullK N L q := by
 intro q hq
 obtain ⟨n, hnl, hnq⟩ := List.getElem_of_mem hq
 have hat : ∀ j, j < L.length → L[j]? = some (L.getD j (0, 0, [], ())) := fun j hj => by simp [List.getD, hj]
 have hqn : L.getD n (0, 0, [], ()) = q := by simp [List.getD, hnl, hnq]
 have hg : ∀ j x, L[j]? = some x → Gd e (mkT x) ∧ x = L.getD j (0, 0, [], ()) ∧ j < L.length := fun j x hx => ⟨hL x (List.mem_of_getElem? hx), by simp [List.getD, hx], (List.getElem?_eq_some_iff.1 hx).1⟩
 obtain ⟨f1, f2⟩ := zw3t N hN hsh he (hL q hq)
 refine ⟨sq q, nq q, f1, f2, ?_, ?_⟩
 ·obtain ⟨p, p1, p2, p3⟩ := least (p := fun j => nq (L.getD j (0, 0, [], ())) = nq q) n (by show nq _ = nq q; rw [hqn])
  refine ⟨p, ?_, fun j x hj hx => ?_⟩
  ·rw [hat p (by omega)]
   by_cases h : p = n
   ·subst h; rw [hqn]
   ·rw [← hn n p (by omega) hnl (.inl (by rw [hqn, p2])), hqn]
  ·obtain ⟨g1, g2, g3⟩ := hg j x hx
   obtain ⟨x1, x2⟩ := zw3t N hN hsh he g1
   exact ⟨sq x, nq x, x1, x2, fun h => p3 j hj (by rw [← g2]; exact h), by rw [nq_len]; omega⟩
 ·obtain ⟨p, p1, p2, p3⟩ := least (p := fun j => (L.getD j (0, 0, [], ())).1 = q.1 ∧ sq (L.getD j (0, 0, [], ())) = sq q) n (by show _ ∧ _; rw [hqn]; exact ⟨rfl, rfl⟩)
  refine ⟨p, ?_, fun j x hj hx => ?_⟩
  ·rw [hat p (by omega)]
   by_cases h : p = n
   ·subst h; rw [hqn]
   ·rw [← hn n p (by omega) hnl (.inr (by rw [hqn, p2.2])), hqn]
  ·obtain ⟨g1, g2, g3⟩ := hg j x hx
   obtain ⟨x1, x2⟩ := zw3t N hN hsh he g1
   by_cases ho : x.1 = q.1
   ·exact .inr ⟨sq x, x1, fun h => p3 j hj (by rw [← g2]; exact ⟨ho, h⟩), by rw [sq_len]; omega⟩
   ·exact .inl ho
theorem zwk5 {e : Nat} (he : e ≤ 5) {t : Tree} (h : Gd e t) {b : List UInt8} (hr : RT N e t b) : zq46 N t.un = some ((0, ()), (b, ())) := by
 unfold zq46
 simp only [zw2y N hsh he h, Option.bind_some, Bool.not_true, cond_false, hr.write N (by omega)]
omit hsh hN in
theorem zwaw {b : List UInt8} {K : List TT.den} {v : TT.den} (h : zwe N N b K = some ((v, ()), ())) : zq50 N b K = some ((v, (b.length : Int), 0, ()), ()) := by
 unfold zq50 zq26
 have hl : zq108 N [v] = some (((3, 0, [mkT v], ()), ()), ()) := by
  unfold zq108 zq0
  have er : room (([] : List TT.den).length + ([v] : List TT.den).length) 40 = true := zw3 (by simp only [List.length_cons, List.length_nil]; omega)
  simp only [er, cond_true, Option.bind_some]
  rfl
 simp only [h, Option.bind_some, decide_true, Bool.not_true, cond_false, hl]
 rfl
theorem zwk6 : zq72 N = some ((true, ()), ()) := by
 have hg : Gd 1 (.mk 1 5 []) := zw3s (by omega) (by omega) (.inl rfl)
 have hv := zw2y N hsh (e := 1) (by omega) hg
 have hv' : zq98 N ((1 : Int), (5 : Int), ([] : List Tree), ()) = some ((true, ()), ()) := hv
 obtain ⟨n, rfl⟩ : ∃ n, N = n + 1 := ⟨N - 1, by omega⟩
 have hp := zw14 (n + 1) (v := iu64 5) (w := 8) (b := [(1 : UInt8)]) (by omega) (by omega) (by decide) (by omega)
 have hb : [(1 : UInt8)] ++ be (iu64 5) (8 : Int).toNat = [1, 0, 0, 0, 0, 0, 0, 0, 5] := by decide
 have hw : zq46 (n + 1) ((1 : Int), (5 : Int), ([] : List Tree), ()) = some (((0 : Int), ()), ([1, 0, 0, 0, 0, 0, 0, 0, 5], ())) := by
  unfold zq46
  simp only [hv', Option.bind_some, Bool.not_true, cond_false]
  have hf : zwx (n + 1) (n + 1) ((1 : Int), (5 : Int), ([] : List Tree), ()) = some ((), ([1, 0, 0, 0, 0, 0, 0, 0, 5], ())) := by
   show writeG (n + 1) (zwx (n + 1) n) ((1 : Int), (5 : Int), ([] : List Tree), ()) = _
   unfold writeG
   have ho : zw3k (n + 1) (zwx (n + 1) n) ((1 : Int), (5 : Int), ([] : List Tree), ()) = some ((), ([1, 0, 0, 0, 0, 0, 0, 0, 5], ())) := by
    show zq18 (n + 1) ((1 : Int), (5 : Int), ([] : List Tree), ()) [(1 : UInt8)] = _
    unfold zq18
    rw [hp, hb]
    rfl
   rw [ho]
   rfl
  rw [hf]
  rfl
 unfold zq72
 have e1 : zq57 (n + 1) (5 : Int) = some ((((1 : Int), (5 : Int), ([] : List Tree), ()), ()), ()) := rfl
 rw [e1, Option.bind_some]
 rw [hw]
 rfl
end
end Go.Proofs.YtajpblfinenmjaaGreatDoor.Pl

namespace Go.Proofs.YtajpblfinenmjaaGreatDoor.Pl
open Go
def kHid : TT.den := (2, 1048876, [], ())
def kOth : TT.den := (2, 1048877, [], ())
theorem un_mk (q : TT.den) : (mkT q).un = q := rfl
theorem zw4q (l : List TT.den) : (l.map mkT).map Tree.un = l := by
 induction l with
 | nil => rfl
 | cons t l ih => simp only [List.map_cons, ih, un_mk]
section
variable (N : Nat) (hN : 4611686018427387904 ≤ N) (hsh : ∀ i j, i ≤ j → j < 15 → zq100 N (shD i j) = some ((true, ()), ())) (hfm : ∀ i j, i ≤ j → j < 15 → zq97 N (shD i j) = some ((true, ()), ())) (hag : ∀ i j, i < 15 → j < 15 → ∃ t, zq76 N (4, 0, [mkT (nmD i)], ()) (nmD j) = some ((shD (min i j) (max i j), t, ()), ()))
include hN
theorem zwk7 (a : UInt8) {c : List UInt8 × (Int × Unit)} (h : COk c) : ∃ i0 i1 i2 i3 c4, i0 < 15 ∧ i1 < 15 ∧ i2 < 15 ∧ i3 < 15 ∧ COk c4 ∧ zq19_1 N a 0 c kHid [] = zq19_3 N a c4 kHid [nmD i0, nmD i1, nmD i2, nmD i3] := by
 obtain ⟨i0, c1, e0, b0, h1⟩ := zw2f N h
 obtain ⟨i1, c2, e1, b1, h2⟩ := zw2f N h1
 obtain ⟨i2, c3, e2, b2, h3⟩ := zw2f N h2
 obtain ⟨i3, c4, e3, b3, h4⟩ := zw2f N h3
 refine ⟨i0, i1, i2, i3, c4, b0, b1, b2, b3, h4, ?_⟩
 have s0 : zq19_s2 N a 0 c kHid [] = some (.go ((a, 1, ()), (c1, kHid, [nmD i0], ()))) := by
  unfold zq19_s2; rw [e0]; rfl
 have s1 : zq19_s2 N a 1 c1 kHid [nmD i0] = some (.go ((a, 2, ()), (c2, kHid, [nmD i0, nmD i1], ()))) := by
  unfold zq19_s2; rw [e1]; rfl
 have s2 : zq19_s2 N a 2 c2 kHid [nmD i0, nmD i1] = some (.go ((a, 3, ()), (c3, kHid, [nmD i0, nmD i1, nmD i2], ()))) := by
  unfold zq19_s2; rw [e2]; rfl
 have s3 : zq19_s2 N a 3 c3 kHid [nmD i0, nmD i1, nmD i2] = some (.go ((a, 4, ()), (c4, kHid, [nmD i0, nmD i1, nmD i2, nmD i3], ()))) := by
  unfold zq19_s2; rw [e3]; rfl
 have s4 : zq19_s2 N a 4 c4 kHid [nmD i0, nmD i1, nmD i2, nmD i3] = some (.br ((a, ()), (c4, kHid, [nmD i0, nmD i1, nmD i2, nmD i3], ()))) := rfl
 unfold zq19_1
 exact zwn (step := fun y => zq19_s2 N y.1.1 y.1.2.1 y.2.1 y.2.2.1 y.2.2.2.1) (J := fun (e : ((UInt8 × Unit) × (((List UInt8) × (Int × Unit)) × TT.den × (List TT.den) × Unit))) => zq19_3 N e.1.1 e.2.1 e.2.2.1 e.2.2.2.1) (fun n => match n with
  | 0 => ((a, (0 : Int), ()), (c, kHid, ([] : List TT.den), ()))
  | 1 => ((a, (1 : Int), ()), (c1, kHid, [nmD i0], ()))
  | 2 => ((a, (2 : Int), ()), (c2, kHid, [nmD i0, nmD i1], ()))
  | 3 => ((a, (3 : Int), ()), (c3, kHid, [nmD i0, nmD i1, nmD i2], ()))
  | _ => ((a, (4 : Int), ()), (c4, kHid, [nmD i0, nmD i1, nmD i2, nmD i3], ()))) (n := 4) (fun i hi => by
   match i, hi with
   | 0, _ => exact s0
   | 1, _ => exact s1
   | 2, _ => exact s2
   | 3, _ => exact s3) s4 (by omega)
theorem zwk8 {l : List TT.den} {i : Nat} (hl : l.length = 4) {u : TT.den} {ul : List Tree} (hu : u.2.2.1 = ul) (hul : ul.length = 4) (hg : ∀ z, ((ul.map Tree.un).getD i z).1 = 10) (hs : ∀ k, k < 4 → k ≠ i → ∀ z z', zq51 N ((ul.map Tree.un).getD k z) (l.getD k z') = some ((true, ()), ())) :
  zq19_5 N l (i : Int) 0 u = some ((true, ()), ()) := by
 have hulm : (ul.map Tree.un).length = 4 := by rw [List.length_map, hul]
 unfold zq19_5
 have hll := zwc (N := N) (step := fun y => zq19_s6 N y.1.1 y.1.2.1 y.1.2.2.1 y.2.1) (J := fun (e : ((Unit) × (Unit))) => zq19_7 N)
  (I := fun z => ∃ k : Nat, z = ((l, (i : Int), (k : Int), ()), (u, ())) ∧ k ≤ 4) (μ := fun z => (4 - z.1.2.2.1).toNat) (T := fun r => r = ((true, ()), ())) ?_
  (x := ((l, (i : Int), (0 : Int), ()), (u, ()))) ⟨0, rfl, by omega⟩ (by simp only; omega)
 ·obtain ⟨r, h1, rfl⟩ := hll
  exact h1
 ·rintro z ⟨k, rfl, hk⟩
  simp only [zq19_s6, hu]
  by_cases hlt : k < 4
  ·have e1 : decide ((k : Int) < (4 : Int)) = true := decide_eq_true (by omega)
   have e4 : w64 ((k : Int) + 1) = (k : Int) + 1 := w64_of (by omega) (by omega)
   have e5 : inR (k : Int) (ul.map Tree.un).length = true := inR_of (by omega) (by omega)
   have e6 : inR (k : Int) l.length = true := inR_of (by omega) (by omega)
   have e7 : (k : Int).toNat = k := by omega
   simp only [e1, cond_true, e4, e5, e6, e7]
   by_cases hki : k = i
   ·subst hki
    have e2 : decide ((k : Int) = (k : Int)) = true := decide_eq_true rfl
    have e3 : ∀ z, decide (((ul.map Tree.un).getD k z).1 = (10 : Int)) = true := fun z => decide_eq_true (hg z)
    simp only [e2, cond_true, e3, Bool.not_true, cond_false]
    exact ⟨_, rfl, ⟨k + 1, rfl, by omega⟩, by simp only; omega⟩
   ·have e2 : decide ((k : Int) = (i : Int)) = false := decide_eq_false (by omega)
    simp only [e2, cond_false, Bool.not_false, cond_true, hs k hlt hki, Option.bind_some, Bool.not_true]
    exact ⟨_, rfl, ⟨k + 1, rfl, by omega⟩, by simp only; omega⟩
  ·have e1 : decide ((k : Int) < (4 : Int)) = false := decide_eq_false (by omega)
   simp only [e1, cond_false]
   exact ⟨_, rfl, _, rfl, rfl⟩
include hsh hfm hag
theorem zwk9 (a : UInt8) {c : List UInt8 × (Int × Unit)} (hc : COk c) {L : List TT.den} (hLn : L.length = 4) (hLg : ∀ q ∈ L, ∃ i, i < 15 ∧ q = nmD i) : zq19_3 N a c kHid L = some ((true, ()), ()) := by
 obtain ⟨i, hi⟩ : ∃ i, i = a.toNat % 4 := ⟨_, rfl⟩
 have hi4 : i < 4 := by omega
 have ei : (a.toNat : Int).tmod (4 : Int) = (i : Int) := by rw [hi]; rfl
 obtain ⟨t, c1, n1, hg, _⟩ := zwal N hN hag 2 N (by omega) (by omega) c hc
 have n1' : zw1y N N (3 : Int) c = some ((t, ()), (c1, ())) := n1
 obtain ⟨T, hT⟩ : ∃ T, T = mkT t := ⟨_, rfl⟩
 have hg3 : Gd 3 T := by rw [hT]; exact hg
 obtain ⟨S, hS⟩ : ∃ S, S = Tree.mk 7 0 [mkT kHid, T] := ⟨_, rfl⟩
 have hSl : zq105 N kHid t = some ((S.un, ()), ()) := by rw [hS, hT]; rfl
 have hkg : ∀ {d : Nat}, Gd (d + 1) (mkT kHid) := zw3s (by decide) (by decide) (.inr (.inl rfl))
 have hog : ∀ {d : Nat}, Gd (d + 1) (mkT kOth) := zw3s (by decide) (by decide) (.inr (.inl rfl))
 have hSg : Gd 4 S := by
  rw [hS]
  refine ⟨⟨Int.le_refl _, (by decide : (0 : Int) ≤ 10000000), .inr (.inr (.inr (.inr (.inr (.inr (.inr (.inr ⟨rfl, rfl, _, _, rfl⟩)))))))⟩, by simp [args, bdn2], fun x hx => ?_⟩
  simp only [args, List.mem_cons, List.not_mem_nil, or_false] at hx
  rcases hx with rfl | rfl
  ·exact hkg
  ·exact hg3
 obtain ⟨ks, hks⟩ : ∃ ks, ks = kz S := ⟨_, rfl⟩
 have hks0 : ks = kHid :: kz T := by rw [hks, hS]; rfl
 obtain ⟨y1, y2⟩ := zwan N hN 4 N S (by omega) (by omega) hSg
 have y2' : ks.length ≤ 341 := by rw [hks]; exact Nat.le_trans y2 (nbd_le (by omega))
 rw [← hks] at y1
 have hkg5 : ∀ q ∈ ks ++ [kOth], Gd 4 (mkT q) := by
  intro q hq
  rcases List.mem_append.1 hq with hq | hq
  ·rw [hks] at hq; exact kz_gd hSg q hq
  ·simp only [List.mem_cons, List.not_mem_nil, or_false] at hq; rw [hq]; exact hog
 have hcl : (ks ++ [kOth]).length ≤ 1000 := by simp only [List.length_append, List.length_cons, List.length_nil]; omega
 obtain ⟨r, z1, z2⟩ := zwk3 N hN hfm (L := ks ++ [kOth]) (e := 4) (by omega) hkg5 hcl
 have nm : zq104 N (1 : Int) (301 : Int) = some ((kOth, ()), ()) := rfl
 obtain ⟨X, hX⟩ : ∃ X, X = L.set i S.un := ⟨_, rfl⟩
 have hXn : X.length = 4 := by rw [hX, List.length_set, hLn]
 have hXat : ∀ z, X.getD i z = S.un := fun z => by rw [hX]; simp [List.getD, hLn, hi4]
 have hXne : ∀ k, k ≠ i → X[k]? = L[k]? := fun k hk => by rw [hX, List.getElem?_set_ne (by omega)]
 have f1 : inR (i : Int) L.length = true := inR_of (by omega) (by omega)
 have f2 : inR (i : Int) X.length = true := inR_of (by omega) (by omega)
 have f3 : (i : Int).toNat = i := by omega
 have f4 : room (ks.length + ([kOth] : List TT.den).length) 40 = true := zw3 (by simp only [List.length_cons, List.length_nil]; omega)
 have f5 : room (ks.length + ([kHid] : List TT.den).length) 40 = true := zw3 (by simp only [List.length_cons, List.length_nil]; omega)
 unfold zq19_3
 simp only [ei, n1', Option.bind_some, hSl, f1, cond_true, f3]
 rw [← hX]
 simp only [f2, cond_true, hXat, y1, Option.bind_some, nm, f4, z1]
 cases r with
 | true => rfl
 | false =>
  have hno := z2 rfl
  simp only [cond_false]
  obtain ⟨ts, hts⟩ : ∃ ts, ts = X.map mkT := ⟨_, rfl⟩
  have htn : ts.length = 4 := by rw [hts, List.length_map, hXn]
  have htu : ts.map Tree.un = X := by rw [hts, zw4q]
  have htat : ts[i]? = some S := by
   rw [hts, List.getElem?_map, hX, List.getElem?_set_self (by omega), Option.map_some, mk_un]
  have htne : ∀ (k : Nat) x, k ≠ i → ts[k]? = some x → ∃ j, j < 15 ∧ x = mkT (nmD j) := by
   intro k x hk hx
   rw [hts, List.getElem?_map, hXne k hk] at hx
   obtain ⟨q, hq, rfl⟩ := Option.map_eq_some_iff.1 hx
   obtain ⟨j, hj, rfl⟩ := hLg q (List.mem_of_getElem? hq)
   exact ⟨j, hj, rfl⟩
  have htg : ∀ x ∈ ts, Gd 4 x := by
   intro x hx
   obtain ⟨k, hk, hkx⟩ := List.getElem_of_mem hx
   have hk' : ts[k]? = some x := by rw [List.getElem?_eq_getElem hk, hkx]
   by_cases hki : k = i
   ·subst hki; rw [htat] at hk'; cases hk'; exact hSg
   ·obtain ⟨j, hj, rfl⟩ := htne k x hki hk'; exact (nm_gd hj).le (by omega)
  have hlg : Gd 5 (.mk 3 0 ts) := ⟨⟨Int.le_refl _, (by decide : (0 : Int) ≤ 10000000), .inr (.inr (.inr (.inl ⟨rfl, rfl⟩)))⟩, by show ts.length ≤ 4; omega, htg⟩
  have hlw : wl (.mk 3 0 ts) ≤ 8192 := Nat.le_trans (wl_le hlg) (by decide)
  obtain ⟨body, hRb⟩ := rt N hN hsh 3 T (by omega) hg3 (Nat.le_trans (wl_le hg3) (by decide))
  have hSw : wl S ≤ 8192 := Nat.le_trans (wl_le hSg) (by decide)
  obtain ⟨sb, hsb, hsm⟩ : ∃ b, RT N 4 S b ∧ ∀ K : List TT.den, K.length ≤ 1000000 → (∃ k ti, zq39 N kHid = some ((0, ()), (k, ())) ∧ zq43 N k = some ((ti, ()), ()) ∧ ∀ x ∈ K, NT N ti x) → ∀ m, 4 ≤ m → zwe N m b K = some (((10, 0, [], ()), ()), ()) := by
   have := zwak N hN hsh (e := 3) (by omega) (a := mkT kHid) (c := T) hkg hRb (by rw [← hS]; exact hSw)
   rw [← hS] at this
   exact this
  have hsplit : ∀ x ∈ ts, ∃ b, RT N 4 x b ∧ (x = S → b = sb) := by
   intro x hx
   by_cases hxS : x = S
   ·exact ⟨sb, by rw [hxS]; exact hsb, fun _ => rfl⟩
   ·obtain ⟨b, hb⟩ := rt N hN hsh 4 x (by omega) (htg x hx) (Nat.le_trans (wl_le (htg x hx)) (by decide))
    exact ⟨b, hb, fun h => absurd h hxS⟩
  obtain ⟨B, hB, hBp⟩ := zw61 hsplit
  have hBr : ∀ (k : Nat) x, ts[k]? = some x → RT N 4 x (B.getD k []) := fun k x hx => (hBp k x hx).1
  obtain ⟨hRl, hbl⟩ := zwaj N hN (e := 4) (l := ts) (by omega) hB hBr hlw
  have hW := zwk5 N hN hsh (e := 5) (by omega) hlg hRl
  have hlist : zq93 N X = some (((Tree.mk 3 0 ts).un, ()), ()) := by
   have er : room (0 + X.length) 40 = true := zw3 (by omega)
   unfold zq93
   simp only [er, cond_true, Option.bind_some, hts]
   rfl
  have hmem : kHid ∈ ks := by rw [hks0]; simp
  obtain ⟨g1, g2⟩ := zw3t N hN hsh (e := 4) (by omega) (q := kHid) (hkg (d := 3))
  obtain ⟨g3, g4⟩ := zw3t N hN hsh (e := 4) (by omega) (q := kOth) (hog (d := 3))
  have hpos : ∀ n, n < ks.length → (ks ++ [kOth]).getD n (0, 0, [], ()) = ks.getD n (0, 0, [], ()) := fun n hn => by simp [List.getD, List.getElem?_append_left hn]
  have hdif : nq kOth ≠ nq kHid := by
   intro hq
   have h0 : 0 < ks.length := by rw [hks0]; simp
   have e0 : (ks ++ [kOth]).getD 0 (0, 0, [], ()) = kHid := by rw [hks0]; rfl
   have e1 : (ks ++ [kOth]).getD ks.length (0, 0, [], ()) = kOth := by simp [List.getD]
   have := hno ks.length 0 h0 (by simp) (.inl (by rw [e0, e1]; exact hq))
   rw [e0, e1] at this
   have h2 : (1048877 : Int) = 1048876 := congrArg (fun q : TT.den => q.2.1) this
   exact absurd h2 (by decide)
  have hU := hsm [kOth] (by simp) ⟨sq kHid, nq kHid, g1, g2, fun x hx => by
   simp only [List.mem_cons, List.not_mem_nil, or_false] at hx
   subst hx
   exact ⟨sq kOth, nq kOth, g3, g4, hdif, by rw [nq_len]; omega⟩⟩
  obtain ⟨us, hus⟩ : ∃ us, us = X.set i ((10, 0, [], ()) : TT.den) := ⟨_, rfl⟩
  have hun : us.length = 4 := by rw [hus, List.length_set, hXn]
  have hBn : B.length = 4 := by omega
  have hru : ∀ m, 4 ≤ m → zq10 N (zwe N m) ((be (iu64 (B.length : Int)) 2 ++ (lsb B ++ []), [kOth], ()) : RdS) = some (((3, 0, us.map mkT, ()), ()), ((([], [kOth], ()) : RdS), ())) := fun m hm => zw60 N hN (rc := zwe N m) (B := B) (ts := us) (K := [kOth]) (by omega) (by omega) hbl (fun k b hb => by
   have hk : k < 4 := by have := (List.getElem?_eq_some_iff.1 hb).1; omega
   have hx : ts[k]? = some (ts[k]'(by omega)) := List.getElem?_eq_getElem (by omega)
   have hBk : B.getD k [] = b := by simp [List.getD, hb]
   by_cases hki : k = i
   ·subst hki
    refine ⟨(10, 0, [], ()), by rw [hus, List.getElem?_set_self (by omega)], ?_⟩
    rw [← hBk, (hBp k S htat).2 rfl]
    exact hU m hm
   ·obtain ⟨j, hj, hxe⟩ := htne k _ hki hx
    refine ⟨nmD j, ?_, ?_⟩
    ·rw [hus, List.getElem?_set_ne (by omega)]
     rw [← htu, List.getElem?_map, hx, hxe]
     rfl
    ·have := (hBr k _ hx).miss [kOth] (by simp) (fun q hq => by rw [hxe] at hq; cases hq) m hm
     rw [hBk, hxe] at this
     exact this) []
  have hR1 := zwaw N (rd_of (N := N) (e := 4) (b := [(3 : UInt8)] ++ (be (iu64 (ts.length : Int)) 2 ++ lsb B)) (K := [kOth]) (v := (3, 0, us.map mkT, ())) (fun m hm => by
   rw [tm3]
   have h := hru m hm
   rw [List.append_nil, hB] at h
   rw [h]
   rfl) N (by omega))
  have hno2 : NoCl (ks ++ [kHid]) := by
   intro p q hqp hp hh
   have hn2 : ∀ n, n < ks.length → (ks ++ [kHid]).getD n (0, 0, [], ()) = ks.getD n (0, 0, [], ()) := fun n hn => by simp [List.getD, List.getElem?_append_left hn]
   have hlast : (ks ++ [kHid]).getD ks.length (0, 0, [], ()) = kHid := by simp [List.getD]
   have h0 : ks.getD 0 (0, 0, [], ()) = kHid := by rw [hks0]; rfl
   have hk0 : 0 < ks.length := by rw [hks0]; simp
   simp only [List.length_append, List.length_cons, List.length_nil] at hp
   have hq : q < ks.length := by omega
   by_cases hpl : p = ks.length
   ·subst hpl
    rw [hlast, hn2 q hq] at hh ⊢
    by_cases hq0 : q = 0
    ·rw [hq0, h0]
    ·have := hno q 0 (by omega) (by simp only [List.length_append, List.length_cons, List.length_nil]; omega)
     rw [hpos q hq, hpos 0 hk0, h0] at this
     exact (this (hh.imp Eq.symm Eq.symm)).symm
   ·have hp' : p < ks.length := by omega
    have := hno p q hqp (by simp only [List.length_append, List.length_cons, List.length_nil]; omega)
    rw [hpos p hp', hpos q hq] at this
    rw [hn2 p hp', hn2 q hq] at hh ⊢
    exact this hh
  have hg2 : ∀ q ∈ ks ++ [kHid], Gd 4 (mkT q) := by
   intro q hq
   rcases List.mem_append.1 hq with hq | hq
   ·exact hkg5 q (List.mem_append.2 (.inl hq))
   ·simp only [List.mem_cons, List.not_mem_nil, or_false] at hq; rw [hq]; exact hkg
  have hfull := zwk4 N hN hsh (e := 4) (by omega) hg2 hno2
  have hkl : ∀ q ∈ kz (.mk 3 0 ts), q ∈ ks := by
   intro q hq
   have hk : kz (.mk 3 0 ts) = (ts.map kz).flatten := by show (kzl ts).flatten = _; rw [zw4o]
   rw [hk, List.mem_flatten] at hq
   obtain ⟨l, hl, hql⟩ := hq
   obtain ⟨x, hx, rfl⟩ := List.mem_map.1 hl
   obtain ⟨k, hk, hkx⟩ := List.getElem_of_mem hx
   have hk' : ts[k]? = some x := by rw [List.getElem?_eq_getElem hk, hkx]
   by_cases hki : k = i
   ·subst hki; rw [htat] at hk'; cases hk'; rw [hks]; exact hql
   ·obtain ⟨j, hj, rfl⟩ := htne k x hki hk'; cases hql
  have hR2 := zwaw N (hRl.full (ks ++ [kHid]) (by simp only [List.length_append, List.length_cons, List.length_nil]; omega) (fun q hq => hfull q (List.mem_append.2 (.inl (hkl q hq)))) N (by omega))
  have hSm := zwas N hN hsh (e := 5) (by omega) hlg
  have hlast := zwk8 N hN (l := X) (i := i) hXn (u := (3, 0, us.map mkT, ())) (ul := us.map mkT) rfl (by rw [List.length_map, hun]) (fun z => by
   rw [zw4q, hus]
   simp [List.getD, hXn, hi4]) (fun k hk hki z z' => by
   obtain ⟨x, hx⟩ : ∃ x, ts[k]? = some x := ⟨_, List.getElem?_eq_getElem (by omega)⟩
   obtain ⟨j, hj, rfl⟩ := htne k x hki hx
   have hXk : X[k]? = some (nmD j) := by rw [← htu, List.getElem?_map, hx]; rfl
   have h1 : X.getD k z' = nmD j := by simp [List.getD, hXk]
   have h2 : us.getD k z = nmD j := by
    have : us[k]? = some (nmD j) := by rw [hus, List.getElem?_set_ne (by omega), hXk]
    simp [List.getD, this]
   rw [zw4q, h1, h2]
   exact zwas N hN hsh (e := 1) (by omega) (nm_gd hj))
  have hul : decide (((List.map Tree.un (us.map mkT)).length : Int) = (4 : Int)) = true := decide_eq_true (by rw [zw4q, hun]; rfl)
  have hR2' : zq50 N ([(3 : UInt8)] ++ (be (iu64 (ts.length : Int)) 2 ++ lsb B)) (ks ++ ([kHid] : List TT.den)) = _ := hR2
  have hR1' : zq50 N ([(3 : UInt8)] ++ (be (iu64 (ts.length : Int)) 2 ++ lsb B)) ([kOth] : List TT.den) = _ := hR1
  obtain ⟨W, hWW⟩ : ∃ W, W = [(3 : UInt8)] ++ (be (iu64 (ts.length : Int)) 2 ++ lsb B) := ⟨_, rfl⟩
  rw [← hWW] at hW hR1' hR2'
  have hd0 : decide ((0 : Int) = (0 : Int)) = true := decide_eq_true rfl
  simp only [hlist, Option.bind_some, hW, hR1', f5, cond_true, hR2', hd0, Bool.not_true, cond_false, hul, hSm]
  unfold zq19_4
  simp only [cond_false]
  exact hlast
theorem hides (codes : List UInt8) (a : UInt8) : zq19 N codes a = some ((true, ()), ()) := by
 obtain ⟨c0, n0, k0⟩ := zwjv N 120 (by omega) codes
 obtain ⟨i0, i1, i2, i3, c4, b0, b1, b2, b3, k4, e4⟩ := zwk7 N hN a k0
 have n0' : zq117 N codes (120 : Int) = some ((), (c0, ())) := n0
 have nm : zq104 N (1 : Int) (300 : Int) = some ((kHid, ()), ()) := rfl
 unfold zq19
 rw [zwk6 N hN hsh]
 simp only [Option.bind_some, Bool.not_true, cond_false, n0', nm]
 rw [e4]
 obtain ⟨L, hL⟩ : ∃ L, L = [nmD i0, nmD i1, nmD i2, nmD i3] := ⟨_, rfl⟩
 have hLn : L.length = 4 := by rw [hL]; rfl
 have hLg : ∀ q ∈ L, ∃ i, i < 15 ∧ q = nmD i := by
  intro q hq
  rw [hL] at hq
  simp only [List.mem_cons, List.not_mem_nil, or_false] at hq
  rcases hq with rfl | rfl | rfl | rfl
  ·exact ⟨_, b0, rfl⟩
  ·exact ⟨_, b1, rfl⟩
  ·exact ⟨_, b2, rfl⟩
  ·exact ⟨_, b3, rfl⟩
 rw [← hL]
 clear hL e4
 exact zwk9 N hN hsh hfm hag a k4 hLn hLg
end
theorem zwka (codes : List UInt8) (_h : codes.length ≤ 9223372036854775807) (a : UInt8) : zq19 18446744073709551616 codes a = some ((true, ()), ()) :=
 hides 18446744073709551616 (by omega) zwf8 zwjx (fun i j hi hj => by
  have h := zwf7 i j hi hj
  unfold agQ at h
  rw [Option.map_eq_some_iff] at h
  obtain ⟨⟨⟨q, t, ⟨⟩⟩, ⟨⟩⟩, h3, h4⟩ := h
  exact ⟨t, by rw [h3]; simp only at h4; rw [h4]⟩) codes a
end Go.Proofs.YtajpblfinenmjaaGreatDoor.Pl
