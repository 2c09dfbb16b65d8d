/- The ghost machine: the data of Go as data of Lean, and the operations of a function on them, without a heap. -/
import Derived.Calls
set_option linter.unusedVariables false
set_option linter.unusedSimpArgs false
namespace Go.Proofs.YtehbbcdhahnkgaaGreat
open Go

inductive Tree where
 | mk (op val : Int) (args : List Tree)

inductive Ty where
 | bool | i64 | u8 | u16 | u32 | u64 | str | unit
 | sl (t : Ty)
 | arr (n : Nat) (t : Ty)
 | pair (a b : Ty)
 | trees

def Ty.same : Ty → Ty → Bool
 | .bool, .bool | .i64, .i64 | .u8, .u8 | .u16, .u16 | .u32, .u32 | .u64, .u64 | .str, .str | .unit, .unit | .trees, .trees => true
 | .sl a, .sl b => a.same b
 | .arr n a, .arr m b => Nat.beq n m && a.same b
 | .pair a b, .pair c d => a.same c && b.same d
 | _, _ => false

theorem Ty.same_eq : ∀ {a b : Ty}, a.same b = true → a = b := by
 intro a
 induction a with
 | sl a ih => intro b h; cases b <;> simp [Ty.same] at h; rw [ih h]
 | arr n a ih => intro b h; cases b <;> simp [Ty.same] at h; rw [ih h.2, h.1]
 | pair a b iha ihb => intro b h; cases b <;> simp [Ty.same] at h; rw [iha h.1, ihb h.2]
 | _ => intro b h; cases b <;> simp [Ty.same] at h <;> rfl
@[reducible] def Ty.den : Ty → Type
 | .bool => Bool
 | .i64 => Int
 | .u8 => UInt8
 | .u16 => UInt16
 | .u32 => UInt32
 | .u64 => UInt64
 | .str => List UInt8
 | .unit => Unit
 | .sl t => List t.den
 | .arr _ t => List t.den
 | .pair a b => a.den × b.den
 | .trees => List Tree

def Ty.zero : (t : Ty) → t.den
 | .bool => false
 | .i64 => (0 : Int)
 | .u8 => (0 : UInt8)
 | .u16 => (0 : UInt16)
 | .u32 => (0 : UInt32)
 | .u64 => (0 : UInt64)
 | .str => ([] : List UInt8)
 | .unit => ()
 | .sl t => ([] : List t.den)
 | .arr n t => List.replicate n t.zero
 | .pair a b => (a.zero, b.zero)
 | .trees => ([] : List Tree)

def Ty.size : Ty → Nat
 | .unit => 0
 | .arr n t => n * t.size
 | .pair a b => a.size + b.size
 | _ => 1

def Ty.isAgg : Ty → Bool
 | .unit | .arr .. | .pair .. => true
 | _ => false

def Ty.flat : Ty → Bool
 | .sl _ => false
 | .trees => false
 | .arr _ t => t.flat
 | .pair a b => a.flat && b.flat
 | _ => true

def tcast (a b : Ty) (x : a.den) : Option b.den :=
 if h : a.same b = true then some (Ty.same_eq h ▸ x) else none

abbrev Dt := (t : Ty) × t.den

abbrev TT : Ty := .pair .i64 (.pair .i64 (.pair .trees .unit))
def Tree.un : Tree → TT.den
 | .mk o v l => (o, v, l, ())
def mkT (x : TT.den) : Tree := .mk x.1 x.2.1 x.2.2.1
def viewTy : Ty → Ty
 | .trees => .sl TT
 | .bool => .bool | .i64 => .i64 | .u8 => .u8 | .u16 => .u16 | .u32 => .u32 | .u64 => .u64 | .str => .str | .unit => .unit
 | .sl t => .sl t
 | .arr n t => .arr n t
 | .pair a b => .pair a b
def viewD : (t : Ty) → t.den → Dt
 | .trees, x => ⟨.sl TT, List.map Tree.un x⟩
 | .bool, x => ⟨.bool, x⟩ | .i64, x => ⟨.i64, x⟩ | .u8, x => ⟨.u8, x⟩ | .u16, x => ⟨.u16, x⟩ | .u32, x => ⟨.u32, x⟩ | .u64, x => ⟨.u64, x⟩ | .str, x => ⟨.str, x⟩ | .unit, x => ⟨.unit, x⟩
 | .sl t, x => ⟨.sl t, x⟩
 | .arr n t, x => ⟨.arr n t, x⟩
 | .pair a b, x => ⟨.pair a b, x⟩
def putD : (t : Ty) → Dt → Option t.den
 | .trees, y => (tcast y.1 (.sl TT) y.2).map fun l => List.map mkT l
 | .bool, y => tcast y.1 .bool y.2 | .i64, y => tcast y.1 .i64 y.2 | .u8, y => tcast y.1 .u8 y.2 | .u16, y => tcast y.1 .u16 y.2 | .u32, y => tcast y.1 .u32 y.2 | .u64, y => tcast y.1 .u64 y.2 | .str, y => tcast y.1 .str y.2 | .unit, y => tcast y.1 .unit y.2
 | .sl t, y => tcast y.1 (.sl t) y.2
 | .arr n t, y => tcast y.1 (.arr n t) y.2
 | .pair a b, y => tcast y.1 (.pair a b) y.2

inductive PS where
 | fld (k : Nat)
 | idx (i : Nat)

def Ty.fld : (t : Ty) → t.den → Nat → Option Dt
 | .pair a _, x, 0 => some (viewD a x.1)
 | .pair _ b, x, k + 1 => b.fld x.2 k
 | _, _, _ => none
def Ty.setFld : (t : Ty) → t.den → Nat → Dt → Option t.den
 | .pair a _, x, 0, y => (putD a y).map fun z => (z, x.2)
 | .pair _ b, x, k + 1, y => (b.setFld x.2 k y).map fun z => (x.1, z)
 | _, _, _, _ => none

def getP : List PS → (t : Ty) → t.den → Option Dt
 | [], t, x => some ⟨t, x⟩
 | .fld k :: p, t, x => match t.fld x k with
  | some y => getP p y.1 y.2
  | none => none
 | .idx i :: p, .arr _ t, x => getP p t (x.getD i t.zero)
 | .idx i :: p, .sl t, x => getP p t (x.getD i t.zero)
 | _, _, _ => none
def setP : List PS → (t : Ty) → t.den → Dt → Option t.den
 | [], t, _, y => tcast y.1 t y.2
 | .fld k :: p, t, x, y => match t.fld x k with
  | some z => match setP p z.1 z.2 y with
   | some u => t.setFld x k ⟨z.1, u⟩
   | none => none
  | none => none
 | .idx i :: p, .arr _ t, x, y => (setP p t (x.getD i t.zero) y).map fun z => x.set i z
 | .idx i :: p, .sl t, x, y => (setP p t (x.getD i t.zero) y).map fun z => x.set i z
 | _, _, _, _ => none

inductive SV where
 | data (t : Ty) (x : t.den)
 | nil
 | nilp
 | row (id : Nat)
 | ref (id : Nat) (T : Ty) (p : List PS)
 | fp (t : Ty) (x : t.den)
 | asl (id : Nat) (n : Nat)
 | sdata (t : Ty) (x : t.den) (f : Nat)
 | ifc (t : Option Nat)
 | rsl (id : Nat) (t : Ty) (l h : Nat)

inductive GV where
 | sv (v : SV)
 | tup (l : List SV)
 | clo (f : Nat) (caps : List SV)

inductive Ob where
 | row (e : Nat) (t : Ty) (xs : List t.den) (own : Bool)
 | box (e : Nat) (t : Ty) (x : t.den) (own : Bool)
 | vbox (e : Nat) (v : SV)
 | sbox (e : Nat) (t : Ty) (x : t.den) (f : Nat) (v : SV)
 | hrow (e : Nat) (t : Ty) (xs : List t.den) (i f r : Nat)
 | raw (c : Obj)

structure GS where
 slots : List (Nat × GV)
 objs : List (Nat × Ob)
 next : Nat

section
variable {α : Type}
def look (n : Nat) : List (Nat × α) → Option α
 | [] => none
 | (k, v) :: l => bif Nat.beq k n then some v else look n l
def lput (n : Nat) (v : α) : List (Nat × α) → List (Nat × α)
 | [] => [(n, v)]
 | (k, u) :: l => bif Nat.beq k n then (n, v) :: l else (k, u) :: lput n v l
def ldel (n : Nat) : List (Nat × α) → List (Nat × α)
 | [] => []
 | (k, u) :: l => bif Nat.beq k n then ldel n l else (k, u) :: ldel n l
end

inductive Wr where
 | slot (n : Nat) (v : Option GV)
 | obj (id : Nat) (o : Option Ob)

def GS.put (s : GS) : Wr → GS
 | .slot n (some g) => { s with slots := lput n g s.slots }
 | .slot n none => { s with slots := ldel n s.slots }
 | .obj id (some o) => { s with objs := lput id o s.objs }
 | .obj id none => { s with objs := ldel id s.objs }
def Wr.at : Wr → Bool × Nat
 | .slot n _ => (false, n)
 | .obj id _ => (true, id)
def GS.app (s : GS) (ws : List Wr) : GS := ws.foldl GS.put s
def GS.refine (s : GS) (n : Nat) (b : Bool) : GS := { s with slots := lput n (.sv (.data .bool b)) s.slots }

inductive RT : Type 1 where
 | fail
 | get (n : Nat) (k : GV → RT)
 | obj (id : Nat) (k : Ob → RT)
 | chk (b : Bool) (k : RT)
 | split (n : Nat) (k : Option Bool → RT)
 | bind {α : Type} (o : Option α) (k : α → RT)
 | fin (ws : List Wr)

def RT.runK {R : Type} : RT → GS → (GS → Option R) → Option R
 | .fail, _, _ => none
 | .get n k, s, K => match look n s.slots with
  | some g => (k g).runK s K
  | none => none
 | .obj id k, s, K => match look id s.objs with
  | some o => (k o).runK s K
  | none => none
 | .chk b k, s, K => bif b then k.runK s K else none
 | .split n k, s, K => match look n s.slots with
  | some (.sv (.data .bool b)) => bif b then (k (some true)).runK (s.refine n true) K else (k (some false)).runK (s.refine n false) K
  | some (.tup []) => (k none).runK s K
  | _ => none
 | .bind o k, s, K => o.bind fun a => (k a).runK s K
 | .fin ws, s, K => K (s.app ws)

def RT.run : RT → GS → Option (List Wr)
 | .fail, _ => none
 | .get n k, s => match look n s.slots with
  | some g => (k g).run s
  | none => none
 | .obj id k, s => match look id s.objs with
  | some o => (k o).run s
  | none => none
 | .chk b k, s => bif b then k.run s else none
 | .split n k, s => match look n s.slots with
  | some (.sv (.data .bool b)) => (k (some b)).run s
  | some (.tup []) => (k none).run s
  | _ => none
 | .bind o k, s => o.bind fun a => (k a).run s
 | .fin ws, _ => some ws

def RT.runD {R : Type} : RT → List (Bool × Nat) → GS → (GS → List (Bool × Nat) → List (Bool × Nat) → Option R) → Option R
 | .fail, _, _, _ => none
 | .get n k, l, s, K => match look n s.slots with
  | some g => (k g).runD ((false, n) :: l) s K
  | none => none
 | .obj id k, l, s, K => match look id s.objs with
  | some o => (k o).runD ((true, id) :: l) s K
  | none => none
 | .chk b k, l, s, K => bif b then k.runD l s K else none
 | .split n k, l, s, K => match look n s.slots with
  | some (.sv (.data .bool b)) => bif b then (k (some true)).runD ((false, n) :: l) (s.refine n true) K else (k (some false)).runD ((false, n) :: l) (s.refine n false) K
  | some (.tup []) => (k none).runD ((false, n) :: l) s K
  | _ => none
 | .bind o k, l, s, K => o.bind fun a => (k a).runD l s K
 | .fin ws, l, s, K => K (s.app ws) l (ws.map Wr.at)

inductive SK where
 | val (t : Ty)
 | row (k : Nat)
 | ref (k : Nat) (T : Ty)
 | fp (t : Ty)
 | nilp
 | clo (f : Nat) (caps : List (Nat × Ty))
inductive VK where
 | val (t : Ty)
 | row (k : Nat)
 | ref (k : Nat) (T : Ty)
inductive OK where
 | row (e : Nat) (t : Ty)
 | box (e : Nat) (t : Ty)
 | vbox (e : Nat) (v : VK)
 | sval (e : Nat) (T : Ty) (f : Nat) (t : Ty)
 | srow (e : Nat) (T : Ty) (f : Nat) (k : Nat)
 | raw
inductive Bd where
 | pos (i : Nat)
 | cap (i j : Nat)
 | inn (k : Nat)
 | fix (i : Nat)
structure Spec where
 ks : List SK
 os : List (OK × Bd)

@[reducible] def KsD : List SK → Type
 | [] => Unit
 | .val t :: l | .fp t :: l => t.den × KsD l
 | _ :: l => KsD l
@[reducible] def OsD : List (OK × Bd) → Type
 | [] => Unit
 | (.row _ t, _) :: l => List t.den × OsD l
 | (.box _ t, _) :: l | (.vbox _ (.val t), _) :: l => t.den × OsD l
 | (.sval _ T _ t, _) :: l => T.den × (t.den × OsD l)
 | (.srow _ T _ _, _) :: l => T.den × OsD l
 | (.raw, _) :: l => Obj × OsD l
 | _ :: l => OsD l
@[reducible] def Spec.den (c : Spec) : Type := KsD c.ks × OsD c.os

def stKs (m : Nat → Nat) : (l : List SK) → KsD l → List GV
 | [], _ => []
 | .val t :: l, y => .sv (.data t y.1) :: stKs m l y.2
 | .fp t :: l, y => .sv (.fp t y.1) :: stKs m l y.2
 | .row k :: l, y => .sv (.row (m k)) :: stKs m l y
 | .ref k T :: l, y => .sv (.ref (m k) T []) :: stKs m l y
 | .nilp :: l, y => .sv .nilp :: stKs m l y
 | .clo f cs :: l, y => .clo f (cs.map fun c => .ref (m c.1) c.2 []) :: stKs m l y
def stOs (m : Nat → Nat) : (l : List (OK × Bd)) → OsD l → List Ob
 | [], _ => []
 | (.row e t, _) :: l, y => .row e t y.1 true :: stOs m l y.2
 | (.box e t, _) :: l, y => .box e t y.1 true :: stOs m l y.2
 | (.vbox e (.val t), _) :: l, y => .vbox e (.data t y.1) :: stOs m l y.2
 | (.vbox e (.row k), _) :: l, y => .vbox e (.row (m k)) :: stOs m l y
 | (.vbox e (.ref k T), _) :: l, y => .vbox e (.ref (m k) T []) :: stOs m l y
 | (.sval e T f t, _) :: l, y => .sbox e T y.1 f (.data t y.2.1) :: stOs m l y.2.2
 | (.srow e T f k, _) :: l, y => .sbox e T y.1 f (.row (m k)) :: stOs m l y.2
 | (.raw, _) :: l, y => .raw y.1 :: stOs m l y.2
def number {α : Type} : Nat → List α → List (Nat × α)
 | _, [] => []
 | n, x :: l => (n, x) :: number (n + 1) l
def Spec.st (ns : List Nat) (c : Spec) (y : c.den) : GS :=
 { slots := ns.zip (stKs id c.ks y.1), objs := number 0 (stOs id c.os y.2), next := c.os.length }

def lookAll (s : List (Nat × GV)) : List Nat → Option (List GV)
 | [] => some []
 | n :: ns => match look n s, lookAll s ns with
  | some g, some l => some (g :: l)
  | _, _ => none

def SV.id? : SV → Option Nat
 | .row i | .ref i _ [] => some i
 | _ => none
def bindOs (objs : List (Nat × Ob)) (gs : List GV) : List (OK × Bd) → List (Option Nat) → Option (List (Option Nat))
 | [], acc => some acc
 | (_, b) :: l, acc =>
  match (match b with
   | .pos i => match gs[i]? with
    | some (.sv .nil) => some none
    | some (.sv v) => match v.id? with
     | some i => some (some i)
     | none => none
    | _ => none
   | .cap i j => match gs[i]? with
    | some (.clo _ cs) => match cs[j]? with
     | some v => match v.id? with
      | some i => some (some i)
      | none => none
     | none => none
    | _ => none
   | .inn k => match acc[k]? with
    | some (some i) => match look i objs with
     | some (.vbox _ .nil) => some none
     | some (.vbox _ v) => match v.id? with
      | some i => some (some i)
      | none => none
     | some (.sbox _ _ _ _ .nil) => some none
     | some (.sbox _ _ _ _ v) => match v.id? with
      | some i => some (some i)
      | none => none
     | _ => none
    | _ => none
   | .fix i => some (some i) : Option (Option Nat)) with
  | some r => bindOs objs gs l (acc ++ [r])
  | none => none

def cut {α : Type} (xs : List α) (l h : Nat) : List α := (xs.take h).drop l
def asData (objs : List (Nat × Ob)) (t : Ty) : SV → Option t.den
 | .data t' x => tcast t' t x
 | .nil => match t with
  | .sl _ => some []
  | _ => none
 | .row i => match look i objs with
  | some (.row _ t' xs _) => tcast (.sl t') t xs
  | _ => none
 | .rsl i u l h => match look i objs with
  | some (.row _ t' xs _) => match tcast (.sl t') (.sl u) xs with
   | some ys => tcast (.sl u) t (cut ys l h)
   | none => none
  | _ => none
 | _ => none
def asFp (objs : List (Nat × Ob)) (t : Ty) : SV → Option t.den
 | .fp t' x => tcast t' t x
 | .ref i T p => match look i objs with
  | some (.box _ T' x _) => match tcast T' T x with
   | some z => match getP p T z with
    | some y => tcast y.1 t y.2
    | none => none
   | none => none
  | some (.row _ T' xs _) => match tcast (.sl T') T xs with
   | some z => match getP p T z with
    | some y => tcast y.1 t y.2
    | none => none
   | none => none
  | some (.vbox _ v) => match p with
   | [] => asData objs t v
   | _ => none
  | _ => none
 | _ => none
def lentBy (objs : List (Nat × Ob)) : SV → List Nat
 | .row i => [i]
 | .rsl i _ _ _ => [i]
 | .ref i _ _ => match look i objs with
  | some (.vbox _ (.row j)) => [i, j]
  | some (.vbox _ (.rsl j _ _ _)) => [i, j]
  | _ => [i]
 | _ => []

def isAt (ρ : List (Option Nat)) (k i : Nat) : Bool := match ρ[k]? with
 | some (some j) => Nat.beq i j
 | _ => false
def rowAt (ρ : List (Option Nat)) (k : Nat) : SV → Bool
 | .row i => isAt ρ k i
 | .nil => match ρ[k]? with
  | some none => true
  | _ => false
 | _ => false
def refAt (ρ : List (Option Nat)) (k : Nat) (T : Ty) : SV → Bool
 | .ref i T' [] => isAt ρ k i && T'.same T
 | _ => false
def cloAt (ρ : List (Option Nat)) : List (Nat × Ty) → List SV → Bool
 | [], [] => true
 | c :: cs, v :: vs => refAt ρ c.1 c.2 v && cloAt ρ cs vs
 | _, _ => false

def fitKs (objs : List (Nat × Ob)) (ρ : List (Option Nat)) : (l : List SK) → List GV → Option (KsD l × List Nat)
 | [], [] => some ((), [])
 | .val t :: l, .sv v :: gs => match asData objs t v, fitKs objs ρ l gs with
  | some x, some r => some ((x, r.1), lentBy objs v ++ r.2)
  | _, _ => none
 | .fp t :: l, .sv v :: gs => match asFp objs t v, fitKs objs ρ l gs with
  | some x, some r => some ((x, r.1), lentBy objs v ++ r.2)
  | _, _ => none
 | .row k :: l, .sv v :: gs => bif rowAt ρ k v then fitKs objs ρ l gs else none
 | .ref k T :: l, .sv v :: gs => bif refAt ρ k T v then fitKs objs ρ l gs else none
 | .nilp :: l, .sv v :: gs => match v with
  | .nilp => fitKs objs ρ l gs
  | _ => none
 | .clo f cs :: l, .clo f' vs :: gs => bif Nat.beq f f' && cloAt ρ cs vs then fitKs objs ρ l gs else none
 | _, _ => none
def objAt (objs : List (Nat × Ob)) (ρ : List (Option Nat)) (k : Nat) : Option Ob := match ρ[k]? with
 | some (some i) => look i objs
 | _ => none
def fitOs (objs : List (Nat × Ob)) (ρ : List (Option Nat)) : (l : List (OK × Bd)) → Nat → Option (OsD l × List Nat)
 | [], _ => some ((), [])
 | (.row e t, _) :: l, k => match (match ρ[k]? with
   | some none => some []
   | _ => match objAt objs ρ k with
    | some (.row e' t' xs true) => bif Nat.beq e e' then tcast (.sl t') (.sl t) xs else none
    | _ => none : Option (List t.den)), fitOs objs ρ l (k + 1) with
  | some x, some r => some ((x, r.1), r.2)
  | _, _ => none
 | (.box e t, _) :: l, k => match (match objAt objs ρ k with
    | some (.box e' t' x true) => bif Nat.beq e e' then tcast t' t x else none
    | _ => none : Option t.den), fitOs objs ρ l (k + 1) with
  | some x, some r => some ((x, r.1), r.2)
  | _, _ => none
 | (.vbox e (.val t), _) :: l, k => match objAt objs ρ k with
  | some (.vbox e' v) => bif Nat.beq e e' then (match asData objs t v, fitOs objs ρ l (k + 1) with
   | some x, some r => some ((x, r.1), lentBy objs v ++ r.2)
   | _, _ => none) else none
  | _ => none
 | (.vbox e (.row j), _) :: l, k => match objAt objs ρ k with
  | some (.vbox e' v) => bif Nat.beq e e' && rowAt ρ j v then fitOs objs ρ l (k + 1) else none
  | _ => none
 | (.vbox e (.ref j T), _) :: l, k => match objAt objs ρ k with
  | some (.vbox e' v) => bif Nat.beq e e' && refAt ρ j T v then fitOs objs ρ l (k + 1) else none
  | _ => none
 | (.sval e T f t, _) :: l, k => match objAt objs ρ k with
  | some (.sbox e' T' x f' v) => bif Nat.beq e e' && Nat.beq f f' then (match tcast T' T x, asData objs t v, fitOs objs ρ l (k + 1) with
   | some z, some y, some r => some ((z, (y, r.1)), lentBy objs v ++ r.2)
   | _, _, _ => none) else none
  | _ => none
 | (.srow e T f j, _) :: l, k => match objAt objs ρ k with
  | some (.sbox e' T' x f' v) => bif Nat.beq e e' && Nat.beq f f' && rowAt ρ j v then (match tcast T' T x, fitOs objs ρ l (k + 1) with
   | some z, some r => some ((z, r.1), r.2)
   | _, _ => none) else none
  | _ => none
 | (.raw, _) :: l, k => match objAt objs ρ k with
  | some (.raw c) => (match fitOs objs ρ l (k + 1) with
   | some r => some ((c, r.1), r.2)
   | none => none)
  | _ => none

def memB (n : Nat) : List Nat → Bool
 | [] => false
 | k :: l => Nat.beq k n || memB n l
def inB (ρ : List (Option Nat)) (n : Nat) : Bool := ρ.any fun
 | some i => Nat.beq i n
 | none => false
def onceB : List (Option Nat) → Bool
 | [] => true
 | some i :: l => !(inB l i) && onceB l
 | none :: l => onceB l
def pinB (np : Nat) : Nat → List (Option Nat) → Bool
 | _, [] => true
 | k, r :: l => (bif Nat.blt k np then (match r with
  | some i => Nat.beq i k
  | none => false) else true) && pinB np (k + 1) l

structure Fit (c : Spec) where
 y : c.den
 lent : List Nat
 ρ : List (Option Nat)
def fitG (gs : List GV) (objs : List (Nat × Ob)) (c : Spec) : Option (Fit c) :=
 match bindOs objs gs c.os [] with
 | none => none
 | some ρ => match fitKs objs ρ c.ks gs, fitOs objs ρ c.os 0 with
  | some a, some b => bif onceB ρ && (a.2 ++ b.2).all (fun i => !(inB ρ i)) then some ⟨(a.1, b.1), a.2 ++ b.2, ρ⟩ else none
  | _, _ => none
def fit (np : Nat) (ns : List Nat) (c : Spec) (s : GS) : Option c.den :=
 match lookAll s.slots ns with
 | none => none
 | some gs => match fitG gs s.objs c with
  | none => none
  | some f => bif Nat.ble np c.os.length && pinB np 0 f.ρ then some f.y else none

structure Ctr where
 ps : Spec
 rs : Spec
 np : Nat
 F : ps.den → Option rs.den

structure TI where
 ty : Ty
 bytes : Nat
 el : Nat
 cmp : Bool

structure IfT where
 emp : List Nat
 mets : List (Nat × (String × Nat))
 lend : List Nat
 nat : List Nat
 ptr : List Nat
 cat : List Nat
 exc : Option Value := none
structure Ctx where
 N : Nat
 tys : List (Nat × TI)
 ctrs : List (Nat × Ctr)
 globs : List (Nat × Dt)
 ifs : IfT
def isEmp (Γ : Ctx) (t : Nat) : Bool := Γ.ifs.emp.any (Nat.beq t ·)
def isPtr (Γ : Ctx) (t : Nat) : Bool := Γ.ifs.ptr.any (Nat.beq t ·)
def lendB (Γ : Ctx) (o : Oper) : Bool := match o.dst with
 | some d => Γ.ifs.lend.any (Nat.beq d ·)
 | none => false
def metOf (t : Nat) (name : String) : List (Nat × (String × Nat)) → Option Nat
 | [] => none
 | (t', n, f) :: l => bif Nat.beq t t' && decide (name = n) then some f else metOf t name l

def w64 (x : Int) : Int := IntKind.i64.wrap x
def and64 (a b : Int) : Int := w64 (BitVec.ofInt 64 a &&& BitVec.ofInt 64 b).toNat
def or64 (a b : Int) : Int := w64 (BitVec.ofInt 64 a ||| BitVec.ofInt 64 b).toNat
def xor64 (a b : Int) : Int := w64 (BitVec.ofInt 64 a ^^^ BitVec.ofInt 64 b).toNat
def andNot64 (a b : Int) : Int := w64 (BitVec.ofInt 64 a &&& ~~~ BitVec.ofInt 64 b).toNat
def shlI (a : Int) (n : Nat) : Int := w64 (a * 2 ^ min n 64)
def shrI (a : Int) (n : Nat) : Int := a.fdiv (2 ^ min n 64)
def shl8 (a : UInt8) (n : Nat) : UInt8 := UInt8.ofBitVec (a.toBitVec <<< n)
def shr8 (a : UInt8) (n : Nat) : UInt8 := UInt8.ofBitVec (a.toBitVec >>> n)
def shl16 (a : UInt16) (n : Nat) : UInt16 := UInt16.ofBitVec (a.toBitVec <<< n)
def shr16 (a : UInt16) (n : Nat) : UInt16 := UInt16.ofBitVec (a.toBitVec >>> n)
def shl32 (a : UInt32) (n : Nat) : UInt32 := UInt32.ofBitVec (a.toBitVec <<< n)
def shr32 (a : UInt32) (n : Nat) : UInt32 := UInt32.ofBitVec (a.toBitVec >>> n)
def shl64 (a : UInt64) (n : Nat) : UInt64 := UInt64.ofBitVec (a.toBitVec <<< n)
def shr64 (a : UInt64) (n : Nat) : UInt64 := UInt64.ofBitVec (a.toBitVec >>> n)
def iu8 (a : Int) : UInt8 := UInt8.ofBitVec (BitVec.ofInt 8 a)
def iu16 (a : Int) : UInt16 := UInt16.ofBitVec (BitVec.ofInt 16 a)
def iu32 (a : Int) : UInt32 := UInt32.ofBitVec (BitVec.ofInt 32 a)
def iu64 (a : Int) : UInt64 := UInt64.ofBitVec (BitVec.ofInt 64 a)

def dqL {α : Type} (f : α → α → Bool) : List α → List α → Bool
 | [], [] => true
 | a :: l, b :: m => f a b && dqL f l m
 | _, _ => false
def dq : (t : Ty) → t.den → t.den → Bool
 | .bool, x, y => decide (x = y)
 | .i64, x, y => decide ((x : Int) = y)
 | .u8, x, y => decide ((x : UInt8) = y)
 | .u16, x, y => decide ((x : UInt16) = y)
 | .u32, x, y => decide ((x : UInt32) = y)
 | .u64, x, y => decide ((x : UInt64) = y)
 | .str, x, y => decide ((x : List UInt8) = y)
 | .unit, _, _ => true
 | .sl _, _, _ => false
 | .trees, _, _ => false
 | .arr _ t, x, y => dqL (dq t) x y
 | .pair a b, x, y => dq a x.1 y.1 && dq b x.2 y.2
def deq (c : Bool) : (t : Ty) → t.den → t.den → Option Bool
 | .bool, x, y => some (decide (x = y))
 | .str, x, y => some (decide (x = y))
 | .arr n t, x, y => bif c then some (dq (.arr n t) x y) else none
 | .pair a b, x, y => bif c then some (dq (.pair a b) x y) else none
 | _, _, _ => none

def amount : SV → (Nat → RT) → RT
 | .data .i64 n, k => .chk (decide (0 ≤ n)) (k n.toNat)
 | .data .u8 n, k => k n.toNat
 | .data .u16 n, k => k n.toNat
 | .data .u32 n, k => k n.toNat
 | .data .u64 n, k => k n.toNat
 | _, _ => .fail

def binI64 (op : BinOp) (a b : Int) (k : SV → RT) : RT :=
 match op with
 | .add => k (.data .i64 (w64 (a + b)))
 | .sub => k (.data .i64 (w64 (a - b)))
 | .mul => k (.data .i64 (w64 (a * b)))
 | .quo => .chk (!(decide (b = 0))) (k (.data .i64 (w64 (a.tdiv b))))
 | .rem => .chk (!(decide (b = 0))) (k (.data .i64 (a.tmod b)))
 | .and => k (.data .i64 (and64 a b))
 | .or => k (.data .i64 (or64 a b))
 | .xor => k (.data .i64 (xor64 a b))
 | .andNot => k (.data .i64 (andNot64 a b))
 | .eql => k (.data .bool (decide (a = b)))
 | .neq => k (.data .bool (!(decide (a = b))))
 | .lss => k (.data .bool (decide (a < b)))
 | .leq => k (.data .bool (decide (a ≤ b)))
 | .gtr => k (.data .bool (decide (b < a)))
 | .geq => k (.data .bool (decide (b ≤ a)))
 | _ => .fail
def binU8 (op : BinOp) (a b : UInt8) (k : SV → RT) : RT :=
 match op with
 | .add => k (.data .u8 (a + b))
 | .sub => k (.data .u8 (a - b))
 | .mul => k (.data .u8 (a * b))
 | .quo => .chk (!(decide (b = 0))) (k (.data .u8 (a / b)))
 | .rem => .chk (!(decide (b = 0))) (k (.data .u8 (a % b)))
 | .and => k (.data .u8 (a &&& b))
 | .or => k (.data .u8 (a ||| b))
 | .xor => k (.data .u8 (a ^^^ b))
 | .andNot => k (.data .u8 (a &&& ~~~ b))
 | .eql => k (.data .bool (decide (a = b)))
 | .neq => k (.data .bool (!(decide (a = b))))
 | .lss => k (.data .bool (decide (a < b)))
 | .leq => k (.data .bool (decide (a ≤ b)))
 | .gtr => k (.data .bool (decide (b < a)))
 | .geq => k (.data .bool (decide (b ≤ a)))
 | _ => .fail
def binU16 (op : BinOp) (a b : UInt16) (k : SV → RT) : RT :=
 match op with
 | .add => k (.data .u16 (a + b))
 | .sub => k (.data .u16 (a - b))
 | .mul => k (.data .u16 (a * b))
 | .quo => .chk (!(decide (b = 0))) (k (.data .u16 (a / b)))
 | .rem => .chk (!(decide (b = 0))) (k (.data .u16 (a % b)))
 | .and => k (.data .u16 (a &&& b))
 | .or => k (.data .u16 (a ||| b))
 | .xor => k (.data .u16 (a ^^^ b))
 | .andNot => k (.data .u16 (a &&& ~~~ b))
 | .eql => k (.data .bool (decide (a = b)))
 | .neq => k (.data .bool (!(decide (a = b))))
 | .lss => k (.data .bool (decide (a < b)))
 | .leq => k (.data .bool (decide (a ≤ b)))
 | .gtr => k (.data .bool (decide (b < a)))
 | .geq => k (.data .bool (decide (b ≤ a)))
 | _ => .fail
def binU32 (op : BinOp) (a b : UInt32) (k : SV → RT) : RT :=
 match op with
 | .add => k (.data .u32 (a + b))
 | .sub => k (.data .u32 (a - b))
 | .mul => k (.data .u32 (a * b))
 | .quo => .chk (!(decide (b = 0))) (k (.data .u32 (a / b)))
 | .rem => .chk (!(decide (b = 0))) (k (.data .u32 (a % b)))
 | .and => k (.data .u32 (a &&& b))
 | .or => k (.data .u32 (a ||| b))
 | .xor => k (.data .u32 (a ^^^ b))
 | .andNot => k (.data .u32 (a &&& ~~~ b))
 | .eql => k (.data .bool (decide (a = b)))
 | .neq => k (.data .bool (!(decide (a = b))))
 | .lss => k (.data .bool (decide (a < b)))
 | .leq => k (.data .bool (decide (a ≤ b)))
 | .gtr => k (.data .bool (decide (b < a)))
 | .geq => k (.data .bool (decide (b ≤ a)))
 | _ => .fail
def binU64 (op : BinOp) (a b : UInt64) (k : SV → RT) : RT :=
 match op with
 | .add => k (.data .u64 (a + b))
 | .sub => k (.data .u64 (a - b))
 | .mul => k (.data .u64 (a * b))
 | .quo => .chk (!(decide (b = 0))) (k (.data .u64 (a / b)))
 | .rem => .chk (!(decide (b = 0))) (k (.data .u64 (a % b)))
 | .and => k (.data .u64 (a &&& b))
 | .or => k (.data .u64 (a ||| b))
 | .xor => k (.data .u64 (a ^^^ b))
 | .andNot => k (.data .u64 (a &&& ~~~ b))
 | .eql => k (.data .bool (decide (a = b)))
 | .neq => k (.data .bool (!(decide (a = b))))
 | .lss => k (.data .bool (decide (a < b)))
 | .leq => k (.data .bool (decide (a ≤ b)))
 | .gtr => k (.data .bool (decide (b < a)))
 | .geq => k (.data .bool (decide (b ≤ a)))
 | _ => .fail

def binSV (T : Option TI) (op : BinOp) (x y : SV) (k : SV → RT) : RT :=
 match op with
 | .shl => amount y fun n => match x with
  | .data .i64 a => k (.data .i64 (shlI a n))
  | .data .u8 a => k (.data .u8 (shl8 a n))
  | .data .u16 a => k (.data .u16 (shl16 a n))
  | .data .u32 a => k (.data .u32 (shl32 a n))
  | .data .u64 a => k (.data .u64 (shl64 a n))
  | _ => .fail
 | .shr => amount y fun n => match x with
  | .data .i64 a => k (.data .i64 (shrI a n))
  | .data .u8 a => k (.data .u8 (shr8 a n))
  | .data .u16 a => k (.data .u16 (shr16 a n))
  | .data .u32 a => k (.data .u32 (shr32 a n))
  | .data .u64 a => k (.data .u64 (shr64 a n))
  | _ => .fail
 | op => match x, y with
  | .data .i64 a, .data .i64 b => binI64 op a b k
  | .data .u8 a, .data .u8 b => binU8 op a b k
  | .data .u16 a, .data .u16 b => binU16 op a b k
  | .data .u32 a, .data .u32 b => binU32 op a b k
  | .data .u64 a, .data .u64 b => binU64 op a b k
  | .data t a, .data t' b => match T, tcast t' t b with
   | some T, some b => bif T.ty.same t then (match deq T.cmp t a b with
    | some e => match op with
     | .eql => k (.data .bool e)
     | .neq => k (.data .bool (!e))
     | _ => .fail
    | none => .fail) else .fail
   | _, _ => .fail
  | _, _ => .fail

def unSV (op : UnOp) (x : SV) (k : SV → RT) : RT :=
 match op, x with
 | .not, .data .bool b => k (.data .bool (!b))
 | .neg, .data .i64 a => k (.data .i64 (w64 (0 - a)))
 | .neg, .data .u8 a => k (.data .u8 (0 - a))
 | .neg, .data .u32 a => k (.data .u32 (0 - a))
 | .neg, .data .u64 a => k (.data .u64 (0 - a))
 | .xor, .data .u8 a => k (.data .u8 (~~~ a))
 | .xor, .data .u16 a => k (.data .u16 (~~~ a))
 | .xor, .data .u32 a => k (.data .u32 (~~~ a))
 | .xor, .data .u64 a => k (.data .u64 (~~~ a))
 | _, _ => .fail

def convSV (dst : Ty) (x : SV) (k : SV → RT) : RT :=
 match dst, x with
 | .i64, .data .i64 a => k (.data .i64 a)
 | .i64, .data .u8 a => k (.data .i64 (a.toNat : Int))
 | .i64, .data .u16 a => k (.data .i64 (a.toNat : Int))
 | .i64, .data .u32 a => k (.data .i64 (a.toNat : Int))
 | .i64, .data .u64 a => k (.data .i64 (w64 (a.toNat : Int)))
 | .u8, .data .i64 a => k (.data .u8 (iu8 a))
 | .u8, .data .u8 a => k (.data .u8 a)
 | .u8, .data .u16 a => k (.data .u8 a.toUInt8)
 | .u8, .data .u32 a => k (.data .u8 a.toUInt8)
 | .u8, .data .u64 a => k (.data .u8 a.toUInt8)
 | .u16, .data .i64 a => k (.data .u16 (iu16 a))
 | .u16, .data .u8 a => k (.data .u16 a.toUInt16)
 | .u16, .data .u16 a => k (.data .u16 a)
 | .u16, .data .u32 a => k (.data .u16 a.toUInt16)
 | .u16, .data .u64 a => k (.data .u16 a.toUInt16)
 | .u32, .data .i64 a => k (.data .u32 (iu32 a))
 | .u32, .data .u8 a => k (.data .u32 a.toUInt32)
 | .u32, .data .u16 a => k (.data .u32 a.toUInt32)
 | .u32, .data .u32 a => k (.data .u32 a)
 | .u32, .data .u64 a => k (.data .u32 a.toUInt32)
 | .u64, .data .i64 a => k (.data .u64 (iu64 a))
 | .u64, .data .u8 a => k (.data .u64 a.toUInt64)
 | .u64, .data .u16 a => k (.data .u64 a.toUInt64)
 | .u64, .data .u32 a => k (.data .u64 a.toUInt64)
 | .u64, .data .u64 a => k (.data .u64 a)
 | _, _ => .fail

def constG : Value → Option GV
 | .bool b => some (.sv (.data .bool b))
 | .int .i64 n => bif decide (-9223372036854775808 ≤ n) && decide (n ≤ 9223372036854775807) then some (.sv (.data .i64 n)) else none
 | .int .u8 n => bif decide (0 ≤ n) && decide (n < 256) then some (.sv (.data .u8 (UInt8.ofNat n.toNat))) else none
 | .int .u16 n => bif decide (0 ≤ n) && decide (n < 65536) then some (.sv (.data .u16 (UInt16.ofNat n.toNat))) else none
 | .int .u32 n => bif decide (0 ≤ n) && decide (n < 4294967296) then some (.sv (.data .u32 (UInt32.ofNat n.toNat))) else none
 | .int .u64 n => bif decide (0 ≤ n) && decide (n < 18446744073709551616) then some (.sv (.data .u64 (UInt64.ofNat n.toNat))) else none
 | .string s => bif Nat.ble s.data.toList.length 1000000 then some (.sv (.data .str s.data.toList)) else none
 | .slice none 0 0 => some (.sv .nil)
 | .pointer none => some (.sv .nilp)
 | .nilIface => some (.sv (.ifc none))
 | _ => none

section
variable (Γ : Ctx)
def opdR (x : Operand) (k : GV → RT) : RT :=
 match x with
 | .tmp n => .get n k
 | .const v => match constG v with
  | some g => k g
  | none => .fail
 | .func f => k (.clo f [])
 | .global g => match look g Γ.globs with
  | some d => k (.sv (.fp d.1 d.2))
  | none => .fail
def svR (x : Operand) (k : SV → RT) : RT := opdR Γ x fun g => match g with
 | .sv v => k v
 | _ => .fail
def svsR : List Operand → (List SV → RT) → RT
 | [], k => k []
 | x :: l, k => svR Γ x fun g => svsR l fun gs => k (g :: gs)
def gvsR : List Operand → (List GV → RT) → RT
 | [], k => k []
 | x :: l, k => opdR Γ x fun g => gvsR l fun gs => k (g :: gs)
def tyR (i : TypeId) (k : TI → RT) : RT := match look i Γ.tys with
 | some p => k p
 | none => .fail
def dstR (o : Oper) (g : GV) (ws : List Wr) : RT := match o.dst with
 | some d => bif Nat.blt d Γ.N then .fin (ws ++ [.slot d (some g)]) else .fail
 | none => .fin ws
def skipR (o : Oper) (ws : List Wr) : RT := match o.dst with
 | some d => .fin (ws ++ [.slot d none])
 | none => .fin ws
def dataR (v : SV) (t : Ty) (k : t.den → List Wr → RT) : RT :=
 match v with
 | .data t' x | .sdata t' x _ => match tcast t' t x with
  | some y => k y []
  | none => .fail
 | .nil => match t, k with
  | .sl _, k => k [] []
  | _, _ => .fail
 | .row i => .obj i fun o => match o with
  | .row e t' xs _ => match tcast (.sl t') t xs with
   | some y => k y [.obj i (some (.row e t' xs false))]
   | none => .fail
  | _ => .fail
 | _ => .fail
def listR (v : SV) (t : Ty) (k : List t.den → RT) : RT :=
 match v with
 | .data (.sl t') x => match tcast (.sl t') (.sl t) x with
  | some y => k y
  | none => .fail
 | .nil => k []
 | .row i => .obj i fun o => match o with
  | .row _ t' xs _ => match tcast (.sl t') (.sl t) xs with
   | some y => k y
   | none => .fail
  | _ => .fail
 | .rsl i u l h => .obj i fun o => match o with
  | .row _ t' xs _ => match tcast (.sl t') (.sl t) xs with
   | some y => .chk (t.flat && u.same t) (k (cut y l h))
   | none => .fail
  | _ => .fail
 | _ => .fail
def partsR : List (Nat × Operand) → (List (Nat × SV) → RT) → RT
 | [], k => k []
 | p :: l, k => svR Γ p.2 fun v => partsR l fun vs => k ((p.1, v) :: vs)
def fldTy : Ty → Nat → Option Ty
 | .pair a _, 0 => some (viewTy a)
 | .pair _ b, k + 1 => fldTy b k
 | _, _ => none
def ownF (ti : TI) : Option Nat := match ti.el with
 | 0 => none
 | f + 1 => match ti.ty with
  | .pair a b => match fldTy (.pair a b) f with
   | some (.sl _) => some f
   | _ => none
  | _ => none
def bldSV (ti : TI) (is : List Nat) (x : ti.ty.den) : SV := match ownF ti with
 | some f => bif is.any (Nat.beq f ·) then .data ti.ty x else .sdata ti.ty x f
 | none => .data ti.ty x
def buildR (t : Ty) (x : t.den) : List (Nat × SV) → List Wr → (t.den → List Wr → RT) → RT
 | [], ws, k => k x ws
 | (i, v) :: l, ws, k => match t, x, k with
  | .arr n u, x, k => bif Nat.blt i n then dataR v u fun y w => buildR (.arr n u) (x.set i y) l (ws ++ w) k else .fail
  | .pair a b, x, k => match fldTy (.pair a b) i with
   | some u => dataR v u fun y w => match Ty.setFld (.pair a b) x i ⟨u, y⟩ with
    | some z => buildR (.pair a b) z l (ws ++ w) k
    | none => .fail
   | none => .fail
  | _, _, _ => .fail

def contR (id : Nat) (T : Ty) (k : T.den → (T.den → Ob) → RT) : RT := .obj id fun o => match o with
 | .box e T' x true => match T'.same T, T, k with
  | true, T, k => match tcast T' T x with
   | some y => k y fun z => .box e T z true
   | none => .fail
  | _, _, _ => .fail
 | .row e T' xs true => match T, k with
  | .sl u, k => match tcast (.sl T') (.sl u) xs with
   | some y => k y fun z => .row e u z true
   | none => .fail
  | _, _ => .fail
 | _ => .fail
def loadR (i : TypeId) (t : Ty) (v : SV) (k : SV → List Wr → RT) : RT :=
 match v with
 | .fp t' x => match tcast t' t x with
  | some y => k (.data t y) []
  | none => .fail
 | .ref id T p => .obj id fun o => match o with
  | .vbox e v => match p with
   | [] => bif Nat.beq e i && !t.isAgg then k v [] else .fail
   | _ => .fail
  | .box _ T' x _ => match tcast T' T x with
   | some z => match getP p T z with
    | some y => match tcast y.1 t y.2 with
     | some y => k (.data t y) []
     | none => .fail
    | none => .fail
   | none => .fail
  | .row _ T' xs _ => match tcast (.sl T') T xs with
   | some z => match getP p T z with
    | some y => match tcast y.1 t y.2 with
     | some y => k (.data t y) []
     | none => .fail
    | none => .fail
   | none => .fail
  | .sbox _ T' x f v => match tcast T' T x with
   | some z => match p with
    | [] => match fldTy T f with
     | some u => dataR v u fun y ws => match T.setFld z f ⟨u, y⟩ with
      | some z' => match tcast T t z' with
       | some z' => k (.data t z') ws
       | none => .fail
      | none => .fail
     | none => .fail
    | .fld f' :: q => match Nat.beq f' f with
     | true => match q with
      | [] => bif t.isAgg then .fail else k v []
      | _ => .fail
     | false => match getP (.fld f' :: q) T z with
      | some y => match tcast y.1 t y.2 with
       | some y => k (.data t y) []
       | none => .fail
      | none => .fail
    | _ => .fail
   | none => .fail
  | .hrow _ T' _ i f r => match p with
   | [.idx j, .fld f'] => .chk (Nat.beq j i) (bif Nat.beq f' f && !t.isAgg && T.same (.sl T') then k (.row r) [] else .fail)
   | _ => .fail
  | .raw _ => .fail
 | _ => .fail
def notRow (id : Nat) : SV → Bool
 | .row i => !(Nat.beq i id)
 | _ => true
def slR (v : SV) (k : RT) : RT := match v with
 | .nil => k
 | .data (.sl _) _ => k
 | .row i => .obj i fun o => match o with
  | .row .. => k
  | _ => .fail
 | _ => .fail
def storeR (i : TypeId) (t : Ty) (a v : SV) (k : List Wr → RT) : RT :=
 match a with
 | .ref id T p => .obj id fun o => match o with
  | .vbox e _ => match p with
   | [] => bif Nat.beq e i && Nat.beq t.size 1 then slR v (k [.obj id (some (.vbox e v))]) else .fail
   | _ => .fail
  | .sbox e T' x f u => match tcast T' T x with
   | some z => match p with
    | [] => match v with
     | .data t' y => match tcast t' T y, t.same T with
      | some y, true => match T.fld y f with
       | some d => k [.obj id (some (.sbox e T y f (.data d.1 d.2)))]
       | none => .fail
      | _, _ => .fail
     | .sdata t' y f' => match tcast t' T y, t.same T && Nat.beq f' f with
      | some y, true => k [.obj id (some (.sbox e T y f .nil))]
      | _, _ => .fail
     | _ => .fail
    | .fld f' :: q => match Nat.beq f' f with
     | true => match q with
      | [] => bif Nat.beq t.size 1 then slR v (k [.obj id (some (.sbox e T z f v))]) else .fail
      | _ => .fail
     | false => match v with
      | .data t' y => match tcast t' t y with
       | some y => match setP (.fld f' :: q) T z ⟨t, y⟩ with
        | some z' => k [.obj id (some (.sbox e T z' f u))]
        | none => .fail
       | none => .fail
      | _ => .fail
    | _ => .fail
   | none => .fail
  | _ => .chk (notRow id v) (dataR v t fun y ws => contR id T fun z back => match setP p T z ⟨t, y⟩ with
   | some z' => k (ws ++ [.obj id (some (back z'))])
   | none => .fail)
 | _ => .fail

def holdR (t : Ty) (a v : SV) (k : List Wr → RT) : RT :=
 match a, v with
 | .ref id T [.idx m, .fld f], .row r => .obj id fun o => match o with
  | .row e T' c true => match fldTy T' f with
   | some (.sl _) => bif !(Nat.beq r id) && Nat.beq t.size 1 && T.same (.sl T') then slR (.row r) (k [.obj id (some (.hrow e T' c m f r))]) else .fail
   | _ => .fail
  | _ => .fail
 | _, _ => .fail
def takeR (id : Nat) (k : List Wr → RT) : RT := .obj id fun o => match o with
 | .hrow e T c i f r => match fldTy T f with
  | some (.sl u) => .chk (!(Nat.beq r id)) (dataR (.row r) (.sl u) fun y ws => match T.setFld (c.getD i T.zero) f ⟨.sl u, y⟩ with
   | some z => k (ws ++ [.obj id (some (.row e T (c.set i z) true))])
   | none => .fail)
  | _ => .fail
 | _ => k []
def inR (i : Int) (n : Nat) : Bool := decide (0 ≤ i) && decide (i < (n : Int))
def pathTy : List PS → Ty → Option Ty
 | [], t => some t
 | .fld k :: p, t => match fldTy t k with
  | some u => pathTy p u
  | none => none
 | .idx _ :: p, .arr _ t => pathTy p t
 | .idx _ :: p, .sl t => pathTy p t
 | _, _ => none
def indexAddrR (T0 : Ty) (x : SV) (i : Int) (k : SV → RT) : RT :=
 match x with
 | .data (.sl t) xs => bif (Ty.sl t).same T0 then .chk (inR i xs.length) (k (.fp t (xs.getD i.toNat t.zero))) else .fail
 | .fp (.arr n t) xs => bif (Ty.arr n t).same T0 then .chk (inR i n) (k (.fp t (xs.getD i.toNat t.zero))) else .fail
 | .row id => .obj id fun o => match o with
  | .row _ t xs own => bif (Ty.sl t).same T0 then .chk (inR i xs.length) (match own with
   | true => k (.ref id (.sl t) [.idx i.toNat])
   | false => k (.fp t (xs.getD i.toNat t.zero))) else .fail
  | .hrow _ t xs _ _ _ => bif (Ty.sl t).same T0 then .chk (inR i xs.length) (k (.ref id (.sl t) [.idx i.toNat])) else .fail
  | _ => .fail
 | .ref id T p => match pathTy p T with
  | some (.arr n t) => bif (Ty.arr n t).same T0 then .chk (inR i n) (k (.ref id T (p ++ [.idx i.toNat]))) else .fail
  | _ => .fail
 | _ => .fail
def optI : Option Operand → (Option Int → RT) → RT
 | none, k => k none
 | some x, k => svR Γ x fun v => match v with
  | .data .i64 n => k (some n)
  | .data .u8 n => k (some (n.toNat : Int))
  | .data .u64 n => k (some (n.toNat : Int))
  | _ => .fail
def cutR (n : Nat) (lo hi mx : Option Int) (k : Nat → Nat → RT) : RT :=
 let h := hi.getD n
 let l := lo.getD 0
 .chk (decide (0 ≤ l) && decide (l ≤ h) && decide (h ≤ (n : Int)) && (match mx with
  | some m => hi.isSome && (decide (h ≤ m) && decide (m ≤ (n : Int)))
  | none => true)) (k l.toNat h.toNat)

def room (n bytes : Nat) : Bool := decide (n * bytes ≤ 140737488355328)

def objsR : List SV → (List (Nat × Ob) → RT) → RT
 | [], k => k []
 | v :: l, k => match v with
  | .row i => .obj i fun o => objsR l fun os => k ((i, o) :: os)
  | .rsl i _ _ _ => .obj i fun o => objsR l fun os => k ((i, o) :: os)
  | .ref i _ _ => .obj i fun o => match o with
   | .vbox e (.row j) => .obj j fun o' => objsR l fun os => k ((i, .vbox e (.row j)) :: (j, o') :: os)
   | .vbox e (.ref j T p) => .obj j fun o' => objsR l fun os => k ((i, .vbox e (.ref j T p)) :: (j, o') :: os)
   | o => objsR l fun os => k ((i, o) :: os)
  | _ => objsR l k
def GV.svs : GV → List SV
 | .sv v => [v]
 | .tup l => l
 | .clo _ l => l
def Spec.flat (c : Spec) : Bool :=
 c.ks.all (fun | .val t => t.flat | .fp _ => false | _ => true) && c.os.all fun
  | (.row _ t, _) | (.box _ t, _) | (.vbox _ (.val t), _) => t.flat
  | (.sval _ T _ t, _) => T.flat && t.flat
  | (.srow _ T _ _, _) => T.flat
  | _ => true
def numOf (ρ : List (Option Nat)) (fresh np k : Nat) : Nat :=
 bif Nat.blt k np then (match ρ[k]? with
  | some (some i) => i
  | _ => fresh) else fresh + (k - np)
def freezeW (objs : List (Nat × Ob)) : List Nat → List Wr
 | [] => []
 | i :: l => (match look i objs with
  | some (.row e t xs _) => [Wr.obj i (some (.row e t xs false))]
  | some (.box e t x _) => [Wr.obj i (some (.box e t x false))]
  | _ => [Wr.obj i none]) ++ freezeW objs l
def goneW : Nat → List (Option Nat) → List Wr
 | _, [] => []
 | np, r :: l => (match np, r with
  | 0, some i => [Wr.obj i none]
  | _, _ => []) ++ goneW (np - 1) l
def backW (m : Nat → Nat) : Nat → List Ob → List Wr
 | _, [] => []
 | k, o :: l => Wr.obj (m k) (some o) :: backW m (k + 1) l
def tupG : List SV → GV
 | [v] => .sv v
 | vs => .tup vs
def SK.plain : SK → Bool
 | .clo .. => false
 | _ => true
def callR (fresh : Nat) (o : Oper) (c : Ctr) (gs : List GV) : RT :=
 objsR (gs.flatMap GV.svs) fun objs => match fitG gs objs c.ps with
  | none => .fail
  | some f => .chk (Nat.ble c.rs.os.length (c.np + 4) && Nat.ble c.np c.ps.os.length && (f.ρ.take c.np).all Option.isSome && c.rs.ks.all SK.plain) <| .bind (c.F f.y) fun y =>
   let m := numOf f.ρ fresh c.np
   let vs := (stKs m c.rs.ks y.1).flatMap GV.svs
   dstR Γ o (tupG vs) ((bif c.rs.flat then [] else freezeW objs f.lent) ++ goneW c.np f.ρ ++ backW m 0 (stOs m c.rs.os y.2))

def catR (fresh : Nat) (o : Oper) (c : Ctr) (gs : List GV) : RT :=
 objsR (gs.flatMap GV.svs) fun objs => match fitG gs objs c.ps with
  | none => .fail
  | some f => .chk (Nat.ble c.rs.os.length (c.np + 4) && Nat.ble c.np c.ps.os.length && (f.ρ.take c.np).all Option.isSome && c.rs.ks.all SK.plain && Nat.beq c.rs.ks.length 0) <| .bind (c.F f.y) fun y =>
   let m := numOf f.ρ fresh c.np
   dstR Γ o (.sv (.data .i64 (0 : Int))) ((bif c.rs.flat then [] else freezeW objs f.lent) ++ goneW c.np f.ρ ++ backW m 0 (stOs m c.rs.os y.2))

def splice {α : Type} (xs ys : List α) : List α := ys.take xs.length ++ xs.drop ys.length
def appR (fresh : Nat) (o : Oper) (e : Nat) (t : Ty) (bytes : Nat) (xs ys : List t.den) (ws : List Wr) : RT :=
 .chk (room (xs.length + ys.length) bytes) (dstR Γ o (.sv (.row fresh)) (ws ++ [.obj fresh (some (.row e t (xs ++ ys) true))]))
def appBase (fresh : Nat) (o : Oper) (v : SV) (el : TypeId) (t : Ty) (bytes : Nat) (ys : List t.den) : RT := match v with
 | .nil => appR Γ fresh o el t bytes [] ys []
 | .row id => .obj id fun ob => match ob with
  | .row e t' xs true => match tcast (.sl t') (.sl t) xs with
   | some xs => bif Nat.beq e el then appR Γ fresh o el t bytes xs ys [.obj id none] else .fail
   | none => .fail
  | _ => .fail
 | _ => .fail
def builtinR (fresh : Nat) (o : Oper) (b : Builtin) (args : List Operand) (types : List TypeId) : RT :=
 match b, args with
 | .len, [x] => match types with
  | [t] => tyR Γ t fun ti => svR Γ x fun v => match v with
   | .data (.sl u) xs => bif (Ty.sl u).same ti.ty then dstR Γ o (.sv (.data .i64 xs.length)) [] else .fail
   | .data .str xs => bif Ty.str.same ti.ty then dstR Γ o (.sv (.data .i64 xs.length)) [] else .fail
   | .data (.arr n u) _ => bif (Ty.arr n u).same ti.ty && Nat.ble n 1000000000000 then dstR Γ o (.sv (.data .i64 n)) [] else .fail
   | .nil => match ti.ty with
    | .sl _ => dstR Γ o (.sv (.data .i64 (0 : Int))) []
    | _ => .fail
   | .row id => .obj id fun ob => match ob with
    | .row _ u xs _ => bif (Ty.sl u).same ti.ty then dstR Γ o (.sv (.data .i64 xs.length)) [] else .fail
    | _ => .fail
   | _ => .fail
  | _ => .fail
 | .min, [x, y] => svR Γ x fun v => svR Γ y fun u => match v, u with
  | .data .i64 a, .data .i64 b => dstR Γ o (.sv (.data .i64 (bif decide (b < a) then b else a))) []
  | .data .u64 a, .data .u64 b => dstR Γ o (.sv (.data .u64 (bif decide (b < a) then b else a))) []
  | _, _ => .fail
 | .max, [x, y] => svR Γ x fun v => svR Γ y fun u => match v, u with
  | .data .i64 a, .data .i64 b => dstR Γ o (.sv (.data .i64 (bif decide (a < b) then b else a))) []
  | .data .u64 a, .data .u64 b => dstR Γ o (.sv (.data .u64 (bif decide (a < b) then b else a))) []
  | _, _ => .fail
 | .append, [x, y] => match types with
  | [tx, ty] => tyR Γ tx fun ti => match ti.ty with
   | .sl t => tyR Γ ti.el fun te => svR Γ x fun v => svR Γ y fun u =>
    match te.ty.same t with
    | true =>
    (match Nat.beq tx ty with
    | true => listR u t (appBase Γ fresh o v ti.el t te.bytes)
    | false => tyR Γ ty fun tj => match u with
     | .data .i64 n => .chk (tj.ty.same .i64 && decide (0 ≤ n)) (appBase Γ fresh o v ti.el t te.bytes (List.replicate n.toNat t.zero))
     | .data .str xs => match tcast (.sl .u8) (.sl t) xs with
      | some ys => .chk (tj.ty.same .str && Nat.beq te.bytes 1) (appBase Γ fresh o v ti.el t te.bytes ys)
      | none => .fail
     | _ => .fail)
    | false => .fail
   | _ => .fail
  | _ => .fail
 | .copy, [x, y] => match types with
  | tx :: _ => tyR Γ tx fun ti => match ti.ty with
   | .sl t => svR Γ x fun v => svR Γ y fun u => listR u t fun ys => match v with
    | .row id => .obj id fun ob => match ob with
     | .row e t' xs true => match tcast (.sl t') (.sl t) xs with
      | some xs => dstR Γ o (.sv (.data .i64 (min ys.length xs.length : Nat))) [.obj id (some (.row e t (splice xs ys) true))]
      | none => .fail
     | _ => .fail
    | .asl id m => .obj id fun ob => match ob with
     | .box e (.arr n t') xs true => match tcast (.sl t') (.sl t) xs with
      | some xs => bif Nat.beq m n then dstR Γ o (.sv (.data .i64 (min ys.length n : Nat))) [.obj id (some (.box e (.arr n t) (splice xs ys) true))] else .fail
      | none => .fail
     | _ => .fail
    | _ => .fail
   | _ => .fail
  | _ => .fail
 | _, _ => .fail

def addV (a b c : UInt64) : UInt64 × UInt64 := (UInt64.ofNat ((a.toNat + b.toNat + c.toNat) % 18446744073709551616), UInt64.ofNat ((a.toNat + b.toNat + c.toNat) / 18446744073709551616))
def addR (o : Oper) (gs : List GV) (cs : List SV) : RT := match gs, cs with
 | [.sv (.data .u64 a), .sv (.data .u64 b), .sv (.data .u64 c)], [] => .chk (decide (c ≤ (1 : UInt64))) (dstR Γ o (.tup [.data .u64 (addV a b c).1, .data .u64 (addV a b c).2]) [])
 | _, _ => .fail
def evalOp (fresh : Nat) (o : Oper) : RT :=
 match o.op with
 | .move x => opdR Γ x fun g => dstR Γ o g []
 | .assign x => match lendB Γ o with
  | true => opdR Γ x fun g => match g with
   | .sv (.row id) => takeR id fun ws => dstR Γ o (.sv (.row id)) ws
   | g => dstR Γ o g []
  | false => opdR Γ x fun g => dstR Γ o g []
 | .pick c x y => svR Γ c fun v => match v with
  | .data .bool b => match b with
   | true => opdR Γ x fun g => dstR Γ o g []
   | false => opdR Γ y fun g => dstR Γ o g []
  | _ => .fail
 | .alloc e => tyR Γ e fun ti => match ti.ty with
  | .sl _ => dstR Γ o (.sv (.ref fresh .unit [])) [.obj fresh (some (.vbox e .nil))]
  | t => match ownF ti with
   | some f => dstR Γ o (.sv (.ref fresh t [])) [.obj fresh (some (.sbox e t t.zero f .nil))]
   | none => dstR Γ o (.sv (.ref fresh t [])) [.obj fresh (some (.box e t t.zero true))]
 | .box e x => match isEmp Γ e with
  | true => svR Γ x fun v => match v with
   | .data .unit y => dstR Γ o (.sv (.ref fresh .unit [])) [.obj fresh (some (.box e .unit y true))]
   | _ => .fail
  | false => match isPtr Γ e with
  | true => svR Γ x fun v => match v with
   | .ref i T [] => dstR Γ o (.sv (.ref fresh .unit [])) [.obj fresh (some (.vbox e (.ref i T [])))]
   | _ => .fail
  | false => tyR Γ e fun ti => svR Γ x fun v => match ti.ty with
   | .sl _ => slR v (dstR Γ o (.sv (.ref fresh .unit [])) [.obj fresh (some (.vbox e v))])
   | t => dataR v t fun y ws => dstR Γ o (.sv (.ref fresh t [])) (ws ++ [.obj fresh (some (.box e t y true))])
 | .makeInterface t x => match isEmp Γ t with
  | true => svR Γ x fun v => match v with
   | .data .unit _ => dstR Γ o (.sv (.ifc (some t))) []
   | _ => .fail
  | false => .fail
 | .build t ps => match isEmp Γ t with
  | true => .chk (Nat.beq ps.size 0) (dstR Γ o (.sv (.data .unit ())) [])
  | false => tyR Γ t fun ti => .chk ti.ty.isAgg <| partsR Γ ps.toList fun vs => buildR ti.ty ti.ty.zero vs [] fun x ws => dstR Γ o (.sv (bldSV ti (vs.map (·.1)) x)) ws
 | .buildSlice t n ps => tyR Γ t fun ti => match ti.ty with
  | .sl u => tyR Γ ti.el fun te => bif te.ty.same u && Nat.ble (n * u.size) 16777216 then
    partsR Γ ps.toList fun vs => buildR (.arr n u) (List.replicate n u.zero) vs [] fun xs ws => dstR Γ o (.sv (.row fresh)) (ws ++ [.obj fresh (some (.row ti.el u xs true))])
   else .fail
  | _ => .fail
 | .load t x => match isPtr Γ t with
  | true => svR Γ x fun v => loadR t .i64 v fun u ws => dstR Γ o (.sv u) ws
  | false => tyR Γ t fun ti => svR Γ x fun v => loadR t ti.ty v fun u ws => dstR Γ o (.sv u) ws
 | .store t x y => match (match x with | .tmp n => Γ.ifs.lend.any (Nat.beq n ·) | _ => false : Bool) with
  | true => tyR Γ t fun ti => svR Γ x fun a => svR Γ y fun v => holdR ti.ty a v fun ws => skipR o ws
  | false => tyR Γ t fun ti => svR Γ x fun a => svR Γ y fun v => storeR t ti.ty a v fun ws => skipR o ws
 | .nilCheck x => opdR Γ x fun g => match g with
  | .sv (.ref i T p) => dstR Γ o (.sv (.ref i T p)) []
  | .sv (.fp t y) => dstR Γ o (.sv (.fp t y)) []
  | .clo f cs => dstR Γ o (.clo f cs) []
  | _ => .fail
 | .binOp op t x y _ => svR Γ x fun v => svR Γ y fun u => binSV (look t Γ.tys) op v u fun r => dstR Γ o (.sv r) []
 | .unOp op _ x => svR Γ x fun v => unSV op v fun r => dstR Γ o (.sv r) []
 | .convert s d x => tyR Γ s fun tj => tyR Γ d fun ti => svR Γ x fun v => match ti.ty with
  | .str => match v with
   | .data .str a => dstR Γ o (.sv (.data .str a)) []
   | v => match tj.ty with
    | .sl .u8 => tyR Γ tj.el fun te => bif te.ty.same .u8 then listR v .u8 fun a => dstR Γ o (.sv (.data .str a)) [] else .fail
    | _ => .fail
  | .sl .u8 => match v with
   | .row i => bif Nat.beq s d then tyR Γ ti.el (fun te => bif te.ty.same .u8 then .obj i (fun ob => match ob with
    | .row _ .u8 xs true => .chk (decide (0 < List.length xs)) (dstR Γ o (.sv (.data (.sl .u8) xs)) [.obj i none])
    | _ => .fail) else .fail) else .fail
   | .data .str xs => tyR Γ ti.el (fun te => bif te.ty.same .u8 && tj.ty.same .str then dstR Γ o (.sv (.data (.sl .u8) xs)) [.obj fresh (some (.row ti.el .u8 xs true)), .obj fresh none] else .fail)
   | _ => .fail
  | t => convSV t v fun r => dstR Γ o (.sv r) []
 | .makeFunc fn first cs => match fn with
  | .func f => bif Nat.beq first.size 0 then svsR Γ cs.toList fun vs => dstR Γ o (.clo f vs) [] else .fail
  | _ => .fail
 | .makeSlice t n c => tyR Γ t fun ti => match ti.ty with
  | .sl u => tyR Γ ti.el fun te => svR Γ n fun v => svR Γ c fun v' => match v, v' with
   | .data .i64 n, .data .i64 c => .chk (te.ty.same u && decide (0 ≤ n) && decide (n ≤ c) && room c.toNat te.bytes) (dstR Γ o (.sv (.row fresh)) [.obj fresh (some (.row ti.el u (List.replicate n.toNat u.zero) true))])
   | _, _ => .fail
  | _ => .fail
 | .slice t x lo hi mx => tyR Γ t fun ti => svR Γ x fun v => optI Γ lo fun lo => optI Γ hi fun hi => optI Γ mx fun mx => match ti.ty with
  | .sl u => match lendB Γ o with
   | true => match v with
    | .row i => .obj i fun ob => match ob with
     | .row _ t' xs _ => match tcast (.sl t') (.sl u) xs with
      | some ys => cutR (List.length ys) lo hi mx fun l h => dstR Γ o (.sv (.rsl i u l h)) []
      | none => .fail
     | _ => .fail
    | _ => .fail
   | false => dataR v (.sl u) fun xs ws => cutR (List.length xs) lo hi mx fun l h => dstR Γ o (.sv (.data (.sl u) (cut xs l h))) ws
  | .str => match v, mx with
   | .data .str xs, none => cutR (List.length xs) lo hi none fun l h => dstR Γ o (.sv (.data .str (cut xs l h))) []
   | _, _ => .fail
  | .arr n _ => match v, lo, hi, mx with
   | .ref i _ [], none, none, none => dstR Γ o (.sv (.asl i n)) []
   | _, _, _, _ => .fail
  | _ => .fail
 | .fieldAddr t x f => tyR Γ t fun ti => svR Γ x fun v => match v with
  | .ref i T p => match pathTy p T with
   | some u => bif u.same ti.ty then (match fldTy u f with
    | some _ => dstR Γ o (.sv (.ref i T (p ++ [.fld f]))) []
    | none => .fail) else .fail
   | none => .fail
  | .fp t y => bif t.same ti.ty then (match t.fld y f with
   | some z => dstR Γ o (.sv (.fp z.1 z.2)) []
   | none => .fail) else .fail
  | _ => .fail
 | .field t x f => tyR Γ t fun ti => svR Γ x fun v => match v with
  | .data t y => bif t.same ti.ty then (match t.fld y f with
   | some z => dstR Γ o (.sv (.data z.1 z.2)) []
   | none => .fail) else .fail
  | _ => .fail
 | .indexAddr t x i => tyR Γ t fun ti => svR Γ x fun v => svR Γ i fun u => match u with
  | .data .i64 i => indexAddrR ti.ty v i fun r => dstR Γ o (.sv r) []
  | .data .u8 i => indexAddrR ti.ty v (i.toNat : Int) fun r => dstR Γ o (.sv r) []
  | _ => .fail
 | .index t x i => tyR Γ t fun ti => svR Γ x fun v => svR Γ i fun u => match v with
  | .data (.arr n t) xs => bif (Ty.arr n t).same ti.ty then (match u with
   | .data .i64 i => .chk (inR i n) (dstR Γ o (.sv (.data t (xs.getD i.toNat t.zero))) [])
   | .data .u8 i => .chk (inR i.toNat n) (dstR Γ o (.sv (.data t (xs.getD i.toNat t.zero))) [])
   | _ => .fail) else .fail
  | .data .str xs => bif ti.ty.same .str then (match u with
   | .data .i64 i => .chk (inR i xs.length) (dstR Γ o (.sv (.data .u8 (xs.getD i.toNat 0))) [])
   | .data .u8 i => .chk (inR i.toNat xs.length) (dstR Γ o (.sv (.data .u8 (xs.getD i.toNat 0))) [])
   | _ => .fail) else .fail
  | _ => .fail
 | .extract x i => opdR Γ x fun g => match g with
  | .tup l => match l[i]? with
   | some v => dstR Γ o (.sv v) []
   | none => .fail
  | _ => .fail
 | .call c => match c.callee with
  | .builtin b => builtinR Γ fresh o b c.args.toList c.argTypes.toList
  | .value f => opdR Γ f fun g => match g with
   | .clo f cs => match look f Γ.ctrs with
    | some k => gvsR Γ c.args.toList fun gs => callR Γ fresh o k (gs ++ cs.map .sv)
    | none => match Γ.ifs.nat.any (Nat.beq f ·) with
     | true => gvsR Γ c.args.toList fun gs => addR Γ o gs cs
     | false => match Γ.ifs.cat.any (Nat.beq f ·), c.args.toList, cs with
      | true, [x], [] => opdR Γ x fun g => match g with
       | .clo f2 cs2 => match look f2 Γ.ctrs with
        | some k => catR Γ fresh o k (cs2.map .sv)
        | none => .fail
       | _ => .fail
      | _, _, _ => .fail
   | _ => .fail
  | .invoke x name => svR Γ x fun v => match v with
   | .ifc (some t) => match metOf t name Γ.ifs.mets with
    | some f => match look f Γ.ctrs with
     | some k => gvsR Γ c.args.toList fun gs => callR Γ fresh o k (.sv (.data .unit ()) :: gs)
     | none => .fail
    | none => .fail
   | _ => .fail
 | _ => .fail

def undR (o : Oper) : RT := match o.dst with
 | some d => bif Nat.blt d Γ.N then .fin [.slot d (some (.tup []))] else .fail
 | none => .fin []
def opRT (ops : List Oper) (fresh : Nat) (o : Oper) : RT :=
 match o.guard with
 | none => evalOp Γ fresh o
 | some (j, want) => match (ops[j]?).bind (·.dst) with
  | some d => .split d fun r => match r with
   | some b => bif b == want then evalOp Γ fresh o else undR Γ o
   | none => undR Γ o
  | none => .fail

variable {R : Type}
def regK (ops : List Oper) (B : Nat) : List Oper → Nat → GS → (GS → Option R) → Option R
 | [], _, s, K => K s
 | o :: l, i, s, K => (opRT Γ ops (B + 4 * i) o).runK s fun s' => regK ops B l (i + 1) s' K

def touch : List (Bool × Nat) → List (Bool × Nat) → Bool
 | [], _ => false
 | p :: l, m => m.any (fun q => p.1 == q.1 && Nat.beq p.2 q.2) || touch l m
def backB : Nat → List Oper → Bool
 | _, [] => true
 | i, o :: l => o.after.toList.all (fun e => !(Region.binds .any e) || Nat.blt e.on i) && backB (i + 1) l
def befStep (bs : List Nat) (o : Oper) : Nat := o.after.toList.foldl (fun m e => if Region.binds .any e then m ||| 2 ^ e.on ||| bs.getD e.on 0 else m) 0
def befores (ops : List Oper) : List Nat := ops.foldl (fun bs o => bs ++ [befStep bs o]) []
def clash (x y : List (Bool × Nat) × List (Bool × Nat)) : Bool := touch x.2 y.1 || touch x.2 y.2 || touch y.2 x.1
def clashes (bs : List Nat) (x : List (Bool × Nat) × List (Bool × Nat)) (j : Nat) : List (List (Bool × Nat) × List (Bool × Nat)) → Nat → Bool
 | [], _ => false
 | y :: l, i => (clash y x && !((bs.getD j 0).testBit i)) || clashes bs x j l (i + 1)
def drawOk (bs : List Nat) : List (List (Bool × Nat) × List (Bool × Nat)) → List (List (Bool × Nat) × List (Bool × Nat)) → Bool
 | _, [] => true
 | done, x :: l => !(clashes bs x done.length done 0) && drawOk bs (done ++ [x]) l
def regD (ops : List Oper) (B : Nat) : List Oper → Nat → List (List (Bool × Nat) × List (Bool × Nat)) → GS → (GS → Option R) → Option R
 | [], _, acc, s, K => bif drawOk (befores ops) [] acc && backB 0 ops then K s else none
 | o :: l, i, acc, s, K => (opRT Γ ops (B + 4 * i) o).runD [] s fun s' rd wr => regD ops B l (i + 1) (acc ++ [(rd, wr)]) s' K

inductive XE where
 | normal
 | exit (id : Nat)
 | ret

def codeK : Code → GS → (XE → GS → Option R) → Option R
 | .skip, s, K => K .normal s
 | .region _ ops draw, s, K =>
  bif draw then regD Γ ops.toList s.next ops.toList 0 [] { s with next := s.next + 4 * ops.toList.length } (K .normal)
  else regK Γ ops.toList s.next ops.toList 0 { s with next := s.next + 4 * ops.toList.length } (K .normal)
 | .seq a b, s, K => codeK a s fun e s' => match e with
  | .normal => codeK b s' K
  | e => K e s'
 | .cond c a b, s, K => match c with
  | .tmp n => match look n s.slots with
   | some (.sv (.data .bool t)) => bif t then codeK a (s.refine n true) K else codeK b (s.refine n false) K
   | _ => none
  | .const (.bool t) => bif t then codeK a s K else codeK b s K
  | _ => none
 | .block id c, s, K => codeK c s fun e s' => match e with
  | .exit j => bif Nat.beq j id then K .normal s' else K (.exit j) s'
  | e => K e s'
 | .exit id, s, K => K (.exit id) s
 | .ret, s, K => K .ret s
 | _, _, _ => none

def listK : List Code → GS → (XE → GS → Option R) → Option R
 | [], s, K => K .normal s
 | c :: l, s, K => codeK Γ c s fun e s' => match e with
  | .normal => listK l s' K
  | e => K e s'
end

def flat : Code → List Code
 | .seq a b => flat a ++ flat b
 | c => [c]
def bodyOf : Option Func → List Code
 | some f => match f.body with
  | some c => flat c
  | none => []
 | none => []
def loopOf : Option Code → List Code
 | some (.block _ (.loop c)) => flat c
 | some (.loop c) => flat c
 | _ => []
inductive Lo (S E R : Type) where
 | go (s : S)
 | br (e : E)
 | rt (r : R)
def iterK {S E R : Type} (step : S → Option (Lo S E R)) (J : E → Option R) (n : Nat) : S → Option R :=
 Nat.rec (fun _ => none) (fun _ ih x => (step x).bind fun o => match o with
  | .go x' => ih x'
  | .br e => J e
  | .rt r => some r) n
def loopK (N : Nat) {S E R : Type} (step : S → Option (Lo S E R)) (J : E → Option R) (x : S) : Option R := iterK step J N x
end Go.Proofs.YtehbbcdhahnkgaaGreat
