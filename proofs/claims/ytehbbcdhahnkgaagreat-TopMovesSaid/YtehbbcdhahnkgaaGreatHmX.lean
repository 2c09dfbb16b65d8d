/- The ghost machine: an evaluator of the program's text over plain data, and its soundness. -/
import Derived.Calls
set_option linter.unusedVariables false
set_option linter.unusedSimpArgs false
namespace Go.Proofs.YtehbbcdhahnkgaaGreat.Hm
open Go
noncomputable section

inductive IV where
 | lit (n : Int)
 | sym (i : Nat) (c : Int)
def IV.plus : IV → Int → IV
 | .lit n, c => .lit (n + c)
 | .sym j d, c => .sym j (d + c)
inductive HV where
 | b (x : Bool)
 | i (k : IntKind) (x : IV)
 | s (x : List UInt8)
 | np
 | p (id off : Nat)
 | ns
 | sl (id off len cap : Nat) (op : Bool)
 | es (id off off' : Nat)
 | fn (f : Nat) (fs cs : List HV)
 | nf
 | nm
 | mp (id : Nat)
 | agg (l : List HV)
 | tup (l : List HV)
 | kv (j : Nat)
 | os (id : Nat) (k : IV)
 | kp (j : Nat) (i : IV)

def bt {α : Type} (c : Bool) (t e : α) : α := @Bool.rec (fun _ => α) e t c
inductive Tr (α : Type) where
 | lf
 | nd (l : Tr α) (v : Option α) (r : Tr α)
section
variable {α : Type}
def Tr.get : Tr α → Nat → Option α := @Tr.rec α (fun _ => Nat → Option α) (fun _ => none) fun _ v _ gl gr n => bt (Nat.beq n 0) v (bt (Nat.beq (Nat.mod n 2) 1) (gl (Nat.div n 2)) (gr (Nat.pred (Nat.div n 2))))
def Tr.sing (v : Option α) : Nat → Nat → Tr α
 | 0, _ => .nd .lf v .lf
 | f + 1, n => bif Nat.beq n 0 then .nd .lf v .lf else bif Nat.beq (n % 2) 1 then .nd (Tr.sing v f (n / 2)) none .lf else .nd .lf none (Tr.sing v f (n / 2 - 1))
def Tr.set (u : Option α) : Tr α → Nat → Tr α := @Tr.rec α (fun _ => Nat → Tr α) (fun n => Tr.sing u n n) fun l v r sl sr n => bt (Nat.beq n 0) (.nd l u r) (bt (Nat.beq (Nat.mod n 2) 1) (.nd (sl (Nat.div n 2)) v r) (.nd l v (sr (Nat.pred (Nat.div n 2)))))
def Tr.toL : Tr α → Nat → Nat → List (Nat × α) → List (Nat × α)
 | .lf, _, _, acc => acc
 | .nd l v r, a, m, acc => l.toL (a + m) (2 * m) (match v with
  | some x => (a, x) :: r.toL (a + 2 * m) (2 * m) acc
  | none => r.toL (a + 2 * m) (2 * m) acc)
end

inductive Ob where
 | cells (el : Nat) (cs : List HV) (op : Bool)
 | ro (el : Nat) (cs : List HV)
 | map (ents : List (HV × HV))
 | hid (el : Nat)

def Ob.rd : Ob → Option (List HV)
 | .cells _ cs _ | .ro _ cs => some cs
 | _ => none
inductive Wr where
 | slot (n : Nat) (v : Option HV)
 | obj (id : Nat) (o : Option Ob)

inductive RT where
 | fail (why : Nat)
 | get (n : Nat) (k : HV → RT)
 | obj (id : Nat) (k : Ob → RT)
 | fin (ws : List Wr) (nx : Nat)

def RT.run : RT → (Nat → Option HV) → (Nat → Option Ob) → Option (List Wr × Nat)
 | .fail _, _, _ => none
 | .get n k, S, H => match S n with
  | some g => (k g).run S H
  | none => none
 | .obj id k, S, H => match H id with
  | some o => (k o).run S H
  | none => none
 | .fin ws nx, _, _ => some (ws, nx)

structure GS where
 slots : Tr HV
 st : Tr (Option Ob)
 ca : Tr Ob
 next : Nat
def GS.put (G : GS) : Wr → GS
 | .slot n v => { G with slots := G.slots.set v n }
 | .obj id o => { G with st := G.st.set (some o) id }
def GS.app (G : GS) (ws : List Wr) : GS := @List.rec Wr (fun _ => GS → GS) (fun G => G) (fun x _ ih G => ih (GS.put G x)) ws G
def Wr.at : Wr → Bool × Nat
 | .slot n _ => (false, n)
 | .obj id _ => (true, id)
abbrev Loc := Bool × Nat

def forceN {α : Type} (n : Nat) (k : Nat → α) : α := Nat.casesOn n (k 0) fun m => k (Nat.succ m)
def forceI {α : Type} (n : Int) (k : Int → α) : α := Int.casesOn n (fun m => forceN m fun m => k (.ofNat m)) fun m => forceN m fun m => k (.negSucc m)
def forceX {α : Type} (x : IV) (k : IV → α) : α := IV.casesOn x (fun n => forceI n fun n => k (.lit n)) fun i c => forceI c fun c => k (.sym i c)
def forceV {α : Type} : HV → (HV → α) → α
 | .i kd x, k => forceX x fun x => k (.i kd x)
 | .p id off, k => forceN off fun off => k (.p id off)
 | .os id x, k => forceX x fun x => k (.os id x)
 | .kp j x, k => forceX x fun x => k (.kp j x)
 | .sl id off n c op, k => forceN off fun off => forceN n fun n => forceN c fun c => k (.sl id off n c op)
 | v, k => k v
def GS.find (G : GS) (id : Nat) : Option (Option Ob) := @Option.rec (Option Ob) (fun _ => Option (Option Ob)) (@Option.rec Ob (fun _ => Option (Option Ob)) none (fun o => some (some o)) (G.ca.get id)) some (G.st.get id)
def GS.keep (G : GS) (id : Nat) (o : Ob) : GS := { G with ca := G.ca.set (some o) id }
def RT.inn : RT → GS → (GS → RT) → RT := @RT.rec (fun _ => GS → (GS → RT) → RT) (fun y _ _ => .fail y)
 (fun n _ ih G K => @Option.rec HV (fun _ => RT) (.fail 101) (fun g => ih g G K) (G.slots.get n))
 (fun id _ ih G K => @Option.rec (Option Ob) (fun _ => RT) (.obj id fun o => ih o (G.keep id o) K) (fun o => @Option.rec Ob (fun _ => RT) (.fail 102) (fun o => ih o G K) o) (G.find id))
 (fun ws nx G K => forceN nx fun nx => bt (Nat.ble G.next nx) (K { G.app ws with next := nx }) (.fail 103))
def RT.innD : RT → List Loc → GS → (GS → List Loc → List Loc → RT) → RT := @RT.rec (fun _ => List Loc → GS → (GS → List Loc → List Loc → RT) → RT) (fun y _ _ _ => .fail y)
 (fun n _ ih l G K => @Option.rec HV (fun _ => RT) (.fail 104) (fun g => ih g ((false, n) :: l) G K) (G.slots.get n))
 (fun id _ ih l G K => @Option.rec (Option Ob) (fun _ => RT) (.obj id fun o => ih o ((true, id) :: l) (G.keep id o) K) (fun o => @Option.rec Ob (fun _ => RT) (.fail 105) (fun o => ih o ((true, id) :: l) G K) o) (G.find id))
 (fun ws nx l G K => forceN nx fun nx => bt (Nat.ble G.next nx) (K { G.app ws with next := nx } l (ws.map Wr.at)) (.fail 106))

inductive Ty where
 | bool
 | int (k : IntKind)
 | str | sl | ptr | fn | mp | unit
 | arr (n : Nat) (t : Ty)
 | pair (a b : Ty)
def Ty.size : Ty → Nat
 | .unit => 0
 | .arr n t => n * t.size
 | .pair a b => a.size + b.size
 | _ => 1
def Ty.isAgg : Ty → Bool
 | .unit | .arr .. | .pair .. => true
 | _ => false
def rep {α : Type} : Nat → List α → List α
 | 0, _ => []
 | n + 1, l => l ++ rep n l
def Ty.zero : Ty → List HV
 | .bool => [.b false]
 | .int k => [.i k (.lit 0)]
 | .str => [.s []]
 | .sl => [.ns]
 | .ptr => [.np]
 | .fn => [.nf]
 | .mp => [.nm]
 | .unit => []
 | .arr n t => rep n t.zero
 | .pair a b => a.zero ++ b.zero
def fldTy : Ty → Nat → Option Ty
 | .pair a _, 0 => some a
 | .pair _ b, k + 1 => fldTy b k
 | _, _ => none
def fldOff : Ty → Nat → Nat
 | .pair _ _, 0 => 0
 | .pair a b, k + 1 => a.size + fldOff b k
 | _, _ => 0
structure TI where
 ty : Ty
 bytes : Nat
 el : Nat
 cmp : Bool

def isStrT : Ty → Bool
 | .str => true
 | _ => false
def isSl : Ty → Bool
 | .sl => true
 | _ => false
def isSlStr : Ty → Bool
 | .sl | .str => true
 | _ => false
def HV.one : HV → Bool
 | .agg _ | .tup _ => false
 | _ => true
def HV.cells : HV → List HV
 | .agg l => l
 | .tup _ => []
 | v => [v]
def valOf (t : Ty) (cs : List HV) : Option HV := bif t.isAgg then some (.agg cs) else match cs with
 | [v] => some v
 | _ => none
def putAt : List HV → Nat → List HV → List HV
 | l, 0, new => new ++ l.drop new.length
 | [], _ + 1, _ => []
 | x :: l, o + 1, new => x :: putAt l o new
def cutAt (l : List HV) (o n : Nat) : List HV := (l.drop o).take n
def inside (l : List HV) (o n : Nat) : Bool := Nat.ble (o + n) l.length

structure Rng where
 rng : List (Nat × (Int × Int))
 ne : List (Nat × Nat)
 lt : List (Nat × Nat) := []
 nl : List (Nat × Int) := []
 ml : List ((Nat × Int) × Nat) := []
 kl : List (Nat × IV) := []
 kb : List ((Nat × IV) × IV) := []
 ks : List ((Nat × Nat) × Nat) := []
 rm : List ((Nat × Int) × Nat) := []
def rngOf (i : Nat) : List (Nat × (Int × Int)) → Option (Int × Int)
 | [] => none
 | (j, r) :: l => bif Nat.beq i j then some r else rngOf i l
def neOf (i j : Nat) : List (Nat × Nat) → Bool
 | [] => false
 | (a, b) :: l => (Nat.beq a i && Nat.beq b j) || (Nat.beq a j && Nat.beq b i) || neOf i j l
def ltOf (i j : Nat) : List (Nat × Nat) → Bool
 | [] => false
 | (a, b) :: l => (Nat.beq a i && Nat.beq b j) || ltOf i j l
def rmOf (i : Nat) (n : Int) : List ((Nat × Int) × Nat) → Option Nat
 | [] => none
 | ((a, m), b) :: l => bif Nat.beq a i && decide (m = n) then some b else rmOf i n l
def IV.same : IV → IV → Bool
 | .lit a, .lit b => decide (a = b)
 | .sym i c, .sym j d => Nat.beq i j && decide (c = d)
 | _, _ => false
def klOf (j : Nat) : List (Nat × IV) → Option IV
 | [] => none
 | p :: l => bif Nat.beq p.1 j then some p.2 else klOf j l
def ksOf (j n : Nat) : List ((Nat × Nat) × Nat) → Option Nat
 | [] => none
 | p :: l => bif Nat.beq p.1.1 j && Nat.beq p.1.2 n then some p.2 else ksOf j n l
def kbOf (j : Nat) (i : IV) : List ((Nat × IV) × IV) → Option IV
 | [] => none
 | p :: l => bif Nat.beq p.1.1 j && IV.same p.1.2 i then some p.2 else kbOf j i l
def nlOf (i : Nat) (n : Int) : List (Nat × Int) → Bool
 | [] => false
 | (a, m) :: l => (Nat.beq a i && decide (m = n)) || nlOf i n l
def IV.bnd (R : Rng) : IV → Option (Int × Int)
 | .lit n => some (n, n)
 | .sym i c => match rngOf i R.rng with
  | some (l, h) => some (l + c, h + c)
  | none => none
def fits (k : IntKind) (r : Int × Int) : Bool := decide (k.min ≤ r.1) && decide (r.2 ≤ k.max)
def ivAdd (R : Rng) (k : IntKind) : IV → IV → Option IV
 | .lit a, .lit b => some (.lit (k.wrap (a + b)))
 | .sym i c, .lit b => match (IV.sym i (c + b)).bnd R with
  | some r => bif fits k r then some (.sym i (c + b)) else none
  | none => none
 | .lit b, .sym i c => match (IV.sym i (c + b)).bnd R with
  | some r => bif fits k r then some (.sym i (c + b)) else none
  | none => none
 | _, _ => none
def ivSub (R : Rng) (k : IntKind) : IV → IV → Option IV
 | .lit a, .lit b => some (.lit (k.wrap (a - b)))
 | .sym i c, .lit b => match (IV.sym i (c - b)).bnd R with
  | some r => bif fits k r then some (.sym i (c - b)) else none
  | none => none
 | .sym i c, .sym j d => bif Nat.beq i j then some (.lit (k.wrap (c - d))) else none
 | _, _ => none
def ivEqL (R : Rng) (i : Nat) (c b : Int) : Option Bool := match (IV.sym i c).bnd R with
 | some (l, h) => bif decide (b < l) || decide (h < b) then some false else bif decide (l = h) then some true else bif nlOf i (b - c) R.nl then some false else none
 | none => none
def ivEq (R : Rng) : IV → IV → Option Bool
 | .lit a, .lit b => some (decide (a = b))
 | .sym i c, .sym j d => bif Nat.beq i j then some (decide (c = d)) else bif neOf i j R.ne && decide (c = d) then some false else none
 | .sym i c, .lit b => ivEqL R i c b
 | .lit b, .sym i c => ivEqL R i c b
def ivLt (R : Rng) : IV → IV → Option Bool
 | .lit a, .lit b => some (decide (a < b))
 | x, y => match x, y with
  | .sym i c, .sym j d => bif Nat.beq i j then some (decide (c < d)) else bif ltOf i j R.lt && decide (c ≤ d) then some true else bif ltOf j i R.lt && decide (d ≤ c) then some false else none
  | x, y => match x.bnd R, y.bnd R with
   | some (l, h), some (l', h') => bif decide (h < l') then some true else bif decide (h' ≤ l) then some false else none
   | _, _ => none
def litOp (k : IntKind) (op : BinOp) (a b : Int) : Option Int :=
 match op with
 | .mul => some (k.wrap (a * b))
 | .quo => bif decide (b = 0) then none else some (k.wrap (a.tdiv b))
 | .rem => bif decide (b = 0) then none else some (a.tmod b)
 | .and => some (k.wrap (BitVec.ofInt k.bits a &&& BitVec.ofInt k.bits b).toNat)
 | .or => some (k.wrap (BitVec.ofInt k.bits a ||| BitVec.ofInt k.bits b).toNat)
 | .xor => some (k.wrap (BitVec.ofInt k.bits a ^^^ BitVec.ofInt k.bits b).toNat)
 | .andNot => some (k.wrap (BitVec.ofInt k.bits a &&& ~~~ BitVec.ofInt k.bits b).toNat)
 | .shl => bif decide (b < 0) then none else some (k.wrap (a * 2 ^ min b.toNat k.bits))
 | .shr => bif decide (b < 0) then none else some (a.fdiv (2 ^ min b.toNat k.bits))
 | _ => none
def notB : Option Bool → Option HV
 | some b => some (.b (!b))
 | none => none
def isB : Option Bool → Option HV
 | some b => some (.b b)
 | none => none
def shI (k : IntKind) (op : BinOp) : IV → IV → Option HV
 | .lit a, .lit b => match litOp k op a b with
  | some n => some (.i k (.lit n))
  | none => none
 | _, _ => none
def shrI (R : Rng) (k : IntKind) : IV → IV → Option HV
 | .sym i c, .lit b => match (IV.sym i c).bnd R with
  | some (l, h) => bif decide (0 ≤ b) && decide (l.fdiv (2 ^ min b.toNat k.bits) = h.fdiv (2 ^ min b.toNat k.bits)) then some (.i k (.lit (l.fdiv (2 ^ min b.toNat k.bits)))) else none
  | none => none
 | x, y => shI k .shr x y
def ivRem (R : Rng) (k : IntKind) : IV → IV → Option HV
 | .sym i c, .lit n => bif decide (c = 0) && !(decide (n = 0)) then (match rmOf i n R.rm with
  | some j => some (.i k (.sym j 0))
  | none => none) else none
 | x, y => shI k .rem x y
def ivMul (R : Rng) (k : IntKind) : IV → IV → Option HV
 | .sym i c, .lit n => bif decide (c = 0) then (match rmOf i n R.ml with
  | some j => (match (IV.sym j 0).bnd R with
   | some r => bif fits k r then some (.i k (.sym j 0)) else none
   | none => none)
  | none => none) else none
 | x, y => shI k .mul x y
def ivBin (R : Rng) (k : IntKind) (op : BinOp) (x y : IV) : Option HV :=
 match op with
 | .add => match ivAdd R k x y with
  | some z => some (.i k z)
  | none => none
 | .sub => match ivSub R k x y with
  | some z => some (.i k z)
  | none => none
 | .eql => isB (ivEq R x y)
 | .neq => notB (ivEq R x y)
 | .lss => isB (ivLt R x y)
 | .leq => notB (ivLt R y x)
 | .gtr => isB (ivLt R y x)
 | .geq => notB (ivLt R x y)
 | .rem => ivRem R k x y
 | .mul => ivMul R k x y
 | op => shI k op x y
def IntKind.same : IntKind → IntKind → Bool
 | .i8, .i8 | .i16, .i16 | .i32, .i32 | .i64, .i64 | .u8, .u8 | .u16, .u16 | .u32, .u32 | .u64, .u64 => true
 | _, _ => false
def fitsN (f : List HV → Bool) (sz : Nat) : Nat → List HV → Bool
 | 0, _ => true
 | n + 1, cs => f (cs.take sz) && fitsN f sz n (cs.drop sz)
def fitsT : Ty → List HV → Bool
 | .bool, [.b _] => true
 | .int k, [.i k' _] => IntKind.same k k'
 | .str, [.s x] => Nat.ble x.length 9223372036854775807
 | .unit, [] => true
 | .arr n t, cs => Nat.beq cs.length (n * t.size) && fitsN (fitsT t) t.size n cs
 | .pair a b, cs => fitsT a (cs.take a.size) && fitsT b (cs.drop a.size)
 | _, _ => false
def cellEq (R : Rng) : HV → HV → Option Bool
 | .b x, .b y => some (x == y)
 | .i k x, .i k' y => bif IntKind.same k k' then ivEq R x y else none
 | .s x, .s y => some (decide (x = y))
 | _, _ => none
def cellsEq (R : Rng) : List HV → List HV → Option Bool
 | [], [] => some true
 | x :: l, y :: m => match cellEq R x y, cellsEq R l m with
  | some a, some b => some (a && b)
  | _, _ => none
 | _, _ => none
def eqOp (op : BinOp) (e : Option Bool) : Option HV := match op with
 | .eql => isB e
 | .neq => notB e
 | _ => none
def binI (R : Rng) (k k' : IntKind) (op : BinOp) (a b : IV) : Option HV := match op with
 | .shl => shI k .shl a b
 | .shr => shrI R k a b
 | op => bif IntKind.same k k' then ivBin R k op a b else none
def nilEq : Ty → HV → HV → Option Bool
 | .ptr, .np, .np | .fn, .nf, .nf | .sl, .ns, .ns => some true
 | .ptr, .np, .p .. | .ptr, .p .., .np | .fn, .nf, .fn .. | .fn, .fn .., .nf | .sl, .ns, .sl .. | .sl, .sl .., .ns | .sl, .ns, .es .. | .sl, .es .., .ns | .sl, .ns, .os .. | .sl, .os .., .ns => some false
 | _, _, _ => none
def isBoolT : Ty → Bool
 | .bool => true
 | _ => false
def binT (R : Rng) (T : TI) (op : BinOp) (x y : HV) : Option HV := match x, y with
 | .b a, .b b => bif isBoolT T.ty then eqOp op (some (a == b)) else none
 | .agg a, .agg b => bif T.cmp && T.ty.isAgg && fitsT T.ty a && fitsT T.ty b then eqOp op (cellsEq R a b) else none
 | x, y => eqOp op (nilEq T.ty x y)
def binH (R : Rng) (T : Option TI) (op : BinOp) (x y : HV) : Option HV := match x, y with
 | .i k a, .i k' b => binI R k k' op a b
 | .s a, .s b => eqOp op (some (decide (a = b)))
 | x, y => match T with
  | some T => binT R T op x y
  | none => none
def unH (op : UnOp) (x : HV) : Option HV :=
 match op, x with
 | .not, .b b => some (.b (!b))
 | .neg, .i k (.lit a) => some (.i k (.lit (k.wrap (0 - a))))
 | .xor, .i k (.lit a) => match litOp k .xor (bif k.signed then -1 else k.max) a with
  | some n => some (.i k (.lit n))
  | none => none
 | _, _ => none
def convI (R : Rng) (k : IntKind) : IV → Option IV
 | .lit n => some (.lit (k.wrap n))
 | .sym i c => match (IV.sym i c).bnd R with
  | some r => bif fits k r then some (.sym i c) else none
  | none => none

structure Fnc where
 ntmps : Nat
 results : List ResultVar
 body : Code
structure Ctx where
 tys : Tr TI
 fns : Tr Fnc
 R : Rng
 val : Nat
 dep : Nat

def constC : Value → Option HV
 | .bool b => some (.b b)
 | .int k n => bif fits k (n, n) then some (.i k (.lit n)) else none
 | .string s => some (.s s.data.toList)
 | .slice none 0 0 => some .ns
 | .pointer none => some .np
 | .nilFunc => some .nf
 | .map none => some .nm
 | _ => none
def constCs : List Value → Option (List HV)
 | [] => some []
 | v :: l => match constC v, constCs l with
  | some x, some y => some (x :: y)
  | _, _ => none
def constH : Value → Option HV
 | .agg cs => match constCs cs.toList with
  | some l => some (.agg l)
  | none => none
 | v => constC v

abbrev CallFn := Nat → List HV → Nat → (HV → List Wr → Nat → RT) → RT

section
variable (Γ : Ctx)
def optR {α : Type} (why : Nat) (o : Option α) (k : α → RT) : RT := @Option.rec α (fun _ => RT) (.fail why) k o
def opdR (x : Operand) (k : HV → RT) : RT := @Operand.rec (fun _ => RT) (fun n => .get n k) (fun v => optR 201 (constH v) k) (fun _ => .fail 202) (fun f => k (.fn f [] [])) x
def opdsR : List Operand → (List HV → RT) → RT
 | [], k => k []
 | x :: l, k => opdR x fun v => opdsR l fun vs => k (v :: vs)
def tyR (i : Nat) (k : TI → RT) : RT := optR 203 (Γ.tys.get i) k
def dstR (o : Oper) (v : HV) (ws : List Wr) (nx : Nat) : RT := @Option.rec Tmp (fun _ => RT) (.fin ws nx) (fun d => forceV v fun v => .fin (.slot d (some v) :: ws) nx) o.dst
def skipR (o : Oper) (ws : List Wr) (nx : Nat) : RT := match o.dst with
 | some d => .fin (.slot d none :: ws) nx
 | none => .fin ws nx
def partsR : List (Nat × Operand) → (List (Nat × HV) → RT) → RT
 | [], k => k []
 | p :: l, k => opdR p.2 fun v => partsR l fun vs => k ((p.1, v) :: vs)
def fillStruct (t : Ty) : List (Nat × HV) → List HV → Option (List HV)
 | [], cs => some cs
 | (i, v) :: l, cs => match fldTy t i with
  | some u => bif Nat.beq v.cells.length u.size then fillStruct t l (putAt cs (fldOff t i) v.cells) else none
  | none => none
def fillArr (n sz : Nat) : List (Nat × HV) → List HV → Option (List HV)
 | [], cs => some cs
 | (i, v) :: l, cs => bif Nat.blt i n && Nat.beq v.cells.length sz then fillArr n sz l (putAt cs (i * sz) v.cells) else none
def litN : HV → Option Nat
 | .i _ (.lit n) => bif decide (0 ≤ n) then some n.toNat else none
 | _ => none
def litR : HV → Option Nat
 | .i _ (.sym i c) => match (IV.sym i c).bnd Γ.R with
  | some r => bif decide (r.1 = r.2) && decide (0 ≤ r.1) then some r.1.toNat else none
  | none => none
 | v => litN v
def litO : Option HV → Option (Option Nat)
 | none => some none
 | some v => match litN v with
  | some n => some (some n)
  | none => none
def optOpd : Option Operand → (Option HV → RT) → RT
 | none, k => k none
 | some x, k => opdR x fun v => k (some v)
def elemsR (str : Bool) (sz : Nat) (v : HV) (k : List HV → Nat → RT) : RT := match v with
 | .ns | .es .. => bif str then .fail 258 else k [] 0
 | .sl id off n _ _ => bif str then .fail 259 else .obj id fun o => optR 205 o.rd fun cs => bif inside cs off (n * sz) then k (cutAt cs off (n * sz)) n else .fail 204
 | .s bs => bif str && Nat.beq sz 1 then k (bs.map fun b => .i .u8 (.lit b.toNat)) bs.length else .fail 206
 | _ => .fail 207
def room (n bytes : Nat) : Bool := decide (n * bytes ≤ 140737488355328)
def grow (fresh : Nat) (o : Oper) (el bytes : Nat) (cs : List HV) (need : Nat) (ws : List Wr) : RT :=
 bif room need bytes then dstR o (.sl fresh 0 need need true) (ws ++ [.obj fresh (some (.cells el cs true))]) (fresh + 1) else .fail 208
def appendR (fresh : Nat) (o : Oper) (el sz bytes : Nat) (x : HV) (ys : List HV) (n2 : Nat) : RT := match x with
 | .ns => bif Nat.beq n2 0 then dstR o .ns [] fresh else grow fresh o el bytes ys n2 []
 | .es .. => bif Nat.beq n2 0 then dstR o x [] fresh else .fail 241
 | .sl id off n c op => bif Nat.beq n2 0 && Nat.ble n c then dstR o x [] fresh else .obj id fun ob => match ob with
  | .cells e cs opn => bif Nat.ble (n + n2) c
   then (bif inside cs (off + n * sz) (n2 * sz) && Nat.beq ys.length (n2 * sz) then dstR o (.sl id off (n + n2) c op) [.obj id (some (.cells e (putAt cs (off + n * sz) ys) opn))] fresh else .fail 209)
   else bif inside cs off (n * sz) then (bif op && opn
    then (bif Nat.beq n c && Nat.beq off 0 && Nat.beq (n * sz) cs.length && Nat.beq e el then grow fresh o el bytes (cs ++ ys) (n + n2) [.obj id none] else .fail 210)
    else grow fresh o el bytes (cutAt cs off (n * sz) ++ ys) (n + n2) []) else .fail 211
  | _ => .fail 212
 | _ => .fail 213
def evLenT (fresh : Nat) (o : Oper) (ti : TI) : HV → RT
 | .ns | .es .. => bif isSl ti.ty then dstR o (.i .i64 (.lit 0)) [] fresh else .fail 214
 | .sl _ _ n _ _ => bif isSl ti.ty && Nat.ble n 9223372036854775807 then dstR o (.i .i64 (.lit n)) [] fresh else .fail 242
 | .kv j => bif isSl ti.ty then optR 245 (klOf j Γ.R.kl) fun n => dstR o (.i .i64 n) [] fresh else .fail 245
 | .s bs => bif isStrT ti.ty && Nat.ble bs.length 9223372036854775807 then dstR o (.i .i64 (.lit bs.length)) [] fresh else .fail 243
 | .agg _ => match ti.ty with
  | .arr n _ => bif Nat.ble n 9223372036854775807 then dstR o (.i .i64 (.lit n)) [] fresh else .fail 244
  | _ => .fail 215
 | _ => .fail 216
def evMin (fresh : Nat) (o : Oper) (v u : HV) : RT := match v, u with
 | .i k a, .i k' b => bif IntKind.same k k' then optR 217 (ivLt Γ.R b a) fun t => dstR o (.i k (bif t then b else a)) [] fresh else .fail 255
 | _, _ => .fail 218
def evMax (fresh : Nat) (o : Oper) (v u : HV) : RT := match v, u with
 | .i k a, .i k' b => bif IntKind.same k k' then optR 219 (ivLt Γ.R a b) fun t => dstR o (.i k (bif t then b else a)) [] fresh else .fail 256
 | _, _ => .fail 220
def empS : HV → Bool
 | .ns => true
 | .sl _ _ n c op => Nat.beq n 0 && Nat.beq c 0 && !op
 | _ => false
def roomK (k : IV) (bytes d : Nat) : Bool := match k.bnd Γ.R with
 | some r => decide ((r.2 + d) * bytes ≤ 140737488355328)
 | none => false
def appOs (fresh : Nat) (o : Oper) (el bytes : Nat) (x : HV) (id : Nat) (k : IV) : RT := bif empS x && roomK Γ k bytes 0 then .obj id fun ob => match ob with
 | .hid e => bif Nat.beq e el then dstR o (.os fresh k) [.obj fresh (some (.hid el))] (fresh + 1) else .fail 262
 | _ => .fail 263
 else .fail 264
def appTo (fresh : Nat) (o : Oper) (el bytes : Nat) (id : Nat) (k : IV) (n2 : Nat) : RT := bif Nat.blt 0 n2 && roomK Γ k bytes n2 then .obj id fun ob => match ob with
 | .hid e => bif Nat.beq e el then dstR o (.os fresh (k.plus n2)) ([.obj id none] ++ [.obj fresh (some (.hid el))]) (fresh + 1) else .fail 265
 | _ => .fail 266
 else .fail 267
def evApp2 (fresh : Nat) (o : Oper) (str : Bool) (ti te : TI) (v u : HV) : RT := match u with
 | .os id k => bif str then .fail 268 else appOs Γ fresh o ti.el te.bytes v id k
 | u => elemsR str te.ty.size u fun ys n2 => match v with
  | .os id k => appTo Γ fresh o ti.el te.bytes id k n2
  | v => appendR fresh o ti.el te.ty.size te.bytes v ys n2
def evAppend (fresh : Nat) (o : Oper) (x y : Operand) (str : Bool) (ti te : TI) : RT :=
 opdR x fun v => opdR y fun u => evApp2 Γ fresh o str ti te v u
def evAppT (fresh : Nat) (o : Oper) (x y : Operand) (tx ty : Nat) : RT :=
 tyR Γ tx fun ti => tyR Γ ti.el fun te => bif isSl ti.ty then (bif Nat.beq tx ty then evAppend Γ fresh o x y false ti te
  else tyR Γ ty fun tj => bif isSlStr tj.ty then evAppend Γ fresh o x y (isStrT tj.ty) ti te else .fail 221) else .fail 222
def evClear (fresh : Nat) (o : Oper) (ti : TI) : HV → RT
 | .ns | .es .. => dstR o (.tup []) [] fresh
 | .sl id off n _ _ => bif Nat.beq n 0 then dstR o (.tup []) [] fresh else bif !(isSl ti.ty) then .fail 254 else tyR Γ ti.el fun te => .obj id fun ob => match ob with
  | .cells e cs opn => bif inside cs off (n * te.ty.size) then dstR o (.tup []) [.obj id (some (.cells e (putAt cs off (rep n te.ty.zero)) opn))] fresh else .fail 228
  | _ => .fail 229
 | _ => .fail 230
def builtin1 (fresh : Nat) (o : Oper) (x : Operand) (types : List TypeId) : Builtin → RT
 | .len => match types with
  | [t] => tyR Γ t fun ti => opdR x (evLenT Γ fresh o ti)
  | _ => .fail 217
 | .clear => match types with
  | [t] => tyR Γ t fun ti => opdR x (evClear Γ fresh o ti)
  | _ => .fail 231
 | _ => .fail 232
def builtin2 (fresh : Nat) (o : Oper) (x y : Operand) (types : List TypeId) : Builtin → RT
 | .min => opdR x fun v => opdR y (evMin Γ fresh o v)
 | .max => opdR x fun v => opdR y (evMax Γ fresh o v)
 | .append => match types with
  | [tx, ty] => evAppT Γ fresh o x y tx ty
  | _ => .fail 223
 | _ => .fail 233
def builtinR (fresh : Nat) (o : Oper) (b : Builtin) (args : List Operand) (types : List TypeId) : RT := match args with
 | [x] => builtin1 Γ fresh o x types b
 | [x, y] => builtin2 Γ fresh o x y types b
 | _ => .fail 234
def findEnt (R : Rng) (k : HV) : List (HV × HV) → Option (Option HV)
 | [] => some none
 | (k', v) :: l => match cellEq R k k' with
  | some true => some (some v)
  | some false => findEnt R k l
  | none => none
def sliceR (fresh : Nat) (o : Oper) (ti : TI) (v : HV) (lo hi mx : Option Nat) : RT := match v with
 | .ns => tyR Γ ti.el fun _ => bif isSl ti.ty && Nat.beq (lo.getD 0) 0 && Nat.beq (hi.getD 0) 0 && Nat.beq (mx.getD 0) 0 && (hi.isSome || !mx.isSome) then dstR o .ns [] fresh else .fail 233
 | .sl id off n c op => tyR Γ ti.el fun te =>
  let h := hi.getD n
  let l := lo.getD 0
  match mx with
  | some m => bif isSl ti.ty && Nat.ble l h && Nat.ble h m && Nat.ble m c && hi.isSome then dstR o (.sl id (bif Nat.beq m l then off else off + l * te.ty.size) (h - l) (m - l) false) [] fresh else .fail 234
  | none => bif isSl ti.ty && Nat.ble l h && Nat.ble h c then (bif !op || Nat.beq l 0 || Nat.blt l c then dstR o (.sl id (bif !op && Nat.beq c l then off else off + l * te.ty.size) (h - l) (c - l) op) [] fresh
   else dstR o (.es id off (off + l * te.ty.size)) [] fresh) else .fail 235
 | .kv j => tyR Γ ti.el fun _ => match hi, mx with
  | some n, none => bif isSl ti.ty && Nat.beq (lo.getD 0) 0 && !(Nat.beq n 0) then optR 277 (ksOf j n Γ.R.ks) fun k => dstR o (.kv k) [] fresh else .fail 275
  | _, _ => .fail 276
 | .os id _ => tyR Γ ti.el fun _ => match mx with
  | some m => bif isSl ti.ty && Nat.beq m 0 && Nat.beq (hi.getD 1) 0 && Nat.beq (lo.getD 0) 0 then dstR o (.sl id 0 0 0 false) [] fresh else .fail 238
  | none => .fail 239
 | .s bs => match mx with
  | none => bif isStrT ti.ty && Nat.ble (lo.getD 0) (hi.getD bs.length) && Nat.ble (hi.getD bs.length) bs.length then dstR o (.s ((bs.take (hi.getD bs.length)).drop (lo.getD 0))) [] fresh else .fail 236
  | some _ => .fail 237
 | _ => .fail 240
def evPick (fresh : Nat) (o : Oper) (x y : Operand) : HV → RT
 | .b t => bif t then opdR x fun v => dstR o v [] fresh else opdR y fun v => dstR o v [] fresh
 | _ => .fail 1
def evBox (fresh : Nat) (o : Oper) (e : Nat) (ti : TI) (v : HV) : RT :=
 bif Nat.beq v.cells.length ti.ty.size then dstR o (.p fresh 0) [.obj fresh (some (.cells e v.cells false))] (fresh + 1) else .fail 2
def evBuild (fresh : Nat) (o : Oper) (vs : List (Nat × HV)) : Ty → RT
 | .arr n u => optR 3 (fillArr n u.size vs (rep n u.zero)) fun cs => dstR o (.agg cs) [] fresh
 | .pair a b => optR 4 (fillStruct (.pair a b) vs (Ty.pair a b).zero) fun cs => dstR o (.agg cs) [] fresh
 | _ => .fail 247
def isI : HV → Bool
 | .i _ _ => true
 | _ => false
def isMp : Ty → Bool
 | .mp => true
 | _ => false
def evInsert (fresh : Nat) (o : Oper) (ti : TI) (k v : HV) : HV → RT
 | .mp id => bif !(isI k && isMp ti.ty) then .fail 260 else .obj id fun ob => match ob with
  | .map ents => match findEnt Γ.R k ents with
   | some none => skipR o [.obj id (some (.map (ents ++ [(k, v)])))] fresh
   | _ => .fail 6
  | _ => .fail 7
 | _ => .fail 8
def evLookup (fresh : Nat) (o : Oper) (ti : TI) (u : HV) (ok : Bool) : HV → RT
 | .mp id => bif !(isI u && isMp ti.ty) then .fail 261 else .obj id fun ob => match ob with
  | .map ents => match findEnt Γ.R u ents with
   | some (some r) => dstR o (bif ok then .tup [r, .b true] else r) [] fresh
   | some none => tyR Γ ti.el fun te => optR 9 (valOf te.ty te.ty.zero) fun r => dstR o (bif ok then .tup [r, .b false] else r) [] fresh
   | none => .fail 10
  | _ => .fail 11
 | _ => .fail 12
def evLoadO (fresh : Nat) (o : Oper) (t : Ty) (off : Nat) (ob : Ob) : RT :=
 optR 15 ob.rd fun cs => bif inside cs off t.size then optR 13 (valOf t (cutAt cs off t.size)) fun r => dstR o r [] fresh else .fail 14
def evLoad (fresh : Nat) (o : Oper) (t : Ty) : HV → RT
 | .p id off => .obj id (evLoadO fresh o t off)
 | _ => .fail 16
def isU8 : Ty → Bool
 | .int .u8 => true
 | _ => false
def isF : Option Bool → Bool
 | some false => true
 | _ => false
def isTr : Option Bool → Bool
 | some true => true
 | _ => false
def evKv (fresh : Nat) (o : Oper) (ti : TI) (j : Nat) : HV → RT
 | .i _ i => tyR Γ ti.el fun te => optR 270 (klOf j Γ.R.kl) fun n => bif isSl ti.ty && Nat.beq te.ty.size 1 && isF (ivLt Γ.R i (.lit 0)) && isTr (ivLt Γ.R i n) then dstR o (.kp j i) [] fresh else .fail 271
 | _ => .fail 272
def evLoad2 (fresh : Nat) (o : Oper) (t : Ty) : HV → RT
 | .kp j i => bif isU8 t then optR 273 (kbOf j i Γ.R.kb) fun s => dstR o (.i .u8 s) [] fresh else .fail 274
 | v => evLoad fresh o t v
def evStoreO (fresh : Nat) (o : Oper) (n id off : Nat) (us : List HV) : Ob → RT
 | .cells e cs opn => bif inside cs off n && Nat.beq us.length n then skipR o [.obj id (some (.cells e (putAt cs off us) opn))] fresh else .fail 17
 | _ => .fail 18
def evStore (fresh : Nat) (o : Oper) (n : Nat) (us : List HV) : HV → RT
 | .p id off => .obj id (evStoreO fresh o n id off us)
 | _ => .fail 19
def evNilCheck (fresh : Nat) (o : Oper) (v : HV) : RT := match v with
 | .p .. | .fn .. => dstR o v [] fresh
 | _ => .fail 20
def evConvI (fresh : Nat) (o : Oper) (k : IntKind) : HV → RT
 | .i _ a => optR 23 (convI Γ.R k a) fun r => dstR o (.i k r) [] fresh
 | _ => .fail 24
def byteOf : HV → Option UInt8
 | .i .u8 (.lit n) => some (UInt8.ofNat n.toNat)
 | _ => none
def bytesOf : List HV → Option (List UInt8)
 | [] => some []
 | v :: l => match byteOf v, bytesOf l with
  | some x, some y => some (x :: y)
  | _, _ => none
def evConvS (fresh : Nat) (o : Oper) (tj : TI) (v : HV) : RT :=
 bif isSl tj.ty then tyR Γ tj.el fun te => bif isU8 te.ty then elemsR false 1 v fun cs _ => optR 25 (bytesOf cs) fun bs => dstR o (.s bs) [] fresh else .fail 250 else .fail 26
def evConvB (fresh : Nat) (o : Oper) (tj ti : TI) : HV → RT
 | .s bs => tyR Γ ti.el fun te => bif isStrT tj.ty && isU8 te.ty && Nat.ble bs.length 1000000 then dstR o (.sl fresh 0 bs.length bs.length true) [.obj fresh (some (.ro ti.el (bs.map fun b => .i .u8 (.lit b.toNat))))] (fresh + 1) else .fail 251
 | _ => .fail 252
def evConv (fresh : Nat) (o : Oper) (tj ti : TI) (v : HV) : RT := match ti.ty with
 | .int k => evConvI Γ fresh o k v
 | .str => evConvS Γ fresh o tj v
 | .sl => evConvB Γ fresh o tj ti v
 | _ => .fail 253
def evFunc (fresh : Nat) (o : Oper) (first cs : Array Operand) : Fn → RT
 | .func f => opdsR first.toList fun fs => opdsR cs.toList fun vs => dstR o (.fn f fs vs) [] fresh
 | _ => .fail 27
def evMakeSlice (fresh : Nat) (o : Oper) (sl : Bool) (el : Nat) (te : TI) (n c : Option Nat) : RT := match n, c with
 | some n, some c => bif sl && Nat.ble n c && room c te.bytes && Nat.ble c 9223372036854775807 then dstR o (.sl fresh 0 n c false) [.obj fresh (some (.cells el (rep c te.ty.zero) false))] (fresh + 1) else .fail 31
 | _, _ => .fail 32
def evSlice (fresh : Nat) (o : Oper) (ti : TI) (v : HV) (lo hi mx : Option (Option Nat)) : RT := match lo, hi, mx with
 | some lo, some hi, some mx => bif isSlStr ti.ty then sliceR Γ fresh o ti v lo hi mx else .fail 249
 | _, _, _ => .fail 33
def evFieldAddr (fresh : Nat) (o : Oper) (ti : TI) (f : Nat) : HV → RT
 | .p id off => match fldTy ti.ty f with
  | some _ => dstR o (.p id (off + fldOff ti.ty f)) [] fresh
  | none => .fail 34
 | _ => .fail 35
def evField (fresh : Nat) (o : Oper) (ti : TI) (f : Nat) : HV → RT
 | .agg cs => match fldTy ti.ty f with
  | some u => bif inside cs (fldOff ti.ty f) u.size then optR 36 (valOf u (cutAt cs (fldOff ti.ty f) u.size)) fun r => dstR o r [] fresh else .fail 37
  | none => .fail 38
 | _ => .fail 39
def evIndexAddr (fresh : Nat) (o : Oper) (ti : TI) (i : Nat) : HV → RT
 | .sl id off n _ _ => bif isSl ti.ty then tyR Γ ti.el fun te => bif Nat.blt i n then dstR o (.p id (off + i * te.ty.size)) [] fresh else .fail 41 else .fail 246
 | .p id off => match ti.ty with
  | .arr n u => bif Nat.blt i n then dstR o (.p id (off + i * u.size)) [] fresh else .fail 42
  | _ => .fail 43
 | _ => .fail 44
def evIdxA (fresh : Nat) (o : Oper) (ti : TI) (u v : HV) : RT := match v with
 | .kv j => evKv Γ fresh o ti j u
 | v => optR 40 (litR Γ u) fun i => evIndexAddr Γ fresh o ti i v
def evIndex (fresh : Nat) (o : Oper) (ti : TI) (i : Nat) : HV → RT
 | .agg cs => match ti.ty with
  | .arr n u => bif Nat.blt i n && inside cs (i * u.size) u.size then optR 46 (valOf u (cutAt cs (i * u.size) u.size)) fun r => dstR o r [] fresh else .fail 47
  | _ => .fail 48
 | .s bs => match bs[i]? with
  | some b => bif isStrT ti.ty then dstR o (.i .u8 (.lit b.toNat)) [] fresh else .fail 69
  | none => .fail 49
 | _ => .fail 50
def evExtract (fresh : Nat) (o : Oper) (i : Nat) : HV → RT
 | .tup l => optR 51 l[i]? fun v => dstR o v [] fresh
 | _ => .fail 52
def evCall (cl : CallFn) (fresh : Nat) (o : Oper) (args : Array Operand) : HV → RT
 | .fn f fs cs => opdsR args.toList fun vs => cl f (fs ++ vs ++ cs) fresh fun r ws nx => dstR o r ws nx
 | _ => .fail 53
def evCallee (cl : CallFn) (fresh : Nat) (o : Oper) (c : Call) : Callee → RT
 | .builtin b => builtinR Γ fresh o b c.args.toList c.argTypes.toList
 | .value f => opdR f (evCall cl fresh o c.args)
 | .invoke .. => .fail 54
def evMakeMap (fresh : Nat) (o : Oper) : Option Operand → RT
 | none => dstR o (.mp fresh) [.obj fresh (some (.map []))] (fresh + 1)
 | some _ => .fail 55
def evalOp (cl : CallFn) (fresh : Nat) (o : Oper) : RT :=
 match o.op with
 | .move x => opdR x fun v => dstR o v [] fresh
 | .assign x => opdR x fun v => dstR o v [] fresh
 | .pick c x y => opdR c (evPick fresh o x y)
 | .alloc e => tyR Γ e fun ti => dstR o (.p fresh 0) [.obj fresh (some (.cells e ti.ty.zero false))] (fresh + 1)
 | .box e x => tyR Γ e fun ti => opdR x (evBox fresh o e ti)
 | .build t ps => tyR Γ t fun ti => partsR ps.toList fun vs => evBuild fresh o vs ti.ty
 | .buildSlice t n ps => tyR Γ t fun ti => tyR Γ ti.el fun te => partsR ps.toList fun vs =>
   bif isSl ti.ty && Nat.ble (n * te.ty.size) 16777216 then optR 5 (fillArr n te.ty.size vs (rep n te.ty.zero)) fun cs => dstR o (.sl fresh 0 n n false) [.obj fresh (some (.cells ti.el cs false))] (fresh + 1) else .fail 248
 | .makeMap _ r => evMakeMap fresh o r
 | .insert t m k v => tyR Γ t fun ti => opdR m fun m => opdR k fun k => opdR v fun v => evInsert Γ fresh o ti k v m
 | .lookup t x i ok => tyR Γ t fun ti => opdR x fun v => opdR i fun u => evLookup Γ fresh o ti u ok v
 | .load t x => tyR Γ t fun ti => opdR x (evLoad2 Γ fresh o ti.ty)
 | .store t x y => tyR Γ t fun ti => opdR x fun v => opdR y fun u => evStore fresh o ti.ty.size u.cells v
 | .nilCheck x => opdR x (evNilCheck fresh o)
 | .binOp op t x y _ => opdR x fun v => opdR y fun u => optR 21 (binH Γ.R (Γ.tys.get t) op v u) fun r => dstR o r [] fresh
 | .unOp op _ x => opdR x fun v => optR 22 (unH op v) fun r => dstR o r [] fresh
 | .convert s d x => tyR Γ s fun tj => tyR Γ d fun ti => opdR x (evConv Γ fresh o tj ti)
 | .makeFunc fn first cs => evFunc fresh o first cs fn
 | .makeSlice t n c => tyR Γ t fun ti => tyR Γ ti.el fun te => opdR n fun v => opdR c fun u => evMakeSlice fresh o (isSl ti.ty) ti.el te (litN v) (litN u)
 | .slice t x lo hi mx => tyR Γ t fun ti => opdR x fun v => optOpd lo fun lo => optOpd hi fun hi => optOpd mx fun mx => evSlice Γ fresh o ti v (litO lo) (litO hi) (litO mx)
 | .fieldAddr t x f => tyR Γ t fun ti => opdR x (evFieldAddr fresh o ti f)
 | .field t x f => tyR Γ t fun ti => opdR x (evField fresh o ti f)
 | .indexAddr t x i => tyR Γ t fun ti => opdR x fun v => opdR i fun u => evIdxA Γ fresh o ti u v
 | .index t x i => tyR Γ t fun ti => opdR x fun v => opdR i fun u => optR 45 (litN u) fun i => evIndex fresh o ti i v
 | .extract x i => opdR x (evExtract fresh o i)
 | .call c => evCallee Γ cl fresh o c c.callee
 | _ => .fail 68

def undR (o : Oper) (fresh : Nat) : RT := match o.dst with
 | some d => .fin [.slot d (some (.tup []))] fresh
 | none => .fin [] fresh
def opRT (cl : CallFn) (ops : List Oper) (fresh : Nat) (o : Oper) : RT :=
 match o.guard with
 | none => evalOp Γ cl fresh o
 | some (j, want) => match (ops[j]?).bind (·.dst) with
  | some d => .get d fun v => match v with
   | .b b => bif b == want then evalOp Γ cl fresh o else undR o fresh
   | .tup [] => undR o fresh
   | _ => .fail 70
  | none => .fail 71

def regK (cl : CallFn) (ops : List Oper) (l : List Oper) (G : GS) (K : GS → RT) : RT := @List.rec Oper (fun _ => GS → RT) K (fun o _ ih G => (opRT Γ cl ops G.next o).inn G ih) l G

def touch : List Loc → List Loc → Bool
 | [], _ => false
 | p :: l, m => m.any (fun q => p.1 == q.1 && Nat.beq p.2 q.2) || touch l m
def backB : Nat → List Oper → Bool
 | _, [] => true
 | i, o :: l => o.after.toList.all (fun e => !(Region.binds .any e) || Nat.blt e.on i) && backB (i + 1) l
def befStep (bs : List Nat) (o : Oper) : Nat := o.after.toList.foldl (fun m e => if Region.binds .any e then m ||| 2 ^ e.on ||| bs.getD e.on 0 else m) 0
def befores (ops : List Oper) : List Nat := ops.foldl (fun bs o => bs ++ [befStep bs o]) []
def clash (x y : List Loc × List Loc) : Bool := touch x.2 y.1 || touch x.2 y.2 || touch y.2 x.1
def clashes (bs : List Nat) (x : List Loc × List Loc) (j : Nat) : List (List Loc × List Loc) → Nat → Bool
 | [], _ => false
 | y :: l, i => (!((bs.getD j 0).testBit i) && clash y x) || clashes bs x j l (i + 1)
def drawOk (bs : List Nat) : List (List Loc × List Loc) → List (List Loc × List Loc) → Bool
 | _, [] => true
 | done, x :: l => !(clashes bs x done.length done 0) && drawOk bs (done ++ [x]) l
def regD (cl : CallFn) (ops : List Oper) : List Oper → List (List Loc × List Loc) → GS → (GS → RT) → RT
 | [], acc, G, K => bif drawOk (befores ops) [] acc && backB 0 ops then K G else .fail 72
 | o :: l, acc, G, K => (opRT Γ cl ops G.next o).innD [] G fun G' rd wr => regD cl ops l (acc ++ [(rd, wr)]) G' K

inductive XE where
 | normal
 | exit (id : Nat)
 | ret

def loopRT (L : Nat) (body : GS → (XE → GS → RT) → RT) (K : XE → GS → RT) : GS → RT :=
 Nat.rec (fun _ => .fail 73) (fun _ ih G => body G fun e G' => match e with
  | .normal => ih G'
  | e => K e G') L

def seqK (K : XE → GS → RT) (g : GS → (XE → GS → RT) → RT) : XE → GS → RT
 | .normal, G => g G K
 | .exit i, G => K (.exit i) G
 | .ret, G => K .ret G
def condV (f g : GS → (XE → GS → RT) → RT) (G : GS) (K : XE → GS → RT) : Option HV → RT
 | some (.b t) => bif t then f G K else g G K
 | _ => .fail 74
def condR (f g : GS → (XE → GS → RT) → RT) (G : GS) (K : XE → GS → RT) : Operand → RT
 | .tmp n => condV f g G K (G.slots.get n)
 | .const v => condV f g G K (constC v)
 | _ => .fail 75
def blockK (id : Nat) (K : XE → GS → RT) : XE → GS → RT
 | .normal, G => K .normal G
 | .exit j, G => bif Nat.beq j id then K .normal G else K (.exit j) G
 | .ret, G => K .ret G
def codeRT (cl : CallFn) (L : Nat) : Code → GS → (XE → GS → RT) → RT
 | .skip, G, K => K .normal G
 | .region _ ops draw, G, K =>
  bif draw then regD Γ cl ops.toList ops.toList [] G (K .normal)
  else regK Γ cl ops.toList ops.toList G (K .normal)
 | .seq a b, G, K => codeRT cl L a G (seqK K (codeRT cl L b))
 | .cond c a b, G, K => condR (codeRT cl L a) (codeRT cl L b) G K c
 | .block id c, G, K => codeRT cl L c G (blockK id K)
 | .loop c, G, K => loopRT L (codeRT cl L c) K G
 | .exit id, G, K => K (.exit id) G
 | .ret, G, K => K .ret G
 | _, _, _ => .fail 78

def resR (G : GS) : List ResultVar → (List HV → RT) → RT
 | [], k => k []
 | .tmp t :: l, k => match G.slots.get t with
  | some v => resR G l fun vs => k (v :: vs)
  | none => .fail 79
 | .cell a t :: l, k => match G.slots.get a with
  | some (.p id off) => match Γ.tys.get t with
   | some ti =>
    let go : Ob → RT := fun ob => optR 82 ob.rd fun cs => bif inside cs off ti.ty.size then optR 80 (valOf ti.ty (cutAt cs off ti.ty.size)) fun r => resR G l fun vs => k (r :: vs) else .fail 81
    match G.st.get id with
    | some (some o) => go o
    | some none => .fail 83
    | none => match G.ca.get id with
     | some o => go o
     | none => .obj id go
   | none => .fail 84
  | _ => .fail 85
def tupH : List HV → HV
 | [v] => v
 | vs => .tup vs
def numbered : Nat → List HV → Tr HV → Tr HV
 | _, [], t => t
 | n, v :: l, t => numbered (n + 1) l (t.set (some v) n)
def outWs (G : GS) : List Wr := (G.st.toL 0 1 []).map fun p => .obj p.1 p.2
end
end
end Go.Proofs.YtehbbcdhahnkgaaGreat.Hm

namespace Go.Proofs.YtehbbcdhahnkgaaGreat.Hm
open Go
noncomputable section

inductive HT where
 | mk (op v : IV) (l : List HT)
mutual
def HT.count : HT → Nat
 | .mk _ _ l => 1 + HT.countL l
def HT.countL : List HT → Nat
 | [] => 0
 | t :: l => t.count + HT.countL l
end
inductive Cmp where
 | lt | eq | gt
def ivCmp (R : Rng) (x y : IV) (k : Option Cmp) : Option Cmp := match ivEq R x y with
 | some true => k
 | some false => match ivLt R x y with
  | some true => some .lt
  | some false => some .gt
  | none => none
 | none => none
mutual
def HT.cmp (R : Rng) : HT → HT → Option Cmp
 | .mk o v l, .mk o' v' l' => ivCmp R o o' (ivCmp R v v' (bif Nat.blt l.length l'.length then some .lt else bif Nat.blt l'.length l.length then some .gt else HT.cmpL R l l'))
def HT.cmpL (R : Rng) : List HT → List HT → Option Cmp
 | [], _ => some .eq
 | _ :: _, [] => none
 | t :: l, t' :: l' => match HT.cmp R t t' with
  | some .eq => HT.cmpL R l l'
  | r => r
end
def andO (x : Option Bool) (y : Option Bool) : Option Bool := match x with
 | some true => y
 | r => r
def ivGe0 (R : Rng) (v : IV) : Option Bool := match ivLt R v (.lit 0) with
 | some b => some (!b)
 | none => none
def soundH (R : Rng) : HT → Option Bool
 | .mk (.lit o) v l => match o with
  | .ofNat 1 => some (Nat.beq l.length 0)
  | .ofNat 2 | .ofNat 9 | .ofNat 10 => andO (some (Nat.beq l.length 0)) (ivGe0 R v)
  | .ofNat 3 => ivEq R v (.lit 0)
  | .ofNat 6 => ivGe0 R v
  | .ofNat 4 => andO (some (Nat.beq l.length 1)) (ivEq R v (.lit 0))
  | .ofNat 8 => andO (some (Nat.beq l.length 1)) (ivGe0 R v)
  | .ofNat 5 => match l with
   | [a, b] => andO (ivEq R v (.lit 0)) (match HT.cmp R b a with
    | some .lt => some false
    | some _ => some true
    | none => none)
   | _ => some false
  | .ofNat 7 => andO (some (Nat.beq l.length 2)) (ivEq R v (.lit 0))
  | _ => some false
 | _ => none
mutual
def HT.allSound (R : Rng) (d : Nat) : HT → Option Bool
 | .mk o v l => andO (some (Nat.ble d 60)) (andO (soundH R (.mk o v l)) (HT.allSoundL R (d + 1) l))
def HT.allSoundL (R : Rng) (d : Nat) : List HT → Option Bool
 | [] => some true
 | t :: l => andO (HT.allSound R d t) (HT.allSoundL R d l)
end
def HT.valid (R : Rng) (t : HT) : Option Bool := bif Nat.blt 600 t.count then some false else HT.allSound R 1 t

def listT (rd : List HV → (HT → RT) → RT) (cs : List HV) : Nat → Nat → (List HT → RT) → RT
 | 0, _, k => k []
 | n + 1, o, k => bif inside cs o 3 then rd (cutAt cs o 3) fun t => listT rd cs n (o + 3) fun ts => k (t :: ts) else .fail 301
def readO (tok : Nat → Bool) (n c off : Nat) (k : List HV → RT) : Ob → RT
 | .cells el cs _ => bif tok el && Nat.ble n c && inside cs off (c * 3) then k cs else .fail 303
 | _ => .fail 305
def readT (tok : Nat → Bool) : Nat → List HV → (HT → RT) → RT := fun n => Nat.rec (fun _ _ => .fail 302) (fun _ ih cs k => match cs with
 | [.i .i64 o, .i .i64 v, .ns] => k (.mk o v [])
 | [.i .i64 o, .i .i64 v, .sl id off n c op] => bif Nat.ble c 4611686018427387904 then (bif Nat.beq n 0 && !op then k (.mk o v []) else .obj id (readO tok n c off fun cs => listT ih cs n off fun ts => k (.mk o v ts))) else .fail 306
 | _ => .fail 304) n
def tok3 (T : Tr TI) (el : Nat) : Bool := match T.get el with
 | some ti => Nat.beq ti.ty.size 3
 | none => false

def stepF (Γ : Ctx) (L : Nat) (ih : CallFn) : CallFn := fun f args next K =>
 bif Nat.beq f Γ.val then (match args with
  | [.agg cs] => readT (tok3 Γ.tys) Γ.dep cs fun t => optR 92 (t.valid Γ.R) fun b => K (.b b) [] next
  | _ => .fail 93)
 else match Γ.fns.get f with
 | none => .fail (1000000 + f)
 | some g => codeRT Γ ih L g.body { slots := numbered 0 args .lf, st := .lf, ca := .lf, next } fun e G => match e with
  | .exit _ => .fail 91
  | _ => resR Γ G g.results fun vs => K (tupH vs) (outWs G) G.next
def runF (Γ : Ctx) (L : Nat) : Nat → CallFn := fun n => Nat.rec (fun _ _ _ _ => .fail 90) (fun _ ih => stepF Γ L ih) n
end
end Go.Proofs.YtehbbcdhahnkgaaGreat.Hm

namespace Go.Proofs.YtehbbcdhahnkgaaGreat.Hm
open Go
noncomputable section

abbrev Sub := List (Nat × IV)
def subOf (i : Nat) : Sub → Option IV
 | [] => none
 | (j, x) :: l => bif Nat.beq i j then some x else subOf i l
def IV.sub (s : Sub) : IV → IV
 | .lit n => .lit n
 | .sym i c => match subOf i s with
  | some x => x.plus c
  | none => .sym i c
mutual
def HV.eqB : HV → HV → Bool
 | .b x, u => (match u with
  | .b y => x == y
  | _ => false)
 | .i k x, u => (match u with
  | .i k' y => IntKind.same k k' && IV.same x y
  | _ => false)
 | .s x, u => (match u with
  | .s y => decide (x = y)
  | _ => false)
 | .np, u => (match u with
  | .np => true
  | _ => false)
 | .ns, u => (match u with
  | .ns => true
  | _ => false)
 | .nf, u => (match u with
  | .nf => true
  | _ => false)
 | .nm, u => (match u with
  | .nm => true
  | _ => false)
 | .p v x, u => (match u with
  | .p v' x' => Nat.beq v v' && Nat.beq x x'
  | _ => false)
 | .sl v x n c op, u => (match u with
  | .sl v' x' n' c' op' => Nat.beq v v' && Nat.beq x x' && Nat.beq n n' && Nat.beq c c' && (op == op')
  | _ => false)
 | .es v x y, u => (match u with
  | .es v' x' y' => Nat.beq v v' && Nat.beq x x' && Nat.beq y y'
  | _ => false)
 | .fn f fs cs, u => (match u with
  | .fn f' fs' cs' => Nat.beq f f' && HV.eqL fs fs' && HV.eqL cs cs'
  | _ => false)
 | .mp v, u => (match u with
  | .mp v' => Nat.beq v v'
  | _ => false)
 | .agg l, u => (match u with
  | .agg l' => HV.eqL l l'
  | _ => false)
 | .tup l, u => (match u with
  | .tup l' => HV.eqL l l'
  | _ => false)
 | .kv j, u => (match u with
  | .kv j' => Nat.beq j j'
  | _ => false)
 | .os v k, u => (match u with
  | .os v' k' => Nat.beq v v' && IV.same k k'
  | _ => false)
 | .kp v k, u => (match u with
  | .kp v' k' => Nat.beq v v' && IV.same k k'
  | _ => false)
def HV.eqL : List HV → List HV → Bool
 | [], k => (match k with
  | [] => true
  | _ => false)
 | v :: l, k => (match k with
  | u :: k => HV.eqB v u && HV.eqL l k
  | _ => false)
end
def kvGet (j : Nat) : List (Nat × HV) → Option HV
 | [] => none
 | p :: l => bif Nat.beq p.1 j then some p.2 else kvGet j l
def IV.le : IV → IV → Bool
 | .lit a, .lit b => decide (a ≤ b)
 | .sym i c, .sym j d => Nat.beq i j && decide (c ≤ d)
 | _, _ => false
structure HD where
 n : Nat
 c : Nat
 el : Nat
 sz : Nat
def hdGet (i : Nat) : List (Nat × HD) → Option HD
 | [] => none
 | p :: l => bif Nat.beq p.1 i then some p.2 else hdGet i l
structure Lk where
 s1 : Sub
 s2 : Sub
 σ : Tr Nat
 kvs : List (Nat × HV) := []
 hd : List (Nat × HD) := []
def Lk.id (g : Lk) (i j : Nat) : Bool := match g.σ.get i with
 | some k => Nat.beq k j && (hdGet i g.hd).isNone
 | none => false
def Lk.idh (g : Lk) (i j : Nat) : Option HD := match g.σ.get i with
 | some k => bif Nat.beq k j then hdGet i g.hd else none
 | none => none
mutual
def HV.like (g : Lk) : HV → HV → Bool
 | .b x, u => (match u with
  | .b y => x == y
  | _ => false)
 | .i k x, u => (match u with
  | .i k' y => IntKind.same k k' && IV.same (x.sub g.s2) (y.sub g.s1)
  | _ => false)
 | .s x, u => (match u with
  | .s y => decide (x = y)
  | _ => false)
 | .np, u => (match u with
  | .np => true
  | _ => false)
 | .ns, u => (match u with
  | .ns => true
  | _ => false)
 | .nf, u => (match u with
  | .nf => true
  | _ => false)
 | .nm, u => (match u with
  | .nm => true
  | _ => false)
 | .p v x, u => (match u with
  | .p v' x' => g.id v v' && Nat.beq x x'
  | _ => false)
 | .sl v x n c op, u => (match u with
  | .sl v' x' n' c' op' => g.id v v' && Nat.beq x x' && Nat.beq n n' && Nat.beq c c' && (op == op')
  | _ => false)
 | .es v x y, u => (match u with
  | .es v' x' y' => g.id v v' && Nat.beq x x' && Nat.beq y y'
  | _ => false)
 | .fn f fs cs, u => (match u with
  | .fn f' fs' cs' => Nat.beq f f' && HV.likeL g fs fs' && HV.likeL g cs cs'
  | _ => false)
 | .mp v, u => (match u with
  | .mp v' => g.id v v'
  | _ => false)
 | .agg l, u => (match u with
  | .agg l' => HV.likeL g l l'
  | _ => false)
 | .tup l, u => (match u with
  | .tup l' => HV.likeL g l l'
  | _ => false)
 | .kv j, u => (match kvGet j g.kvs with
  | some u0 => HV.eqB u0 u && u.one
  | none => HV.eqB (.kv j) u)
 | .os v k, u => (match u with
  | .os v' k' => g.id v v' && IV.le (k'.sub g.s1) (k.sub g.s2)
  | .sl v' x n c op => (match g.idh v v' with
   | some d => Nat.beq x 0 && Nat.beq n d.n && Nat.beq c d.c && op && IV.le (.lit n) (k.sub g.s2)
   | none => false)
  | _ => false)
 | .kp v k, u => (match u with
  | .kp v' k' => Nat.beq v v' && (kvGet v g.kvs).isNone && IV.same (k.sub g.s2) (k'.sub g.s1)
  | _ => false)
def HV.likeL (g : Lk) : List HV → List HV → Bool
 | [], k => (match k with
  | [] => true
  | _ => false)
 | v :: l, k => (match k with
  | u :: k => HV.like g v u && HV.likeL g l k
  | _ => false)
end
def entsLike (g : Lk) : List (HV × HV) → List (HV × HV) → Bool
 | [], [] => true
 | p :: l, q :: k => HV.like g p.1 q.1 && HV.like g p.2 q.2 && entsLike g l k
 | _, _ => false
def Ob.like (g : Lk) : Ob → Ob → Bool
 | .cells el cs op, .cells el' cs' op' => Nat.beq el el' && (op == op') && HV.likeL g cs cs'
 | .ro el cs, .ro el' cs' => Nat.beq el el' && HV.likeL g cs cs'
 | .map es, .map es' => entsLike g es es'
 | .hid el, .hid el' => Nat.beq el el'
 | _, _ => false
def Ob.hides (d : HD) : Ob → Ob → Bool
 | .hid el, .cells el' cs op => Nat.beq el el' && Nat.beq el d.el && op && Nat.ble 1 d.n && Nat.ble d.n d.c && Nat.ble d.c 4611686018427387904 && Nat.beq cs.length (d.c * d.sz)
 | _, _ => false
def Ob.likeI (g : Lk) (i : Nat) (o o1 : Ob) : Bool := match hdGet i g.hd with
 | none => o.like g o1
 | some d => o.hides d o1
structure Ent where
 f : Nat
 args : List HV
 n : Nat
 res : HV
 ws : List Wr
 nx : Nat
def Ent.hit (e : Ent) (f : Nat) (args : List HV) (n : Nat) : Bool := Nat.beq e.f f && (Nat.beq e.n n && HV.likeL ⟨[], [], .lf, [], []⟩ e.args args)
def memo (M : List Ent) (cl : CallFn) : CallFn := fun f args n K => List.rec (cl f args n K) (fun e _ ih => bif e.hit f args n then K e.res e.ws e.nx else ih) M
def runM (M : List Ent) (Γ : Ctx) (L : Nat) : Nat → CallFn := fun n => Nat.rec (fun _ _ _ _ => .fail 90) (fun _ ih => memo M (stepF Γ L ih)) n
def wsT : List Wr → Tr (Option Ob) → Tr (Option Ob)
 | [], t => t
 | .obj id o :: l, t => wsT l (t.set (some o) id)
 | .slot _ _ :: l, t => wsT l t
def numT {α : Type} : Nat → List α → Tr α → Tr α
 | _, [], t => t
 | n, v :: l, t => numT (n + 1) l (t.set (some v) n)
def memN (x : Nat) : List Nat → Bool
 | [] => false
 | y :: l => Nat.beq x y || memN x l
def distinct : List Nat → Bool
 | [] => true
 | x :: l => !(memN x l) && distinct l
def perm (src : List Nat) (lo hi : Nat) : Bool := distinct src && Nat.ble (lo + src.length) hi
def okOb (g : Lk) (t : Tr (Option Ob)) (i : Nat) (o : Ob) : Bool := match g.σ.get i with
 | some s => (match t.get s with
  | some (some o1) => o.like g o1
  | _ => false)
 | none => false
def newW (g : Lk) (t : Tr (Option Ob)) : Wr → Bool
 | .obj i (some o) => okOb g t i o
 | _ => false
def inW (lo hi : Nat) : Wr → Bool
 | .obj i _ => Nat.ble lo i && Nat.blt i hi
 | _ => false
def entD (e : Ent) (σ : Tr Nat) (res : HV) (ws : List Wr) (t : Tr (Option Ob)) : Bool := HV.like ⟨[], [], σ, [], []⟩ e.res res && (ws.all (inW e.n e.nx) && e.ws.all (newW ⟨[], [], σ, [], []⟩ t))
def entC (e : Ent) (src : List Nat) (res : HV) (ws : List Wr) (nx : Nat) : Bool := (Nat.beq nx e.nx && (Nat.ble e.n e.nx && perm src e.n e.nx)) && entD e (numT e.n src .lf) res ws (wsT ws .lf)
def endR (b : Bool) : RT := bif b then .fin [] 0 else .fail 0
def isFin : RT → Bool
 | .fin [] 0 => true
 | _ => false
structure St where
 N : Nat
 n : Nat
 slots : Tr HV
 heap : Tr Ob
def okObG (g : Lk) (G : GS) (i : Nat) (o : Ob) : Bool := match g.σ.get i with
 | some s => (match G.find s with
  | some (some o1) => o.likeI g i o1
  | _ => false)
 | none => false
def okSl (g : Lk) (G : GS) (k : Nat) (v : HV) : Bool := match G.slots.get k with
 | some u => v.like g u
 | none => false
def satD (T : St) (g : Lk) (G : GS) : Bool := ((T.slots.toL 0 1 []).all fun p => okSl g G p.1 p.2) && (T.heap.toL 0 1 []).all fun p => okObG g G p.1 p.2
def satH (T : St) (s1 s2 : Sub) (src : List Nat) (kvs : List (Nat × HV)) (hd : List (Nat × HD)) (G : GS) : Bool := perm src 0 T.n && satD T ⟨s1, s2, numT 0 src .lf, kvs, hd⟩ G
def satK (T : St) (s1 s2 : Sub) (src : List Nat) (kvs : List (Nat × HV)) (G : GS) : Bool := satH T s1 s2 src kvs [] G
def satC (T : St) (s1 s2 : Sub) (src : List Nat) (G : GS) : Bool := satK T s1 s2 src [] G
abbrev big : Nat := 1000000000
def endK (p : XE → GS → Bool) : XE → GS → RT := fun e G => bif Nat.ble G.next big && p e G then .fin [] big else .fail 0
def isBig : RT → Bool
 | .fin [] n => Nat.beq n big
 | _ => false
def St.gs (T : St) : GS := { slots := T.slots, st := .lf, ca := T.heap, next := T.n }
def flat : Code → List Code
 | .skip => []
 | .seq x y => flat x ++ flat y
 | c => [c]
def seqs : List Code → Code
 | [] => .skip
 | c :: l => .seq c (seqs l)

def eqE : List (HV × HV) → List (HV × HV) → Bool
 | [], [] => true
 | p :: l, q :: k => HV.eqB p.1 q.1 && HV.eqB p.2 q.2 && eqE l k
 | _, _ => false
def Ob.eqB : Ob → Ob → Bool
 | .cells el cs op, .cells el' cs' op' => Nat.beq el el' && (op == op') && HV.eqL cs cs'
 | .ro el cs, .ro el' cs' => Nat.beq el el' && HV.eqL cs cs'
 | .map es, .map es' => eqE es es'
 | .hid el, .hid el' => Nat.beq el el'
 | _, _ => false
def eqO : Option Ob → Option Ob → Bool
 | some x, some y => x.eqB y
 | none, none => true
 | _, _ => false
structure EntP where
 f : Nat
 args : List HV
 n : Nat
 pre : List (Nat × Ob)
 res : HV
 ws : List Wr
 nx : Nat
def EntP.hit (e : EntP) (f : Nat) (args : List HV) (n : Nat) : Bool := Nat.beq e.f f && (Nat.beq e.n n && HV.eqL e.args args)
def preR : List (Nat × Ob) → RT → RT
 | [], k => k
 | p :: l, k => .obj p.1 fun o => bif p.2.eqB o then preR l k else .fail 600
def memoP (M : List EntP) (cl : CallFn) : CallFn := fun f args n K => List.rec (cl f args n K) (fun e _ ih => bif e.hit f args n then preR e.pre (K e.res e.ws e.nx) else ih) M
def runP (MP : List EntP) (M : List Ent) (Γ : Ctx) (L : Nat) : Nat → CallFn := fun n => Nat.rec (fun _ _ _ _ => .fail 90) (fun _ ih => memoP MP (memo M (stepF Γ L ih))) n
def preL : List (Nat × Ob) → Nat → Option Ob
 | [], _ => none
 | p :: l, i => bif Nat.beq p.1 i then some p.2 else preL l i
def lastW (t : Tr (Option Ob)) : Wr → Bool
 | .obj i o => (match t.get i with
  | some o' => eqO o o'
  | none => false)
 | _ => false
def hasW (i : Nat) : List Wr → Bool
 | [] => false
 | .obj j _ :: l => Nat.beq i j || hasW i l
 | .slot _ _ :: l => hasW i l
def oldW (n nx : Nat) (ws : List Wr) : Wr → Bool
 | .obj i _ => (Nat.ble n i && Nat.blt i nx) || hasW i ws
 | _ => false
def entPC (e : EntP) (res : HV) (ws : List Wr) (nx : Nat) : Bool := (Nat.beq nx e.nx && HV.eqB e.res res) && (ws.all (oldW e.n e.nx e.ws) && (fun t : Tr (Option Ob) => e.ws.all (lastW t)) (wsT ws .lf))
def isSome0 : Option (List Wr × Nat) → Bool
 | some ([], 0) => true
 | _ => false

structure EntV where
 f : Nat
 args : List HV
 res : HV
def EntV.hit (e : EntV) (f : Nat) (args : List HV) : Bool := Nat.beq e.f f && HV.likeL ⟨[], [], .lf, [], []⟩ e.args args
def memoV (M : List EntV) (cl : CallFn) : CallFn := fun f args n K => List.rec (cl f args n K) (fun e _ ih => bif e.hit f args then K e.res [] n else ih) M
def runV (V : List EntV) (MP : List EntP) (M : List Ent) (Γ : Ctx) (L : Nat) : Nat → CallFn := fun n => Nat.rec (fun _ _ _ _ => .fail 90) (fun _ ih => memoV V (memoP MP (memo M (stepF Γ L ih)))) n

structure NX where
 f : Nat
 el : Nat
 j : Nat
 tab : List ((IV × Int) × (IV × IV))
def nxOf (at_ : IV) (n : Int) : List ((IV × Int) × (IV × IV)) → Option (IV × IV)
 | [] => none
 | p :: l => bif IV.same p.1.1 at_ && decide (p.1.2 = n) then some p.2 else nxOf at_ n l
def nxO (X : NX) (id : Nat) (n : Int) (next : Nat) (K : HV → List Wr → Nat → RT) (D : RT) : Ob → RT
 | .cells el [.kv j, .i .i64 at_] false => bif Nat.beq el X.el && Nat.beq j X.j then optR 610 (nxOf at_ n X.tab) fun r => K (.i .i64 r.1) [.obj id (some (.cells el [.kv j, .i .i64 r.2] false))] next else D
 | _ => D
def nxR (X : NX) (next : Nat) (K : HV → List Wr → Nat → RT) (D : RT) : List HV → RT
 | [.p id off, .i .i64 (.lit n)] => bif Nat.beq off 0 then .obj id (nxO X id n next K D) else D
 | _ => D
def memoX (X : NX) (cl : CallFn) : CallFn := fun f args n K => bif Nat.beq f X.f then nxR X n K (cl f args n K) args else cl f args n K
def runX (X : NX) (V : List EntV) (MP : List EntP) (M : List Ent) (Γ : Ctx) (L : Nat) : Nat → CallFn := fun n => Nat.rec (fun _ _ _ _ => .fail 90) (fun _ ih => memoX X (memoV V (memoP MP (memo M (stepF Γ L ih))))) n
structure CH where
 f : Nat
 it : Nat
 el : Nat
 sz : Nat
 gt : Nat
 rt : Nat
 pt : Nat
 st : Nat
 pre : Code
 asg : Code
 reg : Code
 V : List EntV
mutual
def HV.lt (n : Nat) : HV → Bool
 | .p x _ | .sl x _ _ _ _ | .es x _ _ | .mp x | .os x _ => Nat.blt x n
 | .fn _ fs cs => HV.ltL n fs && HV.ltL n cs
 | .agg l | .tup l => HV.ltL n l
 | _ => true
def HV.ltL (n : Nat) : List HV → Bool
 | [] => true
 | v :: l => HV.lt n v && HV.ltL n l
end
def isNm : XE → Bool
 | .normal => true
 | _ => false
def slB (G : GS) (k : Nat) (v : HV) : Bool := match G.slots.get k with
 | some u => HV.eqB v u
 | none => false
def obB (G : GS) (id : Nat) (o : Ob) : Bool := match G.find id with
 | some (some o') => Ob.eqB o o'
 | _ => false
def slT : List (Nat × HV) → Tr HV
 | [] => .lf
 | p :: l => (slT l).set (some p.2) p.1
def endB (b : Bool) (G : GS) : RT := bif Nat.ble G.next 1000000000 && b then .fin [] 1000000000 else .fail 0
def isSomeB : Option (List Wr × Nat) → Bool
 | some ([], n) => Nat.beq n 1000000000
 | _ => false
def noB (G : GS) (id : Nat) : Bool := (G.find id).isNone
def chA (X : CH) (n sid : Nat) (g p : List HV) (rule ch : HV) : XE → GS → RT := fun e G => endB (isNm e && (slB G 3 (.p n 0) && (slB G 4 (.p (n + 1) 0) && (slB G 5 (.p (n + 2) 0) && (slB G 6 (.p (n + 3) 0) && (slB G 11 (.fn X.it [] [.p (n + 4) 0]) &&
 (obB G n (.cells X.gt g false) && (obB G (n + 1) (.cells X.rt [rule] false) && (obB G (n + 2) (.cells X.pt p false) && (obB G (n + 3) (.cells X.rt [.i .i64 (.lit 0)] false) && (obB G (n + 4) (.cells X.st [ch] false) && noB G sid))))))))))) G
def ch1 (X : CH) (Γ : Ctx) (L n sid : Nat) (g p : List HV) (rule ch : HV) : Bool := isSomeB ((codeRT Γ (runM [] Γ L 3) L X.pre { slots := numbered 0 [.agg g, rule, .agg p] .lf, st := .lf, ca := .lf, next := n } (chA X n sid g p rule ch)).run (fun _ => none) (fun _ => none))
def chB (X : CH) (n sid : Nat) (c : List HV) : XE → GS → RT := fun e G => endB (isNm e && (slB G 3 (.p n 0) && (slB G 4 (.p (n + 1) 0) && (slB G 5 (.p (n + 2) 0) && (slB G 6 (.p (n + 3) 0) && (slB G 8 (.p (n + 5) 0) && (obB G (n + 5) (.cells X.el c false) && (noB G n && (noB G (n + 1) && (noB G (n + 2) && noB G sid)))))))))) G
def ch2 (X : CH) (Γ : Ctx) (L n sid : Nat) (c : List HV) : Bool := isSomeB ((codeRT Γ (runM [] Γ L 3) L X.asg { slots := slT [(3, .p n 0), (4, .p (n + 1) 0), (5, .p (n + 2) 0), (6, .p (n + 3) 0), (13, .agg c)], st := .lf, ca := .lf, next := n + 5 } (chB X n sid c)).run (fun _ => none) (fun _ => none))
def chP (X : CH) (n : Nat) (g p c : List HV) (rule : HV) (sid : Nat) (so : Ob) : List (Nat × Ob) := [(n, .ro X.gt g), (n + 1, .ro X.rt [rule]), (n + 2, .ro X.pt p), (n + 5, .ro X.el c), (sid, so)]
def chD (n : Nat) : XE → GS → RT := fun e G => endB (isNm e && (slB G 6 (.p (n + 3) 0) && (slB G 8 (.p (n + 5) 0) && slB G 40 (.b true)))) G
def ch3 (X : CH) (Γ : Ctx) (cq : CallFn) (L n : Nat) (g p c : List HV) (rule : HV) (sid : Nat) (so : Ob) : Bool := isSomeB ((codeRT Γ cq L X.reg { slots := slT [(3, .p n 0), (4, .p (n + 1) 0), (5, .p (n + 2) 0), (6, .p (n + 3) 0), (8, .p (n + 5) 0)], st := .lf, ca := .lf, next := n + 6 } (chD n)).run (fun _ => none) (preL (chP X n g p c rule sid so)))
def chS (X : CH) (Γ : Ctx) (cq : CallFn) (L n : Nat) (K : HV → List Wr → Nat → RT) (g p : List HV) (rule : HV) (sid : Nat) (c : List HV) : Ob → RT
 | .cells el cs _ => bif HV.ltL n c && (HV.ltL n cs && (Nat.blt sid n && (ch2 X Γ L n sid c && ch3 X Γ cq L n g p c rule sid (.ro el cs)))) then (match c with
  | .i .i64 z :: _ => K (.i .i64 z) [] n
  | _ => .fail 621) else .fail 622
 | _ => .fail 623
def chO (X : CH) (Γ : Ctx) (cq : CallFn) (L n : Nat) (K : HV → List Wr → Nat → RT) (g p : List HV) (rule : HV) (off sid : Nat) : Ob → RT
 | .cells el cs _ => bif Nat.beq el X.el && inside cs off X.sz then .obj sid (chS X Γ cq L n K g p rule sid (cutAt cs off X.sz)) else .fail 624
 | _ => .fail 625
def chG (X : CH) (Γ : Ctx) (cq : CallFn) (L n : Nat) (K : HV → List Wr → Nat → RT) (g p : List HV) (rule : HV) : HV → HV → RT
 | .sl id off k c op, .sl sid _ _ _ _ => bif Nat.beq k 1 && (Nat.blt id n && (HV.ltL n g && (HV.ltL n p && ch1 X Γ L n sid g p rule (.sl id off k c op)))) then .obj id (chO X Γ cq L n K g p rule off sid) else .fail 626
 | _, _ => .fail 627
def chR (X : CH) (Γ : Ctx) (cq : CallFn) (L n : Nat) (K : HV → List Wr → Nat → RT) : List HV → RT
 | [.agg g, .i .i64 rule, .agg p] => chG X Γ cq L n K g p (.i .i64 rule) (g.getD 17 .np) (g.getD 16 .np)
 | _ => .fail 628
def memoC (X : CH) (Γ : Ctx) (cq : CallFn) (L : Nat) (cl : CallFn) : CallFn := fun f args n K => bif Nat.beq f X.f then chR X Γ cq L n K args else cl f args n K
def runC (X : CH) (V : List EntV) (MP : List EntP) (Γ : Ctx) (L : Nat) : Nat → CallFn := fun n => Nat.rec (fun _ _ _ _ => .fail 90) (fun _ ih => memoC X Γ (memoV X.V (runM [] Γ L 40)) L (memoV V (memoP MP (stepF Γ L ih)))) n
end
end Go.Proofs.YtehbbcdhahnkgaaGreat.Hm
