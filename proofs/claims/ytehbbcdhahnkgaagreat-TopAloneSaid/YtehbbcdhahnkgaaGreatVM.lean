/- The value machine: data whose lengths are not told, values, objects, and the trees of reads. The value machine: operations. The value machine: code, loops, calls. -/
import Derived.Calls
set_option linter.all false
set_option maxRecDepth 100000
set_option maxHeartbeats 0
namespace Go.Proofs.YtehbbcdhahnkgaaGreat.Vm
open Go
noncomputable section
inductive TL where
 |nil
 |cons (op val:Int) (args rest:TL)
abbrev Tm:=Int×Int×TL
def TL.len:TL->Nat
 | .nil=>0
 | .cons _ _ _ r=>r.len+1
def TL.get:TL->Nat->Tm
 | .nil,_=>(0,0,.nil)
 | .cons o v a _,0=>(o,v,a)
 | .cons _ _ _ r,i+1=>r.get i
def TL.set:TL->Nat->Tm->TL
 | .nil,_,_=>.nil
 | .cons _ _ _ r,0,t=>.cons t.1 t.2.1 t.2.2 r
 | .cons o v a r,i+1,t=>.cons o v a (r.set i t)
def TL.take:Nat->TL->TL
 |0,_=>.nil
 |_+1,.nil=>.nil
 |n+1,.cons o v a r=>.cons o v a (r.take n)
def TL.drop:Nat->TL->TL
 |0,l=>l
 |_+1,.nil=>.nil
 |n+1,.cons _ _ _ r=>r.drop n
def TL.app:TL->TL->TL
 | .nil,m=>m
 | .cons o v a r,m=>.cons o v a (r.app m)
inductive DT where
 |bool|str|unit
 |int (k:IntKind)
 |a01 (t:DT)
 |bH (t:DT)
 |bS|otrees
 |ak (a b:DT)
def nI:IntKind->IntKind->Bool
 | .i8,.i8| .i16,.i16| .i32,.i32| .i64,.i64| .u8,.u8| .u16,.u16| .u32,.u32| .u64,.u64=>true
 |_,_=>false
theorem iX{a b:IntKind}(h:nI a b=true):a=b:=by cases a<;>cases b<;>first|rfl|cases h
@[reducible] def DT.den:DT->Type
  | .bool=>Bool
  | .str=>List UInt8
  | .unit=>Unit
  | .int _=>Int
  | .a01 t=>List t.den
  | .bH t=>List t.den
  | .bS=>TL
  | .otrees=>TL
  | .ak a b=>a.den×b.den
def DT.same:DT->DT->Bool
 | .bool,.bool| .str,.str| .unit,.unit=>true
 | .int k,.int k'=>nI k k'
 | .a01 a,.a01 b| .a01 a,.bH b| .bH a,.a01 b| .bH a,.bH b=>a.same b
 | .bS,.bS| .bS,.otrees| .otrees,.bS| .otrees,.otrees=>true
 | .ak a b,.ak c d=>a.same c&&b.same d
 |_,_=>false
theorem DT.pK:∀{a b:DT},a.same b=true->a.den=b.den:=by
 intro a
 induction a with
 |a01 a ih=>intro b h;cases b<;>simp[DT.same]at h<;>simp only[DT.den]<;>rw[ih h]
 |bH a ih=>intro b h;cases b<;>simp[DT.same]at h<;>simp only[DT.den]<;>rw[ih h]
 |ak a b iha ihb=>intro c h;cases c<;>simp[DT.same]at h;simp only[DT.den];rw[iha h.1,ihb h.2]
 |_=>intro b h;cases b<;>simp[DT.same]at h<;>rfl
def gk(a b:DT)(x:a.den):Option b.den:=if h:a.same b=true then some (cast (DT.pK h) x)else none
def DT.zero:(t:DT)->t.den
 | .bool=>false
 | .str=>([]:List UInt8)
 | .unit=>()
 | .int _=>(0:Int)
 | .a01 t=>([]:List t.den)
 | .bH t=>([]:List t.den)
 | .bS=>TL.nil
 | .otrees=>TL.nil
 | .ak a b=>(a.zero,b.zero)
def DT.size:DT->Nat
 | .unit=>0
 | .ak a b=>a.size+b.size
 |_=>1
def DT.lists:DT->Nat
 | .a01 _| .bH _| .bS| .otrees=>1
 | .ak a b=>a.lists+b.lists
 |_=>0
def DT.isL:DT->Bool
 | .a01 _| .bH _| .bS| .otrees=>true
 |_=>false
def DT.agg:DT->Bool
 | .ak .. | .unit=>true
 |_=>false
def DT.calm:DT->Bool
 | .bH _| .otrees=>false
 | .a01 t=>t.calm
 | .ak a b=>a.calm&&b.calm
 |_=>true
abbrev TT:DT:=.ak (.int .i64) (.ak (.int .i64) .bS)
abbrev Dt:=(t:DT)×t.den
def lenL:(t:DT)->t.den->Nat
 | .a01 _,x| .bH _,x=>x.length
 | .bS,x| .otrees,x=>x.len
 |_,_=>0
def xK:DT->DT
 | .a01 t| .bH t=>t
 | .bS| .otrees=>TT
 |_=>.unit
def AG:(t:DT)->t.den->Nat->(xK t).den
 | .a01 t,x,i| .bH t,x,i=>x.getD i t.zero
 | .bS,x,i| .otrees,x,i=>x.get i
 | .bool,_,_| .str,_,_| .unit,_,_| .int _,_,_| .ak ..,_,_=>()
def vp:(t:DT)->t.den->Nat->(xK t).den->t.den
 | .a01 _,x,i,y| .bH _,x,i,y=>x.set i y
 | .bS,x,i,y| .otrees,x,i,y=>x.set i y
 | .bool,x,_,_| .str,x,_,_| .unit,x,_,_| .int _,x,_,_| .ak ..,x,_,_=>x
def u5(t:DT):Nat:=(xK t).size
def DT.by:DT->Nat
 | .unit=>0
 | .ak a b=>a.by+b.by
 | .bool| .int _=>8
 | .str=>16
 |_=>24
def DT.u8:DT->Bool
 | .int .u8=>true
 |_=>false
def lim:DT->Nat
 | .a01 t| .bH t=>bif t.u8 then 0 else t.by
 | .bS| .otrees=>40
 |_=>0
def a3z:(t:DT)->t.den->Nat->Nat->t.den
 | .a01 _,x,l,h| .bH _,x,l,h=>(x.take h).drop l
 | .bS,x,l,h| .otrees,x,l,h=>(x.take h).drop l
 |_,x,_,_=>x
def TL.rep:Nat->Tm->TL
 |0,_=>.nil
 |n+1,t=>.cons t.1 t.2.1 t.2.2 (TL.rep n t)
def Hj:(t:DT)->Nat->(xK t).den->t.den
 | .a01 _,n,z| .bH _,n,z=>List.replicate n z
 | .bS,n,z| .otrees,n,z=>TL.rep n z
 | .bool,_,_=>false
 | .str,_,_=>([]:List UInt8)
 | .unit,_,_=>()
 | .int _,_,_=>(0:Int)
 | .ak a b,_,_=>(DT.ak a b).zero
def xM:(t:DT)->t.den->t.den->t.den
 | .a01 _,x,y| .bH _,x,y=>x++y
 | .bS,x,y| .otrees,x,y=>x.app y
 |_,x,_=>x
def xN:(t:DT)->List Dt->Option t.den
 | .a01 t,l| .bH t,l=>l.foldr (fun y r=>r.bind fun r=>(gk y.1 t y.2).map fun z=>z::r) (some [])
 | .bS,l| .otrees,l=>l.foldr (fun y r=>r.bind fun r=>(gk y.1 TT y.2).map fun z=>TL.cons z.1 z.2.1 z.2.2 r) (some TL.nil)
 |_,_=>none
def subD:(e:DT)->e.den->Nat->DT->Option Dt
 | .ak a b,x,off,w=>bif Nat.beq off 0&&(DT.ak a b).same w then some ⟨.ak a b,x⟩else bif Nat.blt off a.size then subD a x.1 off w else subD b x.2 (off-a.size) w
 |e,x,off,w=>bif Nat.beq off 0&&e.same w then some ⟨e,x⟩else none
def updD:(e:DT)->e.den->Nat->Dt->Option e.den
 | .ak a b,x,off,y=>bif Nat.beq off 0&&(DT.ak a b).same y.1 then gk y.1 (.ak a b) y.2 else bif Nat.blt off a.size then(updD a x.1 off y).map fun z=>(z,x.2)else(updD b x.2 (off-a.size) y).map fun z=>(x.1,z)
 |e,_,off,y=>bif Nat.beq off 0 then gk y.1 e y.2 else none
def wM(k:IntKind)(a b:Int):Int:=k.wrap (a+b)
def ij(k:IntKind)(a b:Int):Int:=k.wrap (a-b)
def Vi(k:IntKind)(a b:Int):Int:=k.wrap (a*b)
def nM(k:IntKind)(a b:Int):Int:=k.wrap (a.tdiv b)
def vh(k:IntKind)(a b:Int):Int:=a.tmod b
def nA(k:IntKind)(a b:Int):Int:=k.wrap (BitVec.ofInt k.bits a&&& BitVec.ofInt k.bits b).toNat
def EZ(k:IntKind)(a b:Int):Int:=k.wrap (BitVec.ofInt k.bits a|||BitVec.ofInt k.bits b).toNat
def Wn(k:IntKind)(a b:Int):Int:=k.wrap (BitVec.ofInt k.bits a^^^BitVec.ofInt k.bits b).toNat
def ML(k:IntKind)(a b:Int):Int:=k.wrap (BitVec.ofInt k.bits a&&& ~~~ BitVec.ofInt k.bits b).toNat
def pO(k:IntKind)(a b:Int):Int:=k.wrap (a*2^min b.toNat k.bits)
def yg(k:IntKind)(a b:Int):Int:=a.fdiv (2^min b.toNat k.bits)
def aH(a b:Int):Bool:=decide (a=b)
def aF(a b:Int):Bool:=decide (a<b)
def Jk(a b:List UInt8):Bool:=decide (a=b)
inductive HV where
 |b (x:Bool)
 |i (k:IntKind) (x:Int)
 |s (x:List UInt8)
 |np
 |p (id off:Nat)
 |ns
 |sl (id off len cap:Nat)
 |lv (t:DT) (x:t.den) (j:Nat)
 |li (id:Nat)
 |rs (id lo hi sz j:Nat)
 |ep (id i k sz off:Nat)
 |fn (f:Nat) (fs cs:List HV)
 |nf
 |nm
 |mp (id:Nat)
 |agg (l:List HV)
 |Ar (l:List HV)
def bt{α:Type 1}(c:Bool)(t e:α):α:=@Bool.rec (fun _=>α) e t c
def b0{α:Type}(c:Bool)(t e:α):α:=@Bool.rec (fun _=>α) e t c
inductive Tr (α:Type) where
 |lf
 |nd (l:Tr α) (v:Option α) (r:Tr α)
section
variable {α:Type}
def Tr.get:Tr α->Nat->Option α:=@Tr.rec α (fun _=>Nat->Option α) (fun _=>none) fun _ v _ gl gr n=>b0 (Nat.beq n 0) v (b0 (Nat.beq (Nat.mod n 2) 1) (gl (Nat.div n 2)) (gr (Nat.pred (Nat.div n 2))))
def Tr.sing(v:Option α):Nat->Nat->Tr α
 |0,_=>.nd .lf v .lf
 |f+1,n=>bif Nat.beq n 0 then .nd .lf v .lf else bif Nat.beq (n%2) 1 then .nd (Tr.sing v f (n/2)) none .lf else .nd .lf none (Tr.sing v f (n/2-1))
def Tr.set(u:Option α):Tr α->Nat->Tr α:=@Tr.rec α (fun _=>Nat->Tr α) (fun n=>Tr.sing u n n) fun l v r sl sr n=>b0 (Nat.beq n 0) (.nd l u r) (b0 (Nat.beq (Nat.mod n 2) 1) (.nd (sl (Nat.div n 2)) v r) (.nd l v (sr (Nat.pred (Nat.div n 2)))))
def Tr.toL:Tr α->Nat->Nat->List (Nat×α)->List (Nat×α)
 | .lf,_,_,acc=>acc
 | .nd l v r,a,m,acc=>l.toL (a+m) (2*m) (match v with
   |some x=>(a,x)::r.toL (a+2*m) (2*m) acc
   |none=>r.toL (a+2*m) (2*m) acc)
end
inductive Ob where
 |cells (el:Nat) (cs:List HV)
 |map (ents:List (HV×HV))
 |fr (t:DT) (x:t.den)
 |row (t:DT) (x:t.den)
 |Jn (t:DT) (x:t.den) (i k:Nat) (e:(xK t).den)
def Ob.own:Ob->Option Dt
 | .row t x=>some ⟨t,x⟩
 | .Jn t x i _ e=>some ⟨t,vp t x i e⟩
 |_=>none
def Ob.rd:Ob->Option (List HV)
 | .cells _ cs=>some cs
 |_=>none
inductive Wr where
 |jQ (n:Nat) (v:Option HV)
 |ej (id:Nat) (o:Option Ob)
inductive RT (α:Type):Type 1 where
 |fail (why:Nat)
 |get (n:Nat) (k:HV->RT α)
 |ej (id:Nat) (k:Ob->RT α)
 |br (c:Bool) (x y:RT α)
 |split (n:Nat) (x y:RT α)
 |bind {β:Type} (o:Option β) (k:β->RT α)
 |sum {β γ:Type} (o:β⊕γ) (k:β->RT α) (k':γ->RT α)
 |dH (a:α)
abbrev Ws:=List Wr×Nat
abbrev ST:=RT Ws
section
variable {α:Type}
def RT.run:RT α->(Nat->Option HV)->(Nat->Option Ob)->Option α
 | .fail _,_,_=>none
 | .get n k,S,H=>match S n with
   |some g=>(k g).run S H
   |none=>none
 | .ej id k,S,H=>match H id with
   |some o=>(k o).run S H
   |none=>none
 | .br c x y,S,H=>bif c then x.run S H else y.run S H
 | .split n x y,S,H=>match S n with
   |some (.b c)=>bif c then x.run S H else y.run S H
   |_=>none
 | .bind o k,S,H=>o.bind fun a=>(k a).run S H
 | .sum o k k',S,H=>match o with
   | .inl a=>(k a).run S H
   | .inr a=>(k' a).run S H
 | .dH a,_,_=>some a
def RT.out:RT α->Option α:=@RT.rec α (fun _=>Option α) (fun _=>none) (fun _ _ _=>none) (fun _ _ _=>none)
 (fun c _ _ x y=>b0 c x y) (fun _ _ _ _ _=>none) (fun o _ ih=>@Option.rec _ (fun _=>Option α) none ih o) (fun o _ _ ih ih'=>@Sum.rec _ _ (fun _=>Option α) ih ih' o) (fun a=>some a)
end
structure GS where
 bk:Tr HV
 st:Tr (Option Ob)
 ca:Tr Ob
 next:Nat
def GS.put(G:GS):Wr->GS
 | .jQ n v=>{G with bk:=G.bk.set v n}
 | .ej id o=>{G with st:=G.st.set (some o) id}
def GS.app(G:GS)(ws:List Wr):GS:=@List.rec Wr (fun _=>GS->GS) (fun G=>G) (fun x _ ih G=>ih (GS.put G x)) ws G
def Wr.at:Wr->Bool×Nat
 | .jQ n _=>(false,n)
 | .ej id _=>(true,id)
abbrev lA:=Bool×Nat
def Kz{α:Type 1}(n:Nat)(k:Nat->α):α:=Nat.casesOn n (k 0) fun m=>k (Nat.succ m)
def GS.find(G:GS)(id:Nat):Option (Option Ob):=@Option.rec (Option Ob) (fun _=>Option (Option Ob)) (@Option.rec Ob (fun _=>Option (Option Ob)) none (fun o=>some (some o)) (G.ca.get id)) some (G.st.get id)
def GS.ff(G:GS)(id:Nat)(o:Ob):GS:={G with ca:=G.ca.set (some o) id}
def GS.refine(G:GS)(n:Nat)(b:Bool):GS:={G with bk:=G.bk.set (some (.b b)) n}
section
variable {α:Type}
def CW(c:HV)(x y:RT α)(why:Nat):RT α:=match c with
 | .b c=>.br c x y
 |_=>.fail why
def RT.jm{β:Type}:RT β->List lA->GS->(β->List lA->GS->RT α)->RT α:=@RT.rec β (fun _=>List lA->GS->(β->List lA->GS->RT α)->RT α) (fun y _ _ _=>.fail y)
 (fun n _ ih l G K=>@Option.rec HV (fun _=>RT α) (.fail 104) (fun g=>ih g ((false,n)::l) G K) (G.bk.get n))
 (fun id _ ih l G K=>@Option.rec (Option Ob) (fun _=>RT α) (.ej id fun o=>ih o ((true,id)::l) (G.ff id o) K) (fun o=>@Option.rec Ob (fun _=>RT α) (.fail 105) (fun o=>ih o ((true,id)::l) G K) o) (G.find id))
 (fun c _ _ x y l G K=>.br c (x l G K) (y l G K))
 (fun n _ _ x y l G K=>@Option.rec HV (fun _=>RT α) (.fail 107) (fun c=>CW c (x ((false,n)::l) (G.refine n true) K) (y ((false,n)::l) (G.refine n false) K) 108) (G.bk.get n))
 (fun o _ ih l G K=>.bind o fun a=>ih a l G K)
 (fun o _ _ ih ih' l G K=>.sum o (fun a=>ih a l G K) (fun a=>ih' a l G K))
 (fun a l G K=>K a l G)
def wX(a:Ws)(G:GS)(K:GS->RT α):RT α:=Kz a.2 fun nx=>bt (Nat.ble G.next nx) (K {G.app a.1 with next:=nx}) (.fail 103)
def RT.Bk(rt:ST)(G:GS)(K:GS->RT α):RT α:=rt.jm [] G fun a _ G=>wX a G K
def RT.Nn(rt:ST)(G:GS)(K:GS->List lA->List lA->RT α):RT α:=rt.jm [] G fun a l G=>wX a G fun G=>K G l (a.1.map Wr.at)
def yn(b:Bool)(why:Nat)(x:RT α):RT α:=.br b x (.fail why)
def er{β:Type}(why:Nat)(o:Option β)(k:β->RT α):RT α:=@Option.rec β (fun _=>RT α) (.fail why) k o
end
def HV.cells:HV->List HV
 | .agg l=>l
 | .Ar _=>[]
 |v=>[v]
def exC:(t:DT)->t.den->Nat->List HV
 | .bool,x,_=>[.b x]
 | .str,x,_=>[.s x]
 | .unit,_,_=>[]
 | .int k,x,_=>[.i k x]
 | .a01 t,x,n=>[.lv (.a01 t) x n]
 | .bH _,_,n| .otrees,_,n=>[.li n]
 | .bS,x,n=>[.lv .bS x n]
 | .ak a b,x,n=>exC a x.1 n++exC b x.2 (n+a.lists)
def exW:(t:DT)->t.den->Nat->List Wr
 | .bH t,x,n=>[.ej n (some (.row (.bH t) x))]
 | .otrees,x,n=>[.ej n (some (.row .otrees x))]
 | .ak a b,x,n=>exW a x.1 n++exW b x.2 (n+a.lists)
 |_,_,_=>[]
def Bj:(t:DT)->t.den->Nat->HV
 | .bool,x,_=>.b x
 | .str,x,_=>.s x
 | .unit,_,_=>.agg []
 | .int k,x,_=>.i k x
 | .a01 t,x,n=>.lv (.a01 t) x n
 | .bH _,_,n| .otrees,_,n=>.li n
 | .bS,x,n=>.lv .bS x n
 | .ak a b,x,n=>.agg (exC (.ak a b) x n)
def tupT:List DT->DT
 |[]=>.unit
 |[t]=>t
 |t::u::l=>.ak t (tupT (u::l))
def O1:(l:List DT)->(tupT l).den->Nat->List HV
 |[],_,_=>[]
 |[t],x,n=>[Bj t x n]
 |t::u::l,x,n=>Bj t x.1 n::O1 (u::l) x.2 (n+t.lists)
def xJ(l:List HV)(o n:Nat):List HV:=(l.drop o).take n
def lU(l:List HV)(o n:Nat):Bool:=Nat.ble (o+n) l.length
def isFr:Wr->Bool
 | .ej _ (some (.fr ..))=>true
 |_=>false
def Wr.aG:Wr->Nat
 | .jQ n _=>n
 | .ej n _=>n
def jD(ws ws':List Wr):Bool:=ws.all fun a=>ws'.all fun b=> !(Nat.beq a.aG b.aG)||(isFr a&&isFr b)
section
variable {α:Type}
def Bm(ws ws':List Wr)(k:List Wr->RT α):RT α:=bif jD ws ws' then k (ws++ws')else .fail 330
def rdN(rd:List HV->(Dt->List Wr->RT α)->RT α)(sz:Nat)(cs:List HV):Nat->Nat->(List Dt->List Wr->RT α)->RT α
 |0,_,k=>k [] []
 |n+1,o,k=>bif lU cs o sz then rd (xJ cs o sz) fun x ws=>rdN rd sz cs n (o+sz) fun l ws'=>Bm ws ws' fun ws=>k (x::l) ws else .fail 301
def rdF(ln:Bool)(t:DT)(v:HV)(k:t.den->List Wr->RT α):RT α:=match v with
 | .ns=>er 302 (xN t []) fun x=>k x []
 | .lv u x _=>er 304 (gk u t x) fun x=>k x []
 | .li id=>.ej id fun o=>match o with
   | .fr u x=>er 304 (gk u t x) fun x=>k x []
   |o=>er 306 o.own fun d=>er 305 (gk d.1 t d.2) fun y=>k y (bif ln then []else [.ej id (some (.fr d.1 d.2))])
 | .rs id lo hi sz _=>bif !(Nat.beq sz (u5 t))then .fail 307 else .ej id fun o=>match o with
   | .fr u x=>er 304 (gk u t x) fun x=>k (a3z t x lo hi) []
   |o=>er 306 o.own fun d=>er 305 (gk d.1 t d.2) fun y=>k (a3z t y lo hi) (bif ln then []else [.ej id (some (.fr d.1 d.2))])
 |_=>.fail 311
def rdO(t:DT)(v:HV)(k:t.den->List Wr->RT α):RT α:=match v with
 | .ns=>er 302 (xN t []) fun x=>k x []
 | .li id=>.ej id fun o=>er 303 o.own fun d=>er 305 (gk d.1 t d.2) fun y=>k y [.ej id none]
 | .rs id lo hi sz _=>bif !(Nat.beq sz (u5 t))then .fail 307 else .ej id fun o=>er 303 o.own fun d=>er 305 (gk d.1 t d.2) fun y=>k (a3z t y lo hi) [.ej id none]
 |_=>.fail 310
def rdD(ln:Bool):(t:DT)->List HV->(t.den->List Wr->RT α)->RT α
 | .bool,cs,k=>match cs with
   |[.b x]=>k x []
   |_=>.fail 312
 | .str,cs,k=>match cs with
   |[.s x]=>k x []
   |_=>.fail 313
 | .unit,cs,k=>match cs with
   |[]=>k () []
   |_=>.fail 314
 | .int kd,cs,k=>match cs with
   |[.i kd' x]=>bif nI kd kd' then k x []else .fail 315
   |_=>.fail 315
 | .a01 t,cs,k=>match cs with
   |[v]=>rdF ln (.a01 t) v k
   |_=>.fail 316
 | .bH t,cs,k=>match cs with
   |[v]=>bif ln then .fail 317 else rdO (.bH t) v k
   |_=>.fail 317
 | .bS,cs,k=>match cs with
   |[v]=>rdF ln .bS v k
   |_=>.fail 319
 | .otrees,cs,k=>match cs with
   |[v]=>bif ln then .fail 320 else rdO .otrees v k
   |_=>.fail 320
 | .ak a b,cs,k=>rdD ln a (cs.take a.size) fun x ws=>rdD ln b (cs.drop a.size) fun y ws'=>Bm ws ws' fun ws=>k (x,y) ws
def CU(t:DT):HV->Bool
 | .agg _=>t.agg
 | .Ar _=>false
 |_=> !t.agg
def W7(ln:Bool)(t:DT)(v:HV)(k:t.den->List Wr->RT α):RT α:=bif CU t v then rdD ln t v.cells k else .fail 331
def rdT(ln:Bool):(l:List DT)->List HV->((tupT l).den->List Wr->RT α)->RT α
 |[],vs,k=>match vs with
  |[]=>k () []
  |_=>.fail 321
 |[t],vs,k=>match vs with
  |[v]=>W7 ln t v k
  |_=>.fail 322
 |t::u::l,vs,k=>match vs with
  |v::vs=>W7 ln t v fun x ws=>rdT ln (u::l) vs fun y ws'=>Bm ws ws' fun ws=>k (x,y) ws
  |[]=>.fail 323
end
inductive Ty where
 |bool
 |int (k:IntKind)
 |str|sl|ptr|fn|mp|unit
 |arr (n:Nat) (t:Ty)
 |ak (a b:Ty)
def Ty.size:Ty->Nat
 | .unit=>0
 | .arr n t=>n*t.size
 | .ak a b=>a.size+b.size
 |_=>1
def Ty.isAgg:Ty->Bool
 | .unit| .arr .. | .ak .. =>true
 |_=>false
def rep{α:Type}:Nat->List α->List α
 |0,_=>[]
 |n+1,l=>l++rep n l
def Ty.zero:Ty->List HV
 | .bool=>[.b false]
 | .int k=>[.i k 0]
 | .str=>[.s []]
 | .sl=>[.ns]
 | .ptr=>[.np]
 | .fn=>[.nf]
 | .mp=>[.nm]
 | .unit=>[]
 | .arr n t=>rep n t.zero
 | .ak a b=>a.zero++b.zero
def fldTy:Ty->Nat->Option Ty
 | .ak a _,0=>some a
 | .ak _ b,k+1=>fldTy b k
 |_,_=>none
def jf:Ty->Nat->Nat
 | .ak _ _,0=>0
 | .ak a b,k+1=>a.size+jf b k
 |_,_=>0
structure TI where
 ty:Ty
 bytes:Nat
 el:Nat
 cmp:Bool
 dt:Option DT
def zG:Ty->Bool
 | .str=>true
 |_=>false
def vV:Ty->Bool
 | .sl=>true
 |_=>false
def HV.one:HV->Bool
 | .agg _| .Ar _=>false
 |_=>true
def valOf(t:Ty)(cs:List HV):Option HV:=bif t.isAgg then some (.agg cs)else match cs with
 |[v]=>some v
 |_=>none
def putAt:List HV->Nat->List HV->List HV
 |l,0,new=>new++l.drop new.length
 |[],_+1,_=>[]
 |x::l,o+1,new=>x::putAt l o new
def binI(k k':IntKind)(op:BinOp)(a b:Int):Option (Bool×HV):=match op with
 | .shl=>some (!(aF b 0),.i k (pO k a b))
 | .shr=>some (!(aF b 0),.i k (yg k a b))
 |op=>bif nI k k' then(match op with
  | .add=>some (true,.i k (wM k a b))
  | .sub=>some (true,.i k (ij k a b))
  | .mul=>some (true,.i k (Vi k a b))
  | .quo=>some (!(aH b 0),.i k (nM k a b))
  | .rem=>some (!(aH b 0),.i k (vh k a b))
  | .and=>some (true,.i k (nA k a b))
  | .or=>some (true,.i k (EZ k a b))
  | .xor=>some (true,.i k (Wn k a b))
  | .andNot=>some (true,.i k (ML k a b))
  | .eql=>some (true,.b (aH a b))
  | .neq=>some (true,.b (!(aH a b)))
  | .lss=>some (true,.b (aF a b))
  | .leq=>some (true,.b (!(aF b a)))
  | .gtr=>some (true,.b (aF b a))
  | .geq=>some (true,.b (!(aF a b)))
  |_=>none)else none
def fitsN(f:List HV->Bool)(sz:Nat):Nat->List HV->Bool
 |0,_=>true
 |n+1,cs=>f (cs.take sz)&&fitsN f sz n (cs.drop sz)
def fitsT:Ty->List HV->Bool
 | .bool,[.b _]=>true
 | .int k,[.i k' _]=>nI k k'
 | .unit,[]=>true
 | .arr n t,cs=>Nat.beq cs.length (n*t.size)&&fitsN (fitsT t) t.size n cs
 | .ak a b,cs=>fitsT a (cs.take a.size)&&fitsT b (cs.drop a.size)
 |_,_=>false
def UO(a b:Bool):Bool:=a==b
def cellEq:HV->HV->Option Bool
 | .b x,.b y=>some (UO x y)
 | .i k x,.i k' y=>bif nI k k' then some (aH x y)else none
 | .s x,.s y=>some (Jk x y)
 |_,_=>none
def cellsEq:List HV->List HV->Option Bool
 |[],[]=>some true
 |x::l,y::m=>match cellEq x y,cellsEq l m with
  |some a,some b=>some (a&&b)
  |_,_=>none
 |_,_=>none
def eqOp(op:BinOp)(e:Option Bool):Option (Bool×HV):=match op,e with
 | .eql,some b=>some (true,.b b)
 | .neq,some b=>some (true,.b (!b))
 |_,_=>none
def nilEq:Ty->HV->HV->Option Bool
 | .ptr,.np,.np| .fn,.nf,.nf| .sl,.ns,.ns=>some true
 | .ptr,.np,.p .. | .ptr,.p ..,.np| .fn,.nf,.fn .. | .fn,.fn ..,.nf| .sl,.ns,.sl .. | .sl,.sl ..,.ns=>some false
 |_,_,_=>none
def Hs:Ty->Bool
 | .bool=>true
 |_=>false
def binT(T:TI)(op:BinOp)(x y:HV):Option (Bool×HV):=match x,y with
 | .b a,.b b=>bif Hs T.ty then eqOp op (some (UO a b))else none
 | .agg a,.agg b=>bif T.cmp&&T.ty.isAgg&&fitsT T.ty a&&fitsT T.ty b then eqOp op (cellsEq a b)else none
 |x,y=>eqOp op (nilEq T.ty x y)
def binH(T:Option TI)(op:BinOp)(x y:HV):Option (Bool×HV):=match x,y with
 | .i k a,.i k' b=>binI k k' op a b
 | .s a,.s b=>eqOp op (some (Jk a b))
 |x,y=>match T with
  |some T=>binT T op x y
  |none=>none
def a0y(k:IntKind)(a:Int):Int:=k.wrap (0-a)
def Fh(k:IntKind)(a:Int):Int:=Wn k (bif k.signed then-1 else k.max) a
def unH(op:UnOp)(x:HV):Option HV:=
 match op,x with
 | .not,.b b=>some (.b (!b))
 | .neg,.i k a=>some (.i k (a0y k a))
 | .xor,.i k a=>some (.i k (Fh k a))
 |_,_=>none
def aY(k:IntKind)(a:Int):Int:=k.wrap a
structure D7 where
 ntmps:Nat
 results:List ResultVar
 body:Code
structure cN where
 a:List DT
 r:List DT
 f:(tupT a).den->Option (tupT r).den
structure JB where
 kind:Nat
 t:DT
 fn:Nat:=0
 f:TL->Option TL:=fun _=>none
structure uG where
 el:Nat
 a:List DT
 r:List DT
 f:List Int->Int->(tupT a).den->Option (Int×(tupT r).den)
structure Ctx where
 sj:Tr TI
 OY:Tr D7
 con:Tr cN
 Vj:Tr JB
 WG:Tr uG
def constC:Value->Option HV
 | .bool b=>some (.b b)
 | .int k n=>bif decide (k.min<=n)&&decide (n<=k.max)then some (.i k n)else none
 | .string s=>bif Nat.ble s.data.toList.length 9223372036854775807 then some (.s s.data.toList)else none
 | .slice none 0 0=>some .ns
 | .pointer none=>some .np
 | .nilFunc=>some .nf
 | .map none=>some .nm
 |_=>none
def constCs:List Value->Option (List HV)
 |[]=>some []
 |v::l=>match constC v,constCs l with
  |some x,some y=>some (x::y)
  |_,_=>none
def constH:Value->Option HV
 | .agg cs=>match constCs cs.toList with
   |some l=>some (.agg l)
   |none=>none
 |v=>constC v
abbrev a2D:=Nat->List HV->Nat->(HV->List Wr->Nat->ST)->ST
def cT:DT->DT
 | .a01 t=>.bH t
 | .bS=>.otrees
 |t=>t
section
variable (Γ:Ctx)
def dN(x:Operand)(k:HV->ST):ST:=@Operand.rec (fun _=>ST) (fun n=>.get n k) (fun v=>er 201 (constH v) k) (fun _=>.fail 202) (fun f=>k (.fn f [] [])) x
def opdsR:List Operand->(List HV->ST)->ST
 |[],k=>k []
 |x::l,k=>dN x fun v=>opdsR l fun vs=>k (v::vs)
def oR(i:Nat)(k:TI->ST):ST:=er 203 (Γ.sj.get i) k
def Fq(ti:TI)(t:DT)(k:TI->ST):ST:=oR Γ ti.el fun te=>bif vV ti.ty&&(t.isL&&Nat.beq te.ty.size (u5 t))then k te else .fail 291
def Kg(ti:TI)(t:DT):Bool:=Nat.beq t.size ti.ty.size&&(bif ti.ty.isAgg then t.agg else !t.agg)
def dtR(i:Nat)(k:TI->DT->ST):ST:=er 203 (Γ.sj.get i) fun ti=>er 257 ti.dt fun t=>k ti t
def eu(o:Oper)(v:HV)(ws:List Wr)(nx:Nat):ST:=@Option.rec Tmp (fun _=>ST) (.dH (ws,nx)) (fun d=>.dH (.jQ d (some v)::ws,nx)) o.dst
def skipR(o:Oper)(ws:List Wr)(nx:Nat):ST:=match o.dst with
 |some d=>.dH (.jQ d none::ws,nx)
 |none=>.dH (ws,nx)
def UN(o:Oper)(d:Dt)(ws:List Wr)(fresh:Nat):ST:=bif !d.1.calm then .fail 298 else eu o (Bj d.1 d.2 fresh) (exW d.1 d.2 fresh++ws) (fresh+d.1.lists)
def M1(o:Oper)(t:DT)(x:t.den)(ws:List Wr)(fresh:Nat):ST:=eu o (.li fresh) (ws++[.ej fresh (some (.row t x))]) (fresh+1)
def partsR:List (Nat×Operand)->(List (Nat×HV)->ST)->ST
 |[],k=>k []
 |p::l,k=>dN p.2 fun v=>partsR l fun vs=>k ((p.1,v)::vs)
def fillStruct(t:Ty):List (Nat×HV)->List HV->Option (List HV)
 |[],cs=>some cs
 |(i,v)::l,cs=>match fldTy t i with
  |some u=>bif Nat.beq v.cells.length u.size then fillStruct t l (putAt cs (jf t i) v.cells)else none
  |none=>none
def rG(n sz:Nat):List (Nat×HV)->List HV->Option (List HV)
 |[],cs=>some cs
 |(i,v)::l,cs=>bif Nat.blt i n&&Nat.beq v.cells.length sz then rG n sz l (putAt cs (i*sz) v.cells)else none
def pickN(x:Int)(k:Nat->ST):Nat->Nat->ST
 |0,_=>.fail 205
 |n+1,i=>.br (aH x (i:Int)) (k i) (pickN x k n (i+1))
def intR(v:HV)(k:Int->ST):ST:=match v with
 | .i _ x=>k x
 |_=>.fail 206
def a3X(v:HV)(k:Nat->ST):ST:=match v with
 | .i _ x=>yn (!(aF x 0)) 207 (k x.toNat)
 |_=>.fail 207
def tI:Option Operand->(Option HV->ST)->ST
 |none,k=>k none
 |some x,k=>dN x fun v=>k (some v)
def room(n:Nat)(bytes:Nat):Bool:=decide (n*bytes<=140737488355328)
def listR(t:DT)(v:HV)(k:t.den->ST):ST:=match v with
 | .ns=>er 208 (xN t []) k
 | .lv u x _=>er 209 (gk u t x) k
 | .li id=>.ej id fun o=>match o with
   | .fr u x=>er 209 (gk u t x) k
   |o=>er 210 o.own fun d=>er 209 (gk d.1 t d.2) k
 | .rs id lo hi sz _=>bif !(Nat.beq sz (u5 t))then .fail 290 else .ej id fun o=>match o with
   | .fr u x=>er 209 (gk u t x) fun x=>k (a3z t x lo hi)
   |o=>er 210 o.own fun d=>er 209 (gk d.1 t d.2) fun x=>k (a3z t x lo hi)
 |_=>.fail 211
def ownR(t:DT)(v:HV)(k:t.den->List Wr->ST):ST:=match v with
 | .ns=>er 208 (xN t []) fun x=>k x []
 | .li id=>.ej id fun o=>er 212 o.own fun d=>er 209 (gk d.1 t d.2) fun x=>k x [.ej id none]
 | .rs id lo hi sz _=>bif !(Nat.beq sz (u5 t))then .fail 290 else .ej id fun o=>er 212 o.own fun d=>er 209 (gk d.1 t d.2) fun x=>k (a3z t x lo hi) [.ej id none]
 |_=>.fail 213
def a4s(fresh:Nat)(o:Oper)(tx ty:Nat)(v u:HV):ST:=dtR Γ tx fun ti t=>Fq Γ ti (cT t) fun te=>bif Nat.beq tx ty then
    ownR (cT t) v fun x ws=>listR (cT t) u fun y=>yn (room (lenL (cT t) (xM (cT t) x y)) (Nat.max te.bytes (lim (cT t)))) 214 (M1 o (cT t) (xM (cT t) x y) ws fresh)
 else .fail 215
def evLen(fresh:Nat)(o:Oper)(ti:TI)(v:HV):ST:=match v with
 | .ns=>bif vV ti.ty then eu o (.i .i64 0) [] fresh else .fail 216
 | .sl _ _ n _=>bif vV ti.ty&&Nat.ble n 9223372036854775807 then eu o (.i .i64 (n:Int)) [] fresh else .fail 216
 | .rs _ lo hi _ _=>bif vV ti.ty then eu o (.i .i64 ((hi-lo:Nat):Int)) [] fresh else .fail 216
 | .li _| .lv .. =>bif vV ti.ty then er 217 ti.dt fun t=>bif t.isL then(listR t v fun x=>eu o (.i .i64 (lenL t x:Int)) [] fresh)else .fail 217 else .fail 216
 | .s bs=>bif zG ti.ty then eu o (.i .i64 (bs.length:Int)) [] fresh else .fail 218
 | .agg _=>match ti.ty with
   | .arr n _=>bif Nat.ble n 9223372036854775807 then eu o (.i .i64 (n:Int)) [] fresh else .fail 219
   |_=>.fail 219
 |_=>.fail 220
def Eg(a b:Int):Int:=bif aF b a then b else a
def eN(a b:Int):Int:=bif aF a b then b else a
def evMinMax(fresh:Nat)(o:Oper)(f:Int->Int->Int)(v u:HV):ST:=match v,u with
 | .i k a,.i k' b=>bif nI k k' then eu o (.i k (f a b)) [] fresh else .fail 221
 |_,_=>.fail 222
def uI(d:Nat)(v:Option HV)(k:Nat->ST):ST:=match v with
 |none=>k d
 |some v=>a3X v k
def evSlice(fresh:Nat)(o:Oper)(ti:TI)(v:HV)(lo hi mx:Option HV):ST:=match mx with
 |some _=>.fail 224
 |none=>match v with
  | .s bs=>uI 0 lo fun l=>uI bs.length hi fun h=>yn (zG ti.ty&&Nat.ble l h&&Nat.ble h bs.length) 230 (eu o (.s ((bs.take h).drop l)) [] fresh)
  | .ns=>uI 0 lo fun l=>uI 0 hi fun h=>yn (vV ti.ty&&Nat.ble l h&&Nat.ble h 0) 233 (oR Γ ti.el fun _=>eu o .ns [] fresh)
  | .lv t x _=>Fq Γ ti t fun _=>uI 0 lo fun l=>uI (lenL t x) hi fun h=>yn (Nat.ble l h&&Nat.ble h (lenL t x)) 233 (eu o (.lv t (a3z t x l h) fresh) [] (fresh+1))
  | .rs id l0 h0 sz _=>oR Γ ti.el fun te=>bif vV ti.ty&&Nat.beq te.ty.size sz then uI 0 lo fun l=>uI (h0-l0) hi fun h=>yn (Nat.ble l h&&Nat.ble h (h0-l0)) 233 (eu o (.rs id (l0+l) (l0+h) sz fresh) [] (fresh+1))else .fail 292
  | .li id=>.ej id fun ob=>match ob with
    | .fr t x=>Fq Γ ti t fun _=>uI 0 lo fun l=>uI (lenL t x) hi fun h=>yn (Nat.ble l h&&Nat.ble h (lenL t x)) 233 (eu o (.lv t (a3z t x l h) fresh) [] (fresh+1))
    |ob=>er 231 ob.own fun d=>Fq Γ ti d.1 fun _=>uI 0 lo fun l=>uI (lenL d.1 d.2) hi fun h=>yn (Nat.ble l h&&Nat.ble h (lenL d.1 d.2)) 233 (eu o (.rs id l h (u5 d.1) fresh) [] (fresh+1))
  |_=>.fail 234
def ua(t:DT)(x:t.den)(lo hi:Nat)(z:(xK t).den):t.den:=xM t (xM t (a3z t x 0 lo) (Hj t (hi-lo) z)) (a3z t x hi (lenL t x))
def evClear(fresh:Nat)(o:Oper)(ti:TI):HV->ST
 | .ns=>eu o (.Ar []) [] fresh
 | .rs id lo hi sz _=>.ej id fun ob=>er 228 ob.own fun d=>Fq Γ ti d.1 fun te=>bif Nat.beq sz te.ty.size then rdD true (xK d.1) te.ty.zero fun z _=>eu o (.Ar []) [.ej id (some (.row d.1 (ua d.1 d.2 lo hi z)))] fresh else .fail 229
 |_=>.fail 230
def builtinR(fresh:Nat)(o:Oper)(b:Builtin)(args:List Operand)(types:List TypeId):ST:=match b,args,types with
 | .clear,[x],[t]=>oR Γ t fun ti=>dN x (evClear Γ fresh o ti)
 | .len,[x],[t]=>oR Γ t fun ti=>dN x (evLen fresh o ti)
 | .min,[x,y],_=>dN x fun v=>dN y (evMinMax fresh o Eg v)
 | .max,[x,y],_=>dN x fun v=>dN y (evMinMax fresh o eN v)
 | .append,[x,y],[tx,ty]=>dN x fun v=>dN y (a4s Γ fresh o tx ty v)
 |_,_,_=>.fail 223
def evPick(fresh:Nat)(o:Oper)(x y:Operand):HV->ST
 | .b t=>.br t (dN x fun v=>eu o v [] fresh) (dN y fun v=>eu o v [] fresh)
 |_=>.fail 1
def Kq(fresh:Nat)(o:Oper)(e:Nat)(ti:TI)(v:HV):ST:=
 bif Nat.beq v.cells.length ti.ty.size then eu o (.p fresh 0) [.ej fresh (some (.cells e v.cells))] (fresh+1)else .fail 2
def evBuild(fresh:Nat)(o:Oper)(vs:List (Nat×HV)):Ty->ST
 | .arr n u=>er 3 (rG n u.size vs (rep n u.zero)) fun cs=>eu o (.agg cs) [] fresh
 | .ak a b=>er 4 (fillStruct (.ak a b) vs (Ty.ak a b).zero) fun cs=>eu o (.agg cs) [] fresh
 |_=>.fail 247
def evBuildSlice(fresh:Nat)(o:Oper)(ti:TI)(te:TI)(n:Nat)(cs:List HV):ST:=match ti.dt with
 |some t=>Fq Γ ti (cT t) fun _=>(match te.dt with
  |some e=>bif !e.calm then .fail 297 else rdN (fun cs k=>rdD false e cs fun x ws=>k ⟨e,x⟩ ws) te.ty.size cs n 0 fun l ws=>er 235 (xN (cT t) l) fun x=>yn (room n (lim (cT t))) 236 (M1 o (cT t) x ws fresh)
  |none=>.fail 236)
 |none=>eu o (.sl fresh 0 n n) [.ej fresh (some (.cells ti.el cs))] (fresh+1)
def V6:HV->Bool
 | .i _ _=>true
 |_=>false
def KJ:Ty->Bool
 | .mp=>true
 |_=>false
def newKey(k:HV):List (HV×HV)->Option Bool
 |[]=>some true
 |(k',_)::l=>match cellEq k k',newKey k l with
  |some b,some c=>some (!b&&c)
  |_,_=>none
def findKey(k:HV)(none_:ST)(f:HV->ST):List (HV×HV)->ST
 |[]=>none_
 |(k',v)::l=>er 10 (cellEq k k') fun b=>.br b (f v) (findKey k none_ f l)
def evInsert(fresh:Nat)(o:Oper)(ti:TI)(k v:HV):HV->ST
 | .mp id=>bif !(V6 k&&KJ ti.ty)then .fail 260 else .ej id fun ob=>match ob with
   | .map ents=>er 6 (newKey k ents) fun b=>yn b 6 (skipR o [.ej id (some (.map (ents++[(k,v)])))] fresh)
   |_=>.fail 7
 |_=>.fail 8
def zq(fresh:Nat)(o:Oper)(ti:TI)(u:HV)(ok:Bool):HV->ST
 | .mp id=>bif !(V6 u&&KJ ti.ty)then .fail 261 else .ej id fun ob=>match ob with
   | .map ents=>findKey u (oR Γ ti.el fun te=>er 9 (valOf te.ty te.ty.zero) fun r=>eu o (bif ok then .Ar [r,.b false]else r) [] fresh)
    (fun r=>eu o (bif ok then .Ar [r,.b true]else r) [] fresh) ents
   |_=>.fail 11
 |_=>.fail 12
def Hi(fresh:Nat)(o:Oper)(t:Ty)(off:Nat)(ob:Ob):ST:=
 er 15 ob.rd fun cs=>bif lU cs off t.size then er 13 (valOf t (xJ cs off t.size)) fun r=>eu o r [] fresh else .fail 14
def wV(fresh:Nat)(o:Oper)(ti:TI)(sz off:Nat)(u:DT)(e:(xK u).den):ST:=
 er 262 ti.dt fun t=>bif Nat.beq sz (u5 u)&&Kg ti t then er 263 (subD (xK u) e off t) fun d=>UN o d [] fresh else .fail 293
def evLoadE(fresh:Nat)(o:Oper)(ti:TI)(i k sz off:Nat):Ob->ST
 | .fr u x| .row u x=>wV fresh o ti sz off u (AG u x i)
 | .Jn u x j k' e=>bif Nat.beq k k' then wV fresh o ti sz off u e else wV fresh o ti sz off u (AG u (vp u x j e) i)
 |_=>.fail 264
def evLoad(fresh:Nat)(o:Oper)(ti:TI):HV->ST
 | .p id off=>.ej id (Hi fresh o ti.ty off)
 | .ep id i k sz off=>.ej id (evLoadE fresh o ti i k sz off)
 |_=>.fail 16
def evStoreO(fresh:Nat)(o:Oper)(n id off:Nat)(us:List HV):Ob->ST
 | .cells e cs=>bif lU cs off n&&Nat.beq us.length n then skipR o [.ej id (some (.cells e (putAt cs off us)))] fresh else .fail 17
 |_=>.fail 18
def DL(fresh:Nat)(o:Oper)(id i k sz off:Nat)(t:DT)(y:t.den)(ws:List Wr)(u:DT)(x:u.den)(e:(xK u).den):ST:=
 bif Nat.beq sz (u5 u)&&jD ws [.ej id none]then er 265 (updD (xK u) e off ⟨t,y⟩) fun z=>skipR o (ws++[.ej id (some (.Jn u x i k z))]) fresh else .fail 296
def evStoreE(fresh:Nat)(o:Oper)(id i k sz off:Nat)(t:DT)(y:t.den)(ws:List Wr):Ob->ST
 | .row u x=>DL fresh o id i k sz off t y ws u x (AG u x i)
 | .Jn u x j k' e=>bif Nat.beq k k' then DL fresh o id i k sz off t y ws u x e else DL fresh o id i k sz off t y ws u (vp u x j e) (AG u (vp u x j e) i)
 |_=>.fail 267
def C1(fresh:Nat)(o:Oper)(ti:TI)(us:List HV):HV->ST
 | .p id off=>.ej id (evStoreO fresh o ti.ty.size id off us)
 | .ep id i k sz off=>er 268 ti.dt fun t=>bif !(Kg ti t&&t.calm)then .fail 294 else rdD false t us fun y ws=>.ej id (evStoreE fresh o id i k sz off t y ws)
 |_=>.fail 19
def evNilCheck(fresh:Nat)(o:Oper)(v:HV):ST:=match v with
 | .p .. | .ep .. | .fn .. =>eu o v [] fresh
 |_=>.fail 20
def Qw:Ty->Bool
 | .int .u8=>true
 |_=>false
def wu(x:List Int):List UInt8:=x.map fun n=>UInt8.ofNat n.toNat
def ey(s:List UInt8):List Int:=s.map fun b=>(b.toNat:Int)
def evConv(fresh:Nat)(o:Oper)(tj ti:TI)(v:HV):ST:=match ti.ty,v with
 | .int k,.i _ a=>eu o (.i k (aY k a)) [] fresh
 | .str,v=>bif vV tj.ty then oR Γ tj.el fun te=>(bif Qw te.ty then rdF true (.a01 (.int .u8)) v fun x _=>yn (Nat.ble x.length 9223372036854775807) 27 (eu o (.s (wu x)) [] fresh)else .fail 26)else .fail 26
 | .sl,.s bs=>Fq Γ ti (.a01 (.int .u8)) fun te=>bif zG tj.ty&&Qw te.ty then eu o (.lv (.a01 (.int .u8)) (ey bs) fresh) [] (fresh+1)else .fail 251
 |_,_=>.fail 253
def evFunc(fresh:Nat)(o:Oper)(first cs:Array Operand):Fn->ST
 | .func f=>opdsR first.toList fun fs=>opdsR cs.toList fun vs=>eu o (.fn f fs vs) [] fresh
 |_=>.fail 27
def sZ(fresh:Nat)(o:Oper)(ti te:TI)(n c:Nat):ST:=er 270 ti.dt fun t=>Fq Γ ti (cT t) fun _=>yn (Nat.ble n c&&room c (Nat.max te.bytes (lim (cT t)))&&Nat.ble c 9223372036854775807) 31
 (rdD true (xK (cT t)) te.ty.zero fun z _=>M1 o (cT t) (Hj (cT t) n z) [] fresh)
def sY(fresh:Nat)(o:Oper)(ti:TI)(f:Nat):HV->ST
 | .p id off=>match fldTy ti.ty f with
   |some _=>eu o (.p id (off+jf ti.ty f)) [] fresh
   |none=>.fail 34
 | .ep id i k sz off=>match fldTy ti.ty f with
   |some _=>eu o (.ep id i k sz (off+jf ti.ty f)) [] fresh
   |none=>.fail 34
 |_=>.fail 35
def evField(fresh:Nat)(o:Oper)(ti:TI)(f:Nat):HV->ST
 | .agg cs=>match fldTy ti.ty f with
   |some u=>bif lU cs (jf ti.ty f) u.size then er 36 (valOf u (xJ cs (jf ti.ty f) u.size)) fun r=>eu o r [] fresh else .fail 37
   |none=>.fail 38
 |_=>.fail 39
def evIndexAddr(fresh:Nat)(o:Oper)(ti:TI)(u:HV):HV->ST
 | .sl id off n _=>bif vV ti.ty then oR Γ ti.el fun te=>intR u fun x=>pickN x (fun i=>eu o (.p id (off+i*te.ty.size)) [] fresh) n 0 else .fail 246
 | .p id off=>match ti.ty with
   | .arr n t=>intR u fun x=>pickN x (fun i=>eu o (.p id (off+i*t.size)) [] fresh) n 0
   |_=>.fail 43
 | .ep id j k sz off=>match ti.ty with
   | .arr n t=>intR u fun x=>pickN x (fun i=>eu o (.ep id j k sz (off+i*t.size)) [] fresh) n 0
   |_=>.fail 43
 | .li id=>.ej id fun ob=>match ob with
   | .fr t l=>Fq Γ ti t fun _=>a3X u fun i=>yn (Nat.blt i (lenL t l)) 41 (eu o (.ep id i fresh (u5 t) 0) [] (fresh+1))
   |ob=>er 271 ob.own fun d=>Fq Γ ti d.1 fun _=>a3X u fun i=>yn (Nat.blt i (lenL d.1 d.2)) 41 (eu o (.ep id i fresh (u5 d.1) 0) [] (fresh+1))
 | .rs id lo hi sz _=>oR Γ ti.el fun te=>bif vV ti.ty&&Nat.beq te.ty.size sz then a3X u fun i=>yn (Nat.blt i (hi-lo)) 41 (eu o (.ep id (lo+i) fresh sz 0) [] (fresh+1))else .fail 295
 | .lv t l j=>Fq Γ ti t fun _=>a3X u fun i=>yn (Nat.blt i (lenL t l)) 41 (eu o (.ep fresh i fresh (u5 t) 0) [.ej fresh (some (.fr t l))] (fresh+1))
 |_=>.fail 44
def evIndex(fresh:Nat)(o:Oper)(ti:TI)(u:HV):HV->ST
 | .agg cs=>match ti.ty with
   | .arr n t=>intR u fun x=>pickN x (fun i=>bif lU cs (i*t.size) t.size then er 46 (valOf t (xJ cs (i*t.size) t.size)) fun r=>eu o r [] fresh else .fail 47) n 0
   |_=>.fail 48
 | .s bs=>a3X u fun i=>yn (zG ti.ty&&Nat.blt i bs.length) 49 (eu o (.i .u8 ((bs.getD i 0).toNat:Int)) [] fresh)
 |_=>.fail 50
def evExtract(fresh:Nat)(o:Oper)(i:Nat):HV->ST
 | .Ar l=>er 51 l[i]? fun v=>eu o v [] fresh
 |_=>.fail 52
def evCall(cl:a2D)(fresh:Nat)(o:Oper)(args:Array Operand):HV->ST
 | .fn f fs cs=>opdsR args.toList fun vs=>cl f (fs++vs++cs) fresh fun r ws nx=>eu o r ws nx
 |_=>.fail 53
def DK(cl:a2D)(fresh:Nat)(o:Oper)(c:Call):Callee->ST
 | .builtin b=>builtinR Γ fresh o b c.args.toList c.argTypes.toList
 | .value f=>dN f (evCall cl fresh o c.args)
 | .invoke .. =>.fail 54
def evMakeMap(fresh:Nat)(o:Oper):Option Operand->ST
 |none=>eu o (.mp fresh) [.ej fresh (some (.map []))] (fresh+1)
 |some _=>.fail 55
def wW(cl:a2D)(fresh:Nat)(o:Oper):ST:=
 match o.op with
 | .move x=>dN x fun v=>eu o v [] fresh
 | .assign x=>dN x fun v=>eu o v [] fresh
 | .pick c x y=>dN c (evPick fresh o x y)
 | .alloc e=>oR Γ e fun ti=>eu o (.p fresh 0) [.ej fresh (some (.cells e ti.ty.zero))] (fresh+1)
 | .box e x=>oR Γ e fun ti=>dN x (Kq fresh o e ti)
 | .build t ps=>oR Γ t fun ti=>partsR ps.toList fun vs=>evBuild fresh o vs ti.ty
 | .buildSlice t n ps=>oR Γ t fun ti=>oR Γ ti.el fun te=>partsR ps.toList fun vs=>
  bif vV ti.ty&&Nat.ble (n*te.ty.size) 16777216 then er 5 (rG n te.ty.size vs (rep n te.ty.zero)) fun cs=>evBuildSlice Γ fresh o ti te n cs else .fail 248
 | .makeMap _ r=>evMakeMap fresh o r
 | .insert t m k v=>oR Γ t fun ti=>dN m fun m=>dN k fun k=>dN v fun v=>evInsert fresh o ti k v m
 | .lookup t x i ok=>oR Γ t fun ti=>dN x fun v=>dN i fun u=>zq Γ fresh o ti u ok v
 | .load t x=>oR Γ t fun ti=>dN x (evLoad fresh o ti)
 | .store t x y=>oR Γ t fun ti=>dN x fun v=>dN y fun u=>C1 fresh o ti u.cells v
 | .nilCheck x=>dN x (evNilCheck fresh o)
 | .binOp op t x y _=>dN x fun v=>dN y fun u=>er 21 (binH (Γ.sj.get t) op v u) fun r=>yn r.1 21 (eu o r.2 [] fresh)
 | .unOp op _ x=>dN x fun v=>er 22 (unH op v) fun r=>eu o r [] fresh
 | .convert s d x=>oR Γ s fun tj=>oR Γ d fun ti=>dN x (evConv Γ fresh o tj ti)
 | .makeFunc fn first cs=>evFunc fresh o first cs fn
 | .makeSlice t n c=>oR Γ t fun ti=>oR Γ ti.el fun te=>dN n fun v=>dN c fun u=>a3X v fun n=>a3X u fun c=>sZ Γ fresh o ti te n c
 | .slice t x lo hi mx=>oR Γ t fun ti=>dN x fun v=>tI lo fun lo=>tI hi fun hi=>tI mx fun mx=>evSlice Γ fresh o ti v lo hi mx
 | .fieldAddr t x f=>oR Γ t fun ti=>dN x (sY fresh o ti f)
 | .field t x f=>oR Γ t fun ti=>dN x (evField fresh o ti f)
 | .indexAddr t x i=>oR Γ t fun ti=>dN x fun v=>dN i fun u=>evIndexAddr Γ fresh o ti u v
 | .index t x i=>oR Γ t fun ti=>dN x fun v=>dN i fun u=>evIndex fresh o ti u v
 | .extract x i=>dN x (evExtract fresh o i)
 | .call c=>DK Γ cl fresh o c c.callee
 |_=>.fail 68
def J8(o:Oper)(fresh:Nat):ST:=match o.dst with
 |some d=>.dH ([.jQ d (some (.Ar []))],fresh)
 |none=>.dH ([],fresh)
def opRT(cl:a2D)(ops:List Oper)(fresh:Nat)(o:Oper):ST:=
 match o.guard with
 |none=>wW Γ cl fresh o
 |some (j,want)=>match(ops[j]?).bind (·.dst)with
  |some d=>.get d fun v=>match v with
   | .b _=>bif want then .split d (wW Γ cl fresh o) (J8 o fresh)else .split d (J8 o fresh) (wW Γ cl fresh o)
   | .Ar []=>J8 o fresh
   |_=>.fail 70
  |none=>.fail 71
def tT{α:Type}(cl:a2D)(ops:List Oper)(l:List Oper)(G:GS)(K:GS->RT α):RT α:=@List.rec Oper (fun _=>GS->RT α) K (fun o _ ih G=>(opRT Γ cl ops G.next o).Bk G ih) l G
end
inductive XE where
 |normal
 |exit (id:Nat)
 |ret
def XE.is:XE->XE->Bool
 | .normal,.normal| .ret,.ret=>true
 | .exit i,.exit j=>Nat.beq i j
 |_,_=>false
inductive Sh where
 |d (t:DT)
 |box (el:Nat) (t:DT)
def Sh.dt:Sh->DT
 | .d t=>t
 | .box _ t=>t
abbrev SL:=List (Nat×Sh)
abbrev pN(l:SL):DT:=tupT (l.map fun p=>p.2.dt)
structure Jh where
 fn:Nat
 key:Nat
 uN:SL
 tJ:List (XE×SL)
 room:Nat
@[reducible] def uJ:List (XE×SL)->Type
  |[]=>Empty
  |[o]=>(pN o.2).den
  |o::p::l=>(pN o.2).den⊕uJ (p::l)
def iter{X Y:Type}(_key:Nat)(f:X->Option (X⊕Y))(n:Nat):X->Option Y:=@Nat.rec (fun _=>X->Option Y) (fun _=>none)
 (fun _ ih x=>@Option.rec (X⊕Y) (fun _=>Option Y) none (fun r=>@Sum.rec X Y (fun _=>Option Y) ih some r) (f x)) n
structure vC extends Ctx where
 lps:List Jh
 L:Nat
 U:Nat
def PX(ops:List Oper):List Nat:=ops.filterMap (·.dst)
def asg:Code->List Nat
 | .region _ ops _=>PX ops.toList
 | .seq a b=>asg a++asg b
 | .cond _ a b=>asg a++asg b
 | .block _ c=>asg c
 | .loop c=>asg c
 |_=>[]
def keyOf:Code->Option Nat
 | .region id _ _=>some id
 | .seq a b=>match keyOf a with
   |some k=>some k
   |none=>keyOf b
 | .cond _ a b=>match keyOf a with
   |some k=>some k
   |none=>keyOf b
 | .block _ c| .loop c=>keyOf c
 |_=>none
def OX(fn key:Nat):List Jh->Option Jh
 |[]=>none
 |c::l=>bif Nat.beq c.fn fn&&Nat.beq c.key key then some c else OX fn key l
def isLvB:HV->Bool
 | .lv .. =>true
 |_=>false
def Gb:DT->List HV->Bool
 | .bH _,[v]| .otrees,[v]=> !(isLvB v)
 | .ak a b,cs=>Gb a (cs.take a.size)&&Gb b (cs.drop a.size)
 |_,_=>true
def FK(G:GS):SL->Bool
 |(n,.box _ t)::l=>(match G.bk.get n with
  |some (.p id _)=>(match G.find id with
   |some (some (.cells _ cs))=>Gb t cs
   |_=>true)
  |_=>true)&&FK G l
 |_::l=>FK G l
 |[]=>true
def Pk(G:GS)(fn key:Nat)(a:Jh):List Jh->Jh
 |[]=>a
 |c::l=>bif Nat.beq c.fn fn&&(Nat.beq c.key key&&FK G c.uN)then c else Pk G fn key a l
def rdSh{α:Type}:(s:Sh)->HV->(s.dt.den->List Wr->RT α)->RT α
 | .d t,v,k=>W7 false t v k
 | .box e t,v,k=>match v with
   | .p id 0=>.ej id fun o=>match o with
     | .cells el cs=>bif Nat.beq el e then rdD false t cs k else .fail 411
     |_=>.fail 401
   |_=>.fail 402
def Ds(n:Nat)(v:HV):HV:=bif Nat.blt n 65536 then v else match v with
 | .fn _ _ cs=>cs.getD (n/65536-1) .np
 |_=>.np
def BD(n:Nat):Nat:=n%65536
def A7(G:GS)(n:Nat):Option HV:=(G.bk.get (BD n)).map (Ds n)
def U3{α:Type}:(l:SL)->((pN l).den->List Wr->RT α)->RT α
 |[],k=>k () []
 |[p],k=>.get (BD p.1) fun v=>rdSh p.2 (Ds p.1 v) k
 |p::q::l,k=>.get (BD p.1) fun v=>rdSh p.2 (Ds p.1 v) fun x ws=>U3 (q::l) fun y ws'=>Bm ws ws' fun ws=>k (x,y) ws
def wrSh(G:GS)(n:Nat):(s:Sh)->s.dt.den->Nat->List Wr
 | .d t,x,nx=>exW t x nx++[.jQ n (some (Bj t x nx))]
 | .box e t,x,nx=>match A7 G n with
   |some (.p id 0)=>exW t x nx++[.ej id (some (.cells e (exC t x nx)))]
   |_=>[]
def Jp(G:GS):(l:SL)->(pN l).den->Nat->List Wr
 |[],_,_=>[]
 |[p],x,nx=>wrSh G p.1 p.2 x nx
 |p::q::l,x,nx=>wrSh G p.1 p.2 x.1 nx++Jp G (q::l) x.2 (nx+p.2.dt.lists)
def xX(G:GS)(n:Nat):Sh->Option (List Nat)
 | .box _ _=>match A7 G n with
   |some (.p id 0)=>some [id]
   |_=>none
 | .d _=>bif Nat.blt n 65536 then some []else none
def boxesOf(G:GS):SL->Option (List Nat)
 |[]=>some []
 |p::l=>match xX G p.1 p.2,boxesOf G l with
  |some a,some b=>some (a++b)
  |_,_=>none
def KF(l:List Nat)(n:Nat):Bool:=l.any (Nat.beq n)
def nodupN:List Nat->Bool
 |[]=>true
 |n::l=> !(KF l n)&&nodupN l
def eqNL:List Nat->List Nat->Bool
 |[],[]=>true
 |a::l,b::m=>Nat.beq a b&&eqNL l m
 |_,_=>false
def Pn(G1 G:GS)(bs:List Nat)(s:SL):Bool:=match boxesOf G1 s,boxesOf G s with
 |some l,some m=>eqNL l m&&(l.all (KF bs)&&nodupN l)
 |_,_=>false
def GS.P9(G:GS):Tr Ob:=(G.st.toL 0 1 []).foldl (fun t p=>t.set p.2 p.1) G.ca
def wS(l:List Nat)(t:Tr HV):Tr HV:=l.foldl (fun t n=>t.set none n) t
def iu(G:GS)(l:List Nat)(bs:List Nat)(s:SL)(x:(pN s).den):GS:={G with bk:=wS l G.bk}.app (bs.map (fun id=>Wr.ej id none)++Jp G s x G.next)
def enter(G:GS)(l:List Nat)(bs:List Nat)(s:SL)(x:(pN s).den):GS:=
 let G':=iu G l bs s x
 {bk:=G'.bk,st:=.lf,ca:=G'.P9,next:=G.next+(pN s).lists}
def dK(G:GS)(l:List Nat)(bs:List Nat)(room:Nat)(s:SL)(x:(pN s).den):GS:=
 {iu G l bs s x with next:=G.next+room+(pN s).lists}
def okW(n mj:Nat)(bs:List Nat)(l:List (Nat×Option Ob)):Bool:=l.all fun p=>(Nat.ble n p.1&&Nat.blt p.1 mj)||KF bs p.1
def a0z(n mj:Nat)(ws:List Wr):Bool:=ws.all fun x=>Nat.ble n x.aG&&Nat.blt x.aG mj
def Fs{α:Type}(G1:GS)(bs:List Nat)(mj:Nat)(s:SL)(G:GS)(k:(pN s).den->RT α):RT α:=
 bif Pn G1 G bs s then(U3 s fun x ws=>.dH (x,ws)).jm [] G fun p _ _=>bif a0z G1.next mj p.2 then k p.1 else .fail 407 else .fail 408
def pickX{α:Type}(G1:GS)(bs:List Nat)(mj:Nat)(G:GS):(l:List (XE×SL))->XE->(uJ l->RT α)->RT α
 |[],_,_=>.fail 403
 |[o],e,k=>bif o.1.is e then Fs G1 bs mj o.2 G k else .fail 404
 |o::p::l,e,k=>bif o.1.is e then Fs G1 bs mj o.2 G fun x=>k (.inl x)else pickX G1 bs mj G (p::l) e fun y=>k (.inr y)
def FW(a:Jh)(G1:GS)(bs:List Nat)(e:XE)(G:GS):RT ((pN a.uN).den⊕uJ a.tJ):=
 bif okW G1.next (G1.next+a.room) bs (G.st.toL 0 1 [])&&Nat.ble G.next (G1.next+a.room)then(match e with
  | .normal=>Fs G1 bs (G1.next+a.room) a.uN G fun x=>.dH (.inl x)
  |e=>pickX G1 bs (G1.next+a.room) G a.tJ e fun y=>.dH (.inr y))else .fail 405
def leave{α:Type}(G:GS)(ls bs:List Nat)(room:Nat)(K:XE->GS->RT α):(l:List (XE×SL))->uJ l->RT α
 |[],_=>.fail 406
 |[o],y=>K o.1 (dK G ls bs room o.2 y)
 |o::p::l,y=>.sum y (fun x=>K o.1 (dK G ls bs room o.2 x)) (fun z=>leave G ls bs room K (p::l) z)
mutual
def ZT:HV->List Nat
 | .p id _| .sl id _ _ _| .li id| .ep id _ _ _ _| .rs id _ _ _ _| .mp id=>[id]
 | .fn _ fs cs=>E0 fs++E0 cs
 | .agg l=>E0 l
 | .Ar l=>E0 l
 |_=>[]
def E0:List HV->List Nat
 |[]=>[]
 |v::l=>ZT v++E0 l
end
def Qv:Option (Option Ob)->List Nat
 |some (some (.cells _ cs))=>E0 cs
 |_=>[]
def preL{α:Type}:List Nat->GS->(GS->RT α)->RT α
 |[],G,K=>K G
 |id::l,G,K=>match G.find id with
  |none=>.ej id fun o=>preL l (G.ff id o) K
  |some _=>preL l G K
def preR{α:Type}:Nat->List Nat->GS->(GS->RT α)->RT α
 |0,_,G,K=>K G
 |d+1,l,G,K=>preL l G fun G=>preR d (l.flatMap fun id=>Qv (G.find id)) G K
section
variable (Γ:vC)
def touch:List lA->List lA->Bool
 |[],_=>false
 |p::l,m=>m.any (fun q=>p.1==q.1&&Nat.beq p.2 q.2)||touch l m
def backB:Nat->List Oper->Bool
 |_,[]=>true
 |i,o::l=>o.after.toList.all (fun e=> !(Region.binds .any e)||Nat.blt e.on i)&&backB (i+1) l
def rh(bs:List Nat)(o:Oper):Nat:=o.after.toList.foldl (fun m e=>if Region.binds .any e then m|||2^e.on|||bs.getD e.on 0 else m) 0
def ri(ops:List Oper):List Nat:=ops.foldl (fun bs o=>bs++[rh bs o]) []
def Dv(x y:List lA×List lA):Bool:=touch x.2 y.1||touch x.2 y.2||touch y.2 x.1
def clashes(bs:List Nat)(x:List lA×List lA)(j:Nat):List (List lA×List lA)->Nat->Bool
 |[],_=>false
 |y::l,i=>(!((bs.getD j 0).testBit i)&&Dv y x)||clashes bs x j l (i+1)
def drawOk(bs:List Nat):List (List lA×List lA)->List (List lA×List lA)->Bool
 |_,[]=>true
 |done,x::l=> !(clashes bs x done.length done 0)&&drawOk bs (done++[x]) l
def regD{α:Type}(cl:a2D)(ops:List Oper):List Oper->List (List lA×List lA)->GS->(GS->RT α)->RT α
 |[],acc,G,K=>bif drawOk (ri ops) [] acc&&backB 0 ops then K G else .fail 72
 |o::l,acc,G,K=>(opRT Γ.toCtx cl ops G.next o).Nn G fun G' rd wr=>regD cl ops l (acc++[(rd,wr)]) G' K
def qC{α:Type}(L:Nat)(body:GS->(XE->GS->RT α)->RT α)(K:XE->GS->RT α):GS->RT α:=
 Nat.rec (fun _=>.fail 73) (fun _ ih G=>body G fun e G'=>match e with
  | .normal=>ih G'
  |e=>K e G') L
def zO{α:Type}(L:Nat)(a:Jh)(ls:List Nat)(body:GS->(XE->GS->RT ((pN a.uN).den⊕uJ a.tJ))->RT ((pN a.uN).den⊕uJ a.tJ))(K:XE->GS->RT α)(G:GS):RT α:=
 preR 3 (E0 ((G.bk.toL 0 1 []).map (·.2))) G fun G=>
  (U3 a.uN fun x ws=>.dH (x,ws)).jm [] G fun p _ G0=>
    let G1:=G0.app p.2
    er 409 (boxesOf G0 a.uN) fun bs=>bif nodupN bs then
     .bind (iter (1000*a.fn+a.key) (fun x=>(body (enter G1 ls bs a.uN x) (FW a G1 bs)).out) L p.1) fun y=>leave G1 ls bs a.room K a.tJ y
    else .fail 410
def yf{α:Type}(K:XE->GS->RT α)(g:GS->(XE->GS->RT α)->RT α):XE->GS->RT α
 | .normal,G=>g G K
 | .exit i,G=>K (.exit i) G
 | .ret,G=>K .ret G
def condV{α:Type}(f g:GS->(XE->GS->RT α)->RT α)(G:GS)(K:XE->GS->RT α)(n:Nat):Option HV->RT α
 |some (.b t)=>.br t (f (G.refine n true) K) (g (G.refine n false) K)
 |_=>.fail 74
def condR{α:Type}(f g:GS->(XE->GS->RT α)->RT α)(G:GS)(K:XE->GS->RT α):Operand->RT α
 | .tmp n=>condV f g G K n (G.bk.get n)
 | .const v=>match constC v with
   |some (.b t)=>bt t (f G K) (g G K)
   |_=>.fail 76
 |_=>.fail 75
def nV{α:Type}(id:Nat)(K:XE->GS->RT α):XE->GS->RT α
 | .normal,G=>K .normal G
 | .exit j,G=>bif Nat.beq j id then K .normal G else K (.exit j) G
 | .ret,G=>K .ret G
def codeRT(cl:a2D)(fn:Nat):Code->{α:Type}->GS->(XE->GS->RT α)->RT α
 | .skip,_,G,K=>K .normal G
 | .region _ ops draw,_,G,K=>
   bif draw then regD Γ cl ops.toList ops.toList [] G (K .normal)
   else tT Γ.toCtx cl ops.toList ops.toList G (K .normal)
 | .seq a b,_,G,K=>codeRT cl fn a G (yf K (codeRT cl fn b))
 | .cond c a b,_,G,K=>condR (codeRT cl fn a) (codeRT cl fn b) G K c
 | .block id c,_,G,K=>codeRT cl fn c G (nV id K)
 | .loop c,_,G,K=>match keyOf c with
   |some key=>(match OX fn key Γ.lps with
    |some a=>preR 3 (E0 ((G.bk.toL 0 1 []).map (·.2))) G fun G=>zO Γ.L (Pk G fn key a Γ.lps) (asg c) (codeRT cl fn c) K G
    |none=>qC Γ.U (codeRT cl fn c) K G)
   |none=>qC Γ.U (codeRT cl fn c) K G
 | .exit id,_,G,K=>K (.exit id) G
 | .ret,_,G,K=>K .ret G
 |_,_,_,_=>.fail 78
def resL:List ResultVar->(List HV->ST)->ST
 |[],k=>k []
 | .tmp t::l,k=>.get t fun v=>resL l fun vs=>k (v::vs)
 | .cell a t::l,k=>.get a fun v=>match v with
   | .p id off=>oR Γ.toCtx t fun ti=>.ej id fun ob=>er 82 ob.rd fun cs=>bif lU cs off ti.ty.size then er 80 (valOf ti.ty (xJ cs off ti.ty.size)) fun r=>resL l fun vs=>k (r::vs)else .fail 81
   |_=>.fail 85
def tupH:List HV->HV
 |[v]=>v
 |vs=>.Ar vs
def unT:HV->List HV
 | .Ar [v]=>[.Ar [v]]
 | .Ar l=>l
 |v=>[v]
def numbered:Nat->List HV->Tr HV->Tr HV
 |_,[],t=>t
 |n,v::l,t=>numbered (n+1) l (t.set (some v) n)
def a4a(G:GS):List Wr:=(G.st.toL 0 1 []).map fun p=>.ej p.1 p.2
def Wr.zF:Wr->Bool
 | .ej _ _=>true
 | .jQ _ _=>false
def PT(c:cN)(args:List HV)(next:Nat)(K:HV->List Wr->Nat->ST):ST:=
 rdT (Nat.beq (tupT c.r).lists 0) c.a args fun x ws=>bif ws.all Wr.zF then .bind (c.f x) fun y=>K (tupH (O1 c.r y next)) (ws++exW (tupT c.r) y next) (next+(tupT c.r).lists)else .fail 420
def codesL:HV->Option (List Int)
 | .lv t x _=>gk t (.a01 (.int .u8)) x
 | .ns=>some []
 |_=>none
def codesP{α:Type}(el:Nat)(o:Ob)(k:List Int->HV->Int->RT α):RT α:=match o with
 | .cells e [v,.i k' n]=>bif Nat.beq e el&&nI k' .i64 then er 430 (codesL v) fun l=>k l v n else .fail 431
 |_=>.fail 432
def BV(el:Nat)(v:HV)(n:Int):Ob:=.cells el [v,.i .i64 n]
def V7(v:HV)(i:Nat):Bool:=match v with
 | .lv _ _ j=>Nat.beq j i
 |_=>false
def conPR(c:uG)(args:List HV)(next:Nat)(K:HV->List Wr->Nat->ST):ST:=match args with
 | .p id 0::args=>.ej id fun o=>codesP c.el o fun l v n=>
  rdT false c.a args fun x ws=>bif ws.all (fun w=>Wr.zF w&& !(Nat.beq w.aG id))then .bind (c.f l n x) fun y=>
   K (tupH (O1 c.r y.2 next)) (ws++(.ej id (some (BV c.el v y.1))::exW (tupT c.r) y.2 next)) (next+(tupT c.r).lists)else .fail 433
 |_=>.fail 434
def zI:(t:DT)->t.den->Nat->Nat->t.den
 | .bH _,x,i,j=>x.take i++x.drop j
 | .otrees,x,i,j=>(TL.take i x).app (TL.drop j x)
 |_,x,_,_=>x
def HA(c:JB)(args:List HV)(next:Nat)(K:HV->List Wr->Nat->ST):ST:=match c.kind,args with
 |1,[v]=>listR (cT c.t) v fun x=>K (.li next) [.ej next (some (.row (cT c.t) x))] (next+1)
 |2,[v,.i k i,.i k' j]=>bif nI k .i64&&nI k' .i64 then a3X (.i .i64 i) fun i=>a3X (.i .i64 j) fun j=>ownR (cT c.t) v fun x ws=>yn (Nat.ble i j&&Nat.ble j (lenL (cT c.t) x)) 412 (K (.li next) (ws++[.ej next (some (.row (cT c.t) (zI (cT c.t) x i j)))]) (next+1))else .fail 413
 |3,[.li id,.fn g [] []]=>bif Nat.beq g c.fn then .ej id fun o=>er 212 o.own fun d=>er 209 (gk d.1 .otrees d.2) fun x=>.bind (c.f x) fun y=>K (.Ar []) [.ej id (some (.row .otrees y))] next else .fail 414
 |_,_=>.fail 413
def bodyF(ih:a2D):a2D:=fun f args next K=>match Γ.OY.get f with
    |none=>.fail (1000000+f)
    |some g=>codeRT Γ ih f g.body {bk:=numbered 0 args .lf,st:=.lf,ca:=.lf,next} fun e G=>match e with
     | .exit _=>.fail 91
     |_=>(resL Γ g.results fun vs=>.dH ([.jQ 0 (some (tupH vs))],0)).jm [] G fun a _ G'=>match a.1 with
      |[.jQ _ (some v)]=>K v (a4a G') G'.next
      |_=>.fail 92
def stepF(ih:a2D):a2D:=fun f args next K=>
 match Γ.con.get f with
 |some c=>PT c args next K
 |none=>match Γ.Vj.get f with
  |some c=>HA c args next K
  |none=>match Γ.WG.get f with
   |some c=>conPR c args next K
   |none=>bodyF Γ ih f args next K
def Oj:Nat->a2D:=fun n=>Nat.rec (fun _ _ _ _=>.fail 90) (fun _ ih=>stepF Γ ih) n
def AE(n f:Nat)(a r:List DT)(x:(tupT a).den):Option (tupT r).den:=
 (((bodyF Γ (Oj Γ n) f (O1 a x 0) (tupT a).lists fun v ws nx=>.dH (ws++[.jQ 0 (some v)],nx)).Bk ({bk:=.lf,st:=.lf,ca:=.lf,next:=(tupT a).lists:GS}.app (exW (tupT a) x 0))) fun G=>
   (RT.get 0 fun v=>rdT false r (unT v) fun y _=>.dH y).jm [] G fun y _ _=>.dH y).out
def WK(n f el:Nat)(a r:List DT)(l:List Int)(at_:Int)(x:(tupT a).den):Option (Int×(tupT r).den):=
 (((bodyF Γ (Oj Γ n) f (.p 0 0::O1 a x 2) (2+(tupT a).lists) fun v ws nx=>.dH (ws++[.jQ 0 (some v)],nx)).Bk ({bk:=.lf,st:=.lf,ca:=.lf,next:=2+(tupT a).lists:GS}.app (.ej 0 (some (BV el (.lv (.a01 (.int .u8)) l 1) at_))::exW (tupT a) x 2))) fun G=>
   (RT.get 0 fun v=>.ej 0 fun o=>codesP el o fun _ u n=>bif V7 u 1 then rdT false r (unT v) fun y ws=>bif ws.all (fun w=> !(Nat.beq w.aG 0))then .dH (n,y)else .fail 435 else .fail 436).jm [] G fun y _ _=>.dH y).out
end
end
end Go.Proofs.YtehbbcdhahnkgaaGreat.Vm
