/- The value machine and the machine: slices.SortFunc of terms. -/
import Derived.Test.YtehbbcdhahnkgaaGreatVVtA
import Derived.Shelf.SlSortCmp.NoneTotal
import Derived.Test.YtehbbcdhahnkgaaGreatVMFacts
import Derived.KernelRfl
import Derived.Test.YtehbbcdhahnkgaaGreatProg
import Derived.OrdersIn
import Derived.RangeFuncNested
set_option linter.all false
set_option maxRecDepth 100000
set_option maxHeartbeats 0
namespace Go.Proofs.YtehbbcdhahnkgaaGreat.Vm
open Go
section
theorem zw{α:Type}[Inhabited α]{enc:α->List Value}{k:Nat}(hk:∀x,(enc x).length=k)(h0:0<k)(d:Array α):Sort.flatK enc k d=((d.toList.map enc).flatten).toArray:=by
 have hl:∀v∈d.toList.map enc,v.length=k:=fun v hv=>by obtain⟨x,_,rfl⟩:=List.mem_map.1 hv;exact hk x
 have hn:=a3T hl
 have hsz:(Sort.flatK enc k d).size=((d.toList.map enc).flatten).toArray.size:=by rw[Sort.size_flatK];show d.size*k=((d.toList.map enc).flatten).length;rw[hn,List.length_map];rfl
 refine Sort.ext_get! hsz fun t ht=> ?_
 have ht':t<d.size*k:=by simpa using ht
 rw[Sort.get_flatK _ _ _ _ ht']
 have hq:t/k<d.size:=Nat.div_lt_of_lt_mul (by rw[Nat.mul_comm];exact ht')
 have hc:=ta hl (t/k) (enc d[t/k]!) (by rw[List.getElem?_map,Array.getElem?_toList,getElem!_pos d _ hq,Array.getElem?_eq_getElem hq];rfl)
 have hm:=Nat.mod_lt t h0
 have hdm:t/k*k+t%k=t:=by rw[Nat.mul_comm];exact Nat.div_add_mod t k
 have:(d.toList.map enc).flatten[t]?=(enc d[t/k]!)[t%k]?:=by
  rw[<-hc,List.getElem?_take,if_pos hm,List.getElem?_drop,hdm]
 simp only[getElem!_def,List.getElem?_toArray,this]
theorem Ev(cz vs post:List Value)(F:Array Value)(h:F.size=vs.length):Sort.putCells id cz.length F (cz++vs++post).toArray=(cz++F.toList++post).toArray:=by
 unfold Sort.putCells
 apply Array.ext_getElem?
 intro i
 rw[Array.getElem?_mapIdx]
 simp only[List.getElem?_toArray,id]
 by_cases hc:cz.length<=i/\i<cz.length+F.size
 ·simp only[if_pos hc]
  obtain⟨h1,h2⟩:=hc
  have l1:i<(cz++vs).length:=by rw[List.length_append];omega
  have l2:i<(cz++F.toList).length:=by rw[List.length_append,Array.length_toList (xs:=F)];omega
  have e1:(cz++F.toList++post)[i]?=some (F[i-cz.length]!):=by
   rw[List.getElem?_append_left l2,List.getElem?_append_right h1,getElem!_pos F _ (by omega),Array.getElem?_toList,Array.getElem?_eq_getElem]
  have e2:(cz++vs++post)[i]?=some (vs[i-cz.length]'(by omega)):=by
   rw[List.getElem?_append_left l1,List.getElem?_append_right h1,List.getElem?_eq_getElem]
  rw[e1,e2];rfl
 ·simp only[if_neg hc]
  by_cases h1:i<cz.length
  ·rw[List.append_assoc,List.append_assoc,List.getElem?_append_left h1,List.getElem?_append_left h1];simp
  ·have l1:(cz++vs).length<=i:=by rw[List.length_append];omega
   have l2:(cz++F.toList).length<=i:=by rw[List.length_append,Array.length_toList (xs:=F)];omega
   rw[List.getElem?_append_right l1,List.getElem?_append_right l2]
   simp[h]
structure TE(F:Fz) where
 t:Tm
 cs:List Value
 dr:DR F TT t cs
 cP:t.cP
instance (F:Fz):Inhabited (TE F):=⟨⟨(0,0,.nil),[.int .i64 0,.int .i64 0,.slice none 0 0],a3R.2 ⟨_,rfl,by decide,by decide,none,0,rfl,Nat.le_refl _,⟨Nat.zero_le _,by decide⟩,fun _=>rfl,fun p e=>(by cases e),[],rfl,fun h=>absurd h (by decide)⟩,Nat.zero_le _,trivial⟩⟩
theorem TE.len{F:Fz}(x:TE F):x.cs.length=3:=by obtain⟨sl,e,_⟩:=a3R.1 x.dr;rw[e];rfl
theorem TE.one{F:Fz}(x:TE F):∀v∈x.cs,v.oneCell'=true:=by
 obtain⟨sl,e,_,_,A,c,hs,_⟩:=a3R.1 x.dr
 intro v hv
 rw[e]at hv
 simp only[List.mem_cons,List.not_mem_nil,or_false]at hv
 rcases hv with rfl|rfl|rfl
 ·rfl
 ·rfl
 ·rw[hs];rfl
theorem TE.of{F:Fz}:∀{x:TL} {vs:List Value},TLR F x vs->x.cP->∃l:List (TE F),l.map (·.t)=x.ls/\(l.map (·.cs)).flatten=vs
 | .nil,vs,h,_=>⟨[],rfl,h.symm⟩
 | .cons o v a r,vs,⟨sl,rest,e,h1,h2,h3,h4⟩,hn=>by
   obtain⟨l,q1,q2⟩:=TE.of (x:=r) h4 hn.2.2
   exact⟨⟨(o,v,a),[.int .i64 o,.int .i64 v,sl],a3R.2 ⟨sl,rfl,h1,h2,h3⟩,hn.1,hn.2.1⟩::l,by rw[List.map_cons,q1];rfl,by rw[List.map_cons,List.flatten_cons,q2,e];rfl⟩
theorem TE.lr{F:Fz}:∀l:List (TE F),TLR F (TL.of (l.map (·.t))) (l.map (·.cs)).flatten
 |[]=>rfl
 |x::l=>by
  obtain⟨sl,e,h1,h2,h3⟩:=a3R.1 x.dr
  exact⟨sl,(l.map (·.cs)).flatten,by rw[List.map_cons,List.flatten_cons,e];rfl,h1,h2,h3,TE.lr l⟩
theorem Ka{F:Fz}{w:World}{t:Tm}{cs:List Value}(h:DR F TT t cs):DD F w TT t cs []:=by
 obtain⟨us,rs,e,h1,us2,rs2,e2,h2,h3⟩:=h
 exact⟨us,rs,[],[],e,rfl,⟨h1,rfl⟩,us2,rs2,[],[],e2,rfl,⟨h2,rfl⟩,⟨h3,rfl⟩⟩
theorem Nj{w w':World}(hw:Wo w w')(hs:w.heap.size<=w'.heap.size)(hk:∀b,b<w.heap.size->w'.heap[b]?=w.heap[b]?):∃q os,w'=Sort.grow (w.drewN q) os:=by
 refine⟨w'.drawn-w.drawn,w'.heap.extract w.heap.size w'.heap.size,?_⟩
 have hh:w'.heap=w.heap++w'.heap.extract w.heap.size w'.heap.size:=by
  apply Array.ext_getElem?
  intro i
  by_cases hi:i<w.heap.size
  ·rw[Array.getElem?_append_left hi];exact hk i hi
  ·rw[Array.getElem?_append_right (by omega),Array.getElem?_extract]
   by_cases hj:i<w'.heap.size
   ·rw[if_pos (by omega)];congr 1;omega
   ·rw[if_neg (by omega)];exact Array.getElem?_eq_none (by omega)
 obtain⟨h1,h2,h3,h4⟩:=hw
 obtain⟨hp,tp,dr,os,out⟩:=w
 obtain⟨hp',tp',dr',os',out'⟩:=w'
 simp only at h1 h2 h3 h4 hh
 subst h1 h2 h3
 unfold Sort.grow World.drewN
 simp only
 rw[<-hh,show dr+(dr'-dr)=dr' by omega]
theorem EK{α:Type}[Inhabited α](enc:α->List Value)(k:Nat)(w:World)(blk off m:Nat)(dk:Array α)(os:Array Obj):∀b,b<w.heap.size->b≠blk->(sortWorldK enc k w blk off m dk os).heap[b]?=w.heap[b]?:=fun b hb hne=>by
 have hs:(Sort.putRowK enc k (Sort.ahead w m) blk off dk).heap.size=w.heap.size:=by unfold Sort.putRowK;rw[Sort.size_putRow];rfl
 unfold sortWorldK
 rw[Sort.heap_grow_old _ _ (by rw[hs];exact hb)]
 show(w.heap.modify blk _)[b]?=_
 rw[Array.getElem?_modify,if_neg (fun e=>hne e.symm)]
theorem Gl{α:Type}[Inhabited α](enc:α->List Value)(k:Nat)(w:World)(blk off m:Nat)(dk:Array α)(os:Array Obj):∃w1:World,(∀b,b≠blk->w1.heap[b]?=w.heap[b]?)/\w.heap.size<=w1.heap.size/\Wo w w1/\(∀b,b<w1.heap.size->(sortWorldK enc k w blk off m dk os).heap[b]?=w1.heap[b]?)/\Wo w1 (sortWorldK enc k w blk off m dk os)/\
 ∀cs el fr,w.heap[blk]?=some (.cells cs el fr)->w1.heap[blk]?=some (.cells (Sort.putCells id off (Sort.flatK enc k dk) cs) el fr):=by
 have hs:(Sort.putRowK enc k (Sort.ahead w m) blk off dk).heap.size=w.heap.size:=by unfold Sort.putRowK;rw[Sort.size_putRow];rfl
 refine⟨Sort.putRowK enc k (Sort.ahead w m) blk off dk,fun b hne=> ?_,Nat.le_of_eq hs.symm,⟨rfl,rfl,rfl,Nat.le_add_right _ _⟩,fun b hb=>Sort.heap_grow_old _ _ hb,⟨rfl,rfl,rfl,Nat.le_refl _⟩,fun cs el fr hg=> ?_⟩
 ·show(w.heap.modify blk _)[b]?=_
  rw[Array.getElem?_modify,if_neg (fun e=>hne e.symm)]
 ·show(w.heap.modify blk _)[blk]?=_
  rw[Array.getElem?_modify,if_pos rfl,hg];rfl
theorem JY{P:Program}{L:Nat}(hL:5000<L)(hM:L<=4611686018427387904)(hc:dU true P 84 (L0 L)){F:Fz}{blk off size:Nat}{w:World}(hF:∀b arr,F b=some arr->∃el fr,w.heap[b]?=some (.cells arr el fr))(hb:F blk=none):
 CmpLays P 84 #[] (fun x:TE F=>x.cs) 3 (fun x y=>EX x.t y.t) blk off size w:=by
 intro m os dk hs x y
 have g2:=EK (fun x:TE F=>x.cs) 3 w blk off m dk os
 have hF':∀b arr,F b=some arr->∃el fr,(sortWorldK (fun x:TE F=>x.cs) 3 w blk off m dk os).heap[b]?=some (.cells arr el fr):=fun b arr h=>by
  obtain⟨el,fr,hg⟩:=hF b arr h
  exact⟨el,fr,by rw[g2 b (Array.getElem?_eq_some_iff.1 hg).1 (fun e=>by subst e;rw[hb]at h;cases h)];exact hg⟩
 have hd:GK F (sortWorldK (fun x:TE F=>x.cs) 3 w blk off m dk os) [TT,TT] (x.t,y.t) [.agg x.cs.toArray,.agg y.cs.toArray] []:=⟨x.cs,[.agg y.cs.toArray],[],[],rfl,rfl,Ka x.dr,y.cs,rfl,Ka y.dr⟩
 refine(hc.2 F _ (x.t,y.t) _ [] (EX x.t y.t) (DB hL hM x.cP y.cP) hd List.nodup_nil (fun b h=>by simp at h) hF').mono fun e w' ⟨rv,F',G',e1,c⟩=> ?_
 obtain⟨vs,e2,q,_⟩:=c.data
 obtain⟨q1,_⟩:=q
 subst e2 q1
 exact⟨by rw[e1];rfl,Nj c.wo.wo c.size fun b hb=>c.lV b hb (by simp)⟩
theorem Eh{t:DT}{g:Nat}{f:TL->Option TL}{args:List HV}{n:Nat}{K:HV->List Wr->Nat->ST}{S:Sl}{H:Hp}{r:Ws}(h:(HA {kind:=3,t:=t,fn:=g,f:=f} args n K).run S H=some r):
 ∃id,args=[.li id,.fn g [] []]/\(RT.ej id fun o=>er 212 o.own fun d=>er 209 (gk d.1 .otrees d.2) fun x=>.bind (f x) fun y=>K (.Ar []) [.ej id (some (.row .otrees y))] n).run S H=some r:=by
 rcases args with _|⟨v,_|⟨a1,_|⟨a2,l⟩⟩⟩
 ·exact aA h
 ·cases v<;>exact aA h
 ·cases v with
  |li id=>
   cases a1 with
   |fn g' fs cs=>
    cases fs with
    |nil=>
     cases cs with
     |nil=>
      obtain⟨hb,h⟩:=cE (show(bif Nat.beq g' g then _ else RT.fail 414).run S H=some r from h)
      have:=Nat.eq_of_beq_eq_true hb
      subst this
      exact⟨id,rfl,h⟩
     |cons _ _=>exact aA h
    |cons _ _=>exact aA h
   |_=>exact aA h
  |_=>exact aA h
 ·cases v with
  |li id=>
   cases a1 with
   |fn g' fs cs=>cases fs<;>cases cs<;>exact aA h
   |_=>exact aA h
  |_=>cases a1<;>exact aA h
theorem a0d.X7{ρ:En}{H:Hp}{m:Mp}{w:World}{id:Nat}{o':Ob}(h:a0d ρ H m w)(hbk:m.ad id=none)(hor:OR m w id o'):a0d ρ (gW H id (some o')) m w:=by
 refine h.step (Mp.le_refl m) h.ff (fun b arr h1 h2=>by rw[h2]at h1;cases h1) (fun b arr _=>rfl) (fun b h1 h2=>absurd h2 h1) (fun i o1 hi1=> ?_) (fun i j o1 o2 b1 b2 hne hi1 hj1 g1 g2 hb1 hb2=> ?_) (fun i o1 b1 hi1 g1 hb1=> ?_) (fun i o1 b1 hi1 g1 hb1=> ?_)
 ·by_cases e:i=id
  ·subst e;rw[bQ]at hi1;cases hi1;exact hor
  ·rw[a0h _ _ e]at hi1;exact h.fe i o1 hi1
 ·have e1:i≠id:=fun e=>by subst e;rw[hbk]at hb1;cases hb1
  have e2:j≠id:=fun e=>by subst e;rw[hbk]at hb2;cases hb2
  rw[a0h _ _ e1]at hi1;rw[a0h _ _ e2]at hj1
  exact h.inj i j o1 o2 b1 b2 hne hi1 hj1 g1 g2 hb1 hb2
 ·have e1:i≠id:=fun e=>by subst e;rw[hbk]at hb1;cases hb1
  rw[a0h _ _ e1]at hi1
  exact h.off i o1 b1 hi1 g1 hb1
 ·have e1:i≠id:=fun e=>by subst e;rw[hbk]at hb1;cases hb1
  rw[a0h _ _ e1]at hi1
  exact h.vy i o1 b1 hi1 g1 hb1
theorem Gv{d:Dt}{x:TL}(h:gk d.1 .otrees d.2=some x){F:Fz}{w:World}{v:Value}{B:Option Nat}(hr:kL F w d.1 d.2 v B):kL F w .otrees x v B:=by
 obtain⟨t,y⟩:=d
 cases t<;>simp[gk,DT.same]at h
 ·subst h;exact hr
 ·subst h;exact hr
def JE(P:Program)(f:Nat):Prop:=∀(F:Fz) (blk off cap:Nat) (d:Array (TE F)) (w:World),CmpLays P 84 #[] (fun x:TE F=>x.cs) 3 (fun x y=>EX x.t y.t) blk off d.size w->Sort.HoldsK (fun x:TE F=>x.cs) 3 w blk off d->blk<w.heap.size->d.size<4611686018427387904->
 Calls P f #[.slice (some ⟨blk,off,none⟩) d.size cap,.func (.func 84) #[] #[]] w fun e w'=>e=.returned (.tuple #[])/\∃d' n os,Sort.PermIn 0 d.size d d'/\Sort.SortedIn (ltOf fun x y:TE F=>EX x.t y.t) 0 d.size d'/\w'=sortWorldK (fun x:TE F=>x.cs) 3 w blk off n d' os
theorem On{d:Bool}{P:Program}{f:Nat}(hfh:pX P f)(hS:JE P f)(hN:∀(p:Option Addr) (cap:Nat) (w:World),Calls P f #[.slice p 0 cap,.func (.func 84) #[] #[]] w fun e w'=>e=.returned (.tuple #[])/\w'=w){M:Nat}(hL:5000<M)(hM:M<=4611686018427387904)(hc:dU true P 84 (L0 M)):
 jS d P f {kind:=3,t:=.otrees,fn:=84,f:=wq}:=by
 intro ρ args n K S H r _ h
 obtain⟨id,rfl,h⟩:=Eh h
 obtain⟨o,ho,h⟩:=dR h
 obtain⟨d,hd,h⟩:=a07 h
 obtain⟨x,hx,h⟩:=a07 h
 obtain⟨y,hy,h⟩:=run_bind h
 refine⟨_,_,_,h,Nat.le_refl n,fQ _ _,hfh,fun m w U vals hrep hU hfree hargs=> ?_⟩
 obtain⟨v,ys,hv,ha,e⟩:=di hargs
 obtain⟨u,hu,e'⟩:=ik ha
 subst e' e
 have hu:u=.func (.func 84) #[] #[]:=by simpa [den,denL]using hu.symm
 subst hu
 obtain⟨⟨_,v',p1,row⟩,hmine⟩:=jO hrep ho hd
 replace row:=Gv hx row
 simp only[den]at hv
 obtain⟨A0,n0,c0,p2,e2⟩:=fP.1 hv
 rw[p1]at p2;cases p2
 subst e2
 have hnb:x.zV=true/\y=TL.of (x.ls.mergeSort fun a b=> !(gU b a)):=by
  have hy:wq x=some y:=hy
  unfold wq at hy
  cases e:x.zV with
  |false=>rw[e]at hy;cases hy
  |true=>rw[e]at hy;cases hy;exact⟨rfl,rfl⟩
 obtain⟨hnb,rfl⟩:=hnb
 have hnar:=zW hnb
 have hylen:(TL.of (x.ls.mergeSort fun a b=> !(gU b a))).len=x.len:=by
  rw[TL.eD,List.length_mergeSort,<-TL.eD,TL.Pf]
 rcases row with⟨A,k1,k2,k3,k4,k5⟩|⟨b,o',el,c2,cz,vs,post,k1,k2,k3,k4,k5,k6,k7,k8⟩
 ·cases k1
  refine(hN A0 0 w).mono fun e w' ⟨q1,q2⟩=> ?_
  subst q1 q2
  have hx0:x=.nil:=by
   cases x with
   |nil=>rfl
   |cons o v a r=>simp[lenL,TL.len]at k4
  subst hx0
  have hs0:TL.of (TL.nil.ls.mergeSort fun a b=> !(gU b a))=.nil:=by simp[TL.ls,TL.of]
  rw[hs0]
  exact⟨m,_,rfl,Mp.le_refl m,rfl,hrep.X7 k5 ⟨rfl,_,p1,.inl ⟨A0,rfl,k2,k3,rfl,k5⟩⟩,fun i hi=>.inl (hU i hi)⟩
 ·cases k2
  subst k4
  have hb:=Array.getElem?_eq_some_iff.1 k3
  have hfz:m.fz b=none:=hrep.vy id o b ho hmine k1
  obtain⟨l,l1,l2⟩:=TE.of k5 hnar
  have hll:l.length=x.len:=by have:=congrArg List.length l1;rw[List.length_map]at this;rw[this,<-TL.eD,TL.Pf]
  have hvl:vs.length=x.len*3:=TLR.len k5
  have hlen:x.len*40<=140737488355328:=k7.2
  have hfl:Sort.flatK (fun x:TE m.fz=>x.cs) 3 l.toArray=vs.toArray:=by rw[zw TE.len (by omega)];simp[l2]
  have hold:Sort.HoldsK (fun x:TE m.fz=>x.cs) 3 w b cz.length l.toArray:=by
   unfold Sort.HoldsK
   rw[hfl]
   intro j hj
   have hj:j<vs.length:=by simpa using hj
   constructor
   ·have:=qQ (w:=w) k3 (k:=cz.length+j) (u:=vs[j]) (by rw[List.getElem?_toArray,List.append_assoc,List.getElem?_append_right (by omega),List.getElem?_append_left (by omega),Nat.add_sub_cancel_left,List.getElem?_eq_getElem hj])
    rw[this]
    simp[getElem!_def,hj]
   ·simp[World.frozen?,k3]
  have hsz:l.toArray.size=x.len:=by simpa using hll
  have hlay:=JY (off:=cz.length) (size:=l.toArray.size) hL hM hc hrep.fz hfz
  have hcall:=hS m.fz b cz.length c0 l.toArray w hlay hold hb.1 (by omega)
  rw[hsz]at hcall
  refine hcall.mono fun e w' ⟨q1,d',n',os,q2,q3,q4⟩=> ?_
  obtain⟨w1,g1,g2,g3,g4,g5,g6⟩:=Gl (fun x:TE m.fz=>x.cs) 3 w b cz.length n' d' os
  rw[<-q4]at g4 g5
  obtain⟨q5,_,q6⟩:=q2
  have hds:d'.size=x.len:=q5.trans hsz
  rw[show d'.extract 0 x.len=d' by rw[<-hds];exact Array.extract_size,show l.toArray.extract 0 x.len=l.toArray by rw[<-hsz];exact Array.extract_size]at q6
  have hsort:d'.toList.map (·.t)=x.ls.mergeSort fun a b=> !(gU b a):=by
   refine J5 (by rw[<-l1];exact q6.map _) ?_
   rw[List.pairwise_map,List.pairwise_iff_getElem]
   intro i j hi hj hij
   have hi':i<d'.size:=by simpa using hi
   have hj':j<d'.size:=by simpa using hj
   have:=q3 i j (Nat.zero_le _) hij (by omega)
   rw[getElem!_pos d' j hj',getElem!_pos d' i hi']at this
   have e:∀x y:TE m.fz,ltOf (fun x y:TE m.fz=>EX x.t y.t) x y=gU x.t y.t:=fun x y=>Hv x.t y.t
   rw[e]at this
   simpa using this
  have hnew:(d'.toList.map (·.cs)).flatten.length=vs.length:=by
   have:∀v∈d'.toList.map (·.cs),v.length=3:=fun v hv=>by obtain⟨z,_,rfl⟩:=List.mem_map.1 hv;exact z.len
   rw[a3T this,List.length_map,Array.length_toList,hds,hvl]
  have hblk:=g6 _ _ _ k3
  rw[Ev cz vs post _ (by rw[zw TE.len (by omega),List.size_toArray,hnew]),zw TE.len (by omega)]at hblk
  have hlr:=TE.lr d'.toList
  rw[hsort]at hlr
  refine⟨m,_,q1,Mp.le_refl m,rfl,(hrep.xU (o':=.row .otrees (TL.of (x.ls.mergeSort fun a b=> !(gU b a)))) ho hmine k1 g1 g2 ⟨rfl,_,p1,.inr ⟨b,cz.length,el,c0,cz,_,post,k1,by rw[show lenL .otrees (TL.of (x.ls.mergeSort fun a b=> !(gU b a)))=x.len from hylen];rfl,hblk,rfl,hlr,by rw[show lenL .otrees (TL.of (x.ls.mergeSort fun a b=> !(gU b a)))=x.len from hylen];exact k6,by rw[show lenL .otrees (TL.of (x.ls.mergeSort fun a b=> !(gU b a)))=x.len from hylen];exact k7,by rw[List.toList_toArray,hnew];exact k8⟩⟩ g3).grow g4 g5,fun i hi=>.inl (hU i hi)⟩
end
def rC(f t e:Nat):Shelf.Ren:=⟨fun _=>f,fun i=>bif Nat.beq i 22 then t else bif Nat.beq i 23 then e else i,fun x=>x⟩
theorem Va:SlLaysE0.n45 Tryz.prog (rC 24 36 47):=by refine⟨nJ,⟨Tryz.f24.name,?_,?_⟩,?_,?_,?_,?_,?_,?_,?_,?_,?_,?_,?_,?_,?_,?_,?_,?_⟩<;>intros<;>kernel_rfl
theorem Vk{d:Bool}:jS d Tryz.prog 24 {kind:=2,t:=(.a01 aX)}:=qM Va (fu 47 Tt (by kernel_rfl)) (by kernel_rfl)
theorem Vb:SlLaysE0.n41 Tryz.prog (rC 38 36 47):=by refine⟨nJ,⟨Tryz.f38.name,?_,?_⟩,?_,?_,?_,?_,?_,?_,?_,?_⟩<;>intros<;>kernel_rfl
theorem Vl{d:Bool}:jS d Tryz.prog 38 {kind:=1,t:=(.a01 aX)}:=a2S Vb (fu 47 Tt (by kernel_rfl)) rfl (by kernel_rfl) (by decide) (by decide)
theorem Vc:SlLaysE0.n41 Tryz.prog (rC 39 26 28):=by refine⟨nJ,⟨Tryz.f39.name,?_,?_⟩,?_,?_,?_,?_,?_,?_,?_,?_⟩<;>intros<;>kernel_rfl
theorem Vn{d:Bool}:jS d Tryz.prog 39 {kind:=1,t:=.bS}:=a2S Vc (fu 28 Wd (by kernel_rfl)) rfl (by kernel_rfl) (by decide) (by decide)
theorem Vd:SlLaysE0.n41 Tryz.prog (rC 40 37 85):=by refine⟨nJ,⟨Tryz.f40.name,?_,?_⟩,?_,?_,?_,?_,?_,?_,?_,?_⟩<;>intros<;>kernel_rfl
theorem Vo{d:Bool}:jS d Tryz.prog 40 {kind:=1,t:=(.a01 gP)}:=a2S Vd (fu 85 Wg (by kernel_rfl)) rfl (by kernel_rfl) (by decide) (by decide)
theorem Ve:SlLaysE0.n41 Tryz.prog (rC 48 25 3):=by refine⟨nJ,⟨Tryz.f48.name,?_,?_⟩,?_,?_,?_,?_,?_,?_,?_,?_⟩<;>intros<;>kernel_rfl
theorem Vp{d:Bool}:jS d Tryz.prog 48 {kind:=1,t:=(.a01 (.int .i64))}:=a2S Ve (fu 3 ty3 (by kernel_rfl)) rfl (by kernel_rfl) (by decide) (by decide)
theorem Vf:SlLaysE0.n41 Tryz.prog (rC 49 95 68):=by refine⟨nJ,⟨Tryz.f49.name,?_,?_⟩,?_,?_,?_,?_,?_,?_,?_,?_⟩<;>intros<;>kernel_rfl
theorem Vq{d:Bool}:jS d Tryz.prog 49 {kind:=1,t:=(.a01 gL)}:=a2S Vf (fu 68 Wf (by kernel_rfl)) rfl (by kernel_rfl) (by decide) (by decide)
theorem Si:SlLaysE0.n41 Tryz.prog (rC 111 30 72):=by refine⟨nJ,⟨Tryz.f111.name,?_,?_⟩,?_,?_,?_,?_,?_,?_,?_,?_⟩<;>intros<;>kernel_rfl
theorem Sz{d:Bool}:jS d Tryz.prog 111 {kind:=1,t:=(.a01 sq)}:=a2S Si (fu 72 Tu (by kernel_rfl)) rfl (by kernel_rfl) (by decide) (by decide)
theorem Sj:SlLaysE0.n41 Tryz.prog (rC 161 31 81):=by refine⟨nJ,⟨Tryz.f161.name,?_,?_⟩,?_,?_,?_,?_,?_,?_,?_,?_⟩<;>intros<;>kernel_rfl
theorem SA{d:Bool}:jS d Tryz.prog 161 {kind:=1,t:=(.a01 a0l)}:=a2S Sj (fu 81 Tv (by kernel_rfl)) rfl (by kernel_rfl) (by decide) (by decide)
theorem Sk:SlLaysE0.n45 Tryz.prog (rC 166 32 239):=by refine⟨nJ,⟨Tryz.f166.name,?_,?_⟩,?_,?_,?_,?_,?_,?_,?_,?_,?_,?_,?_,?_,?_,?_,?_,?_⟩<;>intros<;>kernel_rfl
theorem SB{d:Bool}:jS d Tryz.prog 166 {kind:=2,t:=(.a01 ji)}:=qM Sk (fu 239 Mm (by kernel_rfl)) (by kernel_rfl)
theorem Sm:SlLaysE0.n41 Tryz.prog (rC 167 32 239):=by refine⟨nJ,⟨Tryz.f167.name,?_,?_⟩,?_,?_,?_,?_,?_,?_,?_,?_⟩<;>intros<;>kernel_rfl
theorem SC{d:Bool}:jS d Tryz.prog 167 {kind:=1,t:=(.a01 ji)}:=a2S Sm (fu 239 Mm (by kernel_rfl)) rfl (by kernel_rfl) (by decide) (by decide)
theorem Sn:SlLaysE0.n41 Tryz.prog (rC 259 77 48):=by refine⟨nJ,⟨Tryz.f259.name,?_,?_⟩,?_,?_,?_,?_,?_,?_,?_,?_⟩<;>intros<;>kernel_rfl
theorem SD{d:Bool}:jS d Tryz.prog 259 {kind:=1,t:=(.a01 (.int .u64))}:=a2S Sn (fu 48 We (by kernel_rfl)) rfl (by kernel_rfl) (by decide) (by decide)
theorem a4Z:SlLaysE0.n45 Tryz.prog (rC 290 29 284):=by refine⟨nJ,⟨Tryz.f290.name,?_,?_⟩,?_,?_,?_,?_,?_,?_,?_,?_,?_,?_,?_,?_,?_,?_,?_,?_⟩<;>intros<;>kernel_rfl
theorem SE{d:Bool}:jS d Tryz.prog 290 {kind:=2,t:=(.a01 a2T)}:=qM a4Z (fu 284 Mn (by kernel_rfl)) (by kernel_rfl)
theorem Sq:SlLaysE0.n41 Tryz.prog (rC 291 29 284):=by refine⟨nJ,⟨Tryz.f291.name,?_,?_⟩,?_,?_,?_,?_,?_,?_,?_,?_⟩<;>intros<;>kernel_rfl
theorem SF{d:Bool}:jS d Tryz.prog 291 {kind:=1,t:=(.a01 a2T)}:=a2S Sq (fu 284 Mn (by kernel_rfl)) rfl (by kernel_rfl) (by decide) (by decide)
theorem Sr:SlLaysE0.n45 Tryz.prog (rC 299 30 72):=by refine⟨nJ,⟨Tryz.f299.name,?_,?_⟩,?_,?_,?_,?_,?_,?_,?_,?_,?_,?_,?_,?_,?_,?_,?_,?_⟩<;>intros<;>kernel_rfl
theorem SG{d:Bool}:jS d Tryz.prog 299 {kind:=2,t:=(.a01 sq)}:=qM Sr (fu 72 Tu (by kernel_rfl)) (by kernel_rfl)
theorem Ss:SlLaysE0.n45 Tryz.prog (rC 383 31 81):=by refine⟨nJ,⟨Tryz.f383.name,?_,?_⟩,?_,?_,?_,?_,?_,?_,?_,?_,?_,?_,?_,?_,?_,?_,?_,?_⟩<;>intros<;>kernel_rfl
theorem SH{d:Bool}:jS d Tryz.prog 383 {kind:=2,t:=(.a01 a0l)}:=qM Ss (fu 81 Tv (by kernel_rfl)) (by kernel_rfl)
end Go.Proofs.YtehbbcdhahnkgaaGreat.Vm
namespace Go.Proofs.YtehbbcdhahnkgaaGreat.Vm
open Go Go.Shelf Go.RowKit Go.Lib Go.Sort
def rS:Shelf.Ren:=⟨fun i=>match i with
 |6=>83|14=>125|15=>126|20=>180|21=>181|22=>182|23=>183|24=>184|25=>185|26=>186|27=>187|28=>188|29=>189|46=>251|47=>252|48=>253|49=>254|50=>255|57=>327
 |i=>i,fun i=>match i with
 |22=>26|24=>28|25=>160|39=>74|45=>256|46=>257|50=>119|53=>263|55=>48|66=>338|70=>342|76=>418|77=>93
 |i=>i,fun x=>x⟩
theorem NV:SlLaysF0.n14 Tryz.prog rS:=
 ⟨nJ,⟨Tryz.f125.name,by kernel_rfl,by kernel_rfl⟩,by kernel_rfl,⟨Tryz.f180.name,by kernel_rfl,by kernel_rfl⟩,⟨Tryz.f181.name,by kernel_rfl,by kernel_rfl⟩,⟨Tryz.f182.name,by kernel_rfl,by kernel_rfl⟩,⟨Tryz.f183.name,by kernel_rfl,by kernel_rfl⟩,⟨Tryz.f184.name,by kernel_rfl,by kernel_rfl⟩,⟨Tryz.f185.name,by kernel_rfl,by kernel_rfl⟩,⟨Tryz.f186.name,by kernel_rfl,by kernel_rfl⟩,⟨Tryz.f187.name,by kernel_rfl,by kernel_rfl⟩,by kernel_rfl,by kernel_rfl,⟨Tryz.f251.name,by kernel_rfl,by kernel_rfl⟩,by kernel_rfl,by kernel_rfl,⟨Tryz.f254.name,by kernel_rfl,by kernel_rfl⟩,⟨Tryz.f255.name,by kernel_rfl,by kernel_rfl⟩,⟨Tryz.f327.name,by kernel_rfl,by kernel_rfl⟩,
  by kernel_rfl,fun w=>by kernel_rfl,fun w=>by kernel_rfl,fun w=>by kernel_rfl,
  by kernel_rfl,fun w=>by kernel_rfl,fun w=>by kernel_rfl,fun w=>by kernel_rfl,
  by kernel_rfl,fun w=>by kernel_rfl,fun w=>by kernel_rfl,fun w=>by kernel_rfl,
  by kernel_rfl,fun w=>by kernel_rfl,fun w=>by kernel_rfl,fun w=>by kernel_rfl,
  by kernel_rfl,fun w=>by kernel_rfl,fun w=>by kernel_rfl,fun w=>by kernel_rfl,
  by kernel_rfl,fun w=>by kernel_rfl,fun w=>by kernel_rfl,fun w=>by kernel_rfl,
  by kernel_rfl,fun w=>by kernel_rfl,fun w=>by kernel_rfl,fun w=>by kernel_rfl,
  by kernel_rfl,fun w=>by kernel_rfl,fun w=>by kernel_rfl,fun w=>by kernel_rfl,
  by kernel_rfl,fun w=>by kernel_rfl,fun w=>by kernel_rfl,fun w=>by kernel_rfl,
  by kernel_rfl,fun w=>by kernel_rfl,fun w=>by kernel_rfl,fun w=>by kernel_rfl,
  by kernel_rfl,fun w=>by kernel_rfl,fun w=>by kernel_rfl,fun w=>by kernel_rfl,
  by kernel_rfl,fun w=>by kernel_rfl,fun w=>by kernel_rfl,fun w=>by kernel_rfl,
  by kernel_rfl,fun w=>by kernel_rfl,fun w=>by kernel_rfl,fun w=>by kernel_rfl,
  by kernel_rfl,fun w=>by kernel_rfl,fun w=>by kernel_rfl,fun w=>by kernel_rfl,
  by kernel_rfl,fun w=>by kernel_rfl,fun w=>by kernel_rfl,fun w=>by kernel_rfl,
  by kernel_rfl,fun w=>by kernel_rfl,fun w=>by kernel_rfl,fun w=>by kernel_rfl,
  by kernel_rfl,fun w=>by kernel_rfl,fun w=>by kernel_rfl,fun w=>by kernel_rfl⟩
set_option maxHeartbeats 2000000 in
set_option maxRecDepth 100000 in
theorem Oo:JE Tryz.prog 83:=by
 intro F blk off cap d w hcmp hH hblk hsz
 have mixed:=nJ
 have hO:SWO (ltOf fun x y:TE F=>EX x.t y.t):=Tl _
 have aE:∀w,(isAgg 28).run Tryz.prog w=.ok true w:=fun w=>by kernel_rfl
 have zE:∀w,(Go.sizeOf 28).run Tryz.prog w=.ok 3 w:=fun w=>by kernel_rfl
 have eg:∀args w,(callFunc 84 args).run Tryz.prog w=.ok (.enter 84 args) w:=enters_of Tryz.func84 (by kernel_rfl) rfl
 have e14:∀args w,(callFunc 125 args).run Tryz.prog w=.ok (.enter 125 args) w:=enters_of Tryz.func125 (by kernel_rfl) rfl
 have XQ:∀args w,(callFunc 126 args).run Tryz.prog w=.ok (.enter 126 args) w:=enters_of Tryz.func126 (by kernel_rfl) rfl
 have hlim:Lib.bitLen d.size<4611686018427387904:=Nat.lt_of_le_of_lt (Lib.bitLen_le d.size 62 (by omega) (by omega)) (by omega)
 have hp:=AnyQ.pdqsortCmpFunc_all (P:=Tryz.prog) (ρ:=rS) NV 3 aE zE (fun x:TE F=>x.cs) (fun x y=>EX x.t y.t) 84 #[] hO blk off cap d w eg hcmp ⟨TE.len,TE.one,hH,hblk⟩ (d.size+1) 0 d.size (Lib.bitLen d.size) d w (by omega) rfl (SWK.start hH) (Nat.zero_le _) (Nat.le_refl _) hsz hlim (Or.inl rfl)
 have hp:Calls Tryz.prog 125 _ w _:=hp
 have hl:Calls Tryz.prog 126 #[.int .u64 (d.size:Int)] w fun e w'=>e=.returned (.int .i64 (Lib.bitLen d.size:Nat))/\w'=w:=by
  have h:=Any.bits_Len (SlLaysF0.n15.bits (P:=Tryz.prog) (ρ:=rS) {NV with}) (d.size:Int) w (by omega) (by omega)
  rwa[Int.toNat_natCast]at h
 have wr:IntKind.u64.wrap (d.size:Int)=d.size:=by simp[IntKind.wrap,IntKind.bits,IntKind.signed];omega
 have hps:=pdq_sorts (ltOf fun x y:TE F=>EX x.t y.t) hO d 0 d.size (Lib.bitLen d.size) true true (Nat.zero_le _) (Nat.le_refl _) (Or.inl rfl)
 have dH:∀n os,∃d' n' os',PermIn 0 d.size d d'/\SortedIn (ltOf fun x y:TE F=>EX x.t y.t) 0 d.size d'/\sortWorldK (fun x:TE F=>x.cs) 3 w blk off n (pdq (ltOf fun x y:TE F=>EX x.t y.t) d 0 d.size (Lib.bitLen d.size) true true) os=sortWorldK (fun x:TE F=>x.cs) 3 w blk off n' d' os':=fun n os=>⟨_,n,os,hps.1,hps.2,rfl⟩
 clear hcmp hH hps hO
 go_enter Tryz.func83,Tryz.ntmps83
 go_wp2_with (first|(go_at_fn 126;refine hl.mono ?_;rintro e w' ⟨rfl,rfl⟩)|(go_at_fn 125;refine hp.mono ?_;rintro e w' ⟨rfl,n,os,rfl⟩))
 go_end0
 exact⟨rfl,dH n os⟩
set_option maxHeartbeats 2000000 in
set_option maxRecDepth 100000 in
theorem SM(p:Option Addr)(cap:Nat)(w:World):Calls Tryz.prog 83 #[.slice p 0 cap,.func (.func 84) #[] #[]] w fun e w'=>e=.returned (.tuple #[])/\w'=w:=by
 have mixed:=nJ
 have e14:∀args w,(callFunc 125 args).run Tryz.prog w=.ok (.enter 125 args) w:=enters_of Tryz.func125 (by kernel_rfl) rfl
 have XQ:∀args w,(callFunc 126 args).run Tryz.prog w=.ok (.enter 126 args) w:=enters_of Tryz.func126 (by kernel_rfl) rfl
 have hp:∀lim W,Calls Tryz.prog 125 #[.slice p 0 cap,.int .i64 0,.int .i64 0,.int .i64 lim,.func (.func 84) #[] #[]] W fun e w'=>e=.returned (.tuple #[])/\w'=W:=fun lim W=>AnyF.pdqsortCmpFunc_none (P:=Tryz.prog) (ρ:=rS) NV p cap lim (.func (.func 84) #[] #[]) W
 have hl:∀W,Calls Tryz.prog 126 #[.int .u64 0] W fun e w'=>e=.returned (.int .i64 (Lib.bitLen 0:Nat))/\w'=W:=fun W=>by
  have h:=Any.bits_Len (SlLaysF0.n15.bits (P:=Tryz.prog) (ρ:=rS) {NV with}) 0 W (by omega) (by omega)
  exact h
 go_enter Tryz.func83,Tryz.ntmps83
 go_wp2_with (first|(go_at_fn 126;refine(hl _).mono ?_;rintro e w' ⟨rfl,rfl⟩)|(go_at_fn 125;refine(hp _ _).mono ?_;rintro e w' ⟨rfl,rfl⟩))
 go_end0
 exact⟨rfl,rfl⟩
theorem Vr{d:Bool}{M:Nat}(hL:5000<M)(hM:M<=4611686018427387904)(hc:dU true Tryz.prog 84 (L0 M)):jS d Tryz.prog 83 {kind:=3,t:=.otrees,fn:=84,f:=wq}:=
 On V4 Oo SM hL hM hc
def FR(ro:Option Nat):Fence:={Fence.wide with round:=ro}
section
variable {P:Program}{ro:Option Nat}{n:Nat}
theorem JS{f:FuncId}{args:Array Value}{w:World}{R:Ending->World->Prop}(h:Calls P f args w R):CallsIn (FR ro) n P f args w R:=by
 cases ro with
 |none=>exact callsIn_wide.2 h
 |some l=>exact CallsIn.inRound l (callsIn_wide.2 h)
theorem W8{row:String}{args:Array Value}{w:World}{R:Value->World->Prop}(h:Rows P row args w R):RowsIn (FR ro) n P row args w R:=by
 intro c cs _
 obtain⟨v,w',h1,h2⟩:=h c cs
 refine⟨v,w',h1,?_⟩
 cases ro with
 |none=>exact stepsIn_wide.2 h2
 |some l=>exact stepsIn_wide.2 h2
def TD(ds:List Deferred)(a:Act):Act:={a with defers:=ds}
theorem yO(ds:List Deferred)(a:Act)(d:Option Tmp)(v:Value):(TD ds a).put d v=TD ds (a.put d v):=by cases d<;>rfl
theorem MI(ds:List Deferred)(a:Act):(TD ds a).eval=a.eval:=rfl
theorem kT(a:Act)(d:Option Tmp)(v:Value):(a.put d v).defers=a.defers:=by cases d<;>rfl
theorem BM{a:Act}{ds:List Deferred}(h:a.defers=ds):TD ds a=a:=by subst h;rfl
structure vG(Q:Exit->Act->World->Prop):Prop where
 defers:∀e a w,Q e a w->a.defers=[]
 panic:∀c a w,¬Q (.panic c) a w
 out:∀a w,¬Q .outgrown a w
theorem AB{f:FuncId}{args:Array Value}{w:World}{R:Ending->World->Prop}(h:Calls P f args w R):∃e w',R e w':=by
 obtain⟨e,w',_,h,_⟩:=h []
 exact⟨e,w',h⟩
theorem a4I{o:Oper}{a:Act}{w:World}{next:Act->World->Prop}{Q:Exit->Act->World->Prop}(hn:∀a w,next a w->a.defers=[])(hQ:vG Q)(h:o.wp P a w next Q):a.defers=[]:=by
 unfold Oper.wp at h
 generalize(execOp a.eval o).run P w=r at h
 unfold Oper.upon at h
 split at h
 ·have:=hn _ _ h;rwa[kT]at this
 ·have:=hn _ _ h;rwa[kT]at this
 ·have:=hn _ _ h;rw[kT]at this;cases this
 ·obtain⟨e,w',h⟩:=AB h
  cases e with
  |returned v=>have:=hn _ _ h;rwa[kT]at this
  |panicked c=>exact(hQ.panic _ _ _ h).elim
  |outgrown=>obtain⟨a,w,h⟩:=h;exact(hQ.out _ _ h).elim
 ·obtain⟨v,w',h,_⟩:=h default []
  have:=hn _ _ h;rwa[kT]at this
 ·exact(hQ.panic _ _ _ h).elim
 ·exact h.elim
def oI(o:Oper):Bool:=match o.op with
 | .defer _=>false
 |_=>true
theorem Gc{o:Oper}(h:oI o=true)(c:Call):o.op≠ .defer c:=by
 intro e;unfold oI at h;rw[e]at h;cases h
theorem O7{ds:List Deferred}{o:Oper}{a:Act}{w:World}{next next2:Act->World->Prop}{Q Q2:Exit->Act->World->Prop}(hp:oI o=true)(hn:∀a w,next a w->a.defers=[])(hQ:vG Q)
 (h2:∀a w,next a w->next2 (TD ds a) w) (h:o.wp P a w next Q):o.wpIn (FR ro) n P (TD ds a) w next2 Q2:=by
 refine⟨fun _ _=>trivial,?_⟩
 rw[Oper.semAt_eq _ _ _ (Gc hp),MI]
 unfold Oper.wp at h
 generalize(execOp a.eval o).run P w=r at h⊢
 unfold Oper.upon at h
 split at h
 ·show next2 ((TD ds a).put o.dst _) _
  rw[yO];exact h2 _ _ h
 ·show next2 ((TD ds a).put o.dst _) _
  rw[yO];exact h2 _ _ h
 ·have:=hn _ _ h;rw[kT]at this;cases this
 ·refine⟨fun h=>by simp[FR,Fence.wide]at h,(JS h).mono ?_⟩
  intro e w' h
  cases e with
  |returned v=>show next2 ((TD ds a).put o.dst _) _;rw[yO];exact h2 _ _ h
  |panicked c=>exact(hQ.panic _ _ _ h).elim
  |outgrown=>obtain⟨a,w,h⟩:=h;exact(hQ.out _ _ h).elim
 ·refine⟨fun h=>by simp[FR,Fence.wide]at h,(W8 h).mono ?_⟩
  intro v w' h
  show next2 ((TD ds a).put o.dst _) _
  rw[yO];exact h2 _ _ h
 ·exact(hQ.panic _ _ _ h).elim
 ·exact h.elim
section
variable {ops:Array Oper}{Q Q2:Exit->Act->World->Prop}{ds:List Deferred}
theorem xS(hQ:vG Q){i:Nat}{K:Act->World->Prop}(hK:∀a w,K a w->a.defers=[]){a:Act}{w:World}(h:wpOp P ops Q i K a w):a.defers=[]:=by
 unfold wpOp at h
 split at h
 ·exact hK _ _ h
 ·split at h
  ·rcases h with h|⟨_,a',w',h⟩
   ·exact a4I hK hQ h
   ·exact(hQ.out _ _ h).elim
  ·have:=hK _ _ h;rwa[kT]at this
theorem BE(hp:∀o∈ops.toList,oI o=true)(hQ:vG Q){i:Nat}{K K2:Act->World->Prop}(hK:∀a w,K a w->a.defers=[])(h2:∀a w,K a w->K2 (TD ds a) w){a:Act}{w:World}(h:wpOp P ops Q i K a w):wpOpIn (FR ro) n P ops Q2 i K2 (TD ds a) w:=by
 unfold wpOp at h
 unfold wpOpIn
 split at h
 ·rename_i hi;simp only[hi];exact h2 _ _ h
 ·rename_i o hi
  simp only[hi]
  have hpo:oI o=true:=hp o (by have:=Array.mem_of_getElem? hi;simpa using this)
  split at h
  ·rename_i hw
   rw[if_pos (show Region.wanted o (yielded ops (TD ds a).tmps)from hw)]
   rcases h with h|⟨_,a',w',h⟩
   ·exact O7 hpo hK hQ h2 h
   ·exact(hQ.out _ _ h).elim
  ·rename_i hw
   rw[if_neg (show¬Region.wanted o (yielded ops (TD ds a).tmps)from hw)]
   refine⟨fun _ _=>trivial,?_⟩
   rw[yO];exact h2 _ _ h
theorem wF(hQ:vG Q):∀{l:List Nat} {a:Act} {w:World},wpOps P ops Q l a w->a.defers=[]
 |[],_,_,h=>hQ.defers _ _ _ h
 |i::l,a,w,h=>by
  rw[wpOps_cons]at h
  exact xS hQ (fun a w h=>wF hQ h) h
theorem Aq(hp:∀o∈ops.toList,oI o=true)(hQ:vG Q)(h2:∀a w,Q .normal a w->Q2 .normal (TD ds a) w):∀{l:List Nat} {a:Act} {w:World},wpOps P ops Q l a w->wpOpsIn (FR ro) n P ops Q2 l (TD ds a) w
 |[],_,_,h=>h2 _ _ h
 |i::l,a,w,h=>by
  rw[wpOps_cons]at h
  rw[wpOpsIn_cons]
  exact BE hp hQ (fun a w h=>wF hQ h) (fun a w h=>Aq hp hQ h2 h) h
theorem wE(hQ:vG Q){md:Region.Mode}:∀{fuel:Nat} {listed:Array Bool} {a:Act} {w:World},wpAny P md ops Q fuel listed a w->a.defers=[]
 |0,_,_,_,h=>hQ.defers _ _ _ h.2
 |fuel+1,listed,a,w,h=>by
  obtain⟨h0,h1⟩:=h
  cases hr:Region.ready md ops listed with
  |nil=>exact hQ.defers _ _ _ (h0 hr)
  |cons i l=>exact xS hQ (fun a w h=>wE hQ h) (h1 i (by rw[hr];simp))
theorem Ap(hp:∀o∈ops.toList,oI o=true)(hQ:vG Q)(h2:∀a w,Q .normal a w->Q2 .normal (TD ds a) w){md:Region.Mode}:∀{fuel:Nat} {listed:Array Bool} {a:Act} {w:World},wpAny P md ops Q fuel listed a w->wpAnyIn (FR ro) n P md ops Q2 fuel listed (TD ds a) w
 |0,_,_,_,h=>⟨h.1,h2 _ _ h.2⟩
 |fuel+1,listed,a,w,h=>by
  obtain⟨h0,h1⟩:=h
  refine⟨fun hr=>h2 _ _ (h0 hr),fun i hi=> ?_⟩
  exact BE hp hQ (fun a w h=>wE hQ h) (fun a w h=>Ap hp hQ h2 h) (h1 i hi)
end
def plainC:Code->Bool
 | .skip| .exit _| .ret=>true
 | .region _ ops _=>ops.toList.all oI
 | .seq x y=>plainC x&&plainC y
 | .cond _ x y=>plainC x&&plainC y
 | .block _ c=>plainC c
 |_=>false
variable {Γ:vC}{ρ:En}{cl:a2D}{fn:Nat}{ds:List Deferred}{S0:Sl}
theorem qL(hm:P.follows .mixedOrders=true)(hT:gj P Γ.sj)(hcl:nT P ρ cl):∀(c:Code) {B:Bs} {Q:Exit->Act->World->Prop} {G:GS} {a:Act} {w:World} {e:XE} {G':GS},plainC c=true->BI B->codeDst B.N c=true->(∀d∈asg c,¬B.Fr d)->lE ρ B G a w->
 (codeRT Γ cl fn c G fun e G=>.dH (e,G)).run S0 B.H0=some (e,G')->G'.next<=B.mj->(∀a w,lE ρ B G' a w->Q e.out (TD ds a) w)->c.wpIn (FR ro) n P Q (TD ds a) w:=by
 intro c
 induction c with
 |skip=>intro B Q G a w e G' _ hB hd hfr h hr htop hQ;have:=bR (show(RT.dH (XE.normal,G):RT (XE×GS)).run S0 B.H0=some (e,G')from hr);cases this;exact wpIn_skip (hQ a w h)
 |ret=>intro B Q G a w e G' _ hB hd hfr h hr htop hQ;have:=bR (show(RT.dH (XE.ret,G):RT (XE×GS)).run S0 B.H0=some (e,G')from hr);cases this;exact wpIn_ret (hQ a w h)
 |exit id=>intro B Q G a w e G' _ hB hd hfr h hr htop hQ;have:=bR (show(RT.dH (XE.exit id,G):RT (XE×GS)).run S0 B.H0=some (e,G')from hr);cases this;exact wpIn_exit (hQ a w h)
 |region id ops draw=>
  intro B Q G a w e G' hp hB hd hfr h hr htop hQ
  have hp':∀o∈ops.toList,oI o=true:=by simp only[plainC]at hp;exact List.all_eq_true.1 hp
  have hfr':∀o∈ops.toList,∀d,o.dst=some d->¬B.Fr d:=fun o ho d hd=>hfr d (DF ho hd)
  have hN:∀G2,vG (fun e a w=>e=.normal/\lE ρ B G2 a w):=fun G2=>⟨fun _ _ _ ⟨_,h⟩=>by obtain⟨_,⟨m,_,h,_⟩,_⟩:=h;exact h.defers,fun c a w ⟨h,_⟩=>(by cases h),fun a w ⟨h,_⟩=>(by cases h)⟩
  cases draw with
  |true=>
   have hr:(regD Γ cl ops.toList ops.toList [] G fun G=>.dH (XE.normal,G)).run S0 B.H0=some (e,G'):=hr
   rw[uo]at hr
   cases hq:(regD Γ cl ops.toList ops.toList [] G fun G=>.dH G).run S0 B.H0 with
   |none=>rw[hq]at hr;cases hr
   |some G2=>
    rw[hq]at hr
    have hr:some (XE.normal,G2)=some (e,G'):=hr
    cases hr
    refine wpIn_region_any hm (Ap hp' (hN _) (fun a w ⟨_,h⟩=>hQ a w h) ?_)
    exact HN hT hcl hB hd hfr' htop (fun a w h=>⟨rfl,h⟩) (DE h) hq
  |false=>
   have hr:(tT Γ.toCtx cl ops.toList ops.toList G fun G=>.dH (XE.normal,G)).run S0 B.H0=some (e,G'):=hr
   rw[uq]at hr
   cases hq:(tT Γ.toCtx cl ops.toList ops.toList G fun G=>.dH G).run S0 B.H0 with
   |none=>rw[hq]at hr;cases hr
   |some G2=>
    rw[hq]at hr
    have hr:some (XE.normal,G2)=some (e,G'):=hr
    cases hr
    refine wpIn_region (Aq hp' (hN _) (fun a w ⟨_,h⟩=>hQ a w h) ?_)
    have:=CK (Q:=fun e a w=>e=.normal/\lE ρ B G' a w) hT hcl hB hd hfr' htop (fun a w h=>⟨rfl,h⟩) (i:=0) (l:=ops.toList) rfl h hq
    rw[List.range_eq_range']
    simpa using this
 |seq x y ihx ihy=>
  intro B Q G a w e G' hp hB hd hfr h hr htop hQ
  simp only[plainC,Bool.and_eq_true]at hp
  simp only[codeDst,Bool.and_eq_true]at hd
  have hfx:∀d∈asg x,¬B.Fr d:=fun d hd=>hfr d (by simp[asg,hd])
  have hfy:∀d∈asg y,¬B.Fr d:=fun d hd=>hfr d (by simp[asg,hd])
  obtain⟨e1,G1,h1,h2⟩:=eO (show(codeRT Γ cl fn x G (yf (fun e G=>.dH (e,G)) (codeRT Γ cl fn y))).run S0 B.H0=some (e,G')from hr)
  refine wpIn_seq ?_
  cases e1 with
  |normal=>
   obtain⟨u1,_⟩:=l5 y h2
   exact ihx hp.1 hB hd.1 hfx h h1 (by omega) fun a w h=>ihy hp.2 hB hd.2 hfy h h2 htop hQ
  |exit i=>have:=bR h2;cases this;exact ihx hp.1 hB hd.1 hfx h h1 htop hQ
  |ret=>have:=bR h2;cases this;exact ihx hp.1 hB hd.1 hfx h h1 htop hQ
 |cond c x y ihx ihy=>
  intro B Q G a w e G' hp hB hd hfr h hr htop hQ
  simp only[plainC,Bool.and_eq_true]at hp
  simp only[codeDst,Bool.and_eq_true]at hd
  have hfx:∀d∈asg x,¬B.Fr d:=fun d hd=>hfr d (by simp[asg,hd])
  have hfy:∀d∈asg y,¬B.Fr d:=fun d hd=>hfr d (by simp[asg,hd])
  have hr':(condR (codeRT Γ cl fn x) (codeRT Γ cl fn y) G (fun e G=>.dH (e,G)) c).run S0 B.H0=some (e,G'):=hr
  unfold condR at hr'
  split at hr'
  ·rename_i n
   unfold condV at hr'
   split at hr'
   ·rename_i t ht
    obtain⟨_,⟨m,m1,m2,m3⟩,low⟩:=id h
    have hv:=m2.bk n _ ht
    simp only[den,Option.some.injEq]at hv
    rcases vk hr' with⟨ht',hr'⟩|⟨ht',hr'⟩
    ·subst ht'
     exact wpIn_cond_true hv.symm (ihx hp.1 hB hd.1 hfx (a43 h ht) hr' htop hQ)
    ·subst ht'
     exact wpIn_cond_false hv.symm (ihy hp.2 hB hd.2 hfy (a43 h ht) hr' htop hQ)
   ·exact aA hr'
  ·rename_i v
   split at hr'
   ·rename_i t ht
    have hv:=Dz ht
    subst hv
    cases t with
    |true=>exact wpIn_cond_true rfl (ihx hp.1 hB hd.1 hfx h hr' htop hQ)
    |false=>exact wpIn_cond_false rfl (ihy hp.2 hB hd.2 hfy h hr' htop hQ)
   ·exact aA hr'
  ·exact aA hr'
 |block id c ih=>
  intro B Q G a w e G' hp hB hd hfr h hr htop hQ
  simp only[plainC]at hp
  obtain⟨e1,G1,h1,h2⟩:=eO (show(codeRT Γ cl fn c G (nV id fun e G=>.dH (e,G))).run S0 B.H0=some (e,G')from hr)
  refine wpIn_block ?_
  cases e1 with
  |normal=>have:=bR h2;cases this;exact ih hp hB hd hfr h h1 htop fun a w h=>hQ a w h
  |ret=>have:=bR h2;cases this;exact ih hp hB hd hfr h h1 htop fun a w h=>hQ a w h
  |exit j=>
   simp only[nV]at h2
   cases hb:Nat.beq j id with
   |true=>
    rw[hb]at h2
    have:=bR h2;cases this
    refine ih hp hB hd hfr h h1 htop fun a w h=> ?_
    show if j=id then Q .normal (TD ds a) w else Q (.exit j) (TD ds a) w
    rw[if_pos (Nat.eq_of_beq_eq_true hb)];exact hQ a w h
   |false=>
    rw[hb]at h2
    have:=bR h2;cases this
    refine ih hp hB hd hfr h h1 htop fun a w h=> ?_
    show if j=id then Q .normal (TD ds a) w else Q (.exit j) (TD ds a) w
    rw[if_neg (fun e=>by rw[e,xh]at hb;cases hb)];exact hQ a w h
 |_=>intro B Q G a w e G' hp;simp[plainC]at hp
end
end Go.Proofs.YtehbbcdhahnkgaaGreat.Vm
