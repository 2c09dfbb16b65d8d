/- The value machine and the machine: regions, in their order and in any order. -/
import Derived.Test.YtehbbcdhahnkgaaGreatVMOpD
import Derived.Deep.LoopGhost
set_option linter.all false
set_option maxRecDepth 100000
set_option maxHeartbeats 0
namespace Go.Proofs.YtehbbcdhahnkgaaGreat.Vm
open Go
def Sg.put(s:Sg)(x:Wr):Sg:=⟨Gf s.S x,xm s.H x⟩
theorem GY(s:Sg):s.app []=s:=rfl
theorem qW(s:Sg)(x:Wr)(ws:List Wr):s.app (x::ws)=(s.put x).app ws:=rfl
theorem tW(s:Sg)(ws ws':List Wr):s.app (ws++ws')=(s.app ws).app ws':=by simp[Sg.app,kZ,a0o]
theorem rL{s s' s'':Sg}{l:lA}(h:s.oA s' l)(k:s'.oA s'' l):s.oA s'' l:=by rcases l with⟨_|_,n⟩;exact Eq.trans k h;exact Eq.trans k h
theorem uj{s s':Sg}{l:lA}(h:s.oA s' l):s'.oA s l:=by rcases l with⟨_|_,n⟩;exact Eq.symm h;exact Eq.symm h
theorem IG(s:Sg)(l:lA):s.oA s l:=by rcases l with⟨_|_,n⟩<;>rfl
theorem Ft{s s':Sg}(h:∀l,s.oA s' l):s'=s:=by
 cases s;cases s'
 congr 1
 ·funext n;exact h (false,n)
 ·funext n;exact h (true,n)
theorem xn{s:Sg}{x:Wr}{l:lA}(h:x.at≠l):s.oA (s.put x) l:=by
 rcases l with⟨_|_,n⟩<;>rcases x with⟨m,v⟩|⟨m,v⟩<;>simp only[Sg.oA,Sg.put,Gf,xm]
 ·exact a0h _ _ (fun e=>h (by simp[Wr.at,e]))
 ·exact a0h _ _ (fun e=>h (by simp[Wr.at,e]))
theorem Ew{s s':Sg}{x:Wr}:(s.put x).oA (s'.put x) x.at:=by
 rcases x with⟨m,v⟩|⟨m,v⟩<;>simp only[Sg.oA,Sg.put,Wr.at,Gf,xm,bQ]
theorem LU{s s':Sg}{x:Wr}{l:lA}(h:s.oA s' l):(s.put x).oA (s'.put x) l:=by
 by_cases e:x.at=l
 ·subst e;exact Ew
 ·exact rL (uj (xn e)) (rL h (xn e))
theorem Dk:∀{ws:List Wr} {s s':Sg} {l:lA},s.oA s' l->(s.app ws).oA (s'.app ws) l
 |[],_,_,_,h=>h
 |x::ws,s,s',l,h=>by rw[qW,qW];exact Dk (LU h)
theorem rf:∀{ws:List Wr} {s:Sg} {l:lA},(s.app (ws.filter fun x=>x.at==l)).oA (s.app ws) l
 |[],s,l=>IG s l
 |x::ws,s,l=>by
  simp only[List.filter_cons]
  split
  ·rw[qW,qW];exact rf
  ·rename_i h
   rw[qW]
   exact rL (uj (Dk (uj (xn (x:=x) (by simpa using h))))) rf
theorem xF{ws ws':List Wr}{s:Sg}{l:lA}(h:ws.filter (fun x=>x.at==l)=ws'.filter fun x=>x.at==l):(s.app ws).oA (s.app ws') l:=
 rL (uj rf) (by rw[h];exact rf)
structure Tc where
 fr:Nat
 ws:List Wr
 nx:Nat
 rd:List lA
def MY:Tc:=⟨0,[],0,[]⟩
abbrev AW:=List Tc
theorem Ab{α:Type}{Γ:vC}{cl:a2D}{S0:Sl}{H0:Hp}{r:α}{K:GS->RT α}{ops:List Oper}:∀{l:List Oper} {acc:List (List lA×List lA)} {G:GS},(regD Γ cl ops l acc G K).run S0 H0=some r->
 ∃(t:AW) (G':GS),t.length=l.length/\(∀(k:Nat) (o:Oper),l[k]?=some o->∃e:Tc,t[k]?=some e/\∀σ:Sg,JJ e.rd ((G.sg H0).app ((t.take k).flatMap (·.ws))) σ->(opRT Γ.toCtx cl ops e.fr o).run σ.S σ.H=some (e.ws,e.nx))/\
  (∀(k:Nat) (e:Tc),t[k]?=some e->G.next<=e.fr/\e.fr<=e.nx/\e.nx<=G'.next)/\(∀(k j:Nat) (e e':Tc),k<j->t[k]?=some e->t[j]?=some e'->e.nx<=e'.fr)/\
  G'.sg H0=(G.sg H0).app (t.flatMap (·.ws))/\G.next<=G'.next/\(K G').run S0 H0=some r/\drawOk (ri ops) [] (acc++t.map fun e=>(e.rd,e.ws.map Wr.at))=true/\backB 0 ops=true/\(iT H0 G->iT H0 G')
 |[],acc,G,h=>by
  simp only[regD]at h
  obtain⟨hc,h⟩:=cE h
  simp only[Bool.and_eq_true]at hc
  exact⟨[],G,rfl,fun k o hk=>by simp at hk,fun k e hk=>by simp at hk,fun k j e e' _ hk=>by simp at hk,rfl,Nat.le_refl _,h,by simpa using hc.1,hc.2,fun h=>h⟩
 |o::l,acc,G,h=>by
  simp only[regD]at h
  obtain⟨ws,nx,G1,rd,h1,h2,h3,h4,h6,hca⟩:=KG h
  obtain⟨t,G',q1,q2,q3,q4,q5,q6,q7,q8,q9,hca'⟩:=Ab h4
  refine⟨⟨G.next,ws,nx,rd⟩::t,G',by simp[q1],fun k o' hk=> ?_,fun k e hk=> ?_,fun k j e e' hkj hk hj=> ?_,?_,by omega,q7,by simpa using q8,q9,fun h=>hca' (hca h)⟩
  ·cases k with
   |zero=>
    simp at hk;subst hk
    exact⟨_,rfl,fun σ hσ=>h6 σ (by simpa [GY]using hσ)⟩
   |succ k=>
    obtain⟨e,p1,p2⟩:=q2 k o' (by simpa using hk)
    refine⟨e,by simpa using p1,fun σ hσ=>p2 σ fun l hl=> ?_⟩
    have:=hσ l hl
    simp only[List.take_succ_cons,List.flatMap_cons]at this
    rw[tW,<-h1]at this
    exact this
  ·cases k with
   |zero=>simp at hk;subst hk;exact⟨Nat.le_refl _,h3,by show nx<=G'.next;omega⟩
   |succ k=>
    obtain⟨p1,p2,p3⟩:=q3 k e (by simpa using hk)
    exact⟨by omega,p2,p3⟩
  ·cases j with
   |zero=>omega
   |succ j=>
    cases k with
    |zero=>
     simp at hk;subst hk
     have:=(q3 j e' (by simpa using hj)).1
     simp only;omega
    |succ k=>exact q4 k j e e' (by omega) (by simpa using hk) (by simpa using hj)
  ·simp only[List.flatMap_cons]
   rw[tW,<-h1]
   exact q5
theorem xh(n:Nat):Nat.beq n n=true:=Nat.beq_refl n
theorem a4m{x y:List lA}:touch x y=true↔∃p,p∈x/\p∈y:=by
 induction x with
 |nil=>simp[touch]
 |cons p x ih=>
  simp only[touch,Bool.or_eq_true,ih,List.any_eq_true,Bool.and_eq_true,beq_iff_eq]
  constructor
  ·rintro(⟨q,hq,h1,h2⟩|⟨q,h1,h2⟩)
   ·have e:p=q:=Prod.ext h1 (Nat.eq_of_beq_eq_true h2)
    exact⟨p,by simp,e▸hq⟩
   ·exact⟨q,by simp[h1],h2⟩
  ·rintro⟨q,h1,h2⟩
   rcases List.mem_cons.1 h1 with rfl|h1
   ·exact .inl ⟨q,h2,rfl,xh _⟩
   ·exact .inr ⟨q,h1,h2⟩
theorem uK{bs:List Nat}{x:List lA×List lA}{j:Nat}:∀{l:List (List lA×List lA)} {i:Nat},clashes bs x j l i=false->∀k y,l[k]?=some y->Dv y x=true->(bs.getD j 0).testBit (i+k)=true
 |[],i,h,k,y,hk,_=>by simp at hk
 |z::l,i,h,k,y,hk,hc=>by
  simp only[clashes,Bool.or_eq_false_iff]at h
  cases k with
  |zero=>simp at hk;subst hk;have:=h.1;rw[hc,Bool.and_true]at this;simpa using this
  |succ k=>rw[show i+(k+1)=i+1+k by omega];exact uK h.2 k y (by simpa using hk) hc
theorem sW{bs:List Nat}:∀{l done:List (List lA×List lA)},drawOk bs done l=true->∀j k x y,done.length<=k->j<k->(done++l)[k]?=some x->(done++l)[j]?=some y->Dv y x=true->(bs.getD k 0).testBit j=true
 |[],done,h,j,k,x,y,hk,hj,hx,hy,hc=>by simp at hx;have:=(List.getElem?_eq_some_iff.1 hx).1;omega
 |z::l,done,h,j,k,x,y,hk,hj,hx,hy,hc=>by
  simp only[drawOk,Bool.and_eq_true,Bool.not_eq_true']at h
  by_cases e:k=done.length
  ·subst e
   simp at hx;subst hx
   rw[List.getElem?_append_left hj]at hy
   have:=uK h.1 j y hy hc
   rwa[Nat.zero_add]at this
  ·refine sW h.2 j k x y (by simp;omega) hj (by simpa using hx) (by simpa using hy) hc
theorem yT:∀{l:List Oper} {acc:List Nat} {j:Nat},j<acc.length->(l.foldl (fun bs o=>bs++[rh bs o]) acc).getD j 0=acc.getD j 0
 |[],_,_,_=>rfl
 |o::l,acc,j,h=>by
  rw[List.foldl_cons,yT (by simp;omega)]
  simp[List.getD,List.getElem?_append_left h]
theorem JO:∀{l:List Oper} {acc:List Nat} {k:Nat} {o:Oper},l[k]?=some o->∃bs,(l.foldl (fun bs o=>bs++[rh bs o]) acc).getD (acc.length+k) 0=rh bs o/\∀j,j<acc.length+k->bs.getD j 0=(l.foldl (fun bs o=>bs++[rh bs o]) acc).getD j 0
 |[],_,_,_,h=>by simp at h
 |x::l,acc,k,o,h=>by
  cases k with
  |zero=>
   simp at h;subst h
   refine⟨acc,?_,fun j hj=> ?_⟩
   ·rw[List.foldl_cons,yT (by simp)]
    simp[List.getD]
   ·rw[yT (l:=x::l) (by omega)]
  |succ k=>
   obtain⟨bs,h1,h2⟩:=JO (acc:=acc++[rh acc x]) (show l[k]?=some o by simpa using h)
   simp only[List.length_append,List.length_singleton]at h1 h2
   refine⟨bs,?_,fun j hj=> ?_⟩
   ·rw[List.foldl_cons,<-h1];congr 1;omega
   ·rw[List.foldl_cons];exact h2 j (by omega)
theorem Fx{es:List Edge}{bs:List Nat}{m i:Nat}(h:(es.foldl (fun m e=>if Region.binds .any e then m|||2^e.on|||bs.getD e.on 0 else m) m).testBit i=true):
 m.testBit i=true∨∃e∈es,Region.binds .any e=true/\(e.on=i∨(bs.getD e.on 0).testBit i=true):=by
 induction es generalizing m with
 |nil=>exact .inl h
 |cons e es ih=>
  rw[List.foldl_cons]at h
  rcases ih h with h|⟨e',h1,h2⟩
  ·split at h
   ·rename_i hb
    rw[Nat.testBit_or,Nat.testBit_or,Bool.or_eq_true,Bool.or_eq_true]at h
    rcases h with(h|h)|h
    ·exact .inl h
    ·rw[Nat.testBit_two_pow]at h;exact .inr ⟨e,by simp,hb,.inl (by simpa using h)⟩
    ·exact .inr ⟨e,by simp,hb,.inr h⟩
   ·exact .inl h
  ·exact .inr ⟨e',by simp[h1],h2⟩
theorem yR:∀{l:List Oper} {i k:Nat} {o:Oper},backB i l=true->l[k]?=some o->∀e∈o.after.toList,Region.binds .any e=true->e.on<i+k
 |[],_,_,_,_,h,_,_,_=>by simp at h
 |x::l,i,k,o,hb,h,e,he,hbe=>by
  simp only[backB,Bool.and_eq_true,List.all_eq_true]at hb
  cases k with
  |zero=>
   simp at h;subst h
   have:=hb.1 e he
   rw[hbe]at this
   have h2:Nat.blt e.on i=true:=by simpa only[Bool.not_true,Bool.false_or]using this
   have:=Nat.le_of_ble_eq_true h2
   omega
  |succ k=>have:=yR hb.2 (show l[k]?=some o by simpa using h) e he hbe;omega
theorem yS{ops:List Oper}(hb:backB 0 ops=true){S:Nat->Prop}(hS:∀(k:Nat) (o:Oper),S k->ops[k]?=some o->∀e∈o.after.toList,Region.binds .any e=true->S e.on):
 ∀(k:Nat) (o:Oper),ops[k]?=some o->(∀e∈o.after.toList,Region.binds .any e=true->S e.on)->∀i,((ri ops).getD k 0).testBit i=true->S i:=by
 intro k
 induction k using Nat.strongRecOn with
 |_ k ih=>
  intro o ho he i hi
  obtain⟨bs,h1,h2⟩:=JO (acc:=[]) ho
  simp only[List.length_nil,Nat.zero_add]at h1 h2
  have:(ri ops).getD k 0=rh bs o:=h1
  rw[this]at hi
  rcases Fx hi with h|⟨e,h3,h4,h5⟩
  ·simp at h
  ·have hlt:=yR hb ho e h3 h4
   rw[Nat.zero_add]at hlt
   rcases h5 with rfl|h5
   ·exact he e h3 h4
   ·rw[h2 e.on hlt]at h5
    have hkl:=(List.getElem?_eq_some_iff.1 ho).1
    have hoe:ops[e.on]?=some ops[e.on]:=List.getElem?_eq_getElem (by omega)
    exact ih e.on hlt _ hoe (fun e' q1 q2=>hS e.on _ (he e h3 h4) hoe e' q1 q2) i h5
def AW.w(t:AW)(k:Nat):List Wr:=(t.getD k MY).ws
def AW.of(t:AW)(p:Nat->Bool):List Wr:=(List.range t.length).flatMap fun k=>if p k then t.w k else []
theorem vS{α β:Type}(f:α->List β)(d:α):∀(t:List α) (i:Nat),(t.take i).flatMap f=(List.range t.length).flatMap fun k=>if k<i then f (t.getD k d)else []
 |[],i=>by simp
 |x::t,i=>by
  rw[List.length_cons,List.range_succ_eq_map,List.flatMap_cons,List.flatMap_map]
  cases i with
  |zero=>simp
  |succ i=>
   rw[List.take_succ_cons,List.flatMap_cons,vS f d t i]
   simp
theorem ER(t:AW)(i:Nat):(t.take i).flatMap (·.ws)=t.of fun k=>decide (k<i):=by
 rw[vS (·.ws) MY]
 simp[AW.of,AW.w]
theorem Ow(t:AW){p:Nat->Bool}(h:∀k,k<t.length->p k=true):t.flatMap (·.ws)=t.of p:=by
 have:=ER t t.length
 rw[List.take_length]at this
 rw[this]
 unfold AW.of
 have:∀{l:List Nat},(∀k∈l,k<t.length)->l.flatMap (fun k=>if decide (k<t.length)=true then t.w k else [])=l.flatMap (fun k=>if p k=true then t.w k else []):=by
  intro l
  induction l with
  |nil=>intro _;rfl
  |cons x l ih=>intro hl;rw[List.flatMap_cons,List.flatMap_cons,ih fun k hk=>hl k (by simp[hk])];simp[hl x (by simp),h x (hl x (by simp))]
 exact this fun k hk=>by simpa using hk
theorem Gu{t:AW}{p p':Nat->Bool}{l:lA}(h:∀k,k<t.length->(p k=p' k∨(t.w k).filter (fun x=>x.at==l)=[])):(t.of p).filter (fun x=>x.at==l)=(t.of p').filter fun x=>x.at==l:=by
 unfold AW.of
 rw[List.filter_flatMap,List.filter_flatMap]
 have:∀{q:List Nat},(∀k∈q,k<t.length)->q.flatMap (fun k=>((if p k=true then t.w k else []).filter fun x=>x.at==l))=q.flatMap (fun k=>((if p' k=true then t.w k else []).filter fun x=>x.at==l)):=by
  intro q
  induction q with
  |nil=>intro _;rfl
  |cons x q ih=>
   intro hq
   rw[List.flatMap_cons,List.flatMap_cons,ih fun k hk=>hq k (by simp[hk])]
   congr 1
   rcases h x (hq x (by simp))with e|e
   ·rw[e]
   ·split<;>split<;>simp[e]
 exact this fun k hk=>by simpa using hk
theorem uM{ws:List Wr}{l:lA}(h:l∉ws.map Wr.at):ws.filter (fun x=>x.at==l)=[]:=by
 rw[List.filter_eq_nil_iff]
 intro x hx e
 exact h (List.mem_map.2 ⟨x,hx,by simpa using e⟩)
theorem Ml{t:AW}{p:Nat->Bool}{i:Nat}{l:lA}(hi:i<t.length)(hp:p i=false)(h:l∈(t.w i).map Wr.at->∀k,k<t.length->i<k->p k=true->l∉(t.w k).map Wr.at):
 (t.of p++t.w i).filter (fun x=>x.at==l)=(t.of fun k=>p k||decide (k=i)).filter fun x=>x.at==l:=by
 have hr:List.range t.length=List.range i++i::List.range' (i+1) (t.length-i-1):=by
  rw[List.range_eq_range',List.range_eq_range',<-List.range'_succ]
  have:=List.range'_append_1 (s:=0) (m:=i) (n:=t.length-i-1+1)
  rw[Nat.zero_add]at this
  rw[this];congr 1;omega
 have hsame:∀{q:List Nat},(∀k∈q,k≠i)->q.flatMap (fun k=>if(p k||decide (k=i))=true then t.w k else [])=q.flatMap (fun k=>if p k=true then t.w k else []):=by
  intro q
  induction q with
  |nil=>intro _;rfl
  |cons x q ih=>intro hq;rw[List.flatMap_cons,List.flatMap_cons,ih fun k hk=>hq k (by simp[hk])];simp[hq x (by simp)]
 unfold AW.of
 rw[hr,List.flatMap_append,List.flatMap_append,List.flatMap_cons,List.flatMap_cons]
 rw[hsame (q:=List.range i) (fun k hk=>by simp at hk;omega),hsame (q:=List.range' (i+1) (t.length-i-1)) (fun k hk=>by simp[List.mem_range'_1]at hk;omega)]
 simp only[hp,Bool.false_or,decide_true,if_true,Bool.false_eq_true,if_false,List.nil_append,List.filter_append,List.append_assoc]
 congr 1
 by_cases hl:l∈(t.w i).map Wr.at
 ·have:((List.range' (i+1) (t.length-i-1)).flatMap (fun k=>if p k=true then t.w k else [])).filter (fun x=>x.at==l)=[]:=by
   rw[List.filter_eq_nil_iff]
   intro x hx e
   obtain⟨k,hk,hxk⟩:=List.mem_flatMap.1 hx
   rw[List.mem_range'_1]at hk
   cases hpk:p k with
   |false=>rw[hpk]at hxk;simp at hxk
   |true=>rw[hpk]at hxk;exact h hl k (by omega) (by omega) hpk (List.mem_map.2 ⟨x,by simpa using hxk,by simpa using e⟩)
  rw[this];simp
 ·rw[uM hl];simp
theorem zg{p p':Nat->Bool}{i:Nat}(hp:p i=true)(hp':p' i=false)(h:∀k,k≠i->p' k=p k):∀n,i<n->(List.range n).countP p=(List.range n).countP p'+1
 |0,hi=>by omega
 |n+1,hi=>by
  rw[List.range_succ,List.countP_append,List.countP_append]
  have hb:∀n,n<=i->(List.range n).countP p=(List.range n).countP p':=by
   intro n hn
   apply List.countP_congr
   intro k hk
   simp at hk
   rw[h k (by omega)]
  by_cases e:n=i
  ·subst e
   rw[hb n (Nat.le_refl _)]
   simp[hp,hp']
  ·rw[zg hp hp' h n (by omega)]
   simp[List.countP_cons,h n e]
   omega
section
variable {P:Program}{Γ:Ctx}{ρ:En}{N:Nat}{S:Sl}{H:Hp}{m:Mp}{a:Act}{w:World}{o:Oper}{U:Nat->Prop}{fresh:Nat}{r:Ws}{Q:Exit->Act->World->Prop}{cl:a2D}
theorem HD(hT:gj P Γ.sj)(hcl:nT P ρ cl)(h:nU ρ N S H m a w)(hU:∀id,m.has id->U id)(hd:∀d,o.dst=some d->d<N)(hf:∀j,fresh<=j->j<r.2->¬U j){ops:Array Oper}
 (hr:(opRT Γ cl ops.toList fresh o).run S H=some r):if Region.wanted o (yielded ops a.tmps)then o.wp P a w (a0q ρ N U fresh S H m r) Q else a0q ρ N U fresh S H m r (a.put o.dst undef) w:=by
 have hund:(J8 o fresh).run S H=some r->a0q ρ N U fresh S H m r (a.put o.dst undef) w:=by
  intro hr
  have hr':(eu o (.Ar []) [] fresh).run S H=some r:=by
   unfold eu
   unfold J8 at hr
   cases hdst:o.dst with
   |none=>rw[hdst]at hr;exact hr
   |some d=>rw[hdst]at hr;exact hr
  exact wN h hd (Mp.le_refl m) (ws0:=[]) (show a0d ρ (cw H []) m w from h.heap) jz (hv:=.Ar []) rfl (fun id hi=>.inl (hU id hi)) hr'
 unfold opRT at hr
 cases hgd:o.guard with
 |none=>
  rw[hgd]at hr
  rw[if_pos (by simp[Region.wanted,hgd])]
  exact B9 hT hcl h hU hd hf hr
 |some jw=>
  obtain⟨j,want⟩:=jw
  rw[hgd]at hr
  simp only at hr
  split at hr
  ·rename_i d hdj
   have hdj':(ops[j]?).bind (·.dst)=some d:=by rw[<-hdj];simp
   replace hr:=rZ hr
   obtain⟨v,hv,hr⟩:=hr
   have hslot:=h.bk d v hv
   have hy:∀b,v=.b b->yielded ops a.tmps j=some b:=by
    intro b e
    subst e
    simp only[den,Option.some.injEq]at hslot
    have hlt:d<a.tmps.size:=by
     rcases Nat.lt_or_ge d a.tmps.size with h|h
     ·exact h
     ·simp[Array.getD,Nat.not_lt.2 h,undef]at hslot
    unfold yielded
    rw[hdj',Option.bind_some,Array.getElem?_eq_getElem hlt]
    have:a.tmps[d]=.bool b:=by rw[hslot];simp[hlt]
    rw[this]
   split at hr
   ·rename_i b
    have hy:=hy b rfl
    have yes:b=want->(wW Γ cl fresh o).run S H=some r->if Region.wanted o (yielded ops a.tmps)then o.wp P a w (a0q ρ N U fresh S H m r) Q else a0q ρ N U fresh S H m r (a.put o.dst undef) w:=by
     intro e hr
     rw[if_pos (by simp[Region.wanted,hgd,hy,e])]
     exact B9 hT hcl h hU hd hf hr
    have no:b≠want->(J8 o fresh).run S H=some r->if Region.wanted o (yielded ops a.tmps)then o.wp P a w (a0q ρ N U fresh S H m r) Q else a0q ρ N U fresh S H m r (a.put o.dst undef) w:=by
     intro e hr
     rw[if_neg (by simp[Region.wanted,hgd,hy,e])]
     exact hund hr
    cases want with
    |true=>
     rcases BC hr with⟨e,hr⟩|⟨e,hr⟩<;>(rw[hv]at e;cases e)
     ·exact yes rfl hr
     ·exact no (by simp) hr
    |false=>
     rcases BC hr with⟨e,hr⟩|⟨e,hr⟩<;>(rw[hv]at e;cases e)
     ·exact no (by simp) hr
     ·exact yes rfl hr
   ·have hy0:yielded ops a.tmps j=none:=by
     simp only[den,denL,Option.some.injEq]at hslot
     unfold yielded
     rw[hdj',Option.bind_some]
     rcases Nat.lt_or_ge d a.tmps.size with hlt|hge
     ·rw[Array.getElem?_eq_getElem hlt]
      have:a.tmps[d]=.tuple #[]:=by simpa [hlt]using hslot.symm
      rw[this]
     ·rw[Array.getElem?_eq_none hge]
    rw[if_neg (by simp[Region.wanted,hgd,hy0])]
    exact hund hr
   ·exact aA hr
  ·exact aA hr
end
structure Bs where
 N:Nat
 U:Nat->Prop
 n0:Nat
 mb:Mp
 H0:Hp
 mj:Nat
 Fr:Nat->Prop
 a0:Nat->Value
structure lE(ρ:En)(B:Bs)(G:GS)(a:Act)(w:World):Prop where
 fr:∀k,B.Fr k->a.tmps.getD k undef=B.a0 k
 rep:∃m,B.mb.le m/\nU ρ B.N G.bk.get (G.da B.H0) m a w/\∀id,m.has id->B.U id∨(B.n0<=id/\id<G.next)
 low:B.n0<=G.next
def XE.out:XE->Exit
 | .normal=>.normal
 | .exit id=>.exit id
 | .ret=>.ret
theorem mI{a:Act}{d:Option Tmp}{v:Value}{k:Nat}(h:d≠some k):(a.put d v).tmps.getD k undef=a.tmps.getD k undef:=by
 cases d with
 |none=>rfl
 |some d=>
  have:d≠k:=fun e=>h (by rw[e])
  simp only[Act.put,Array.getD_eq_getD_getElem?]
  rw[Array.getElem?_setIfInBounds_ne this]
theorem EU{P:Program}{o:Oper}{a:Act}{w:World}{next:Act->World->Prop}{Q:Exit->Act->World->Prop}(h:o.wp P a w next Q):
 o.wp P a w (fun a' w'=>next a' w'/\∀k,o.dst≠some k->a'.tmps.getD k undef=a.tmps.getD k undef) Q:=by
 unfold Oper.wp at h⊢
 unfold Oper.upon at h⊢
 split at h
 ·exact⟨h,fun k hk=>mI hk⟩
 ·exact⟨h,fun k hk=>mI hk⟩
 ·exact⟨h,fun k hk=>mI hk⟩
 ·refine h.mono fun e w' he=> ?_
  cases e with
  |returned v=>exact⟨he,fun k hk=>mI hk⟩
  |panicked chain=>exact he
  |outgrown=>exact he
 ·exact h.mono fun v w' he=>⟨he,fun k hk=>mI hk⟩
 ·exact h
 ·exact h
structure BI(B:Bs):Prop where
 jI:∀j,B.n0<=j->j<B.mj->¬B.U j
def dstOk(N:Nat)(ops:List Oper):Bool:=ops.all fun o=>match o.dst with
 |some d=>Nat.blt d N
 |none=>true
theorem Kf{N:Nat}{ops:List Oper}(h:dstOk N ops=true){o:Oper}(ho:o∈ops):∀d,o.dst=some d->d<N:=by
 intro d hd
 have:=List.all_eq_true.1 h o ho
 rw[hd]at this
 exact Nat.le_of_ble_eq_true this
section
variable {P:Program}{Γ:Ctx}{ρ:En}{B:Bs}{cl:a2D}{Q:Exit->Act->World->Prop}{S0:Sl}
theorem CL{α:Type}{K:GS->RT α}{r:α}{H0:Hp}{ops:List Oper}:∀{l:List Oper} {G:GS},(tT Γ cl ops l G K).run S0 H0=some r->∃G',(K G').run S0 H0=some r/\G.next<=G'.next/\(iT H0 G->iT H0 G')
 |[],G,h=>⟨G,h,Nat.le_refl _,fun h=>h⟩
 |o::l,G,h=>by
  have h':((opRT Γ cl ops G.next o).Bk G fun G=>tT Γ cl ops l G K).run S0 H0=some r:=h
  obtain⟨ws,nx,G',h1,h2,h3,h4,h6,hca⟩:=yA h'
  obtain⟨G2,q1,q2,q3⟩:=CL h6
  exact⟨G2,q1,by omega,fun h=>q3 (hca h)⟩
theorem CK(hT:gj P Γ.sj)(hcl:nT P ρ cl)(hB:BI B){ops:Array Oper}(hops:dstOk B.N ops.toList=true)(hfr:∀o∈ops.toList,∀d,o.dst=some d->¬B.Fr d){G':GS}(htop:G'.next<=B.mj)
 (hK:∀a w,lE ρ B G' a w->Q .normal a w):∀{l:List Oper} {i:Nat} {G:GS} {a:Act} {w:World},
 ops.toList.drop i=l->lE ρ B G a w->(tT Γ cl ops.toList l G fun G=>.dH G).run S0 B.H0=some G'->wpOps P ops Q (List.range' i l.length) a w
 |[],i,G,a,w,hl,h,hr=>by
  have hr:(RT.dH G:RT GS).run S0 B.H0=some G':=hr
  have:=bR hr
  subst this
  exact hK a w h
 |o::l,i,G,a,w,hl,h,hr=>by
  have hr':((opRT Γ cl ops.toList G.next o).Bk G fun G=>tT Γ cl ops.toList l G fun G=>.dH G).run S0 B.H0=some G':=hr
  obtain⟨ws,nx,G1,h1,h2,h3,h4,h6,hca⟩:=yA hr'
  obtain⟨G2,q1,q2,_⟩:=CL h6
  have:=bR q1
  subst this
  have hi:ops[i]?=some o:=by
   have:(ops.toList.drop i)[0]?=some o:=by rw[hl];rfl
   simpa using this
  have hl':ops.toList.drop (i+1)=l:=by rw[<-List.drop_drop,hl];rfl
  have hmem:o∈ops.toList:=by
   have:ops.toList[i]?=some o:=by rw[Array.getElem?_toList];exact hi
   exact List.mem_of_getElem? this
  obtain⟨hfr0,⟨m,m1,m2,m3⟩,low⟩:=h
  have hop:=HD (Q:=Q) (fresh:=G.next) (U:=fun id=>B.U id∨(B.n0<=id/\id<G.next)) hT hcl m2 m3 (Kf hops hmem) (fun j j1 j2 j3=>by
   simp only at j2
   rcases j3 with j3|j3
   ·exact hB.jI j (by omega) (by omega) j3
   ·omega) h1
  have hsl:G1.bk.get=og G.bk.get ws:=congrArg Sg.S h2
  have hov:G1.da B.H0=cw (G.da B.H0) ws:=congrArg Sg.H h2
  have step:∀a' w',a0q ρ B.N (fun id=>B.U id∨(B.n0<=id/\id<G.next)) G.next G.bk.get (G.da B.H0) m (ws,nx) a' w'/\(∀k,o.dst≠some k->a'.tmps.getD k undef=a.tmps.getD k undef)->wpOps P ops Q (List.range' (i+1) l.length) a' w':=by
   rintro a' w' ⟨⟨m',e1,e2,e3⟩,e4⟩
   refine CK hT hcl hB hops hfr htop hK hl' ⟨fun k hk=>(e4 k fun e=>hfr o hmem k e hk).trans (hfr0 k hk),⟨m',Mp.le_trans m1 e1,by rw[hsl,hov];exact e2,fun id hid=> ?_⟩,by omega⟩ h6
   rcases e3 id hid with(q|q)|q
   ·exact .inl q
   ·exact .inr ⟨q.1,by omega⟩
   ·exact .inr ⟨by omega,by omega⟩
  simp only[List.length_cons,List.range'_succ,wpOps,hi]
  split at hop
  ·rename_i hw
   rw[if_pos hw]
   exact .inl (Oper.wp_mono step (EU hop))
  ·rename_i hw
   rw[if_neg hw]
   exact step _ _ ⟨hop,fun k hk=>mI hk⟩
end
section
variable {P:Program}{Γ:vC}{ρ:En}{B:Bs}{cl:a2D}{Q:Exit->Act->World->Prop}{S0:Sl}
theorem Oh{α:Type}{K:GS->RT α}{r:α}{H0:Hp}{ops l:List Oper}{acc:List (List lA×List lA)}{G:GS}(h:(regD Γ cl ops l acc G K).run S0 H0=some r):∃G',(K G').run S0 H0=some r/\G.next<=G'.next/\(iT H0 G->iT H0 G'):=by
 obtain⟨t,G',_,_,_,_,_,h6,h7,_,_,h8⟩:=Ab h
 exact⟨G',h7,h6,h8⟩
theorem HN(hT:gj P Γ.sj)(hcl:nT P ρ cl)(hB:BI B){ops:Array Oper}(hops:dstOk B.N ops.toList=true)(hfr:∀o∈ops.toList,∀d,o.dst=some d->¬B.Fr d){G':GS}(htop:G'.next<=B.mj)
 (hK:∀a w,lE ρ B G' a w->Q .normal a w) {G:GS} {a:Act} {w:World}
 (h:lE ρ B G a w) (hr:(regD Γ cl ops.toList ops.toList [] G fun G=>.dH G).run S0 B.H0=some G'):wpAny P .any ops Q ops.size (Array.replicate ops.size false) a w:=by
 obtain⟨t,G2,t1,t2,t3,t3',t3'',t0,t4,t5,t6,_⟩:=Ab hr
 have:=bR t4
 subst this
 have t1':t.length=ops.size:=by simpa using t1
 rw[List.nil_append]at t5
 obtain⟨s,hs⟩:∃s,s=G.sg B.H0:=⟨_,rfl⟩
 rw[<-hs]at t2 t3''
 have clash_of:∀(j k:Nat) (l:lA),j<k->k<t.length->(l∈(t.getD k MY).rd∨l∈(t.w k).map Wr.at)->l∈(t.w j).map Wr.at->((ri ops.toList).getD k 0).testBit j=true:=by
  intro j k l hj hk hl hlj
  have e1:(t.map fun p=>(p.rd,p.ws.map Wr.at))[k]?=some ((t.getD k MY).rd,(t.w k).map Wr.at):=by
   simp[AW.w,List.getElem?_eq_getElem hk]
  have e2:(t.map fun p=>(p.rd,p.ws.map Wr.at))[j]?=some ((t.getD j MY).rd,(t.w j).map Wr.at):=by
   simp[AW.w,List.getElem?_eq_getElem (show j<t.length by omega)]
  refine sW t5 j k _ _ (by simp) hj (by rw[List.nil_append];exact e1) (by rw[List.nil_append];exact e2) ?_
  unfold Dv
  rw[Bool.or_eq_true,Bool.or_eq_true]
  rcases hl with hl|hl
  ·exact .inl (.inl (a4m.2 ⟨l,hlj,hl⟩))
  ·exact .inl (.inr (a4m.2 ⟨l,hlj,hl⟩))
 have clash_of':∀(j k:Nat) (l:lA),j<k->k<t.length->l∈(t.w k).map Wr.at->l∈(t.getD j MY).rd->((ri ops.toList).getD k 0).testBit j=true:=by
  intro j k l hj hk hl hlj
  have e1:(t.map fun p=>(p.rd,p.ws.map Wr.at))[k]?=some ((t.getD k MY).rd,(t.w k).map Wr.at):=by
   simp[AW.w,List.getElem?_eq_getElem hk]
  have e2:(t.map fun p=>(p.rd,p.ws.map Wr.at))[j]?=some ((t.getD j MY).rd,(t.w j).map Wr.at):=by
   simp[AW.w,List.getElem?_eq_getElem (show j<t.length by omega)]
  refine sW t5 j k _ _ (by simp) hj (by rw[List.nil_append];exact e1) (by rw[List.nil_append];exact e2) ?_
  unfold Dv
  rw[Bool.or_eq_true,Bool.or_eq_true]
  exact .inr (a4m.2 ⟨l,hl,hlj⟩)
 have key:∀(fuel:Nat) (listed:Array Bool) (a:Act) (w:World) (m:Mp),listed.size=ops.size->
  (List.range ops.size).countP (fun k=> !(listed.getD k false))=fuel->
  (∀(k:Nat) (o:Oper),listed.getD k false=true->ops.toList[k]?=some o->∀e∈o.after.toList,Region.binds .any e=true->listed.getD e.on false=true)->
  (∀k,B.Fr k->a.tmps.getD k undef=B.a0 k)->B.mb.le m->nU ρ B.N (s.app (t.of fun k=>listed.getD k false)).S (s.app (t.of fun k=>listed.getD k false)).H m a w->
  (∀id,m.has id->(B.U id∨(B.n0<=id/\id<G.next))∨∃k e,listed.getD k false=true/\t[k]?=some e/\e.fr<=id/\id<e.nx)->wpAny P .any ops Q fuel listed a w:=by
  intro fuel
  have dH:∀(listed:Array Bool) (a:Act) (w:World) (m:Mp),listed.size=ops.size->(∀k,k<ops.size->listed.getD k false=true)->
   (∀k,B.Fr k->a.tmps.getD k undef=B.a0 k)->B.mb.le m->nU ρ B.N (s.app (t.of fun k=>listed.getD k false)).S (s.app (t.of fun k=>listed.getD k false)).H m a w->
   (∀id,m.has id->(B.U id∨(B.n0<=id/\id<G.next))∨∃k e,listed.getD k false=true/\t[k]?=some e/\e.fr<=id/\id<e.nx)->Q .normal a w:=by
   intro listed a w m hsz hall hfr0 eY hrep hdom
   have FI:s.app (t.of fun k=>listed.getD k false)=G'.sg B.H0:=by
    rw[t3'',Ow t (p:=fun k=>listed.getD k false) (fun k hk=>hall k (by omega))]
   rw[FI]at hrep
   refine hK a w ⟨hfr0,⟨m,eY,hrep,fun id hid=> ?_⟩,by have:=h.low;omega⟩
   rcases hdom id hid with(q|q)|⟨k,e,q1,q2,q3,q4⟩
   ·exact .inl q
   ·exact .inr ⟨q.1,by omega⟩
   ·obtain⟨z1,z2,z3⟩:=t3 k e q2
    have:=h.low
    exact .inr ⟨by omega,by omega⟩
  have none_ready:∀(listed:Array Bool),listed.size=ops.size->Region.ready .any ops listed=[]->∀k,k<ops.size->listed.getD k false=true:=by
   intro listed hsz hnil k
   induction k using Nat.strongRecOn with
   |_ k ih=>
    intro hk
    cases hlk:listed.getD k false with
    |true=>rfl
    |false=>
     have:k∈Region.ready .any ops listed:=by
      unfold Region.ready
      rw[List.mem_filter]
      refine⟨by simpa using hk,?_⟩
      have hk2:k<listed.size:=by omega
      have e1:listed.getD k true=false:=by simpa [Array.getD,hk2]using hlk
      simp only[e1,Bool.not_false,Bool.true_and]
      rw[Array.getElem?_eq_getElem hk]
      simp only[Option.map_some,Option.getD_some]
      rw[Array.all_eq_true']
      intro e he
      cases hb:Region.binds .any e with
      |false=>rfl
      |true=>
       have hlt:=yR (k:=k) (o:=ops[k]) t6 (by simp[hk]) e (by simpa using he) hb
       rw[Nat.zero_add]at hlt
       rw[ih e.on hlt (by omega)];rfl
     rw[hnil]at this;simp at this
  induction fuel with
  |zero=>
   intro listed a w m hsz hcnt hcl hfr0 eY hrep hdom
   have hall:∀k,k<ops.size->listed.getD k false=true:=by
    intro k hk
    have:=List.countP_eq_zero.1 hcnt k (by simpa using hk)
    simpa using this
   refine⟨?_,dH listed a w m hsz hall hfr0 eY hrep hdom⟩
   unfold Region.ready
   rw[List.filter_eq_nil_iff]
   intro k hk
   have hk':k<ops.size:=by simpa using hk
   have e1:listed.getD k true=true:=by have:=hall k hk';simpa [Array.getD,show k<listed.size by omega]using this
   simp[e1]
  |succ fuel ih=>
   intro listed a w m hsz hcnt hcl0 hfr0 eY hrep hdom
   refine⟨fun hnil=>dH listed a w m hsz (none_ready listed hsz hnil) hfr0 eY hrep hdom,fun i hi=> ?_⟩
   unfold Region.ready at hi
   rw[List.mem_filter,Bool.and_eq_true]at hi
   obtain⟨hi1,hi2,hi3⟩:=hi
   have hin:i<ops.size:=by simpa using hi1
   have hil:i<listed.size:=by omega
   have hun:listed.getD i false=false:=by simpa [Array.getD,hil]using hi2
   have ho:ops[i]?=some ops[i]:=Array.getElem?_eq_getElem hin
   have ho':ops.toList[i]?=some ops[i]:=by simp[hin]
   rw[ho]at hi3
   simp only[Option.map_some,Option.getD_some]at hi3
   rw[Array.all_eq_true']at hi3
   have hedge:∀e∈ops[i].after.toList,Region.binds .any e=true->listed.getD e.on false=true:=by
    intro e he hb
    have:=hi3 e (by simpa using he)
    rw[hb]at this
    simpa using this
   have hbef:=yS t6 (S:=fun k=>listed.getD k false=true) hcl0 i _ ho' hedge
   have hbef2:∀k,listed.getD k false=true->k<t.length->∀j,((ri ops.toList).getD k 0).testBit j=true->listed.getD j false=true:=by
    intro k hk hkl
    have hk2:k<ops.size:=by omega
    exact yS t6 (S:=fun k=>listed.getD k false=true) hcl0 k ops[k] (by simp[hk2]) (hcl0 k _ hk (by simp[hk2]))
   obtain⟨ei,q1,q2⟩:=t2 i _ ho'
   have hw:t.w i=ei.ws:=by simp[AW.w,q1]
   have hrd:(t.getD i MY).rd=ei.rd:=by simp[q1]
   obtain⟨f1,f2,f3⟩:=t3 i ei q1
   have hrun:=q2 (s.app (t.of fun k=>listed.getD k false)) (by
    intro l hl
    rw[ER]
    refine xF (Gu fun k hk=> ?_)
    by_cases hlk:l∈(t.w k).map Wr.at
    ·left
     rcases Nat.lt_trichotomy k i with h1|h1|h1
     ·rw[hbef k (clash_of k i l h1 (by omega) (.inl (by rw[hrd];exact hl)) hlk)];simp[h1]
     ·subst h1;rw[hun];simp
     ·cases hlis:listed.getD k false with
      |false=>simp;omega
      |true=>
       have:=hbef2 k hlis hk i (clash_of' i k l h1 hk hlk (by rw[hrd];exact hl))
       rw[hun]at this;cases this
    ·exact .inr (uM hlk))
   have hop:=HD (Q:=Q) (fresh:=ei.fr) hT hcl hrep hdom (Kf hops (List.mem_of_getElem? ho')) (fun j j1 j2 j3=>by
    simp only at j2
    have hlow:=h.low
    rcases j3 with(j3|j3)|⟨k,ek,z1,z2,z3,z4⟩
    ·exact hB.jI j (by omega) (by omega) j3
    ·omega
    ·rcases Nat.lt_trichotomy k i with e|e|e
     ·have:=t3' k i ek ei e z2 q1;omega
     ·subst e;rw[hun]at z1;cases z1
     ·have:=t3' i k ei ek e q1 z2;omega) hrun
   have hset:∀k,(listed.setIfInBounds i true).getD k false=(listed.getD k false||decide (k=i)):=by
    intro k
    by_cases e:k=i
    ·subst e;simp[Array.getD,hil]
    ·simp[e];rw[Array.getElem?_setIfInBounds_ne (Ne.symm e)]
   have step:∀a' w',a0q ρ B.N (fun id=>(B.U id∨(B.n0<=id/\id<G.next))∨∃k e,listed.getD k false=true/\t[k]?=some e/\e.fr<=id/\id<e.nx) ei.fr (s.app (t.of fun k=>listed.getD k false)).S (s.app (t.of fun k=>listed.getD k false)).H m (ei.ws,ei.nx) a' w'/\(∀k,ops[i].dst≠some k->a'.tmps.getD k undef=a.tmps.getD k undef)->wpAny P .any ops Q fuel (listed.setIfInBounds i true) a' w':=by
    rintro a' w' ⟨⟨m',x1,x2,x3⟩,x4⟩
    have hlike:∀l,(s.app (t.of (fun k=>listed.getD k false)++ei.ws)).oA (s.app (t.of fun k=>(listed.setIfInBounds i true).getD k false)) l:=by
     intro l
     rw[<-hw,funext hset]
     refine xF (Ml (by omega) hun fun hl k hk hik hlis hlk=> ?_)
     have:=hbef2 k hlis hk i (clash_of i k l hik hk (.inr hlk) hl)
     rw[hun]at this;cases this
    have FI:=Ft hlike
    rw[tW]at FI
    refine ih _ a' w' m' (by simpa using hsz) ?_ ?_ (fun k hk=>(x4 k fun e=>hfr _ (List.mem_of_getElem? ho') k e hk).trans (hfr0 k hk)) (Mp.le_trans eY x1) (by rw[FI];exact x2) (fun id hid=> ?_)
    ·have:=zg (p:=fun k=> !(listed.getD k false)) (p':=fun k=> !((listed.setIfInBounds i true).getD k false)) (i:=i) (by rw[hun];rfl) (by rw[hset];simp) (fun k hk=>by rw[hset];simp[hk]) ops.size hin
     omega
    ·intro k o hk hko e he hb
     rw[hset]at hk⊢
     by_cases e1:k=i
     ·subst e1
      rw[ho']at hko;cases hko
      rw[hedge e he hb];rfl
     ·have:listed.getD k false=true:=by simpa [e1]using hk
      rw[hcl0 k o this hko e he hb];rfl
    ·rcases x3 id hid with(q|⟨k,e,z1,z2⟩)|q
     ·exact .inl q
     ·exact .inr ⟨k,e,by rw[hset,z1];rfl,z2⟩
     ·exact .inr ⟨i,ei,by rw[hset];simp,q1,q⟩
   unfold wpOp
   rw[ho]
   simp only
   split at hop
   ·rename_i hwt
    rw[if_pos hwt]
    exact .inl (Oper.wp_mono step (EU hop))
   ·rename_i hwt
    rw[if_neg hwt]
    exact step _ _ ⟨hop,fun k hk=>mI hk⟩
 have hemp:t.of (fun k=>(Array.replicate ops.size false).getD k false)=[]:=by
  unfold AW.of
  rw[List.flatMap_eq_nil_iff]
  intro k _
  by_cases hk:k<ops.size<;>simp[Array.getD,hk]
 obtain⟨m,m1,m2,m3⟩:=h.rep
 refine key ops.size _ a w m (by simp) ?_ ?_ h.fr m1 ?_ (fun id hid=>.inl (m3 id hid))
 ·have:(List.range ops.size).countP (fun k=> !((Array.replicate ops.size false).getD k false))=(List.range ops.size).length:=by
   rw[List.countP_eq_length]
   intro k hk
   have hk:k<ops.size:=by simpa using hk
   simp[Array.getD,hk]
  rw[this];simp
 ·intro k o hk
  by_cases hk2:k<ops.size<;>simp[Array.getD,hk2]at hk
 ·rw[hemp,GY,hs]
  exact m2
def codeDst(N:Nat):Code->Bool
 | .region _ ops _=>dstOk N ops.toList
 | .seq a b=>codeDst N a&&codeDst N b
 | .cond _ a b=>codeDst N a&&codeDst N b
 | .block _ c=>codeDst N c
 | .loop c=>codeDst N c
 |_=>true
theorem DE{G:GS}{a:Act}{w:World}(h:lE ρ B G a w):lE ρ B G a {w with drawn:=w.drawn+1}:=by
 obtain⟨hfr,⟨m,m1,m2,m3⟩,low⟩:=h
 exact⟨hfr,⟨m,m1,⟨m2.heap.grow (fun _ _=>rfl) ⟨rfl,rfl,rfl,by first|exact Nat.le_refl _|exact Nat.le_succ _⟩,m2.bk,m2.defers,m2.size⟩,m3⟩,low⟩
end
section
variable {S0:Sl}{H0:Hp}{Γ:vC}{cl:a2D}
theorem qV{α β:Type}(K:β->List lA->GS->RT α):∀(rt:RT β) (lg:List lA) (G:GS),(rt.jm lg G K).run S0 H0=((rt.jm lg G fun a l G=>.dH (a,l,G)).run S0 H0).bind fun p=>(K p.1 p.2.1 p.2.2).run S0 H0:=by
 intro rt
 induction rt with
 |fail y=>intro lg G;rfl
 |get n k ih=>
  intro lg G
  show(@Option.rec HV (fun _=>RT α) (.fail 104) (fun g=>(k g).jm ((false,n)::lg) G K) (G.bk.get n)).run S0 H0=((@Option.rec HV (fun _=>RT (β×List lA×GS)) (.fail 104) (fun g=>(k g).jm ((false,n)::lg) G fun a l G=>.dH (a,l,G)) (G.bk.get n)).run S0 H0).bind _
  cases G.bk.get n with
  |none=>rfl
  |some v=>exact ih v _ _
 |ej id k ih=>
  intro lg G
  show(@Option.rec (Option Ob) (fun _=>RT α) (.ej id fun o=>(k o).jm ((true,id)::lg) (G.ff id o) K) (fun o=>@Option.rec Ob (fun _=>RT α) (.fail 105) (fun o=>(k o).jm ((true,id)::lg) G K) o) (G.find id)).run S0 H0=((@Option.rec (Option Ob) (fun _=>RT (β×List lA×GS)) (.ej id fun o=>(k o).jm ((true,id)::lg) (G.ff id o) fun a l G=>.dH (a,l,G)) (fun o=>@Option.rec Ob (fun _=>RT (β×List lA×GS)) (.fail 105) (fun o=>(k o).jm ((true,id)::lg) G fun a l G=>.dH (a,l,G)) o) (G.find id)).run S0 H0).bind _
  cases G.find id with
  |none=>
   simp only[RT.run]
   cases H0 id with
   |none=>rfl
   |some o=>exact ih o _ _
  |some o=>
   cases o with
   |none=>rfl
   |some o=>exact ih o _ _
 |br c x y ihx ihy=>
  intro lg G
  show(bif c then(x.jm lg G K).run S0 H0 else(y.jm lg G K).run S0 H0)=Option.bind (bif c then(x.jm lg G fun a l G=>.dH (a,l,G)).run S0 H0 else(y.jm lg G fun a l G=>.dH (a,l,G)).run S0 H0) _
  cases c
  ·exact ihy lg G
  ·exact ihx lg G
 |split n x y ihx ihy=>
  intro lg G
  show(@Option.rec HV (fun _=>RT α) (.fail 107) (fun c=>CW c (x.jm ((false,n)::lg) (G.refine n true) K) (y.jm ((false,n)::lg) (G.refine n false) K) 108) (G.bk.get n)).run S0 H0=((@Option.rec HV (fun _=>RT (β×List lA×GS)) (.fail 107) (fun c=>CW c (x.jm ((false,n)::lg) (G.refine n true) fun a l G=>.dH (a,l,G)) (y.jm ((false,n)::lg) (G.refine n false) fun a l G=>.dH (a,l,G)) 108) (G.bk.get n)).run S0 H0).bind _
  cases G.bk.get n with
  |none=>rfl
  |some v=>
   cases v with
   |b c=>
    cases c
    ·exact ihy _ _
    ·exact ihx _ _
   |_=>rfl
 |bind o k ih=>
  intro lg G
  show(Option.bind o fun a=>((k a).jm lg G K).run S0 H0)=Option.bind (Option.bind o fun a=>((k a).jm lg G fun a l G=>.dH (a,l,G)).run S0 H0) _
  cases o with
  |none=>rfl
  |some x=>exact ih x lg G
 |sum o k k' ih ih'=>
  intro lg G
  show(RT.sum o (fun a=>(k a).jm lg G K) (fun a=>(k' a).jm lg G K)).run S0 H0=((RT.sum o (fun a=>(k a).jm lg G fun a l G=>.dH (a,l,G)) (fun a=>(k' a).jm lg G fun a l G=>.dH (a,l,G))).run S0 H0).bind _
  cases o with
  |inl x=>exact ih x lg G
  |inr x=>exact ih' x lg G
 |dH a=>intro lg G;rfl
def U5(S0:Sl)(H0:Hp)(F:{α:Type}->(GS->RT α)->RT α):Prop:=∀{α:Type} (K:GS->RT α),(F K).run S0 H0=((F fun G=>.dH G).run S0 H0).bind fun G=>(K G).run S0 H0
def X3(S0:Sl)(H0:Hp)(F:{α:Type}->(XE->GS->RT α)->RT α):Prop:=∀{α:Type} (K:XE->GS->RT α),(F K).run S0 H0=((F fun e G=>.dH (e,G)).run S0 H0).bind fun p=>(K p.1 p.2).run S0 H0
theorem wY{α:Type}(a:Ws)(G:GS)(K:GS->RT α):(wX a G K).run S0 H0=((wX a G fun G=>.dH G).run S0 H0).bind fun G=>(K G).run S0 H0:=by
 unfold wX
 rw[x9,x9]
 cases Nat.ble G.next a.2<;>rfl
theorem pG{α β γ:Type}(o:Option α)(f:α->Option β)(g:β->Option γ):(o.bind f).bind g=o.bind fun x=>(f x).bind g:=by cases o<;>rfl
theorem E3(rt:ST)(G:GS):U5 S0 H0 (fun K=>rt.Bk G K):=by
 intro α K
 show(rt.jm [] G fun a _ G=>wX a G K).run S0 H0=((rt.jm [] G fun a _ G=>wX a G fun G=>.dH G).run S0 H0).bind _
 rw[qV,qV (fun a _ G=>wX a G fun G=>.dH G),pG]
 congr 1
 funext p
 exact wY _ _ K
theorem Bl{α:Type}(K:GS->List lA->List lA->RT α)(rt:ST)(G:GS):(rt.Nn G K).run S0 H0=((rt.Nn G fun G a b=>.dH (G,a,b)).run S0 H0).bind fun p=>(K p.1 p.2.1 p.2.2).run S0 H0:=by
 show(rt.jm [] G fun a l G=>wX a G fun G=>K G l (a.1.map Wr.at)).run S0 H0=((rt.jm [] G fun a l G=>wX a G fun G=>.dH (G,l,a.1.map Wr.at)).run S0 H0).bind _
 rw[qV,qV (fun a l G=>wX a G fun G=>.dH (G,l,a.1.map Wr.at)),pG]
 congr 1
 funext p
 rw[wY _ _ fun G=>K G p.2.1 (p.1.1.map Wr.at),wY _ _ fun G=>RT.dH (G,p.2.1,p.1.1.map Wr.at),pG]
 rfl
theorem uq{ops:List Oper}:∀(l:List Oper) (G:GS),U5 S0 H0 (fun K=>tT Γ.toCtx cl ops l G K):=by
 intro l
 induction l with
 |nil=>intro G α K;rfl
 |cons o l ih=>
  intro G α K
  show((opRT Γ.toCtx cl ops G.next o).Bk G fun G=>tT Γ.toCtx cl ops l G K).run S0 H0=(((opRT Γ.toCtx cl ops G.next o).Bk G fun G=>tT Γ.toCtx cl ops l G fun G=>.dH G).run S0 H0).bind _
  rw[E3 _ _ fun G=>tT Γ.toCtx cl ops l G K,E3 _ _ fun G=>tT Γ.toCtx cl ops l G fun G=>.dH G,pG]
  congr 1
  funext G1
  exact ih G1 K
theorem Dq{α β:Type}{b:Bool}{x:RT α}{y:RT β}{f:β->Option α}{n:Nat}(h:x.run S0 H0=(y.run S0 H0).bind f):(bif b then x else .fail n).run S0 H0=((bif b then y else .fail n).run S0 H0).bind f:=by
 cases b
 ·rfl
 ·exact h
theorem uo{ops:List Oper}:∀(l:List Oper) (acc:List (List lA×List lA)) (G:GS),U5 S0 H0 (fun K=>regD Γ cl ops l acc G K):=by
 intro l
 induction l with
 |nil=>
  intro acc G α K
  simp only[regD]
  exact Dq rfl
 |cons o l ih=>
  intro acc G α K
  simp only[regD]
  rw[Bl,Bl (fun G' rd wr=>regD Γ cl ops l (acc++[(rd,wr)]) G' fun G=>.dH G),pG]
  congr 1
  funext p
  exact ih _ p.1 K
theorem qS{α:Type}{L:Nat}{body:GS->(XE->GS->RT α)->RT α}{K:XE->GS->RT α}{G:GS}:qC (L+1) body K G=body G fun e G'=>match e with
 | .normal=>qC L body K G'
 | .exit i=>K (.exit i) G'
 | .ret=>K .ret G':=by
 show body G _=body G _
 congr 1
 funext e G'
 cases e<;>rfl
theorem By:∀(l:List Nat) (G:GS),U5 S0 H0 (fun K=>preL l G K):=by
 intro l
 induction l with
 |nil=>intro G α K;rfl
 |cons id l ih=>
  intro G α K
  simp only[preL]
  cases G.find id with
  |none=>
   simp only[RT.run]
   cases H0 id with
   |none=>rfl
   |some o=>exact ih _ K
  |some o=>exact ih G K
theorem a42:∀(d:Nat) (l:List Nat) (G:GS),U5 S0 H0 (fun K=>preR d l G K):=by
 intro d
 induction d with
 |zero=>intro l G α K;rfl
 |succ d ih=>
  intro l G α K
  simp only[preR]
  rw[By l G fun G=>preR d (l.flatMap fun id=>Qv (G.find id)) G K,By l G fun G=>preR d (l.flatMap fun id=>Qv (G.find id)) G fun G=>.dH G,pG]
  congr 1
  funext G1
  exact ih _ G1 K
theorem zL(G:GS)(ls bs:List Nat)(room:Nat):∀(l:List (XE×SL)) (y:uJ l),X3 S0 H0 (fun K=>leave G ls bs room K l y)
 |[],y=>Empty.elim y
 |[o],y=>fun K=>rfl
 |o::p::l,y=>fun K=>by
  simp only[leave]
  cases y with
  |inl x=>rfl
  |inr z=>exact zL G ls bs room (p::l) z K
theorem IV{α β γ:Type}{o:Option β}{y:Nat}{k:β->RT α}{k':β->RT γ}{f:γ->Option α}(h:∀x,(k x).run S0 H0=((k' x).run S0 H0).bind f):(er y o k).run S0 H0=((er y o k').run S0 H0).bind f:=by
 cases o with
 |none=>rfl
 |some x=>exact h x
theorem FZ(L:Nat)(a:Jh)(ls:List Nat)(body:GS->(XE->GS->RT ((pN a.uN).den⊕uJ a.tJ))->RT ((pN a.uN).den⊕uJ a.tJ))(G:GS):X3 S0 H0 (fun K=>zO L a ls body K G):=by
 intro α K
 unfold zO
 rw[a42,a42 (α:=XE×GS),pG]
 congr 1
 funext G1
 rw[qV,qV (α:=XE×GS),pG]
 congr 1
 funext p
 refine IV fun bs=>Dq ?_
 simp only[RT.run]
 rw[pG]
 congr 1
 funext y
 exact zL _ _ _ _ _ y K
theorem Dx{fn:Nat}:∀(c:Code) (G:GS),X3 S0 H0 (fun K=>codeRT Γ cl fn c G K):=by
 intro c
 induction c with
 |skip=>intro G α K;rfl
 |ret=>intro G α K;rfl
 |exit id=>intro G α K;rfl
 |region id ops draw=>
  intro G α K
  cases draw with
  |true=>
   show(regD Γ cl ops.toList ops.toList [] G (K .normal)).run S0 H0=((regD Γ cl ops.toList ops.toList [] G fun G=>.dH (XE.normal,G)).run S0 H0).bind _
   rw[uo _ _ _ (K .normal),uo _ _ _ fun G=>RT.dH (XE.normal,G),pG]
   rfl
  |false=>
   show(tT Γ.toCtx cl ops.toList ops.toList G (K .normal)).run S0 H0=((tT Γ.toCtx cl ops.toList ops.toList G fun G=>.dH (XE.normal,G)).run S0 H0).bind _
   rw[uq _ _ (K .normal),uq _ _ fun G=>RT.dH (XE.normal,G),pG]
   rfl
 |seq x y ihx ihy=>
  intro G α K
  show(codeRT Γ cl fn x G (yf K (codeRT Γ cl fn y))).run S0 H0=((codeRT Γ cl fn x G (yf (fun e G=>.dH (e,G)) (codeRT Γ cl fn y))).run S0 H0).bind _
  rw[ihx G (yf K (codeRT Γ cl fn y)),ihx G (yf (fun e G=>.dH (e,G)) (codeRT Γ cl fn y)),pG]
  congr 1
  funext p
  obtain⟨e,G1⟩:=p
  cases e with
  |normal=>exact ihy G1 K
  |exit i=>rfl
  |ret=>rfl
 |cond c x y ihx ihy=>
  intro G α K
  have hv:∀n v,(condV (codeRT Γ cl fn x) (codeRT Γ cl fn y) G K n v).run S0 H0=((condV (codeRT Γ cl fn x) (codeRT Γ cl fn y) G (fun e G=>.dH (e,G)) n v).run S0 H0).bind fun p=>(K p.1 p.2).run S0 H0:=by
   intro n v
   unfold condV
   split
   ·rename_i t
    cases t
    ·exact ihy _ K
    ·exact ihx _ K
   ·rfl
  show(condR (codeRT Γ cl fn x) (codeRT Γ cl fn y) G K c).run S0 H0=((condR (codeRT Γ cl fn x) (codeRT Γ cl fn y) G (fun e G=>.dH (e,G)) c).run S0 H0).bind _
  unfold condR
  split
  ·exact hv _ _
  ·split
   ·rename_i t _
    cases t
    ·exact ihy _ K
    ·exact ihx _ K
   ·rfl
  ·rfl
 |block id c ih=>
  intro G α K
  show(codeRT Γ cl fn c G (nV id K)).run S0 H0=((codeRT Γ cl fn c G (nV id fun e G=>.dH (e,G))).run S0 H0).bind _
  rw[ih G (nV id K),ih G (nV id fun e G=>.dH (e,G)),pG]
  congr 1
  funext p
  obtain⟨e,G1⟩:=p
  cases e with
  |normal=>rfl
  |ret=>rfl
  |exit j=>
   simp only[nV]
   cases Nat.beq j id<;>rfl
 |loop c ih=>
  intro G α K
  have key:∀(n:Nat) (G:GS),(qC n (codeRT Γ cl fn c) K G).run S0 H0=((qC n (codeRT Γ cl fn c) (fun e G=>.dH (e,G)) G).run S0 H0).bind fun p=>(K p.1 p.2).run S0 H0:=by
   intro n
   induction n with
   |zero=>intro G;rfl
   |succ n ihn=>
    intro G
    rw[qS,qS]
    refine(ih G _).trans (Eq.trans ?_ (congrArg (fun z=>Option.bind z _) (ih G _).symm))
    rw[pG]
    congr 1
    funext p
    obtain⟨e,G1⟩:=p
    cases e with
    |normal=>exact ihn G1
    |exit i=>rfl
    |ret=>rfl
  simp only[codeRT]
  split
  ·split
   ·rw[a42,a42 (α:=XE×GS),pG]
    congr 1
    funext G1
    exact FZ _ _ _ _ G1 K
   ·exact key _ G
  ·exact key _ G
 |rangeFunc f ps x y ihx ihy=>intro G α K;rfl
 |scope c ih=>intro G α K;rfl
 |label l=>intro G α K;rfl
 |goto l=>intro G α K;rfl
 |refuse w=>intro G α K;rfl
theorem eO{α:Type}{fn:Nat}{c:Code}{G:GS}{K:XE->GS->RT α}{r:α}(h:(codeRT Γ cl fn c G K).run S0 H0=some r):∃e G',(codeRT Γ cl fn c G fun e G=>.dH (e,G)).run S0 H0=some (e,G')/\(K e G').run S0 H0=some r:=by
 rw[Dx c G K]at h
 cases hq:(codeRT Γ cl fn c G fun e G=>.dH (e,G)).run S0 H0 with
 |none=>rw[hq]at h;cases h
 |some p=>rw[hq]at h;exact⟨p.1,p.2,rfl,h⟩
end
def OQ(m:Mp)(F:Fz)(w:World)(a:Act)(n:Nat):(s:Sh)->List Nat->s.dt.den->List Nat->Prop
 | .d t,ids,x,G=>ids=[]/\n<65536/\∃vs,a.tmps.getD n undef=CE t vs/\DD F w t x vs G
 | .box e t,ids,x,G=>∃id b vs G',ids=[id]/\m.ad id=some b/\w.heap[b]?=some (.cells vs.toArray e (0,0))/\DD F w t x vs G'/\G=b::G'
def I8(m:Mp)(F:Fz)(w:World)(a:Act):(l:SL)->List Nat->(pN l).den->List Nat->Prop
 |[],ids,_,G=>ids=[]/\G=[]
 |[p],ids,x,G=>OQ m F w a p.1 p.2 ids x G
 |p::q::l,ids,x,G=>∃i1 i2 G1 G2,ids=i1++i2/\G=G1++G2/\OQ m F w a p.1 p.2 i1 x.1 G1/\I8 m F w a (q::l) i2 x.2 G2
theorem OQ.mono{m m':Mp}{F F':Fz}{w:World}{a:Act}{n:Nat}{s:Sh}{ids:List Nat}{x:s.dt.den}{G:List Nat}(hm:∀id b,id∈ids->m.ad id=some b->m'.ad id=some b)(hF:F.le F')(h:OQ m F w a n s ids x G):OQ m' F' w a n s ids x G:=by
 cases s with
 |d t=>obtain⟨h1,h2,vs,h3,h4⟩:=h;exact⟨h1,h2,vs,h3,h4.mono hF⟩
 |box e t=>obtain⟨id,b,vs,G',h1,h2,h3,h4,h5⟩:=h;exact⟨id,b,vs,G',h1,hm _ _ (by simp[h1]) h2,h3,h4.mono hF,h5⟩
theorem I8.mono{m m':Mp}{F F':Fz}{w:World}{a:Act}(hF:F.le F'):∀{l:SL} {ids:List Nat} {x:(pN l).den} {G:List Nat},(∀id b,id∈ids->m.ad id=some b->m'.ad id=some b)->I8 m F w a l ids x G->I8 m' F' w a l ids x G
 |[],ids,x,G,hm,h=>h
 |[p],ids,x,G,hm,h=>OQ.mono hm hF h
 |p::q::l,ids,x,G,hm,⟨i1,i2,G1,G2,h1,h2,h3,h4⟩=>⟨i1,i2,G1,G2,h1,h2,h3.mono (fun id b hi=>hm id b (by simp[h1,hi])) hF,I8.mono hF (fun id b hi=>hm id b (by simp[h1,hi])) h4⟩
theorem uX{G:GS}{p:Nat×Sh}{l:SL}{ids:List Nat}(h:boxesOf G (p::l)=some ids):∃i1 i2,xX G p.1 p.2=some i1/\boxesOf G l=some i2/\ids=i1++i2:=by
 simp only[boxesOf]at h
 split at h
 ·rename_i i1 i2 h1 h2;cases h;exact⟨i1,i2,h1,h2,rfl⟩
 ·cases h
theorem B1{G:GS}{p:Nat×Sh}{ids:List Nat}(h:boxesOf G [p]=some ids):xX G p.1 p.2=some ids:=by
 obtain⟨i1,i2,h1,h2,h3⟩:=uX h
 simp only[boxesOf,Option.some.injEq]at h2
 subst h2 h3
 simpa using h1
theorem JR{G:GS}{n:Nat}{t:DT}{ids:List Nat}(h:xX G n (.d t)=some ids):n<65536/\ids=[]:=by
 simp only[xX]at h
 cases hb:Nat.blt n 65536 with
 |false=>rw[hb]at h;cases h
 |true=>rw[hb]at h;cases h;exact⟨Nat.le_of_ble_eq_true hb,rfl⟩
theorem Fc{G:GS}{n e:Nat}{t:DT}{ids:List Nat}(h:xX G n (.box e t)=some ids):∃id,A7 G n=some (.p id 0)/\ids=[id]:=by
 simp only[xX]at h
 split at h
 ·rename_i id hp;cases h;exact⟨id,hp,rfl⟩
 ·cases h
theorem yX{ρ:En}{H:Hp}{m:Mp}{w:World}{id el:Nat}{cs:List HV}(h:a0d ρ H m w)(hi:H id=some (.cells el cs)):∃b vs,m.ad id=some b/\denL m cs=some vs/\w.heap[b]?=some (.cells vs.toArray el (0,0)):=by
 obtain⟨b,vs,h1,h2,_,h4⟩:=h.fe id _ hi
 exact⟨b,vs,h1,h2,h4⟩
section
variable {α:Type}{H:Hp}{r:α}{Gs:GS}
theorem Ex{n:Nat}{s:Sh}{ids:List Nat}{k:s.dt.den->List Wr->RT α}(hb:xX Gs n s=some ids)(hr:(RT.get (BD n) fun v=>rdSh s (Ds n v) k).run Gs.bk.get H=some r):∃x ws,(k x ws).run Gs.bk.get H=some r/\
 (∀id∈ids,∃e cs,H id=some (.cells e cs))/\
 ∀{ρ:En} {m m0:Mp} {w:World} {ws0:List Wr} {a:Act},RS ρ H m w ws0 m0->jD ws0 ws=true->(∀k v,Gs.bk.get k=some v->den m v=some (a.tmps.getD k undef))->
  ∃m1 G G',RN ρ H m w ws0 m0 ws m1 G/\OQ m m1.fz w a n s ids x G'/\G'.Perm ((ids.map fun id=>(m.ad id).getD 0)++G):=by
 obtain⟨v,hv,hr⟩:=rZ hr
 cases s with
 |d t=>
  obtain⟨hn,e⟩:=JR hb
  subst e
  have e1:BD n=n:=Nat.mod_eq_of_lt hn
  have e2:Ds n v=v:=by unfold Ds;rw[show Nat.blt n 65536=true from Nat.ble_eq_true_of_le hn];rfl
  rw[e1]at hv
  rw[e2]at hr
  obtain⟨hs,hr⟩:=a4f (show(W7 false t v k).run Gs.bk.get H=some r from hr)
  obtain⟨x,ws,h1,h2⟩:=um hr
  refine⟨x,ws,h1,fun id hi=>by simp at hi,fun{ρ m m0 w ws0 a} h hf hS=> ?_⟩
  obtain⟨q1,q2⟩:=tX hs (hS n v hv)
  obtain⟨m1,G,p1,p2⟩:=h2 h hf q1
  exact⟨m1,G,G,p1,⟨rfl,hn,_,q2,p2⟩,by simp⟩
 |box e t=>
  obtain⟨id,hp,e'⟩:=Fc hb
  subst e'
  have hc:Ds n v=.p id 0:=by
   unfold A7 at hp
   rw[hv]at hp
   simpa using hp
  rw[hc]at hr
  obtain⟨ob,hob,hr⟩:=dR (show(RT.ej id _).run Gs.bk.get H=some r from hr)
  split at hr
  ·rename_i el cs
   obtain⟨he,hr⟩:=cE hr
   have he:=Nat.eq_of_beq_eq_true he
   subst he
   obtain⟨x,ws,h1,h2⟩:=um hr
   refine⟨x,ws,h1,fun id' hi=> ?_,fun{ρ m m0 w ws0 a} h hf hS=> ?_⟩
   ·simp at hi;subst hi;exact⟨_,_,hob⟩
   ·obtain⟨b,vs,q1,q2,q3⟩:=yX h.base hob
    obtain⟨m1,G,p1,p2⟩:=h2 h hf q2
    exact⟨m1,G,b::G,p1,⟨id,b,vs,G,rfl,q1,q3,p2,rfl⟩,by simp[q1]⟩
  ·exact aA hr
theorem LM{A B C D:List Nat}:((A++B)++(C++D)).Perm ((A++C)++(B++D)):=by
 rw[List.append_assoc,List.append_assoc]
 refine List.Perm.append_left A ?_
 rw[<-List.append_assoc,<-List.append_assoc]
 exact List.Perm.append_right D List.perm_append_comm
theorem CH:∀{l:SL} {ids:List Nat} {k:(pN l).den->List Wr->RT α},boxesOf Gs l=some ids->(U3 l k).run Gs.bk.get H=some r->∃x ws,(k x ws).run Gs.bk.get H=some r/\
 (∀id∈ids,∃e cs,H id=some (.cells e cs))/\
 ∀{ρ:En} {m m0:Mp} {w:World} {ws0:List Wr} {a:Act},RS ρ H m w ws0 m0->jD ws0 ws=true->(∀k v,Gs.bk.get k=some v->den m v=some (a.tmps.getD k undef))->
  ∃m1 G G',RN ρ H m w ws0 m0 ws m1 G/\I8 m m1.fz w a l ids x G'/\G'.Perm ((ids.map fun id=>(m.ad id).getD 0)++G)
 |[],ids,k,hb,hr=>by
  simp only[boxesOf,Option.some.injEq]at hb
  subst hb
  exact⟨_,_,hr,fun id hi=>by simp at hi,fun{ρ m m0 w ws0 a} h hf hS=>⟨m0,[],[],.same h,⟨rfl,rfl⟩,by simp⟩⟩
 |[p],ids,k,hb,hr=>Ex (B1 hb) hr
 |p::q::l,ids,k,hb,hr=>by
  obtain⟨i1,i2,b1,b2,e⟩:=uX hb
  subst e
  obtain⟨x,ws,h1,c1,h2⟩:=Ex b1 (show(RT.get (BD p.1) fun v=>rdSh p.2 (Ds p.1 v) fun x ws=>U3 (q::l) fun y ws'=>Bm ws ws' fun ws=>k (x,y) ws).run Gs.bk.get H=some r from hr)
  obtain⟨y,ws',h3,c2,h4⟩:=CH b2 h1
  obtain⟨hfit,h5⟩:=oW h3
  refine⟨(x,y),ws++ws',h5,fun id hi=> ?_,fun{ρ m m0 w ws0 a} h hf hS=> ?_⟩
  ·rcases List.mem_append.1 hi with hi|hi
   ·exact c1 id hi
   ·exact c2 id hi
  ·rw[yx,Bool.and_eq_true]at hf
   obtain⟨m1,G1,G1',p1,p2,p3⟩:=h2 h hf.1 hS
   obtain⟨m2,G2,G2',p4,p5,p6⟩:=h4 p1.rs (by rw[yl,hf.2,hfit];rfl) hS
   refine⟨m2,G1++G2,G1'++G2',p1.trans p4,⟨i1,i2,G1',G2',rfl,rfl,p2.mono (fun _ _ _ h=>h) p4.fz,p5⟩,?_⟩
   rw[List.map_append]
   exact(p3.append p6).trans LM
end
theorem mu.W5{ρ:En}{H:Hp}{m:Mp}{G G':List Nat}(h:mu ρ H m G)(hp:G'.Perm G):mu ρ H m G':=
 ⟨hp.nodup_iff.2 h.nK,fun b hb=>h.eJ b (hp.mem_iff.1 hb),fun b hb=>h.fz b (hp.mem_iff.1 hb),fun b hb=>h.jI b (hp.mem_iff.1 hb)⟩
theorem a0d.fill{ρ:En}{H:Hp}{m:Mp}{w:World}(h:a0d ρ H m w){id b e:Nat}{cs:List HV}{vs:List Value}(hid:m.ad id=some b)(hcs:denL m cs=some vs)(h1:cs.all HV.one=true)(hb:w.heap[b]?=some (.cells vs.toArray e (0,0)))(hG:mu ρ H m [b]):
 a0d ρ (gW H id (some (.cells e cs))) m w:=by
 have hmem:b∈[b]:=by simp
 have sub:∀i o,gW H id (some (.cells e cs)) i=some o->i≠id->H i=some o:=fun i o hi hne=>by rwa[a0h _ _ hne]at hi
 refine h.step (Mp.le_refl m) h.ff (fun b arr h1 h2=>by rw[h2]at h1;cases h1) (fun b arr _=>rfl) (fun b h1 h2=>absurd h2 h1) (fun i o hi=> ?_) (fun i j o1 o2 b1 b2 hne hi hj g1 g2 hb1 hb2=> ?_) (fun i o b1 hi hm hb1=> ?_) (fun i o b1 hi hm hb1=> ?_)
 ·by_cases e':i=id
  ·subst e';rw[bQ]at hi;cases hi;exact⟨b,vs,hid,hcs,h1,hb⟩
  ·exact h.fe i o (sub i o hi e')
 ·by_cases e1:i=id
  ·subst e1
   have e2:j≠i:=fun e=>hne e.symm
   rw[hid]at hb1;cases hb1
   intro e;subst e
   exact hG.jI b hmem j o2 (sub j o2 hj e2) g2 hb2
  ·by_cases e2:j=id
   ·subst e2
    rw[hid]at hb2;cases hb2
    intro e;subst e
    exact hG.jI b1 hmem i o1 (sub i o1 hi e1) g1 hb1
   ·exact h.inj i j o1 o2 b1 b2 hne (sub i o1 hi e1) (sub j o2 hj e2) g1 g2 hb1 hb2
 ·by_cases e1:i=id
  ·subst e1;rw[hid]at hb1;cases hb1;exact hG.eJ b hmem
  ·exact h.off i o b1 (sub i o hi e1) hm hb1
 ·by_cases e1:i=id
  ·subst e1;rw[hid]at hb1;cases hb1;exact hG.fz b hmem
  ·exact h.vy i o b1 (sub i o hi e1) hm hb1
structure Fl(ρ:En)(S:Sl)(H:Hp)(m:Mp)(w:World)(a:Act)(ids:List Nat)(G:List Nat)(n k:Nat)(ws:List Wr)(m':Mp):Prop where
 le:m.le m'
 fz:m'.fz=m.fz
 rep:a0d ρ (cw H ws) m' w
 bk:(∀k v,S k=some v->den m v=some (a.tmps.getD k undef))->∀k v,og S ws k=some v->den m' v=some (a.tmps.getD k undef)
 has:∀i,m'.has i->m.has i∨(n<=i/\i<n+k)
 own:∀i o b,cw H ws i=some o->o.eJ=true->m'.ad i=some b->b∈G∨(H i=some o/\m.ad i=some b)
 at_:∀i,i∉ids->¬(n<=i/\i<n+k)->cw H ws i=H i
theorem Kt:∀{t:DT} {x:t.den} {n i:Nat} {H:Hp},¬(n<=i/\i<n+t.lists)->cw H (exW t x n) i=H i:=by
 intro t
 induction t with
 |ak a b iha ihb=>
  intro x n i H hi
  simp only[exW,a0o,DT.lists]at hi⊢
  rw[ihb (by omega),iha (by omega)]
 |bH t _=>intro x n i H hi;simp only[DT.lists]at hi;exact a0h _ _ (by omega)
 |otrees=>intro x n i H hi;simp only[DT.lists]at hi;exact a0h _ _ (by omega)
 |_=>intro x n i H hi;rfl
theorem I0{ρ:En}{S:Sl}{H:Hp}{m:Mp}{w:World}{a:Act}{Gs:GS}{k:Nat}{s:Sh}{ids:List Nat}{x:s.dt.den}{G:List Nat}{n:Nat}(h:a0d ρ H m w)(hb:xX Gs k s=some ids)(hd:OQ m m.fz w a k s ids x G)(hG:mu ρ H m G)(hf:∀i,n<=i->i<n+s.dt.lists->¬m.has i):
 ∃m',Fl ρ S H m w a ids G n s.dt.lists (wrSh Gs k s x n) m':=by
 cases s with
 |d t=>
  obtain⟨e,hk,vs,h1,h2⟩:=hd
  subst e
  obtain⟨m',q⟩:=a2Y h h2 hG hf
  have e1:∀H:Hp,cw H (wrSh Gs k (.d t) x n)=cw H (exW t x n):=fun H=>by
   show cw H (exW t x n++[.jQ k (some (Bj t x n))])=_
   rw[a0o];rfl
  refine⟨m',q.le,q.fz,by rw[e1];exact q.rep,fun hS j v hj=> ?_,q.has,fun i o b hi=>q.own i o b (by rwa[e1]at hi),fun i _ hi=>by rw[e1];exact Kt hi⟩
  have e3:∀y:t.den,og S (exW t y n++[.jQ k (some (Bj t y n))])=gW S k (some (Bj t y n)):=fun y=>by
   rw[kZ,gO ot];rfl
  have hj:og S (exW t x n++[.jQ k (some (Bj t x n))]) j=some v:=hj
  have hj:gW S k (some (Bj t x n)) j=some v:=(congrFun (e3 x) j).symm.trans hj
  by_cases e:j=k
  ·subst e;rw[bQ]at hj;cases hj;rw[h1];exact yz q.cs
  ·rw[a0h _ _ e]at hj;exact fO q.le (hS j v hj)
 |box e t=>
  obtain⟨id,b,vs,G',e1,h2,h3,h4,e5⟩:=hd
  subst e1 e5
  obtain⟨id',hp,e⟩:=Fc hb
  cases e
  have hG':mu ρ H m ([b]++G'):=hG
  obtain⟨g1,g2,g3⟩:=hG'.app
  obtain⟨m',q⟩:=a2Y h h4 g2 hf
  have hw:wrSh Gs k (.box e t) x n=exW t x n++[.ej id (some (.cells e (exC t x n)))]:=by
   simp only[wrSh,hp]
  have hap:∀H:Hp,cw H (exW t x n++[.ej id (some (.cells e (exC t x n)))])=gW (cw H (exW t x n)) id (some (.cells e (exC t x n))):=fun H=>by rw[a0o];rfl
  have gb:mu ρ (cw H (exW t x n)) m' [b]:=⟨by simp,g1.eJ,fun b' hb'=>by rw[q.fz];exact g1.fz b' hb',fun b' hb' i o hi hm he=>by
   rcases q.own i o b' hi hm he with p|⟨p1,p2⟩
   ·exact g3 b' hb' p
   ·exact g1.jI b' hb' i o p1 hm p2⟩
  have hrep:=q.rep.fill (e:=e) (q.le.ad _ _ h2) q.cs mP h3 gb
  have sl:∀S:Sl,og S (exW t x n++[.ej id (some (.cells e (exC t x n)))])=S:=fun S=>gO (a3f ot (fQ _ _))
  refine⟨m',q.le,q.fz,by rw[hw,hap];exact hrep,fun hS j v hj=> ?_,q.has,fun i o b' hi hm he=> ?_,fun i h1 h2=> ?_⟩
  ·rw[hw,sl]at hj
   exact fO q.le (hS j v hj)
  ·rw[hw,hap]at hi
   by_cases e1:i=id
   ·subst e1
    rw[q.le.ad _ _ h2]at he;cases he
    exact .inl (by simp)
   ·rw[a0h _ _ e1]at hi
    rcases q.own i o b' hi hm he with p|p
    ·exact .inl (by simp[p])
    ·exact .inr p
  ·rw[hw,hap,a0h _ _ (fun e=>h1 (by simp[e]))]
   exact Kt h2
theorem Mu:∀{l:SL} {ρ:En} {S:Sl} {H:Hp} {m:Mp} {w:World} {a:Act} {Gs:GS} {ids:List Nat} {x:(pN l).den} {G:List Nat} {n:Nat},a0d ρ H m w->boxesOf Gs l=some ids->I8 m m.fz w a l ids x G->mu ρ H m G->(∀i,n<=i->i<n+(pN l).lists->¬m.has i)->
 ∃m',Fl ρ S H m w a ids G n (pN l).lists (Jp Gs l x n) m'
 |[],ρ,S,H,m,w,a,Gs,ids,x,G,n,h,hb,⟨e1,e2⟩,hG,hf=>by
  subst e1 e2
  exact⟨m,Mp.le_refl m,rfl,h,fun hS=>hS,fun i hi=>.inl hi,fun i o b hi _ hb=>.inr ⟨hi,hb⟩,fun i _ _=>rfl⟩
 |[p],ρ,S,H,m,w,a,Gs,ids,x,G,n,h,hb,hd,hG,hf=>I0 h (B1 hb) hd hG hf
 |p::q::l,ρ,S,H,m,w,a,Gs,ids,x,G,n,h,hb,⟨i1,i2,G1,G2,e1,e2,h1,h2⟩,hG,hf=>by
  obtain⟨j1,j2,b1,b2,e⟩:=uX hb
  subst e2
  have hl:(pN (p::q::l)).lists=p.2.dt.lists+(pN (q::l)).lists:=rfl
  rw[hl]at hf
  have hlen:i1=j1/\i2=j2:=by
   have:i1.length=j1.length:=by
    cases hs:p.2 with
    |d t=>
     rw[hs]at b1
     obtain⟨_,e'⟩:=JR b1
     obtain⟨n0,s0⟩:=p
     simp only at hs
     subst hs
     rw[h1.1,e']
    |box e0 t=>
     rw[hs]at b1
     obtain⟨id,_,e'⟩:=Fc b1
     obtain⟨n0,s0⟩:=p
     simp only at hs
     subst hs
     obtain⟨id2,_,_,_,e3,_⟩:=h1
     rw[e3,e'];rfl
   exact List.append_inj (e1.symm.trans e) this
  obtain⟨r1,r2⟩:=hlen
  subst r1 r2
  obtain⟨g1,g2,g3⟩:=hG.app
  obtain⟨m1,f1⟩:=I0 (S:=S) (n:=n) h b1 h1 g1 (fun i hi hi'=>hf i hi (by omega))
  have g2':mu ρ (cw H (wrSh Gs p.1 p.2 x.1 n)) m1 G2:=⟨g2.nK,g2.eJ,fun b hb=>by rw[f1.fz];exact g2.fz b hb,fun b hb i o hi hm he=>by
   rcases f1.own i o b hi hm he with p|⟨p,p'⟩
   ·exact g3 b p hb
   ·exact g2.jI b hb i o p hm p'⟩
  obtain⟨m2,f2⟩:=Mu (l:=q::l) (S:=og S (wrSh Gs p.1 p.2 x.1 n)) (n:=n+p.2.dt.lists) f1.rep b2 (by rw[f1.fz];exact I8.mono (Fz.le_refl _) (fun id b _=>f1.le.ad id b) h2) g2' (fun i hi hi' hh=>by
   rcases f1.has i hh with p|p
   ·exact hf i (by omega) (by omega) p
   ·omega)
  have hap:∀H:Hp,cw H (Jp Gs (p::q::l) x n)=cw (cw H (wrSh Gs p.1 p.2 x.1 n)) (Jp Gs (q::l) x.2 (n+p.2.dt.lists)):=fun H=>by
   show cw H (wrSh Gs p.1 p.2 x.1 n++Jp Gs (q::l) x.2 (n+p.2.dt.lists))=_
   rw[a0o]
  have has:∀S:Sl,og S (Jp Gs (p::q::l) x n)=og (og S (wrSh Gs p.1 p.2 x.1 n)) (Jp Gs (q::l) x.2 (n+p.2.dt.lists)):=fun S=>by
   show og S (wrSh Gs p.1 p.2 x.1 n++Jp Gs (q::l) x.2 (n+p.2.dt.lists))=_
   rw[kZ]
  refine⟨m2,Mp.le_trans f1.le f2.le,f2.fz.trans f1.fz,by rw[hap];exact f2.rep,fun hS k v hk=> ?_,fun i hi=> ?_,fun i o b hi hm he=> ?_,fun i hi hi'=> ?_⟩
  ·rw[has]at hk
   exact f2.bk (f1.bk hS) k v hk
  ·rcases f2.has i hi with p|p
   ·rcases f1.has i p with p|p
    ·exact .inl p
    ·exact .inr (by rw[hl];omega)
   ·exact .inr (by rw[hl];omega)
  ·rw[hap]at hi
   rcases f2.own i o b hi hm he with p|⟨p,p'⟩
   ·exact .inl (by simp[p])
   ·rcases f1.own i o b p hm p' with p|p
    ·exact .inl (by simp[p])
    ·exact .inr p
  ·rw[hl]at hi'
   rw[hap,f2.at_ i (fun hh=>hi (by rw[e];simp[hh])) (by omega),f1.at_ i (fun hh=>hi (by rw[e];simp[hh])) (by omega)]
theorem OR.has{m:Mp}{w:World}{id:Nat}{o:Ob}(h:OR m w id o):m.has id:=by
 cases o with
 |cells el cs=>obtain⟨b,vs,h1,_⟩:=h;exact .inl (by rw[h1];simp)
 |map ents=>obtain⟨b,es,c,h1,_⟩:=h;exact .inl (by rw[h1];simp)
 |fr t x=>obtain⟨_,v,h1,_⟩:=h;exact .inr (.inl (by rw[h1];simp))
 |row t x=>obtain⟨_,v,h1,_⟩:=h;exact .inr (.inl (by rw[h1];simp))
 |Jn t x i k e=>obtain⟨_,_,_,_,v,h1,_⟩:=h;exact .inr (.inl (by rw[h1];simp))
def Mp.on(m:Mp)(F:Fz):Mp:={m with fz:=F}
theorem Mp.uO{m:Mp}{F:Fz}(h:m.fz.le F):m.le (m.on F):=⟨fun _ _ h=>h,fun _ _ h=>h,fun _ _ h=>h,h⟩
theorem DH{M m1:Mp}{F:Fz}(hF:M.fz.le F)(eY:M.le m1):∀{ents:List (HV×HV)} {es es1:List MapEntry},All2 (I6 M) ents es->All2 (I6 m1) ents es1->All2 (I6 (M.on F)) ents es1
 |[],[],[],_,_=>trivial
 |p::ents,e::es,e1::es1,⟨⟨h1,h2⟩,h3⟩,⟨⟨g1,g2⟩,g3⟩=>by
  have k1:=fO eY h1
  have k2:=fO eY h2
  rw[g1]at k1
  rw[g2]at k2
  exact⟨⟨by rw[k1];exact fO (Mp.uO hF) h1,by rw[k2];exact fO (Mp.uO hF) h2⟩,DH hF eY h3 g3⟩
theorem a3x.a4E{M m1:Mp}{w w':World}{i:Nat}{t:DT}{x:t.den}(h0:a3x M w i t x)(h1:a3x m1 w' i t x)(eY:M.le m1):a3x (M.on m1.fz) w' i t x:=by
 obtain⟨ht,v,a1,a2⟩:=h0
 obtain⟨_,v1,b1,b2⟩:=h1
 have:=eY.pl _ _ a1
 rw[b1]at this;cases this
 refine⟨ht,v,a1,?_⟩
 show kL m1.fz w' t x v (M.ad i)
 cases hq:M.ad i with
 |some b=>rw[eY.ad _ _ hq]at b2;exact b2
 |none=>
  rw[hq]at a2
  exact a2.mono eY.fz (fun b e=>by cases e)
theorem OR.a4E{M m1:Mp}{w w':World}{i:Nat}{o:Ob}(h0:OR M w i o)(h1:OR m1 w' i o)(eY:M.le m1):OR (M.on m1.fz) w' i o:=by
 have hM:=Mp.uO (m:=M) eY.fz
 cases o with
 |cells el cs=>
  obtain⟨b,vs,a1,a2,a3,_⟩:=h0
  obtain⟨b',vs',b1,b2,_,b4⟩:=h1
  rw[eY.ad _ _ a1]at b1;cases b1
  rw[fc eY a2]at b2;cases b2
  exact⟨b,vs,a1,fc hM a2,a3,b4⟩
 |map ents=>
  obtain⟨b,es,c,a1,_,a3⟩:=h0
  obtain⟨b',es',c',b1,b2,b3⟩:=h1
  rw[eY.ad _ _ a1]at b1;cases b1
  exact⟨b,es',c',a1,b2,DH eY.fz eY a3 b3⟩
 |fr t x=>obtain⟨ht,v,a1,a2⟩:=h0;exact⟨ht,v,a1,a2.mono eY.fz⟩
 |row t x=>exact a3x.a4E h0 h1 eY
 |Jn t x j k e=>
  obtain⟨sz,a1,a2,a3⟩:=h0
  obtain⟨sz',b1,b2,b3⟩:=h1
  exact⟨sz,a1,a2,a3.a4E b3 eY⟩
theorem a0d.a4E{ρ:En}{M m1:Mp}{w w':World}{Hk H1:Hp}(h0:a0d ρ Hk M w)(h1:a0d ρ H1 m1 w')(eY:M.le m1)(hs:∀i o,Hk i=some o->H1 i=some o):a0d ρ Hk (M.on m1.fz) w' where
 fe i o hi:=(h0.fe i o hi).a4E (h1.fe i o (hs i o hi)) eY
 inj i j o o' b b' hne hi hj ho ho' hb hb':=h1.inj i j o o' b b' hne (hs i o hi) (hs j o' hj) ho ho' (eY.ad _ _ hb) (eY.ad _ _ hb')
 ff:=h1.ff
 off i o b hi ho hb:=h1.off i o b (hs i o hi) ho (eY.ad _ _ hb)
 fz:=h1.fz
 vy i o b hi ho hb:=h1.vy i o b (hs i o hi) ho (eY.ad _ _ hb)
 P0:=h1.P0
def pB(bs:List Nat):List Wr:=bs.map fun id=>.ej id none
theorem IF{bs:List Nat}:oa (pB bs):=fun x hx=>by
 obtain⟨id,_,e⟩:=List.mem_map.1 hx;exact⟨id,none,e.symm⟩
theorem a3U:∀{bs:List Nat} {H:Hp} {i:Nat},cw H (pB bs) i=if i∈bs then none else H i
 |[],H,i=>by simp[pB,cw]
 |id::bs,H,i=>by
  show cw (xm H (.ej id none)) (pB bs) i=_
  rw[a3U]
  by_cases e:i∈bs
  ·simp[e]
  ·by_cases e2:i=id
   ·subst e2;simp[e,xm,gW]
   ·simp[e,e2,xm,gW]
theorem a0d.pB{ρ:En}{m:Mp}{w:World}:∀{bs:List Nat} {H:Hp},a0d ρ H m w->a0d ρ (cw H (pB bs)) m w
 |[],H,h=>h
 |id::bs,H,h=>a0d.pB (bs:=bs) (h.IE id)
theorem zC{l:List Nat}{n:Nat}:KF l n=true↔n∈l:=by
 unfold KF
 rw[List.any_eq_true]
 constructor
 ·rintro⟨x,h1,h2⟩;rw[Nat.eq_of_beq_eq_true h2];exact h1
 ·intro h;exact⟨n,h,Nat.beq_refl n⟩
theorem xj:∀{l:List Nat},nodupN l=true->l.Nodup
 |[],_=>List.nodup_nil
 |n::l,h=>by
  simp only[nodupN,Bool.and_eq_true,Bool.not_eq_true']at h
  refine List.nodup_cons.2 ⟨fun e=> ?_,xj h.2⟩
  rw[zC.2 e]at h;cases h.1
theorem Hg:∀{l m:List Nat},eqNL l m=true->l=m
 |[],[],_=>rfl
 |a::l,b::m,h=>by
  simp only[eqNL,Bool.and_eq_true]at h
  rw[Nat.eq_of_beq_eq_true h.1,Hg h.2]
 |[],_::_,h=>by cases h
 |_::_,[],h=>by cases h
theorem P4{a b:XE}(h:a.is b=true):a=b:=by
 cases a<;>cases b<;>first|rfl|(cases h;done)|(rw[Nat.eq_of_beq_eq_true h])
theorem Bi{ρ:En}{Hb Hk:Hp}{m1 mk:Mp}{w:World}{Gd ids:List Nat}(hr:a0d ρ Hb m1 w)(hg:mu ρ Hb m1 Gd)(hn:ids.Nodup)(hid:∀id∈ids,∃e cs,Hb id=some (.cells e cs))
 (hk:∀i o,Hk i=some o->Hb i=some o/\i∉ids) (had:∀i b,mk.ad i=some b->m1.ad i=some b) (hfz:mk.fz=m1.fz):mu ρ Hk mk ((ids.map fun id=>(m1.ad id).getD 0)++Gd):=by
 have box:∀id∈ids,∃o b,Hb id=some o/\o.eJ=true/\m1.ad id=some b:=by
  intro id hi
  obtain⟨e,cs,h1⟩:=hid id hi
  obtain⟨b,vs,h2,_⟩:=yX hr h1
  exact⟨_,b,h1,rfl,h2⟩
 have mem:∀b,b∈(ids.map fun id=>(m1.ad id).getD 0)->∃id o,id∈ids/\Hb id=some o/\o.eJ=true/\m1.ad id=some b:=by
  intro b hb
  obtain⟨id,hi,e⟩:=List.mem_map.1 hb
  obtain⟨o,b',h1,h2,h3⟩:=box id hi
  rw[h3]at e
  simp only[Option.getD_some]at e
  subst e
  exact⟨id,o,hi,h1,h2,h3⟩
 refine⟨List.nodup_append.2 ⟨?_,hg.nK,fun b hb b' hb' e=> ?_⟩,fun b hb=> ?_,fun b hb=> ?_,fun b hb i o hi hm he=> ?_⟩
 ·clear hk mem
  induction ids with
  |nil=>exact List.nodup_nil
  |cons id ids ih=>
   obtain⟨n1,n2⟩:=List.nodup_cons.1 hn
   rw[List.map_cons]
   refine List.nodup_cons.2 ⟨fun hmem=> ?_,ih n2 (fun i hi=>hid i (by simp[hi])) (fun i hi=>box i (by simp[hi]))⟩
   obtain⟨id',hi,e⟩:=List.mem_map.1 hmem
   obtain⟨o,b,h1,h2,h3⟩:=box id (by simp)
   obtain⟨o',b',h4,h5,h6⟩:=box id' (by simp[hi])
   rw[h3,h6]at e
   simp only[Option.getD_some]at e
   exact hr.inj id id' o o' b b' (fun e=>n1 (by rw[e];exact hi)) h1 h4 h2 h5 h3 h6 e.symm
 ·subst e
  obtain⟨id,o,hi,h1,h2,h3⟩:=mem b hb
  exact hg.jI b hb' id o h1 h2 h3
 ·rcases List.mem_append.1 hb with hb|hb
  ·obtain⟨id,o,hi,h1,h2,h3⟩:=mem b hb
   exact hr.off id o b h1 h2 h3
  ·exact hg.eJ b hb
 ·rw[hfz]
  rcases List.mem_append.1 hb with hb|hb
  ·obtain⟨id,o,hi,h1,h2,h3⟩:=mem b hb
   exact hr.vy id o b h1 h2 h3
  ·exact hg.fz b hb
 ·obtain⟨k1,k2⟩:=hk i o hi
  rcases List.mem_append.1 hb with hb|hb
  ·obtain⟨id,o',hi',h1,h2,h3⟩:=mem b hb
   exact hr.inj i id o o' b b (fun e=>k2 (by rw[e];exact hi')) k1 h1 hm h2 (had i b he) h3 rfl
  ·exact hg.jI b hb i o k1 hm (had i b he)
theorem DU{id:Nat}{o:Ob}:∀{l:List (Nat×Option Ob)} {t:Tr Ob},(l.foldl (fun t p=>t.set p.2 p.1) t).get id=some o->(∃p∈l,p.1=id/\p.2=some o)∨((∀p∈l,p.1≠id)/\t.get id=some o)
 |[],t,h=>.inr ⟨fun p hp=>by simp at hp,h⟩
 |p::l,t,h=>by
  rcases DU (l:=l) h with⟨q,h1,h2,h3⟩|⟨h1,h2⟩
  ·exact .inl ⟨q,by simp[h1],h2,h3⟩
  ·rw[Tr.mW]at h2
   split at h2
   ·rename_i e;exact .inl ⟨p,by simp,e.symm,h2⟩
   ·rename_i e
    refine .inr ⟨fun q hq=> ?_,h2⟩
    rcases List.mem_cons.1 hq with rfl|hq
    ·exact fun e'=>e e'.symm
    ·exact h1 q hq
theorem xg{G:GS}{i:Nat}{v:Option Ob}:(i,v)∈G.st.toL 0 1 []↔G.st.get i=some v:=by
 rw[Tr.a4D]
 constructor
 ·rintro(h|⟨n,h1,h2⟩)
  ·simp at h
  ·have:i=n:=by omega
   subst this;exact h2
 ·intro h;exact .inr ⟨i,by omega,h⟩
theorem L4{G:GS}{H:Hp}{id:Nat}{o:Ob}(h:G.P9.get id=some o):G.da H id=some o:=by
 unfold GS.da
 rw[find_eq]
 rcases DU h with⟨p,h1,h2,h3⟩|⟨h1,h2⟩
 ·have:=(xg (G:=G) (i:=id) (v:=some o)).1 (by rw[<-h2,<-h3];exact h1)
  rw[this]
 ·cases hq:G.st.get id with
  |some v=>exact absurd rfl (h1 _ (xg.2 hq))
  |none=>simp only[h2]
theorem wT:∀{l:List Nat} {t:Tr HV} {k:Nat} {v:HV},(wS l t).get k=some v->k∉l/\t.get k=some v
 |[],t,k,v,h=>⟨by simp,h⟩
 |n::l,t,k,v,h=>by
  obtain⟨h1,h2⟩:=wT (l:=l) (t:=t.set none n) h
  rw[Tr.mW]at h2
  split at h2
  ·cases h2
  ·rename_i e;exact⟨by simp[e,h1],h2⟩
theorem BP{H:Hp}{i:Nat}:∀{ws:List Wr},(∀x∈ws,x.aG≠i)->cw H ws i=H i
 |[],_=>rfl
 |x::ws,h=>by
  rw[my,BP (fun y hy=>h y (by simp[hy]))]
  cases x with
  |jQ n v=>rfl
  |ej id o=>exact a0h _ _ (Ne.symm (h (.ej id o) (by simp)))
section
variable {ρ:En}{B:Bs}
structure Lc(B:Bs)(G1:GS)(ls bs:List Nat)(room:Nat)(m0:Mp):Prop where
 ok:BI B
 low:B.n0<=G1.next
 mb:B.mb.le m0
 dom:∀id,m0.has id->B.U id∨(B.n0<=id/\id<G1.next)
 mj:G1.next+room<=B.mj
 bs:∀id∈bs,∃b,m0.ad id=some b
 fr:∀k,B.Fr k->k∉ls
structure LI(ρ:En)(B:Bs)(G1:GS)(ls bs:List Nat)(m0:Mp)(s:SL)(ids:List Nat)(x:(pN s).den)(a:Act)(w:World)(F:Fz):Prop where
 eY:m0.fz.le F
 rep:a0d ρ (cw (G1.da B.H0) (pB bs)) (m0.on F) w
 bk:∀k v,(wS ls G1.bk).get k=some v->den m0 v=some (a.tmps.getD k undef)
 fr:∀k,B.Fr k->a.tmps.getD k undef=B.a0 k
 defers:a.defers=[]
 size:a.tmps.size=B.N
 box:boxesOf G1 s=some ids
 sub:∀id∈ids,id∈bs
 data:∃G,I8 m0 F w a s ids x G/\mu ρ (cw (G1.da B.H0) (pB bs)) (m0.on F) G
theorem C2{G1:GS}{ls bs:List Nat}{room:Nat}{m0:Mp}(hc:Lc B G1 ls bs room m0){s:SL}{ids:List Nat}{x:(pN s).den}{a:Act}{w:World}{F:Fz}(h:LI ρ B G1 ls bs m0 s ids x a w F)(htop:G1.next+(pN s).lists<=B.mj):
 ∃m',(m0.on F).le m'/\nU ρ B.N (iu G1 ls bs s x).bk.get ((iu G1 ls bs s x).da B.H0) m' a w/\(∀i,m'.has i->m0.has i∨(G1.next<=i/\i<G1.next+(pN s).lists))/\
  (∀i,i∉bs->¬(G1.next<=i/\i<G1.next+(pN s).lists)->(iu G1 ls bs s x).da B.H0 i=G1.da B.H0 i):=by
 obtain⟨G,h1,h2⟩:=h.data
 have hM:=Mp.uO (m:=m0) h.eY
 obtain⟨m',f⟩:=Mu (S:=(wS ls G1.bk).get) (n:=G1.next) (m:=m0.on F) h.rep h.box (show I8 (m0.on F) (m0.on F).fz w a s ids x G from I8.mono (m:=m0) (Fz.le_refl F) (fun _ _ _ h=>h) h1) h2 (fun i hi hi' hh=>by
  rcases hc.dom i hh with p|p
  ·exact hc.ok.jI i (by have:=hc.low;omega) (by omega) p
  ·omega)
 obtain⟨q1,q2,q3⟩:=nL B.H0 (pB bs++Jp G1 s x G1.next) {G1 with bk:=wS ls G1.bk}
 have e1:(iu G1 ls bs s x).da B.H0=cw (cw (G1.da B.H0) (pB bs)) (Jp G1 s x G1.next):=by
  rw[<-a0o];exact q1
 have e2:(iu G1 ls bs s x).bk.get=og (wS ls G1.bk).get (Jp G1 s x G1.next):=by
  refine q2.trans ?_
  rw[kZ,gO IF]
 refine⟨m',f.le,⟨by rw[e1];exact f.rep,?_,h.defers,h.size⟩,f.has,fun i hi hi'=> ?_⟩
 ·rw[e2]
  exact f.bk fun k v hk=>fO hM (h.bk k v hk)
 ·rw[e1,f.at_ i (fun hh=>hi (h.sub i hh)) hi',a3U,if_neg hi]
def Bs.round(B:Bs)(G1:GS)(ls:List Nat)(room:Nat)(m0:Mp)(F:Fz)(Hr:Hp)(a:Act):Bs:=
 ⟨B.N,fun id=>B.U id∨(B.n0<=id/\id<G1.next),G1.next,m0.on F,Hr,G1.next+room,fun k=>k∉ls,fun k=>a.tmps.getD k undef⟩
theorem M0{G1:GS}{ls bs:List Nat}{room:Nat}{m0:Mp}(hc:Lc B G1 ls bs room m0){F:Fz}{Hr:Hp}{a:Act}:BI (B.round G1 ls room m0 F Hr a):=⟨fun j h1 h2 h3=>by
 have h1:G1.next<=j:=h1
 have h2:j<G1.next+room:=h2
 have:=hc.low
 have:=hc.mj
 rcases h3 with h3|h3
 ·exact hc.ok.jI j (by omega) (by omega) h3
 ·omega⟩
theorem Kl{G1:GS}{ls bs:List Nat}{room:Nat}{m0:Mp}(hc:Lc B G1 ls bs room m0){s:SL}{ids:List Nat}{x:(pN s).den}{a:Act}{w:World}{F:Fz}(h:LI ρ B G1 ls bs m0 s ids x a w F)(htop:G1.next+(pN s).lists<=G1.next+room):
 lE ρ (B.round G1 ls room m0 F ((iu G1 ls bs s x).da B.H0) a) (enter G1 ls bs s x) a w/\iT ((iu G1 ls bs s x).da B.H0) (enter G1 ls bs s x):=by
 have hca:iT ((iu G1 ls bs s x).da B.H0) (enter G1 ls bs s x):=fun id o hi=>L4 hi
 obtain⟨m',f1,f2,f3,f4⟩:=C2 hc h (by have:=hc.mj;omega)
 have hov:(enter G1 ls bs s x).da ((iu G1 ls bs s x).da B.H0)=(iu G1 ls bs s x).da B.H0:=by
  funext id
  show(match(enter G1 ls bs s x).find id with|some o=>o|none=>(iu G1 ls bs s x).da B.H0 id)=_
  rw[find_eq]
  have e:(enter G1 ls bs s x).st.get id=none:=rfl
  rw[e]
  cases hq:(enter G1 ls bs s x).ca.get id with
  |none=>rfl
  |some o=>exact(hca id o hq).symm
 refine⟨⟨fun k _=>rfl,⟨m',f1,?_,fun id hi=> ?_⟩,Nat.le_add_right _ _⟩,hca⟩
 ·show nU ρ B.N (iu G1 ls bs s x).bk.get ((enter G1 ls bs s x).da ((iu G1 ls bs s x).da B.H0)) m' a w
  rw[hov];exact f2
 ·rcases f3 id hi with p|p
  ·exact .inl (hc.dom id p)
  ·exact .inr p
theorem N5{α:Type}{G1 Ge:GS}{ls bs:List Nat}{room:Nat}{m0:Mp}(hc:Lc B G1 ls bs room m0){s0:SL}{ids0:List Nat}{x0:(pN s0).den}{a a':Act}{w w':World}{F:Fz}(h:LI ρ B G1 ls bs m0 s0 ids0 x0 a w F)(htop:G1.next+(pN s0).lists<=G1.next+room)
 (hst:lE ρ (B.round G1 ls room m0 F ((iu G1 ls bs s0 x0).da B.H0) a) Ge a' w') (hca:iT ((iu G1 ls bs s0 x0).da B.H0) Ge) (hw:okW G1.next (G1.next+room) bs (Ge.st.toL 0 1 [])=true)
 {s:SL} {k:(pN s).den->RT α} {S0:Sl} {r:α} (hr:(Fs G1 bs (G1.next+room) s Ge k).run S0 ((iu G1 ls bs s0 x0).da B.H0)=some r):
 ∃x ids F',(k x).run S0 ((iu G1 ls bs s0 x0).da B.H0)=some r/\LI ρ B G1 ls bs m0 s ids x a' w' F':=by
 obtain⟨Hr,hHr⟩:∃Hr,Hr=(iu G1 ls bs s0 x0).da B.H0:=⟨_,rfl⟩
 obtain⟨m',_,_,_,f4⟩:=C2 hc h (by have:=hc.mj;omega)
 rw[<-hHr]at hst hca hr f4⊢
 unfold Fs at hr
 obtain⟨hsb,hr⟩:=cE hr
 unfold Pn at hsb
 split at hsb
 case h_2=>cases hsb
 rename_i ids ids' hb1 hb2
 simp only[Bool.and_eq_true]at hsb
 obtain⟨c1,c2,c3⟩:=hsb
 have c1:=Hg c1
 subst c1
 have c3:=xj c3
 have c2:∀id∈ids,id∈bs:=fun id hi=>zC.1 (List.all_eq_true.1 c2 id hi)
 obtain⟨p,rd,G',r1,r2,r3,r4,r5,r6,r7⟩:=ql hr
 obtain⟨hnw,hr⟩:=cE r3
 have hrun:=r5 (Ge.sg Hr) (fun l _=>by rcases l with⟨_|_,n⟩<;>rfl)
 obtain⟨x,ws,k1,k2,k3⟩:=CH (Gs:=Ge) (H:=Ge.da Hr) hb2 hrun
 have:=bR k1
 subst this
 obtain⟨sfr,⟨me,e1,e2,e3⟩,elow⟩:=hst
 have e1:(m0.on F).le me:=e1
 have e2:nU ρ B.N Ge.bk.get (Ge.da Hr) me a' w':=e2
 obtain⟨m1,Gd,G2,g1,g2,g3⟩:=k3 (.start e2.heap) rfl e2.bk
 have hrs:RS ρ (Ge.da Hr) me w' ws m1:=by simpa using g1.rs
 have hgk:mu ρ (cw (Ge.da Hr) ws) m1 Gd:=by simpa using g1.AH
 have hM1:(m0.on F).le m1:=Mp.le_trans e1 hrs.le
 have far:∀i,m0.has i->¬(G1.next<=i/\i<G1.next+room):=fun i hi hh=>by
  have:=hc.mj
  have:=hc.low
  rcases hc.dom i hi with q|q
  ·exact hc.ok.jI i (by omega) (by omega) q
  ·omega
 have wsf:∀i,m0.has i->cw (Ge.da Hr) ws i=Ge.da Hr i:=fun i hi=>BP fun x hx e=>by
  have:=List.all_eq_true.1 hnw x hx
  simp only[Bool.and_eq_true]at this
  have g1:=Nat.le_of_ble_eq_true this.1
  have g2:x.aG<G1.next+room:=Nat.le_of_ble_eq_true this.2
  exact far i hi ⟨by omega,by omega⟩
 have hsub:∀i o,cw (G1.da B.H0) (pB bs) i=some o->cw (Ge.da Hr) ws i=some o:=by
  intro i o hi
  have hh:m0.has i:=(h.rep.fe i o hi).has
  rw[wsf i hh]
  rw[a3U]at hi
  split at hi
  ·cases hi
  ·rename_i hnb
   rw[<-f4 i hnb (fun hh'=>far i hh ⟨hh'.1,by omega⟩)]at hi
   show(match Ge.find i with|some o=>o|none=>Hr i)=some o
   rw[find_eq]
   cases hq:Ge.st.get i with
   |some v=>
    have:=List.all_eq_true.1 hw _ (xg.2 hq)
    simp only[Bool.or_eq_true,Bool.and_eq_true]at this
    rcases this with⟨t1,t2⟩|t
    ·exact absurd ⟨Nat.le_of_ble_eq_true t1,Nat.le_of_ble_eq_true t2⟩ (far i hh)
    ·exact absurd (zC.1 t) hnb
   |none=>
    cases hq2:Ge.ca.get i with
    |none=>exact hi
    |some o'=>rw[hca i o' hq2]at hi;exact hi
 have hbk:=h.rep.a4E hrs.rep hM1 hsub
 have hids:∀id∈ids,∃b,m0.ad id=some b/\me.ad id=some b:=fun id hi=>by
  obtain⟨b,hb⟩:=hc.bs id (c2 id hi)
  exact⟨b,hb,e1.ad _ _ hb⟩
 have hG:=Bi (Hk:=cw (G1.da B.H0) (pB bs)) (mk:=(m0.on F).on m1.fz) (ids:=ids) hrs.rep hgk c3 (fun id hi=>by
  obtain⟨b,hb,_⟩:=hids id hi
  obtain⟨e,cs,h2⟩:=k2 id hi
  exact⟨e,cs,by rw[wsf id (.inl (by rw[hb];simp))];exact h2⟩) (fun i o hi=>⟨hsub i o hi,fun hh=>by
   rw[a3U,if_pos (c2 i hh)]at hi;cases hi⟩) (fun i b hb=>hM1.ad _ _ hb) rfl
 rw[hrs.ad]at hG
 refine⟨x,ids,m1.fz,hr,⟨Fz.le_trans h.eY hM1.fz,hbk,fun k v hk=> ?_,fun k hk=> ?_,e2.defers,e2.size,hb1,c2,G2,I8.mono (Fz.le_refl _) (fun id b hi hb=> ?_) g2,hG.W5 g3⟩⟩
 ·obtain⟨t1,_⟩:=wT hk
  rw[h.bk k v hk]
  exact congrArg some (sfr k t1).symm
 ·rw[<-h.fr k hk]
  exact sfr k (hc.fr k hk)
 ·obtain⟨b',q1,q2⟩:=hids id hi
  rw[q2]at hb;cases hb
  exact q1
end
section
variable {Γ:vC}{cl:a2D}{S0:Sl}
theorem A8{α:Type}{H0:Hp}{K:GS->RT α}{r:α}:∀{l:List Nat} {G:GS},(preL l G K).run S0 H0=some r->∃G1,(K G1).run S0 H0=some r/\G1.sg H0=G.sg H0/\G1.next=G.next/\(iT H0 G->iT H0 G1)
 |[],G,h=>⟨G,h,rfl,rfl,fun h=>h⟩
 |id::l,G,h=>by
  simp only[preL]at h
  cases hf:G.find id with
  |some o=>rw[hf]at h;exact A8 h
  |none=>
   rw[hf]at h
   obtain⟨o,ho,h⟩:=dR h
   obtain⟨G1,h1,h2,h3,h4⟩:=A8 h
   exact⟨G1,h1,h2.trans (by simp only[GS.sg,Bv ho hf];rfl),h3,fun hc=>h4 (hc.ff ho)⟩
theorem tO{α:Type}{H0:Hp}{K:GS->RT α}{r:α}:∀{d:Nat} {l:List Nat} {G:GS},(preR d l G K).run S0 H0=some r->∃G1,(K G1).run S0 H0=some r/\G1.sg H0=G.sg H0/\G1.next=G.next/\(iT H0 G->iT H0 G1)
 |0,l,G,h=>⟨G,h,rfl,rfl,fun h=>h⟩
 |d+1,l,G,h=>by
  simp only[preR]at h
  obtain⟨G1,h1,h2,h3,h4⟩:=A8 h
  obtain⟨G2,q1,q2,q3,q4⟩:=tO h1
  exact⟨G2,q1,q2.trans h2,q3.trans h3,fun hc=>q4 (h4 hc)⟩
theorem xe{α:Type}{H0:Hp}{G1:GS}{ls bs:List Nat}{room:Nat}{K:XE->GS->RT α}{r:α}:∀{l:List (XE×SL)} {y:uJ l},(leave G1 ls bs room K l y).run S0 H0=some r->∃e s x,(K e (dK G1 ls bs room s x)).run S0 H0=some r
 |[],y,h=>aA h
 |[o],y,h=>⟨_,_,_,h⟩
 |o::p::l,y,h=>by
  simp only[leave]at h
  cases y with
  |inl x=>exact⟨_,_,_,h⟩
  |inr z=>exact xe (l:=p::l) h
theorem Ld{L:Nat}{an:Jh}{ls:List Nat}{body:GS->(XE->GS->RT ((pN an.uN).den⊕uJ an.tJ))->RT ((pN an.uN).den⊕uJ an.tJ)}{G G':GS}{e:XE}{H0:Hp}
 (h:(zO L an ls body (fun e G=>.dH (e,G)) G).run S0 H0=some (e,G')):G.next<=G'.next/\(iT H0 G->iT H0 G'):=by
 unfold zO at h
 obtain⟨G1,h,h2,h3,h4⟩:=tO h
 obtain⟨p,rd,G2,r1,r2,h,r4,r5,r6,r7⟩:=ql h
 obtain⟨bs,hbs,h⟩:=a07 h
 obtain⟨hnd,h⟩:=cE h
 obtain⟨y,hy,h⟩:=run_bind h
 obtain⟨e',s,x,h⟩:=xe h
 have:=bR h
 cases this
 obtain⟨q1,q2,q3⟩:=nL H0 p.2 G2
 refine⟨?_,fun hc i o hi=> ?_⟩
 ·show G.next<=(G2.app p.2).next+an.room+(pN s).lists
  rw[q3];omega
 ·have e1:(dK (G2.app p.2) ls bs an.room s x).ca=(G2.app p.2).ca:=by
   show(iu (G2.app p.2) ls bs s x).ca=_
   unfold iu
   rw[BO]
  rw[e1,BO]at hi
  exact r6 (h4 hc) i o hi
theorem l5{fn:Nat}{H0:Hp}:∀(c:Code) {G G':GS} {e:XE},(codeRT Γ cl fn c G fun e G=>.dH (e,G)).run S0 H0=some (e,G')->G.next<=G'.next/\(iT H0 G->iT H0 G'):=by
 intro c
 induction c with
 |skip=>intro G G' e h;have:=bR (show(RT.dH (XE.normal,G):RT (XE×GS)).run S0 H0=some (e,G')from h);cases this;exact⟨Nat.le_refl _,fun h=>h⟩
 |ret=>intro G G' e h;have:=bR (show(RT.dH (XE.ret,G):RT (XE×GS)).run S0 H0=some (e,G')from h);cases this;exact⟨Nat.le_refl _,fun h=>h⟩
 |exit id=>intro G G' e h;have:=bR (show(RT.dH (XE.exit id,G):RT (XE×GS)).run S0 H0=some (e,G')from h);cases this;exact⟨Nat.le_refl _,fun h=>h⟩
 |region id ops draw=>
  intro G G' e h
  cases draw with
  |true=>
   obtain⟨G2,h1,h2,h3⟩:=Oh (show(regD Γ cl ops.toList ops.toList [] G fun G=>.dH (XE.normal,G)).run S0 H0=some (e,G')from h)
   have:=bR h1;cases this
   exact⟨h2,h3⟩
  |false=>
   obtain⟨G2,h1,h2,h3⟩:=CL (show(tT Γ.toCtx cl ops.toList ops.toList G fun G=>.dH (XE.normal,G)).run S0 H0=some (e,G')from h)
   have:=bR h1;cases this
   exact⟨h2,h3⟩
 |seq x y ihx ihy=>
  intro G G' e h
  obtain⟨e1,G1,h1,h2⟩:=eO (show(codeRT Γ cl fn x G (yf (fun e G=>.dH (e,G)) (codeRT Γ cl fn y))).run S0 H0=some (e,G')from h)
  obtain⟨q1,q2⟩:=ihx h1
  cases e1 with
  |normal=>obtain⟨q3,q4⟩:=ihy h2;exact⟨by omega,fun h=>q4 (q2 h)⟩
  |exit i=>have:=bR h2;cases this;exact⟨q1,q2⟩
  |ret=>have:=bR h2;cases this;exact⟨q1,q2⟩
 |cond c x y ihx ihy=>
  intro G G' e h
  have hv:∀n v,(condV (codeRT Γ cl fn x) (codeRT Γ cl fn y) G (fun e G=>.dH (e,G)) n v).run S0 H0=some (e,G')->G.next<=G'.next/\(iT H0 G->iT H0 G'):=by
   intro n v h
   unfold condV at h
   split at h
   ·rename_i t
    have hc:∀b,iT H0 G->iT H0 (G.refine n b):=fun b h=>h
    rcases vk h with⟨_,h⟩|⟨_,h⟩
    ·obtain⟨q1,q2⟩:=ihx h;exact⟨q1,fun h=>q2 (hc _ h)⟩
    ·obtain⟨q1,q2⟩:=ihy h;exact⟨q1,fun h=>q2 (hc _ h)⟩
   ·exact aA h
  have h':(condR (codeRT Γ cl fn x) (codeRT Γ cl fn y) G (fun e G=>.dH (e,G)) c).run S0 H0=some (e,G'):=h
  unfold condR at h'
  split at h'
  ·exact hv _ _ h'
  ·split at h'
   ·rename_i t _
    cases t
    ·exact ihy h'
    ·exact ihx h'
   ·exact aA h'
  ·exact aA h'
 |block id c ih=>
  intro G G' e h
  obtain⟨e1,G1,h1,h2⟩:=eO (show(codeRT Γ cl fn c G (nV id fun e G=>.dH (e,G))).run S0 H0=some (e,G')from h)
  have:=ih h1
  cases e1 with
  |normal=>have q:=bR h2;cases q;exact this
  |ret=>have q:=bR h2;cases q;exact this
  |exit j=>
   simp only[nV]at h2
   cases hb:Nat.beq j id with
   |true=>rw[hb]at h2;have q:=bR h2;cases q;exact this
   |false=>rw[hb]at h2;have q:=bR h2;cases q;exact this
 |loop c ih=>
  intro G G' e h
  have key:∀(n:Nat) (G:GS),(qC n (codeRT Γ cl fn c) (fun e G=>.dH (e,G)) G).run S0 H0=some (e,G')->G.next<=G'.next/\(iT H0 G->iT H0 G'):=by
   intro n
   induction n with
   |zero=>intro G h;exact aA h
   |succ n ihn=>
    intro G h
    rw[qS]at h
    obtain⟨e1,G1,h1,h2⟩:=eO h
    obtain⟨q1,q2⟩:=ih h1
    cases e1 with
    |normal=>obtain⟨q3,q4⟩:=ihn G1 h2;exact⟨by omega,fun h=>q4 (q2 h)⟩
    |exit i=>have q:=bR h2;cases q;exact⟨q1,q2⟩
    |ret=>have q:=bR h2;cases q;exact⟨q1,q2⟩
  simp only[codeRT]at h
  split at h
  ·split at h
   ·obtain⟨G1,h,h2,h3,h4⟩:=tO h
    obtain⟨q1,q2⟩:=Ld h
    exact⟨by omega,fun h=>q2 (h4 h)⟩
   ·exact key _ G h
  ·exact key _ G h
 |rangeFunc f ps x y ihx ihy=>intro G G' e h;exact aA h
 |scope c ih=>intro G G' e h;exact aA h
 |label l=>intro G G' e h;exact aA h
 |goto l=>intro G G' e h;exact aA h
 |refuse w=>intro G G' e h;exact aA h
end
theorem A6{ρ:En}{B:Bs}{G1 Ge:GS}{ls bs:List Nat}{room mj:Nat}{m0:Mp}{a:Act}{w:World}{Hr:Hp}{S0:Sl}{e:XE}
 (hend:∀{α:Type} {s:SL} {k:(pN s).den->RT α} {r:α},(Fs G1 bs mj s Ge k).run S0 Hr=some r->∃x ids F',(k x).run S0 Hr=some r/\LI ρ B G1 ls bs m0 s ids x a w F') {α:Type} {r:α}:∀{l:List (XE×SL)} {k:uJ l->RT α},(pickX G1 bs mj Ge l e k).run S0 Hr=some r->
 ∃(y:uJ l) (s:SL) (ids:List Nat) (x:(pN s).den) (F':Fz),(k y).run S0 Hr=some r/\LI ρ B G1 ls bs m0 s ids x a w F'/\∀(K:XE->GS->RT (XE×GS)) (S:Sl) (H:Hp),(leave G1 ls bs room K l y).run S H=(K e (dK G1 ls bs room s x)).run S H
 |[],k,h=>aA h
 |[o],k,h=>by
  simp only[pickX]at h
  obtain⟨he,h⟩:=cE h
  obtain⟨x,ids,F',h1,h2⟩:=hend h
  refine⟨x,o.2,ids,x,F',h1,h2,fun K S H=> ?_⟩
  simp only[leave,P4 he]
 |o::p::l,k,h=>by
  simp only[pickX]at h
  cases hb:o.1.is e with
  |true=>
   rw[hb]at h
   obtain⟨x,ids,F',h1,h2⟩:=hend (s:=o.2) (k:=fun x=>k (.inl x)) h
   refine⟨.inl x,o.2,ids,x,F',h1,h2,fun K S H=> ?_⟩
   simp only[leave,RT.run,P4 hb]
  |false=>
   rw[hb]at h
   obtain⟨y,s,ids,x,F',h1,h2,h3⟩:=A6 (room:=room) hend (l:=p::l) (k:=fun y=>k (.inr y)) h
   refine⟨.inr y,s,ids,x,F',h1,h2,fun K S H=> ?_⟩
   simp only[leave,RT.run]
   exact h3 K S H
end Go.Proofs.YtehbbcdhahnkgaaGreat.Vm
