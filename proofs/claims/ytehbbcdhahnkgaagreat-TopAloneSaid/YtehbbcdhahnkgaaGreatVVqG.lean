/- Plain functions: what is always so of a gateway stays so: children, half-open associations, time. -/
import Derived.Test.YtehbbcdhahnkgaaGreatVMTr
set_option linter.all false
set_option maxRecDepth 100000
set_option maxHeartbeats 0
namespace Go.Proofs.YtehbbcdhahnkgaaGreat.Vm
open Go
section
variable {w:Int}{S S':List jn}{D:Dl}{R:List aQ}{X X':Cr}{bA:Int}{g g':aa}
def Ua(X X':Cr)(n:Nat)(sa:Int):Prop:=
 X'.ex=X.ex/\X'.zs=X.zs/\X'.ze=X.ze/\((X'=X/\X.ex=0/\X.zr=0/\X.ze=0/\n<=11)∨(X'.zr+1<=X.zr/\X'.zl=X.zl)∨(X'.zr=X.zr/\X.zl≠0/\sa=X.zl/\X'.zl=0))
theorem GI.yP(q:GI w S D R X g){c:a00}(hc:uU w c)(ho:occ c.eI g=0)(hb:base w<c.eI)(hb':c.eI<=base w+g.count)(hD:∀d∈D.l,d.1≠c.eI)(hsa:∃s∈g.u4,s.own=c.sa/\3<=s.state)(hp:Ua X X' g.af.length c.sa):
 GI w S D R X' (aa.ck g (g.af++[c])):=by
 obtain⟨x1,x2,x3,hp⟩:=hp
 have hin:∀d∈g.af,d.eI≠c.eI:=fun d hd e=>by
  have:=iC (gK c.eI) hd
  have h1:gK c.eI d=1:=by unfold gK;rw[if_pos e]
  unfold occ at ho;omega
 have eU:∀x,occ x (aa.ck g (g.af++[c]))=occ x g+gK x c:=fun x=>by
  show sumL (dD x) g.u4+sumL (eU x) g.aW+sumL (gK x) (g.af++[c])=sumL (dD x) g.u4+sumL (eU x) g.aW+sumL (gK x) g.af+gK x c
  rw[iB,jC];omega
 have hmem:∀t,t∈g.af++[c]->t∈g.af∨t=c:=fun t ht=>by simpa using ht
 refine{q with u4:=by rw[x1];exact q.u4,dF:=fun t ht=> ?_,lD:=fun x=> ?_,kr:=fun x hx=> ?_,nY:=fun t ht=> ?_,a3V:=by rw[x2];exact q.a3V,tq:=by rw[x3];exact q.tq,jE:= ?_,uL:=fun d hd=> ?_}
 ·rcases hmem t ht with ht|rfl
  ·exact q.dF t ht
  ·exact hc
 ·rw[eU];unfold gK
  have:=q.lD x
  split
  ·rename_i e;subst e;omega
  ·omega
 ·rw[eU]at hx;unfold gK at hx
  by_cases e:c.eI=x
  ·subst e;exact⟨hb,hb'⟩
  ·rw[if_neg e]at hx;exact q.kr x (by omega)
 ·rcases hmem t ht with ht|rfl
  ·exact q.nY t ht
  ·exact hsa
 ·obtain⟨cn,au,h⟩:=q.jE
  have key:∀b:Bool,(∀k,sumL (a2E cn k) g.u4+sumL (ud cn au k) g.af+(if b=true/\cn c.sa=k then 1 else 0)+(if X'.zl≠0/\cn X'.zl=k then 1 else 0)<=1)->(sumL (oD au) g.af+(if b=true then 0 else 1)+sumL nj g.u4+X'.zr<=20)->∃cn au,Cn X' cn au (aa.ck g (g.af++[c])):=by
   intro b h1 h2
   have d1:∀d∈g.af,(if d.eI=c.eI then b else au d.eI)=au d.eI:=fun d hd=>if_neg (hin d hd)
   refine⟨cn,fun x=>if x=c.eI then b else au x,h.Bf,fun k=> ?_,h.EY,?_⟩
   ·have e1:sumL (ud cn (fun x=>if x=c.eI then b else au x) k) g.af=sumL (ud cn au k) g.af:=kX _ fun d hd=>by unfold ud;simp only[d1 d hd]
    have e2:ud cn (fun x=>if x=c.eI then b else au x) k c=if b=true/\cn c.sa=k then 1 else 0:=by unfold ud;simp
    show sumL (a2E cn k) g.u4+sumL _ (g.af++[c])+_<=1
    rw[iB,jC,e1,e2]
    have:=h1 k;omega
   ·have e1:sumL (oD (fun x=>if x=c.eI then b else au x)) g.af=sumL (oD au) g.af:=kX _ fun d hd=>by unfold oD;simp only[d1 d hd]
    have e2:oD (fun x=>if x=c.eI then b else au x) c=if b=true then 0 else 1:=by unfold oD;simp
    show sumL _ (g.af++[c])+sumL nj g.u4+X'.zr<=20
    rw[iB,jC,e1,e2];omega
  rcases hp with⟨rfl,hx,hr,he,hn⟩|⟨hr,hl⟩|⟨hr,hl,hs,hl'⟩
  ·refine key false (fun k=> ?_) ?_
   ·have:=h.one k;simp;simpa using this
   ·have h8:sumL (oD au) g.af<=g.af.length:=by
     rw[<-a4g g.af]
     exact qt _ fun x _=>by unfold oD;split<;>omega
    have h9:sumL nj g.u4<=sumL iR g.u4:=qt _ fun t ht=>by
     have hh:=q.u4 t ht;rw[hx]at hh;exact hh.nc (q.Ep ht)
    have:=q.tq
    simp;omega
  ·refine key false (fun k=> ?_) ?_
   ·have:=h.one k;rw[hl];simp;simpa using this
   ·have:=h.rest;simp;omega
  ·refine key true (fun k=> ?_) ?_
   ·have:=h.one k
    rw[hl',hs]
    simp[hl]at this⊢
    omega
   ·have:=h.rest;simp;omega
 ·obtain⟨h1,h2,h3,h4⟩:=q.uL d hd
  refine⟨h1,h2,h3,fun t ht e=> ?_⟩
  rcases hmem t ht with ht|rfl
  ·exact h4 t ht e
  ·exact absurd e.symm (hD d hd)
theorem GI.pL(q:GI w S D R X g){i:Nat}{c c':a00}(hi:g.af[i]?=some c)(hc:uU w c')(e1:c'.eI=c.eI)(e2:c'.sa=c.sa)(hw:∀n,seen c.iS n->seen c'.iS n):GI w S D R X (aa.ck g (g.af.set i c')):=by
 have hm:=bC hi
 have hsum:∀{f:a00->Nat},f c'=f c->sumL f (g.af.set i c')=sumL f g.af:=fun{f} h=>by have:=nr (f:=f) hi c';omega
 have eU:∀x,occ x (aa.ck g (g.af.set i c'))=occ x g:=fun x=>by
  show sumL (dD x) g.u4+sumL (eU x) g.aW+sumL (gK x) (g.af.set i c')=sumL (dD x) g.u4+sumL (eU x) g.aW+sumL (gK x) g.af
  rw[hsum (by unfold gK;rw[e1])]
 refine{q with dF:=fun t ht=> ?_,lD:=fun x=>by rw[eU];exact q.lD x,kr:=fun x hx=>q.kr x (by rw[eU]at hx;exact hx),nY:=fun t ht=> ?_,jE:= ?_,uL:=fun d hd=> ?_}
 ·rcases kH ht with rfl|ht
  ·exact hc
  ·exact q.dF t ht
 ·rcases kH ht with rfl|ht
  ·rw[e2];exact q.nY c hm
  ·exact q.nY t ht
 ·obtain⟨cn,au,h⟩:=q.jE
  refine⟨cn,au,h.Bf,fun k=> ?_,h.EY,?_⟩
  ·show sumL (a2E cn k) g.u4+sumL (ud cn au k) (g.af.set i c')+_<=1
   rw[hsum (by unfold ud;rw[e1,e2])];exact h.one k
  ·show sumL (oD au) (g.af.set i c')+sumL nj g.u4+X.zr<=20
   rw[hsum (by unfold oD;rw[e1])];exact h.rest
 ·obtain⟨h1,h2,h3,h4⟩:=q.uL d hd
  refine⟨h1,h2,h3,fun t ht e=> ?_⟩
  rcases kH ht with rfl|ht
  ·exact hw _ (h4 c hm (by rw[<-e1];exact e))
  ·exact h4 t ht e
theorem GI.Mc(q:GI w S D R X g){l:List a00}(hl:l.Sublist g.af):GI w S D R X (aa.ck g l):=by
 have eU:∀x,occ x (aa.ck g l)<=occ x g:=fun x=>by
  have:=kJ (f:=gK x) hl
  show sumL (dD x) g.u4+sumL (eU x) g.aW+sumL (gK x) l<=sumL (dD x) g.u4+sumL (eU x) g.aW+sumL (gK x) g.af
  omega
 refine{q with dF:=fun t ht=>q.dF t (hl.subset ht),lD:=fun x=>by have:=eU x;have:=q.lD x;omega,kr:=fun x hx=>q.kr x (by have:=eU x;omega),nY:=fun t ht=>q.nY t (hl.subset ht),jE:= ?_,uL:=fun d hd=> ?_}
 ·obtain⟨cn,au,h⟩:=q.jE
  refine⟨cn,au,h.Bf,fun k=> ?_,h.EY,?_⟩
  ·have:=kJ (f:=ud cn au k) hl;have:=h.one k
   show sumL (a2E cn k) g.u4+sumL (ud cn au k) l+_<=1
   omega
  ·have:=kJ (f:=oD au) hl;have:=h.rest
   show sumL (oD au) l+sumL nj g.u4+X.zr<=20
   omega
 ·obtain⟨h1,h2,h3,h4⟩:=q.uL d hd
  exact⟨h1,h2,h3,fun t ht=>h4 t (hl.subset ht)⟩
theorem GI.MK(q:GI w S D R X g){h:bN}(hh:xz w S g.bA h)(ho:occ h.own g=0)(hb:base w<h.own)(hb':h.own<=base w+g.count)(hn:g.aW.length<=3):GI w S D R X (aa.pT g (g.aW++[h])):=by
 have hoc:∀x,occ x (aa.pT g (g.aW++[h]))=occ x g+eU x h:=fun x=>by
  show sumL (dD x) g.u4+sumL (eU x) (g.aW++[h])+sumL (gK x) g.af=sumL (dD x) g.u4+sumL (eU x) g.aW+sumL (gK x) g.af+eU x h
  rw[iB,jC];omega
 refine{q with aW:=fun t ht=> ?_,nh:= ?_,lD:=fun x=> ?_,kr:=fun x hx=> ?_,jE:= ?_}
 ·rcases List.mem_append.1 (show t∈g.aW++[h]from ht)with ht|ht
  ·exact q.aW t ht
  ·rw[List.mem_singleton]at ht;subst ht;exact hh
 ·show(g.aW++[h]).length<=4
  simp;omega
 ·rw[hoc];unfold eU
  have:=q.lD x
  split
  ·rename_i e;subst e;omega
  ·omega
 ·rw[hoc]at hx;unfold eU at hx
  by_cases e:h.own=x
  ·subst e;exact⟨hb,hb'⟩
  ·rw[if_neg e]at hx;exact q.kr x (by omega)
 ·obtain⟨cn,au,k⟩:=q.jE;exact⟨cn,au,k.Bf,k.one,k.EY,k.rest⟩
theorem GI.HT(q:GI w S D R X g){l:List bN}(hl:l.Sublist g.aW):GI w S D R X (aa.pT g l):=by
 have hoc:∀x,occ x (aa.pT g l)<=occ x g:=fun x=>by
  have:=kJ (f:=eU x) hl
  show sumL (dD x) g.u4+sumL (eU x) l+sumL (gK x) g.af<=sumL (dD x) g.u4+sumL (eU x) g.aW+sumL (gK x) g.af
  omega
 refine{q with aW:=fun t ht=>q.aW t (hl.subset ht),nh:=by have:=hl.length_le;have:=q.nh;show l.length<=4;omega,lD:=fun x=>by have:=hoc x;have:=q.lD x;omega,kr:=fun x hx=>q.kr x (by have:=hoc x;omega),jE:= ?_}
 obtain⟨cn,au,k⟩:=q.jE;exact⟨cn,au,k.Bf,k.one,k.EY,k.rest⟩
theorem GI.MX(q:GI w S D R X g){i:Nat}{h:bN}(hi:g.aW[i]?=some h):GI w S D R X (aa.pT g (g.aW.take i++g.aW.drop (i+1)))/\occ h.own (aa.pT g (g.aW.take i++g.aW.drop (i+1)))=0/\base w<h.own/\h.own<=base w+g.count:=by
 have h1:eU h.own h=1:=by unfold eU;simp
 have h2:=iC (eU h.own) (bC hi)
 refine⟨q.HT (pZ _ _),?_,q.kr h.own (by unfold occ;omega)⟩
 have:=q.lD h.own
 have h3:=wA (f:=eU h.own) hi
 show sumL (dD h.own) g.u4+sumL (eU h.own) (g.aW.take i++g.aW.drop (i+1))+sumL (gK h.own) g.af=0
 unfold occ at this;omega
theorem GI.Ai(q:GI w S D R X g){l:List eH}(h:∀t∈l,aZ S t.body/\t.d.cP)(hl:l.length<=2):GI w S D R X (aa.xx g l):=by
 refine{q with a4l:=h,nt:=hl,jE:= ?_}
 obtain⟨cn,au,k⟩:=q.jE;exact⟨cn,au,k.Bf,k.one,k.EY,k.rest⟩
theorem GI.Mi(q:GI w S D R X g){n:Int}(hn:n=g.bA+1):GI w S D R X (aa.Pt g n):=by
 subst hn
 have ht:∀{p:a04},I9 g.bA p->I9 (g.bA+1) p:=fun h h0=>by
  have:=h h0;omega
 refine{q with bA:= ?_,u4:=fun s hs=> ?_,aW:=fun h hh=> ?_,jE:= ?_}
 ·have:=q.bA;show 0<=g.bA+1;omega
 ·have:=q.u4 s hs
  exact{this with J6:=ht this.J6,eC:=by have:=this.eC;show 0<=s.eC/\s.eC<=g.bA+1;omega}
 ·have:=q.aW h hh
  exact{this with born:=by have:=this.born;show 0<=h.born/\h.born<=g.bA+1;omega}
 ·obtain⟨cn,au,k⟩:=q.jE;exact⟨cn,au,k.Bf,k.one,k.EY,k.rest⟩
def lM(x f:Int)(s:Sa):Sa:=Sa.bw s (next:=if s.next=x then 0 else s.next) (dP:=if s.dP=x then 0 else s.dP) (follows:=if s.follows=x then f else s.follows)
def qP(x f:Int)(l:List a00):List a00:=l.filterMap fun c=>if c.sa=x then(if f=0 then none else some (a00.An c f))else some c
theorem Qq{ex:Int}{x f:Int}{s:Sa}(h:pV w S bA ex s):pV w S bA ex (lM x f s):={h with}
theorem wB{x f:Int}{k:a00->Nat}(hk:∀c,c.sa=x->f≠0->k (a00.An c f)<=k c):∀l:List a00,sumL k (qP x f l)<=sumL k l
 |[]=>Nat.le_refl _
 |c::l=>by
  have h1:=wB hk l
  by_cases e:c.sa=x
  ·by_cases e0:f=0
   ·have e1:qP x f (c::l)=qP x f l:=by unfold qP;rw[List.filterMap_cons];simp only[if_pos e,if_pos e0]
    rw[e1];simp only[sumL];omega
   ·have h2:=hk c e e0
    have e1:qP x f (c::l)=a00.An c f::qP x f l:=by unfold qP;rw[List.filterMap_cons];simp only[if_pos e,if_neg e0]
    rw[e1];simp only[sumL];omega
  ·have e1:qP x f (c::l)=c::qP x f l:=by unfold qP;rw[List.filterMap_cons];simp only[if_neg e]
   rw[e1];simp only[sumL];omega
theorem zR{x f:Int}{l:List a00}{c:a00}(h:c∈qP x f l):(c∈l/\c.sa≠x)∨(f≠0/\∃d∈l,d.sa=x/\c=a00.An d f):=by
 obtain⟨d,hd,he⟩:=List.mem_filterMap.1 h
 split at he
 ·rename_i e
  split at he
  ·cases he
  ·rename_i e0;cases he;exact .inr ⟨e0,d,hd,e,rfl⟩
 ·rename_i e;cases he;exact .inl ⟨hd,e⟩
theorem GI.finish(q:GI w S D R X g){i:Nat}{s:Sa}(hi:g.u4[i]?=some s){f:Int}(hf:f=0∨f=s.follows/\f≠s.own)(hx:X'.ex=X.ex∨X.ex=s.own)(hr:X'.zr<=X.zr)(hl:X'.zl=X.zl∨X'.zl=0)(hs:X'.zs<=X.zs)(he:X.ze<=X'.ze):
 GI w S D R X' (aa.ck (aa.bI g ((g.u4.take i++g.u4.drop (i+1)).map (lM s.own f))) (qP s.own f g.af)):=by
 have hm:=bC hi
 have hsub:=pZ g.u4 i
 have hcut:∀t,t∈g.u4.take i++g.u4.drop (i+1)->t∈g.u4/\t.own≠s.own:=fun t ht=>by
  refine⟨vX ht,fun e=> ?_⟩
  rcases List.mem_append.1 ht with h|h
  ·obtain⟨j,hj⟩:=List.mem_iff_getElem?.1 h
   rw[List.getElem?_take]at hj
   split at hj
   ·have:=q.tK hj hi e;omega
   ·cases hj
  ·obtain⟨j,hj⟩:=List.mem_iff_getElem?.1 h
   rw[List.getElem?_drop]at hj
   have:=q.tK hj hi e;omega
 have hin:∀t∈g.u4,t.own≠s.own->lM s.own f t∈(g.u4.take i++g.u4.drop (i+1)).map (lM s.own f):=fun t ht hne=>by
  obtain⟨j,hj⟩:=List.mem_iff_getElem?.1 ht
  have hji:j≠i:=by intro e;subst e;rw[hi]at hj;cases hj;exact hne rfl
  refine List.mem_map.2 ⟨t,?_,rfl⟩
  rcases Nat.lt_or_gt_of_ne hji with h|h
  ·exact List.mem_append.2 (.inl (List.mem_of_getElem? (i:=j) (by rw[List.getElem?_take];simp[h,hj])))
  ·exact List.mem_append.2 (.inr (List.mem_of_getElem? (i:=j-(i+1)) (by rw[List.getElem?_drop,show i+1+(j-(i+1))=j by omega];exact hj)))
 have hsum:∀{k:Sa->Nat},(∀t,k (lM s.own f t)=k t)->sumL k ((g.u4.take i++g.u4.drop (i+1)).map (lM s.own f))+k s=sumL k g.u4:=fun{k} hk=>by
  rw[Me,kX _ fun t _=>hk t];exact wA hi
 have hff:f≠0->∃t∈g.u4,t.own=f/\3<=t.state/\t.own≠s.own:=fun h0=>by
  rcases hf with h|⟨h1,h2⟩
  ·exact absurd h h0
  ·rcases q.fh s hm with h|⟨t,t1,t2,t3⟩
   ·exact absurd (h1.trans h) h0
   ·exact⟨t,t1,by rw[t2,h1],t3,by rw[t2,<-h1];exact h2⟩
 have hex:∀(x:Int),x≠s.own->(∃t∈g.u4,t.own=x/\3<=t.state)->∃t∈(g.u4.take i++g.u4.drop (i+1)).map (lM s.own f),t.own=x/\3<=t.state:=fun x hx ⟨t,a,b,c⟩=>⟨lM s.own f t,hin t a (by rw[b];exact hx),b,c⟩
 have hexf:f≠0->∃t∈(g.u4.take i++g.u4.drop (i+1)).map (lM s.own f),t.own=f/\3<=t.state:=fun h0=>by
  obtain⟨t,a,b,c,d⟩:=hff h0;exact⟨lM s.own f t,hin t a d,b,c⟩
 have hoc:∀x,occ x (aa.ck (aa.bI g ((g.u4.take i++g.u4.drop (i+1)).map (lM s.own f))) (qP s.own f g.af))<=occ x g:=fun x=>by
  have h1:=hsum (k:=dD x) fun t=>rfl
  have h2:=wB (x:=s.own) (f:=f) (k:=gK x) (fun c _ _=>Nat.le_refl _) g.af
  show sumL (dD x) ((g.u4.take i++g.u4.drop (i+1)).map (lM s.own f))+sumL (eU x) g.aW+sumL (gK x) (qP s.own f g.af)<=sumL (dD x) g.u4+sumL (eU x) g.aW+sumL (gK x) g.af
  omega
 have hgone:∀t∈(g.u4.take i++g.u4.drop (i+1)).map (lM s.own f),(Sa.pending t).gone.length<=D.k:=fun t ht=>by
  obtain⟨u,hu,rfl⟩:=List.mem_map.1 ht
  exact q.gone u (hcut u hu).1
 refine{q with u4:=fun t ht=> ?_,dF:=fun c hc=> ?_,lD:=fun x=>by have:=hoc x;have:=q.lD x;omega,kr:=fun x hx=>q.kr x (by have:=hoc x;omega),nY:=fun c hc=> ?_,fh:=fun t ht=> ?_,a3V:= ?_,tq:= ?_,jE:= ?_,gone:=hgone,uL:=fun d hd=> ?_}
 ·obtain⟨u,hu,rfl⟩:=List.mem_map.1 ht
  obtain⟨h1,h2⟩:=hcut u hu
  have hG:=q.u4 u h1
  refine Qq {hG with p4:=fun h=>hG.p4 ?_}
  rcases hx with hx|hx
  ·rw[<-hx];exact h
  ·rw[hx];exact fun h=>h2 h.symm
 ·rcases zR hc with⟨h,_⟩|⟨_,d,hd,_,rfl⟩
  ·exact q.dF c h
  ·exact{q.dF d hd with}
 ·rcases zR hc with⟨h,hne⟩|⟨h0,d,hd,_,rfl⟩
  ·exact hex _ hne (q.nY c h)
  ·exact hexf h0
 ·obtain⟨u,hu,rfl⟩:=List.mem_map.1 ht
  obtain⟨h1,h2⟩:=hcut u hu
  show(if u.follows=s.own then f else u.follows)=0∨∃t∈(g.u4.take i++g.u4.drop (i+1)).map (lM s.own f),Sa.own t=(if u.follows=s.own then f else u.follows)/\3<=Sa.state t
  split
  ·by_cases h0:f=0
   ·exact .inl h0
   ·exact .inr (hexf h0)
  ·rename_i hne
   rcases q.fh u h1 with h|h
   ·exact .inl h
   ·exact .inr (hex _ hne h)
 ·have h1:=hsum (k:=pSa) fun t=>rfl
  have h2:=hsub.length_le
  have:=q.a3V
  show((g.u4.take i++g.u4.drop (i+1)).map (lM s.own f)).length+sumL pSa ((g.u4.take i++g.u4.drop (i+1)).map (lM s.own f))+X'.zs<=15
  rw[List.length_map];omega
 ·have h1:=hsum (k:=iR) fun t=>rfl
  have:=q.tq
  show sumL iR ((g.u4.take i++g.u4.drop (i+1)).map (lM s.own f))<=8+X'.ze
  omega
 ·obtain⟨cn,au,h⟩:=q.jE
  have hcf:f≠0->cn f=cn s.own:=fun h0=>by
   rcases hf with e|⟨e,_⟩
   ·exact absurd e h0
   ·rw[e];exact h.Bf s hm (by rw[<-e];exact h0)
  refine⟨cn,au,fun t ht h0=> ?_,fun k=> ?_,?_,?_⟩
  ·obtain⟨u,hu,rfl⟩:=List.mem_map.1 ht
   obtain⟨h1,h2⟩:=hcut u hu
   have h0:(if u.follows=s.own then f else u.follows)≠0:=h0
   show cn (if u.follows=s.own then f else u.follows)=cn u.own
   by_cases e:u.follows=s.own
   ·rw[if_pos e]at h0⊢
    rw[hcf h0,<-e]
    exact h.Bf u h1 (by rw[e];exact q.Ep hm)
   ·rw[if_neg e]at h0⊢;exact h.Bf u h1 h0
  ·have h1:=hsum (k:=a2E cn k) fun t=>rfl
   have h2:=wB (x:=s.own) (f:=f) (k:=ud cn au k) (fun c e h0=>by
    have e1:ud cn au k (a00.An c f)=ud cn au k c:=by
     unfold ud
     show(if au c.eI=true/\cn f=k then 1 else 0)=_
     rw[hcf h0,e]
    omega) g.af
   have h3:=h.one k
   show sumL (a2E cn k) ((g.u4.take i++g.u4.drop (i+1)).map (lM s.own f))+sumL (ud cn au k) (qP s.own f g.af)+_<=1
   rcases hl with e|e
   ·rw[e];omega
   ·rw[if_neg (fun h=>h.1 e)];omega
  ·obtain⟨C,k1,k2⟩:=h.EY
   refine⟨C,k1,fun t ht=> ?_⟩
   obtain⟨u,hu,rfl⟩:=List.mem_map.1 ht
   exact k2 u (hcut u hu).1
  ·have h1:=hsum (k:=nj) fun t=>rfl
   have h2:=wB (x:=s.own) (f:=f) (k:=oD au) (fun c _ _=>Nat.le_refl _) g.af
   have:=h.rest
   show sumL (oD au) (qP s.own f g.af)+sumL nj ((g.u4.take i++g.u4.drop (i+1)).map (lM s.own f))+X'.zr<=20
   omega
 ·obtain⟨h1,h2,h3,h4⟩:=q.uL d hd
  have h5:=hsum (k:=fZ d.1) fun t=>rfl
  refine⟨h1,h2,?_,fun c hc e=> ?_⟩
  ·show sumL (fZ d.1) ((g.u4.take i++g.u4.drop (i+1)).map (lM s.own f))=0
   omega
  ·rcases zR hc with⟨h,_⟩|⟨_,d',hd',_,rfl⟩
   ·exact h4 c h e
   ·exact h4 d' hd' e
theorem GI.uQ(q:GI w S D R X g){k:Nat}(hk:D.k<=k):GI w S ⟨D.l,k⟩ R X g:=⟨q.ww,q.id,q.kS,q.dh,q.MA,q.lG,q.bA,q.gn,q.vn,q.u4,q.aW,q.dF,q.a4l,q.nh,q.nt,q.lD,q.kr,q.nY,q.fh,q.a3V,q.tq,q.jE,fun s hs=>Nat.le_trans (q.gone s hs) hk,q.uL⟩
theorem GI.xZ(q:GI w S D R X g):g.af.length<=28:=by
 obtain⟨cn,au,h⟩:=q.jE
 obtain⟨C,c1,c2⟩:=h.EY
 have h1:∀l:List a00,(∀c∈l,au c.eI=true->cn c.sa∈C)->∀C':List Int,C'=C->True:=fun _ _ _ _=>trivial
 have main:∀(C:List Int) (l:List a00),(∀c∈l,au c.eI=true->cn c.sa∈C)->(∀k,sumL (ud cn au k) l<=1)->sumL (fun c=>if au c.eI=true then 1 else 0) l<=C.length:=by
  intro C
  induction C with
  |nil=>
   intro l hl _
   have:sumL (fun c:a00=>if au c.eI=true then 1 else 0) l<=sumL (fun _=>0) l:=qt _ fun c hc=>by
    split
    ·rename_i e;exact absurd (hl c hc e) (by simp)
    ·exact Nat.le_refl _
   have z:∀l:List a00,sumL (fun _=>0) l=0:=by
    intro l
    induction l with
    |nil=>rfl
    |cons c l ih=>simp[sumL,ih]
   rw[z]at this;simpa using this
  |cons k C ih=>
   intro l hl h1
   have e1:sumL (fun c=>if au c.eI=true then 1 else 0) l=sumL (ud cn au k) l+sumL (fun c=>if au c.eI=true then 1 else 0) (l.filter fun c=>decide (cn c.sa≠k)):=by
    clear hl h1
    induction l with
    |nil=>rfl
    |cons c l ih=>
     by_cases e:cn c.sa=k
     ·rw[List.filter_cons_of_neg (by simpa using e)]
      simp only[sumL,ih]
      have:ud cn au k c=if au c.eI=true then 1 else 0:=by unfold ud;simp only[e,and_true]
      omega
     ·rw[List.filter_cons_of_pos (by simpa using e)]
      simp only[sumL,ih]
      have:ud cn au k c=0:=by unfold ud;exact if_neg fun h=>e h.2
      omega
   have:=h1 k
   have h2:=ih (l.filter fun c=>decide (cn c.sa≠k)) (fun c hc ea=>by
    rw[List.mem_filter]at hc
    rcases List.mem_cons.1 (hl c hc.1 ea)with e|e
    ·exact absurd e (by simpa using hc.2)
    ·exact e) (fun k'=>Nat.le_trans (kJ List.filter_sublist) (h1 k'))
   simp only[List.length_cons];omega
 have h2:=main C g.af (fun c hc _=>by
  obtain⟨t,t1,t2,_⟩:=q.nY c hc
  rw[<-t2];exact c2 t t1) (fun k=>by have:=h.one k;omega)
 have h3:g.af.length=sumL (fun c=>if au c.eI=true then 1 else 0) g.af+sumL (oD au) g.af:=by
  have:∀l:List a00,l.length=sumL (fun c=>if au c.eI=true then 1 else 0) l+sumL (oD au) l:=by
   intro l
   induction l with
   |nil=>rfl
   |cons c l ih=>
    simp only[sumL,List.length_cons]
    unfold oD at ih⊢
    split<;>omega
  exact this _
 have:=h.rest
 omega
end
structure Bd(g:aa):Prop where
 lG:g.count<=500000
 bA:g.bA<=100000
def bE(S:List jn)(l:List aj):Prop:=(∀d∈l,aZ S d.body)/\l.length<=6000
theorem bE.nil{S:List jn}:bE S []:=⟨fun d hd=>by simp at hd,Nat.zero_le _⟩
theorem bE.one{S:List jn}{a b:Int}{t:Tm}(h:aZ S t):bE S [(a,b,t)]:=⟨fun d hd=>by rw[List.mem_singleton]at hd;subst hd;exact h,by show 1<=6000;decide⟩
theorem bE.app{S:List jn}{l m:List aj}(h:bE S l)(k:bE S m)(hl:l.length+m.length<=6000):bE S (l++m):=⟨fun d hd=>by
 rcases List.mem_append.1 hd with hd|hd
 ·exact h.1 d hd
 ·exact k.1 d hd,by rw[List.length_append];exact hl⟩
section
variable {w:Int}{S S':List jn}{D:Dl}{R:List aQ}{X X':Cr}{g g':aa}{L:Nat}
theorem LH{n:Int}(hw:w=0∨w=1)(h1:0<=n)(h2:n<1048576):own (T.name (w*1048576+n))=w:=by
 show(w*1048576+n)/1048576=w
 omega
theorem GI.name(q:GI w S D R X g)(b:Bd g){k:Int}(h1:g.count<=k)(h2:k<=900000):Nm w (T.name (add (mul g.av 1048576) k)):=by
 have:=q.ww;have:=q.lG
 have e:add (mul g.av 1048576) k=w*1048576+k:=by
  rw[q.id,Lj (by omega) (by omega),fK (by omega) (by omega)]
 rw[e]
 exact⟨rfl,LH q.ww (by omega) (by omega),Nat.zero_le _,trivial⟩
theorem GI.dZ(q:GI w S D R X g){k:Int}(h1:0<=k)(h2:k<=900000):add (mul 1000 (add g.av 1)) k=base w+k:=by
 have:=q.ww
 rw[q.id,show add w 1=w+1 from fK (by omega) (by omega),show mul 1000 (w+1)=1000*(w+1)from Lj (by omega) (by omega),fK (by omega) (by omega)];rfl
theorem GI.FJ(q:GI w S D R X g)(b:Bd g):add g.count 1=g.count+1:=by have:=b.lG;have:=q.lG;exact fK (by omega) (by omega)
theorem Nm.KE{t:Tm}(h:Nm w t):aZ S t:=aZ.vR h.2.2 (.inr (.inl h.1))
theorem aZ.part{n:Int}{l:List Tm}(hl:l.length<=4000)(h:∀t∈l,aZ S t):aZ S (T.a01 (TL.of (T.aG n::l))):=aZ.a01 (GL.of (by simp;omega) fun t ht=>by
 rcases List.mem_cons.1 ht with rfl|ht
 ·exact aZ.aG _
 ·exact h t ht)
theorem tc{n k:Int}{l:List Tm}{r:TL}:fnd (.cons 3 0 (TL.of (T.aG n::l)) r) k=if n=k then(TL.of l,true)else fnd r k:=by
 have e:fnd (.cons 3 0 (TL.of (T.aG n::l)) r) k=if(3:Int)=3/\0<(TL.of (T.aG n::l)).len/\((TL.of (T.aG n::l)).get 0).1=1/\((TL.of (T.aG n::l)).get 0).2.1=k then((TL.of (T.aG n::l)).drop 1,true)else fnd r k:=rfl
 rw[e]
 have h0:(TL.of (T.aG n::l)).get 0=T.aG n:=rfl
 have h1:(TL.of (T.aG n::l)).drop 1=TL.of l:=by
  show TL.drop 0 (TL.of l)=TL.of l
  cases TL.of l<;>rfl
 have h2:0<(TL.of (T.aG n::l)).len:=by rw[TL.eD];simp
 rw[h0,h1]
 by_cases hn:n=k
 ·rw[if_pos ⟨rfl,h2,rfl,hn⟩,if_pos hn]
 ·rw[if_neg (fun h=>hn h.2.2.2),if_neg hn]
theorem HS{s:Sa}{Q:Int×Int->Prop}(h:∀x,Q x):Ok (mS L s) Q:=by
 unfold mS
 exact bJ (fun _=>ae (h _)) fun _=>ae (h _)
variable (hL:5000<L)(hM:L<=4611686018427387904)
include hL hM
theorem GI.at_(q:GI w S D R X g){x:Int}:Ok (bz L g x) fun y=>(y= -1/\∀s∈g.u4,s.own≠x)∨∃(i:Nat) (s:Sa),y=(i:Int)/\g.u4[i]?=some s/\s.own=x:=
 GQ (by have:=q.len;omega) hM
theorem GI.Ji(q:GI w S D R X g){x:Int}:Ok (a0f L g x) fun y=>(y= -1/\∀c∈g.af,c.eI≠x)∨∃(i:Nat) (c:a00),y=(i:Int)/\g.af[i]?=some c/\c.eI=x:=
 F1 (by have:=q.xZ;omega) hM
theorem GI.AI(q:GI w S D R X g){i:Nat}{s:Sa}(hi:g.u4[i]?=some s):bz L g s.own=some (i:Int):=by
 obtain⟨y,h1,h2⟩:=q.at_ hL hM (x:=s.own)
 rcases h2 with⟨_,h⟩|⟨j,t,rfl,hj,e⟩
 ·exact absurd rfl (h s (bC hi))
 ·rw[h1,q.tK hj hi e]
theorem BH(q:GI w S D R X g)(b:Bd g){i:Nat}{s:Sa}(hi:g.u4[i]?=some s)(h3:3<=s.state){kind:Int}{parts:TL}{r:a04}(hp:GL S parts)(hn:∀x,fI parts=some x->own x=w):
 Ok (dL L g s.own kind parts r) fun y=>(∃(r':a04) (id:Int),y.1=aa.bI g (g.u4.set i (Sa.bw s (pending:=r') (eZ:=id)))/\
  r'.ax=r.ax/\r'.dx=r.dx/\r'.eE=r.eE/\r'.dZ=r.dZ/\r'.probe=r.probe/\r'.gone=r.gone/\r'.sent=1/\r'.sx=g.bA+2/\aZ S r'.body)/\bE S y.2:=by
 have hs:=q.u4 s (bC hi)
 obtain⟨k1,k2,k3,k4⟩:=hs.key (by omega)
 have hd:add g.bA 2=g.bA+2:=by have:=q.bA;have:=b.bA;exact fK (by omega) (by omega)
 have hb:∀h1 h2:Hd,aZ S (Cp h1 (T.gq s.out (mH h2 parts))):=fun h1 h2=>by
  have:=aZ.a0b (h:=h2) hs.on k1 hp (fun x hx=>by rw[k3,hs.ours.2.1];exact hn x hx)
  refine aZ.msg (aZ.gq ⟨fun _ x hx=> ?_,fun e=> ?_⟩ (aZ.vR hs.on (.inr (.inr (.inr (.inr (.inl k1.1)))))) (aZ.plain hp))
  ·rw[k3,hs.ours.2.1];exact hn x (by rw[<-hx];exact(rN h2 parts).symm)
  ·have:=k1.2;have:=e.2;omega
 unfold dL
 rw[q.AI hL hM hi]
 refine aD (ae (aM (fun h=>by omega) fun _=>ay (by omega) (a03 (bL hi) ?_)))
 simp only[a08,bB hi,hd]
 refine aD (HS fun y7=> ?_)
 rw[iP]
 refine aD (ae (aD (ae ?_)))
 refine aC (fun _=>ae ⟨⟨_,_,rfl,rfl,rfl,rfl,rfl,rfl,rfl,rfl,rfl,hb _ _⟩,bE.one (hb _ _)⟩) fun _=>ae ⟨⟨_,_,rfl,rfl,rfl,rfl,rfl,rfl,rfl,rfl,rfl,hb _ _⟩,bE.one (hb _ _)⟩
omit hL hM in
theorem pV.a2m{bA ex:Int}{s:Sa}(h:pV w S bA ex s)(h3:3<=s.state){r:a04}{id:Int}(hb:aZ S r.body)(hn:r.ax=3∨r.ax=4∨r.ax=5->Nm w r.dx)(hs:r.eE.cP)(hp:r.probe.cP)(h4:ex≠s.own->s.state=4->r.ax=7)(ht:I9 bA r):
 pV w S bA ex (Sa.bw s (pending:=r) (eZ:=id)):=
 {h with body:=hb,Jm:=hn,sD:=hs,MD:=hp,p1:=fun e=>by have e:s.state=1:=e;omega,p2:=fun e=>by have e:s.state=2:=e;omega,p4:=h4,J6:=ht}
theorem vA(q:GI w S D R X g)(b:Bd g){i:Nat}{s:Sa}(hi:g.u4[i]?=some s)(h3:3<=s.state){kind:Int}{parts:TL}{r:a04}(hp:GL S parts)(hn:∀x,fI parts=some x->own x=w)
 (r1:r.ax=3∨r.ax=4∨r.ax=5->Nm w r.dx) (r2:r.eE.cP) (r3:r.probe.cP) (r4:X.ex≠s.own->s.state=4->r.ax=7)
 (r5:r.ax=2∨r.ax=3∨r.ax=4∨r.ax=5->kY r.dZ w D g) (r6:r.ax=5->X.zs=0/\g.u4.length<=7) (r7:r.ax=3∨r.ax=4->X.ex=0/\X.zr=0/\X.ze=0/\g.af.length<=11) (r8:r.gone=[]):
 Ok (dL L g s.own kind parts r) fun y=>GI w S D R X y.1/\cA 0 g y.1/\bE S y.2/\∃(r':a04) (id:Int),y.1=aa.bI g (g.u4.set i (Sa.bw s (pending:=r') (eZ:=id)))/\r'.ax=r.ax:=by
 refine(BH hL hM q b hi h3 hp hn).mono fun y ⟨⟨r',id,e,e1,e2,e3,e4,e5,e5',e6,e7,e8⟩,ho⟩=> ?_
 have hs:=q.u4 s (bC hi)
 refine⟨?_,by rw[e];exact cA.rfl,ho,r',id,e,e1⟩
 rw[e]
 refine q.pM hi rfl (hs.a2m h3 e8 (by rw[e1,e2];exact r1) (by rw[e3];exact r2) (by rw[e5];exact r3) (by rw[e1];exact r4) (fun _=>.inl ⟨e6,by omega⟩)) rfl rfl (fun x=> ?_) ?_ ?_ (Nat.le_refl _) (Nat.le_refl _) (.inl rfl) (by show r'.gone.length<=D.k;rw[e5',r8];exact Nat.zero_le _)
 ·by_cases h:(r.ax=2∨r.ax=3∨r.ax=4∨r.ax=5)/\r.dZ=x
  ·exact .inr ⟨by unfold fZ;split<;>omega,by rw[<-h.2];exact r5 h.1⟩
  ·refine .inl ?_
   have:fZ x (Sa.bw s (pending:=r') (eZ:=id))=0:=by
    unfold fZ
    show(if(r'.ax=2∨r'.ax=3∨r'.ax=4∨r'.ax=5)/\r'.dZ=x then 1 else 0)=0
    rw[e1,e4,if_neg h]
   omega
 ·by_cases h:r.ax=5
  ·exact .inr (r6 h)
  ·refine .inl ?_
   have:pSa (Sa.bw s (pending:=r') (eZ:=id))=0:=by
    unfold pSa
    show(if r'.ax=5 then 1 else 0)=0
    rw[e1,if_neg h]
   omega
 ·by_cases h:r.ax=3∨r.ax=4
  ·exact .inr (r7 h)
  ·refine .inl ?_
   have:nj (Sa.bw s (pending:=r') (eZ:=id))=0:=by
    unfold nj
    show(if r'.ax=3∨r'.ax=4 then 1 else 0)=0
    rw[e1,if_neg h]
   omega
theorem ny(q:GI w S D R X g){x:Int}{m:bW}{cq:Int}{parts:TL}(hx:∀s∈g.u4,s.own=x->3<=s.state)(hp:GL S parts)(hn:∀x,fI parts=some x->own x=w):
 Ok (a09 L g x m cq parts) fun y=>GI w S D R X y.1/\cA 0 g y.1/\bE S y.2/\(y.1=g∨∃(i:Nat) (s s':Sa),g.u4[i]?=some s/\y.1=aa.bI g (g.u4.set i s')/\s'.own=s.own/\s'.state=s.state/\s'.follows=s.follows/\s'.pending=s.pending):=by
 unfold a09
 refine(q.at_ hL hM).bind fun y hy=> ?_
 rcases hy with⟨rfl,_⟩|⟨i,s,rfl,hi,e⟩
 ·exact aM (fun _=>ae ⟨q,cA.rfl,bE.nil,.inl rfl⟩) fun h=>absurd (by decide:(-1:Int)<0) h
 ·refine aM (fun h=>by omega) fun _=>ay (by omega) (a03 (bL hi) ?_)
  have hs:=q.u4 s (bC hi)
  have h3:=hx s (bC hi) e
  obtain⟨k1,k2,k3,k4⟩:=hs.key (by omega)
  have hb:∀h1 h2:Hd,aZ S (Cp h1 (T.gq s.out (mH h2 parts))):=fun h1 h2=>by
   refine aZ.msg (aZ.gq ⟨fun _ x hx=> ?_,fun e=> ?_⟩ (aZ.vR hs.on (.inr (.inr (.inr (.inr (.inl k1.1)))))) (aZ.plain hp))
   ·rw[k3,hs.ours.2.1];exact hn x (by rw[<-hx];exact(rN h2 parts).symm)
   ·have:=k1.2;have:=e.2;omega
  simp only[a08,bB hi]
  rw[iP]
  refine aD (ae (aD (ae (ae ⟨?_,cA.rfl,bE.one (hb _ _),.inr ⟨i,s,_,hi,rfl,rfl,rfl,rfl,rfl⟩⟩))))
  exact q.pM hi rfl {hs with sE:=hb _ _} rfl rfl (fun x=>.inl (Nat.le_refl _)) (.inl (Nat.le_refl _)) (.inl (Nat.le_refl _)) (Nat.le_refl _) (Nat.le_refl _) (.inl rfl) (q.gone s (bC hi))
theorem MH(q:GI w S D R X g){x:Int}:Ok (a2Q L g x) fun y=>GI w S D R X y/\cA 0 g y/\((y=g/\∀s∈g.u4,s.own≠x)∨∃(i:Nat) (s:Sa),g.u4[i]?=some s/\s.own=x/\y=aa.bI g (g.u4.set i (Sa.uA s g.bA))):=by
 unfold a2Q
 refine(q.at_ hL hM).bind fun y hy=> ?_
 rcases hy with⟨rfl,hno⟩|⟨i,s,rfl,hi,e⟩
 ·exact aM (fun _=>ae ⟨q,cA.rfl,.inl ⟨rfl,hno⟩⟩) fun h=>absurd (by decide:(-1:Int)<0) h
 ·refine aM (fun h=>by omega) fun _=>ay (by omega) (a03 (bL hi) ?_)
  simp only[a08,bB hi]
  refine ae ⟨?_,cA.rfl,.inr ⟨i,s,hi,e,rfl⟩⟩
  have hs:=q.u4 s (bC hi)
  exact q.pM hi rfl {hs with eC:=⟨q.bA,Int.le_refl _⟩} rfl rfl (fun x=>.inl (Nat.le_refl _)) (.inl (Nat.le_refl _)) (.inl (Nat.le_refl _)) (Nat.le_refl _) (Nat.le_refl _) (.inl rfl) (q.gone s (bC hi))
omit hL hM in
theorem vE{s:Sa}:Ok (gm L s) fun b=>b=true->s.state=3/\s.pending.ax=0/\s.next=0/\s.dP=0/\s.follows=0:=by
 unfold gm
 refine aC (fun h1=>aC (fun h2=>aC (fun h3=>aC (fun h4=>ae fun h5=>⟨h1,h2,h3,h4,lK.1 h5⟩) fun _=>ae fun h=>by cases h) fun _=>ae fun h=>by cases h) fun _=>ae fun h=>by cases h) fun _=>ae fun h=>by cases h
theorem OM(q:GI w S D R X g)(hx:X.ex=0)(b:Bd g){i:Nat}{s:Sa}(hi:g.u4[i]?=some s):
 Ok (a2K L g s.own) fun y=>(y.2.2=0->s.state=3/\s.pending.ax=0/\GI w S D R {X with ze:=X.ze-1} y.1/\cA 0 g y.1/\bE S y.2.1)/\(y.2.2≠0->s.state=3->s.pending.ax=0->False):=by
 unfold a2K
 rw[q.AI hL hM hi]
 refine aD (ae (aM (fun h=>by omega) fun _=>ay (by omega) (a03 (bL hi) ?_)))
 simp only[a08,bB hi]
 refine aP (fun h=>ae ⟨fun e=>absurd e (by show¬(21:Int)=0;decide),fun _ e _=>h e⟩) fun h3=>ay (by omega) (a03 (bL hi) (aP (fun h=>ae ⟨fun e=>absurd e (by show¬(21:Int)=0;decide),fun _ _ e=>h e⟩) fun hp=>ay (by omega) (a03 (bL hi) ?_)))
 have hs:=q.u4 s (bC hi)
 have q1:=q.Ku hx s.own
 have hpo:∀x,fZ x s=0:=fun x=>by unfold fZ;rw[hp];simp
 have q2:=q1.pM (X':={X with ex:=s.own,ze:=X.ze-1}) (s':=Sa.gJ s 4) hi rfl {hs with st:=.inr (.inr (.inr rfl)),key:=fun _=>hs.key (by omega),first:=fun h=>absurd h (by show¬(4:Int)<=2;decide),bY:=fun h=>absurd h (by show¬(4:Int)=2;decide),up:=fun _=>hs.up (by omega),p1:=fun h=>absurd h (by show¬(4:Int)=1;decide),p2:=fun h=>absurd h (by show¬(4:Int)=2;decide),p4:=fun h=>absurd rfl h}
  rfl rfl (fun x=>.inl (Nat.le_refl _)) (.inl (Nat.le_refl _)) (.inl (Nat.le_refl _)) (by
   have:iR (Sa.gJ s 4)=0:=rfl
   have:iR s=1:=by unfold iR;rw[if_neg (by omega)]
   show iR (Sa.gJ s 4)+X.ze<=iR s+(X.ze-1);omega) (by
   have:lone (Sa.gJ s 4)=0:=rfl
   omega) (.inl rfl) (q.gone s (bC hi))
 have hi2:(aa.bI g (g.u4.set i (Sa.gJ s 4))).u4[i]?=some (Sa.gJ s 4):=List.getElem?_set_self (bL hi)
 have hpt:GL S (TL.of [T.a01 (TL.of [T.aG 15])]):=GL.of (by simp) fun t ht=>by rw[List.mem_singleton]at ht;subst ht;exact aZ.part (l:=[]) (by simp) fun t ht=>by simp at ht
 refine(vA hL hM q2 (r:=a04.az (ax:=7)) ⟨b.lG,b.bA⟩ hi2 (by show(3:Int)<=4;decide) hpt (fun x hx=> ?_) (fun h=> ?_) ⟨Nat.zero_le _,trivial⟩ ⟨Nat.zero_le _,trivial⟩ (fun _ _=>rfl) (fun h=> ?_) (fun h=> ?_) (fun h=> ?_) rfl).bind fun y ⟨y1,y2,y3,r',id,y4,y5⟩=>ae ⟨fun _=>⟨h3,hp,?_,y2,y3⟩,fun h=>absurd rfl h⟩
 ·cases hx
 ·rcases h with h|h|h<;>exact absurd h (by show¬(7:Int)=_;decide)
 ·rcases h with h|h|h|h<;>exact absurd h (by show¬(7:Int)=_;decide)
 ·exact absurd h (by show¬(7:Int)=_;decide)
 ·rcases h with h|h<;>exact absurd h (by show¬(7:Int)=_;decide)
 ·refine y1.a4o (.inr fun t ht e h4=> ?_) (Nat.le_refl _) (.inl rfl) (Nat.le_refl _) (Nat.le_refl _)
  have ht2:t∈y.1.u4:=ht
  obtain⟨j,hj⟩:=List.mem_iff_getElem?.1 ht2
  have hme:y.1.u4[i]?=some (Sa.bw (Sa.gJ s 4) (pending:=r') (eZ:=id)):=by
   rw[y4];exact List.getElem?_set_self (by show i<(g.u4.set i _).length;rw[List.length_set];exact bL hi)
  have:=y1.tK hj hme e
  subst this
  rw[hme]at hj;cases hj
  exact y5
end
section
variable {L:Nat}
def BT(a b:Address):Int:=
 bif aF a.bx b.bx then-1 else bif aF b.bx a.bx then 1 else bif aF a.hi b.hi then-1 else bif aF b.hi a.hi then 1 else bif aF a.lo b.lo then-1 else bif aF b.lo a.lo then 1 else 0
theorem Mr{a b:Address}:bV L a b=some (BT a b):=by
 unfold bV BT
 simp only[OA,yu,Bool.not_true,cond_false]
 cases aF a.bx b.bx<;>cases aF b.bx a.bx<;>cases aF a.hi b.hi<;>cases aF b.hi a.hi<;>cases aF a.lo b.lo<;>cases aF b.lo a.lo<;>rfl
def Iv(lo hi a:Address):Bool:= !(aF 0 (BT lo a))&& !(aF 0 (BT a hi))
theorem EG{s:gu}{a:Address}:cD L s a=some (Iv s.lo s.hi a):=by
 unfold cD Iv
 rw[Mr,Mr]
 show(bif !(aF 0 (BT s.lo a))then some (!(aF 0 (BT a s.hi)))else some false)=_
 cases aF 0 (BT s.lo a)<;>rfl
theorem nb{a:Bool}{x:Option Bool}{r:Bool}(h:x=some r):(bif !a then some false else x)=some (a&&r):=by
 subst h;cases a<;>rfl
def lC(n:Int):Address:=(0,0,aY .u64 (add n 1))
def Cb(b:aU)(s t:Address)(pr sp tp:Int):Bool:=
 Iv b.a0c b.cB s&&(Iv b.bU b.bT t&&(Iv (lC b.de) (lC b.a0m) (lC pr)&&(Iv (lC b.aL.1) (lC b.aL.2) (lC sp)&&(Iv (lC b.aI.1) (lC b.aI.2) (lC tp)&&true))))
def a3G(b:aU)(p:a05)(o:Bool):Bool:=bif o then Cb b p.bZ p.target p.aR p.aK p.aO else Cb b p.target p.bZ p.aR p.aO p.aK
theorem uW{b:aU}{p:a05}{o:Bool}:cS L b p o=some (a3G b p o):=by
 unfold cS
 simp only[EG,Option.bind]
 cases o
 ·exact nb (nb (nb (nb (nb rfl))))
 ·exact nb (nb (nb (nb (nb rfl))))
theorem nO{a b:gu}:Ok (dw L a b) fun _=>True:=by
 unfold dw
 simp only[Mr,Option.bind]
 (repeat' with_reducible first|refine bX (fun _=> ?_) (fun _=> ?_)|refine aM (fun _=> ?_) (fun _=> ?_)|refine aP (fun _=> ?_) (fun _=> ?_)|refine aC (fun _=> ?_) (fun _=> ?_)|refine ay (by omega) ?_|refine a03 (by omega) ?_|refine eK (by omega) ?_|refine a0r (by omega) ?_|refine ok_glt (by omega) ?_|refine bn (fun _=> ?_) (fun _=> ?_)|refine bJ (fun _=> ?_) (fun _=> ?_))<;>exact ae trivial
theorem Jz{a b:aU}:Ok (iq L a b) fun _=>True:=by
 unfold iq
 refine nO.bind fun _ _=>bn (fun _=>ae trivial) fun _=> ?_
 refine nO.bind fun _ _=>bn (fun _=>ae trivial) fun _=> ?_
 refine nO.bind fun _ _=>bn (fun _=>ae trivial) fun _=> ?_
 refine nO.bind fun _ _=>bn (fun _=>ae trivial) fun _=> ?_
 exact nO.bind fun _ _=>bn (fun _=>ae trivial) fun _=>ae trivial
theorem Jy{a b:aU}:Ok (iM L a b) fun _=>True:=by
 unfold iM
 refine Jz.bind fun _ _=> ?_
 (repeat' with_reducible first|refine bX (fun _=> ?_) (fun _=> ?_)|refine aM (fun _=> ?_) (fun _=> ?_)|refine aP (fun _=> ?_) (fun _=> ?_)|refine aC (fun _=> ?_) (fun _=> ?_)|refine ay (by omega) ?_|refine a03 (by omega) ?_|refine eK (by omega) ?_|refine a0r (by omega) ?_|refine ok_glt (by omega) ?_|refine bn (fun _=> ?_) (fun _=> ?_)|refine bJ (fun _=> ?_) (fun _=> ?_))<;>exact ae trivial
theorem JF{a:aU}:Ok (oO L a) fun _=>True:=ae trivial
theorem wm{a:Address}:Ok (gI L a) fun _=>True:=by
 unfold gI
 (repeat' with_reducible first|refine bX (fun _=> ?_) (fun _=> ?_)|refine aM (fun _=> ?_) (fun _=> ?_)|refine aP (fun _=> ?_) (fun _=> ?_)|refine aC (fun _=> ?_) (fun _=> ?_)|refine ay (by omega) ?_|refine a03 (by omega) ?_|refine eK (by omega) ?_|refine a0r (by omega) ?_|refine ok_glt (by omega) ?_|refine bn (fun _=> ?_) (fun _=> ?_)|refine bJ (fun _=> ?_) (fun _=> ?_))<;>exact ae trivial
theorem HQ{a b:Address}:Ok (a2W L a b) fun _=>True:=by
 unfold a2W jY
 refine aD ?_
 (repeat' with_reducible first|refine bX (fun _=> ?_) (fun _=> ?_)|refine aM (fun _=> ?_) (fun _=> ?_)|refine aP (fun _=> ?_) (fun _=> ?_)|refine aC (fun _=> ?_) (fun _=> ?_)|refine ay (by omega) ?_|refine a03 (by omega) ?_|refine eK (by omega) ?_|refine a0r (by omega) ?_|refine ok_glt (by omega) ?_|refine bn (fun _=> ?_) (fun _=> ?_)|refine bJ (fun _=> ?_) (fun _=> ?_))<;>exact ae (ae trivial)
theorem F0{b:aU}:Ok (iZ L b) fun _=>True:=by
 unfold iZ
 refine wm.bind fun _ _=>bn (fun _=>ae trivial) fun _=>aP (fun _=>ae trivial) fun _=> ?_
 refine wm.bind fun _ _=>bn (fun _=>ae trivial) fun _=>aP (fun _=>ae trivial) fun _=> ?_
 refine wm.bind fun _ _=>bn (fun _=>ae trivial) fun _=>aP (fun _=>ae trivial) fun _=> ?_
 refine wm.bind fun _ _=>bn (fun _=>ae trivial) fun _=>aP (fun _=>ae trivial) fun _=> ?_
 refine HQ.bind fun _ _=>bJ (fun _=>ae trivial) fun _=> ?_
 refine HQ.bind fun _ _=>bJ (fun _=>ae trivial) fun _=> ?_
 (repeat' with_reducible first|refine bX (fun _=> ?_) (fun _=> ?_)|refine aM (fun _=> ?_) (fun _=> ?_)|refine aP (fun _=> ?_) (fun _=> ?_)|refine aC (fun _=> ?_) (fun _=> ?_)|refine ay (by omega) ?_|refine a03 (by omega) ?_|refine eK (by omega) ?_|refine a0r (by omega) ?_|refine ok_glt (by omega) ?_|refine bn (fun _=> ?_) (fun _=> ?_)|refine bJ (fun _=> ?_) (fun _=> ?_))<;>exact ae trivial
def a6r(l:TL):Prop:=l.cP/\∀S,l.gd S
variable (hL:5000<L)(hM:L<=4611686018427387904)
include hL hM
theorem mw{b:aU}{t:List UInt8}(ht:t.length<=100):Ok (fA L b t) fun y=>∃l:List Int,y=T.a01 (TL.of (T.aG 11::l.map T.aG))/\l.length<=200:=by
 unfold fA
 have hlen:(ey t).length=t.length:=by unfold ey;simp
 have happ:∀(l:List Int) (n:Int),TL.app (TL.of (l.map T.aG)) (TL.of [T.aG n])=TL.of ((l++[n]).map T.aG):=by
  intro l n
  induction l with
  |nil=>rfl
  |cons x l ih=>exact congrArg (TL.cons (T.aG x).1 (T.aG x).2.1 (T.aG x).2.2) ih
 refine Ok.bind (P:=fun y:TL=>∃l:List Int,y=TL.of (l.map T.aG)/\l.length<=118) ?_ fun y ⟨l,e,hl⟩=> ?_
 ·refine a0i (ey t).length (fun i s=>s.2=(i:Int)/\∃l:List Int,s.1=TL.of (l.map T.aG)/\l.length=18+i) (by rw[hlen];omega) ⟨rfl,[_,_,_,_,_,_,_,_,_,_,_,_,_,_,_,_,_,_],rfl,rfl⟩ (fun i s hi ⟨h1,l,h2,h3⟩=> ?_) fun s ⟨h1,l,h2,h3⟩=> ?_
  ·rw[h1,h2]
   refine aM (fun _=>ay (by omega) (a03 hi ?_)) fun h=>absurd (show(i:Int)<(ey t).length by omega) h
   rw[happ]
   refine bD (cF ?_) (ae ⟨cG i (by omega),_,rfl,by simp;omega⟩)
   rw[TL.eD];simp;omega
  ·rw[h1,h2]
   exact aM (fun h=>absurd h (by omega)) fun _=>ae ⟨l,rfl,by omega⟩
 ·subst e
  have e2:TL.app (TL.of [T.aG 11]) (TL.of (l.map T.aG))=TL.of (T.aG 11::l.map T.aG):=rfl
  rw[e2]
  refine bD (cF ?_) (ae ⟨l,rfl,by omega⟩)
  rw[TL.eD];simp;omega
theorem AU{l:TL}(h:l.len<=5000):Ok (j0 L l) fun _=>True:=by
 unfold j0
 have J:∀{c:ag},ag.l c=l->0<=ag.at_ c->ag.at_ c<=(l.len:Int)->add (ag.at_ c) 1=ag.at_ c+1/\add (ag.at_ c+1) 1=ag.at_ c+1+1/\add (ag.at_ c+1+1) 1=ag.at_ c+1+1+1/\sub (ag.at_ c+1) 1=ag.at_ c/\sub (ag.at_ c+1+1) 1=ag.at_ c+1/\sub (ag.at_ c+1+1+1) 1=ag.at_ c+1+1:=fun{c} _ h1 h2=>
  ⟨fK (by omega) (by omega),fK (by omega) (by omega),fK (by omega) (by omega),by rw[uT (by omega) (by omega)];omega,by rw[uT (by omega) (by omega)];omega,by rw[uT (by omega) (by omega)];omega⟩
 refine Ok.bind (P:=fun y:ag×aU=>ag.l y.1=l/\0<=ag.at_ y.1/\ag.at_ y.1<=(l.len:Int)) ?_ fun y2 hy2=> ?_
 ·refine a0i 4 (fun i s=>s.1=(i:Int)/\ag.l s.2.1=l/\0<=ag.at_ s.2.1/\ag.at_ s.2.1<=(l.len:Int)) (by omega) ⟨rfl,rfl,Int.le_refl _,by show(0:Int)<=l.len;omega⟩ (fun i s hi ⟨h1,h2,h3,h4⟩=> ?_) fun s ⟨h1,h2,h3,h4⟩=> ?_
  ·obtain⟨a1,a2,a3,a4,a5,a6⟩:=J h2 h3 h4
   simp only[h1,h2,a1,a2,a3,a4,a5,a6]
   (repeat' with_reducible first|refine bX (fun _=> ?_) (fun _=> ?_)|refine aM (fun _=> ?_) (fun _=> ?_)|refine aP (fun _=> ?_) (fun _=> ?_)|refine aC (fun _=> ?_) (fun _=> ?_)|refine ay (by omega) ?_|refine a03 (by omega) ?_|refine eK (by omega) ?_|refine a0r (by omega) ?_|refine ok_glt (by omega) ?_|refine bn (fun _=> ?_) (fun _=> ?_)|refine bJ (fun _=> ?_) (fun _=> ?_))
   all_goals first
    |(refine ae ⟨cG i (by omega),?_,?_⟩<;>first|exact h2|rfl|exact⟨h3,h4⟩|(change 0<=ag.at_ s.2.1+1/\ag.at_ s.2.1+1<=(l.len:Int);omega)|(change 0<=ag.at_ s.2.1+1+1/\ag.at_ s.2.1+1+1<=(l.len:Int);omega)|(change 0<=ag.at_ s.2.1+1+1+1/\ag.at_ s.2.1+1+1+1<=(l.len:Int);omega))
    |(exfalso;omega)
  ·rw[h1]
   exact aM (fun h=>absurd h (by omega)) fun _=>ae ⟨h2,h3,h4⟩
 obtain⟨b1,b2,b3⟩:=hy2
 refine Ok.bind (P:=fun y:ag×aU=>ag.l y.1=l/\0<=ag.at_ y.1/\ag.at_ y.1<=(l.len:Int)) ?_ fun y3 hy3=> ?_
 ·refine a0i 6 (fun i s=>s.1=(i:Int)/\ag.l s.2.1=l/\0<=ag.at_ s.2.1/\ag.at_ s.2.1<=(l.len:Int)) (by omega) ⟨rfl,b1,b2,b3⟩ (fun i s hi ⟨h1,h2,h3,h4⟩=> ?_) fun s ⟨h1,h2,h3,h4⟩=> ?_
  ·obtain⟨a1,a2,a3,a4,a5,a6⟩:=J h2 h3 h4
   simp only[h1,h2,a1,a2,a3,a4,a5,a6]
   (repeat' with_reducible first|refine bX (fun _=> ?_) (fun _=> ?_)|refine aM (fun _=> ?_) (fun _=> ?_)|refine aP (fun _=> ?_) (fun _=> ?_)|refine aC (fun _=> ?_) (fun _=> ?_)|refine ay (by omega) ?_|refine a03 (by omega) ?_|refine eK (by omega) ?_|refine a0r (by omega) ?_|refine ok_glt (by omega) ?_|refine bn (fun _=> ?_) (fun _=> ?_)|refine bJ (fun _=> ?_) (fun _=> ?_))
   all_goals first
    |(refine ae ⟨cG i (by omega),?_,?_⟩<;>first|exact h2|rfl|exact⟨h3,h4⟩|(change 0<=ag.at_ s.2.1+1/\ag.at_ s.2.1+1<=(l.len:Int);omega))
    |(exfalso;omega)
    |(refine a0r (by omega) ?_;refine ae ⟨cG i (by omega),?_,?_⟩<;>first|exact h2|rfl|exact⟨h3,h4⟩|(change 0<=ag.at_ s.2.1+1/\ag.at_ s.2.1+1<=(l.len:Int);omega))
  ·rw[h1]
   exact aM (fun h=>absurd h (by omega)) fun _=>ae ⟨h2,h3,h4⟩
 obtain⟨c1,c2,c3⟩:=hy3
 refine Ok.bind (P:=fun y:List Int×ag=>y.1.length<=5001) ?_ fun y4 hy4=> ?_
 ·refine a0i (l.len-(ag.at_ y3.1).toNat) (fun i s=>ag.l s.2=l/\s.1.length<=i/\(ag.wR s.2=true∨ag.at_ s.2=ag.at_ y3.1+i)) (by omega) ⟨c1,Nat.zero_le _,.inr (by simp)⟩ (fun i s hi ⟨h1,h2,h3⟩=> ?_) fun s ⟨h1,h2,h3⟩=> ?_
  ·refine bn (fun hb=> ?_) fun _=>ae (show s.1.length<=5001 by omega)
   have h3:ag.at_ s.2=ag.at_ y3.1+i:=by
    rcases h3 with h|h
    ·rw[hb]at h;cases h
    ·exact h
   obtain⟨a1,_,_,a4,_,_⟩:=J h1 (by omega) (by omega)
   simp only[h1,a1,a4,hb,cond_false]
   have hroom:∀n:Int,room ((s.1++[n]).length) 1=true:=fun n=>cF (by simp;omega)
   have hlen:∀n:Int,(s.1++[n]).length<=i+1:=fun n=>by simp;omega
   simp only[hroom,eW]
   have hat:ag.at_ s.2+1=ag.at_ y3.1+((i+1:Nat):Int):=by omega
   (repeat' with_reducible first|refine bX (fun _=> ?_) (fun _=> ?_)|refine aM (fun _=> ?_) (fun _=> ?_)|refine aP (fun _=> ?_) (fun _=> ?_)|refine aC (fun _=> ?_) (fun _=> ?_)|refine ay (by omega) ?_|refine a03 (by omega) ?_|refine eK (by omega) ?_|refine a0r (by omega) ?_|refine ok_glt (by omega) ?_|refine bn (fun _=> ?_) (fun _=> ?_)|refine bJ (fun _=> ?_) (fun _=> ?_))
   all_goals first
    |exact ae ⟨h1,hlen _,.inl rfl⟩
    |exact ae ⟨rfl,hlen _,.inl rfl⟩
    |exact ae ⟨h1,hlen _,.inr hat⟩
    |exact ae ⟨rfl,hlen _,.inr hat⟩
    |(exfalso;omega)
  ·refine bn (fun hb=> ?_) fun _=>ae (show s.1.length<=5001 by omega)
   have h3:ag.at_ s.2=ag.at_ y3.1+(l.len-(ag.at_ y3.1).toNat:Nat):=by
    rcases h3 with h|h
    ·rw[hb]at h;cases h
    ·exact h
   exact aM (fun h=>by omega) fun _=>ae (show s.1.length<=5001 by omega)
 ·refine bJ (fun _=>ae trivial) fun _=>F0.bind fun _ _=>aP (fun _=>ae trivial) fun _=>bD (jU (by omega)) (ae trivial)
end
def dQ(R:List aQ):Prop:=R.length<=24/\∀r∈R,r.cI.length<=16/\r.a0n.length<=100
def sI(w:Int)(S:List jn)(l:TL):Prop:=GL S l/\∀x,fI l=some x->own x=1-w
def qH(w:Int)(S:List jn)(l:TL):Prop:=GL S l/\∀x,fI l=some x->own x=w
theorem sI.nm{w:Int}{S:List jn}{l:TL}(h:sI w S l){x:Tm}(hx:fI l=some x):Nm (1-w) x:=by
 obtain⟨h1,h2⟩:=mF h.1 hx
 exact⟨h2,h.2 x hx,h1.1⟩
theorem uh{a b:TL}{n:Int}(h:fnd a n=(.nil,false)):fnd (a.app b) n=fnd b n:=by
 induction a with
 |nil=>rfl
 |cons o v x r _ ih=>
  unfold fnd at h
  split at h
  ·exact absurd (congrArg Prod.snd h) (by simp)
  ·rename_i hc
   have e:fnd (.cons o v x (r.app b)) n=if o=3/\0<x.len/\(x.get 0).1=1/\(x.get 0).2.1=n then(x.drop 1,true)else fnd (r.app b) n:=rfl
   show fnd (.cons o v x (r.app b)) n=_
   rw[e,if_neg hc]
   exact ih h
theorem mG{l:TL}(h:fnd l 3=(.nil,false)):fI l=none:=by
 unfold fI;rw[h];rfl
theorem W0{t:Tm}:fnd (TL.of [T.a01 (TL.of [T.aG 3,t])]) 3=(TL.of [t],true):=by
 show fnd (.cons 3 0 (TL.of (T.aG 3::[t])) .nil) 3=_
 rw[tc,if_pos rfl]
theorem zY{a:TL}{t:Tm}(h:fnd a 3=(.nil,false))(ht:t.1=2):fI (a.app (TL.of [T.a01 (TL.of [T.aG 3,t])]))=some t:=by
 unfold fI;rw[uh h,W0]
 exact if_pos ⟨rfl,ht⟩
theorem gD{n k:Int}{l:List Tm}{r:List Tm}(h:n≠k):fnd (TL.of (T.a01 (TL.of (T.aG n::l))::r)) k=fnd (TL.of r) k:=by
 show fnd (.cons 3 0 (TL.of (T.aG n::l)) (TL.of r)) k=_
 rw[tc,if_neg h]
section
variable {w:Int}{S S':List jn}{D:Dl}{R:List aQ}{X X':Cr}{g g':aa}{L:Nat}
def AD(n:Int):TL:=TL.of [T.a01 (TL.of [T.aG 12,T.aG n])]
theorem zo{n:Int}:GL S (AD n):=GL.of (by simp) fun t ht=>by
 rw[List.mem_singleton]at ht;subst ht
 exact aZ.part (l:=[T.aG n]) (by simp) fun t ht=>by rw[List.mem_singleton]at ht;subst ht;exact aZ.aG _
theorem Hh{n:Int}:fnd (AD n) 3=(.nil,false):=gD (l:=[T.aG n]) (r:=[]) (by decide)
theorem jH{n:Int}:qH w S (AD n):=⟨zo,fun x hx=>by rw[mG Hh]at hx;cases hx⟩
theorem oH:qH w S .nil:=⟨GL.nil,fun x hx=>by cases hx⟩
theorem kp{n:Int}{l:List Int}(h:l.length<=4000):aZ S (T.a01 (TL.of (T.aG n::l.map T.aG))):=aZ.part (by simpa using h) fun t ht=>by
 obtain⟨m,_,rfl⟩:=List.mem_map.1 ht;exact aZ.aG _
theorem tG{a:Int}{l:List Int}{y:Tm}(hy:y=T.a01 (TL.of (T.aG 11::l.map T.aG)))(hl:l.length<=200):GL S (TL.of [T.a01 (TL.of [T.aG 10,T.aG a]),y])/\fnd (TL.of [T.a01 (TL.of [T.aG 10,T.aG a]),y]) 3=(.nil,false)/\y.cP/\∀S,aZ S y:=by
 subst hy
 have h:∀S,aZ S (T.a01 (TL.of (T.aG 11::l.map T.aG))):=fun S=>kp (by omega)
 refine⟨GL.of (by simp) fun t ht=> ?_,?_,(h S).1,h⟩
 ·simp only[List.mem_cons,List.mem_nil_iff,or_false]at ht
  rcases ht with rfl|rfl
  ·exact kp (n:=10) (l:=[a]) (by simp)
  ·exact h S
 ·rw[gD (n:=10) (l:=[T.aG a]) (by decide),gD (n:=11) (by decide)];rfl
theorem OF:∃x,vt L 6=some (x,0)/\MJ x:=by
 refine⟨(6,0,[0]),rfl,rfl,⟨0,rfl,by decide,by decide⟩,by decide,by decide⟩
theorem BL{s:Sa}{a b r:Int}{x:aU}{i:Bool}{o t:Tm}(ho:Nm w o)(ht:Nm (1-w) t)(hd:s.d.cP):Ok (js L s a b r x i o t) fun c=>uU w c/\c.eI=a/\c.sa=s.own/\c.box=x/\c.dm=r:=by
 obtain⟨wn,hw,hW⟩:=OF (L:=L)
 have hk:∀(n:Int) {u v:Tm},u.cP->v.cP->Tm.cP (T.derive n (TL.of [s.d,u,v])):=fun n {u v} hu hv=>⟨(by show 3<=5000;decide),hd.1,hd.2,hu.1,hu.2,hv.1,hv.2,trivial⟩
 unfold js
 rw[hw]
 refine aD (ae ?_)
 cases i
 ·simp only[Bool.not_false,cond_true]
  exact ae ⟨⟨ho,ht,⟨⟨rfl,.inl rfl⟩,rfl⟩,⟨⟨rfl,.inr rfl⟩,rfl⟩,hk 5 ht.2.2 ho.2.2,hk 6 ht.2.2 ho.2.2,hW,Int.le_refl _,by show(0:Int)<=200;decide⟩,rfl,rfl,rfl,rfl⟩
 ·simp only[Bool.not_true,cond_false]
  exact ae ⟨⟨ho,ht,⟨⟨rfl,.inr rfl⟩,rfl⟩,⟨⟨rfl,.inl rfl⟩,rfl⟩,hk 6 ho.2.2 ht.2.2,hk 5 ho.2.2 ht.2.2,hW,Int.le_refl _,by show(0:Int)<=200;decide⟩,rfl,rfl,rfl,rfl⟩
theorem a36(hR:dQ R)(hr:g.dh=R){n:Int}:Ok (fL L g n) fun t=>t.length<=100:=by
 unfold fL
 rw[hr]
 refine aM (fun _=>ae (Nat.zero_le _)) fun h1=>bX (fun _=>ae (Nat.zero_le _)) fun h2=>ay h1 (a03 (by omega) (ae ?_))
 have hl:n.toNat<R.length:=by omega
 rw[show R.getD n.toNat aQ.az=R[n.toNat] by simp[List.getD,hl]]
 exact(hR.2 _ (List.getElem_mem hl)).2
variable (hL:5000<L)(hM:L<=4611686018427387904)
include hL hM
theorem JA(hR:dQ R){b:aU}{t:List UInt8}:Ok (a3v L R b t) fun _=>True:=by
 unfold a3v
 have hR1:=hR.1
 refine JF.bind fun y4 _=> ?_
 refine Ok.bind (P:=fun _=>True) ?_ fun y5 _=>by cases y5<;>exact ae trivial
 refine a0i R.length (fun i s=>s.1=(i:Int)) (by have:=hR.1;omega) rfl (fun i s hi h1=> ?_) fun s h1=> ?_
 ·simp only[h1]
  refine aM (fun _=>ay (by omega) (a03 hi ?_)) fun h=>absurd (show(i:Int)<R.length by omega) h
  rw[a08]
  have hg:R.getD i aQ.az=R[i]:=by simp[List.getD,hi]
  rw[hg]
  have hb:=(hR.2 _ (List.getElem_mem hi)).1
  have hs:add (i:Int) 1=((i+1:Nat):Int):=cG i (by omega)
  refine aP (fun _=>ae hs) fun _=>bn (fun _=>ae hs) fun _=> ?_
  refine Ok.bind (P:=fun _=>True) ?_ fun y6 _=>by
   cases y6
   ·exact ae hs
   ·exact ae trivial
  refine a0i R[i].cI.length (fun j s=>s.1=(j:Int)) (by omega) rfl (fun j u hj h2=> ?_) fun u h2=> ?_
  ·simp only[h2]
   refine aM (fun _=>ay (by omega) (a03 hj (Jz.bind fun _ _=>bJ (fun _=>ae trivial) fun _=>ae (cG j (by omega))))) fun h=>absurd (show(j:Int)<R[i].cI.length by omega) h
  ·simp only[h2]
   exact aM (fun h=>absurd h (by omega)) fun _=>ae trivial
 ·simp only[h1]
  exact aM (fun h=>absurd h (by omega)) fun _=>ae trivial
theorem Df(q:GI w S D R {} g)(hR:dQ R)(b:Bd g){i:Nat}{s:Sa}(hi:g.u4[i]?=some s)(h3:3<=s.state){parts:TL}(hp:GL S parts){o t:Tm}(ho:Nm w o)(ht:Nm (1-w) t):
 Ok (a2X L g s.own parts o t) fun y=>GI w S D R {} y.1/\cA 1 g y.1/\y.1.u4=g.u4/\y.1.aW=g.aW/\y.1.cu=g.cu/\GL S y.2/\fnd y.2 3=(.nil,false)/\y.2.len<=2/\1<=y.2.len:=by
 have hne:∀n:Int,GI w S D R {} g/\cA 1 g g/\g.u4=g.u4/\g.aW=g.aW/\g.cu=g.cu/\GL S (AD n)/\fnd (AD n) 3=(.nil,false)/\(AD n).len<=2/\1<=(AD n).len:=fun n=>⟨q,cA.rfl.le (by decide),rfl,rfl,rfl,zo,Hh,by show 1<=2;decide,by show 1<=1;decide⟩
 unfold a2X
 rw[q.AI hL hM hi,lF hL hM hp.1,fH hL hM hp.1]
 refine aD (ae (aD (ae (aD (ae ?_)))))
 refine(AU hL hM (jW hp).1).bind fun y9 _=> ?_
 refine bJ (fun _=>aM (fun _=>bJ (fun _=> ?_) fun _=>ae (hne 7)) fun _=>ae (hne 7)) fun _=>ae (hne 7)
 refine bn (fun _=>ae (hne 7)) fun _=>aM (fun h=>by omega) fun _=>bX (fun _=>ae (hne 35)) fun hc=> ?_
 rw[q.dh]
 refine(JA hL hM hR).bind fun y10 _=>bn (fun _=>ae (hne 38)) fun _=>ay (by omega) (a03 (bL hi) ?_)
 simp only[a08,bB hi]
 have hs:=q.u4 s (bC hi)
 have hcn:=b.lG
 have hc0:=q.lG
 rw[q.FJ b,q.dZ (k:=g.count+1) (by omega) (by omega)]
 refine(BL (w:=w) ho ht hs.dn).bind fun c ⟨c1,c2,c3,_,_⟩=> ?_
 have hkid:=q.xZ
 refine bD (cF (by simp;omega)) ?_
 obtain⟨q1,f1⟩:=q.sP (n:=g.count+1) rfl
 have q2:=q1.yP (X':={}) (c:=c) c1 (by rw[c2];exact f1.no) (by rw[c2];exact f1.lo) (by rw[c2];exact f1.hi) (by rw[c2];exact f1.uL) ⟨s,bC hi,c3.symm,h3⟩ ⟨rfl,rfl,rfl,.inl ⟨rfl,rfl,rfl,rfl,by
  show g.af.length<=11
  have hc:(g.af.length:Int)<12:=hc
  omega⟩⟩
 refine(a36 (g:=aa.ck (aa.dj g (g.count+1)) (g.af++[c])) hR q.dh).bind fun y12 ht12=> ?_
 refine(mw hL hM ht12).bind fun y13 ⟨l,hl1,hl2⟩=>ae ?_
 obtain⟨o1,o2,o3,o4⟩:=tG (S:=S) (a:=base w+(g.count+1)) hl1 hl2
 exact⟨q2,⟨rfl,by show g.count<=g.count+1;omega,by show g.count+1<=g.count+1;omega⟩,rfl,rfl,rfl,o1,o2,by show 2<=2;decide,by show 1<=2;decide⟩
theorem BN(q:GI w S D R X g)(hR:dQ R){i:Nat}{s:Sa}(hi:g.u4[i]?=some s)(h3:3<=s.state){parts:TL}(hp:GL S parts){r:a04}{o t:Tm}(ho:Nm w o)(ht:Nm (1-w) t)
 (hf:kY r.dZ w D g) (hx:Ua X X' g.af.length s.own) (hw:GI w S D R X' g) (hgn:r.gone.length<=D.k) (hK:D.k<L):
 Ok (gZ L g s.own parts r o t) fun y=>GI w S D R X' y.1/\cA 0 g y.1/\y.1.u4=g.u4/\y.1.aW=g.aW/\y.1.cu=g.cu/\(y.1.af=g.af/\y.2.1=0∨∃c,y.1.af=g.af++[c]/\c.eI=y.2.1):=by
 have hne:GI w S D R X' g/\cA 0 g g/\g.u4=g.u4/\g.aW=g.aW/\g.cu=g.cu/\(g.af=g.af/\(0:Int)=0∨∃c,g.af=g.af++[c]/\c.eI=0):=⟨hw,cA.rfl,rfl,rfl,rfl,.inl ⟨rfl,rfl⟩⟩
 have hs:=q.u4 s (bC hi)
 have hkid:=q.xZ
 unfold gZ
 rw[q.AI hL hM hi,lF hL hM hp.1,fH hL hM hp.1]
 refine aD (ae (aD (ae (aD (ae ?_)))))
 refine(AU hL hM (jW hp).1).bind fun y10 _=> ?_
 refine bJ (fun _=>aM (fun _=>bJ (fun _=> ?_) fun _=>ae hne) fun _=>ae hne) fun _=>ae hne
 refine bn (fun _=>ae hne) fun _=>aM (fun h=>by omega) fun _=>aM (fun _=>ae hne) fun h1=>bX (fun _=>ae hne) fun h2=>ay h1 (a03 (by omega) ?_)
 refine bn (fun _=>ae hne) fun _=>JF.bind fun y11 _=>Jy.bind fun y12 _=>bn (fun _=>ae hne) fun _=> ?_
 have dH:Ok (aJ (!(aF (i:Int) 0))<|aJ (Nat.blt (Int.toNat (i:Int)) ((aa.u4 g).length))<|
  Option.bind (js L ((aa.u4 g).getD (Int.toNat (i:Int)) Sa.az) (a04.dZ r) (Ja parts 10).1 (a04.dm r) y11 true o t) fun y15=>
  aJ (room (((aa.af g)++[y15]).length) 416)<|
  some (aa.ck g ((aa.af g)++[y15]),(a04.dZ r),true)) fun y=>GI w S D R X' y.1/\cA 0 g y.1/\y.1.u4=g.u4/\y.1.aW=g.aW/\y.1.cu=g.cu/\(y.1.af=g.af/\y.2.1=0∨∃c,y.1.af=g.af++[c]/\c.eI=y.2.1):=by
  refine ay (by omega) (a03 (bL hi) ?_)
  simp only[a08,bB hi]
  refine(BL (w:=w) ho ht hs.dn).bind fun c ⟨c1,c2,c3,_,_⟩=>bD (cF (by simp;omega)) (ae ⟨?_,cA.rfl,rfl,rfl,rfl,.inr ⟨c,rfl,c2⟩⟩)
  exact q.yP c1 (by rw[c2];exact hf.no) (by rw[c2];exact hf.lo) (by rw[c2];exact hf.hi) (by rw[c2];exact hf.uL) ⟨s,bC hi,c3.symm,h3⟩ (by rw[c3];exact hx)
 have hgl:r.gone.length<L:=by omega
 have contains:Ok (iter (Y:=(Unit⊕Int)) 376002 (fun r13:Int=>
  bif aF r13 ((a04.gone r).length:Int)then
   aJ (!(aF r13 0))<|
   aJ (Nat.blt (Int.toNat r13) ((a04.gone r).length))<|
   bif aH (Ja parts 10).1 ((a04.gone r).getD (Int.toNat r13) 0)then some (.inr (.inr r13))else
   some (.inl (add r13 1))
  else
  some (.inr (.inl ()))) L 0) fun _=>True:=
  (a2Z (p:=fun x:Int=>aH (Ja parts 10).1 x) hgl hM).mono fun _ _=>trivial
 refine contains.bind fun y13 _=> ?_
 cases y13 with
 |inl _=>exact dH
 |inr z=>exact bX (fun _=>ae hne) fun _=>dH
end
section
variable {w:Int}{S S':List jn}{D:Dl}{R:List aQ}{X X':Cr}{g g':aa}{L:Nat}
theorem Lg{α:Type}{l:List α}{φ:α->α}{i:Nat}{t:α}(h:l[i]?=some t):(((l.take i).map φ++l.drop i).set i (φ t))=(l.take (i+1)).map φ++l.drop (i+1):=by
 have hi:=bL h
 have hlen:((l.take i).map φ).length=i:=by rw[List.length_map,List.length_take];omega
 have hd:l.drop i=t::l.drop (i+1):=by
  rw[List.drop_eq_getElem_cons hi]
  congr 1
  have:=List.getElem?_eq_getElem hi
  rw[h]at this;cases this;rfl
 have ht:l.take (i+1)=l.take i++[t]:=by
  rw[List.take_add_one,h];rfl
 rw[hd,ht,List.set_append_right _ _ (by omega),hlen,Nat.sub_self]
 simp
theorem zH{key:Nat}{f:Int×aa->Option ((Int×aa)⊕aa)}{φ:Sa->Sa}(hn:g.u4.length<L)
 (step:∀(i:Nat) (u:aa) (t:Sa),u.u4[i]?=some t->g.u4[i]?=some t->u.u4.length=g.u4.length->f ((i:Int),u)=some (.inl (((i+1:Nat):Int),aa.bI u (u.u4.set i (φ t)))))
 (stop:∀u:aa,u.u4.length=g.u4.length->f ((g.u4.length:Int),u)=some (.inr u)):iter key f L (0,g)=some (aa.bI g (g.u4.map φ)):=by
 have:Ok (iter key f L (0,g)) fun y=>y=aa.bI g (g.u4.map φ):=by
  refine a0i g.u4.length (fun i s=>s=((i:Int),aa.bI g ((g.u4.take i).map φ++g.u4.drop i))) hn rfl (fun i s hi hs=> ?_) fun s hs=> ?_
  ·subst hs
   obtain⟨t,ht⟩:∃t,g.u4[i]?=some t:=⟨g.u4[i],by simp[hi]⟩
   have hlen:((g.u4.take i).map φ).length=i:=by rw[List.length_map,List.length_take];omega
   refine tH (step i _ t ?_ ht ?_) ?_
   ·show((g.u4.take i).map φ++g.u4.drop i)[i]?=some t
    rw[List.getElem?_append_right (by omega),hlen,Nat.sub_self,List.getElem?_drop];simpa using ht
   ·show((g.u4.take i).map φ++g.u4.drop i).length=_
    rw[List.length_append,hlen,List.length_drop];omega
   ·show(((i+1:Nat):Int),aa.bI (aa.bI g _) (((g.u4.take i).map φ++g.u4.drop i).set i (φ t)))=_
    rw[Lg ht];rfl
  ·subst hs
   refine tH (stop _ ?_) ?_
   ·show((g.u4.take g.u4.length).map φ++g.u4.drop g.u4.length).length=_
    simp
   ·show aa.bI g _=_
    rw[List.take_length,List.drop_length,List.append_nil]
 obtain⟨y,h1,h2⟩:=this
 rw[h1,h2]
theorem Cg{key:Nat}{f:List a00×Int->Option ((List a00×Int)⊕List a00)}{l:List a00}{φ:a00->Option a00}(hn:l.length<L)
 (step:∀(acc:List a00) (i:Nat) (d:a00),l[i]?=some d->acc.length<=i->f (acc,(i:Int))=some (.inl (acc++(φ d).toList,((i+1:Nat):Int))))
 (stop:∀acc:List a00,f (acc,(l.length:Int))=some (.inr acc)):iter key f L ([],0)=some (l.filterMap φ):=by
 have:Ok (iter key f L ([],0)) fun y=>y=l.filterMap φ:=by
  refine a0i l.length (fun i s=>s=((l.take i).filterMap φ,(i:Int))) hn rfl (fun i s hi hs=> ?_) fun s hs=> ?_
  ·subst hs
   obtain⟨t,ht⟩:∃t,l[i]?=some t:=⟨l[i],by simp[hi]⟩
   refine tH (step _ i t ht ?_) ?_
   ·have:=List.length_filterMap_le φ (l.take i);rw[List.length_take]at this;omega
   ·show(_,_)=_
    rw[List.take_add_one,ht,List.filterMap_append]
    congr 2
  ·subst hs
   refine tH (stop _) ?_
   show _=_
   rw[List.take_length]
 obtain⟨y,h1,h2⟩:=this
 rw[h1,h2]
theorem M7{α:Type}{l:List α}{i:Nat}{t:α}(h:l[i]?=some t):l.set i t=l:=by
 obtain⟨h1,h2⟩:=List.getElem?_eq_some_iff.1 h
 rw[<-h2];simp
theorem zv{x F:Int}{u:aa}{i:Nat}{t:Sa}(ht:u.u4[i]?=some t):
 (bif aH (Sa.follows t) x then
   bif aH (Sa.next t) x then
    bif aH (Sa.dP t) x then
     some (.inl (((i+1:Nat):Int),aa.bI u (List.set (aa.u4 u) i (Sa.bw t (next:=0) (dP:=0) (follows:=F)))))
    else
    some (.inl (((i+1:Nat):Int),aa.bI u (List.set (aa.u4 u) i (Sa.bw t (next:=0) (follows:=F)))))
   else
   bif aH (Sa.dP t) x then
    some (.inl (((i+1:Nat):Int),aa.bI u (List.set (aa.u4 u) i (Sa.bw t (dP:=0) (follows:=F)))))
   else
   some (.inl (((i+1:Nat):Int),aa.bI u (List.set (aa.u4 u) i (Sa.jb t F))))
   else
   bif aH (Sa.next t) x then
    bif aH (Sa.dP t) x then
     some (.inl (((i+1:Nat):Int),aa.bI u (List.set (aa.u4 u) i (Sa.bw t (next:=0) (dP:=0)))))
    else
    some (.inl (((i+1:Nat):Int),aa.bI u (List.set (aa.u4 u) i (Sa.jh t 0))))
   else
   bif aH (Sa.dP t) x then
    some (.inl (((i+1:Nat):Int),aa.bI u (List.set (aa.u4 u) i (Sa.eT t 0))))
   else
   some (.inl (((i+1:Nat):Int),u)):Option ((Int×aa)⊕aa))=some (.inl (((i+1:Nat):Int),aa.bI u (u.u4.set i (lM x F t)))):=by
 unfold lM
 by_cases h1:t.follows=x<;>by_cases h2:t.next=x<;>by_cases h3:t.dP=x
 all_goals simp only[h1,h2,h3,yu,l7,cond_true,cond_false,if_true,if_false,not_false_eq_true]
 all_goals first|rfl|skip
 ·show _=some (Sum.inl (_,aa.bI u (u.u4.set i t)))
  rw[M7 ht];rfl
variable (hL:5000<L)(hM:L<=4611686018427387904)
include hL hM
theorem I7(q:GI w S D R X g){x:Int}:Ok (a2L L g x) fun y=>(y=g/\∀s∈g.u4,s.own≠x)∨
 ∃(i:Nat) (s:Sa) (f:Int),g.u4[i]?=some s/\s.own=x/\(f=0∨f=s.follows/\f≠s.own)/\y=aa.ck (aa.bI g ((g.u4.take i++g.u4.drop (i+1)).map (lM s.own f))) (qP s.own f g.af):=by
 unfold a2L
 refine(q.at_ hL hM).bind fun y3 hy3=> ?_
 rcases hy3 with⟨rfl,hno⟩|⟨i,s,rfl,hi,rfl⟩
 ·exact aM (fun _=>ae (.inl ⟨rfl,hno⟩)) fun h=>absurd (by decide:(-1:Int)<0) h
 have hlen:=q.len
 have hkid:=q.xZ
 have hcut:(g.u4.take i++g.u4.drop (i+1)).length<=15:=by have:=(pZ g.u4 i).length_le;omega
 refine aM (fun h=>by omega) fun _=>ay (by omega) (a03 (bL hi) ?_)
 simp only[a08,bB hi,cG i (by have:=bL hi;omega)]
 refine aC (fun _=> ?_) fun hne=>(q.at_ hL hM).bind fun y4 hy4=>aM (fun _=> ?_) fun hf4=> ?_
 ·refine ay (by omega) (ay (by omega) (bD (by rw[jU (by omega),jU (by have:=bL hi;omega)];rfl) ?_))
  refine(tH (Q:=fun y=>y=aa.bI (aa.bI g (g.u4.take i++g.u4.drop (i+1))) ((g.u4.take i++g.u4.drop (i+1)).map (lM s.own (0:Int)))) (zH (g:=aa.bI g (g.u4.take i++g.u4.drop (i+1))) (φ:=lM s.own (0:Int)) (by show(g.u4.take i++g.u4.drop (i+1)).length<L;omega) (fun j u t ht _ hu=> ?_) fun u hu=> ?_) rfl).bind fun y4 hy4=> ?_
  ·have hj:j<(g.u4.take i++g.u4.drop (i+1)).length:=by have:=bL ht;rw[hu]at this;exact this
   simp only[a08,bB ht,jg,iF (bL ht),Bool.not_false,eW,cG j (by omega),a2a (show(j:Int)<((g.u4.take i++g.u4.drop (i+1)).length:Int) by omega),cond_true]
   exact zv ht
  ·have:¬(((g.u4.take i++g.u4.drop (i+1)).length:Nat):Int)<((g.u4.take i++g.u4.drop (i+1)).length:Int):=by omega
   show(bif aF (((g.u4.take i++g.u4.drop (i+1)).length:Nat):Int) ((g.u4.take i++g.u4.drop (i+1)).length:Int)then _ else _)=_
   rw[a0k this];rfl
  subst hy4
  refine(tH (Q:=fun y=>y=qP s.own (0:Int) g.af) (Cg (l:=g.af) (φ:=fun c=>if c.sa=s.own then(if(0:Int)=0 then none else some (a00.An c (0:Int)))else some c) (by omega) (fun acc j d hd hacc=> ?_) fun acc=> ?_) rfl).bind fun y5 hy5=>ae (.inr ⟨i,s,(0:Int),hi,rfl,.inl rfl,by rw[hy5];rfl⟩)
  ·have hj:=bL hd
   show(bif aF (j:Int) (g.af.length:Int)then aJ (!(aF (j:Int) 0))<|aJ (Nat.blt (Int.toNat (j:Int)) g.af.length)<|_ else _)=_
   have hroom:∀c:a00,room ((acc++[c]).length) 416=true:=fun c=>cF (by simp;omega)
   simp only[a08,jg,iF hj,Bool.not_false,eW,cG j (by omega),a2a (show(j:Int)<(g.af.length:Int) by omega),cond_true]
   show(bif aH (a00.sa (g.af.getD j a00.az)) s.own then _ else _)=_
   rw[bB hd]
   by_cases e:d.sa=s.own
   ·rw[a3b e,if_pos e];simp
   ·rw[l7 e,if_neg e,cond_false]
    show aJ (room ((acc++[g.af.getD j a00.az]).length) 416) (some (Sum.inl (acc++[g.af.getD j a00.az],((j+1:Nat):Int))))=_
    rw[hroom,bB hd];rfl
  ·show(bif aF (g.af.length:Int) (g.af.length:Int)then _ else _)=_
   rw[a0k (by omega)];rfl
 ·refine ay (by omega) (ay (by omega) (bD (by rw[jU (by omega),jU (by have:=bL hi;omega)];rfl) ?_))
  refine(tH (Q:=fun y=>y=aa.bI (aa.bI g (g.u4.take i++g.u4.drop (i+1))) ((g.u4.take i++g.u4.drop (i+1)).map (lM s.own (0:Int)))) (zH (g:=aa.bI g (g.u4.take i++g.u4.drop (i+1))) (φ:=lM s.own (0:Int)) (by show(g.u4.take i++g.u4.drop (i+1)).length<L;omega) (fun j u t ht _ hu=> ?_) fun u hu=> ?_) rfl).bind fun y4 hy4=> ?_
  ·have hj:j<(g.u4.take i++g.u4.drop (i+1)).length:=by have:=bL ht;rw[hu]at this;exact this
   simp only[a08,bB ht,jg,iF (bL ht),Bool.not_false,eW,cG j (by omega),a2a (show(j:Int)<((g.u4.take i++g.u4.drop (i+1)).length:Int) by omega),cond_true]
   exact zv ht
  ·have:¬(((g.u4.take i++g.u4.drop (i+1)).length:Nat):Int)<((g.u4.take i++g.u4.drop (i+1)).length:Int):=by omega
   show(bif aF (((g.u4.take i++g.u4.drop (i+1)).length:Nat):Int) ((g.u4.take i++g.u4.drop (i+1)).length:Int)then _ else _)=_
   rw[a0k this];rfl
  subst hy4
  refine(tH (Q:=fun y=>y=qP s.own (0:Int) g.af) (Cg (l:=g.af) (φ:=fun c=>if c.sa=s.own then(if(0:Int)=0 then none else some (a00.An c (0:Int)))else some c) (by omega) (fun acc j d hd hacc=> ?_) fun acc=> ?_) rfl).bind fun y5 hy5=>ae (.inr ⟨i,s,(0:Int),hi,rfl,.inl rfl,by rw[hy5];rfl⟩)
  ·have hj:=bL hd
   show(bif aF (j:Int) (g.af.length:Int)then aJ (!(aF (j:Int) 0))<|aJ (Nat.blt (Int.toNat (j:Int)) g.af.length)<|_ else _)=_
   have hroom:∀c:a00,room ((acc++[c]).length) 416=true:=fun c=>cF (by simp;omega)
   simp only[a08,jg,iF hj,Bool.not_false,eW,cG j (by omega),a2a (show(j:Int)<(g.af.length:Int) by omega),cond_true]
   show(bif aH (a00.sa (g.af.getD j a00.az)) s.own then _ else _)=_
   rw[bB hd]
   by_cases e:d.sa=s.own
   ·rw[a3b e,if_pos e];simp
   ·rw[l7 e,if_neg e,cond_false]
    show aJ (room ((acc++[g.af.getD j a00.az]).length) 416) (some (Sum.inl (acc++[g.af.getD j a00.az],((j+1:Nat):Int))))=_
    rw[hroom,bB hd];rfl
  ·show(bif aF (g.af.length:Int) (g.af.length:Int)then _ else _)=_
   rw[a0k (by omega)];rfl
 ·refine ay (by omega) (ay (by omega) (bD (by rw[jU (by omega),jU (by have:=bL hi;omega)];rfl) ?_))
  refine(tH (Q:=fun y=>y=aa.bI (aa.bI g (g.u4.take i++g.u4.drop (i+1))) ((g.u4.take i++g.u4.drop (i+1)).map (lM s.own s.follows))) (zH (g:=aa.bI g (g.u4.take i++g.u4.drop (i+1))) (φ:=lM s.own s.follows) (by show(g.u4.take i++g.u4.drop (i+1)).length<L;omega) (fun j u t ht _ hu=> ?_) fun u hu=> ?_) rfl).bind fun y4 hy4=> ?_
  ·have hj:j<(g.u4.take i++g.u4.drop (i+1)).length:=by have:=bL ht;rw[hu]at this;exact this
   simp only[a08,bB ht,jg,iF (bL ht),Bool.not_false,eW,cG j (by omega),a2a (show(j:Int)<((g.u4.take i++g.u4.drop (i+1)).length:Int) by omega),cond_true]
   exact zv ht
  ·have:¬(((g.u4.take i++g.u4.drop (i+1)).length:Nat):Int)<((g.u4.take i++g.u4.drop (i+1)).length:Int):=by omega
   show(bif aF (((g.u4.take i++g.u4.drop (i+1)).length:Nat):Int) ((g.u4.take i++g.u4.drop (i+1)).length:Int)then _ else _)=_
   rw[a0k this];rfl
  subst hy4
  refine(tH (Q:=fun y=>y=qP s.own s.follows g.af) (Cg (l:=g.af) (φ:=fun c=>if c.sa=s.own then(if s.follows=0 then none else some (a00.An c s.follows))else some c) (by omega) (fun acc j d hd hacc=> ?_) fun acc=> ?_) rfl).bind fun y5 hy5=>ae (.inr ⟨i,s,s.follows,hi,rfl,.inr ⟨rfl,hne⟩,by rw[hy5];rfl⟩)
  ·have hj:=bL hd
   show(bif aF (j:Int) (g.af.length:Int)then aJ (!(aF (j:Int) 0))<|aJ (Nat.blt (Int.toNat (j:Int)) g.af.length)<|_ else _)=_
   have hroom:∀c:a00,room ((acc++[c]).length) 416=true:=fun c=>cF (by simp;omega)
   simp only[a08,jg,iF hj,Bool.not_false,eW,cG j (by omega),a2a (show(j:Int)<(g.af.length:Int) by omega),cond_true]
   show(bif aH (a00.sa (g.af.getD j a00.az)) s.own then _ else _)=_
   rw[bB hd]
   by_cases e:d.sa=s.own
   ·rw[a3b e,if_pos e,cond_true]
    by_cases e0:s.follows=0
    ·rw[a3b e0,if_pos e0];simp
    ·rw[l7 e0,if_neg e0,cond_false,hroom]
     show some (Sum.inl (acc++[a00.An (g.af.getD j a00.az) s.follows],_))=_
     rw[bB hd];rfl
   ·rw[l7 e,if_neg e,cond_false]
    show aJ (room ((acc++[g.af.getD j a00.az]).length) 416) (some (Sum.inl (acc++[g.af.getD j a00.az],((j+1:Nat):Int))))=_
    rw[hroom,bB hd];rfl
  ·show(bif aF (g.af.length:Int) (g.af.length:Int)then _ else _)=_
   rw[a0k (by omega)];rfl
end
theorem DS{l:TL}{n:Int}(h:l.cP):(fnd l n).1.len<=4999:=by
 induction l with
 |nil=>exact Nat.zero_le _
 |cons o v a r _ ih=>
  unfold fnd
  split
  ·rw[TL.lj];have:=h.1;omega
  ·exact ih h.2.2
def ky(s:Sa):Int×Int×a04×Int:=(s.own,s.state,s.pending,s.eC)
theorem Ci{s t:Sa}(h:ky t=ky s):t.own=s.own/\t.state=s.state/\t.pending=s.pending/\t.eC=s.eC:=by
 unfold ky at h
 obtain⟨a,b⟩:=Prod.mk.inj h
 obtain⟨b,c⟩:=Prod.mk.inj b
 obtain⟨c,d⟩:=Prod.mk.inj c
 exact⟨a,b,c,d⟩
section
variable {w:Int}{S S':List jn}{D:Dl}{R:List aQ}{X X':Cr}{g g':aa}{L:Nat}
theorem yE{l:List Int}{n:Int}(hn:n≠3)(hl:l.length<=4999):qH w S (TL.of [T.a01 (TL.of (T.aG n::l.map T.aG))]):=by
 refine⟨GL.of (by simp) fun t ht=> ?_,fun x hx=> ?_⟩
 ·rw[List.mem_singleton]at ht;subst ht
  refine aZ.a01 (GL.of (by simp;omega) fun t ht=> ?_)
  rcases List.mem_cons.1 ht with rfl|ht
  ·exact aZ.aG _
  ·obtain⟨m,_,rfl⟩:=List.mem_map.1 ht;exact aZ.aG _
 ·rw[mG (by rw[gD hn];rfl)]at hx;cases hx
variable (hL:5000<L)(hM:L<=4611686018427387904)
include hL hM
theorem yN(q:GI w S D R X g){x:Int}(hx:X.ex=0∨X.ex=x)(he:X.ze=0):Ok (a2L L g x) fun y=>GI w S D R {} y/\cA 0 g y/\(∀s∈y.u4,s.own≠x)/\y.aW=g.aW/\∀t∈y.u4,∃s∈g.u4,ky t=ky s:=by
 refine(I7 hL hM q).mono fun y hy=> ?_
 rcases hy with⟨rfl,hno⟩|⟨i,s,f,hi,rfl,hf,rfl⟩
 ·refine⟨q.a4o ?_ (Nat.zero_le _) (.inr rfl) (Nat.zero_le _) (by show X.ze<=0;omega),cA.rfl,hno,rfl,fun t ht=>⟨t,ht,rfl⟩⟩
  rcases hx with h|h
  ·exact .inl h.symm
  ·exact .inr fun s hs e=>absurd (e.trans h) (hno s hs)
 ·refine⟨q.finish hi hf ?_ (Nat.zero_le _) (.inr rfl) (Nat.zero_le _) (by show X.ze<=0;omega),cA.rfl,fun t ht=> ?_,rfl,fun t ht=> ?_⟩
  ·rcases hx with h|h
   ·exact .inl h.symm
   ·exact .inr h
  ·obtain⟨u,hu,rfl⟩:=List.mem_map.1 ht
   intro e
   have e:u.own=s.own:=e
   rcases List.mem_append.1 hu with h|h
   ·obtain⟨j,hj⟩:=List.mem_iff_getElem?.1 h
    rw[List.getElem?_take]at hj
    split at hj
    ·have:=q.tK hj hi e;omega
    ·cases hj
   ·obtain⟨j,hj⟩:=List.mem_iff_getElem?.1 h
    rw[List.getElem?_drop]at hj
    have:=q.tK hj hi e;omega
  ·obtain⟨u,hu,rfl⟩:=List.mem_map.1 ht
   exact⟨u,vX hu,rfl⟩
theorem I3(q:GI w S D R X g){c:a00}{x:Int}:Ok (a3j L g c x) fun _=>True:=by
 unfold a3j
 have hlen:=q.len
 refine Ok.bind (P:=fun _=>True) ?_ fun y _=>by cases y<;>exact ae trivial
 have ha:add (g.u4.length:Int) 1=((g.u4.length+1:Nat):Int):=cG _ (by omega)
 refine a0i (g.u4.length+1) (fun i s=>s.2=(i:Int)) (by omega) rfl (fun i s hi hs=> ?_) fun s hs=> ?_
 ·simp only[hs,ha]
  refine aM (fun _=>aC (fun _=>ae trivial) fun _=>(q.at_ hL hM).bind fun y hy=> ?_) fun h=>absurd (show(i:Int)<((g.u4.length+1:Nat):Int) by omega) h
  rcases hy with⟨rfl,_⟩|⟨j,t,rfl,hj,_⟩
  ·exact aM (fun _=>ae trivial) fun h=>absurd (by decide:(-1:Int)<0) h
  ·exact aM (fun h=>by omega) fun _=>ay (by omega) (a03 (bL hj) (ae (cG i (by omega))))
 ·simp only[hs,ha]
  exact aM (fun h=>absurd h (by omega)) fun _=>ae trivial
theorem U6(q:GI w S D R X g){x y:Int}:Ok (qU L g x y) fun _=>True:=by
 unfold qU
 have hk:=q.xZ
 refine Ok.bind (P:=fun _=>True) ?_ fun y _=>by cases y<;>exact ae trivial
 refine fq g.af.length (fun _=>True) (by omega) trivial (fun i hi _=> ?_) fun _=> ?_
 ·have hs:add (i:Int) 1=((i+1:Nat):Int):=cG i (by omega)
  refine aM (fun _=>ay (by omega) (a03 hi (aC (fun _=> ?_) fun _=>ae ⟨hs,trivial⟩))) fun h=>absurd (show(i:Int)<g.af.length by omega) h
  exact(I3 hL hM q).bind fun _ _=>bJ (fun _=>ae trivial) fun _=>ae ⟨hs,trivial⟩
 ·exact aM (fun h=>absurd h (by omega)) fun _=>ae trivial
theorem F4(q:GI w S D R X g){x:Int}:Ok (lp L g x) fun y=>GI w S D R X y/\cA 0 g y/\y.u4=g.u4/\∀v,kY v w D g->kY v w D y:=by
 unfold lp
 have hk:=q.xZ
 refine(q.Ji hL hM).bind fun y hy=> ?_
 rcases hy with⟨rfl,_⟩|⟨i,c,rfl,hi,_⟩
 ·exact bX (fun h=>absurd (by decide:(-1:Int)<0) h) fun _=>ae ⟨q,cA.rfl,rfl,fun v h=>h⟩
 ·have hl:=bL hi
  refine bX (fun _=>ay (by omega) ?_) fun h=>by omega
  simp only[a08,cG i (by omega)]
  refine ay (by omega) (bD (by rw[jU (by omega),jU (by omega)];rfl) (ae ⟨q.Mc (pZ _ _),cA.rfl,rfl,fun v h=> ?_⟩))
  refine⟨?_,h.lo,h.hi,h.uL⟩
  have h1:=h.no
  have h2:=kJ (f:=gK v) (pZ g.af i)
  show sumL (dD v) g.u4+sumL (eU v) g.aW+sumL (gK v) (g.af.take i++g.af.drop (i+1))=0
  unfold occ at h1;omega
theorem SN(q:GI w S D R X g)(hK:D.k<=1000000){x y:Int}:Ok (lu L g x y) fun z=>GI w S ⟨D.l,D.k+1⟩ R X z/\cA 0 g z/\(∀t∈z.u4,∃s∈g.u4,s.own=t.own/\s.state=t.state):=by
 unfold lu
 have q0:=q.uQ (k:=D.k+1) (Nat.le_succ _)
 have hid:∀t∈g.u4,∃s∈g.u4,s.own=t.own/\s.state=t.state:=fun t ht=>⟨t,ht,rfl,rfl⟩
 refine(q.at_ hL hM).bind fun y4 hy=> ?_
 rcases hy with⟨rfl,_⟩|⟨i,s,rfl,hi,_⟩
 ·exact aM (fun _=>ae ⟨q0,cA.rfl,hid⟩) fun h=>absurd (by decide:(-1:Int)<0) h
 ·have hs:=q.u4 s (bC hi)
  have hgn:=q.gone s (bC hi)
  simp only[a08,bB hi]
  have key:GI w S ⟨D.l,D.k+1⟩ R X (aa.bI g (g.u4.set i (Sa.dS s (a04.D1 s.pending (s.pending.gone++[y]))))):=by
   refine q0.pM hi rfl {hs with} rfl rfl (fun x=>.inl (Nat.le_refl _)) (.inl (Nat.le_refl _)) (.inl (Nat.le_refl _)) (Nat.le_refl _) (Nat.le_refl _) (.inl rfl) ?_
   show(s.pending.gone++[y]).length<=D.k+1
   simp;omega
  have hst:∀t∈g.u4.set i (Sa.dS s (a04.D1 s.pending (s.pending.gone++[y]))),∃s∈g.u4,s.own=t.own/\s.state=t.state:=fun t ht=>by
   rcases kH ht with rfl|ht
   ·exact⟨s,bC hi,rfl,rfl⟩
   ·exact⟨t,ht,rfl,rfl⟩
  have hroom:room ((s.pending.gone++[y]).length) 8=true:=cF (by simp;omega)
  refine aM (fun h=>by omega) fun _=>ay (by omega) (a03 (bL hi) (aP (fun _=>aP (fun _=>ae ⟨q0,cA.rfl,hid⟩) fun _=> ?_) fun _=> ?_))
  ·exact bD hroom (ay (by omega) (a03 (bL hi) (ae ⟨key,cA.rfl,hst⟩)))
  ·exact bD hroom (ay (by omega) (a03 (bL hi) (ae ⟨key,cA.rfl,hst⟩)))
theorem OK(q:GI w S D R {} g)(b:Bd g){x:Int}:Ok (mc L g x) fun y=>y.2.2=0->GI w S D R {} y.1/\cA 0 g y.1/\bE S y.2.1:=by
 unfold mc
 have no:∀{n:Int},n≠0->Ok (some (g,([]:List aj),n)) fun y=>y.2.2=0->GI w S D R {} y.1/\cA 0 g y.1/\bE S y.2.1:=fun{n} hn=>ae fun h=>absurd h hn
 refine(q.Ji hL hM).bind fun y hy=> ?_
 rcases hy with⟨rfl,_⟩|⟨i,c,rfl,hi,_⟩
 ·exact aM (fun _=>no (by decide)) fun h=>absurd (by decide:(-1:Int)<0) h
 refine aM (fun h=>by omega) fun _=>ay (by omega) (a03 (bL hi) ?_)
 simp only[a08,bB hi]
 refine(q.at_ hL hM).bind fun y4 hy4=> ?_
 rcases hy4 with⟨rfl,_⟩|⟨j,s,rfl,hj,hsa⟩
 ·exact aM (fun _=>no (by decide)) fun h=>absurd (by decide:(-1:Int)<0) h
 refine aM (fun h=>by omega) fun _=>aC (fun _=>no (by decide)) fun _=>ay (by omega) (a03 (bL hj) ?_)
 simp only[a08,bB hj]
 refine vE.bind fun y5 h5=>bn (fun _=>no (by decide)) fun e5=>ay (by omega) (a03 (bL hi) ?_)
 obtain⟨f1,f2,_⟩:=h5 e5
 have q1:=q.pL (c':=a00.gJ c 3) hi {q.dF c (bC hi)with} rfl rfl fun n h=>h
 rw[<-hsa]
 refine(vA hL hM q1 (i:=j) (s:=s) (r:=a04.az (ax:=6) (dF:=x)) ⟨b.lG,b.bA⟩ hj (by omega) (yE (n:=14) (l:=[x]) (by decide) (by simp):qH w S _).1 (yE (S:=S) (n:=14) (l:=[x]) (by decide) (by simp)).2 (fun h=> ?_) ⟨Nat.zero_le _,trivial⟩ ⟨Nat.zero_le _,trivial⟩ (fun _ h=> ?_) (fun h=> ?_) (fun h=> ?_) (fun h=> ?_) rfl).bind fun y ⟨y1,y2,y3,_⟩=>ae fun _=>⟨y1,y2,y3⟩
 ·rcases h with h|h|h<;>exact absurd h (by show¬(6:Int)=_;decide)
 ·omega
 ·rcases h with h|h|h|h<;>exact absurd h (by show¬(6:Int)=_;decide)
 ·exact absurd h (by show¬(6:Int)=_;decide)
 ·rcases h with h|h<;>exact absurd h (by show¬(6:Int)=_;decide)
theorem KD(q:GI w S D R {} g)(b:Bd g){x:Int}:Ok (dW L g x) fun y=>GI w S D R {} y.1/\cA 0 g y.1/\bE S y.2:=by
 unfold dW
 refine(OK hL hM q b).bind fun y hy=>aP (fun _=>ae ⟨q,cA.rfl,bE.nil⟩) fun h=>ae (hy h)
theorem yb(q:GI w S D R {} g)(hK:D.k<=900000){x:Int}{m:bW}{cq:Int}(hx:∀s∈g.u4,s.own=x->3<=s.state)(hp:GL S m.parts):
 Ok (mg L g x m cq) fun y=>GI w S ⟨D.l,D.k+5000⟩ R {} y.1/\cA 0 g y.1/\bE S y.2:=by
 unfold mg
 rw[fH hL hM hp.1,fH hL hM hp.1]
 refine aD (ae (bJ (fun _=> ?_) fun _=>aD (ae ?_)))
 ·refine(ny hL hM q (cq:=cq) (m:=m) hx (oH (S:=S) (w:=w)).1 (oH (S:=S)).2).bind fun y6 ⟨a1,a2,a3,_⟩=> ?_
  refine(yN hL hM a1 (.inl rfl) rfl).bind fun y7 ⟨b1,b2,_⟩=>ae ⟨b1.uQ (Nat.le_add_right _ _),(a2.trans b2).le (by decide),a3⟩
 ·have hl:=DS (n:=14) hp.2.1
  refine Ok.bind (P:=fun y:TL×aa=>GI w S ⟨D.l,D.k+5000⟩ R {} y.2/\cA 0 g y.2/\(∀s∈y.2.u4,s.own=x->3<=s.state)/\∃l:List Int,y.1=TL.of (l.map T.aG)/\l.length<=4999) ?_ fun y7 ⟨h1,h2,h3,l,h4,h5⟩=> ?_
  ·refine a0i (fnd m.parts 14).1.len (fun i s=>s.2.1=(i:Int)/\GI w S ⟨D.l,D.k+i⟩ R {} s.2.2/\cA 0 g s.2.2/\(∀t∈s.2.2.u4,t.own=x->3<=t.state)/\∃l:List Int,s.1=TL.of (l.map T.aG)/\l.length<=i) (by omega) ⟨rfl,q,cA.rfl,hx,[],rfl,Nat.le_refl _⟩ (fun i s hi ⟨h1,h2,h3,h4,l,h5,h6⟩=> ?_) fun s ⟨h1,h2,h3,h4,l,h5,h6⟩=> ?_
   ·simp only[h1]
    have hs:add (i:Int) 1=((i+1:Nat):Int):=cG i (by omega)
    have same:(Sum.elim (fun s:TL×Int×aa=>s.2.1=((i+1:Nat):Int)/\GI w S ⟨D.l,D.k+(i+1)⟩ R {} s.2.2/\cA 0 g s.2.2/\(∀t∈s.2.2.u4,t.own=x->3<=t.state)/\∃l:List Int,s.1=TL.of (l.map T.aG)/\l.length<=i+1) (fun y:TL×aa=>GI w S ⟨D.l,D.k+5000⟩ R {} y.2/\cA 0 g y.2/\(∀s∈y.2.u4,s.own=x->3<=s.state)/\∃l:List Int,y.1=TL.of (l.map T.aG)/\l.length<=4999)) (Sum.inl (s.1,add (i:Int) 1,s.2.2)):=⟨hs,h2.uQ (by show D.k+i<=D.k+(i+1);omega),h3,h4,l,h5,by omega⟩
    have noted:∀v,Ok (Option.bind (lu L s.2.2 x v) fun y10=>some (Sum.inl (s.1,add (i:Int) 1,y10))) (Sum.elim (fun s:TL×Int×aa=>s.2.1=((i+1:Nat):Int)/\GI w S ⟨D.l,D.k+(i+1)⟩ R {} s.2.2/\cA 0 g s.2.2/\(∀t∈s.2.2.u4,t.own=x->3<=t.state)/\∃l:List Int,s.1=TL.of (l.map T.aG)/\l.length<=i+1) (fun y:TL×aa=>GI w S ⟨D.l,D.k+5000⟩ R {} y.2/\cA 0 g y.2/\(∀s∈y.2.u4,s.own=x->3<=s.state)/\∃l:List Int,y.1=TL.of (l.map T.aG)/\l.length<=4999)):=fun v=>
     (SN hL hM h2 (by show D.k+i<=1000000;omega)).bind fun z ⟨n1,n2,n3⟩=>ae ⟨hs,n1,(h3.trans n2).le (by decide),fun t ht e=>by
       obtain⟨u,u1,u2,u3⟩:=n3 t ht
       have:=h4 u u1 (u2.trans e);omega,l,h5,by omega⟩
    refine aM (fun _=>ay (by omega) (a03 hi (aP (fun _=>ae same) fun _=> ?_))) fun h=>absurd (show(i:Int)<(fnd m.parts 14).1.len by omega) h
    refine(U6 hL hM h2).bind fun y8 _=>(h2.Ji hL hM).bind fun y9 hy9=>aC (fun _=>noted _) fun _=> ?_
    rcases hy9 with⟨rfl,_⟩|⟨j,c,rfl,hj,_⟩
    ·exact aM (fun _=>noted _) fun h=>absurd (by decide:(-1:Int)<0) h
    ·refine aM (fun h=>by omega) fun _=>ay (by omega) (a03 (bL hj) (aP (fun _=> ?_) fun _=>ae same))
     refine(F4 hL hM h2).bind fun y10 ⟨d1,d2,d3,_⟩=> ?_
     have happ:TL.app s.1 (TL.of [T.aG y8])=TL.of ((l++[y8]).map T.aG):=by
      rw[h5]
      have:∀l:List Int,TL.app (TL.of (l.map T.aG)) (TL.of [T.aG y8])=TL.of ((l++[y8]).map T.aG):=by
       intro l
       induction l with
       |nil=>rfl
       |cons x l ih=>exact congrArg (TL.cons (T.aG x).1 (T.aG x).2.1 (T.aG x).2.2) ih
      exact this l
     rw[happ]
     refine bD (cF (by rw[TL.eD];simp;omega)) (ae ⟨hs,d1.uQ (by show D.k+i<=D.k+(i+1);omega),(h3.trans d2).le (by decide),by rw[d3];exact h4,_,rfl,by simp;omega⟩)
   ·simp only[h1]
    exact aM (fun h=>absurd h (by omega)) fun _=>ae ⟨h2.uQ (by show D.k+(fnd m.parts 14).1.len<=D.k+5000;omega),h3,h4,l,h5,by omega⟩
  ·have e2:TL.app (TL.of [T.aG 14]) y7.1=TL.of (T.aG 14::l.map T.aG):=by rw[h4];rfl
   rw[e2]
   refine aM (fun _=>bD (cF (by rw[TL.eD];simp;omega)) ?_) fun _=> ?_
   ·have ho:=yE (w:=w) (S:=S) (n:=14) (l:=l) (by decide) h5
    exact(ny hL hM h1 (cq:=cq) (m:=m) h3 ho.1 ho.2).bind fun y8 ⟨a1,a2,a3,_⟩=>ae ⟨a1,(h2.trans a2).le (by decide),a3⟩
   ·exact(ny hL hM h1 (cq:=cq) (m:=m) h3 (oH (S:=S) (w:=w)).1 (oH (S:=S)).2).bind fun y8 ⟨a1,a2,a3,_⟩=>ae ⟨a1,(h2.trans a2).le (by decide),a3⟩
end
section
variable {w:Int}{S S':List jn}{D:Dl}{R:List aQ}{X X':Cr}{g g':aa}{L:Nat}
theorem Bd.one(b:Bd g){n:Int}(h:n<=500000):Bd (aa.dj g n):=⟨h,b.bA⟩
theorem GI.AJ(q:GI w S D R X g)(b:Bd g):add (add g.count 1) 1=g.count+2:=by
 have:=b.lG;have:=q.lG
 rw[q.FJ b,fK (by omega) (by omega)];omega
theorem GI.wU(q:GI w S D R X g):GI w S D R X (aa.dj g (g.count+2))/\kY (base w+(g.count+1)) w D (aa.dj g (g.count+2))/\kY (base w+(g.count+2)) w D (aa.dj g (g.count+2)):=by
 obtain⟨q1,f1⟩:=q.sP (n:=g.count+1) rfl
 obtain⟨q2,f2⟩:=q1.sP (n:=g.count+2) (by show g.count+2=g.count+1+1;omega)
 exact⟨q2,f1.count (n:=g.count+2) (by show g.count+1<=g.count+2;omega),f2⟩
theorem cA.up{n:Int}(h:g.count<=n):cA (n-g.count) g (aa.dj g n):=⟨Eq.refl _,h,by show n<=_;omega⟩
theorem ve{l:List Tm}{o:Tm}(hl:l.length<=100)(h:∀t∈l,aZ S t)(hf:fnd (TL.of l) 3=(.nil,false))(ho:Nm w o):qH w S (TL.of (l++[T.a01 (TL.of [T.aG 3,o])])):=by
 have e:TL.of (l++[T.a01 (TL.of [T.aG 3,o])])=(TL.of l).app (TL.of [T.a01 (TL.of [T.aG 3,o])]):=by
  clear hf h hl
  induction l with
  |nil=>rfl
  |cons x l ih=>exact congrArg (TL.cons x.1 x.2.1 x.2.2) ih
 refine⟨GL.of (by simp;omega) fun t ht=> ?_,fun x hx=> ?_⟩
 ·rcases List.mem_append.1 ht with ht|ht
  ·exact h t ht
  ·rw[List.mem_singleton]at ht;subst ht
   exact aZ.part (l:=[o]) (by simp) fun t ht=>by rw[List.mem_singleton]at ht;subst ht;exact ho.KE
 ·rw[e,zY hf ho.1]at hx;cases hx;exact ho.2.1
theorem GJ{s:Sa}:Ok (pb L s) fun b=>b=false->s.state≠4:=by
 unfold pb
 refine aC (fun _=>ae fun h=>by cases h) fun h=>aC (fun _=>ae fun _=>h) fun _=>aP (fun _=>ae fun _=>h) fun _=>aP (fun _=>ae fun _=>h) fun _=>ae fun _=>h
variable (hL:5000<L)(hM:L<=4611686018427387904)
include hL hM
theorem PI(q:GI w S D R {} g)(hR:dQ R)(b:Bd g)(b2:g.count<=400000){x r:Int}{bo:aU}:Ok (rq L g x r bo) fun y=>y.2.2=0->GI w S D R {} y.1/\cA 2 g y.1/\bE S y.2.1:=by
 unfold rq
 have no:∀{n:Int},n≠0->Ok (some (g,([]:List aj),n)) fun y=>y.2.2=0->GI w S D R {} y.1/\cA 2 g y.1/\bE S y.2.1:=fun{n} hn=>ae fun h=>absurd h hn
 refine(q.at_ hL hM).bind fun y hy=> ?_
 rcases hy with⟨rfl,_⟩|⟨i,s,rfl,hi,rfl⟩
 ·exact aM (fun _=>no (by decide)) fun h=>absurd (by decide:(-1:Int)<0) h
 refine aM (fun h=>by omega) fun _=>ay (by omega) (a03 (bL hi) ?_)
 simp only[a08,bB hi]
 refine vE.bind fun y6 h6=>bn (fun _=>no (by decide)) fun e6=>aM (fun _=>no (by decide)) fun h1=>bX (fun _=>no (by decide)) fun h2=>ay h1 (a03 (by omega) (aP (fun _=>no (by decide)) fun _=>bX (fun _=>no (by decide)) fun hc=> ?_))
 obtain⟨f1,f2,_⟩:=h6 e6
 have hc0:=q.lG
 obtain⟨q2,fr,_⟩:=q.wU
 rw[q.AJ b,q.FJ b,q.dZ (k:=g.count+1) (by omega) (by omega)]
 have hn:Nm w (T.name (add (mul g.av 1048576) (g.count+2))):=q.name b (by omega) (by omega)
 refine(a36 (g:=aa.dj g (g.count+2)) hR q.dh).bind fun y7 h7=>(mw hL hM h7).bind fun y8 ⟨l,hl1,hl2⟩=> ?_
 obtain⟨o1,o2,o3,o4⟩:=tG (S:=S) (a:=base w+(g.count+1)) hl1 hl2
 have hp:=ve (w:=w) (S:=S) (l:=[T.a01 (TL.of [T.aG 10,T.aG (base w+(g.count+1))]),y8]) (by simp) (fun t ht=>by
  simp only[List.mem_cons,List.mem_nil_iff,or_false]at ht
  rcases ht with rfl|rfl
  ·exact kp (n:=10) (l:=[_]) (by simp)
  ·exact o4 S) o2 hn
 refine(vA hL hM q2 (i:=i) (s:=s) (r:=a04.az (ax:=3) (dx:=T.name (add (mul g.av 1048576) (g.count+2))) (dZ:=base w+(g.count+1)) (dm:=r) (box:=bo)) (b.one (by omega)) hi (by omega) hp.1 hp.2 (fun _=>hn) ⟨Nat.zero_le _,trivial⟩ ⟨Nat.zero_le _,trivial⟩ (fun _ h=>by omega) (fun _=>fr) (fun h=>absurd h (by show¬(3:Int)=5;decide)) (fun _=>⟨rfl,rfl,rfl,?_⟩) rfl).bind fun y9 ⟨a1,a2,a3,_⟩=>ae fun _=>⟨a1,((cA.up (g:=g) (n:=g.count+2) (by omega)).trans a2).le (by omega),a3⟩
 ·have hc:(g.af.length:Int)<12:=hc
  show g.af.length<=11;omega
theorem IY{l:TL}(h:l.len<=5000):Ok (mL L l) fun _=>True:=by
 unfold mL
 refine aC (fun _=>ae trivial) fun h0=>bD (jU (by omega)) ?_
 have hl:(TL.drop 0 (TL.take 1 l)).len<=5000:=by
  rw[TL.lj]
  have:(TL.take 1 l).len<=1:=by cases l with
   |nil=>exact Nat.zero_le _
   |cons o v a r=>show(TL.take 0 r).len+1<=1;cases r<;>exact Nat.le_refl _
  omega
 rw[fH hL hM hl]
 exact aD (ae (ae trivial))
theorem yY(q:GI w S D R {} g)(hR:dQ R)(b:Bd g)(b2:g.count<=400000){x:Int}{m:bW}{cq:Int}(hx:∀s∈g.u4,s.own=x->3<=s.state)(hp:sI w S m.parts):
 Ok (mK L g x m cq) fun y=>GI w S D R {} y.1/\cA 2 g y.1/\bE S y.2:=by
 unfold mK
 have ans:∀{g':aa} {parts:TL},GI w S D R {} g'->cA 2 g g'->g'.u4=g.u4->qH w S parts->Ok (Option.bind (a09 L g' x m cq parts) fun y=>some y) fun y=>GI w S D R {} y.1/\cA 2 g y.1/\bE S y.2:=fun{g' parts} hq ha hs ho=>
  (ny hL hM hq (cq:=cq) (m:=m) (by rw[hs];exact hx) ho.1 ho.2).bind fun y ⟨a1,a2,a3,_⟩=>ae ⟨a1,(ha.trans a2).le (by decide),a3⟩
 have a0:cA 2 g g:=cA.rfl.le (by decide)
 refine(q.at_ hL hM).bind fun y hy=> ?_
 rcases hy with⟨rfl,_⟩|⟨i,s,rfl,hi,rfl⟩
 ·exact aM (fun _=>ae ⟨q,a0,bE.nil⟩) fun h=>absurd (by decide:(-1:Int)<0) h
 refine aM (fun h=>by omega) fun _=>ay (by omega) (a03 (bL hi) ?_)
 simp only[a08,bB hi]
 refine GJ.bind fun y6 h6=>bJ (fun _=>ans q a0 rfl jH) fun e6=> ?_
 have h3:=hx s (bC hi) rfl
 rw[pc hL hM hp.1.1]
 refine aD (ae (bn (fun _=>ans q a0 rfl jH) fun e7=> ?_))
 obtain⟨x0,hx0⟩:=Option.isSome_iff_exists.1 e7
 have hth:Nm (1-w) ((fI m.parts).getD (0,0,.nil)):=by rw[hx0];exact hp.nm hx0
 have hc0:=q.lG
 obtain⟨q1,_⟩:=q.sP (n:=g.count+1) rfl
 rw[q.FJ b]
 have hn:Nm w (T.name (add (mul g.av 1048576) (g.count+1))):=q.name b (by omega) (by omega)
 refine(Df hL hM q1 hR (b.one (by omega)) (i:=i) (s:=s) hi h3 hp.1 hn hth).bind fun y8 ⟨s1,s2,s3,_,_,s6,s7,s8,s9⟩=> ?_
 have ha:cA 2 g y8.1:=(cA.trans (cA.up (g:=g) (n:=g.count+1) (by omega)) s2).le (by omega)
 refine(IY hL hM (by omega)).bind fun y9 _=>bn (fun _=> ?_) fun _=>ans s1 ha s3 ⟨s6,fun x hx=>by rw[mG s7]at hx;cases hx⟩
 have hg:GL S (TL.of [T.a01 (TL.of [T.aG 3,T.name (add (mul g.av 1048576) (g.count+1))])]):=GL.of (by simp) fun t ht=>by
  rw[List.mem_singleton]at ht;subst ht
  exact aZ.part (l:=[_]) (by simp) fun t ht=>by rw[List.mem_singleton]at ht;subst ht;exact hn.KE
 refine bD (cF (by rw[TL.fC];show(y8.2.len+1)*40<=_;omega)) (ans s1 ha s3 ⟨s6.app hg (by show y8.2.len+1<=5000;omega),fun x hx=> ?_⟩)
 rw[zY s7 hn.1]at hx;cases hx;exact hn.2.1
theorem PA(q:GI w S D R {} g){i:Nat}{s:Sa}(hi:g.u4[i]?=some s)(h3:3<=s.state):
 Ok (mQ L g s.own) fun y=>y.2=s.pending/\y.1=aa.bI g (g.u4.set i (Sa.dS s a04.az))/\GI w S D R {ex:=if s.state=4 then s.own else 0,zr:=nj s,zs:=pSa s} y.1/\
  (s.pending.ax=2∨s.pending.ax=3∨s.pending.ax=4∨s.pending.ax=5->kY s.pending.dZ w D y.1):=by
 unfold mQ
 rw[q.AI hL hM hi]
 refine aD (ae (aM (fun h=>by omega) fun _=>ay (by omega) (a03 (bL hi) ?_)))
 simp only[a08,bB hi]
 have hs:=q.u4 s (bC hi)
 have hm0:∀x,fZ x (Sa.dS s a04.az)=0:=fun x=>by
  unfold fZ
  exact if_neg fun h=>by
   rcases h.1 with h|h|h|h<;>exact absurd h (by show¬(0:Int)=_;decide)
 have hz:Tm.cP (0,0,TL.nil):=⟨Nat.zero_le _,trivial⟩
 have hs':∀ex:Int,(ex≠s.own->s.state≠4)->pV w S g.bA ex (Sa.dS s a04.az):=fun ex he=>{hs with body:=aZ.zero,Jm:=fun h=>(by rcases h with h|h|h<;>exact absurd h (by show¬(0:Int)=_;decide)),sD:=hz,MD:=hz,p1:=fun h=>(by have h:s.state=1:=h;omega),p2:=fun h=>(by have h:s.state=2:=h;omega),p4:=fun h h4=>absurd h4 (he h),J6:=fun h=>absurd rfl h}
 have q1:=q.Ku (x:=if s.state=4 then s.own else 0) rfl
 have q2:=q1.pM (X':={ex:=if s.state=4 then s.own else 0,zr:=nj s,zs:=pSa s}) hi rfl (hs' _ (fun h h4=>h (by rw[if_pos h4]))) rfl rfl (fun x=>.inl (by rw[hm0];exact Nat.zero_le _)) (.inl (by
  show pSa (Sa.dS s a04.az)+pSa s<=pSa s+0
  have:pSa (Sa.dS s a04.az)=0:=rfl
  omega)) (.inl (by
  show nj (Sa.dS s a04.az)+nj s<=nj s+0
  have:nj (Sa.dS s a04.az)=0:=rfl
  omega)) (Nat.le_refl _) (Nat.le_refl _) (.inl rfl) (Nat.zero_le _)
 refine ae ⟨rfl,rfl,q2,fun hp=> ?_⟩
 have h1:fZ s.pending.dZ s=1:=by unfold fZ;exact if_pos ⟨hp,rfl⟩
 have h2:=iC (dD s.pending.dZ) (bC hi)
 have h4:1<=dD s.pending.dZ s:=by unfold dD;omega
 have h5:=q.kr s.pending.dZ (by unfold occ;omega)
 have h6:=q.lD s.pending.dZ
 have h7:=nr (f:=dD s.pending.dZ) hi (Sa.dS s a04.az)
 have h8:dD s.pending.dZ (Sa.dS s a04.az)+1=dD s.pending.dZ s:=by
  have e:dD s.pending.dZ (Sa.dS s a04.az)=(if s.own=s.pending.dZ then 1 else 0)+fZ s.pending.dZ (Sa.dS s a04.az):=rfl
  have e':dD s.pending.dZ s=(if s.own=s.pending.dZ then 1 else 0)+fZ s.pending.dZ s:=rfl
  rw[e,e',hm0,h1]
 refine⟨?_,h5.1,h5.2,fun d hd e=> ?_⟩
 ·show sumL (dD s.pending.dZ) (g.u4.set i (Sa.dS s a04.az))+sumL (eU s.pending.dZ) g.aW+sumL (gK s.pending.dZ) g.af=0
  unfold occ at h6;omega
 ·have:=Mf (q.uL d hd).2.2.1 (bC hi)
  rw[e,h1]at this;cases this
theorem BS(q:GI w S D R X g)(hX:X.ex=0/\X.ze=0)(hR:dQ R){i:Nat}{s:Sa}(hi:g.u4[i]?=some s)(h3:3<=s.state){m:bW}{r:a04}(hp:sI w S m.parts)(hr:Nm w r.dx)(hf:kY r.dZ w D g)(hz:1<=X.zr)(hgn:r.gone.length<=D.k)(hK:D.k<L):
 Ok (pY L g s.own m r) fun y=>GI w S D R {} y/\cA 0 g y:=by
 have qw:GI w S D R {} g:=q.a4o (.inl hX.1.symm) (Nat.zero_le _) (.inr rfl) (Nat.zero_le _) (by show X.ze<=0;omega)
 have q1:GI w S D R {zr:=1} g:=q.a4o (.inl hX.1.symm) hz (.inr rfl) (Nat.zero_le _) (by show X.ze<=0;omega)
 unfold pY
 rw[pc hL hM hp.1.1]
 refine aD (ae (bn (fun _=>ae ⟨qw,cA.rfl⟩) fun e7=> ?_))
 obtain⟨x0,hx0⟩:=Option.isSome_iff_exists.1 e7
 have hth:Nm (1-w) ((fI m.parts).getD (0,0,.nil)):=by rw[hx0];exact hp.nm hx0
 exact(BN hL hM q1 (X':={}) hR hi h3 hp.1 hr hth hf ⟨rfl,rfl,rfl,.inr (.inl ⟨by decide,rfl⟩)⟩ qw hgn hK).bind fun y ⟨a1,a2,_⟩=>ae ⟨a1,a2⟩
end
end Go.Proofs.YtehbbcdhahnkgaaGreat.Vm
