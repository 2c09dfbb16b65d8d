/- Plain functions: who is alone ends. Plain functions: the rules of both gates are good. -/
import Derived.Test.YtehbbcdhahnkgaaGreatVMRu
import Derived.KernelRfl
set_option linter.all false
set_option maxRecDepth 100000
set_option maxHeartbeats 0
namespace Go.Proofs.YtehbbcdhahnkgaaGreat.Vm
open Go
def Jo:cL:=(4,(0,0,(0,0,TL.nil)),(a05.az,0),0)
structure My(RR:Int->List aQ)(m i:Nat)(x c t:Int->Int)(n:ai):Prop where
 ne:NE RR m 90 n
 bA:∀w,w=0∨w=1->(gt n w).bA=t w+i
 rem:∀w,w=0∨w=1->Dd (x w) (c w) (gt n w)
 aW:i≠0->∀w,w=0∨w=1->∀h∈(gt n w).aW,(gt n w).bA<h.born+10
section
variable {RR:Int->List aQ}{m k:Nat}{S S':List jn}{DD:Int->Dl}{G:List (aS×Int×Int)}{n:ai}{L:Nat}
theorem HW(h:Lm L RR)(q:NI RR m k S DD G n)(hm:m<=1000)(hk:k<=180){w:Int}(hw:w=0∨w=1){x c:Int}(r:Dd x c (gt n w)):
 Ok (cR L n w Jo) fun y=>NE RR (m+1) k y.1/\(gt y.1 w).bA=(gt n w).bA+1/\Dd x c (gt y.1 w)/\(∀h∈(gt y.1 w).aW,(gt y.1 w).bA<h.born+10)/\(∀v,v=0∨v=1->v≠w->gt y.1 v=gt n v)/\y.1.a06.length<=60:=by
 have hlo:=h.lo
 have cc:=q.lG w hw
 have hev:F5 S Jo:=⟨fun h=>absurd h (by show¬(4:Int)=1;decide),fun h=>absurd h (by show¬(4:Int)=2;decide)⟩
 have h4:Ok (a2F L (gt n w) Jo) fun y=>((gt n w).bA+1=y.1.bA/\Dd x c y.1/\∀h∈y.1.aW,y.1.bA<h.born+10)/\∃S' D',oZ w S (DD w) (RR w) (gt n w) Jo y.1 y.2.1 S' D':=
  ((Pq (by omega) h.hi (q.gi w hw) ⟨by omega,by omega⟩ (by omega) (by omega) r (e:=Jo) rfl).and (EO h q hm hk hw hev)).mono fun y ⟨⟨a1,a2,a3,a4⟩,b⟩=>⟨⟨a2.symm,a3,a4⟩,b a1⟩
 have h4':Ok (a2F L (gt n w) Jo) fun y=>y.2.2=0/\((gt n w).bA+1=y.1.bA/\Dd x c y.1/\∀h∈y.1.aW,y.1.bA<h.born+10)/\∃S' D',oZ w S (DD w) (RR w) (gt n w) Jo y.1 y.2.1 S' D':=
  ((Pq (by omega) h.hi (q.gi w hw) ⟨by omega,by omega⟩ (by omega) (by omega) r (e:=Jo) rfl).and h4).mono fun y ⟨⟨a1,_⟩,b⟩=>⟨a1,b⟩
 have hA:Ok (j6 L (fun _=>(cQ L 5).1) n w (gt n w) Jo) fun y=>NE RR (m+1) k y.1/\(gt y.1 w).bA=(gt n w).bA+1/\Dd x c (gt y.1 w)/\(∀h∈(gt y.1 w).aW,(gt y.1 w).bA<h.born+10)/\(∀v,v=0∨v=1->v≠w->gt y.1 v=gt n v)/\y.1.a06.length<=60:=by
  unfold j6
  refine h4'.bind fun y4 ⟨z,⟨a1,a2,a3⟩,S',D',st⟩=>aP (fun hne=>absurd z hne) fun _=> ?_
  obtain⟨p1,p2,p3,p4,p5,p6,p7⟩:=q.CR hm st
  have hh:Ok ((cQ L 5).1 (D6 n w y4.1) w y4.2.1) fun y=>NE RR (m+1) k y/\(gt y w).bA=(gt n w).bA+1/\Dd x c (gt y w)/\(∀h∈(gt y w).aW,(gt y w).bA<h.born+10)/\(∀v,v=0∨v=1->v≠w->gt y v=gt n v)/\y.a06.length<=60:=by
   refine CG (st:=fun _=>(cQ L 4).2) (by omega:8000<L) h.hi p1 p2 p3 p4 st.tJ st.len p5 p6 p7 fun y hy=> ?_
   have ho:y4.2.1.outside=[]:=st.out.elim (fun h=>h) fun hh=>absurd hh.1 (by show¬(4:Int)=2;decide)
   rw[ho]
   obtain⟨DD',G',q'⟩:=q.step hw st hev.2 hy rfl
   refine a0i 0 (fun i s=>s=((i:Int),y)) (by omega) rfl (fun i s hi _=>by omega) fun s hs=> ?_
   subst hs
   have e1:gt y w=y4.1:=by rw[vT hy.bG,FE hw]
   refine aM (fun h=>absurd h (by show¬((0:Nat):Int)<((0:Nat):Int);omega)) fun _=>ae ⟨⟨S',DD',G',q'⟩,?_,?_,?_,fun v hv hvw=> ?_,hy.C4⟩
   ·show(gt y w).bA=_;rw[e1];exact a1.symm
   ·show Dd x c (gt y w);rw[e1];exact a2
   ·show∀h∈(gt y w).aW,(gt y w).bA<h.born+10;rw[e1];exact a3
   ·show gt y v=gt n v;rw[vT hy.bG,Ca hw hv hvw]
  rcases hw with rfl|rfl
  ·exact aC (fun _=>hh.bind fun y hy=>ae hy) fun hne=>absurd rfl hne
  ·exact aC (fun hne=>absurd hne (by decide)) fun _=>a0r rfl (hh.bind fun y hy=>ae hy)
 show Ok (j7 L (fun _=>(cQ L 5).1) n w Jo) _
 unfold j7
 rcases hw with rfl|rfl
 ·exact aC (fun _=>hA) fun hne=>absurd rfl hne
 ·exact aC (fun hne=>absurd hne (by decide)) fun _=>a0r rfl hA
theorem CJ:Ok (a2B L n (a0g.az (kind:=8))) fun y=>y=0:=by
 unfold a2B fF gx gy gz gA iy
 show Ok (bif !(aF ((ai.a06 n).length:Int) 60)then some 0 else some 0) _
 exact bX (fun _=>ae rfl) fun _=>ae rfl
theorem CI(hf:0<n.a06.length):Ok (a2B L n (a0g.az (kind:=2))) fun y=>y=0:=by
 unfold a2B fF gx gy gz gA iy
 show Ok (bif !(aF 0 ((ai.a06 n).length:Int))then some 8 else bif !(aF ((ai.a06 n).length:Int) 60)then some 0 else some 0) _
 exact bX (fun h=>absurd (by omega) h) fun _=>bX (fun _=>ae rfl) fun _=>ae rfl
theorem N2(h:Lm L RR)(q:NE RR m k n)(hm:m<=990)(hk:k<=179)(hf:0<n.a06.length):Ok (eS L n (a0g.az (kind:=2))) fun y=>y.2=0/\NE RR m k y.1/\y.1.a06.length+1=n.a06.length/\y.1.bG=n.bG:=by
 obtain⟨S,DD,G,q⟩:=q
 unfold eS kk
 refine(CI hf).bind fun y3 h3=>aP (fun hne=>absurd h3 hne) fun _=>aD (ae ?_)
 exact(Aj h q (by omega) hk (a:=a0g.az (kind:=2)) (by show(0:Int)<=0;decide) (by show(0:Int)<_;omega) (.inr rfl)).mono fun y ⟨a1,_,a2⟩=>⟨a1,a2 rfl⟩
theorem My.bG{x c t:Int->Int}{i m':Nat}{y:ai}(a:My RR m i x c t n)(e:y.bG=n.bG)(q:NE RR m' 90 y):My RR m' i x c t y:=by
 have hg:∀v,gt y v=gt n v:=fun v=>vT e
 exact⟨q,fun w hw=>by rw[hg];exact a.bA w hw,fun w hw=>by rw[hg];exact a.rem w hw,fun hi w hw=>by rw[hg];exact a.aW hi w hw⟩
theorem Mh(h:Lm L RR){x c t:Int->Int}{i:Nat}(a:My RR m i x c t n)(hm:m<=990):Ok (eS L n (a0g.az (kind:=8))) fun y=>y.2=0/\My RR (m+2) (i+1) x c t y.1/\y.1.a06.length<=60:=by
 obtain⟨S,DD,G,q⟩:=a.ne
 unfold eS kk
 refine CJ.bind fun y3 h3=>aP (fun hne=>absurd h3 hne) fun _=>aD (ae ?_)
 show Ok (Option.bind (cR L n 0 Jo) fun y5=>Option.bind (cR L y5.1 1 Jo) fun y6=>some (y6.1,0)) _
 refine(HW h q (by omega) (by omega) (.inl rfl) (a.rem 0 (.inl rfl))).bind fun y5 ⟨⟨S1,DD1,G1,q1⟩,b2,b3,b4,b5,_⟩=> ?_
 have e1:=b5 1 (.inr rfl) (by decide)
 refine(HW h q1 (by omega) (by omega) (.inr rfl) (x:=x 1) (c:=c 1) (by rw[e1];exact a.rem 1 (.inr rfl))).bind fun y6 ⟨d1,d2,d3,d4,d5,d6⟩=> ?_
 have e0:=d5 0 (.inl rfl) (by decide)
 refine ae ⟨rfl,⟨d1,fun w hw=> ?_,fun w hw=> ?_,fun _ w hw=> ?_⟩,d6⟩
 ·rcases hw with rfl|rfl
  ·have:=a.bA 0 (.inl rfl)
   show(gt y6.1 0).bA=_;rw[e0,b2];omega
  ·have:=a.bA 1 (.inr rfl)
   show(gt y6.1 1).bA=_;rw[d2,e1];omega
 ·rcases hw with rfl|rfl
  ·show Dd _ _ (gt y6.1 0);rw[e0];exact b3
  ·exact d3
 ·rcases hw with rfl|rfl
  ·show∀h∈(gt y6.1 0).aW,(gt y6.1 0).bA<h.born+10;rw[e0];exact b4
  ·exact d4
theorem C9{x:ai}{r:Int}{f:aa->Nat}{k:Option (Int⊕(Unit⊕Bool))}{Q}(hr:r=0∨r=1)(h:f (gt x r)=0)(hk:Ok k Q):Ok (nQ x r f k) Q:=by
 unfold nQ
 rcases hr with rfl|rfl
 ·refine aC (fun _=>aP (fun hne=>absurd (by show((f (gt x 0):Nat):Int)=0;rw[h];rfl) hne) fun _=>hk) fun hne=>absurd rfl hne
 ·refine aC (fun hne=>absurd hne (by decide)) fun _=>a0r rfl (aP (fun hne=>absurd (by show((f (gt x 1):Nat):Int)=0;rw[h];rfl) hne) fun _=>hk)
theorem Kk(h:Lm L RR)(hR:∀w,w=0∨w=1->a3s (RR w))(hT:GR RR){rr:(List aQ)×(List aQ)}(h0:RR 0=rr.1)(h1:RR 1=rr.2)(q:NE RR m k n)(hm:m<=10000)(hg:∀w,w=0∨w=1->(gt n w).u4=[]/\(gt n w).af=[]/\(gt n w).aW=[]):uw L n rr=some true:=by
 have hlo:=h.lo
 obtain⟨S,DD,G,q⟩:=q
 unfold uw
 have:Ok (iter (Y:=(Unit⊕Bool)) 3019 (fun r7:Int=>
  bif aF r7 2 then
   nQ n r7 (fun g=>(aa.u4 g).length) (nQ n r7 (fun g=>(aa.af g).length) (nQ n r7 (fun g=>(aa.aW g).length) (some (.inl (add r7 1)))))
  else
  some (.inr (.inl ()))) L 0) fun y=>y=.inl ():=by
  refine fq 2 (fun _=>True) (by omega) trivial (fun i hi _=> ?_) fun _=>aM (fun h=>absurd h (by decide)) fun _=>ae rfl
  have hw:(i:Int)=0∨(i:Int)=1:=by omega
  obtain⟨g1,g2,g3⟩:=hg i hw
  exact aM (fun _=>C9 hw (by rw[g1];rfl) (C9 hw (by rw[g2];rfl) (C9 hw (by rw[g3];rfl) (ae ⟨cG i (by omega),trivial⟩)))) fun h=>absurd (by omega) h
 obtain⟨y,e1,e2⟩:=this
 rw[e1,e2]
 show Option.bind (nP L n rr) _=_
 rw[FC (by omega) h.hi q hm hR hT h0 h1]
 show Option.bind (a3J L n rr) _=_
 rw[Mj (by omega) h.hi q hm hR h0 h1]
 rfl
theorem JL(h:Lm L RR)(hR:∀w,w=0∨w=1->a3s (RR w))(hT:GR RR){x0 x1:List Int}{rr:(List aQ)×(List aQ)}(h0:RR 0=rr.1)(h1:RR 1=rr.2)(ha:uv L=some true)(hp:u6 L x0 x1 true=some (n,rr,true))(q:NE RR 360 90 n):a3m L x0 x1=some true:=by
 have hlo:=h.lo
 have q0:=q
 obtain⟨S,DD,G,q0⟩:=q0
 have start:My RR 360 0 (fun w=>(gt n w).bA+8) (fun w=>(gt n w).bA) (fun w=>(gt n w).bA) n:=⟨q,fun w hw=>by show _=(gt n w).bA+((0:Nat):Int);omega,fun w hw=>Dd.begin (q0.gi w hw),fun hi=>absurd rfl hi⟩
 have main:Ok (a3m L x0 x1) fun b=>b=true:=by
  unfold a3m
  rw[ha,hp]
  refine aD (ae (bn (fun e=>by cases e) fun _=>aD (ae (bn (fun e=>by cases e) fun _=> ?_))))
  refine Ok.bind (P:=fun y=>∃z,y=.inl z/\My RR 540 90 (fun w=>(gt n w).bA+8) (fun w=>(gt n w).bA) (fun w=>(gt n w).bA) z) ?_ fun y ⟨z,e2,hz⟩=> ?_
  rotate_left
  ·rw[e2]
   show Ok (uw L z rr) _
   rw[Kk h hR hT h0 h1 hz.ne (by omega) fun w hw=> ?_]
   ·exact ae rfl
   obtain⟨S,DD,G,q⟩:=hz.ne
   have hn:=hz.bA w hw
   exact(hz.rem w hw).gone (q.gi w hw) (by omega) (hz.aW (by decide) w hw) (by omega)
  refine a0i 90 (fun i s=>s.1=(i:Int)/\My RR (360+2*i) i (fun w=>(gt n w).bA+8) (fun w=>(gt n w).bA) (fun w=>(gt n w).bA) s.2/\s.2.a06.length<=60) (by omega) ⟨rfl,start,q0.C4⟩ (fun i s hi hs=> ?_) fun s hs=> ?_
  ·obtain⟨a,u⟩:=s
   obtain⟨rfl,h1,h2⟩:=hs
   dsimp only at h1 h2⊢
   refine aM (fun _=> ?_) fun h=>absurd (by omega) h
   refine Ok.bind (P:=fun y=>∃z,y=.inl z/\My RR (360+2*i) i (fun w=>(gt n w).bA+8) (fun w=>(gt n w).bA) (fun w=>(gt n w).bA) z) ?_ fun y ⟨z,e,hz⟩=> ?_
   ·refine a0i u.a06.length (fun j s=>s.a06.length+j=u.a06.length/\My RR (360+2*i) i (fun w=>(gt n w).bA+8) (fun w=>(gt n w).bA) (fun w=>(gt n w).bA) s) (by omega) ⟨rfl,h1⟩ (fun j s hj hs=> ?_) fun s hs=> ?_
    ·obtain⟨s1,s2⟩:=hs
     refine aM (fun _=> ?_) fun h=>absurd (by omega) h
     refine(N2 h s2.ne (by omega) (by omega) (by omega)).bind fun y7 ⟨a1,a2,a3,a4⟩=>aP (fun hne=>absurd a1 hne) fun _=>aP (fun hne=>absurd ?_ hne) fun _=>ae ⟨by omega,s2.bG a4 a2⟩
     rw[uT (by omega) (by omega)];omega
    ·obtain⟨s1,s2⟩:=hs
     exact aM (fun h=>absurd h (by omega)) fun _=>ae ⟨_,rfl,s2⟩
   ·subst e
    dsimp only
    refine(Mh h hz (by omega)).bind fun y8 ⟨a1,a2,a3⟩=>aP (fun hne=>absurd a1 hne) fun _=>ae ⟨cG i (by omega),a2,a3⟩
  ·obtain⟨a,u⟩:=s
   obtain⟨rfl,h1,h2⟩:=hs
   exact aM (fun h=>absurd h (by show¬((90:Nat):Int)<90;decide)) fun _=>ae ⟨_,rfl,h1⟩
 obtain⟨y,e1,e2⟩:=main
 rw[e1,e2]
end
abbrev LL:Nat:=4611686018427387904
theorem Ui:dY LL qn=some 0:=by kernel_rfl
theorem Uj:dY LL rW=some 0:=by kernel_rfl
theorem Uk:dY LL oN=some 0:=by kernel_rfl
theorem Ul:dY LL qp=some 0:=by kernel_rfl
theorem Um:dY LL rX=some 0:=by kernel_rfl
theorem Un:dY LL rY=some 0:=by kernel_rfl
theorem Uo:dY LL qq=some 0:=by kernel_rfl
theorem Up:dY LL a3H=some 0:=by kernel_rfl
section
variable {L:Nat}
theorem Ez{k w:Int}(hk:0<=k/\k<4)(hw:w=0∨w=1):a3I L k w=some (kW k w):=by
 unfold a3I
 rw[a0k (by omega),a2a hk.2,a0k (show¬w<0 by omega),a2a (show w<2 by omega)];rfl
def RK(k:Int)(w:Int):List aQ:=if w=0 then kW k 0 else kW k 1
theorem Qs{k:Int}(hk:0<=k/\k<4):k=0∨k=1∨k=2∨k=3:=by omega
instance (b:aU):Decidable (AT b):=by unfold AT;infer_instance
theorem Dc{k:Int}(hk:0<=k/\k<4):∀w,w=0∨w=1->a3s (RK k w)/\dY LL (RK k w)=some 0:=by
 have d0:a3s qn/\a3s rW/\a3s oN/\a3s qp/\a3s rX/\a3s rY/\a3s qq/\a3s a3H:=by
  unfold a3s dQ;decide
 obtain⟨a1,a2,a3,a4,a5,a6,a7,a8⟩:=d0
 rintro w (rfl|rfl)<;>rcases Qs hk with rfl|rfl|rfl|rfl
 ·exact⟨a1,Ui⟩
 ·exact⟨a3,Uk⟩
 ·exact⟨a5,Um⟩
 ·exact⟨a7,Uo⟩
 ·exact⟨a2,Uj⟩
 ·exact⟨a4,Ul⟩
 ·exact⟨a6,Un⟩
 ·exact⟨a8,Up⟩
theorem rH{b:aU}{p:a05}{o:Bool}(h:a3G b p o=true){n:Int}(h1:lC b.de=(0,0,n))(h2:lC b.a0m=(0,0,n)):(lC p.aR).2.2=n:=by
 have key:∀{s t:Address} {sp tp:Int},Cb b s t p.aR sp tp=true->(lC p.aR).2.2=n:=fun{s t sp tp} h=>by
  unfold Cb at h
  simp only[Bool.and_eq_true]at h
  have h3:Iv (lC b.de) (lC b.a0m) (lC p.aR)=true:=by
   first
    |exact h.1.1.2
    |exact h.2.2.1
  rw[h1,h2]at h3
  unfold Iv at h3
  rw[qJ,qJ]at h3
  simp only[Bool.and_eq_true,Bool.not_eq_true',decide_eq_false_iff_not]at h3
  obtain⟨h4,h5⟩:=h3
  obtain⟨x,hx⟩:∃x:Int,(lC p.aR).2.2=x:=⟨_,rfl⟩
  have h6:¬x<n:=fun h=>h4 (.inr ⟨rfl,.inr ⟨rfl,by rw[<-hx]at h;exact h⟩⟩)
  have h7:¬n<x:=fun h=>h5 (.inr ⟨rfl,.inr ⟨rfl,by rw[<-hx]at h;exact h⟩⟩)
  rw[hx]
  exact Int.le_antisymm (Int.not_lt.1 h7) (Int.not_lt.1 h6)
 unfold a3G at h
 cases o
 ·exact key h
 ·exact key h
theorem Tq{k:Int}(hk:0<=k/\k<4):GR (RK k):=by
 have get:∀{R:List aQ} {P:aQ->Prop},(∀r∈R,P r)->∀{i:Nat},i<R.length->P (R.getD i aQ.az):=fun{R P} h {i} hi=>by
  rw[bB (List.getElem?_eq_getElem hi)];exact h _ (List.getElem_mem hi)
 have gold:∀{R R':List aQ},(∀r∈R,r.cO=2->r.a0n=[103,111,108,100])->(∀r∈R',r.cO=2->r.a0n=[103,111,108,100])->∀{p:a05} {i j:Int},actP R p false=(2,i)->actP R' p true=(2,j)->(R.getD i.toNat aQ.az).a0n=(R'.getD j.toNat aQ.az).a0n:=fun{R R'} g g' {p i j} h h'=>by
  obtain⟨a,rfl,a1,a2,_⟩:=uc h
  obtain⟨b,rfl,b1,b2,_⟩:=uc h'
  rw[a08,a08,get g a1 a2,get g' b1 b2]
 have six:∀{R R':List aQ},(∀r∈R,r.cO=2->(r.a0n=[103,111,108,100]/\∀b∈r.cI,lC b.de=(0,0,7)/\lC b.a0m=(0,0,7))∨(r.a0n=[115,105,108,118,101,114]/\∀b∈r.cI,lC b.de=(0,0,18)/\lC b.a0m=(0,0,18)))->
  (∀r∈R',r.cO=2->(r.a0n=[103,111,108,100]/\∀b∈r.cI,lC b.de=(0,0,7)/\lC b.a0m=(0,0,7))∨(r.a0n=[115,105,108,118,101,114]/\∀b∈r.cI,lC b.de=(0,0,18)/\lC b.a0m=(0,0,18)))->∀{p:a05} {i j:Int},actP R p false=(2,i)->actP R' p true=(2,j)->(R.getD i.toNat aQ.az).a0n=(R'.getD j.toNat aQ.az).a0n:=fun{R R'} g g' {p i j} h h'=>by
  obtain⟨a,rfl,a1,a2,x,hx,a3⟩:=uc h
  obtain⟨b,rfl,b1,b2,y,hy,b3⟩:=uc h'
  rw[a08,a08]
  rcases get g a1 a2 with⟨e,f⟩|⟨e,f⟩<;>rcases get g' b1 b2 with⟨e',f'⟩|⟨e',f'⟩
  ·rw[e,e']
  ·have u:=rH a3 (f x hx).1 (f x hx).2
   have v:=rH b3 (f' y hy).1 (f' y hy).2
   rw[u]at v;exact absurd v (by decide)
  ·have u:=rH a3 (f x hx).1 (f x hx).2
   have v:=rH b3 (f' y hy).1 (f' y hy).2
   rw[u]at v;exact absurd v (by decide)
  ·rw[e,e']
 rintro w (rfl|rfl) p i j h h'<;>rcases Qs hk with rfl|rfl|rfl|rfl
 ·exact gold (R:=qn) (R':=rW) (by decide) (by decide) h h'
 ·exact gold (R:=oN) (R':=qp) (by decide) (by decide) h h'
 ·exact gold (R:=rX) (R':=rY) (by decide) (by decide) h h'
 ·exact six (R:=qq) (R':=a3H) (by decide) (by decide) h h'
 ·exact gold (R:=rW) (R':=qn) (by decide) (by decide) h h'
 ·exact gold (R:=qp) (R':=oN) (by decide) (by decide) h h'
 ·exact gold (R:=rY) (R':=rX) (by decide) (by decide) h h'
 ·exact six (R:=a3H) (R':=qq) (by decide) (by decide) h h'
structure U8(w:Int)(R:List aQ)(g:aa):Prop where
 id:g.av=w
 kS:g.kS=1-w
 dh:g.dh=R
 MA:0<g.dB.length/\g.dB.length<=4
 lG:g.count=2
 bA:g.bA=0
 gn:g.guard.cP
 vn:g.mm.cP/\g.mm.1=2
 u4:g.u4=[]
 aW:g.aW=[]
 dF:g.af=[]
 a4l:g.cu=[]
theorem U8.gi{w:Int}{R:List aQ}{g:aa}(hw:w=0∨w=1)(h:U8 w R g):GI w [] ⟨[],0⟩ R {} g:=by
 have hs:∀{α:Type} {l:List α} {P:α->Prop},l=[]->∀x∈l,P x:=fun h x hx=>by rw[h]at hx;simp at hx
 have ho:∀x,occ x g=0:=fun x=>by unfold occ;rw[h.u4,h.aW,h.dF];rfl
 refine⟨hw,h.id,h.kS,h.dh,h.MA,by rw[h.lG];decide,by rw[h.bA];decide,h.gn,h.vn,hs h.u4,hs h.aW,hs h.dF,hs h.a4l,by rw[h.aW];decide,by rw[h.a4l];decide,fun x=>by rw[ho];decide,fun x hx=>by rw[ho]at hx;exact absurd hx (by decide),hs h.dF,hs h.u4,by rw[h.u4];decide,by rw[h.u4];decide,⟨fun _=>0,fun _=>false,hs h.u4,fun k=>by rw[h.u4,h.dF];simp[sumL],⟨[],by decide,hs h.u4⟩,by rw[h.u4,h.dF];decide⟩,hs h.u4,fun d hd=>by simp at hd⟩
theorem JC{w:Int}(hw:w=0∨w=1){R:List aQ}{a b:Int}(ha:0<a)(hb:0<b){gs:List Int}(hg:0<gs.length/\gs.length<=4)(hR:R.length<=100)(hc:dY LL R=some 0):Ok (nG LL w a b R gs) fun y=>y.2=0/\U8 w R y.1:=by
 have go:Ok (bif !(aF 0 a)then some (aa.az,5)else
 bif !(aF 0 b)then some (aa.az,5)else
 bif aH (gs.length:Int) 0 then some (aa.az,5)else
 bif aF 4 (gs.length:Int)then some (aa.az,5)else
 Option.bind (dY LL R) fun y6=>
 bif !(aH y6 0)then some (aa.az,y6)else
 Option.bind (iter (Y:=aa) 32008 (fun r7:(Int×aa)=>
  bif aF r7.1 (R.length:Int)then
   aJ (!(aF r7.1 0))<|
   aJ (Nat.blt (Int.toNat r7.1) R.length)<|
   aJ (room (((aa.dh r7.2)++[R.getD (Int.toNat r7.1) aQ.az]).length) 48)<|
   some (.inl (add r7.1 1,aa.uD r7.2 ((aa.dh r7.2)++[R.getD (Int.toNat r7.1) aQ.az])))
  else
  some (.inr r7.2)) LL (0,aa.az (av:=w) (kS:=sub 1 w) (bM:=a) (a0a:=b) (dB:=gs))) fun y7=>
 some (aa.bw y7 (count:=add (add (aa.count y7) 1) 1) (guard:=T.name (add (mul (aa.av y7) 1048576) (add (aa.count y7) 1))) (mm:=T.name (add (mul (aa.av y7) 1048576) (add (add (aa.count y7) 1) 1))),0)) fun y=>y.2=0/\U8 w R y.1:=by
  refine bX (fun h=>absurd ha h) fun _=>bX (fun h=>absurd hb h) fun _=>aC (fun h=>by omega) fun _=>aM (fun h=>by omega) fun _=> ?_
  rw[hc]
  refine aD (ae (aP (fun h=>absurd rfl h) fun _=> ?_))
  refine Ok.bind (P:=fun y=>y=aa.uD (aa.az (av:=w) (kS:=sub 1 w) (bM:=a) (a0a:=b) (dB:=gs)) R) ?_ fun y hy=> ?_
  ·refine a0i R.length (fun i s=>s=((i:Int),aa.uD (aa.az (av:=w) (kS:=sub 1 w) (bM:=a) (a0a:=b) (dB:=gs)) (R.take i))) (by show R.length<4611686018427387904;omega) rfl (fun i s hi hs=> ?_) fun s hs=> ?_
   ·subst hs
    dsimp only
    refine aM (fun _=>ay (by omega) (a03 hi ?_)) fun h=>absurd (by omega) h
    have hx:R[i]?=some R[i]:=List.getElem?_eq_getElem hi
    rw[a08,bB hx]
    have ht:R.take (i+1)=R.take i++[R[i]]:=by rw[List.take_add_one,hx];rfl
    refine bD (cF (by show(R.take i++[R[i]]).length*48<=_;rw[<-ht,List.length_take];omega)) (ae ?_)
    show(_,_)=(_,_)
    rw[cG i (by omega),ht];rfl
   ·subst hs
    dsimp only
    refine aM (fun h=>by omega) fun _=>ae ?_
    show aa.uD _ (R.take R.length)=_
    rw[List.take_length]
  ·subst hy
   refine ae ⟨rfl,rfl,?_,rfl,hg,by show add (add 0 1) 1=2;decide,rfl,⟨Nat.zero_le _,trivial⟩,⟨⟨Nat.zero_le _,trivial⟩,rfl⟩,rfl,rfl,rfl,rfl⟩
   show sub 1 w=1-w
   exact uT (by omega) (by omega)
 unfold nG
 exact aP (fun _=>aP (fun h1=>absurd hw (by omega)) fun _=>go) fun _=>go
theorem JP{l:List Int}(hl:yM l):Ok (qZ LL l 0) fun y=>∃k,(0<=k/\k<4)/\y.2.2.2=true/\y.2.2.1=(kW k 0,kW k 1)/\NE (RK k) 0 0 y.2.1:=by
 unfold qZ
 refine(dy hl ⟨Int.le_refl _,by omega⟩ (by decide)).bind fun y3 ⟨a1,a2,a3⟩=> ?_
 rw[Ez ⟨a2,a3⟩ (.inl rfl),Ez ⟨a2,a3⟩ (.inr rfl)]
 refine aD (ae (aD (ae ?_)))
 refine(dy hl a1 (by decide)).bind fun y6 ⟨b1,b2,b3⟩=>ay (by omega) (a03 (by omega) ?_)
 have hg:∀{i:Int},0<=i->i<4->0<(([[31,1024],[1024,31],[31],[1024]]:List (List Int)).getD (Int.toNat i) []).length/\(([[31,1024],[1024,31],[31],[1024]]:List (List Int)).getD (Int.toNat i) []).length<=4:=fun{i} h1 h2=>by
  rcases Qs ⟨h1,h2⟩with rfl|rfl|rfl|rfl<;>decide
 obtain⟨r0,c0⟩:=Dc ⟨a2,a3⟩ 0 (.inl rfl)
 obtain⟨r1,c1⟩:=Dc ⟨a2,a3⟩ 1 (.inr rfl)
 refine(JC (.inl rfl) (by decide) (by decide) (hg b2 b3) (Nat.le_trans r0.1.1 (by decide)) c0).bind fun y7 ⟨d1,d2⟩=> ?_
 refine(dy hl b1 (by decide)).bind fun y8 ⟨e1,e2,e3⟩=>ay (by omega) (a03 (by omega) ?_)
 refine(JC (.inr rfl) (by decide) (by decide) (hg e2 e3) (Nat.le_trans r1.1.1 (by decide)) c1).bind fun y9 ⟨f1,f2⟩=>aD (ae ?_)
 refine aC (fun _=>ae ⟨y3.2,⟨a2,a3⟩,a3b f1,rfl,[],fun _=>⟨[],0⟩,[],?_⟩) fun h=>absurd d1 h
 have gi:∀w,w=0∨w=1->U8 w (RK y3.2 w) (gt (ai.az (bG:=(y7.1,y9.1))) w):=by
  rintro w (rfl|rfl)
  ·exact d2
  ·exact f2
 exact⟨fun w hw=>(gi w hw).gi hw,fun w hw=>⟨by rw[(gi w hw).lG];decide,by rw[(gi w hw).bA];decide,Nat.le_refl _⟩,fun d hd=>absurd hd (List.not_mem_nil),Nat.zero_le _,⟨trivial,trivial⟩,Nat.le_refl _,fun e he=>absurd he (List.not_mem_nil),rfl,fun e he=>absurd he (List.not_mem_nil),rfl,fun e he=>absurd he (List.not_mem_nil),List.nodup_nil,fun e he=>absurd he (List.not_mem_nil),Nat.le_refl _,Nat.le_refl _,Nat.le_refl _⟩
end
end Go.Proofs.YtehbbcdhahnkgaaGreat.Vm
