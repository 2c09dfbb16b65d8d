/- Plain functions: what comes under the keys of an association. -/
import Derived.Test.YtehbbcdhahnkgaaGreatVVqN
set_option linter.all false
set_option maxRecDepth 100000
set_option maxHeartbeats 0
namespace Go.Proofs.YtehbbcdhahnkgaaGreat.Vm
open Go
section
variable {w:Int}{S S':List jn}{D:Dl}{R:List aQ}{X X':Cr}{g g':aa}{L:Nat}
variable (hL:5000<L)(hM:L<=4611686018427387904)
include hL hM
theorem Cd{α:Type}{Q:α->Prop}{p:TL}(hp:p.len<=5000){l:List Int}(hl:l.length<=100){y n:Option α}(hy:Ok y Q)(hn:Ok n Q):Ok (l8 L p l y n) Q:=by
 unfold l8
 refine Ok.bind (P:=fun _=>True) ?_ fun z _=> ?_
 ·refine fq l.length (fun _=>True) (by omega) trivial (fun i hi _=> ?_) fun _=> ?_
  ·rw[fH hL hM hp]
   exact aM (fun _=>ay (by omega) (a03 hi (aD (ae (bJ (fun _=>ae trivial) fun _=>ae ⟨cG i (by omega),trivial⟩))))) fun h=>absurd (by omega) h
  ·exact aM (fun h=>absurd h (by omega)) fun _=>ae trivial
 ·cases z with
  |inl _=>exact hn
  |inr i=>exact bn (fun _=>hy) fun _=>hn
theorem MM(q:GI w S D R {} g)(hR:dQ R)(b:Bd g)(b2:g.count<=400000)(hK:D.k<=900000){x:Int}{m:bW}{cq:Int}(hx:∀s∈g.u4,s.own=x->3<=s.state)(hp:sI w S m.parts):
 Ok (mT L g x m cq) fun y=>GI w S ⟨D.l,D.k+5000⟩ R {} y.1/\cA 3 g y.1/\bE S y.2:=by
 have up:∀{k:Int} {o:Option (aa×List aj)},k<=3->Ok o (fun y=>GI w S D R {} y.1/\cA k g y.1/\bE S y.2)->Ok (Option.bind o fun y=>some y) fun y=>GI w S ⟨D.l,D.k+5000⟩ R {} y.1/\cA 3 g y.1/\bE S y.2:=fun hk h=>
  h.bind fun y ⟨a1,a2,a3⟩=>ae ⟨a1.uQ (Nat.le_add_right _ _),a2.le hk,a3⟩
 have ans:∀{parts:TL},qH w S parts->Ok (Option.bind (a09 L g x m cq parts) fun y=>some y) fun y=>GI w S ⟨D.l,D.k+5000⟩ R {} y.1/\cA 3 g y.1/\bE S y.2:=fun ho=>
  up (by decide) ((ny hL hM q (cq:=cq) (m:=m) hx ho.1 ho.2).mono fun y ⟨a1,a2,a3,_⟩=>⟨a1,a2,a3⟩)
 have hl:∀{l:List Int},l.length<=2->l.length<=100:=fun h=>by omega
 have hA:Ok (a3E L g x m cq) fun y=>GI w S ⟨D.l,D.k+5000⟩ R {} y.1/\cA 3 g y.1/\bE S y.2:=by
  unfold a3E
  refine aP (fun _=>ans jH) fun _=>Cd hL hM hp.1.1 (by decide) ?_ (Cd hL hM hp.1.1 (by decide) (up (by decide) (ya hL hM q hx hp.1)) (ans oH))
  exact(yb hL hM q hK hx hp.1).bind fun y ⟨a1,a2,a3⟩=>ae ⟨a1,a2.le (by decide),a3⟩
 have hB:Ok (lO L g x m cq) fun y=>GI w S ⟨D.l,D.k+5000⟩ R {} y.1/\cA 3 g y.1/\bE S y.2:=by
  unfold lO
  exact aC (fun _=>up (by decide) (yY hL hM q hR b b2 hx hp)) fun _=>hA
 have hC:Ok (lP L g x m cq) fun y=>GI w S ⟨D.l,D.k+5000⟩ R {} y.1/\cA 3 g y.1/\bE S y.2:=by
  unfold lP
  exact aC (fun _=>Cd hL hM hp.1.1 (by decide) (up (by decide) (Ac hL hM q hR b b2 hx hp)) hB) fun _=>hB
 unfold mT
 exact aC (fun _=>Cd hL hM hp.1.1 (by decide) (up (by decide) (EC hL hM q b b2 hx hp)) hC) fun _=>hC
theorem Fa(q:GI w S D R {} g)(hR:dQ R)(b:Bd g)(hK:D.k<L){i:Nat}{s:Sa}(hi:g.u4[i]?=some s)(h3:3<=s.state){m:bW}(hp:sI w S m.parts):
 Ok (jK L g s.own m) fun y=>GI w S D R {} y.1/\cA 0 g y.1/\bE S y.2:=by
 unfold jK
 have hs:=q.u4 s (bC hi)
 refine(PA hL hM q hi h3).bind fun y ⟨e1,e2,q1,hf⟩=> ?_
 obtain⟨g1,r⟩:=y
 dsimp only at e1 e2 q1 hf⊢
 subst e1
 have a1:cA 0 g g1:=by rw[e2];exact cA.rfl
 have b1:Bd g1:=⟨by have:=a1.2.2;have:=b.lG;omega,by have:=a1.1;have:=b.bA;omega⟩
 obtain⟨s',es⟩:∃s',s'=Sa.dS s a04.az:=⟨_,rfl⟩
 have hi1:g1.u4[i]?=some s':=by rw[e2,es];exact List.getElem?_set_self (bL hi)
 have o1:s'.own=s.own:=by rw[es];rfl
 have o2:s'.state=s.state:=by rw[es];rfl
 have o3:s'.pending.ax=0:=by rw[es];rfl
 have hgn:=q.gone s (bC hi)
 have h5:¬s.pending.ax=7->s.state=3:=fun h=>by
  have h4:=hs.p4 (fun h=>q.Ep (bC hi) h.symm)
  rcases hs.st with e|e|e|e
  ·omega
  ·omega
  ·exact e
  ·exact absurd (h4 e) h
 have hx0:¬s.pending.ax=7->(if s.state=4 then s.own else(0:Int))=0:=fun h=>if_neg (by have:=h5 h;omega)
 have wk:∀{g2:aa},GI w S D R {ex:=if s.state=4 then s.own else 0,zr:=nj s,zs:=pSa s} g2->¬s.pending.ax=7->GI w S D R {} g2:=fun q2 h=>by
  rw[hx0 h]at q2
  exact q2.a4o (.inl rfl) (Nat.zero_le _) (.inl rfl) (Nat.zero_le _) (Nat.le_refl _)
 have out:∀{l:List aj},l=[]->¬s.pending.ax=7->Ok (some (g1,l)) fun y=>GI w S D R {} y.1/\cA 0 g y.1/\bE S y.2:=fun hl h=>by
  subst hl;exact ae ⟨wk q1 h,a1,bE.nil⟩
 have hH:(3<=s.pending.ax/\s.pending.ax<=7∨9<=s.pending.ax/\s.pending.ax<=10)->Ok (fo L g1 s.own m s.pending) fun y=>GI w S D R {} y.1/\cA 0 g y.1/\bE S y.2:=by
  intro hpp
  unfold fo
  refine aC (fun h=>by omega) fun _=>aC (fun h=>by omega) fun _=>aC (fun h=>by omega) fun _=> ?_
  refine aC (fun h=> ?_) fun _=>aC (fun h=> ?_) fun _=>aC (fun h=> ?_) fun _=>aC (fun h=> ?_) fun _=>aC (fun h=> ?_) fun _=>aC (fun h=>by omega) fun _=>aC (fun h=> ?_) fun _=>a0r (by omega) ?_
  ·rw[<-o1]
   exact(BS hL hM q1 ⟨hx0 (by omega),rfl⟩ hR hi1 (by omega) hp (hs.Jm (by omega)) (hf (by omega)) (by show 1<=nj s;unfold nj;rw[if_pos (.inl h)];exact Nat.le_refl 1) hgn hK).bind fun y ⟨c1,c2⟩=>ae ⟨c1,(a1.trans c2).le (by decide),bE.nil⟩
  ·rw[<-o1]
   exact(CM hL hM q1 ⟨hx0 (by omega),rfl⟩ hR b1 hi1 (by omega) hp (hs.Jm (by omega)) (hf (by omega)) (by show 1<=nj s;unfold nj;rw[if_pos (.inr h)];exact Nat.le_refl 1) hgn hK).bind fun y ⟨c1,c2,c3⟩=>ae ⟨c1,(a1.trans c2).le (by decide),c3⟩
  ·rw[<-o1]
   exact(J2 hL hM q1 ⟨hx0 (by omega),rfl,rfl,by show nj s=0;unfold nj;rw[if_neg (by omega)],by show 1<=pSa s;unfold pSa;rw[if_pos h];exact Nat.le_refl 1⟩ b1 hi1 (by rw[o2];exact h5 (by omega)) o3 hp (hs.Jm (by omega)) hs.sD (hf (by omega))).bind fun y ⟨c1,c2,c3⟩=>ae ⟨c1,(a1.trans c2).le (by decide),c3⟩
  ·unfold a3k
   refine aD (aC (fun _=> ?_) fun h'=>absurd h h')
   exact(F4 hL hM q1).bind fun y ⟨c1,c2,_⟩=>ae (ae ⟨wk c1 (by omega),(a1.trans c2).le (by decide),bE.nil⟩)
  ·unfold a3k
   refine aD (aC (fun h'=>by omega) fun _=>aC (fun _=> ?_) fun h'=>absurd h h')
   refine(yN hL hM q1 ?_ rfl).bind fun y ⟨c1,c2,_⟩=>ae (ae ⟨c1,(a1.trans c2).le (by decide),bE.nil⟩)
   show(if s.state=4 then s.own else(0:Int))=0∨(if s.state=4 then s.own else(0:Int))=s.own
   split
   ·exact .inr rfl
   ·exact .inl rfl
  ·exact(uP hL hM q1 hp.1).bind fun y ⟨c1,c2⟩=>ae ⟨wk c1 (by omega),(a1.trans c2).le (by decide),bE.nil⟩
  ·exact(uP hL hM q1 hp.1).bind fun y ⟨c1,c2⟩=>ae ⟨wk c1 (by omega),(a1.trans c2).le (by decide),bE.nil⟩
 refine aM (fun h=>out rfl (by omega)) fun h0=>bX (fun h=>out rfl (by omega)) fun h11=>aC (fun h=>out rfl (by omega)) fun n0=>aC (fun h=>out rfl (by omega)) fun n1=>aC (fun h=>out rfl (by omega)) fun n2=> ?_
 exact aC (fun h=>hH (by omega)) fun n3=>aC (fun h=>hH (by omega)) fun n4=>aC (fun h=>hH (by omega)) fun n5=>aC (fun h=>hH (by omega)) fun n6=>aC (fun h=>hH (by omega)) fun n7=>aC (fun h=>out rfl (by omega)) fun n8=>aC (fun h=>hH (by omega)) fun n9=>a0r (by omega) (hH (by omega))
omit hL hM in
theorem PG{s:Sa}{m:bW}:Ok (mR L s m) fun _=>True:=by
 unfold mR
 (repeat' with_reducible first|refine bX (fun _=> ?_) (fun _=> ?_)|refine aM (fun _=> ?_) (fun _=> ?_)|refine aP (fun _=> ?_) (fun _=> ?_)|refine aC (fun _=> ?_) (fun _=> ?_)|refine ay (by omega) ?_|refine a03 (by omega) ?_|refine eK (by omega) ?_|refine a0r (by omega) ?_|refine ok_glt (by omega) ?_|refine bn (fun _=> ?_) (fun _=> ?_)|refine bJ (fun _=> ?_) (fun _=> ?_))<;>exact ae trivial
theorem Na(q:GI w S D R X g){m:bW}:Ok (ow L g m) fun y=>y= -1∨∃(i:Nat) (s:Sa),y=(i:Int)/\g.u4[i]?=some s:=by
 unfold ow
 have hl:=q.len
 have key:∀a c:Int,Ok (Option.bind (iter (Y:=(Unit⊕Int)) 106002 (fun r3:Int=>
  bif aF r3 ((aa.u4 g).length:Int)then
   aJ (!(aF r3 0))<|
   aJ (Nat.blt (Int.toNat r3) ((aa.u4 g).length))<|
   bif aH (Sa.own ((aa.u4 g).getD (Int.toNat r3) Sa.az)) a then
    bif aH (Sa.fg ((aa.u4 g).getD (Int.toNat r3) Sa.az)) c then some (.inr (.inr r3))else
    some (.inl (add r3 1))
   else
   some (.inl (add r3 1))
  else
  some (.inr (.inl ()))) L 0) fun y3=>
  match y3 with
  | .inl y4=>
    some (-1)
  | .inr y4=>
    some y4) fun y=>y= -1∨∃(i:Nat) (s:Sa),y=(i:Int)/\g.u4[i]?=some s:=by
  intro a c
  refine Ok.bind (P:=Sum.elim (fun _=>True) fun y=>∃(i:Nat) (s:Sa),y=(i:Int)/\g.u4[i]?=some s) ?_ fun y hy=> ?_
  ·refine fq g.u4.length (fun _=>True) (by omega) trivial (fun i hi _=> ?_) fun _=> ?_
   ·have hs:add (i:Int) 1=((i+1:Nat):Int):=cG i (by omega)
    exact aM (fun _=>ay (by omega) (a03 hi (aC (fun _=>aC (fun _=>ae ⟨i,_,rfl,List.getElem?_eq_getElem hi⟩) fun _=>ae ⟨hs,trivial⟩) fun _=>ae ⟨hs,trivial⟩))) fun h=>absurd (by omega) h
   ·exact aM (fun h=>absurd h (by omega)) fun _=>ae trivial
  ·cases y with
   |inl _=>exact ae (.inl rfl)
   |inr z=>exact ae (.inr hy)
 exact bJ (fun _=>key _ _) fun _=>key _ _
theorem Et(q:GI w S D R {} g)(hR:dQ R)(b:Bd g)(b2:g.count<=400000)(hK:D.k<=900000)(hK':D.k<L){d:aj}{m:bW}(hd:aZ S d.body):
 Ok (eR L g d m) fun y=>GI w S ⟨D.l,D.k+5000⟩ R {} y.1/\cA 3 g y.1/\bE S y.2:=by
 unfold eR
 have qk:=q.uQ (k:=D.k+5000) (Nat.le_add_right _ _)
 have a0:cA 3 g g:=cA.rfl.le (by decide)
 have no:Ok (some (g,([]:List aj))) fun y=>GI w S ⟨D.l,D.k+5000⟩ R {} y.1/\cA 3 g y.1/\bE S y.2:=ae ⟨qk,a0,bE.nil⟩
 refine(Na hL hM q).bind fun y hy=> ?_
 rcases hy with rfl|⟨i,s,rfl,hi⟩
 ·exact aM (fun _=>no) fun h=>absurd (by decide:(-1:Int)<0) h
 refine aM (fun _=>no) fun _=>ay (by omega) (a03 (bL hi) ?_)
 simp only[a08,bB hi]
 have hs:=q.u4 s (bC hi)
 refine(GO hL hM hd hs.Bk).bind fun y5 h5=>bn (fun _=>no) fun e5=>aC (fun _=>no) fun n1=>aC (fun h2=> ?_) fun n2=> ?_
 ·obtain⟨p1,_⟩:=h5 e5
  refine bJ (fun _=>aC (fun _=>aC (fun _=>bn (fun _=> ?_) fun _=>no) fun _=>no) fun _=>no) fun _=>no
  exact(Dn hL hM q hR hK' hi h2 p1).bind fun y ⟨c1,c2⟩=>ae ⟨c1.uQ (Nat.le_add_right _ _),c2.le (by decide),bE.nil⟩
 obtain⟨p1,p2⟩:=h5 e5
 have h3:3<=s.state:=by have:=hs.st;omega
 obtain⟨k1,k2,k3,k4⟩:=hs.key (by omega)
 have hp:sI w S y5.1.parts:=⟨p1,fun x hx=>by rw[p2 k2 x hx,k4];exact(hs.up h3).2.1⟩
 have hx:∀t∈g.u4,t.own=s.own->3<=t.state:=fun t ht e=>by rw[q.CD ht (bC hi) e];exact h3
 have eC:∀{P:aa->Prop},(∀g1,GI w S D R {} g1->cA 0 g g1->(∀t∈g1.u4,t.own=s.own->3<=t.state)->(∃s1,g1.u4[i]?=some s1/\s1.own=s.own/\3<=s1.state)->P g1)->Ok (a2Q L g s.own) P:=fun{P} h=>
  (MH hL hM q).mono fun g1 ⟨c1,c2,c3⟩=>by
    rcases c3 with⟨_,hno⟩|⟨j,t,hj,ht,e⟩
    ·exact absurd rfl (hno s (bC hi))
    ·obtain rfl:=q.tK hj hi ht
     rw[hi]at hj;cases hj
     have hi1:g1.u4[j]?=some (Sa.uA s g.bA):=by rw[e];exact List.getElem?_set_self (bL hi)
     refine h g1 c1 c2 (fun t ht et=> ?_) ⟨_,hi1,rfl,h3⟩
     rw[c1.CD ht (bC hi1) (by rw[et];rfl)];exact h3
 refine PG.bind fun y6 _=>aC (fun _=> ?_) fun _=>aC (fun _=> ?_) fun _=>aC (fun _=> ?_) fun _=>no
 ·refine aD (eC fun g1 q1 a1 hx1 _=> ?_)
  have b1:Bd g1:=⟨by have:=a1.2.2;have:=b.lG;omega,by have:=a1.1;have:=b.bA;omega⟩
  exact(MM hL hM q1 hR b1 (by have:=a1.2.2;omega) hK hx1 hp).bind fun y ⟨c1,c2,c3⟩=>ae ⟨c1,(a1.trans c2).le (by decide),c3⟩
 ·unfold a3C
  exact aD (ae (ae ⟨qk,a0,bE.one hs.sE⟩))
 ·refine aD (eC fun g1 q1 a1 _ ⟨s1,hi1,o1,o2⟩=> ?_)
  have b1:Bd g1:=⟨by have:=a1.2.2;have:=b.lG;omega,by have:=a1.1;have:=b.bA;omega⟩
  rw[<-o1]
  exact(Fa hL hM q1 hR b1 hK' hi1 o2 hp).bind fun y ⟨c1,c2,c3⟩=>ae ⟨c1.uQ (Nat.le_add_right _ _),(a1.trans c2).le (by decide),c3⟩
end
theorem TL.tE(a b:List Tm):TL.app (TL.of a) (TL.of b)=TL.of (a++b):=by
 induction a with
 |nil=>rfl
 |cons x l ih=>exact congrArg (TL.cons x.1 x.2.1 x.2.2) ih
section
variable {w:Int}{S S':List jn}{D:Dl}{R:List aQ}{X X':Cr}{g g':aa}{L:Nat}
theorem wZ{cz suf:List Tm}{o:Tm}(hp:∀t∈cz,aZ S t)(hf:fnd (TL.of cz) 3=(.nil,false))(hl:cz.length+suf.length<=4000)(ho:Nm w o)(hs:∀t∈suf,aZ S t):
 qH w S (TL.of (cz++T.a01 (TL.of [T.aG 3,o])::suf))/\fI (TL.of (cz++T.a01 (TL.of [T.aG 3,o])::suf))=some o:=by
 have e:fI (TL.of (cz++T.a01 (TL.of [T.aG 3,o])::suf))=some o:=by
  unfold fI
  rw[<-TL.tE,uh hf]
  have e3:fnd (TL.of (T.a01 (TL.of [T.aG 3,o])::suf)) 3=(TL.of [o],true):=by
   show fnd (.cons 3 0 (TL.of (T.aG 3::[o])) _) 3=_
   rw[tc,if_pos rfl]
  rw[e3]
  exact if_pos ⟨rfl,ho.1⟩
 refine⟨⟨GL.of (by simp;omega) fun t ht=> ?_,fun x hx=> ?_⟩,e⟩
 ·rcases List.mem_append.1 ht with ht|ht
  ·exact hp t ht
  ·rcases List.mem_cons.1 ht with rfl|ht
   ·exact aZ.part (l:=[o]) (by simp) fun t ht=>by rw[List.mem_singleton]at ht;subst ht;exact ho.KE
   ·exact hs t ht
 ·rw[e]at hx;cases hx;exact ho.2.1
theorem DX{l:List Int}(h:l.length<=4000):aZ S (T.a01 (TL.app (TL.of [T.aG 1]) (TL.of (l.map T.aG)))):=kp (n:=1) h
theorem Eu{a:Int}{s:Tm}(h:s.cP):aZ S (T.a01 (TL.of [T.aG 2,T.aG a,T.A9 s])):=aZ.part (l:=[T.aG a,T.A9 s]) (by simp) fun t ht=>by
 simp only[List.mem_cons,List.mem_nil_iff,or_false]at ht
 rcases ht with rfl|rfl
 ·exact aZ.aG _
 ·exact aZ.vR (HH h) (.inr (.inr (.inl rfl)))
theorem Fv{l:List Int}{r:List Tm}{k:Int}(h:1≠k):fnd (TL.of (T.a01 (TL.app (TL.of [T.aG 1]) (TL.of (l.map T.aG)))::r)) k=fnd (TL.of r) k:=gD (n:=1) (l:=l.map T.aG) h
theorem zD{cz:List Tm}{l:List Int}{a:Int}{o s mk:Tm}(hp:∀t∈cz,aZ S t)(hf:fnd (TL.of cz) 3=(.nil,false))(hl:cz.length<=100)(hl':l.length<=4000)(ho:Nm w o)(hs:s.cP)(hm:aZ S mk):
 qH w S (TL.of (cz++[T.a01 (TL.app (TL.of [T.aG 1]) (TL.of (l.map T.aG))),T.a01 (TL.of [T.aG 2,T.aG a,T.A9 s]),T.a01 (TL.of [T.aG 3,o]),mk]))/\fI (TL.of (cz++[T.a01 (TL.app (TL.of [T.aG 1]) (TL.of (l.map T.aG))),T.a01 (TL.of [T.aG 2,T.aG a,T.A9 s]),T.a01 (TL.of [T.aG 3,o]),mk]))=some o:=by
 have e:cz++[T.a01 (TL.app (TL.of [T.aG 1]) (TL.of (l.map T.aG))),T.a01 (TL.of [T.aG 2,T.aG a,T.A9 s]),T.a01 (TL.of [T.aG 3,o]),mk]=(cz++[T.a01 (TL.app (TL.of [T.aG 1]) (TL.of (l.map T.aG))),T.a01 (TL.of [T.aG 2,T.aG a,T.A9 s])])++T.a01 (TL.of [T.aG 3,o])::[mk]:=by simp
 rw[e]
 refine wZ (fun t ht=> ?_) ?_ (by simp;omega) ho fun t ht=>by rw[List.mem_singleton]at ht;subst ht;exact hm
 ·rcases List.mem_append.1 ht with ht|ht
  ·exact hp t ht
  ·simp only[List.mem_cons,List.mem_nil_iff,or_false]at ht
   rcases ht with rfl|rfl
   ·exact DX hl'
   ·exact Eu hs
 ·rw[<-TL.tE,uh hf,Fv (by decide),gD (n:=2) (l:=[_,_]) (by decide)];rfl
theorem EM{n v to dm l:Int}{bo:aU}{d o sD F:Tm}(ho:Nm w o)(hF:aZ S F)(hn:kR F=some o)(hd:d.cP)(hs:sD.cP)(h0:0<=n)(s:Sa)
 (e:s=Sa.az (own:=v) (aV:=true) (state:=1) (bM:=l) (a0a:=to) (d:=d) (ours:=o) (first:=F) (eZ:=1) (pending:=a04.az (ax:=1) (body:=F) (to:=to) (sent:=1) (sx:=n+2) (dx:=o) (eE:=sD) (dm:=dm) (box:=bo)) (iQ:=(-1)) (eC:=n) (lV:=n)):pV w S n 0 s:=by
 subst e
 exact{ours:=ho,thn:=⟨Nat.zero_le _,trivial⟩,st:=.inl rfl,key:=fun h=>by exact absurd rfl h,on:=⟨Nat.zero_le _,trivial⟩,Bk:=⟨Nat.zero_le _,trivial⟩,dn:=hd,fn:=hF.1,first:=fun _ x hx=>by
        have hx:kR F=some x:=hx
        rw[hn]at hx;cases hx;exact ho.2.1
       rn:=⟨Nat.zero_le _,trivial⟩,bY:=fun h=>by exact absurd h (by show¬(1:Int)=2;decide),up:=fun h=>by exact absurd h (by show¬(3:Int)<=1;decide),body:=hF,sE:=aZ.zero,Jm:=fun _=>ho,sD:=hs,MD:=⟨Nat.zero_le _,trivial⟩,p1:=fun _=>rfl,p2:=fun h=>by exact absurd h (by show¬(1:Int)=2;decide),p4:=fun _ h=>by exact absurd h (by show¬(1:Int)=4;decide),J6:=fun _=>.inl ⟨rfl,by show n+2<=n+2;omega⟩,eC:=⟨h0,Int.le_refl _⟩}
theorem Di(q:GI w S D R {} g){c:Int}{s:Sa}(hs:pV w S g.bA 0 s)(q3:GI w S D R {} (aa.dj g c))(f:kY s.own w D (aa.dj g c))(e1:s.follows=0)(e2:s.pending.ax=1)(e3:s.pending.gone=[])(hl:g.u4.length<=7):
 GI w S D R {} (aa.bI (aa.dj g c) (g.u4++[s])):=
 q3.OS hs f.no f.lo f.hi e1 (fun x=>by unfold fZ;rw[e2];simp) (by unfold pSa;rw[e2];rfl) (by unfold nj;rw[e2];rfl) hl (by rw[e3];exact Nat.zero_le _)
variable (hL:5000<L)(hM:L<=4611686018427387904)
include hL hM
theorem vf{l:List Int}(hl:l.length<=5000):gM L l=some (TL.of (l.map T.aG)):=by
 unfold gM
 have:Ok (iter (Y:=TL) 238003 (fun r2:(TL×Int)=>
  bif aF r2.2 (l.length:Int)then
   aJ (!(aF r2.2 0))<|
   aJ (Nat.blt (Int.toNat r2.2) l.length)<|
   aJ (room (TL.len (TL.app r2.1 (TL.of [T.aG (l.getD (Int.toNat r2.2) 0)]))) 40)<|
   some (.inl (TL.app r2.1 (TL.of [T.aG (l.getD (Int.toNat r2.2) 0)]),add r2.2 1))
  else
  some (.inr r2.1)) L (TL.nil,0)) fun y=>y=TL.of (l.map T.aG):=by
  refine a0i l.length (fun i s=>s=(TL.of ((l.take i).map T.aG),(i:Int))) (by omega) rfl (fun i s hi hs=> ?_) fun s hs=> ?_
  ·subst hs
   dsimp only
   refine aM (fun _=>ay (by omega) (a03 hi ?_)) fun h=>absurd (by omega) h
   rw[a08,show l.getD i 0=l[i] by simp[List.getD,hi],TL.tE]
   refine bD (cF (by rw[TL.eD];simp;omega)) (ae ?_)
   show(_,_)=(_,_)
   rw[cG i (by omega),List.take_add_one,List.getElem?_eq_getElem hi,List.map_append];rfl
  ·subst hs
   dsimp only
   refine aM (fun h=>by omega) fun _=>ae ?_
   show TL.of ((l.take l.length).map T.aG)=_
   rw[List.take_length]
 obtain⟨y,h1,h2⟩:=this
 rw[h1,h2];rfl
theorem a4w(q:GI w S D R {} g)(b:Bd g)(b2:g.count<=400000){to dm:Int}{bo:aU}:Ok (kg L g to dm bo) fun y=>y.2.2=0->GI w S D R {} y.1/\cA 3 g y.1/\bE S y.2.1:=by
 unfold kg
 have no:∀{n:Int},n≠0->Ok (some (g,([]:List aj),n)) fun y=>y.2.2=0->GI w S D R {} y.1/\cA 3 g y.1/\bE S y.2.1:=fun{n} hn=>ae fun h=>absurd h hn
 have hg:=q.MA
 refine bX (fun _=>no (by decide)) fun hl=>aC (fun _=>no (by decide)) fun _=>a03 hg.1 ?_
 rw[vf hL hM (by omega),q.Nl b,q.AJ b,q.FJ b,q.dZ (k:=g.count+1) (by have:=q.lG;omega) (by omega)]
 refine aD (ae (bD (cF (by rw[TL.tE,TL.eD];simp;omega)) ?_))
 unfold gE
 rw[vF]
 refine aD (ae (aD (ae ?_)))
 rw[iP]
 refine aD (ae (bD (cF (by simp;omega)) (ae fun _=> ?_)))
 have hn:add g.bA 2=g.bA+2:=by have:=q.bA;have:=b.bA;exact fK (by omega) (by omega)
 have ho:Nm w (T.name (add (mul g.av 1048576) (g.count+2))):=q.name b (by omega) (by omega)
 have hs:Nm w (T.name (add (mul g.av 1048576) (g.count+3))):=q.name b (by omega) (by omega)
 rw[hn]
 obtain⟨o,eo⟩:∃o,o=T.name (add (mul g.av 1048576) (g.count+2)):=⟨_,rfl⟩
 obtain⟨sD,ec⟩:∃o,o=T.name (add (mul g.av 1048576) (g.count+3)):=⟨_,rfl⟩
 rw[<-eo]at ho
 rw[<-ec]at hs
 simp only[<-eo,<-ec]
 obtain⟨i1,i2⟩:=zD (S:=S) (cz:=[]) (l:=g.dB) (a:=g.dB.getD 0 0) (mk:=a3W (base w+(g.count+1)) g.bM to) (fun t ht=>by simp at ht) rfl (by simp) (by omega) ho hs.2.2 (aZ.mark _ _ _)
 obtain⟨P,eP⟩:∃P,P=TL.of [T.a01 (TL.app (TL.of [T.aG 1]) (TL.of (g.dB.map T.aG))),T.a01 (TL.of [T.aG 2,T.aG (g.dB.getD 0 0),T.A9 sD]),T.a01 (TL.of [T.aG 3,o]),a3W (base w+(g.count+1)) g.bM to]:=⟨_,rfl⟩
 rw[List.nil_append,<-eP]at i1 i2
 simp only[<-eP]
 obtain⟨hd,ed⟩:∃hd,hd=FF (bW.az (kind:=34) (eV:=base w+(g.count+1)) (aV:=true) (parts:=P)):=⟨_,rfl⟩
 simp only[<-ed]
 obtain⟨F,eF⟩:∃F,F=mH hd P:=⟨_,rfl⟩
 have gF:aZ S F:=by rw[eF];exact aZ.plain i1.1
 have nF:kR F=some o:=by rw[eF];exact i2
 obtain⟨q3,f3⟩:=q.BW
 obtain⟨s,es⟩:∃s,s=Sa.az (own:=base w+(g.count+1)) (aV:=true) (state:=1) (bM:=g.bM) (a0a:=to) (ours:=o) (first:=F) (eZ:=1) (pending:=a04.az (ax:=1) (body:=F) (to:=to) (sent:=1) (sx:=g.bA+2) (dx:=o) (eE:=sD) (dm:=dm) (box:=bo)) (iQ:=(-1)) (eC:=g.bA) (lV:=g.bA):=⟨_,rfl⟩
 have q4:=Di q (s:=s) (EM (d:=(0,0,TL.nil)) ho gF nF ⟨Nat.zero_le _,trivial⟩ hs.2.2 q.bA s es) q3 (by rw[es];exact f3) (by rw[es];rfl) (by rw[es];rfl) (by rw[es];rfl) (by have:(g.u4.length:Int)<8:=hl;omega)
 refine⟨q4.cs (by rw[es,eF];rfl),⟨rfl,by show g.count<=g.count+3;omega,by show g.count+3<=g.count+3;omega⟩,?_⟩
 rw[eF]at gF
 exact bE.one gF
end
section
variable {w:Int}{S S':List jn}{D:Dl}{R:List aQ}{X X':Cr}{g g':aa}{L:Nat}
theorem IJ:Tm.cP (0,0,TL.nil):=⟨Nat.zero_le _,trivial⟩
theorem Ky{l:TL}{n:Int}(h:GL S l):(fnd l n).1.len<=5000:=(jW h).1
variable (hL:5000<L)(hM:L<=4611686018427387904)
include hL hM
theorem rF{l:TL}(h:GL S l):Ok (fW L l) fun y=>y.2.1.cP:=by
 unfold fW
 rw[fH hL hM h.1]
 refine aD (ae ?_)
 have hf:=(jW (n:=2) h).get 1
 (repeat' with_reducible first|refine bX (fun _=> ?_) (fun _=> ?_)|refine aM (fun _=> ?_) (fun _=> ?_)|refine aP (fun _=> ?_) (fun _=> ?_)|refine aC (fun _=> ?_) (fun _=> ?_)|refine ay (by omega) ?_|refine a03 (by omega) ?_|refine eK (by omega) ?_|refine a0r (by omega) ?_|refine ok_glt (by omega) ?_|refine bn (fun _=> ?_) (fun _=> ?_)|refine bJ (fun _=> ?_) (fun _=> ?_))
 all_goals first|exact ae IJ|exact ae hf.1|skip
theorem LZ{m:bW}(hp:GL S m.parts):Ok (oy L m) fun y=>y.2=true->y.1.parts=m.parts/\y.1.a2q.length<=5000/\fI m.parts=some y.1.dx/\y.1.a3g.cP/\GL S y.1.nX:=by
 unfold oy
 have no:∀r:aT,Ok (some (r,false)) fun y=>y.2=true->y.1.parts=m.parts/\y.1.a2q.length<=5000/\fI m.parts=some y.1.dx/\y.1.a3g.cP/\GL S y.1.nX:=fun r=>ae fun h=>by cases h
 refine bn (fun _=>no _) fun _=>aP (fun _=>no _) fun _=>aP (fun _=>no _) fun _=>bX (fun _=>no _) fun _=> ?_
 rw[fH hL hM hp.1]
 refine aD (ae ?_)
 have hl:=Ky (n:=1) hp
 refine Ok.bind (P:=Sum.elim (fun y:aT×aT=>y.2.parts=m.parts/\y.2.a2q.length<=5000) fun y:Bool×aT=>y.1=false) ?_ fun y hy=> ?_
 ·refine a0i (fnd m.parts 1).1.len (fun i s=>s.1=(i:Int)/\s.2.2.parts=m.parts/\s.2.2.a2q.length=i) (by omega) ⟨rfl,rfl,rfl⟩ (fun i s hi hs=> ?_) fun s hs=> ?_
  ·obtain⟨a,b,c⟩:=s
   obtain⟨rfl,h1,h2⟩:=hs
   dsimp only at*
   refine aM (fun _=>ay (by omega) (a03 hi (aP (fun _=>ae rfl) fun _=>bD (cF (by rw[List.length_append];show(_+1)*8<=_;omega)) (ae ⟨cG i (by omega),h1,?_⟩)))) fun h=>absurd (by omega) h
   show(c.a2q++[_]).length=i+1
   rw[List.length_append,h2];rfl
  ·obtain⟨a,b,c⟩:=s
   obtain⟨rfl,h1,h2⟩:=hs
   dsimp only at*
   exact aM (fun h=>by omega) fun _=>ae ⟨h1,by show c.a2q.length<=5000;omega⟩
 ·cases y with
  |inr z=>
   obtain⟨b,r⟩:=z
   obtain rfl:b=false:=hy
   exact no _
  |inl z=>
   obtain⟨h1,h2⟩:=hy
   refine(rF hL hM hp).bind fun y5 h5=> ?_
   obtain⟨t,e1,e2⟩:=mD hL hM hp.1
   rw[e1,fH hL hM hp.1]
   refine aD (ae (aD (ae (bJ (fun _=>bJ (fun _=>ae fun h=>⟨h1,h2,e2 h,h5,jW hp⟩) fun _=>no _) fun _=>no _))))
theorem Gj{d:aj}{a:fk}(h:GL S a.body){P:aa->Prop}(hg:P a.g):Ok (nZ L g d a) fun y=>P y.1/\bE S y.2:=by
 unfold nZ
 have hl:=h.1
 refine Ok.bind (P:=fun y:List aj=>bE S y) ?_ fun y hy=>ae ⟨hg,hy⟩
 refine a0i a.body.len (fun i s=>s.2=(i:Int)/\s.1.length=i/\bE S s.1) (by omega) ⟨rfl,rfl,bE.nil⟩ (fun i s hi hs=> ?_) fun s hs=> ?_
 ·obtain⟨o,j⟩:=s
  obtain⟨rfl,h1,h2⟩:=hs
  dsimp only at*
  refine aM (fun _=>ay (by omega) (a03 hi (bD (cF (by rw[List.length_append];show(_+1)*56<=_;omega)) (ae ⟨cG i (by omega),?_,h2.app (bE.one (h.get _)) (by show o.length+1<=6000;omega)⟩)))) fun h=>absurd (by omega) h
  show(o++[_]).length=i+1
  rw[List.length_append,h1];rfl
 ·obtain⟨o,j⟩:=s
  obtain⟨rfl,h1,h2⟩:=hs
  dsimp only at*
  exact aM (fun h=>by omega) fun _=>ae h2
theorem Oi{d:aj}{o:Option (fk×Bool)}{k:Option (aa×List aj)}{P:aa->Prop}(ho:Ok o fun y=>y.2=true->P y.1.g/\GL S y.1.body)(hk:Ok k fun y=>P y.1/\bE S y.2):Ok (ga L g d o k) fun y=>P y.1/\bE S y.2:=by
 unfold ga
 exact ho.bind fun y hy=>bn (fun _=>hk) fun e=>Gj hL hM (hy e).2 (hy e).1
omit hL hM in
theorem GL.one{t:Tm}(h:aZ S t):GL S (TL.of [t]):=GL.of (by simp) fun x hx=>by rw[List.mem_singleton]at hx;subst hx;exact h
omit hL hM in
theorem oQ{r:aT}{l:TL}{P:aa->Prop}(h:GL S l)(hg:P g):Ok (dX L g r l) fun y=>y.2=true->P y.1.g/\GL S y.1.body:=by
 unfold dX
 rw[iP]
 exact aD (ae (ae fun _=>⟨hg,GL.one (aZ.plain (h:=FF _) h)⟩))
theorem JW(q:GI w S D R X g){r:aT}(h:r.a2q.length<=5000):Ok (lS L g r) fun _=>True:=by
 unfold lS
 have hg:=q.MA
 refine Ok.bind (P:=Sum.elim (fun _=>True) fun y:Int=>∃i:Nat,y=(i:Int)/\i<g.dB.length) ?_ fun y hy=> ?_
 ·refine fq g.dB.length (fun _=>True) (by omega) trivial (fun i hi _=> ?_) fun _=> ?_
  ·have hs:add (i:Int) 1=((i+1:Nat):Int):=cG i (by omega)
   refine aM (fun _=>ay (by omega) (a03 hi ?_)) fun h=>absurd (by omega) h
   refine((a2Z (p:=fun x:Int=>aH (g.dB.getD i 0) x) (l:=r.a2q) (by omega) hM).mono fun _ _=>trivial:Ok _ fun _=>True).bind fun y _=> ?_
   cases y with
   |inl _=>exact ae ⟨hs,trivial⟩
   |inr z=>exact bX (fun _=>ae ⟨i,rfl,hi⟩) fun _=>ae ⟨hs,trivial⟩
  ·exact aM (fun h=>absurd h (by omega)) fun _=>ae trivial
 ·cases y with
  |inl _=>exact ae trivial
  |inr z=>
   obtain⟨i,rfl,hi⟩:=hy
   exact aM (fun _=>ae trivial) fun _=>ay (by omega) (a03 hi (ae trivial))
omit hL hM in
theorem xI(q:GI w S D R {} g){h:bN}(hh:xz w S g.bA h)(hf:kY h.own w D g):Ok (pe L g h) fun y=>GI w S D R {} y.1/\cA 0 g y.1:=by
 unfold pe
 have hn:=q.nh
 refine bX (fun _=>ae ⟨q,cA.rfl⟩) fun hl=>bD (cF (by rw[List.length_append];show(_+1)*320<=_;omega)) (ae ⟨q.MK hh hf.no hf.lo hf.hi (by omega),cA.rfl⟩)
theorem F8(q:GI w S D R {} g)(b:Bd g)(b2:g.count<=400000){d:aj}(hd:aZ S d.body){r:aT}(hp:GL S r.parts)(hn:fI r.parts=some r.dx)(hm:kR d.body=some r.dx)(hpub:r.a3g.cP):
 Ok (jL L g d r) fun y=>y.2=true->(GI w S D R {} y.1.g/\cA 3 g y.1.g)/\GL S y.1.body:=by
 unfold jL
 have hth:=(mF hp hn).1.1
 have ho:Nm w (T.name (add (mul g.av 1048576) (g.count+2))):=q.name b (by omega) (by omega)
 have hs:Nm w (T.name (add (mul g.av 1048576) (g.count+3))):=q.name b (by omega) (by omega)
 rw[q.Nl b,q.AJ b,q.FJ b,q.dZ (k:=g.count+1) (by have:=q.lG;omega) (by omega)]
 obtain⟨o,eo⟩:∃o,o=T.name (add (mul g.av 1048576) (g.count+2)):=⟨_,rfl⟩
 obtain⟨sD,ec⟩:∃o,o=T.name (add (mul g.av 1048576) (g.count+3)):=⟨_,rfl⟩
 rw[<-eo]at ho
 rw[<-ec]at hs
 simp only[<-eo,<-ec]
 unfold lT eM gE
 refine aD ((vz hL hM hpub hs.2.2).bind fun sh hsh=>ae (aD (ae ?_)))
 rw[vf hL hM (by simp),vF]
 refine aD (ae (bD (cF (by rw[TL.tE,TL.eD];simp)) (aD (ae (aD (ae ?_))))))
 rw[iP]
 refine aD (ae ((a3Y hL hM hp).bind fun bh _=> ?_))
 obtain⟨i1,i2⟩:=zD (S:=S) (cz:=[]) (l:=[r.kf]) (a:=r.kf) (mk:=a3W r.dZ g.bM d.cq) (fun t ht=>by simp at ht) rfl (by simp) (by simp) ho hs.2.2 (aZ.mark _ _ _)
 obtain⟨P,eP⟩:∃P,P=TL.of [T.a01 (TL.app (TL.of [T.aG 1]) (TL.of ([r.kf].map T.aG))),T.a01 (TL.of [T.aG 2,T.aG r.kf,T.A9 sD]),T.a01 (TL.of [T.aG 3,o]),a3W r.dZ g.bM d.cq]:=⟨_,rfl⟩
 rw[List.nil_append,<-eP]at i1 i2
 simp only[<-eP]
 obtain⟨hd',ed⟩:∃hd,hd=FF (bW.az (kind:=34) (eV:=r.dZ) (ia:=base w+(g.count+1)) (bY:=true) (parts:=P)):=⟨_,rfl⟩
 simp only[<-ed]
 obtain⟨F,eF⟩:∃F,F=mH hd' P:=⟨_,rfl⟩
 have gF:aZ S F:=by rw[eF];exact aZ.plain i1.1
 have nF:kR F=some o:=by rw[eF];exact i2
 obtain⟨q3,f3⟩:=q.BW
 have hseed:Tm.cP (T.derive 1 (TL.of [r.dx,o,sh.1])):=⟨by show 3<=5000;decide,hth.1,hth.2,ho.2.2.1,ho.2.2.2,hsh.1,hsh.2,trivial⟩
 have hkey:∀n:Int,Tm.cP (T.derive n (TL.of [T.derive 1 (TL.of [r.dx,o,sh.1]),T.aG r.dZ,T.aG (base w+(g.count+1))])):=fun n=>⟨by show 3<=5000;decide,hseed.1,hseed.2,Nat.zero_le _,trivial,Nat.zero_le _,trivial,trivial⟩
 obtain⟨h,eh⟩:∃h,h=bN.az (own:=base w+(g.count+1)) (fg:=r.dZ) (cq:=d.cq) (first:=d.body) (bY:=F) (ours:=o) (bO:=r.dx) (d:=T.derive 2 (TL.of [T.derive 1 (TL.of [r.dx,o,sh.1]),T.aG r.dZ,T.aG (base w+(g.count+1))])) (out:=T.derive 4 (TL.of [T.derive 1 (TL.of [r.dx,o,sh.1]),T.aG r.dZ,T.aG (base w+(g.count+1))])) (eI:=T.derive 3 (TL.of [T.derive 1 (TL.of [r.dx,o,sh.1]),T.aG r.dZ,T.aG (base w+(g.count+1))])) (born:=g.bA) (dK:=bh):=⟨_,rfl⟩
 have hh:xz w S g.bA h:=by
  rw[eh]
  exact{ours:=ho,key:=⟨⟨rfl,.inr rfl⟩,⟨rfl,.inl rfl⟩,rfl,rfl⟩,on:=hkey 4,Bk:=hkey 3,dn:=hkey 2,d6:=rfl,thn:=hth,fn:=hd.1,first:=hm,bY:=gF,rn:=fun x hx=>by
         have hx:kR F=some x:=hx
         rw[nF]at hx;cases hx;exact ho.2.1
        born:=⟨q.bA,Int.le_refl _⟩}
 have step:=xI (L:=L) q3 hh (by rw[eh];exact f3)
 rw[eh,eF]at step
 refine step.bind fun y ⟨c1,c2⟩=>ae fun _=>⟨⟨c1,⟨c2.1,?_,?_⟩⟩,GL.one (by rw[eF]at gF;exact gF)⟩
 ·have c:g.count+3<=y.1.count:=c2.2.1;show g.count<=y.1.count;omega
 ·have c:y.1.count<=g.count+3+0:=c2.2.2;show y.1.count<=g.count+3;omega
theorem AK(q:GI w S D R {} g)(b:Bd g)(b2:g.count<=400000){d:aj}(hd:aZ S d.body){m:bW}(hp:GL S m.parts)(hm:fI m.parts=kR d.body):
 Ok (kF L g d m) fun y=>(GI w S D R {} y.1/\cA 3 g y.1)/\bE S y.2:=by
 unfold kF
 have q0:GI w S D R {} g/\cA 3 g g:=⟨q,cA.rfl.le (by decide)⟩
 refine(LZ hL hM hp).bind fun y4 h4=>bn (fun _=>ae ⟨q0,bE.nil⟩) fun e4=> ?_
 obtain⟨r1,r2,r3,r4,r5⟩:=h4 e4
 obtain⟨r,c⟩:=y4
 dsimp only at r1 r2 r3 r4 r5⊢
 have rl:∀{o:Option (fk×Bool)} {k:Option (aa×List aj)},Ok o (fun y=>y.2=true->(GI w S D R {} y.1.g/\cA 3 g y.1.g)/\GL S y.1.body)->Ok k (fun y=>(GI w S D R {} y.1/\cA 3 g y.1)/\bE S y.2)->Ok (ga L g d o k) fun y=>(GI w S D R {} y.1/\cA 3 g y.1)/\bE S y.2:=fun h1 h2=>Oi hL hM (P:=fun g'=>GI w S D R {} g'/\cA 3 g g') h1 h2
 refine rl ?_ (rl ?_ (rl ?_ (rl ?_ (rl ?_ (rl ?_ (ae ⟨q0,bE.nil⟩))))))
 ·unfold qA
  exact(Da hL hM q).bind fun y h=>ae fun e=>⟨q0,GL.one (q.aW _ (h e)).bY⟩
 ·unfold kP
  refine aC (fun _=>ae fun h=>by cases h) fun _=>aD ((oQ (S:=S) (P:=fun g'=>GI w S D R {} g'/\cA 3 g g') (GL.one (aZ.part (n:=6) (l:=[T.aG g.pH,r.dx]) (by simp) fun t ht=> ?_)) q0).mono fun y hy=>ae hy)
  simp only[List.mem_cons,List.mem_nil_iff,or_false]at ht
  rcases ht with rfl|rfl
  ·exact aZ.aG _
  ·exact(mF hp r3).1
 ·unfold pA sO a3N
  have hck:∀k:Tm,k.cP->k.1=6->Ok (dX L g r (TL.of [T.a01 (TL.of [T.aG 4,k])])) fun y=>y.2=true->(GI w S D R {} y.1.g/\cA 3 g y.1.g)/\GL S y.1.body:=fun k h6 e=>oQ (P:=fun g'=>GI w S D R {} g'/\cA 3 g g') (GL.one (aZ.part (n:=4) (l:=[k]) (by simp) fun t ht=>by rw[List.mem_singleton]at ht;subst ht;exact aZ.vR h6 (.inr (.inr (.inr (.inr (.inl e))))))) q0
  have hnon:=(mF hp r3).1.1
  have hkn:Tm.cP (T.derive 7 (TL.of [g.guard,T.aG r.dZ,T.aG d.cq,r.dx])):=⟨by show 4<=5000;decide,q.gn.1,q.gn.2,Nat.zero_le _,trivial,Nat.zero_le _,trivial,hnon.1,hnon.2,trivial⟩
  refine aD (ae (aD (ae (bn (fun _=>ae fun h=>by cases h) fun _=>aC (fun h1=>a03 (by omega) ?_) fun _=>aD ((hck _ hkn rfl).mono fun y hy=>ae hy)))))
  exact a2P hL hM (r5.get 0).1 (aC (fun _=>ae fun h=>by cases h) fun _=>aD ((hck _ hkn rfl).mono fun y hy=>ae hy))
 ·unfold o5
  refine(JW hL hM q r2).bind fun y _=>bn (fun _=> ?_) fun _=>aP (fun _=> ?_) fun _=>ae fun h=>by cases h
  ·exact aD ((oQ (P:=fun g'=>GI w S D R {} g'/\cA 3 g g') (zo (n:=14)) q0).mono fun y hy=>ae hy)
  ·exact aD ((oQ (P:=fun g'=>GI w S D R {} g'/\cA 3 g g') (GL.one (kp (n:=5) (l:=[y.1]) (by simp))) q0).mono fun y hy=>ae hy)
 ·unfold rI
  exact ae fun _=>⟨q0,GL.nil⟩
 ·exact F8 hL hM q b b2 hd (by rw[r1];exact hp) (by rw[r1];exact r3) (by rw[<-hm];exact r3) r4
end
def AV(g:aa)(x:Int):Prop:=∃(i:Nat) (s:Sa),g.u4[i]?=some s/\s.own=x/\s.state=1/\(Jl s.out/\Jl s.eI/\a4n s.out=s.ours/\a4n s.eI=s.bO)/\kR s.bY=some s.bO
section
variable {w:Int}{S S':List jn}{D:Dl}{R:List aQ}{X X':Cr}{g g':aa}{L:Nat}
theorem GI.PU(q:GI w S D R X g):GI w S D R X (aa.dj g g.count):=q.same rfl rfl rfl rfl rfl rfl rfl rfl rfl rfl rfl rfl
theorem GI.Ta(q:GI w S D R {} g){i:Nat}{s s':Sa}(hi:g.u4[i]?=some s)(h1:s.state=1)(k0:pV w S g.bA 0 s')(k1:s'.own=s.own)(k2:s'.follows=s.follows)(k3:s'.pending.ax=1)(k4:s'.state=1)(k5:s'.pending.gone=s.pending.gone):GI w S D R {} (aa.bI g (g.u4.set i s')):=by
 refine q.pM hi rfl k0 k1 k2 (fun y=>.inl ?_) (.inl ?_) (.inl ?_) (Nat.le_of_eq ?_) (Nat.le_of_eq ?_) (.inl rfl) (by rw[k5];exact q.gone s (bC hi))
 ·unfold fZ;rw[k3,if_neg (by omega)];exact Nat.zero_le _
 ·have:pSa s'=0:=by unfold pSa;rw[k3];rfl
  omega
 ·have:nj s'=0:=by unfold nj;rw[k3];rfl
  omega
 ·unfold iR;rw[k4,h1]
 ·unfold lone;rw[k4,h1]
variable (hL:5000<L)(hM:L<=4611686018427387904)
include hL hM
omit hL hM in
theorem W6(q:GI w S D R {} g)(b:Bd g){n:Int}(q':GI w S D R {} (aa.dj g n))(hn:g.count<=n)(hn':n<=g.count+1){i:Nat}{s:Sa}(hi:g.u4[i]?=some s)(h1:s.state=1)(hp:s.pending.ax=1){a:gh}{sD F:Tm}(hs:sD.cP)(gF:aZ S F)(nF:∀x,kR F=some x->own x=w):
 Ok (tg g n i s a sD F) fun y=>GI w S D R {} y.1/\cA 1 g y.1/\bE S y.2.1/\y.2.1.length<=1/\y.2.2=0:=by
 unfold tg
 have hd:add g.bA 2=g.bA+2:=by have:=q.bA;have:=b.bA;exact fK (by omega) (by omega)
 rw[hd,a08]
 have hq:=q.u4 s (bC hi)
 obtain⟨p',hp'⟩:∃p',p'=a04.bw s.pending (body:=F) (to:=a.a0a) (sent:=1) (sx:=g.bA+2) (eE:=sD):=⟨_,rfl⟩
 have c1:p'.ax=1:=by rw[hp'];exact hp
 have c3:p'.gone=s.pending.gone:=by rw[hp'];rfl
 have c4:p'.body=F:=by rw[hp'];rfl
 have c6:p'.eE=sD:=by rw[hp'];rfl
 have c7:p'.probe=s.pending.probe:=by rw[hp'];rfl
 have c8:p'.sent=1:=by rw[hp'];rfl
 have c9:p'.sx=g.bA+2:=by rw[hp'];rfl
 obtain⟨s',es⟩:∃s',s'=Sa.bw s (a0a:=a.a0a) (first:=F) (pending:=p') (sK:=add s.sK 1):=⟨_,rfl⟩
 have k0:pV w S g.bA 0 s':=by
  rw[es]
  exact{hq with
   fn:=gF.1
   first:=fun _=>nF
   body:=by show aZ S p'.body;rw[c4];exact gF
   Jm:=fun h=>by have h:p'.ax=3∨p'.ax=4∨p'.ax=5:=h;omega
   sD:=by show p'.eE.cP;rw[c6];exact hs
   MD:=by show p'.probe.cP;rw[c7];exact hq.MD
   p1:=fun _=>c1
   p2:=fun h=>by have h:s.state=2:=h;omega
   p4:=fun _ h=>by have h:s.state=4:=h;omega
   J6:=fun _=>.inl ⟨c8,by show p'.sx<=_;omega⟩}
 have q2:=q'.Ta (s':=s') hi h1 k0 (by rw[es];rfl) (by rw[es];rfl) (by rw[es];exact c1) (by rw[es];exact h1) (by rw[es];exact c3)
 exact ae ⟨q2.cs (by rw[es,hp'];rfl),⟨rfl,hn,hn'⟩,bE.one gF,Nat.le_refl 1,rfl⟩
theorem GX(q:GI w S D R {} g)(b:Bd g){n:Int}(q':GI w S D R {} (aa.dj g n))(hn:g.count<=n)(hn':n<=g.count+1){i:Nat}{s:Sa}(hi:g.u4[i]?=some s)(h1:s.state=1)(hp:s.pending.ax=1){a:gh}{sD:Tm}(hs:sD.cP)(ha:a.qY=.nil∨∃t,a.qY=TL.of [t]/\aZ S t):
 Ok (mY L g n i s a sD) fun y=>GI w S D R {} y.1/\cA 1 g y.1/\bE S y.2.1/\y.2.1.length<=1/\y.2.2=0:=by
 have hg:=q.MA
 have key:∀cz:List Tm,(∀t∈cz,aZ S t)->fnd (TL.of cz) 3=(.nil,false)->cz.length<=100->Ok (oz L g n i s a sD cz) fun y=>GI w S D R {} y.1/\cA 1 g y.1/\bE S y.2.1/\y.2.1.length<=1/\y.2.2=0:=by
  intro cz k1 k2 k3
  unfold oz
  rw[vf hL hM (by omega)]
  refine aD (ae (bD (cF (by rw[TL.tE,TL.eD];simp;omega)) ?_))
  unfold gE
  rw[vF]
  refine aD (ae (aD (ae ?_)))
  rw[iP]
  refine aD (ae (ay (by omega) (a03 (bL hi) ?_)))
  obtain⟨i1,i2⟩:=zD (S:=S) (cz:=cz) (l:=g.dB) (a:=a.kf) (mk:=a3W s.own s.bM a.a0a) k1 k2 k3 (by omega) (q.u4 s (bC hi)).ours hs (aZ.mark _ _ _)
  refine W6 q b q' hn hn' hi h1 hp hs (aZ.plain (h:=FF _) i1.1) fun x hx=>i1.2 x hx
 unfold mY
 refine aM (fun h=> ?_) fun _=>key [] (fun t ht=>by simp at ht) rfl (by simp)
 rcases ha with e|⟨t,e,gt⟩
 ·rw[e]at h;exact absurd h (by show¬((0:Nat):Int)>0;decide)
 ·rw[e]
  refine bD (cF (by rw[TL.tE,TL.eD];simp)) (key _ (fun x hx=> ?_) ?_ (by simp))
  ·rw[List.mem_singleton]at hx;subst hx
   exact aZ.part (n:=4) (l:=[t]) (by simp) fun y hy=>by rw[List.mem_singleton]at hy;subst hy;exact gt
  ·exact gD (n:=4) (l:=[t]) (r:=[]) (by decide)
theorem MN(q:GI w S D R X g){s:Sa}{n:Int}{l:TL}(h:GL S l):Ok (ox L g s n l) fun y=>y.1.qY=.nil∨∃t,y.1.qY=TL.of [t]/\aZ S t:=by
 have hB:Ok (j4 L s n l) fun y=>y.1.qY=.nil∨∃t,y.1.qY=TL.of [t]/\aZ S t:=by
  unfold j4
  rw[fH hL hM h.1]
  refine aD (ae ?_)
  refine aC (fun _=>a03 (by omega) (aC (fun _=>a03 (by omega) ?_) fun _=>ae (.inl rfl))) fun _=>ae (.inl rfl)
  exact a2P hL hM ((jW h).get 1).1 (aC (fun _=>a03 (by omega) (ae (.inl rfl))) fun _=>ae (.inl rfl))
 unfold ox
 rw[G6 hL hM h.1,lF hL hM h.1]
 refine aD (ae (bJ (fun e=>ae (.inr ⟨_,rfl,?_⟩)) fun _=>aD (ae (bJ (fun _=>aP (fun _=> ?_) fun _=>hB) fun _=>hB))))
 ·split
  ·exact(jW h).get 0
  ·exact aZ.zero
 ·have hg:=q.MA
  refine((a2Z (p:=fun x:Int=>aH (Ja l 5).1 x) (l:=g.dB) (by omega) hM).mono fun _ _=>trivial:Ok _ fun _=>True).bind fun y _=> ?_
  cases y with
  |inl _=>exact hB
  |inr z=>exact bX (fun _=>ae (.inl rfl)) fun _=>hB
theorem xA{t:Tm}(h:aZ S t):Ok (fJ L t) fun y=>GL S y.1.parts:=by
 unfold fJ
 (repeat' with_reducible first|refine bX (fun _=> ?_) (fun _=> ?_)|refine aM (fun _=> ?_) (fun _=> ?_)|refine aP (fun _=> ?_) (fun _=> ?_)|refine aC (fun _=> ?_) (fun _=> ?_)|refine ay (by omega) ?_|refine a03 (by omega) ?_|refine eK (by omega) ?_|refine a0r (by omega) ?_|refine ok_glt (by omega) ?_|refine bn (fun _=> ?_) (fun _=> ?_)|refine bJ (fun _=> ?_) (fun _=> ?_))
 all_goals first|exact ae GL.nil|(exfalso;omega)|skip
 refine(A5 hL hM (TL.a2C h.1.2 5)).bind fun y hy=> ?_
 have hg:aZ S (t.args.get 5):=(h.args (.inl (by assumption))).get 5
 (repeat' with_reducible first|refine bX (fun _=> ?_) (fun _=> ?_)|refine aM (fun _=> ?_) (fun _=> ?_)|refine aP (fun _=> ?_) (fun _=> ?_)|refine aC (fun _=> ?_) (fun _=> ?_)|refine ay (by omega) ?_|refine a03 (by omega) ?_|refine eK (by omega) ?_|refine a0r (by omega) ?_|refine ok_glt (by omega) ?_|refine bn (fun _=> ?_) (fun _=> ?_)|refine bJ (fun _=> ?_) (fun _=> ?_))
 ·rename_i e
  obtain⟨h1,h2⟩:=hy e
  refine ae ?_
  show GL S y.1
  rw[h1];exact hg.args (.inl h2)
 all_goals exact ae GL.nil
theorem E2(q:GI w S D R {} g)(b:Bd g)(b2:g.count<=400000){d:aj}(hd:aZ S d.body){m:bW}(hp:GL S m.parts)(hm:fI m.parts=kR d.body):
 Ok (mX L g d m) fun y=>GI w S D R {} y.1/\cA 1 g y.1/\bE S y.2.1/\y.2.1.length<=1/\(y.2.2≠0->AV y.1 y.2.2):=by
 unfold mX
 have no:Ok (some (g,([]:List aj),(0:Int))) fun y=>GI w S D R {} y.1/\cA 1 g y.1/\bE S y.2.1/\y.2.1.length<=1/\(y.2.2≠0->AV y.1 y.2.2):=ae ⟨q,cA.rfl.le (by decide),bE.nil,Nat.zero_le _,fun h=>absurd rfl h⟩
 refine(q.at_ hL hM).bind fun y hy=> ?_
 rcases hy with⟨rfl,_⟩|⟨i,s,rfl,hi,he⟩
 ·exact aM (fun _=>no) fun h=>absurd (by decide:(-1:Int)<0) h
 refine aM (fun _=>no) fun _=>bJ (fun _=>no) fun _=>aP (fun _=>no) fun _=>ay (by omega) (a03 (bL hi) ?_)
 rw[a08,bB hi]
 unfold td
 have hs:=q.u4 s (bC hi)
 refine bn (fun _=>no) fun _=>aP (fun _=>no) fun h1=>aP (fun _=>no) fun hpp=> ?_
 refine(xA hL hM hs.body).bind fun y5 h5=>(rF hL hM h5).bind fun y6 _=>aP (fun _=>no) fun _=> ?_
 refine(MN hL hM q hp).bind fun y7 h7=>bJ (fun _=>bX (fun _=>no) fun _=>bJ (fun _=> ?_) fun _=> ?_) fun _=> ?_
 ·rw[q.FJ b]
  obtain⟨q1,_⟩:=q.sP (n:=g.count+1) rfl
  exact(GX hL hM q b q1 (by omega) (by omega) hi h1 hpp (q.name b (k:=g.count+1) (by omega) (by omega)).2.2 h7).mono fun y ⟨c1,c2,c3,c5,c4⟩=>⟨c1,c2,c3,c5,fun h=>absurd c4 h⟩
 ·exact(GX hL hM q b q.PU (by omega) (by omega) hi h1 hpp hs.sD h7).mono fun y ⟨c1,c2,c3,c5,c4⟩=>⟨c1,c2,c3,c5,fun h=>absurd c4 h⟩
 ·unfold tf
  rw[lF hL hM hp.1]
  obtain⟨t,e1,e2⟩:=mD hL hM hp.1
  refine aD (ae ((rF hL hM hp).bind fun y9 h9=> ?_))
  rw[e1]
  refine aD (ae (bX (fun _=>no) fun _=>bn (fun _=>no) fun _=>aP (fun _=>no) fun _=>bn (fun _=>no) fun _=>aP (fun _=>no) fun _=>bn (fun _=>no) fun e=> ?_))
  have hn:=e2 e
  have gt:=mF hp hn
  refine a2P hL hM gt.1.1 (aC (fun _=>no) fun _=>(a3Y hL hM hp).bind fun bh _=> ?_)
  unfold lT eM
  refine aD ((vz hL hM h9 hs.sD).bind fun sh hsh=>ae (aD (ae (ay (by omega) (a03 (bL hi) ?_)))))
  have hth:=gt.1.1
  have hseed:Tm.cP (T.derive 1 (TL.of [s.ours,t,sh.1])):=⟨by show 3<=5000;decide,hs.ours.2.2.1,hs.ours.2.2.2,hth.1,hth.2,hsh.1,hsh.2,trivial⟩
  have hkey:∀n:Int,Tm.cP (T.derive n (TL.of [T.derive 1 (TL.of [s.ours,t,sh.1]),T.aG m.eV,T.aG m.ia])):=fun n=>⟨by show 3<=5000;decide,hseed.1,hseed.2,Nat.zero_le _,trivial,Nat.zero_le _,trivial,trivial⟩
  rw[a08]
  obtain⟨s',es⟩:∃s',s'=Sa.bw s (fg:=m.ia) (d:=T.derive 2 (TL.of [T.derive 1 (TL.of [s.ours,t,sh.1]),T.aG m.eV,T.aG m.ia])) (out:=T.derive 3 (TL.of [T.derive 1 (TL.of [s.ours,t,sh.1]),T.aG m.eV,T.aG m.ia])) (eI:=T.derive 4 (TL.of [T.derive 1 (TL.of [s.ours,t,sh.1]),T.aG m.eV,T.aG m.ia])) (bO:=t) (bY:=d.body) (dK:=bh):=⟨_,rfl⟩
  have k0:pV w S g.bA 0 s':=by
   rw[es]
   exact{hs with thn:=hth,key:=fun _=>⟨⟨rfl,.inl rfl⟩,⟨rfl,.inr rfl⟩,rfl,rfl⟩,on:=hkey 3,Bk:=hkey 4,dn:=hkey 2,rn:=hd.1,bY:=fun h=>by have h:s.state=2:=h;omega,up:=fun h=>by have h:3<=s.state:=h;omega}
  have q2:=q.Ta (s':=s') hi h1 k0 (by rw[es];rfl) (by rw[es];rfl) (by rw[es];exact hpp) (by rw[es];exact h1) (by rw[es];rfl)
  rw[<-es]
  refine ae ⟨q2,cA.rfl.le (by decide),bE.nil,Nat.zero_le _,fun _=>⟨i,s',List.getElem?_set_self (bL hi),by rw[es];rfl,by rw[es];exact h1,?_,?_⟩⟩
  ·rw[es];exact⟨⟨rfl,.inl rfl⟩,⟨rfl,.inr rfl⟩,rfl,rfl⟩
  ·rw[es];show kR d.body=some t;rw[<-hm];exact hn
theorem Dm(q:GI w S D R {} g)(hR:dQ R)(b:Bd g)(b2:g.count<=400000){x:Int}(hr:AV g x):Ok (jo L g x) fun y=>GI w S D R {} y.1/\cA 1 g y.1/\bE S y.2:=by
 obtain⟨i,s,hi,rfl,h1,hk,hrep⟩:=hr
 unfold jo
 rw[q.AI hL hM hi]
 refine aD (ae (aM (fun h=>by omega) fun _=>ay (by omega) (a03 (bL hi) ?_)))
 have hq:=q.u4 s (bC hi)
 simp only[a08,bB hi]
 rw[q.FJ b,q.dZ (k:=g.count+1) (by have:=q.lG;omega) (by omega),q.id]
 unfold jq
 obtain⟨q1,f1⟩:=q.sP (n:=g.count+1) rfl
 refine aD (ae ((a36 (g:=aa.dj g (g.count+1)) hR q.dh).bind fun y5 h5=>(mw hL hM h5).bind fun y6 ⟨l,hl1,hl2⟩=> ?_))
 have hd:add g.bA 2=g.bA+2:=by have:=q.bA;have:=b.bA;exact fK (by omega) (by omega)
 rw[hd,iP]
 refine aD (ae (aD (ae ?_)))
 obtain⟨o1,o2,o3,o4⟩:=tG (S:=S) (a:=base w+(g.count+1)) hl1 hl2
 have gsg:aZ S (T.EI w (T.a01 (TL.of [s.first,s.bO,T.aG w]))):=EH hq.fn hq.thn (hq.first (by omega))
 obtain⟨sg,esg⟩:∃sg,sg=T.EI w (T.a01 (TL.of [s.first,s.bO,T.aG w])):=⟨_,rfl⟩
 rw[<-esg]at gsg
 simp only[<-esg]
 obtain⟨P,eP⟩:∃P,P=TL.app (TL.set (TL.app (TL.set (TL.of [(0,0,TL.nil)]) 0 (T.a01 (TL.of [T.aG 8,T.aG w]))) (TL.of [(0,0,TL.nil)])) (TL.len (TL.set (TL.of [(0,0,TL.nil)]) 0 (T.a01 (TL.of [T.aG 8,T.aG w])))) (T.a01 (TL.of [T.aG 9,sg]))) (TL.of [T.a01 (TL.of [T.aG 10,T.aG (base w+(g.count+1))]),y6]):=⟨_,rfl⟩
 have eP2:P=TL.of ([T.a01 (TL.of [T.aG 8,T.aG w]),T.a01 (TL.of [T.aG 9,sg])]++[T.a01 (TL.of [T.aG 10,T.aG (base w+(g.count+1))]),y6]):=eP
 simp only[<-eP]
 have hP:qH w S P:=by
  rw[eP2,<-TL.tE]
  have g1:GL S (TL.of [T.a01 (TL.of [T.aG 8,T.aG w]),T.a01 (TL.of [T.aG 9,sg])]):=GL.of (by simp) fun x hx=>by
   rcases List.mem_cons.1 hx with rfl|hx
   ·exact kp (n:=8) (l:=[w]) (by simp)
   ·rw[List.mem_singleton]at hx;subst hx
    exact aZ.part (n:=9) (l:=[sg]) (by simp) fun y hy=>by rw[List.mem_singleton]at hy;subst hy;exact gsg
  refine⟨GL.app g1 o1 (by rw[TL.eD,TL.eD];simp),fun x hx=> ?_⟩
  rw[mG (by rw[uh (by rw[gD (n:=8) (l:=[_]) (by decide),gD (n:=9) (l:=[_]) (by decide)];rfl)];exact o2)]at hx
  cases hx
 obtain⟨F,eF⟩:∃F,F=Cp (FF (bW.az (kind:=35) (eV:=s.own) (ia:=s.fg) (aV:=true) (iD:=1) (parts:=P))) (T.gq s.out (mH (FF (bW.az (kind:=35) (eV:=s.own) (ia:=s.fg) (aV:=true) (iD:=1) (parts:=P))) P)):=⟨_,rfl⟩
 have gF:aZ S F:=by rw[eF];exact A4 hq.on hk.1 hP.1 (fun x hx=>by rw[hk.2.2.1,hq.ours.2.1];exact hP.2 x hx) _ _
 obtain⟨p',hp'⟩:∃p',p'=a04.az (ax:=2) (iD:=1) (body:=F) (to:=s.a0a) (sent:=1) (sx:=g.bA+2) (dZ:=base w+(g.count+1)) (dm:=s.pending.dm) (box:=s.pending.box):=⟨_,rfl⟩
 have c1:p'.ax=2:=by rw[hp'];rfl
 have c2:p'.dZ=base w+(g.count+1):=by rw[hp'];rfl
 obtain⟨s',es⟩:∃s',s'=Sa.bw s (state:=2) (eZ:=2) (pending:=p'):=⟨_,rfl⟩
 have k3:s'.pending=p':=by rw[es];rfl
 have k4:s'.state=2:=by rw[es];rfl
 have k0:pV w S g.bA 0 s':=by
  rw[es,hp']
  exact{hq with st:=.inr (.inl rfl),key:=fun _=>hk,first:=fun _=>hq.first (by omega),bY:=fun _=>hrep,up:=fun h=>by exact absurd h (by show¬(3:Int)<=2;decide),body:=gF,Jm:=fun h=>by exact absurd h (by show¬((2:Int)=3∨(2:Int)=4∨(2:Int)=5);decide),sD:=IJ,MD:=IJ,p1:=fun h=>by exact absurd h (by show¬(2:Int)=1;decide),p2:=fun _=>rfl,p4:=fun _ h=>by exact absurd h (by show¬(2:Int)=4;decide),J6:=fun _=>.inl ⟨rfl,by show g.bA+2<=g.bA+2;omega⟩}
 have q2:=q1.pM (s':=s') (X':={}) hi rfl k0 (by rw[es];rfl) (by rw[es];rfl) (fun x=>by
  unfold fZ
  rw[k3,c1,c2]
  by_cases e:base w+(g.count+1)=x
  ·subst e
   refine .inr ⟨?_,f1⟩
   split<;>omega
  ·rw[if_neg (fun h=>e h.2)];exact .inl (Nat.zero_le _)) (.inl (by
    have:pSa s'=0:=by unfold pSa;rw[k3,c1];rfl
    omega)) (.inl (by
    have:nj s'=0:=by unfold nj;rw[k3,c1];rfl
    omega)) (by
    have:iR s'=1:=by unfold iR;rw[k4];rfl
    have:iR s=1:=by unfold iR;rw[h1];rfl
    omega) (by
    have:lone s'=1:=by unfold lone;rw[k4];rfl
    have:lone s=1:=by unfold lone;rw[h1];rfl
    omega) (.inl rfl) (by rw[k3,hp'];exact Nat.zero_le _)
 refine ae ⟨q2.cs (by rw[es,hp',eF];rfl),⟨rfl,by show g.count<=g.count+1;omega,by show g.count+1<=g.count+1;omega⟩,?_⟩
 rw[eF]at gF
 exact bE.one gF
end
section
variable {w:Int}{S S':List jn}{D:Dl}{R:List aQ}{X X':Cr}{g g':aa}{L:Nat}
theorem Gr{o b mk:Tm}(ho:Nm w o)(hb:aZ S b)(hm:aZ S mk):qH w S (TL.of [T.a01 (TL.of [T.aG 18,b]),T.a01 (TL.of [T.aG 3,o]),mk])/\fI (TL.of [T.a01 (TL.of [T.aG 18,b]),T.a01 (TL.of [T.aG 3,o]),mk])=some o:=
 wZ (cz:=[T.a01 (TL.of [T.aG 18,b])]) (suf:=[mk]) (fun t ht=>by
  rw[List.mem_singleton]at ht;subst ht
  exact aZ.part (n:=18) (l:=[b]) (by simp) fun y hy=>by rw[List.mem_singleton]at hy;subst hy;exact hb) (gD (n:=18) (l:=[b]) (r:=[]) (by decide)) (by simp) ho fun t ht=>by rw[List.mem_singleton]at ht;subst ht;exact hm
theorem GI.cst{c:Int}{l l':List Sa}{t:List eH}(q:GI w S D R X (aa.xx (aa.bI (aa.dj g c) l) t))(e:l'=l):GI w S D R X (aa.bw g (count:=c) (u4:=l') (cu:=t)):=by
 subst e
 exact q.same rfl rfl rfl rfl rfl rfl rfl rfl rfl rfl rfl rfl
variable (hL:5000<L)(hM:L<=4611686018427387904)
include hL hM
omit hL hM in
theorem AQ(q:GI w S D R {} g)(b:Bd g)(b2:g.count<=400000){x dm:Int}{bo:aU}:Ok (oK L g x dm bo) fun y=>y.2.2=0->GI w S D R {} y.1/\cA 2 g y.1/\bE S y.2.1:=by
 unfold oK
 have no:∀{n:Int},n≠0->Ok (some (g,([]:List aj),n)) fun y=>y.2.2=0->GI w S D R {} y.1/\cA 2 g y.1/\bE S y.2.1:=fun{n} hn=>ae fun h=>absurd h hn
 have hnt:=q.nt
 refine aM (fun _=>no (by decide)) fun h0=>bX (fun _=>no (by decide)) fun h1=>bX (fun _=>no (by decide)) fun hl=> ?_
 have e1:add x 1=x+1:=fK (by omega) (by omega)
 rw[e1,q.AJ b,q.FJ b,q.dZ (k:=g.count+1) (by have:=q.lG;omega) (by omega)]
 refine ay h0 (a03 (by omega) (ay h0 (ay (by omega) (bD (by simp[Nat.ble_eq];omega) ?_))))
 rw[vF]
 refine aD (ae ?_)
 rw[iP]
 refine aD (ae (bD (cF (by rw[List.length_append];show(_+1)*856<=_;omega)) (ae fun _=> ?_)))
 have hn:add g.bA 2=g.bA+2:=by have:=q.bA;have:=b.bA;exact fK (by omega) (by omega)
 have ho:Nm w (T.name (add (mul g.av 1048576) (g.count+2))):=q.name b (by omega) (by omega)
 rw[hn]
 obtain⟨o,eo⟩:∃o,o=T.name (add (mul g.av 1048576) (g.count+2)):=⟨_,rfl⟩
 rw[<-eo]at ho
 simp only[<-eo]
 obtain⟨i,hi⟩:∃i:Nat,x=(i:Int):=⟨x.toNat,by omega⟩
 obtain⟨t,ht⟩:∃t,g.cu[i]?=some t:=⟨_,List.getElem?_eq_getElem (show i<g.cu.length by omega)⟩
 subst hi
 rw[a08,bB ht]
 obtain⟨tk1,tk2⟩:=q.a4l t (bC ht)
 obtain⟨i1,i2⟩:=Gr (S:=S) (mk:=a3W (base w+(g.count+1)) g.bM g.a0a) ho tk1 (aZ.mark _ _ _)
 obtain⟨P,eP⟩:∃P,P=TL.of [T.a01 (TL.of [T.aG 18,t.body]),T.a01 (TL.of [T.aG 3,o]),a3W (base w+(g.count+1)) g.bM g.a0a]:=⟨_,rfl⟩
 rw[<-eP]at i1 i2
 simp only[<-eP]
 obtain⟨hd,ed⟩:∃hd,hd=FF (bW.az (kind:=38) (eV:=base w+(g.count+1)) (aV:=true) (parts:=P)):=⟨_,rfl⟩
 simp only[<-ed]
 obtain⟨F,eF⟩:∃F,F=mH hd P:=⟨_,rfl⟩
 have gF:aZ S F:=by rw[eF];exact aZ.plain i1.1
 have nF:kR F=some o:=by rw[eF];exact i2
 obtain⟨q2,f2,_⟩:=q.wU
 obtain⟨s,es⟩:∃s,s=Sa.az (own:=base w+(g.count+1)) (aV:=true) (state:=1) (bM:=g.bM) (a0a:=g.a0a) (d:=t.d) (ours:=o) (first:=F) (eZ:=1) (pending:=a04.az (ax:=1) (body:=F) (to:=g.a0a) (sent:=1) (sx:=g.bA+2) (dx:=o) (eE:=(0,0,TL.nil)) (dm:=dm) (box:=bo)) (iQ:=(-1)) (eC:=g.bA) (lV:=g.bA):=⟨_,rfl⟩
 have q3:=Di q (s:=s) (EM (d:=t.d) (sD:=(0,0,TL.nil)) ho gF nF tk2 IJ q.bA s es) q2 (by rw[es];exact f2) (by rw[es];rfl) (by rw[es];rfl) (by rw[es];rfl) (by have:(g.u4.length:Int)<8:=hl;omega)
 have hti:(((i:Int)+1).toNat)=i+1:=by omega
 rw[hti]
 have q4:=q3.Ai (l:=g.cu.take i++g.cu.drop (i+1)) (fun u hu=>q.a4l u (vX hu)) (by have:=(pZ g.cu i).length_le;omega)
 refine⟨q4.cst (by rw[es,eF];rfl),⟨rfl,by show g.count<=g.count+2;omega,by show g.count+2<=g.count+2;omega⟩,?_⟩
 rw[eF]at gF
 exact bE.one gF
theorem Oc(q:GI w S D R X g){t:Tm}(h:aZ S t):Ok (qm L g t) fun y=>y.2=true->Tm.cP y.1:=by
 unfold qm
 have no:Ok (some (((0,0,TL.nil):Tm),false)) fun y=>y.2=true->Tm.cP y.1:=ae fun h=>by cases h
 refine(wL hL hM h).bind fun y hy=>bn (fun _=>no) fun e=> ?_
 obtain⟨hg,_⟩:=hy e
 refine aP (fun _=>no) fun h3=>aP (fun _=>no) fun hl=> ?_
 have ha:=hg.args (.inl h3)
 (repeat' with_reducible first|refine bX (fun _=> ?_) (fun _=> ?_)|refine aM (fun _=> ?_) (fun _=> ?_)|refine aP (fun _=> ?_) (fun _=> ?_)|refine aC (fun _=> ?_) (fun _=> ?_)|refine ay (by omega) ?_|refine a03 (by omega) ?_|refine eK (by omega) ?_|refine a0r (by omega) ?_|refine ok_glt (by omega) ?_|refine bn (fun _=> ?_) (fun _=> ?_)|refine bJ (fun _=> ?_) (fun _=> ?_))
 all_goals first|exact no|(exfalso;omega)|exact ae fun _=>(ha.get 0).1|skip
theorem yc(q:GI w S D R {} g)(b:Bd g)(b2:g.count<=400000){d:aj}(hd:aZ S d.body){m:bW}(hp:GL S m.parts)(hm:fI m.parts=kR d.body):
 Ok (mh L g d m) fun y=>GI w S D R {} y.1/\cA 2 g y.1/\bE S y.2:=by
 unfold mh
 have no:∀{l:List aj},bE S l->Ok (some (g,l)) fun y=>GI w S D R {} y.1/\cA 2 g y.1/\bE S y.2:=fun h=>ae ⟨q,cA.rfl.le (by decide),h⟩
 rw[AS hL hM hp.1]
 obtain⟨t,e1,e2⟩:=sA hL hM hp.1
 rw[e1]
 refine aD (ae (aD (ae ?_)))
 refine bn (fun _=>no bE.nil) fun _=>aP (fun _=>no bE.nil) fun _=>aP (fun _=>no bE.nil) fun _=>bX (fun _=>no bE.nil) fun _=>bn (fun _=>no bE.nil) fun ek=>bn (fun _=>no bE.nil) fun e=> ?_
 have hn:=e2 e
 have gt:=mF hp hn
 have htk:aZ S (if(fnd m.parts 18).1.len=1 then(((fnd m.parts 18).1.get 0,true):Tm×Bool)else((0,0,TL.nil),false)).1:=by
  split
  ·exact(jW hp).get 0
  ·exact aZ.zero
 refine(Da hL hM q).bind fun y6 h6=>bJ (fun e6=>no (bE.one (q.aW _ (h6 e6)).bY)) fun _=> ?_
 refine(Oc hL hM q htk).bind fun y7 h7=>bn (fun _=> ?_) fun e7=>bX (fun _=>no bE.nil) fun _=> ?_
 ·rw[iP]
  exact aD (ae (no (bE.one (aZ.plain (h:=FF _) (zo (n:=44))))))
 have hk7:=h7 e7
 have ho:Nm w (T.name (add (mul g.av 1048576) (g.count+2))):=q.name b (by omega) (by omega)
 rw[q.AJ b,q.FJ b,q.dZ (k:=g.count+1) (by have:=q.lG;omega) (by omega)]
 obtain⟨o,eo⟩:∃o,o=T.name (add (mul g.av 1048576) (g.count+2)):=⟨_,rfl⟩
 rw[<-eo]at ho
 simp only[<-eo]
 unfold nN eM
 rw[vF]
 refine aD (ae (aD (ae (aD (ae ?_)))))
 rw[iP]
 refine aD (ae ((a3Y hL hM hp).bind fun bh _=> ?_))
 obtain⟨i1,i2⟩:=wZ (S:=S) (cz:=[]) (suf:=[a3W m.eV g.bM d.cq]) (fun t ht=>by simp at ht) rfl (by simp) ho fun t ht=>by rw[List.mem_singleton]at ht;subst ht;exact aZ.mark _ _ _
 obtain⟨P,eP⟩:∃P,P=TL.of [T.a01 (TL.of [T.aG 3,o]),a3W m.eV g.bM d.cq]:=⟨_,rfl⟩
 rw[List.nil_append,<-eP]at i1 i2
 simp only[<-eP]
 obtain⟨hd',ed⟩:∃hd,hd=FF (bW.az (kind:=38) (eV:=m.eV) (ia:=base w+(g.count+1)) (bY:=true) (parts:=P)):=⟨_,rfl⟩
 simp only[<-ed]
 obtain⟨F,eF⟩:∃F,F=mH hd' P:=⟨_,rfl⟩
 have gF:aZ S F:=by rw[eF];exact aZ.plain i1.1
 have nF:kR F=some o:=by rw[eF];exact i2
 obtain⟨q3,f3,_⟩:=q.wU
 have hth:=gt.1.1
 obtain⟨k,ek7⟩:∃k,k=y7.1:=⟨_,rfl⟩
 rw[<-ek7]at hk7
 simp only[<-ek7]
 have hseed:Tm.cP (T.derive 9 (TL.of [k,t,o])):=⟨by show 3<=5000;decide,hk7.1,hk7.2,hth.1,hth.2,ho.2.2.1,ho.2.2.2,trivial⟩
 have hkey:∀n:Int,Tm.cP (T.derive n (TL.of [T.derive 9 (TL.of [k,t,o]),T.aG m.eV,T.aG (base w+(g.count+1))])):=fun n=>⟨by show 3<=5000;decide,hseed.1,hseed.2,Nat.zero_le _,trivial,Nat.zero_le _,trivial,trivial⟩
 obtain⟨h,eh⟩:∃h,h=bN.az (own:=base w+(g.count+1)) (fg:=m.eV) (cq:=d.cq) (first:=d.body) (bY:=F) (ours:=o) (bO:=t) (d:=T.derive 2 (TL.of [T.derive 9 (TL.of [k,t,o]),T.aG m.eV,T.aG (base w+(g.count+1))])) (out:=T.derive 4 (TL.of [T.derive 9 (TL.of [k,t,o]),T.aG m.eV,T.aG (base w+(g.count+1))])) (eI:=T.derive 3 (TL.of [T.derive 9 (TL.of [k,t,o]),T.aG m.eV,T.aG (base w+(g.count+1))])) (born:=g.bA) (dK:=bh):=⟨_,rfl⟩
 have hh:xz w S g.bA h:=by
  rw[eh]
  exact{ours:=ho,key:=⟨⟨rfl,.inr rfl⟩,⟨rfl,.inl rfl⟩,rfl,rfl⟩,on:=hkey 4,Bk:=hkey 3,dn:=hkey 2,d6:=rfl,thn:=hth,fn:=hd.1,first:=by show kR d.body=some t;rw[<-hn];exact hm.symm,bY:=gF,rn:=fun x hx=>by
         have hx:kR F=some x:=hx
         rw[nF]at hx;cases hx;exact ho.2.1
        born:=⟨q.bA,Int.le_refl _⟩}
 have step:=xI (L:=L) q3 hh (by rw[eh];exact f3)
 rw[eh,eF]at step
 refine step.bind fun y ⟨c1,c2⟩=>ae ⟨c1,⟨c2.1,?_,?_⟩,bE.one (by rw[eF]at gF;exact gF)⟩
 ·have c:g.count+2<=y.1.count:=c2.2.1;show g.count<=y.1.count;omega
 ·have c:y.1.count<=g.count+2+0:=c2.2.2;show y.1.count<=g.count+2;omega
theorem AR(q:GI w S D R {} g){d:aj}(hd:aZ S d.body){m:bW}(hp:GL S m.parts)(hm:fI m.parts=kR d.body):
 Ok (oL L g d m) fun y=>GI w S D R {} y.1/\cA 0 g y.1/\(y.2≠0->AV y.1 y.2):=by
 unfold oL
 have no:Ok (some (g,(0:Int))) fun y=>GI w S D R {} y.1/\cA 0 g y.1/\(y.2≠0->AV y.1 y.2):=ae ⟨q,cA.rfl,fun h=>absurd rfl h⟩
 refine(q.at_ hL hM).bind fun y hy=> ?_
 rcases hy with⟨rfl,_⟩|⟨i,s,rfl,hi,he⟩
 ·exact aM (fun _=>no) fun h=>absurd (by decide:(-1:Int)<0) h
 refine aM (fun _=>no) fun _=>bJ (fun _=>no) fun _=>aP (fun _=>no) fun _=>bX (fun _=>no) fun _=>ay (by omega) (a03 (bL hi) ?_)
 simp only[a08,bB hi]
 have hs:=q.u4 s (bC hi)
 obtain⟨t,e1,e2⟩:=sA hL hM hp.1
 rw[e1]
 refine(xA hL hM hs.body).bind fun y5 _=>aD (ae (bn (fun _=>no) fun _=>aP (fun _=>no) fun h1=>aP (fun _=>no) fun hpp=>aP (fun _=>no) fun _=>bn (fun _=>no) fun e=> ?_))
 have hn:=e2 e
 have gt:=mF hp hn
 refine a2P hL hM gt.1.1 (aC (fun _=>no) fun _=>(a3Y hL hM hp).bind fun bh _=> ?_)
 unfold nN eM
 refine aD (ae (aD (ae (ay (by omega) (a03 (bL hi) ?_)))))
 have hth:=gt.1.1
 have hseed:Tm.cP (T.derive 9 (TL.of [s.d,s.ours,t])):=⟨by show 3<=5000;decide,hs.dn.1,hs.dn.2,hs.ours.2.2.1,hs.ours.2.2.2,hth.1,hth.2,trivial⟩
 have hkey:∀n:Int,Tm.cP (T.derive n (TL.of [T.derive 9 (TL.of [s.d,s.ours,t]),T.aG m.eV,T.aG m.ia])):=fun n=>⟨by show 3<=5000;decide,hseed.1,hseed.2,Nat.zero_le _,trivial,Nat.zero_le _,trivial,trivial⟩
 obtain⟨s',es⟩:∃s',s'=Sa.bw s (fg:=m.ia) (d:=T.derive 2 (TL.of [T.derive 9 (TL.of [s.d,s.ours,t]),T.aG m.eV,T.aG m.ia])) (out:=T.derive 3 (TL.of [T.derive 9 (TL.of [s.d,s.ours,t]),T.aG m.eV,T.aG m.ia])) (eI:=T.derive 4 (TL.of [T.derive 9 (TL.of [s.d,s.ours,t]),T.aG m.eV,T.aG m.ia])) (bO:=t) (bY:=d.body) (dK:=bh):=⟨_,rfl⟩
 have k0:pV w S g.bA 0 s':=by
  rw[es]
  exact{hs with thn:=hth,key:=fun _=>⟨⟨rfl,.inl rfl⟩,⟨rfl,.inr rfl⟩,rfl,rfl⟩,on:=hkey 3,Bk:=hkey 4,dn:=hkey 2,rn:=hd.1,bY:=fun h=>by have h:s.state=2:=h;omega,up:=fun h=>by have h:3<=s.state:=h;omega}
 have q2:=q.Ta (s':=s') hi h1 k0 (by rw[es];rfl) (by rw[es];rfl) (by rw[es];exact hpp) (by rw[es];exact h1) (by rw[es];rfl)
 refine tH (a:=(aa.bI g (g.u4.set i s'),s.own)) (by rw[bB hi,es]) ⟨q2,cA.rfl,fun _=>⟨i,s',List.getElem?_set_self (bL hi),by rw[es];rfl,by rw[es];exact h1,?_,?_⟩⟩
 ·rw[es];exact⟨⟨rfl,.inl rfl⟩,⟨rfl,.inr rfl⟩,rfl,rfl⟩
 ·rw[es];show kR d.body=some t;rw[<-hm];exact hn
theorem Nb(q:GI w S D R {} g)(hR:dQ R)(b:Bd g)(b2:g.count<=390000){d:aj}(hd:aZ S d.body){m:bW}(hp:GL S m.parts)(hm:fI m.parts=kR d.body):
 Ok (mU L g d m) fun y=>GI w S D R {} y.1/\cA 3 g y.1/\bE S y.2:=by
 have no:Ok (some (g,([]:List aj))) fun y=>GI w S D R {} y.1/\cA 3 g y.1/\bE S y.2:=ae ⟨q,cA.rfl.le (by decide),bE.nil⟩
 have len:∀{g1:aa} {x:Int},GI w S D R {} g1->Bd g1->Ok (jo L g1 x) fun y=>y.2.length<=1:=fun{g1 x} q1 b1=>by
  unfold jo
  refine(q1.at_ hL hM).bind fun y hy=> ?_
  rcases hy with⟨rfl,_⟩|⟨i,s,rfl,hi,he⟩
  ·exact aM (fun _=>ae (Nat.zero_le _)) fun h=>absurd (by decide:(-1:Int)<0) h
  refine aM (fun _=>ae (Nat.zero_le _)) fun _=>ay (by omega) (a03 (bL hi) ?_)
  unfold jq
  refine aD (ae ((a36 (g:=aa.dj g1 (add g1.count 1)) hR q1.dh).bind fun y5 h5=>(mw hL hM h5).bind fun y6 _=> ?_))
  rw[iP]
  exact aD (ae (aD (ae (ae (Nat.le_refl 1)))))
 have dH:∀{g1:aa} {x:Int} {l:List aj},GI w S D R {} g1->cA 1 g g1->bE S l->l.length<=5000->AV g1 x->Ok (jo L g1 x) fun y=>(GI w S D R {} y.1/\cA 3 g y.1/\bE S (l++y.2))/\(l++y.2).length<=5001/\bE S y.2/\y.2.length<=1:=fun{g1 x l} q1 a1 o1 hl r1=>by
  have b1:Bd g1:=⟨by have:=a1.2.2;omega,by have:=a1.1;have:=b.bA;omega⟩
  exact((Dm hL hM q1 hR b1 (by have:=a1.2.2;omega) r1).and (len q1 b1)).mono fun y ⟨⟨c1,c2,c3⟩,c4⟩=>⟨⟨c1,(a1.trans c2).le (by decide),o1.app c3 (by omega)⟩,by rw[List.length_append];omega,c3,c4⟩
 have hA:Ok (lQ L g d m) fun y=>GI w S D R {} y.1/\cA 3 g y.1/\bE S y.2:=by
  unfold lQ
  refine aC (fun _=>(AR hL hM q hd hp hm).bind fun y ⟨c1,c2,c3⟩=>aC (fun _=>ae ⟨c1,c2.le (by decide),bE.nil⟩) fun h=> ?_) fun _=>no
  exact(dH (l:=[]) c1 (c2.le (by decide)) bE.nil (Nat.zero_le _) (c3 h)).bind fun z ⟨z1,_,_,z4⟩=>bD (cF (by omega)) (ae z1)
 have hB:Ok (a3F L g d m) fun y=>GI w S D R {} y.1/\cA 3 g y.1/\bE S y.2:=by
  unfold a3F
  exact aC (fun _=>bn (fun _=>(yc hL hM q b (by omega) hd hp hm).bind fun y ⟨c1,c2,c3⟩=>ae ⟨c1,c2.le (by decide),c3⟩) fun _=>hA) fun _=>hA
 have hC:Ok (lR L g d m) fun y=>GI w S D R {} y.1/\cA 3 g y.1/\bE S y.2:=by
  unfold lR
  refine aC (fun _=>(E2 hL hM q b (by omega) hd hp hm).bind fun y ⟨c1,c2,c3,hl,c4⟩=>aC (fun _=>ae ⟨c1,c2.le (by decide),c3⟩) fun h=> ?_) fun _=>hB
  exact(dH (l:=y.2.1) c1 c2 c3 (by omega) (c4 h)).bind fun z ⟨z1,z2,_,_⟩=>bD (cF (by omega)) (ae z1)
 unfold mU
 exact aC (fun _=>bn (fun _=>(AK hL hM q b (by omega) hd hp hm).bind fun y ⟨⟨c1,c2⟩,c3⟩=>ae ⟨c1,c2,c3⟩) fun _=>hC) fun _=>hC
end
set_option maxRecDepth 100000 in
theorem w1:∀b,b<64->∀k,k<6->(nA .u64 (yg .u64 (b:Nat) (k:Nat)) 1=1↔b.testBit k=true):=by decide
set_option maxRecDepth 100000 in
theorem w2:∀b,b<64->∀k,k<6->(EZ .u64 (b:Nat) (pO .u64 1 (k:Nat))=((b|||2^k:Nat):Int)):=by decide
set_option maxRecDepth 100000 in
theorem w3:∀k,k<6->∀b,b<64->(nA .u64 (pO .u64 (b:Nat) (k:Nat)) (ij .u64 (pO .u64 1 (rem 6 64)) 1)=(((b<<<k)%64:Nat):Int)):=by decide
set_option maxRecDepth 100000 in
theorem w4:∀k,k<330->(nM .u64 (k:Nat) 64=((k/64:Nat):Int)/\vh .u64 (k:Nat) 64=((k%64:Nat):Int)):=by decide
theorem w5(a:Int){c:Nat}(hc:c<18446744073709551616):∃m:Nat,nA .u64 a (c:Int)=(m:Int)/\m<=c:=by
 have h:(BitVec.ofInt 64 a&&& BitVec.ofInt 64 (c:Int)).toNat<=c:=by
  rw[BitVec.toNat_and]
  refine Nat.le_trans Nat.and_le_right (Nat.le_of_eq ?_)
  rw[BitVec.toNat_ofInt];omega
 refine⟨(BitVec.ofInt 64 a&&& BitVec.ofInt 64 (c:Int)).toNat,?_,h⟩
 show IntKind.u64.wrap (((BitVec.ofInt 64 a&&& BitVec.ofInt 64 (c:Int)).toNat:Nat):Int)=_
 generalize(BitVec.ofInt 64 a&&& BitVec.ofInt 64 (c:Int)).toNat=m at h
 unfold IntKind.wrap;simp[IntKind.signed,IntKind.bits];omega
theorem xT{a:Int}(h1:0<=a)(h2:a<18446744073709551616):IntKind.u64.wrap a=a:=by
 unfold IntKind.wrap;simp[IntKind.signed,IntKind.bits];omega
section
variable {L:Nat}
theorem L7{t:Nat}(ht:t<=300):oT L (t:Int) 6=some ((if t<6 then 0 else t-5:Nat):Int):=by
 unfold oT
 have e:aY .u64 (eN 6 1)=6:=by decide
 rw[e]
 by_cases h:t<6
 ·rw[a2a (show(t:Int)<6 by omega),if_pos h];rfl
 ·rw[a0k (show¬(t:Int)<6 by omega),if_neg h]
  show some (wM .u64 (ij .u64 (t:Int) 6) 1)=_
  have e1:ij .u64 (t:Int) 6=(t:Int)-6:=xT (by omega) (by omega)
  have e2:wM .u64 ((t:Int)-6) 1=(t:Int)-6+1:=xT (by omega) (by omega)
  rw[e1,e2];congr 1;omega
theorem Jw{t:Nat}(ht:t<=300){x:Int}:∃n:Nat,oS L (t:Int) 6 x 4=some (n:Int)/\n<=320:=by
 unfold oS
 rw[L7 ht]
 obtain⟨m,e1,e2⟩:=w5 (ij .u64 x ((if t<6 then 0 else t-5:Nat):Int)) (c:=15) (by decide)
 have e3:ij .u64 (pO .u64 1 (Eg (eN 4 0) 63)) 1=15:=by decide
 have e4:(!(aF (Eg (eN 4 0) 63) 0))=true:=by decide
 rw[e3,e4]
 show∃n:Nat,some (wM .u64 ((if t<6 then 0 else t-5:Nat):Int) (nA .u64 (ij .u64 x ((if t<6 then 0 else t-5:Nat):Int)) (((15:Nat)):Int)))=some (n:Int)/\n<=320
 rw[e1]
 have hb:(if t<6 then 0 else t-5:Nat)<=300:=by split<;>omega
 generalize(if t<6 then 0 else t-5:Nat)=z at hb
 refine⟨z+m,?_,by omega⟩
 have e5:wM .u64 (z:Int) (m:Int)=(z:Int)+(m:Int):=xT (by omega) (by omega)
 rw[e5];simp
def As(t b:Nat):cC:=(6,(t:Int),[(b:Int)])
theorem vm{t b:Nat}{m:Int}:seen (As t b) m↔m<=(t:Int)/\(6<=(t:Int)-m∨b.testBit ((t:Int)-m).toNat=true):=Iff.rfl
theorem a4P{b k:Nat}(hb:b<64)(hk:k<6):b|||2^k<64:=Nat.or_lt_two_pow (n:=6) hb (Nat.pow_lt_pow_right (by omega) hk)
variable (hL:5000<L)
include hL
theorem M8{b k:Nat}(hb:b<64)(hk:k<330):Ok (a3Q L [(b:Int)] (k:Int)) fun y=>y=[if k<64 then pO .u64 (b:Int) (k:Int)else 0]:=by
 obtain⟨q1,q2⟩:=w4 k hk
 unfold a3Q
 rw[q1,q2]
 refine a0i 1 (fun i s=>s.1=(i:Int)/\(i=0->s.2=[0])/\(i=1->s.2=[if k<64 then pO .u64 (b:Int) (k:Int)else 0])) (by omega) ⟨rfl,fun _=>rfl,fun h=>by omega⟩ (fun i s hi hs=> ?_) fun s hs=> ?_
 ·obtain rfl:i=0:=by omega
  obtain⟨a,l⟩:=s
  obtain⟨rfl,h1,_⟩:=hs
  obtain rfl:=h1 rfl
  dsimp only
  refine aM (fun _=> ?_) fun h=>absurd (show((0:Nat):Int)<((1:Nat):Int) by decide) h
  rw[show aY .u64 (((0:Nat)):Int)=0 by decide]
  refine aM (fun h=>ae ⟨rfl,fun h=>by omega,fun _=>by rw[if_neg (by omega)]⟩) fun h=> ?_
  have hk:k<64:=by omega
  have e1:k/64=0:=by omega
  have e2:k%64=k:=by omega
  rw[e1,e2]
  have e3:ij .u64 0 (((0:Nat)):Int)=0:=by decide
  rw[e3]
  refine bD rfl (bD rfl (bD (by simp[aF]) (bD rfl (bD rfl (aM (fun h=>absurd h (by decide)) fun _=>ae ⟨rfl,fun h=>by omega,fun _=> ?_⟩)))))
  rw[if_pos hk];rfl
 ·obtain⟨a,l⟩:=s
  obtain⟨rfl,_,h1⟩:=hs
  obtain rfl:=h1 rfl
  dsimp only
  exact aM (fun h=>absurd h (by show¬((1:Nat):Int)<((1:Nat):Int);omega)) fun _=>ae rfl
omit hL in
theorem Hw{c k:Nat}(hk:k<6)(f:List Int->cC×Int):iJ [(c:Int)] (k:Int) f=some (f [EZ .u64 (c:Int) (pO .u64 1 (k:Int))]):=by
 obtain⟨q1,q2⟩:=w4 k (by omega)
 unfold iJ
 rw[q1,q2,show k/64=0 by omega,show k%64=k by omega]
 have e:(!(aF (k:Int) 0))=true:=by simp[aF]
 rw[e]
 rfl
theorem I2{t b n:Nat}(ht:t<=300)(hb:b<64)(hn:n<=320):Ok (nw L (As t b) (n:Int)) fun y=>y.2=0->∃t' b':Nat,y.1=As t' b'/\b'<64/\t'=max t n/\¬seen (As t b) (n:Int)/\seen (As t' b') (n:Int)/\∀m,seen (As t b) m->seen (As t' b') m:=by
 unfold nw sk
 by_cases hn0:n=0
 ·subst hn0
  exact aD (ae (ae fun h=>absurd h (by show¬(22:Int)=0;decide)))
 rw[l7 (show¬(n:Int)=0 by omega),cond_false]
 by_cases hnt:t<n
 ·rw[a2a (show cC.mj (As t b)<(n:Int) by show(t:Int)<n;omega),cond_true,cond_true]
  refine aD (ae (aP (fun h=>absurd rfl h) fun _=>bD rfl ?_))
  obtain⟨k,rfl⟩:∃k,n=t+k:=⟨n-t,by omega⟩
  have hs:ij .u64 ((t+k:Nat):Int) (cC.mj (As t b))=(k:Int):=by
   show IntKind.u64.wrap (((t+k:Nat):Int)-(t:Int))=_
   rw[xT (by omega) (by omega)];omega
  have hs0:ij .u64 ((t+k:Nat):Int) ((t+k:Nat):Int)=((0:Nat):Int):=by
   show IntKind.u64.wrap _=_
   rw[xT (by omega) (by omega)];omega
  rw[hs,hs0]
  refine(M8 hL hb (by omega)).bind fun y hy=> ?_
  subst hy
  refine aM (fun _=>aM (fun _=>bD rfl (bD rfl (bD rfl (bD rfl (bD rfl ?_))))) fun h=>absurd (show(0:Int)<((1:Nat):Int) by decide) h) fun h=>absurd (show 0<rem 6 64 by decide) h
  obtain⟨c,e1,e2,e3⟩:∃c:Nat,nA .u64 (if k<64 then pO .u64 (b:Int) (k:Int)else 0) (ij .u64 (pO .u64 1 (rem 6 64)) 1)=(c:Int)/\c<64/\∀j,j+k<6->b.testBit j=true->c.testBit (j+k)=true:=by
   by_cases h6:k<6
   ·refine⟨(b<<<k)%64,by rw[if_pos (by omega)];exact w3 k h6 b hb,by omega,fun j hj hbj=> ?_⟩
    rw[show(64:Nat)=2^6 from rfl,Nat.testBit_mod_two_pow,Nat.testBit_shiftLeft]
    simp[hj,hbj]
   ·have e63:ij .u64 (pO .u64 1 (rem 6 64)) 1=((63:Nat):Int):=by decide
    rw[e63]
    obtain⟨m,e⟩:=w5 (if k<64 then pO .u64 (b:Int) (k:Int)else 0) (c:=63) (by decide)
    exact⟨m,e.1,by have:=e.2;omega,fun j hj _=>by omega⟩
  show Ok (iJ [nA .u64 (if k<64 then pO .u64 (b:Int) (k:Int)else 0) (ij .u64 (pO .u64 1 (rem 6 64)) 1)] ((0:Nat):Int) _) _
  rw[e1,Hw (by decide),w2 c e2 0 (by decide)]
  refine ae fun _=>⟨t+k,c|||2^0,rfl,a4P e2 (by decide),by omega,fun h=> ?_,?_,fun m hm=> ?_⟩
  ·have:=h.1;have:((t+k:Nat):Int)<=(t:Int):=this;omega
  ·refine vm.2 ⟨Int.le_refl _,.inr ?_⟩
   rw[show(((t+k:Nat):Int)-((t+k:Nat):Int)).toNat=0 by omega,Nat.testBit_or];simp
  ·obtain⟨m1,m2⟩:=vm.1 hm
   refine vm.2 ⟨by omega,?_⟩
   by_cases h6:6<=((t+k:Nat):Int)-m
   ·exact .inl h6
   ·refine .inr ?_
    rcases m2 with m2|m2
    ·omega
    ·have e:=e3 _ (show((t:Int)-m).toNat+k<6 by omega) m2
     rw[show(((t+k:Nat):Int)-m).toNat=((t:Int)-m).toNat+k by omega,Nat.testBit_or,e];rfl
 ·rw[a0k (show¬cC.mj (As t b)<(n:Int) by show¬(t:Int)<n;omega),cond_false,cond_false]
  obtain⟨k,rfl⟩:∃k,t=n+k:=⟨t-n,by omega⟩
  have hs:ij .u64 (cC.mj (As (n+k) b)) (n:Int)=(k:Int):=by
   show IntKind.u64.wrap (((n+k:Nat):Int)-(n:Int))=_
   rw[xT (by omega) (by omega)];omega
  unfold vw
  rw[hs]
  have e6:aY .u64 (eN (cC.size (As (n+k) b)) 0)=6:=by show aY .u64 (eN 6 0)=6;decide
  rw[e6]
  by_cases h6:k<6
  ·rw[a2a (show(k:Int)<6 by omega)]
   unfold vu
   obtain⟨q1,q2⟩:=w4 k (by omega)
   rw[q1,q2,show k/64=0 by omega,show k%64=k by omega]
   have e:(!(aF (k:Int) 0))=true:=by simp[aF]
   refine aD (aD (ae (bJ (fun h=>by cases h) fun _=>aD (bJ (fun _=>bD rfl (bD rfl (bD e (ae ?_)))) fun h=>by cases h))))
   show Ok (bif aH (nA .u64 (yg .u64 (b:Int) (k:Int)) 1) 1 then some 23 else some 0) _
   refine aC (fun _=>ae (aP (fun _=>ae fun h=>absurd h (show¬(23:Int)=0 by decide)) fun h=>absurd h (show¬(23:Int)=0 by decide))) fun hbit=>ae (aP (fun h=>absurd rfl h) fun _=> ?_)
   have hbit:¬b.testBit k=true:=fun h=>hbit ((w1 b hb k h6).2 h)
   show Ok (iJ [(b:Int)] (k:Int) _) _
   rw[Hw h6,w2 b hb k h6]
   refine ae fun _=>⟨n+k,b|||2^k,rfl,a4P hb h6,by omega,fun h=> ?_,?_,fun m hm=> ?_⟩
   ·rcases(vm.1 h).2 with h|h
    ·omega
    ·rw[show(((n+k:Nat):Int)-(n:Int)).toNat=k by omega]at h;exact hbit h
   ·refine vm.2 ⟨by omega,.inr ?_⟩
    rw[show(((n+k:Nat):Int)-(n:Int)).toNat=k by omega,Nat.testBit_or];simp
   ·obtain⟨m1,m2⟩:=vm.1 hm
    refine vm.2 ⟨m1,m2.imp (fun h=>h) fun h=> ?_⟩
    rw[Nat.testBit_or,h];rfl
  ·rw[a0k (show¬(k:Int)<6 by omega)]
   exact aD (aD (ae (bJ (fun _=>ae (aP (fun _=>ae fun h=>absurd h (by show¬(22:Int)=0;decide)) fun h=>absurd h (by decide))) fun h=>by cases h)))
end
def firstP{α γ:Type}(p:Nat->α->Option γ):Nat->List α->Option γ
 |_,[]=>none
 |i,x::l=>(p i x).or (firstP p (i+1) l)
def AL{γ:Type}:Option γ->Unit⊕γ
 |some y=>.inr y
 |none=>.inl ()
theorem nE{α γ:Type}{p:Nat->α->Option γ}{i:Nat}{x:α}{l:List α}:firstP p i (x::l)=(p i x).or (firstP p (i+1) l):=rfl
theorem a3S{α γ:Type}{p:Nat->α->Option γ}{y:γ}:∀{l:List α} {i:Nat},firstP p i l=some y->∃k x,l[k]?=some x/\p (i+k) x=some y
 |[],_,h=>by cases h
 |x::l,i,h=>by
  unfold firstP at h
  cases e:p i x with
  |some z=>rw[e]at h;cases h;exact⟨0,x,rfl,e⟩
  |none=>
   rw[e]at h
   obtain⟨k,u,h1,h2⟩:=a3S (l:=l) (i:=i+1) h
   exact⟨k+1,u,h1,by rw[show i+(k+1)=i+1+k by omega];exact h2⟩
theorem jy{α γ:Type}{key L:Nat}(l:List α)(p:Nat->α->Option γ){f:Int->Option (Int⊕(Unit⊕γ))}(hl:l.length<L)(hL:L<=4611686018427387904)
 (hf:∀i (h:i<l.length),f (i:Int)=some (match p i l[i]with
   |some y=>.inr (.inr y)
   |none=>.inl (((i+1:Nat)):Int))) (hs:f (l.length:Int)=some (.inr (.inl ()))):iter key f L 0=some (AL (firstP p 0 l)):=by
 have:Ok (iter key f L 0) fun y=>y=AL (firstP p 0 l):=by
  refine fq l.length (fun i=>firstP p 0 l=firstP p i (l.drop i)) hl rfl (fun i hi hJ=> ?_) fun hJ=> ?_
  ·rw[hf i hi]
   have hd:l.drop i=l[i]::l.drop (i+1):=List.drop_eq_getElem_cons hi
   rw[hd,nE]at hJ
   cases e:p i l[i]with
   |some y=>rw[e]at hJ;exact ae (by show Sum.inr y=AL (firstP p 0 l);rw[hJ];rfl)
   |none=>rw[e]at hJ;exact ae ⟨rfl,hJ⟩
  ·rw[hs]
   refine ae ?_
   show Sum.inl ()=AL (firstP p 0 l)
   rw[hJ,List.drop_length];rfl
 obtain⟨y,h1,h2⟩:=this
 rw[h1,h2]
def qy(b:List aU)(f:aU->Bool):Bool:=b.any f
theorem pn{γ:Type}{f:aU->Bool}{y:γ}:∀(l:List aU) (i:Nat),firstP (fun _ b=>if f b=true then some y else none) i l=if qy l f=true then some y else none
 |[],_=>rfl
 |x::l,i=>by
  have h:=pn (f:=f) (y:=y) l (i+1)
  unfold firstP
  rw[h]
  unfold qy
  rw[List.any_cons]
  cases f x<;>rfl
def iE(p:a05):Bool×Bool:=
 bif aH (a05.aR p) 6||aH (a05.aR p) 17 then(aH (a05.aK p) (-1),aH (a05.aO p) (-1))else
 bif aH (a05.aR p) 1||aH (a05.aR p) 58 then(aH (a05.aK p) (-1),false)else(false,false)
def MW(b:aU)(s t:Address)(pr sp tp:Int)(a c:Bool):Bool:=(!a|| !(aF b.aL.2 0))&&((!c|| !(aF b.aI.2 0))&&Cb b s t pr (bif a then b.aL.2 else sp) (bif c then b.aI.2 else tp))
def ry(b:aU)(p:a05)(o:Bool):Bool:=bif o then MW b p.bZ p.target p.aR p.aK p.aO (iE p).1 (iE p).2 else MW b p.target p.bZ p.aR p.aO p.aK (iE p).2 (iE p).1
def uS(R:List aQ)(p:a05)(o:Bool):Option Nat:=firstP (fun i (r:aQ)=>if qy r.cI (fun b=>a3G b p o)=true then some i else none) 0 R
def je(R:List aQ)(p:a05)(o:Bool):Option (Int×Int):=firstP (fun i (r:aQ)=>if r.cO≠1/\qy r.cI (fun b=>ry b p o)=true then some (0,(i:Int))else none) 0 R
def actP(R:List aQ)(p:a05)(o:Bool):Int×Int:=
 match uS R p o with
 |some k=>if(R.getD k aQ.az).cO≠1 then((R.getD k aQ.az).cO,(k:Int))else(if((iE p).1||(iE p).2)=true then je (R.take k) p o else none).getD (1,(k:Int))
 |none=>(if((iE p).1||(iE p).2)=true then je R p o else none).getD (0,-1)
theorem Ag{R:List aQ}{p:a05}{o:Bool}{k:Nat}(h:uS R p o=some k):k<R.length/\∃b∈(R.getD k aQ.az).cI,a3G b p o=true:=by
 obtain⟨i,r,h1,h2⟩:=a3S h
 split at h2
 ·rename_i e
  cases h2
  rw[Nat.zero_add,bB h1]
  refine⟨bL h1,?_⟩
  unfold qy at e
  obtain⟨b,hb,hf⟩:=List.any_eq_true.1 e
  exact⟨b,hb,hf⟩
 ·cases h2
theorem uc{R:List aQ}{p:a05}{o:Bool}{m:Int}(h:actP R p o=(2,m)):∃k:Nat,m=(k:Int)/\k<R.length/\(R.getD k aQ.az).cO=2/\∃b∈(R.getD k aQ.az).cI,a3G b p o=true:=by
 have ah:∀{Q:List aQ} {y:Int×Int},je Q p o=some y->y.1=0:=fun{Q y} hq=>by
  obtain⟨i,r,_,h2⟩:=a3S hq
  split at h2
  ·cases h2;rfl
  ·cases h2
 have opt:∀{Q:List aQ} {c:Prop} [Decidable c] {d:Int×Int},d.1≠2->((if c then je Q p o else none).getD d).1≠2:=fun{Q c _ d} hd=>by
  split
  ·cases e:je Q p o with
   |none=>exact hd
   |some y=>show y.1≠2;rw[ah e];decide
  ·exact hd
 unfold actP at h
 split at h
 ·rename_i k e
  split at h
  ·obtain⟨h1,h2⟩:=Ag e
   exact⟨k,(congrArg Prod.snd h).symm,h1,congrArg Prod.fst h,h2⟩
  ·have:=congrArg Prod.fst h
   exact absurd this (opt (by show¬(1:Int)=2;decide))
 ·have:=congrArg Prod.fst h
  exact absurd this (opt (by show¬(0:Int)=2;decide))
section
variable {L:Nat}
theorem a4i{p:a05}:a2J L p=some (iE p):=by
 unfold a2J iE
 cases aH (a05.aR p) 6<;>cases aH (a05.aR p) 17<;>cases aH (a05.aR p) 1<;>cases aH (a05.aR p) 58<;>rfl
theorem a4G{b:aU}{q:a05}{o a c:Bool}{l r:Int}:a2n L b q o a c l r=some ((!a|| !(aF l 0))&&((!c|| !(aF r 0))&&a3G b q o)):=by
 unfold a2n
 rw[uW]
 cases a<;>cases c<;>cases aF l 0<;>cases aF r 0<;>rfl
theorem K1{b:aU}{p:a05}{o:Bool}:oB L b p o=some (ry b p o):=by
 unfold oB ry
 rw[a4i]
 show(bif !o then _ else _)=_
 simp only[a4G]
 cases o<;>cases(iE p).1<;>cases(iE p).2<;>rfl
variable (hL:5000<L)(hM:L<=4611686018427387904)
include hL hM
theorem L5{R:List aQ}(hR:dQ R){p:a05}{o:Bool}:qe L R p o=some (match uS R p o with
 |some k=>((k:Int),true)
 |none=>(0,false)):=by
 unfold qe
 have hR1:=hR.1
 rw[jy (γ:=Int×Bool) R (fun i (r:aQ)=>if qy r.cI (fun b=>a3G b p o)=true then some ((i:Int),true)else none) (by omega) hM ?hf ?hs]
 case hf=>
  intro i hi
  rw[a2a (show(i:Int)<(R.length:Int) by omega),cond_true,jg,a08,iF hi,Bool.not_false,eW,eW]
  have hg:R.getD i aQ.az=R[i]:=by simp[List.getD,hi]
  rw[hg]
  have hb:=(hR.2 _ (List.getElem_mem hi)).1
  rw[jy (γ:=Int×Bool) R[i].cI (fun _ b=>if a3G b p o=true then some ((i:Int),true)else none) (by omega) hM ?hf2 ?hs2]
  case hf2=>
   intro j hj
   rw[a2a (show(j:Int)<(R[i].cI.length:Int) by omega),cond_true,jg,a08,iF hj,Bool.not_false,eW,eW,uW,show R[i].cI.getD j aU.az=R[i].cI[j] by simp[List.getD,hj],cG j (by omega)]
   show(bif a3G R[i].cI[j] p o then _ else _)=_
   cases a3G R[i].cI[j] p o<;>rfl
  case hs2=>rw[a0k (by omega)];rfl
  rw[pn,cG i (by omega)]
  split<;>rfl
 case hs=>rw[a0k (by omega)];rfl
 have e:∀(R:List aQ) (i:Nat),firstP (fun i (r:aQ)=>if qy r.cI (fun b=>a3G b p o)=true then some ((i:Int),true)else none) i R=Option.map (fun k:Nat=>((k:Int),true)) (firstP (fun i (r:aQ)=>if qy r.cI (fun b=>a3G b p o)=true then some i else none) i R):=by
  intro R
  induction R with
  |nil=>intro i;rfl
  |cons r R ih=>
   intro i
   rw[nE,nE,ih]
   split<;>rfl
 rw[e]
 show Option.bind (some (AL (Option.map _ (uS R p o)))) _=_
 cases uS R p o<;>rfl
theorem JK{R:List aQ}(hR:dQ R){p:a05}{o:Bool}{k:Option (Int×Int)}:jN L R p o k=match je R p o with
 |some y=>some y
 |none=>k:=by
 unfold jN
 have hR1:=hR.1
 rw[jy (γ:=Int×Int) R (fun i (r:aQ)=>if r.cO≠1/\qy r.cI (fun b=>ry b p o)=true then some (0,(i:Int))else none) (by omega) hM ?hf ?hs]
 case hf=>
  intro i hi
  rw[a2a (show(i:Int)<(R.length:Int) by omega),cond_true,jg,a08,iF hi,Bool.not_false,eW,eW]
  have hg:R.getD i aQ.az=R[i]:=by simp[List.getD,hi]
  rw[hg]
  have hb:=(hR.2 _ (List.getElem_mem hi)).1
  rw[jy (γ:=Int×Int) R[i].cI (fun _ b=>if(!(aH R[i].cO 1)&&ry b p o)=true then some (0,(i:Int))else none) (by omega) hM ?hf2 ?hs2]
  case hf2=>
   intro j hj
   rw[a2a (show(j:Int)<(R[i].cI.length:Int) by omega),cond_true,jg,a08,iF hj,Bool.not_false,eW,eW,K1,show R[i].cI.getD j aU.az=R[i].cI[j] by simp[List.getD,hj],cG j (by omega)]
   cases aH R[i].cO 1<;>cases ry R[i].cI[j] p o<;>rfl
  case hs2=>rw[a0k (by omega)];rfl
  rw[pn (f:=fun b=> !(aH R[i].cO 1)&&ry b p o),cG i (by omega)]
  by_cases ha:R[i].cO=1
  ·have:¬qy R[i].cI (fun b=> !true&&ry b p o)=true:=by unfold qy;simp
   rw[a3b ha,if_neg this,if_neg (fun h=>h.1 ha)];rfl
  ·rw[l7 ha]
   show(Option.bind (some (AL (if qy R[i].cI (fun b=>ry b p o)=true then _ else _))) _)=_
   by_cases hc:qy R[i].cI (fun b=>ry b p o)=true
   ·rw[if_pos hc,if_pos ⟨ha,hc⟩];rfl
   ·rw[if_neg hc,if_neg (fun h=>hc h.2)];rfl
 case hs=>rw[a0k (by omega)];rfl
 show Option.bind (some (AL (je R p o))) _=_
 cases je R p o<;>rfl
theorem wJ{R:List aQ}(hR:dQ R){p:a05}{o:Bool}:j5 L R p o=some (actP R p o):=by
 unfold j5 pD tr actP
 rw[L5 hL hM hR]
 have dH:∀{Q:List aQ},dQ Q->∀{d:Int×Int},(bif(iE p).1 then jN L Q p o (some d)else bif(iE p).2 then jN L Q p o (some d)else some d)=some ((if((iE p).1||(iE p).2)=true then je Q p o else none).getD d):=fun{Q} hQ {d}=>by
  rw[JK hL hM hQ]
  cases(iE p).1<;>cases(iE p).2<;>cases je Q p o<;>rfl
 cases e:uS R p o with
 |some k=>
  have hk:=(Ag e).1
  show(aJ (!(aF (k:Int) 0))<|aJ (Nat.blt k R.length)<|bif !(aH (R.getD k aQ.az).cO 1)then aJ (!(aF (k:Int) 0))<|aJ (Nat.blt k R.length)<|some ((R.getD k aQ.az).cO,(k:Int))else aJ (!(aF (k:Int) 0))<|aJ ((Nat.ble 0 k)&&(Nat.ble k R.length))<|Option.bind (a2J L p) _)=some (if(R.getD k aQ.az).cO≠1 then((R.getD k aQ.az).cO,(k:Int))else(if((iE p).1||(iE p).2)=true then je (R.take k) p o else none).getD (1,(k:Int)))
  rw[jg,iF hk,jU (Nat.zero_le k),jU (show k<=R.length by omega),a4i]
  by_cases ha:(R.getD k aQ.az).cO=1
  ·rw[a3b ha,if_neg (fun h=>h ha)]
   exact dH (Q:=R.take k) ⟨by rw[List.length_take];have:=hR.1;omega,fun r hr=>hR.2 r (List.mem_of_mem_take hr)⟩
  ·rw[l7 ha,if_pos ha];rfl
 |none=>
  show Option.bind (a2J L p) _=_
  rw[a4i]
  exact dH hR
end
end Go.Proofs.YtehbbcdhahnkgaaGreat.Vm
