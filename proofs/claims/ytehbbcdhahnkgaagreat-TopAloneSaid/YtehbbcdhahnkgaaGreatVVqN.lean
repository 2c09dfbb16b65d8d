/- Plain functions: children are replaced. -/
import Derived.Test.YtehbbcdhahnkgaaGreatVVqG
set_option linter.all false
set_option maxRecDepth 100000
set_option maxHeartbeats 0
namespace Go.Proofs.YtehbbcdhahnkgaaGreat.Vm
open Go
section
variable {w:Int}{S S':List jn}{D:Dl}{R:List aQ}{X X':Cr}{g g':aa}{L:Nat}
variable (hL:5000<L)(hM:L<=4611686018427387904)
include hL hM
theorem CN(q:GI w S D R {} g)(hR:dQ R)(b:Bd g)(b2:g.count<=400000){x:Int}:Ok (qi L g x) fun y=>y.2.2=0->GI w S D R {} y.1/\cA 2 g y.1/\bE S y.2.1:=by
 unfold qi
 have no:∀{n:Int},n≠0->Ok (some (g,([]:List aj),n)) fun y=>y.2.2=0->GI w S D R {} y.1/\cA 2 g y.1/\bE S y.2.1:=fun{n} hn=>ae fun h=>absurd h hn
 refine(q.Ji hL hM).bind fun y hy=> ?_
 rcases hy with⟨rfl,_⟩|⟨j,c,rfl,hj,_⟩
 ·exact aM (fun _=>no (by decide)) fun h=>absurd (by decide:(-1:Int)<0) h
 refine aM (fun h=>by omega) fun _=>ay (by omega) (a03 (bL hj) ?_)
 simp only[a08,bB hj]
 refine(q.at_ hL hM).bind fun y4 hy4=> ?_
 rcases hy4 with⟨rfl,_⟩|⟨i,s,rfl,hi,hsa⟩
 ·exact aM (fun _=>no (by decide)) fun h=>absurd (by decide:(-1:Int)<0) h
 refine aM (fun h=>by omega) fun _=>aP (fun _=>no (by decide)) fun _=>ay (by omega) (a03 (bL hi) ?_)
 simp only[a08,bB hi]
 refine vE.bind fun y6 h6=>bn (fun _=>no (by decide)) fun e6=>bX (fun _=>no (by decide)) fun hc=> ?_
 obtain⟨f1,f2,_⟩:=h6 e6
 have hc0:=q.lG
 obtain⟨q2,fr,_⟩:=q.wU
 rw[q.AJ b,q.FJ b,q.dZ (k:=g.count+1) (by omega) (by omega),<-hsa]
 have hn:Nm w (T.name (add (mul g.av 1048576) (g.count+2))):=q.name b (by omega) (by omega)
 refine(a36 (g:=aa.dj g (g.count+2)) hR q.dh).bind fun y7 h7=>(mw hL hM h7).bind fun y8 ⟨l,hl1,hl2⟩=> ?_
 obtain⟨o1,o2,o3,o4⟩:=tG (S:=S) (a:=base w+(g.count+1)) hl1 hl2
 have hp:=ve (w:=w) (S:=S) (l:=[T.a01 (TL.of [T.aG 13,T.aG x]),T.a01 (TL.of [T.aG 10,T.aG (base w+(g.count+1))]),y8]) (by simp) (fun t ht=>by
  simp only[List.mem_cons,List.mem_nil_iff,or_false]at ht
  rcases ht with rfl|rfl|rfl
  ·exact kp (n:=13) (l:=[_]) (by simp)
  ·exact kp (n:=10) (l:=[_]) (by simp)
  ·exact o4 S) ((gD (n:=13) (l:=[_]) (by decide)).trans o2) hn
 refine(vA hL hM q2 (i:=i) (s:=s) (r:=a04.az (ax:=4) (dx:=T.name (add (mul g.av 1048576) (g.count+2))) (dZ:=base w+(g.count+1)) (dF:=x) (dm:=c.dm) (box:=c.box)) (b.one (by omega)) hi (by omega) hp.1 hp.2 (fun _=>hn) ⟨Nat.zero_le _,trivial⟩ ⟨Nat.zero_le _,trivial⟩ (fun _ h=>by omega) (fun _=>fr) (fun h=>absurd h (by show¬(4:Int)=5;decide)) (fun _=>⟨rfl,rfl,rfl,?_⟩) rfl).bind fun y9 ⟨a1,a2,a3,_⟩=>ae fun _=>⟨a1,((cA.up (g:=g) (n:=g.count+2) (by omega)).trans a2).le (by omega),a3⟩
 have hc:(g.af.length:Int)<12:=hc
 show g.af.length<=11;omega
set_option maxHeartbeats 4000000 in
theorem Ac(q:GI w S D R {} g)(hR:dQ R)(b:Bd g)(b2:g.count<=400000){x:Int}{m:bW}{cq:Int}(hx:∀s∈g.u4,s.own=x->3<=s.state)(hp:sI w S m.parts):
 Ok (nn L g x m cq) fun y=>GI w S D R {} y.1/\cA 2 g y.1/\bE S y.2:=by
 unfold nn
 have ans:∀{g':aa} {parts:TL},GI w S D R {} g'->cA 2 g g'->g'.u4=g.u4->qH w S parts->Ok (Option.bind (a09 L g' x m cq parts) fun y=>some y) fun y=>GI w S D R {} y.1/\cA 2 g y.1/\bE S y.2:=fun{g' parts} hq ha hs ho=>
  (ny hL hM hq (cq:=cq) (m:=m) (by rw[hs];exact hx) ho.1 ho.2).bind fun y ⟨a1,a2,a3,_⟩=>ae ⟨a1,(ha.trans a2).le (by decide),a3⟩
 have a0:cA 2 g g:=cA.rfl.le (by decide)
 have unk:∀s:Sa,Ok (Option.bind (j9 L s) fun y12=>Option.bind (a09 L g x m cq (TL.of [T.a01 (TL.of [T.aG 12,T.aG y12])])) fun y=>some y) fun y=>GI w S D R {} y.1/\cA 2 g y.1/\bE S y.2:=fun s=>by
  refine Ok.bind (P:=fun _=>True) ?_ fun n _=>ans q a0 rfl jH
  unfold j9
  exact aC (fun _=>ae trivial) fun _=>aC (fun _=>ae trivial) fun _=>ae trivial
 refine(q.at_ hL hM).bind fun y hy=> ?_
 rcases hy with⟨rfl,_⟩|⟨i,s,rfl,hi,rfl⟩
 ·exact aM (fun _=>ae ⟨q,a0,bE.nil⟩) fun h=>absurd (by decide:(-1:Int)<0) h
 refine aM (fun h=>by omega) fun _=>ay (by omega) (a03 (bL hi) ?_)
 simp only[a08,bB hi]
 refine GJ.bind fun y6 h6=> ?_
 refine bJ (fun _=> ?_) fun e6=> ?_
 ·exact ans q a0 rfl jH
 have h3:=hx s (bC hi) rfl
 rw[tV hL hM hp.1.1,lF hL hM hp.1.1,lF hL hM hp.1.1]
 refine aD (ae (aD (ae (bn (fun _=>ans q a0 rfl jH) fun e7=>bX (fun _=>ans q a0 rfl jH) fun _=>aD (ae ?_)))))
 obtain⟨x0,hx0⟩:=Option.isSome_iff_exists.1 e7
 have hth:Nm (1-w) ((fI m.parts).getD (0,0,.nil)):=by rw[hx0];exact hp.nm hx0
 refine bJ (fun _=> ?_) fun _=>(q.Ji hL hM).bind fun _ _=>ay (by omega) (a03 (bL hi) (unk _))
 refine(U6 hL hM q).bind fun y10 _=>(q.Ji hL hM).bind fun y11 hy11=>aC (fun _=>ay (by omega) (a03 (bL hi) (unk _))) fun _=> ?_
 rcases hy11 with⟨rfl,_⟩|⟨j,c,rfl,hj,_⟩
 ·exact aM (fun _=>ay (by omega) (a03 (bL hi) (unk _))) fun h=>absurd (by decide:(-1:Int)<0) h
 refine aM (fun h=>by omega) fun _=>ay (by omega) (a03 (bL hj) ?_)
 simp only[a08,bB hj]
 refine aP (fun _=>ans q a0 rfl jH) fun _=>bX (fun _=>ans q a0 rfl jH) fun hlen=>ay (by omega) (a03 (bL hj) (ay (by omega) (a03 (bL hi) ?_)))
 have hc0:=q.lG
 obtain⟨q2,fr,_⟩:=q.wU
 rw[q.AJ b,q.FJ b,q.dZ (k:=g.count+1) (by omega) (by omega)]
 have hn:Nm w (T.name (add (mul g.av 1048576) (g.count+2))):=q.name b (by omega) (by omega)
 have hs:=q.u4 s (bC hi)
 refine(BL (w:=w) hn hth hs.dn).bind fun d ⟨d1,d2,d3,_,_⟩=> ?_
 have hkid:=q.xZ
 have hlen:(g.af.length:Int)<12:=hlen
 have q3:=q2.yP (X':={}) (c:=d) d1 (by rw[d2];exact fr.no) (by rw[d2];exact fr.lo) (by rw[d2];exact fr.hi) (by rw[d2];exact fr.uL) ⟨s,bC hi,d3.symm,h3⟩ ⟨rfl,rfl,rfl,.inl ⟨rfl,rfl,rfl,rfl,by show g.af.length<=11;omega⟩⟩
 have hj3:(g.af++[d])[j]?=some c:=by rw[List.getElem?_append_left (bL hj)];exact hj
 obtain⟨v,hv⟩:∃v,v=base w+(g.count+1):=⟨_,rfl⟩
 rw[<-hv]at fr d2⊢
 have hcc:=q.dF c (bC hj)
 have hc4:uU w (a00.eT c v):=⟨hcc.ours,hcc.bO,hcc.ki,hcc.ko,hcc.kin,hcc.kon,hcc.X1,hcc.s0,hcc.s1⟩
 have hc5:uU w (a00.gJ (a00.eT c v) 2):=⟨hcc.ours,hcc.bO,hcc.ki,hcc.ko,hcc.kin,hcc.kon,hcc.X1,hcc.s0,hcc.s1⟩
 have q4:=q3.pL (c':=a00.eT c v) hj3 hc4 rfl rfl fun n h=>h
 have hj4:((g.af++[d]).set j (a00.eT c v))[j]?=some (a00.eT c v):=List.getElem?_set_self (bL hj3)
 have q5:=q4.pL (c':=a00.gJ (a00.eT c v) 2) hj4 hc5 rfl rfl fun n h=>h
 simp only[bB hj3,bB hj4]
 refine bD (cF (by simp;omega)) (ay (by omega) (a03 (bL hj3) (ay (by omega) (a03 (bL hj4) ?_))))
 refine Ok.bind (a36 hR ?hr) fun y13 h13=> ?_
 case hr=>exact q.dh
 refine(mw hL hM h13).bind fun y14 ⟨l,hl1,hl2⟩=> ?_
 obtain⟨o1,o2,o3,o4⟩:=tG (S:=S) (a:=v) hl1 hl2
 have ho:=ve (w:=w) (S:=S) (l:=[T.a01 (TL.of [T.aG 10,T.aG v]),y14]) (by simp) (fun t ht=>by
  simp only[List.mem_cons,List.mem_nil_iff,or_false]at ht
  rcases ht with rfl|rfl
  ·exact kp (n:=10) (l:=[_]) (by simp)
  ·exact o4 S) o2 hn
 have q6:GI w S D R {} (aa.bw g (count:=g.count+2) (af:=((g.af++[d]).set j (a00.eT c v)).set j (a00.gJ (a00.eT c v) 2))):=q5.same rfl rfl rfl rfl rfl rfl rfl rfl rfl rfl rfl rfl
 exact ans q6 ⟨rfl,by show g.count<=g.count+2;omega,by show g.count+2<=g.count+2;omega⟩ rfl ho
theorem qG{a b:Tm}(ha:a.cP)(hb:b.cP):Ok (gg L a b) fun y=>y.cP:=by
 unfold gg vq
 refine Ok.bind (P:=fun _=>True) ?_ fun c _=>bJ (fun _=>ae ha) fun _=>ae hb
 have rk:∀t:Tm,Ok (qX L t) fun _=>True:=fun t=>by unfold qX;exact ae trivial
 exact(rk a).bind fun _ _=>(rk b).bind fun _ _=>aP (fun _=>ae trivial) fun _=>a2P hL hM ha (ae trivial)
theorem NW{a b c d:Tm}(ha:a.cP)(hb:b.cP)(hc:c.cP)(hd:d.cP):Ok (qj L (a,b,c,d)) fun y=>y.cP:=by
 unfold qj
 exact(qG hL hM ha hb).bind fun _ h1=>(qG hL hM hc hd).bind fun _ h2=>(qG hL hM h1 h2).bind fun _ h3=>ae h3
theorem Kb(q:GI w S D R {} g)(b:Bd g){x y:Int}(hx:∃c∈g.af,c.eI=x)(hy:∃c∈g.af,c.eI=y):Ok (eX L g x y) fun z=>GI w S D R {} z.1/\cA 0 g z.1/\bE S z.2:=by
 unfold eX
 have gv:∀{g':aa} {v:Int},GI w S D R {} g'->Bd g'->cA 0 g g'->Ok (Option.bind (dW L g' v) fun y=>some y) fun z=>GI w S D R {} z.1/\cA 0 g z.1/\bE S z.2:=fun{g' v} hq hb ha=>
  (KD hL hM hq hb).bind fun y ⟨a1,a2,a3⟩=>ae ⟨a1,(ha.trans a2).le (by decide),a3⟩
 refine(q.Ji hL hM).bind fun y4 h4=> ?_
 rcases h4 with⟨_,h⟩|⟨i,c,rfl,hi,_⟩
 ·obtain⟨c,c1,c2⟩:=hx;exact absurd c2 (h c c1)
 refine ay (by omega) (a03 (bL hi) ((q.Ji hL hM).bind fun y5 h5=> ?_))
 rcases h5 with⟨_,h⟩|⟨j,n,rfl,hj,_⟩
 ·obtain⟨c,c1,c2⟩:=hy;exact absurd c2 (h c c1)
 refine ay (by omega) (a03 (bL hj) ?_)
 simp only[a08,bB hi,bB hj]
 refine(q.Ji hL hM).bind fun y6 h6=>aC (fun _=>gv q b cA.rfl) fun _=> ?_
 rcases h6 with⟨rfl,_⟩|⟨k,v,rfl,hk,_⟩
 ·exact aM (fun _=>gv q b cA.rfl) fun h=>absurd (by decide:(-1:Int)<0) h
 refine aM (fun h=>by omega) fun _=>ay (by omega) (a03 (bL hk) ?_)
 simp only[a08,bB hk]
 have hn:=q.dF n (bC hj)
 have hv:=q.dF v (bC hk)
 refine(NW hL hM hn.ours.2.2 hn.bO.2.2 hv.ours.2.2 hv.bO.2.2).bind fun y7 h7=>a2P hL hM h7 (aC (fun _=>gv q b cA.rfl) fun _=>a2P hL hM h7 (aC (fun _=>gv q b cA.rfl) fun _=>ay (by omega) (a03 (bL hk) ?_)))
 exact gv (q.pL (c':=a00.gJ v 2) hk {hv with} rfl rfl fun n h=>h) ⟨b.lG,b.bA⟩ cA.rfl
theorem CM(q:GI w S D R X g)(hX:X.ex=0/\X.ze=0)(hR:dQ R)(b:Bd g){i:Nat}{s:Sa}(hi:g.u4[i]?=some s)(h3:3<=s.state){m:bW}{r:a04}(hp:sI w S m.parts)(hr:Nm w r.dx)(hf:kY r.dZ w D g)(hz:1<=X.zr)(hgn:r.gone.length<=D.k)(hK:D.k<L):
 Ok (qh L g s.own m r) fun y=>GI w S D R {} y.1/\cA 0 g y.1/\bE S y.2:=by
 have rest:∀{g':aa},GI w S D R X g'->cA 0 g g'->g'.u4=g.u4->kY r.dZ w D g'->Ok (Option.bind (jA L (bW.parts m)) fun y7=>
  bif !y7.2 then some (g',[])else
  Option.bind (gZ L g' s.own (bW.parts m) r (a04.dx r) y7.1) fun y8=>
  Option.bind (a0f L y8.1 (a04.dF r)) fun y9=>
  bif !y8.2.2 then some (y8.1,[])else
  bif aH y8.2.1 0 then
   Option.bind (dW L y8.1 (a04.dF r)) fun y10=>
   some y10
  else
  bif aF y9 0 then
   Option.bind (dW L y8.1 y8.2.1) fun y10=>
   some y10
  else
  aJ (!(aF y9 0))<|
  aJ (Nat.blt (Int.toNat y9) ((aa.af y8.1).length))<|
  bif !(aH (a00.state ((aa.af y8.1).getD (Int.toNat y9) a00.az)) 3)then
   Option.bind (eX L (aa.ck y8.1 (List.set (aa.af y8.1) (Int.toNat y9) (a00.bw ((aa.af y8.1).getD (Int.toNat y9) a00.az) (state:=2) (next:=y8.2.1)))) (a04.dF r) y8.2.1) fun y10=>
   some y10
  else
  Option.bind (eX L (aa.ck y8.1 (List.set (aa.af y8.1) (Int.toNat y9) (a00.jh ((aa.af y8.1).getD (Int.toNat y9) a00.az) y8.2.1))) (a04.dF r) y8.2.1) fun y10=>
  some y10) fun y=>GI w S D R {} y.1/\cA 0 g y.1/\bE S y.2:=fun{g'} q' ha hsas hf'=>by
  have qw:GI w S D R {} g':=q'.a4o (.inl hX.1.symm) (Nat.zero_le _) (.inr rfl) (Nat.zero_le _) (by show X.ze<=0;omega)
  have q1:GI w S D R {zr:=1} g':=q'.a4o (.inl hX.1.symm) hz (.inr rfl) (Nat.zero_le _) (by show X.ze<=0;omega)
  have hi':g'.u4[i]?=some s:=by rw[hsas];exact hi
  have b':Bd g':=⟨by have:=ha.2.2;have:=b.lG;omega,by rw[ha.1];exact b.bA⟩
  rw[tV hL hM hp.1.1]
  refine aD (ae (bn (fun _=>ae ⟨qw,ha,bE.nil⟩) fun e7=> ?_))
  obtain⟨x0,hx0⟩:=Option.isSome_iff_exists.1 e7
  have hth:Nm (1-w) ((fI m.parts).getD (0,0,.nil)):=by rw[hx0];exact hp.nm hx0
  refine(BN hL hM q1 (X':={}) hR hi' h3 hp.1 hr hth hf' ⟨rfl,rfl,rfl,.inr (.inl ⟨by decide,rfl⟩)⟩ qw hgn hK).bind fun y8 ⟨t1,t2,t3,t4,t5,t6⟩=> ?_
  have ha8:cA 0 g y8.1:=(ha.trans t2).le (by decide)
  have b8:Bd y8.1:=⟨by have:=ha8.2.2;have:=b.lG;omega,by rw[ha8.1];exact b.bA⟩
  have gv:∀{v:Int},Ok (Option.bind (dW L y8.1 v) fun y=>some y) fun z=>GI w S D R {} z.1/\cA 0 g z.1/\bE S z.2:=fun{v}=>
   (KD hL hM t1 b8).bind fun y ⟨a1,a2,a3⟩=>ae ⟨a1,(ha8.trans a2).le (by decide),a3⟩
  refine(t1.Ji hL hM).bind fun y9 hy9=>bn (fun _=>ae ⟨t1,ha8,bE.nil⟩) fun _=>aC (fun _=>gv) fun hne=> ?_
  rcases hy9 with⟨rfl,_⟩|⟨j,c,rfl,hj,hc⟩
  ·exact aM (fun _=>gv) fun h=>absurd (by decide:(-1:Int)<0) h
  have hnew:∃d∈y8.1.af,d.eI=y8.2.1:=by
   rcases t6 with⟨_,h⟩|⟨d,h1,h2⟩
   ·exact absurd h hne
   ·exact⟨d,by rw[h1];simp,h2⟩
  have dec:∀{c':a00},uU w c'->c'.eI=c.eI->c'.sa=c.sa->(∀n,seen c.iS n->seen c'.iS n)->Ok (Option.bind (eX L (aa.ck y8.1 (List.set (aa.af y8.1) j c')) (a04.dF r) y8.2.1) fun y=>some y) fun z=>GI w S D R {} z.1/\cA 0 g z.1/\bE S z.2:=fun{c'} e1 e2 e3 e4=>by
   have hin:∀v,(∃d∈y8.1.af,d.eI=v)->∃d∈y8.1.af.set j c',d.eI=v:=fun v ⟨d,d1,d2⟩=>by
    obtain⟨k,hk⟩:=List.mem_iff_getElem?.1 d1
    by_cases e:k=j
    ·subst e
     rw[hj]at hk;cases hk
     exact⟨c',List.mem_of_getElem? (i:=k) (List.getElem?_set_self (bL hj)),by rw[e2];exact d2⟩
    ·exact⟨d,List.mem_of_getElem? (i:=k) (by rw[List.getElem?_set_ne (by omega)];exact hk),d2⟩
   exact(Kb hL hM (t1.pL hj e1 e2 e3 e4) ⟨b8.lG,b8.bA⟩ (hin _ ⟨c,bC hj,hc⟩) (hin _ hnew)).bind fun y ⟨a1,a2,a3⟩=>ae ⟨a1,(ha8.trans a2).le (by decide),a3⟩
  refine aM (fun h=>by omega) fun _=>ay (by omega) (a03 (bL hj) ?_)
  simp only[a08,bB hj]
  refine aP (fun _=>dec {t1.dF c (bC hj)with} rfl rfl fun n h=>h) fun _=>dec {t1.dF c (bC hj)with} rfl rfl fun n h=>h
 unfold qh
 rw[lF hL hM hp.1.1]
 refine aD (ae (bJ (fun _=>aC (fun _=> ?_) fun _=>rest q cA.rfl rfl hf) fun _=>rest q cA.rfl rfl hf))
 exact(F4 hL hM q).bind fun y6 ⟨d1,d2,d3,d4⟩=>rest d1 d2 d3 (d4 _ hf)
end
section
variable {w:Int}{S S':List jn}{D:Dl}{R:List aQ}{X X':Cr}{g g':aa}{L:Nat}
theorem GI.Nl(q:GI w S D R X g)(b:Bd g):add (add (add g.count 1) 1) 1=g.count+3:=by
 have:=b.lG;have:=q.lG
 rw[q.AJ b,fK (by omega) (by omega)];omega
theorem GI.BW(q:GI w S D R X g):GI w S D R X (aa.dj g (g.count+3))/\kY (base w+(g.count+1)) w D (aa.dj g (g.count+3)):=by
 obtain⟨q1,f1,_⟩:=q.wU
 obtain⟨q2,f2⟩:=q1.sP (n:=g.count+3) (by show g.count+3=g.count+2+1;omega)
 exact⟨q2,f1.count (n:=g.count+3) (by show g.count+2<=g.count+3;omega)⟩
theorem HH{t:Tm}(h:t.cP):(T.A9 t).cP:=⟨(by show 1<=5000;decide),h.1,h.2,trivial⟩
theorem BF{a:Int}{o p s:Tm}(ho:Nm w o)(hp:aZ S p)(hs:s.cP):qH w S (TL.of [T.a01 (TL.of [T.aG 10,T.aG a]),T.a01 (TL.of [T.aG 3,o]),T.a01 (TL.of [T.aG 2,p,T.A9 s])]):=by
 refine⟨GL.of (by simp) fun t ht=> ?_,fun x hx=> ?_⟩
 ·simp only[List.mem_cons,List.mem_nil_iff,or_false]at ht
  rcases ht with rfl|rfl|rfl
  ·exact kp (n:=10) (l:=[_]) (by simp)
  ·exact aZ.part (l:=[o]) (by simp) fun t ht=>by rw[List.mem_singleton]at ht;subst ht;exact ho.KE
  ·exact aZ.part (l:=[p,T.A9 s]) (by simp) fun t ht=>by
    simp only[List.mem_cons,List.mem_nil_iff,or_false]at ht
    rcases ht with rfl|rfl
    ·exact hp
    ·exact aZ.vR (HH hs) (.inr (.inr (.inl rfl)))
 ·have e:fnd (TL.of [T.a01 (TL.of [T.aG 10,T.aG a]),T.a01 (TL.of [T.aG 3,o]),T.a01 (TL.of [T.aG 2,p,T.A9 s])]) 3=(TL.of [o],true):=by
   rw[gD (n:=10) (l:=[_]) (by decide)]
   show fnd (.cons 3 0 (TL.of (T.aG 3::[o])) _) 3=_
   rw[tc,if_pos rfl]
  unfold fI at hx
  rw[e]at hx
  rw[if_pos ⟨rfl,ho.1⟩]at hx
  cases hx;exact ho.2.1
theorem pV.Ms{bA ex:Int}{s:Sa}(h:pV w S bA ex s)(v:Int):pV w S bA ex (Sa.jb s v):={h with}
theorem pV.TB{bA ex:Int}{s:Sa}(h:pV w S bA ex s)(v:Int):pV w S bA ex (Sa.eT s v):={h with}
theorem pV.Wh{bA ex:Int}{s:Sa}(h:pV w S bA ex s)(v:Int):pV w S bA ex (Sa.jh s v):={h with}
theorem pV.wNF{bA ex:Int}{s:Sa}(h:pV w S bA ex s)(v u:Int):pV w S bA ex (Sa.bw s (next:=v) (follows:=u)):={h with}
variable (hL:5000<L)(hM:L<=4611686018427387904)
include hL hM
theorem HM{l:TL}(h:GL S l):Ok (ku L l) fun y=>y.2.2.2.2=true->fI l=some y.2.1/\aZ S y.2.2.1/\y.2.2.2.1.cP:=by
 unfold ku
 rw[lF hL hM h.1,fH hL hM h.1,fH hL hM h.1]
 refine aD (ae (aD (ae (aD (ae ?_)))))
 have no:Ok (some ((0:Int),((0:Int),(0:Int),TL.nil),((0:Int),(0:Int),TL.nil),((0:Int),(0:Int),TL.nil),false)) fun y:Int×Tm×Tm×Tm×Bool=>y.2.2.2.2=true->fI l=some y.2.1/\aZ S y.2.2.1/\y.2.2.2.1.cP:=ae fun h=>by cases h
 refine bX (fun _=>no) fun _=>aP (fun _=>no) fun h1=>a03 (by omega) (aP (fun _=>no) fun h2=>aP (fun _=>no) fun h3=>a03 (by omega) (aP (fun _=>no) fun _=>a03 (by omega) (aP (fun _=>no) fun _=>a03 (by omega) (a03 (by omega) (a03 (by omega) (ae fun _=>⟨?_,(jW h).get 0,((jW h).get 1).1⟩))))))
 have h1:(fnd l 3).1.len=1:=by have:(((fnd l 3).1.len:Nat):Int)=1:=h1;omega
 exact if_pos ⟨h1,h2⟩
omit hL hM in
theorem Hy{s:Sa}{a b bA ex:Int}{i:Bool}{o t sh:Tm}(ho:Nm w o)(ht:Nm (1-w) t)(hd:s.d.cP)(hs:sh.cP)(hnow:0<=bA):Ok (a2V L s a b i o t sh bA) fun n=>pV w S bA ex n/\n.own=a/\n.state=3/\n.follows=0/\n.pending=a04.az/\n.ours=o/\n.bO=t:=by
 have hz:Tm.cP (0,0,TL.nil):=⟨Nat.zero_le _,trivial⟩
 have hk:∀{u v:Tm},u.cP->v.cP->Tm.cP (T.derive 1 (TL.of [s.d,u,v,sh])):=fun{u v} hu hv=>⟨(by show 4<=5000;decide),hd.1,hd.2,hu.1,hu.2,hv.1,hv.2,hs.1,hs.2,trivial⟩
 have hk2:∀(n x y:Int) {k:Tm},k.cP->Tm.cP (T.derive n (TL.of [k,T.aG x,T.aG y])):=fun n x y {k} h=>⟨(by show 3<=5000;decide),h.1,h.2,Nat.zero_le _,trivial,Nat.zero_le _,trivial,trivial⟩
 have mk:∀{n:Sa},n.ours=o->n.bO=t->n.state=3->Jl n.out/\Jl n.eI/\a4n n.out=o/\a4n n.eI=t->n.out.cP->n.eI.cP->n.d.cP->n.first=zT->n.bY=zT->n.sE=zT->n.pending=a04.az->n.eC=bA->pV w S bA ex n:=fun{n} e1 e2 e3 e4 e5 e6 e7 e8 e9 OW He TX=>by
  refine⟨by rw[e1];exact ho,by rw[e2];exact ht.2.2,.inr (.inr (.inl e3)),fun _=>by rw[e1,e2];exact e4,e5,e6,e7,by rw[e8];exact hz,fun h=>by omega,by rw[e9];exact hz,fun h=>by omega,fun _=>by rw[e2];exact ht,by rw[He];exact aZ.zero,by rw[OW];exact aZ.zero,fun h=> ?_,by rw[He];exact hz,by rw[He];exact hz,fun h=>by omega,fun h=>by omega,fun _ h=>by omega,fun h=> ?_,by rw[TX];exact⟨hnow,Int.le_refl _⟩⟩
  ·rw[He]at h;rcases h with h|h|h<;>exact absurd h (by show¬(0:Int)=_;decide)
  ·rw[He]at h;exact absurd rfl h
 unfold a2V
 refine bJ (fun _=> ?_) fun _=> ?_
 ·unfold kV iA eM
  refine aD (aD (ae (aD (ae (ae (ae ?_))))))
  exact⟨mk rfl rfl rfl ⟨⟨rfl,.inl rfl⟩,⟨rfl,.inr rfl⟩,rfl,rfl⟩ (hk2 3 _ _ (hk ho.2.2 ht.2.2)) (hk2 4 _ _ (hk ho.2.2 ht.2.2)) (hk2 2 _ _ (hk ho.2.2 ht.2.2)) rfl rfl rfl rfl rfl,rfl,rfl,rfl,rfl,rfl,rfl⟩
 ·unfold jX iA eM
  refine aD (aD (ae (aD (ae (ae (ae ?_))))))
  exact⟨mk rfl rfl rfl ⟨⟨rfl,.inr rfl⟩,⟨rfl,.inl rfl⟩,rfl,rfl⟩ (hk2 4 _ _ (hk ht.2.2 ho.2.2)) (hk2 3 _ _ (hk ht.2.2 ho.2.2)) (hk2 2 _ _ (hk ht.2.2 ho.2.2)) rfl rfl rfl rfl rfl,rfl,rfl,rfl,rfl,rfl,rfl⟩
theorem J3(q:GI w S D R {} g)(b:Bd g)(b2:g.count<=400000){x:Int}:Ok (a3i L g x) fun y=>y.2.2=0->GI w S D R {} y.1/\cA 3 g y.1/\bE S y.2.1:=by
 unfold a3i
 have no:∀{n:Int},n≠0->Ok (some (g,([]:List aj),n)) fun y=>y.2.2=0->GI w S D R {} y.1/\cA 3 g y.1/\bE S y.2.1:=fun{n} hn=>ae fun h=>absurd h hn
 refine(q.at_ hL hM).bind fun y4 hy4=> ?_
 rcases hy4 with⟨rfl,_⟩|⟨i,s,rfl,hi,rfl⟩
 ·exact aM (fun _=>no (by decide)) fun h=>absurd (by decide:(-1:Int)<0) h
 refine aM (fun h=>by omega) fun _=>ay (by omega) (a03 (bL hi) ?_)
 simp only[a08,bB hi]
 refine vE.bind fun y6 h6=>bn (fun _=>no (by decide)) fun e6=>bX (fun _=>no (by decide)) fun hc=>aC (fun _=>no (by decide)) fun _=>a03 q.MA.1 ?_
 obtain⟨f1,f2,_⟩:=h6 e6
 have hc0:=q.lG
 obtain⟨q2,fr⟩:=q.BW
 rw[q.Nl b,q.AJ b,q.FJ b,q.dZ (k:=g.count+1) (by omega) (by omega)]
 have hn:Nm w (T.name (add (mul g.av 1048576) (g.count+2))):=q.name b (by omega) (by omega)
 have hs:Nm w (T.name (add (mul g.av 1048576) (g.count+3))):=q.name b (by omega) (by omega)
 have hp:=BF (w:=w) (S:=S) (a:=base w+(g.count+1)) (p:=T.aG (g.dB.getD 0 0)) hn (aZ.aG _) hs.2.2
 unfold jB
 refine aD (ae ?_)
 have hc:(g.u4.length:Int)<8:=hc
 exact(vA hL hM q2 (i:=i) (s:=s) (r:=a04.az (ax:=5) (dx:=T.name (add (mul g.av 1048576) (g.count+2))) (eE:=T.name (add (mul g.av 1048576) (g.count+3))) (dZ:=base w+(g.count+1))) (b.one (by omega)) hi (by omega) hp.1 hp.2 (fun _=>hn) hs.2.2 ⟨Nat.zero_le _,trivial⟩ (fun _ h=>by omega) (fun _=>fr) (fun _=>⟨rfl,by show g.u4.length<=7;omega⟩) (fun h=>by rcases h with h|h<;>exact absurd h (by show¬(5:Int)=_;decide)) rfl).bind fun y9 ⟨a1,a2,a3,_⟩=>ae fun _=>⟨a1,((cA.up (g:=g) (n:=g.count+3) (by omega)).trans a2).le (by omega),a3⟩
theorem J1{s:Sa}:Ok (nq L s) fun b=>b=false->s.state=3:=by
 unfold nq
 refine aP (fun _=>ae fun h=>by cases h) fun h=>aP (fun _=>ae fun h=>by cases h) fun _=>aP (fun _=>ae fun h=>by cases h) fun _=>aP (fun _=>ae fun h=>by cases h) fun _=> ?_
 refine Ok.bind (P:=fun _=>True) ?_ fun y _=>by cases y<;>exact ae fun _=>h
 refine fq 4 (fun _=>True) (by omega) trivial (fun i hi _=> ?_) fun _=> ?_
 ·exact aM (fun _=>ay (by omega) (a03 (by rw[a08];exact hi) (aC (fun _=>ae trivial) fun _=>ae ⟨cG i (by omega),trivial⟩))) fun h=>absurd (show(i:Int)<4 by omega) h
 ·exact aM (fun h=>absurd h (by decide)) fun _=>ae trivial
omit hL hM in
theorem Pj{n:Sa}(h:n.pending=a04.az):(∀x,fZ x n=0)/\pSa n=0/\nj n=0:=by
 refine⟨fun x=> ?_,?_,?_⟩
 ·unfold fZ;rw[h]
  exact if_neg fun h=>by rcases h.1 with h|h|h|h<;>exact absurd h (by show¬(0:Int)=_;decide)
 ·unfold pSa;rw[h];rfl
 ·unfold nj;rw[h];rfl
omit hL hM in
theorem GI.cs{c:Int}{l l':List Sa}(q:GI w S D R X (aa.bI (aa.dj g c) l))(e:l'=l):GI w S D R X (aa.bw g (count:=c) (u4:=l')):=by
 subst e
 exact q.same rfl rfl rfl rfl rfl rfl rfl rfl rfl rfl rfl rfl
theorem EC(q:GI w S D R {} g)(b:Bd g)(b2:g.count<=400000){x:Int}{m:bW}{cq:Int}(hx:∀s∈g.u4,s.own=x->3<=s.state)(hp:sI w S m.parts):
 Ok (jP L g x m cq) fun y=>GI w S D R {} y.1/\cA 3 g y.1/\bE S y.2:=by
 unfold jP
 have ans:∀{g':aa} {parts:TL},GI w S D R {} g'->cA 3 g g'->(∀s∈g'.u4,s.own=x->3<=s.state)->qH w S parts->Ok (Option.bind (a09 L g' x m cq parts) fun y=>some y) fun y=>GI w S D R {} y.1/\cA 3 g y.1/\bE S y.2:=fun{g' parts} hq ha hs ho=>
  (ny hL hM hq (cq:=cq) (m:=m) hs ho.1 ho.2).bind fun y ⟨a1,a2,a3,_⟩=>ae ⟨a1,(ha.trans a2).le (by decide),a3⟩
 have a0:cA 3 g g:=cA.rfl.le (by decide)
 refine(q.at_ hL hM).bind fun y hy=> ?_
 rcases hy with⟨rfl,_⟩|⟨i,s,rfl,hi,rfl⟩
 ·exact aM (fun _=>ae ⟨q,a0,bE.nil⟩) fun h=>absurd (by decide:(-1:Int)<0) h
 refine aM (fun h=>by omega) fun _=>ay (by omega) (a03 (bL hi) ?_)
 simp only[a08,bB hi]
 refine(J1 hL hM).bind fun y6 h6=> ?_
 refine bJ (fun _=> ?_) fun e6=> ?_
 ·exact ans q a0 hx jH
 have h3:=h6 e6
 refine(HM hL hM hp.1).bind fun y7 h7=> ?_
 refine bn (fun _=> ?_) fun e7=> ?_
 ·exact ans q a0 hx jH
 refine bX (fun _=> ?_) fun hlen=> ?_
 ·exact ans q a0 hx jH
 obtain⟨r1,r2,r3⟩:=h7 e7
 have hth:=hp.nm r1
 have hc0:=q.lG
 obtain⟨q2,fr⟩:=q.BW
 rw[q.Nl b,q.AJ b,q.FJ b,q.dZ (k:=g.count+1) (by omega) (by omega)]
 have hn:Nm w (T.name (add (mul g.av 1048576) (g.count+2))):=q.name b (by omega) (by omega)
 have hsec:Nm w (T.name (add (mul g.av 1048576) (g.count+3))):=q.name b (by omega) (by omega)
 have hs:=q.u4 s (bC hi)
 refine(vz hL hM r3 hsec.2.2).bind fun y8 h8=>ay (by omega) (a03 (bL hi) ?_)
 refine(Hy (w:=w) (S:=S) (ex:=0) hn hth hs.dn h8 q.bA).bind fun n ⟨n1,n2,n3,n4,n5,_,_⟩=> ?_
 obtain⟨v,hv⟩:∃v,v=base w+(g.count+1):=⟨_,rfl⟩
 rw[<-hv]at fr n2⊢
 have hlen:(g.u4.length:Int)<8:=hlen
 have hi1:(g.u4++[n])[i]?=some s:=by rw[List.getElem?_append_left (bL hi)];exact hi
 have hi2:((g.u4++[n]).set i (Sa.eT s v))[i]?=some (Sa.eT s v):=List.getElem?_set_self (bL hi1)
 obtain⟨p1,p2,p3⟩:=Pj n5
 have hs':pV w S g.bA 0 (Sa.jb (Sa.eT s v) v):=(hs.TB v).Ms v
 obtain⟨s1,hs1⟩:∃s1,s1=Sa.eT s v:=⟨_,rfl⟩
 have k1:s1.own=s.own/\s1.state=s.state/\s1.pending=s.pending:=by rw[hs1];exact⟨rfl,rfl,rfl⟩
 rw[<-hs1]at hs' hi2
 have q3:=q2.JI (X':={}) (s':=Sa.jb s1 v) (n:=n) hi h3 hs' n1 k1.1 (by show s1.state=3;rw[k1.2.1];exact h3) (.inr n2.symm) (by rw[n2];exact fr.no) (by rw[n2];exact fr.lo) (by rw[n2];exact fr.hi) n4 n3 p1 p2 p3 (fun _=>by unfold fZ;show(if(s1.pending.ax=2∨s1.pending.ax=3∨s1.pending.ax=4∨s1.pending.ax=5)/\s1.pending.dZ=_ then 1 else 0)=_;rw[k1.2.2]) (by unfold pSa;show(if s1.pending.ax=5 then 1 else 0)=_;rw[k1.2.2]) (by unfold nj;show(if s1.pending.ax=3∨s1.pending.ax=4 then 1 else 0)=_;rw[k1.2.2]) rfl rfl rfl rfl (.inr ⟨rfl,by show g.u4.length<=7;omega⟩) (.inr ⟨rfl,by show g.u4.length<=7;omega⟩) (by show s1.pending.gone.length<=D.k;rw[k1.2.2];exact q.gone s (bC hi)) (by rw[n5];exact Nat.zero_le _)
 have q4:GI w S D R {} (aa.bw g (count:=g.count+3) (u4:=((g.u4++[n]).set i s1).set i (Sa.jb s1 v))):=q3.cs (List.set_set ..)
 simp only[bB hi1,<-hs1,bB hi2]
 have hl15:=q.len
 refine bD (cF (by simp;omega)) (ay (by omega) (a03 (bL hi1) (ay (by omega) (a03 (bL hi2) ?_))))
 unfold jB
 refine aD (ae (a03 (by show 2<3;decide) ?_))
 have hw:=BF (w:=w) (S:=S) (a:=v) (p:=y7.2.2.1) hn r2 hsec.2.2
 refine ans q4 ⟨rfl,by show g.count<=g.count+3;omega,by show g.count+3<=g.count+3;omega⟩ (fun t ht e=> ?_) hw
 have ht:t∈((g.u4++[n]).set i s1).set i (Sa.jb s1 v):=ht
 rcases kH ht with rfl|ht
 ·show 3<=s1.state;rw[k1.2.1];omega
 ·rcases kH ht with rfl|ht
  ·rw[k1.2.1];omega
  ·rcases List.mem_append.1 ht with ht|ht
   ·exact hx t ht e
   ·rw[List.mem_singleton]at ht;subst ht;omega
theorem Tg{a c:Sa}(ha:a.ours.cP/\a.bO.cP)(hc:c.ours.cP/\c.bO.cP):Ok (kI L a c) fun _=>True:=by
 unfold kI
 exact(qG hL hM ha.1 ha.2).bind fun _ h1=>(qG hL hM hc.1 hc.2).bind fun _ h2=>(qG hL hM h1 h2).bind fun _ h3=>a2P hL hM h3 (aC (fun _=>ae trivial) fun _=>a2P hL hM h3 (ae trivial))
theorem J2(q:GI w S D R X g)(hX:X.ex=0/\X.ze=0/\X.zl=0/\X.zr=0/\1<=X.zs)(b:Bd g){i:Nat}{s:Sa}(hi:g.u4[i]?=some s)(h3:s.state=3)(hp0:s.pending.ax=0){m:bW}{r:a04}(hp:sI w S m.parts)(hr:Nm w r.dx)(hrs:r.eE.cP)(hf:kY r.dZ w D g):
 Ok (a3h L g s.own m r) fun y=>GI w S D R {} y.1/\cA 0 g y.1/\bE S y.2:=by
 obtain⟨x1,x2,x3,x4,x5⟩:=hX
 have qw:GI w S D R {} g:=q.a4o (.inl x1.symm) (Nat.zero_le _) (.inr rfl) (Nat.zero_le _) (by show X.ze<=0;omega)
 have hs:=q.u4 s (bC hi)
 rw[x1]at hs
 unfold a3h
 rw[q.AI hL hM hi]
 refine aD (ae ?_)
 refine(HM hL hM hp.1).bind fun y6 h6=>aM (fun h=>by omega) fun _=>bn (fun _=>ae ⟨qw,cA.rfl,bE.nil⟩) fun e6=> ?_
 obtain⟨r1,r2,r3⟩:=h6 e6
 have hth:=hp.nm r1
 refine(vz hL hM r3 hrs).bind fun y7 h7=>ay (by omega) (a03 (bL hi) ?_)
 simp only[a08,bB hi]
 refine(Hy (w:=w) (S:=S) (ex:=0) hr hth hs.dn h7 q.bA).bind fun n ⟨n1,n2,n3,n4,n5,n6,n7⟩=> ?_
 have hl15:=q.len
 have hi1:(g.u4++[n])[i]?=some s:=by rw[List.getElem?_append_left (bL hi)];exact hi
 obtain⟨p1,p2,p3⟩:=Pj n5
 simp only[bB hi1]
 refine bD (cF (by simp;omega)) (ay (by omega) (a03 (bL hi1) ?_))
 have made:∀{s':Sa},pV w S g.bA 0 s'->s'.own=s.own->s'.state=3->s'.pending=s.pending->(s'.follows=s.follows∨s'.follows=n.own)->GI w S D R {ze:=1} (aa.bI g ((g.u4++[n]).set i s')):=fun{s'} a1 a2 a3 a4 a5=>
  q.JI (X':={ze:=1}) (n:=n) hi h3 (by rw[x1];exact a1) (by rw[x1];exact n1) a2 a3 a5 (by rw[n2];exact hf.no) (by rw[n2];exact hf.lo) (by rw[n2];exact hf.hi) n4 n3 p1 p2 p3 (fun x=>by unfold fZ;rw[a4]) (by unfold pSa;rw[a4]) (by unfold nj;rw[a4]) x1.symm x4.symm x3 rfl (.inl (by show 0+1<=X.zs;omega)) (.inl (by show 1=X.ze+1;omega)) (by rw[a4];exact q.gone s (bC hi)) (by rw[n5];exact Nat.zero_le _)
 have dH:∀{g':aa} {k:Nat} {t:Sa} {z:Int},GI w S D R {ze:=1} g'->g'.bA=g.bA->g'.count=g.count->g'.u4[k]?=some t->t.own=z->t.state=3->t.pending.ax=0->Ok (Option.bind (a2K L g' z) fun y11=>bif !(aH y11.2.2 0)then some (g',[])else some (y11.1,y11.2.1)) fun y=>GI w S D R {} y.1/\cA 0 g y.1/\bE S y.2:=fun{g' k t z} hq hn hc hk ho ht hp=>by
  subst ho
  refine(OM hL hM hq rfl ⟨by rw[hc];exact b.lG,by rw[hn];exact b.bA⟩ hk).bind fun y11 ⟨h1,h2⟩=>aP (fun h=>(h2 h ht hp).elim) fun h=> ?_
  obtain⟨_,_,g1,g2,g3⟩:=h1 h
  exact ae ⟨g1,⟨g2.1.trans hn,by show g.count<=y11.1.count;have:=g2.2.1;omega,by show y11.1.count<=g.count+0;have:=g2.2.2;omega⟩,g3⟩
 have old:Ok (Option.bind (a2K L (aa.bI g (List.set (g.u4++[n]) i (Sa.bw ((g.u4++[n]).getD i Sa.az) (next:=Sa.own n) (follows:=Sa.own n) (own:=s.own) (fg:=s.fg) (aV:=s.aV) (state:=s.state) (bM:=s.bM) (a0a:=s.a0a) (d:=s.d) (out:=s.out) (eI:=s.eI) (ours:=s.ours) (bO:=s.bO) (first:=s.first) (bY:=s.bY) (eZ:=s.eZ) (pU:=s.pU) (pending:=s.pending) (iQ:=s.iQ) (sE:=s.sE) (eC:=s.eC) (dP:=s.dP) (sK:=s.sK) (dK:=s.dK) (lV:=s.lV) (zU:=s.zU) (Ao:=s.Ao)))) s.own) fun y11=>bif !(aH y11.2.2 0)then some (aa.bI g (List.set (g.u4++[n]) i (Sa.bw s (next:=Sa.own n) (follows:=Sa.own n))),[])else some (y11.1,y11.2.1)) fun y=>GI w S D R {} y.1/\cA 0 g y.1/\bE S y.2:=by
  have hq:=made (s':=Sa.bw s (next:=Sa.own n) (follows:=Sa.own n)) (hs.wNF _ _) rfl h3 rfl (.inr rfl)
  exact dH hq rfl rfl (List.getElem?_set_self (bL hi1)) rfl h3 hp0
 have hqn:=made (s':=Sa.jh s (Sa.own n)) (hs.Wh _) rfl h3 rfl (.inl rfl)
 refine(hqn.at_ hL hM).bind fun y9 hy9=> ?_
 refine aP (fun _=>bX (fun h9=> ?_) fun _=>old) fun _=>old
 rcases hy9 with⟨rfl,_⟩|⟨k,v,rfl,hk,_⟩
 ·exact absurd (by decide:(-1:Int)<0) h9
 have hk':((g.u4++[n]).set i (Sa.jh s (Sa.own n)))[k]?=some v:=hk
 have hv:=hqn.u4 v (bC hk)
 refine ay (by omega) (a03 (bL hk') ?_)
 simp only[a08,bB hk']
 refine(Tg hL hM ⟨by rw[n6];exact hr.2.2,by rw[n7];exact hth.2.2⟩ ⟨hv.ours.2.2,hv.thn⟩).bind fun y10 _=>bJ (fun _=> ?_) fun _=>old
 refine dH (k:=g.u4.length) (t:=n) hqn rfl rfl ?_ rfl n3 (by rw[n5];rfl)
 show((g.u4++[n]).set i (Sa.jh s (Sa.own n)))[g.u4.length]?=some n
 rw[List.getElem?_set_ne (by have:=bL hi;omega)];simp
end
section
variable {w:Int}{S S':List jn}{D:Dl}{R:List aQ}{X X':Cr}{g g':aa}{L:Nat}
variable (hL:5000<L)(hM:L<=4611686018427387904)
include hL hM
theorem D8(q:GI w S D R {} g){l:List Int}(hl:l.length<=5000):Ok (kG L g l) fun y=>GI w S D R {} y/\cA 0 g y/\y.aW=g.aW/\∀t∈y.u4,t.own∉l/\∃s∈g.u4,ky t=ky s:=by
 unfold kG
 refine Ok.bind (P:=fun y=>GI w S D R {} y/\cA 0 g y/\y.aW=g.aW/\∀t∈y.u4,t.own∉l/\∃s∈g.u4,ky t=ky s) ?_ fun y hy=>ae hy
 refine a0i l.length (fun i r=>r.1=(i:Int)/\GI w S D R {} r.2/\cA 0 g r.2/\r.2.aW=g.aW/\∀t∈r.2.u4,t.own∉l.take i/\∃s∈g.u4,ky t=ky s) (by omega) ⟨rfl,q,cA.rfl,rfl,fun t ht=>⟨by simp,t,ht,rfl⟩⟩ (fun i r hi hr=> ?_) fun r hr=> ?_
 ·obtain⟨a,u⟩:=r
  obtain⟨rfl,h1,h2,h3,h4⟩:=hr
  dsimp only
  refine aM (fun _=>ay (by omega) ?_) fun h=>absurd (by omega) h
  rw[a08]
  refine a03 hi ((yN hL hM h1 (.inl rfl) rfl).bind fun y ⟨k1,k2,k3,k4,k5⟩=>ae ⟨cG i (by omega),k1,(h2.trans k2).le (by decide),k4.trans h3,fun t ht=> ?_⟩)
  obtain⟨s,s1,s2⟩:=k5 t ht
  obtain⟨a1,s',a2,a3⟩:=h4 s s1
  have eo:=(Ci s2).1
  refine⟨fun hm=> ?_,s',a2,s2.trans a3⟩
  have hx:l[i]?=some l[i]:=List.getElem?_eq_getElem hi
  rw[List.take_add_one,hx]at hm
  rcases List.mem_append.1 hm with hm|hm
  ·exact a1 (by rw[<-eo];exact hm)
  ·have e:t.own=l[i]:=by simpa using hm
   exact k3 t ht (by rw[e,bB hx])
 ·obtain⟨a,u⟩:=r
  obtain⟨rfl,h1,h2,h3,h4⟩:=hr
  dsimp only
  exact aM (fun h=>by omega) fun _=>ae ⟨h1,h2,h3,fun t ht=>by have:=h4 t ht;rw[List.take_length]at this;exact this⟩
theorem Bq(q:GI w S D R X g):Ok (vY L g) fun y=>GI w S D R X y.1/\cA 0 g y.1/\bE S y.2/\y.2.length<=15/\y.1.u4.length=g.u4.length/\(∀t∈y.1.u4,∃s∈g.u4,ky t=ky s)/\y.1.aW=g.aW:=by
 unfold vY
 have hl:=q.len
 have hk:aZ S (T.a01 (TL.of [T.aG 51])):=aZ.a01 (GL.of (by simp) fun t ht=>by
  rw[List.mem_singleton]at ht;subst ht
  exact aZ.vR ⟨Nat.zero_le _,trivial⟩ (.inl rfl))
 refine Ok.bind (P:=fun y=>GI w S D R X y.2/\cA 0 g y.2/\bE S y.1/\y.1.length<=15/\y.2.u4.length=g.u4.length/\(∀t∈y.2.u4,∃s∈g.u4,ky t=ky s)/\y.2.aW=g.aW) ?_ fun y hy=>ae hy
 refine a0i g.u4.length (fun i r=>r.2.1=(i:Int)/\GI w S D R X r.2.2/\cA 0 g r.2.2/\bE S r.1/\r.1.length<=i/\r.2.2.u4.length=g.u4.length/\(∀t∈r.2.2.u4,∃s∈g.u4,ky t=ky s)/\r.2.2.aW=g.aW) (by omega) ⟨rfl,q,cA.rfl,bE.nil,Nat.zero_le _,rfl,fun t ht=>⟨t,ht,rfl⟩,rfl⟩ (fun i r hi hr=> ?_) fun r hr=> ?_
 ·obtain⟨o,a,u⟩:=r
  obtain⟨rfl,h1,h2,h3,h4,h5,h6,h7⟩:=hr
  dsimp only at*
  refine aM (fun _=>ay (by omega) ?_) fun h=>absurd (by omega) h
  rw[a08]
  refine a03 (by omega) ?_
  obtain⟨s,hs⟩:∃s,u.u4[i]?=some s:=⟨_,List.getElem?_eq_getElem (by omega)⟩
  simp only[bB hs]
  have go:Ok (some (Sum.inl (o,add (i:Int) 1,u)):Option ((List aj×Int×aa)⊕(List aj×aa))) (Sum.elim (fun r=>r.2.1=((i+1:Nat):Int)/\GI w S D R X r.2.2/\cA 0 g r.2.2/\bE S r.1/\r.1.length<=i+1/\r.2.2.u4.length=g.u4.length/\(∀t∈r.2.2.u4,∃s∈g.u4,ky t=ky s)/\r.2.2.aW=g.aW) fun y=>GI w S D R X y.2/\cA 0 g y.2/\bE S y.1/\y.1.length<=15/\y.2.u4.length=g.u4.length/\(∀t∈y.2.u4,∃s∈g.u4,ky t=ky s)/\y.2.aW=g.aW):=
   ae ⟨cG i (by omega),h1,h2,h3,by show o.length<=i+1;omega,h5,h6,h7⟩
  refine aP (fun _=>go) fun _=>bn (fun _=>go) fun _=>aM (fun _=>go) fun _=> ?_
  refine bD (cF (by simp;omega)) (ae ⟨cG i (by omega),?_,h2,h3.app (bE.one hk) (by show o.length+1<=6000;omega),by show(o++[_]).length<=i+1;simp;omega,by show(u.u4.set i _).length=_;rw[List.length_set];exact h5,fun t ht=> ?_,h7⟩)
  rotate_left
  ·rcases kH ht with rfl|ht
   ·obtain⟨z,z1,z2⟩:=h6 s (bC hs)
    exact⟨z,z1,z2⟩
   ·exact h6 t ht
  have hq:=h1.u4 s (bC hs)
  exact h1.pM hs rfl {hq with} rfl rfl (fun x=>.inl (Nat.le_refl _)) (.inl (Nat.le_refl _)) (.inl (Nat.le_refl _)) (Nat.le_refl _) (Nat.le_refl _) (.inl rfl) (h1.gone s (bC hs))
 ·obtain⟨o,a,u⟩:=r
  obtain⟨rfl,h1,h2,h3,h4,h5,h6,h7⟩:=hr
  dsimp only at*
  exact aM (fun h=>by omega) fun _=>ae ⟨h1,h2,h3,by show o.length<=15;omega,h5,h6,h7⟩
end
section
variable {w:Int}{S S':List jn}{D:Dl}{R:List aQ}{X X':Cr}{g g':aa}{L:Nat}
variable (hL:5000<L)(hM:L<=4611686018427387904)
include hL hM
theorem BG(q:GI w S D R X g)(b:Bd g){i:Nat}{s:Sa}(hi:g.u4[i]?=some s){kind:Int}{parts:TL}{r:a04}:
 Ok (dL L g s.own kind parts r) fun y=>y.2.length<=1:=by
 have hd:add g.bA 2=g.bA+2:=by have:=q.bA;have:=b.bA;exact fK (by omega) (by omega)
 unfold dL
 rw[q.AI hL hM hi]
 refine aD (ae (aM (fun h=>by omega) fun _=>ay (by omega) (a03 (bL hi) ?_)))
 simp only[a08,bB hi,hd]
 refine aD (HS fun y7=> ?_)
 rw[iP]
 refine aD (ae (aD (ae ?_)))
 exact aC (fun _=>ae (Nat.le_refl 1)) fun _=>ae (Nat.le_refl 1)
def TU(bA:Int)(s t:Sa):Prop:=(t=s/\(s.state≠3∨s.pending.ax≠0∨sub bA s.eC<8))∨(t.pending.ax≠0/\t.pending.sent=1/\t.pending.sx=bA+2/\s.state=3/\s.pending.ax=0)
def TS(bA:Int)(l:List Int)(s t:Sa):Prop:=(t=s/\(s.pending.ax=0∨bA<s.pending.sx∨(3<=s.pending.sent/\s.own∈l)))∨(s.pending.ax≠0/\s.pending.sx<=bA/\s.pending.sent<3/\t.pending.ax=s.pending.ax/\t.pending.sent=add s.pending.sent 1/\t.pending.sx=add bA (shl 2 (eN s.pending.sent 0)))
theorem zN(q:GI w S D R {} g)(b:Bd g):Ok (mZ L g) fun y=>GI w S D R {} y.1/\cA 0 g y.1/\bE S y.2/\y.2.length<=15/\(∀t∈y.1.u4,∃s∈g.u4,TU g.bA s t)/\y.1.aW=g.aW:=by
 unfold mZ
 have hl:=q.len
 refine Ok.bind (P:=fun y=>GI w S D R {} y.1/\cA 0 g y.1/\bE S y.2/\y.2.length<=15/\(∀t∈y.1.u4,∃s∈g.u4,TU g.bA s t)/\y.1.aW=g.aW) ?_ fun y hy=>ae hy
 refine a0i g.u4.length (fun i r=>r.1=(i:Int)/\GI w S D R {} r.2.1/\cA 0 g r.2.1/\bE S r.2.2/\r.2.2.length<=i/\(∀j,i<=j->r.2.1.u4[j]?=g.u4[j]?)/\(∀j t,j<i->r.2.1.u4[j]?=some t->∃s∈g.u4,TU g.bA s t)/\r.2.1.aW=g.aW) (by omega) ⟨rfl,q,cA.rfl,bE.nil,Nat.zero_le _,fun _ _=>rfl,fun j t hj=>by omega,rfl⟩ (fun i r hi hr=> ?_) fun r hr=> ?_
 ·obtain⟨a,u,o⟩:=r
  obtain⟨rfl,h1,h2,h3,h4,h5,h6,h7⟩:=hr
  dsimp only at*
  refine aM (fun _=>ay (by omega) ?_) fun h=>absurd (by omega) h
  rw[a08]
  refine a03 (by omega) ?_
  obtain⟨s,hs⟩:∃s,g.u4[i]?=some s:=⟨_,List.getElem?_eq_getElem (by omega)⟩
  simp only[bB hs]
  have hu:u.u4[i]?=some s:=by rw[h5 i (Nat.le_refl _)];exact hs
  have go:(s.state≠3∨s.pending.ax≠0∨sub g.bA s.eC<8)->Ok (some (Sum.inl (add (i:Int) 1,u,o)):Option ((Int×aa×List aj)⊕(aa×List aj))) (Sum.elim (fun r=>r.1=((i+1:Nat):Int)/\GI w S D R {} r.2.1/\cA 0 g r.2.1/\bE S r.2.2/\r.2.2.length<=i+1/\(∀j,i+1<=j->r.2.1.u4[j]?=g.u4[j]?)/\(∀j t,j<i+1->r.2.1.u4[j]?=some t->∃s∈g.u4,TU g.bA s t)/\r.2.1.aW=g.aW) fun y=>GI w S D R {} y.1/\cA 0 g y.1/\bE S y.2/\y.2.length<=15/\(∀t∈y.1.u4,∃s∈g.u4,TU g.bA s t)/\y.1.aW=g.aW):=fun hc=>
   ae ⟨cG i (by omega),h1,h2,h3,by show o.length<=i+1;omega,fun j hj=>h5 j (by omega),fun j t hj ht=>by
    by_cases e:j=i
    ·subst e
     have ht:u.u4[j]?=some t:=ht
     rw[hu]at ht;cases ht;exact⟨s,bC hs,.inl ⟨rfl,hc⟩⟩
    ·exact h6 j t (by omega) ht,h7⟩
  refine aP (fun e=>go (.inl e)) fun e3=>aP (fun e=>go (.inr (.inl e))) fun e0=>aM (fun e=>go (.inr (.inr (by rw[<-h2.1];exact e)))) fun _=> ?_
  have bu:Bd u:=⟨by have:=h2.2.2;have:=b.lG;omega,by have:=h2.1;have:=b.bA;omega⟩
  refine((vA hL hM h1 bu hu (by omega) (kind:=37) (parts:=TL.nil) (r:=a04.az (ax:=8)) GL.nil (fun x hx=>by cases hx) (fun h=>absurd h (by decide)) ⟨Nat.zero_le _,trivial⟩ ⟨Nat.zero_le _,trivial⟩ (fun _ h=>by omega) (fun h=>absurd h (by decide)) (fun h=>absurd h (by decide)) (fun h=>absurd h (by decide)) rfl).and ((BG hL hM h1 bu hu).and (BH hL hM h1 bu hu (by omega) GL.nil (fun x hx=>by cases hx)))).bind fun y ⟨⟨k1,k2,k3,_⟩,k5,⟨r',id,k4,l1,_,_,_,_,_,l2,l3,_⟩,_⟩=> ?_
  refine bD (cF (by rw[List.length_append];omega)) (ae ⟨cG i (by omega),k1,(h2.trans k2).le (by decide),h3.app k3 (by omega),by show(o++y.2).length<=i+1;rw[List.length_append];omega,fun j hj=> ?_,fun j t hj ht=> ?_,by rw[k4];exact h7⟩)
  ·show y.1.u4[j]?=_
   rw[k4]
   show(u.u4.set i _)[j]?=_
   rw[List.getElem?_set_ne (by omega)]
   exact h5 j (by omega)
  ·have ht:y.1.u4[j]?=some t:=ht
   rw[k4]at ht
   have ht:(u.u4.set i (Sa.bw s (pending:=r') (eZ:=id)))[j]?=some t:=ht
   by_cases e:j=i
   ·subst e
    rw[List.getElem?_set_self (bL hu)]at ht
    cases ht
    refine⟨s,bC hs,.inr ⟨?_,l2,?_,e3,e0⟩⟩
    ·show¬r'.ax=0;rw[l1];show¬(8:Int)=0;decide
    ·show r'.sx=_;rw[l3,h2.1]
   ·rw[List.getElem?_set_ne (by omega)]at ht
    exact h6 j t (by omega) ht
 ·obtain⟨a,u,o⟩:=r
  obtain⟨rfl,h1,h2,h3,h4,h5,h6,h7⟩:=hr
  dsimp only at*
  refine aM (fun h=>by omega) fun _=>ae ⟨h1,h2,h3,by show o.length<=15;omega,fun t ht=> ?_,h7⟩
  obtain⟨j,hj⟩:=List.mem_iff_getElem?.1 ht
  have hj:u.u4[j]?=some t:=hj
  by_cases e:j<g.u4.length
  ·exact h6 j t e hj
  ·rw[h5 j (by omega),List.getElem?_eq_none (by omega)]at hj;cases hj
omit hL hM in
theorem N3{bA:Int}{p:a04}(h:I9 bA p)(h0:p.ax≠0)(h3:p.sent<3)(hn:0<=bA)(hn':bA<=100000){p':a04}(e0:p'.ax=p.ax)(e1:p'.sent=add p.sent 1)(e2:p'.sx=add bA (shl 2 (eN p.sent 0))):I9 bA p':=fun _=>by
 rcases h h0 with⟨a,_⟩|⟨a,_⟩|⟨a,_⟩
 ·rw[a]at e1 e2
  refine .inr (.inl ⟨e1,?_⟩)
  rw[e2,show shl 2 (eN 1 0)=4 by decide,fK (by omega) (by omega)];omega
 ·rw[a]at e1 e2
  refine .inr (.inr ⟨e1,?_⟩)
  rw[e2,show shl 2 (eN 2 0)=8 by decide,fK (by omega) (by omega)];omega
 ·omega
theorem OL(q:GI w S D R X g)(b:Bd g):Ok (ou L g) fun y=>GI w S D R X y.1/\cA 0 g y.1/\bE S y.2.1/\y.2.1.length<=15/\y.2.2.length<=15/\(∀t∈y.1.u4,∃s∈g.u4,TS g.bA y.2.2 s t)/\y.1.aW=g.aW:=by
 unfold ou
 have hl:=q.len
 refine Ok.bind (P:=fun y=>GI w S D R X y.2.2/\cA 0 g y.2.2/\bE S y.1/\y.1.length<=15/\y.2.1.length<=15/\(∀t∈y.2.2.u4,∃s∈g.u4,TS g.bA y.2.1 s t)/\y.2.2.aW=g.aW) ?_ fun y hy=>ae hy
 refine a0i g.u4.length (fun i r=>r.2.2.1=(i:Int)/\GI w S D R X r.2.2.2/\cA 0 g r.2.2.2/\bE S r.1/\r.1.length<=i/\r.2.1.length<=i/\r.2.2.2.u4.length=g.u4.length/\(∀j,i<=j->r.2.2.2.u4[j]?=g.u4[j]?)/\(∀j t,j<i->r.2.2.2.u4[j]?=some t->∃s∈g.u4,TS g.bA r.2.1 s t)/\r.2.2.2.aW=g.aW) (by omega) ⟨rfl,q,cA.rfl,bE.nil,Nat.zero_le _,Nat.zero_le _,rfl,fun _ _=>rfl,fun j t hj=>by omega,rfl⟩ (fun i r hi hr=> ?_) fun r hr=> ?_
 ·obtain⟨o,l,a,u⟩:=r
  obtain⟨rfl,h1,h2,h3,h4,h6,h5,h7,h8,h9⟩:=hr
  dsimp only at*
  refine aM (fun _=>ay (by omega) ?_) fun h=>absurd (by omega) h
  rw[a08]
  refine a03 (by omega) ?_
  obtain⟨s,hs⟩:∃s,u.u4[i]?=some s:=⟨_,List.getElem?_eq_getElem (by omega)⟩
  simp only[bB hs]
  have hg:g.u4[i]?=some s:=by rw[<-h7 i (Nat.le_refl _)];exact hs
  have go:(s.pending.ax=0∨g.bA<s.pending.sx)->Ok (some (Sum.inl (o,l,add (i:Int) 1,u)):Option ((List aj×List Int×Int×aa)⊕(List aj×List Int×aa))) (Sum.elim (fun r=>r.2.2.1=((i+1:Nat):Int)/\GI w S D R X r.2.2.2/\cA 0 g r.2.2.2/\bE S r.1/\r.1.length<=i+1/\r.2.1.length<=i+1/\r.2.2.2.u4.length=g.u4.length/\(∀j,i+1<=j->r.2.2.2.u4[j]?=g.u4[j]?)/\(∀j t,j<i+1->r.2.2.2.u4[j]?=some t->∃s∈g.u4,TS g.bA r.2.1 s t)/\r.2.2.2.aW=g.aW) fun y=>GI w S D R X y.2.2/\cA 0 g y.2.2/\bE S y.1/\y.1.length<=15/\y.2.1.length<=15/\(∀t∈y.2.2.u4,∃s∈g.u4,TS g.bA y.2.1 s t)/\y.2.2.aW=g.aW):=fun hc=>
   ae ⟨cG i (by omega),h1,h2,h3,by show o.length<=i+1;omega,by show l.length<=i+1;omega,h5,fun j hj=>h7 j (by omega),fun j t hj ht=>by
    by_cases e:j=i
    ·subst e
     have ht:u.u4[j]?=some t:=ht
     rw[hs]at ht;cases ht;exact⟨s,bC hg,.inl ⟨rfl,hc.imp (fun h=>h) .inl⟩⟩
    ·exact h8 j t (by omega) ht,h9⟩
  have hnow':u.bA=g.bA:=h2.1
  refine aC (fun e=>go (.inl e)) fun e0=>aM (fun e=>go (.inr (by rw[<-hnow'];exact e))) fun hdue=>bX (fun e3=> ?_) fun e3=> ?_
  ·refine bD (cF (by simp;omega)) (ae ⟨cG i (by omega),h1,h2,h3,by show o.length<=i+1;omega,by show(l++[_]).length<=i+1;simp;omega,h5,fun j hj=>h7 j (by omega),fun j t hj ht=> ?_,h9⟩)
   by_cases e:j=i
   ·subst e
    have ht:u.u4[j]?=some t:=ht
    rw[hs]at ht;cases ht;exact⟨s,bC hg,.inl ⟨rfl,.inr (.inr ⟨by omega,by simp⟩)⟩⟩
   ·obtain⟨z,z1,z2⟩:=h8 j t (by omega) ht
    refine⟨z,z1,z2.imp (fun⟨a,b⟩=>⟨a,b.imp (fun h=>h) fun b=>b.imp (fun h=>h) fun⟨b,c⟩=>⟨b,by simp[c]⟩⟩) (fun h=>h)⟩
  have hq:=h1.u4 s (bC hs)
  have hm:¬eN s.pending.sent 0<0:=by
   rcases hq.J6 e0 with⟨a,_⟩|⟨a,_⟩|⟨a,_⟩<;>rw[a]<;>decide
  refine bD (cF (by simp;omega)) (ay hm (ae ⟨cG i (by omega),?_,h2,h3.app (bE.one hq.body) (by show o.length+1<=6000;omega),by show(o++[_]).length<=i+1;simp;omega,by show l.length<=i+1;omega,by show(u.u4.set i _).length=_;rw[List.length_set];exact h5,fun j hj=> ?_,fun j t hj ht=> ?_,h9⟩))
  rotate_left
  ·show(u.u4.set i _)[j]?=_
   rw[List.getElem?_set_ne (by omega)];exact h7 j (by omega)
  ·by_cases e:j=i
   ·subst e
    have ht:(u.u4.set j _)[j]?=some t:=ht
    rw[List.getElem?_set_self (bL hs)]at ht
    cases ht
    exact⟨s,bC hg,.inr ⟨e0,by omega,e3,rfl,rfl,by rw[<-hnow'];rfl⟩⟩
   ·have ht:(u.u4.set i _)[j]?=some t:=ht
    rw[List.getElem?_set_ne (by omega)]at ht
    exact h8 j t (by omega) ht
  have hnow:u.bA<=100000:=by have:=h2.1;have:=b.bA;omega
  have ht:=N3 hq.J6 e0 e3 h1.bA hnow (p':=a04.bw s.pending (sent:=add s.pending.sent 1) (sx:=add u.bA (shl 2 (eN s.pending.sent 0)))) rfl rfl rfl
  obtain⟨p',hp'⟩:∃p',p'=a04.bw s.pending (sent:=add s.pending.sent 1) (sx:=add u.bA (shl 2 (eN s.pending.sent 0))):=⟨_,rfl⟩
  rw[<-hp']at ht
  have c1:p'.ax=s.pending.ax:=by rw[hp'];rfl
  have c2:p'.dZ=s.pending.dZ:=by rw[hp'];rfl
  have c3:p'.gone=s.pending.gone:=by rw[hp'];rfl
  have c4:p'.body=s.pending.body:=by rw[hp'];rfl
  have c5:p'.dx=s.pending.dx:=by rw[hp'];rfl
  have c6:p'.eE=s.pending.eE:=by rw[hp'];rfl
  have c7:p'.probe=s.pending.probe:=by rw[hp'];rfl
  show GI w S D R X (aa.bI u (u.u4.set i (Sa.dS s (a04.bw s.pending (sent:=add s.pending.sent 1) (sx:=add u.bA (shl 2 (eN s.pending.sent 0)))))))
  rw[<-hp']
  have hs':pV w S u.bA X.ex (Sa.dS s p'):={hq with
   body:=by show aZ S p'.body;rw[c4];exact hq.body
   Jm:=by show(p'.ax=3∨p'.ax=4∨p'.ax=5)->Nm w p'.dx;rw[c1,c5];exact hq.Jm
   sD:=by show p'.eE.cP;rw[c6];exact hq.sD
   MD:=by show p'.probe.cP;rw[c7];exact hq.MD
   p1:=by show s.state=1->p'.ax=1;rw[c1];exact hq.p1
   p2:=by show s.state=2->p'.ax=2;rw[c1];exact hq.p2
   p4:=by show X.ex≠s.own->s.state=4->p'.ax=7;rw[c1];exact hq.p4
   J6:=ht}
  refine h1.pM hs rfl hs' rfl rfl (fun x=>.inl (Nat.le_of_eq ?_)) (.inl (Nat.le_of_eq ?_)) (.inl (Nat.le_of_eq ?_)) (Nat.le_refl _) (Nat.le_refl _) (.inl rfl) (by show p'.gone.length<=D.k;rw[c3];exact h1.gone s (bC hs))
  ·unfold fZ;show(if(p'.ax=2∨p'.ax=3∨p'.ax=4∨p'.ax=5)/\p'.dZ=x then 1 else 0)=_;rw[c1,c2]
  ·unfold pSa;show(if p'.ax=5 then 1 else 0)+_=_;rw[c1]
  ·unfold nj;show(if p'.ax=3∨p'.ax=4 then 1 else 0)+_=_;rw[c1]
 ·obtain⟨o,l,a,u⟩:=r
  obtain⟨rfl,h1,h2,h3,h4,h6,h5,h7,h8,h9⟩:=hr
  dsimp only at*
  refine aM (fun h=>by omega) fun _=>ae ⟨h1,h2,h3,by show o.length<=15;omega,by show l.length<=15;omega,fun t ht=> ?_,h9⟩
  obtain⟨j,hj⟩:=List.mem_iff_getElem?.1 ht
  have hj:u.u4[j]?=some t:=hj
  exact h8 j t (by have:=bL hj;omega) hj
end
section
variable {w:Int}{S S':List jn}{D:Dl}{R:List aQ}{X X':Cr}{g g':aa}{L:Nat}
variable (hL:5000<L)(hM:L<=4611686018427387904)
include hL hM
theorem sG(q:GI w S D R X g){x:Int}:Ok (oU L g x) fun y=>(y= -1/\∀h∈g.aW,h.own≠x)∨∃(i:Nat) (h:bN),y=(i:Int)/\g.aW[i]?=some h/\h.own=x:=by
 unfold oU
 refine(a2Z (p:=fun s:bN=>aH s.own x) (by have:=q.nh;omega) hM).bind fun y hy=> ?_
 cases y with
 |inl _=>exact ae (.inl ⟨rfl,fun s hs=>zn.1 (hy s hs)⟩)
 |inr z=>
  obtain⟨i,e,hi,hp,_⟩:=hy
  exact ae (.inr ⟨i,g.aW[i],e,by simp[hi],lK.1 hp⟩)
omit hL hM in
theorem GI.Nk(q:GI w S D R X g){i j:Nat}{s t:bN}(hi:g.aW[i]?=some s)(hj:g.aW[j]?=some t)(h:s.own=t.own):i=j:=by
 by_cases e:i=j
 ·exact e
 ·exfalso
  have h1:=q.lD s.own
  have hc:=wA (f:=eU s.own) hi
  have hm:t∈g.aW.take i++g.aW.drop (i+1):=by
   rcases Nat.lt_or_gt_of_ne e with h|h
   ·refine List.mem_append.2 (.inr (List.mem_of_getElem? (i:=j-(i+1)) ?_))
    rw[List.getElem?_drop,show i+1+(j-(i+1))=j by omega];exact hj
   ·refine List.mem_append.2 (.inl (List.mem_of_getElem? (i:=j) ?_))
    rw[List.getElem?_take];simp[h,hj]
  have hm':=iC (eU s.own) hm
  have a1:1<=eU s.own s:=by unfold eU;simp
  have a2:1<=eU s.own t:=by unfold eU;simp[h]
  unfold occ at h1
  omega
theorem xV(q:GI w S D R X g){i:Nat}{h:bN}(hi:g.aW[i]?=some h):mM L g h.own=some (aa.pT g (g.aW.take i++g.aW.drop (i+1))):=by
 unfold mM
 have hl:=bL hi
 have hn:=q.nh
 obtain⟨y,e,hy⟩:=sG hL hM q (x:=h.own)
 rw[e]
 rcases hy with⟨_,hno⟩|⟨j,t,rfl,hj,ht⟩
 ·exact absurd rfl (hno h (bC hi))
 ·obtain rfl:=q.Nk hj hi ht
  have e1:add (j:Int) 1=((j+1:Nat):Int):=cG j (by omega)
  dsimp only[Option.bind]
  rw[a0k (by omega),e1,a0k (by omega),a08,a08]
  have e2:Nat.ble j (j+1)=true:=Nat.ble_eq_true_of_le (by omega)
  have e3:Nat.ble (j+1) g.aW.length=true:=Nat.ble_eq_true_of_le (by omega)
  rw[e2,e3];rfl
theorem OO(q:GI w S D R X g):Ok (ru L g) fun y=>GI w S D R X y/\cA 0 g y/\y.u4=g.u4/\y.af=g.af/\(∀h∈y.aW,aF (sub g.bA h.born) 10=true)/\∀h∈y.aW,h∈g.aW:=by
 unfold ru
 have hn:=q.nh
 refine(a2Z (p:=fun h:bN=> !(aF (sub g.bA h.born) 10)) (by omega) hM).bind fun y hy=> ?_
 cases y with
 |inl _=>exact ae ⟨q,cA.rfl,rfl,rfl,fun h hh=>by simpa using hy h hh,fun h hh=>hh⟩
 |inr z=>
  obtain⟨i0,rfl,hi0,hp0,hb0⟩:=hy
  dsimp only
  refine aC (fun h=>by omega) fun _=> ?_
  refine Ok.bind (P:=fun y=>∃k:Nat,y.1=(k:Int)/\k<=y.2.length/\(y.2.take k).Sublist g.aW/\∀h∈y.2.take k,aF (sub g.bA h.born) 10=true) ?_ fun y hy=> ?_
  ·refine a0i (g.aW.length-(i0+1)) (fun i r=>∃k:Nat,r.1=(k:Int)/\r.2.1=((i0+1+i:Nat):Int)/\k<i0+1+i/\r.2.2.length=g.aW.length/\(r.2.2.take k).Sublist (g.aW.take (i0+1+i))/\r.2.2.drop (i0+1+i)=g.aW.drop (i0+1+i)/\∀h∈r.2.2.take k,aF (sub g.bA h.born) 10=true) (by omega) ⟨i0,rfl,cG i0 (by omega),by omega,rfl,?_,rfl,?_⟩ (fun i r hi hr=> ?_) fun r hr=> ?_
   ·exact List.take_sublist_take_left (by omega)
   ·intro h hh
    obtain⟨j,hj,e⟩:=List.mem_iff_getElem.1 hh
    rw[List.length_take]at hj
    have:=hb0 j (by omega)
    rw[List.getElem_take]at e
    rw[<-e];simpa using this
   ·obtain⟨a,b,l⟩:=r
    obtain⟨k,rfl,rfl,h1,h2,h3,h4,h5⟩:=hr
    dsimp only at*
    refine aM (fun _=>ay (by omega) ?_) fun h=>absurd (by omega) h
    rw[a08,a08]
    refine a03 (by omega) ?_
    obtain⟨t,ht⟩:∃t,l[i0+1+i]?=some t:=⟨_,List.getElem?_eq_getElem (by omega)⟩
    have ht':g.aW[i0+1+i]?=some t:=by
     have:=congrArg (fun z=>z[0]?) h4
     simpa [List.getElem?_drop,ht]using this.symm
    have hd:∀m:List bN,m.drop (i0+1+i)=g.aW.drop (i0+1+i)->m.drop (i0+1+(i+1))=g.aW.drop (i0+1+(i+1)):=fun m hm=>by
     have:=congrArg (List.drop 1) hm
     simpa [List.drop_drop,Nat.add_assoc]using this
    have htk:g.aW.take (i0+1+(i+1))=g.aW.take (i0+1+i)++[t]:=by
     rw[<-Nat.add_assoc,List.take_add_one,ht'];rfl
    simp only[bB ht]
    refine bJ (fun e=> ?_) fun e=> ?_
    ·refine ay (by omega) (a03 (by omega) (ae ⟨k+1,cG k (by omega),cG (i0+1+i) (by omega),by omega,by show(l.set k t).length=_;rw[List.length_set];exact h2,?_,?_,?_⟩))
     ·show((l.set k t).take (k+1)).Sublist _
      rw[List.take_add_one,List.getElem?_set_self (by omega),htk,List.take_set_of_le (Nat.le_refl k)]
      exact h3.append (List.Sublist.refl _)
     ·show(l.set k t).drop _=_
      rw[List.drop_set_of_lt (by omega)];exact hd l h4
     ·show∀h∈(l.set k t).take (k+1),_
      rw[List.take_add_one,List.getElem?_set_self (by omega),List.take_set_of_le (Nat.le_refl k)]
      intro h hh
      rcases List.mem_append.1 hh with hh|hh
      ·exact h5 h hh
      ·simp at hh;subst hh;simpa using e
    ·exact ae ⟨k,rfl,cG (i0+1+i) (by omega),by omega,h2,h3.trans (by rw[htk];exact List.sublist_append_left _ _),hd l h4,h5⟩
   ·obtain⟨a,b,l⟩:=r
    obtain⟨k,rfl,rfl,h1,h2,h3,h4,h5⟩:=hr
    dsimp only at*
    exact aM (fun h=>by omega) fun _=>ae ⟨k,rfl,by show k<=l.length;omega,h3.trans (List.take_sublist _ _),h5⟩
  ·obtain⟨a,l⟩:=y
   obtain⟨k,rfl,h1,h2,h3⟩:=hy
   dsimp only at*
   have e:∀z:List bN,List.drop 0 (List.take k (((List.drop 0 (List.take k l))++z)++List.drop l.length (List.take l.length l)))=l.take k:=fun z=>by
    rw[List.drop_zero,List.drop_zero,List.append_assoc,List.take_append_of_le_length (by rw[List.length_take];omega),List.take_take,Nat.min_self]
   rw[a08]
   simp only[e]
   refine ay (by omega) (bD (by simp[Nat.ble_eq];omega) (ay (by omega) (bD (by simp[Nat.ble_eq];omega) (ae ⟨q.HT h2,cA.rfl,rfl,rfl,h3,fun h hh=>h2.subset hh⟩))))
theorem a4R(q:GI w S D R {} g)(b:Bd g)(b':g.bA<=99999):Ok (lN L g) fun y=>GI w S D R {} y.1/\y.1.bA=g.bA+1/\y.1.count=g.count/\bE S y.2/\y.2.length<=45:=by
 unfold lN
 have hn:=q.bA
 have e:add g.bA 1=g.bA+1:=fK (by omega) (by omega)
 rw[e]
 have q1:=q.Mi (n:=g.bA+1) rfl
 refine(OO hL hM q1).bind fun y2 ⟨a1,a2,_⟩=> ?_
 have b1:Bd y2:=⟨by have:=a2.2.2;have:=b.lG;have c:y2.count<=g.count+0:=a2.2.2;omega,by have c:y2.bA=g.bA+1:=a2.1;omega⟩
 refine(OL hL hM a1 b1).bind fun y3 ⟨c1,c2,c3,c4,c5,_⟩=> ?_
 refine(D8 hL hM c1 (by omega)).bind fun y4 ⟨d1,d2,_⟩=> ?_
 have b2:Bd y4:=⟨by have:=c2.2.2;have:=d2.2.2;have:=b1.lG;omega,by have:=c2.1;have:=d2.1;have:=b1.bA;omega⟩
 refine(zN hL hM d1 b2).bind fun y5 ⟨e1,e2,e3,e4,_⟩=>bD (cF (by rw[List.length_append];omega)) ?_
 refine(Bq hL hM e1).bind fun y6 ⟨f1,f2,f3,f4,_⟩=>bD (cF (by rw[List.length_append,List.length_append];omega)) ?_
 have A:=(((a2.trans c2).trans d2).trans e2).trans f2
 refine ae ⟨f1,A.1,?_,(c3.app e3 (by omega)).app f3 (by rw[List.length_append];omega),by show((y3.2.1++y5.2)++y6.2).length<=45;rw[List.length_append,List.length_append];omega⟩
 have h1:g.count<=y6.1.count:=A.2.1
 have h2:y6.1.count<=g.count+(0+0+0+0+0):=A.2.2
 show y6.1.count=g.count
 omega
end
section
variable {w:Int}{S S':List jn}{D:Dl}{R:List aQ}{X X':Cr}{g g':aa}{L:Nat}
theorem Lk{t:Tm}(h:Nm w t):qH w S (TL.of [T.a01 (TL.of [T.aG 17,t])]):=by
 refine⟨GL.of (by simp) fun x hx=> ?_,fun x hx=> ?_⟩
 ·rw[List.mem_singleton]at hx;subst hx
  exact aZ.part (n:=17) (l:=[t]) (by simp) fun y hy=>by rw[List.mem_singleton]at hy;subst hy;exact h.KE
 ·exfalso
  have e:fnd (TL.of [T.a01 (TL.of [T.aG 17,t])]) 3=(TL.nil,false):=by
   show fnd (.cons 3 0 (TL.of (T.aG 17::[t])) .nil) 3=_
   rw[tc,if_neg (by decide)];rfl
  rw[mG e]at hx;cases hx
variable (hL:5000<L)(hM:L<=4611686018427387904)
include hL hM
def MF(bA:Int)(t:Sa):Prop:=t.pending.ax≠0/\t.pending.sent=1/\t.pending.sx=bA+2
theorem Of(q:GI w S D R {} g)(b:Bd g)(b2:g.count<=400000){i:Nat}{s:Sa}(hi:g.u4[i]?=some s)(h3:s.state=3):
 Ok (oC L g s) fun y=>GI w S D R {} y.1/\cA 1 g y.1/\bE S y.2/\y.2.length<=1/\(∀j,j≠i->y.1.u4[j]?=g.u4[j]?)/\(∀t,y.1.u4[i]?=some t->MF g.bA t)/\y.1.aW=g.aW:=by
 unfold oC
 rw[q.FJ b]
 obtain⟨q2,_⟩:=q.sP (n:=g.count+1) rfl
 have hn:Nm w (T.name (add (mul g.av 1048576) (g.count+1))):=q.name b (by omega) (by omega)
 have hp:=Lk (S:=S) hn
 have b':Bd (aa.dj g (g.count+1)):=⟨by show g.count+1<=500000;omega,b.bA⟩
 refine((vA hL hM q2 b' hi (by omega) (r:=a04.az (ax:=10) (to:=s.Ao) (probe:=T.name (add (mul g.av 1048576) (g.count+1)))) hp.1 hp.2 (fun h=>absurd h (by show¬((10:Int)=3∨(10:Int)=4∨(10:Int)=5);decide)) ⟨Nat.zero_le _,trivial⟩ hn.2.2 (fun _ h=>by omega) (fun h=>absurd h (by show¬((10:Int)=2∨(10:Int)=3∨(10:Int)=4∨(10:Int)=5);decide)) (fun h=>absurd h (by show¬(10:Int)=5;decide)) (fun h=>absurd h (by show¬((10:Int)=3∨(10:Int)=4);decide)) rfl).and ((BG hL hM q2 b' hi).and (BH hL hM q2 b' hi (by omega) hp.1 hp.2))).bind fun y ⟨⟨k1,k2,k3,_⟩,k5,⟨r',id,k4,l1,_,_,_,_,_,l2,l3,_⟩,_⟩=>ae ⟨k1,⟨k2.1,?_,?_⟩,k3,k5,fun j hj=> ?_,fun t ht=> ?_,by rw[k4];rfl⟩
 ·have c:g.count+1<=y.1.count:=k2.2.1;omega
 ·have c:y.1.count<=g.count+1+0:=k2.2.2;omega
 ·rw[k4];show(g.u4.set i _)[j]?=_;rw[List.getElem?_set_ne (by omega)]
 ·rw[k4]at ht
  have ht:(g.u4.set i (Sa.bw s (pending:=r') (eZ:=id)))[i]?=some t:=ht
  rw[List.getElem?_set_self (bL hi)]at ht
  cases ht
  exact⟨by show¬r'.ax=0;rw[l1];show¬(10:Int)=0;decide,l2,l3⟩
theorem Mo(q:GI w S D R {} g)(b:Bd g){i:Nat}{s:Sa}(hi:g.u4[i]?=some s)(h3:s.state=3):
 Ok (a3r L g s) fun y=>GI w S D R {} y.1/\cA 0 g y.1/\bE S y.2/\y.2.length<=1/\(∀j,j≠i->y.1.u4[j]?=g.u4[j]?)/\(∀t,y.1.u4[i]?=some t->MF g.bA t)/\y.1.aW=g.aW:=by
 unfold a3r
 rw[q.AI hL hM hi]
 refine aD (ae (ay (by omega) (a03 (bL hi) ?_)))
 simp only[a08,bB hi]
 have hs:=q.u4 s (bC hi)
 obtain⟨s1,e1⟩:∃s1,s1=Sa.D2 s false:=⟨_,rfl⟩
 have q2:GI w S D R {} (aa.bI g (g.u4.set i s1)):=by
  rw[e1]
  exact q.pM hi rfl {hs with} rfl rfl (fun x=>.inl (Nat.le_refl _)) (.inl (Nat.le_refl _)) (.inl (Nat.le_refl _)) (Nat.le_refl _) (Nat.le_refl _) (.inl rfl) (q.gone s (bC hi))
 have o1:s1.own=s.own:=by rw[e1];rfl
 have o2:s1.state=s.state:=by rw[e1];rfl
 rw[<-e1,<-o1]
 obtain⟨g2,e2⟩:∃g2,g2=aa.bI g (g.u4.set i s1):=⟨_,rfl⟩
 have u1:g2.u4=g.u4.set i s1:=by rw[e2];rfl
 have u2:cA 0 g g2:=by rw[e2];exact cA.rfl
 rw[<-e2]at q2⊢
 have hi2:g2.u4[i]?=some s1:=by rw[u1];exact List.getElem?_set_self (bL hi)
 have b':Bd g2:=⟨by have:=u2.2.2;have:=b.lG;omega,by have:=u2.1;have:=b.bA;omega⟩
 have hp:qH w S (TL.of [T.a01 (TL.of [T.aG 16])]):=yE (n:=16) (l:=[]) (by decide) (by simp)
 refine((vA hL hM q2 b' hi2 (by omega) (r:=a04.az (ax:=9)) hp.1 hp.2 (fun h=>absurd h (by decide)) ⟨Nat.zero_le _,trivial⟩ ⟨Nat.zero_le _,trivial⟩ (fun _ h=>by omega) (fun h=>absurd h (by decide)) (fun h=>absurd h (by decide)) (fun h=>absurd h (by decide)) rfl).and ((BG hL hM q2 b' hi2).and (BH hL hM q2 b' hi2 (by omega) hp.1 hp.2))).bind fun y ⟨⟨k1,k2,k3,_⟩,k5,⟨r',id,k4,l1,_,_,_,_,_,l2,l3,_⟩,_⟩=>ae ⟨k1,(u2.trans k2).le (by decide),k3,k5,fun j hj=> ?_,fun t ht=> ?_,by rw[k4];show g2.aW=_;rw[e2];rfl⟩
 ·rw[k4];show(g2.u4.set i _)[j]?=_;rw[List.getElem?_set_ne (by omega),u1,List.getElem?_set_ne (by omega)]
 ·rw[k4]at ht
  have ht:(g2.u4.set i (Sa.bw s1 (pending:=r') (eZ:=id)))[i]?=some t:=ht
  rw[List.getElem?_set_self (bL hi2)]at ht
  cases ht
  exact⟨by show¬r'.ax=0;rw[l1];show¬(9:Int)=0;decide,l2,by show r'.sx=_;rw[l3,u2.1]⟩
def PB(bA:Int)(s t:Sa):Prop:=t=s∨(s.state=3/\s.pending.ax=0/\MF bA t)
theorem GM(q:GI w S D R {} g)(b:Bd g)(b2:g.count<=399000):Ok (lW L g) fun y=>GI w S D R {} y.1/\cA 15 g y.1/\bE S y.2/\y.2.length<=15/\(∀t∈y.1.u4,∃s∈g.u4,PB g.bA s t)/\y.1.aW=g.aW:=by
 unfold lW
 have hl:=q.len
 refine Ok.bind (P:=fun y=>GI w S D R {} y.2/\cA 15 g y.2/\bE S y.1/\y.1.length<=15/\(∀t∈y.2.u4,∃s∈g.u4,PB g.bA s t)/\y.2.aW=g.aW) ?_ fun y hy=>ae hy
 refine a0i g.u4.length (fun i r=>r.2.1=(i:Int)/\GI w S D R {} r.2.2/\cA i g r.2.2/\bE S r.1/\r.1.length<=i/\(∀j,i<=j->r.2.2.u4[j]?=g.u4[j]?)/\(∀j t,j<i->r.2.2.u4[j]?=some t->∃s∈g.u4,PB g.bA s t)/\r.2.2.aW=g.aW) (by omega) ⟨rfl,q,cA.rfl,bE.nil,Nat.zero_le _,fun _ _=>rfl,fun j t hj=>by omega,rfl⟩ (fun i r hi hr=> ?_) fun r hr=> ?_
 ·obtain⟨o,a,u⟩:=r
  obtain⟨rfl,h1,h2,h3,h4,h5,h6,h7⟩:=hr
  dsimp only at*
  refine aM (fun _=>ay (by omega) ?_) fun h=>absurd (by omega) h
  rw[a08]
  refine a03 (by omega) ?_
  obtain⟨s,hs⟩:∃s,g.u4[i]?=some s:=⟨_,List.getElem?_eq_getElem (by omega)⟩
  have hu:u.u4[i]?=some s:=by rw[h5 i (Nat.le_refl _)];exact hs
  simp only[bB hs]
  have go:Ok (some (Sum.inl (o,add (i:Int) 1,u)):Option ((List aj×Int×aa)⊕(List aj×aa))) (Sum.elim (fun r=>r.2.1=((i+1:Nat):Int)/\GI w S D R {} r.2.2/\cA (i+1:Nat) g r.2.2/\bE S r.1/\r.1.length<=i+1/\(∀j,i+1<=j->r.2.2.u4[j]?=g.u4[j]?)/\(∀j t,j<i+1->r.2.2.u4[j]?=some t->∃s∈g.u4,PB g.bA s t)/\r.2.2.aW=g.aW) fun y=>GI w S D R {} y.2/\cA 15 g y.2/\bE S y.1/\y.1.length<=15/\(∀t∈y.2.u4,∃s∈g.u4,PB g.bA s t)/\y.2.aW=g.aW):=
   ae ⟨cG i (by omega),h1,h2.le (by omega),h3,by show o.length<=i+1;omega,fun j hj=>h5 j (by omega),fun j t hj ht=>by
    by_cases e:j=i
    ·subst e
     have ht:u.u4[j]?=some t:=ht
     rw[hu]at ht;cases ht;exact⟨s,bC hs,.inl rfl⟩
    ·exact h6 j t (by omega) ht,h7⟩
  have asked:∀{y:aa},(∀j,j≠i->y.u4[j]?=u.u4[j]?)->(∀t,y.u4[i]?=some t->MF u.bA t)->s.state=3->s.pending.ax=0->∀j t,j<i+1->y.u4[j]?=some t->∃s∈g.u4,PB g.bA s t:=fun{y} a1 a2 e3 e0 j t hj ht=>by
   by_cases e:j=i
   ·subst e
    exact⟨s,bC hs,.inr ⟨e3,e0,by rw[<-h2.1];exact a2 t ht⟩⟩
   ·rw[a1 j e]at ht;exact h6 j t (by omega) ht
  have bu:Bd u:=⟨by have:=h2.2.2;have:=b.lG;omega,by have:=h2.1;have:=b.bA;omega⟩
  have bu2:u.count<=400000:=by have:=h2.2.2;omega
  refine aP (fun _=>go) fun e3=>aP (fun _=>go) fun e0=>bJ (fun _=>bn (fun _=>go) fun _=> ?_) fun _=> ?_
  ·refine(Mo hL hM h1 bu hu e3).bind fun y ⟨k1,k2,k3,k4,k5,k6,k7⟩=>bD (cF (by rw[List.length_append];omega)) (ae ⟨cG i (by omega),k1,(h2.trans k2).le (by omega),h3.app k3 (by omega),by show(o++y.2).length<=i+1;rw[List.length_append];omega,fun j hj=> ?_,asked k5 k6 e3 e0,k7.trans h7⟩)
   rw[show y.1.u4[j]?=u.u4[j]? from k5 j (by omega)];exact h5 j (by omega)
  ·refine(Of hL hM h1 bu bu2 hu e3).bind fun y ⟨k1,k2,k3,k4,k5,k6,k7⟩=>bD (cF (by rw[List.length_append];omega)) (ae ⟨cG i (by omega),k1,(h2.trans k2).le (by omega),h3.app k3 (by omega),by show(o++y.2).length<=i+1;rw[List.length_append];omega,fun j hj=> ?_,asked k5 k6 e3 e0,k7.trans h7⟩)
   rw[show y.1.u4[j]?=u.u4[j]? from k5 j (by omega)];exact h5 j (by omega)
 ·obtain⟨o,a,u⟩:=r
  obtain⟨rfl,h1,h2,h3,h4,h5,h6,h7⟩:=hr
  dsimp only at*
  refine aM (fun h=>by omega) fun _=>ae ⟨h1,h2.le (by omega),h3,by show o.length<=15;omega,fun t ht=> ?_,h7⟩
  obtain⟨j,hj⟩:=List.mem_iff_getElem?.1 ht
  have hj:u.u4[j]?=some t:=hj
  by_cases e:j<g.u4.length
  ·exact h6 j t e hj
  ·rw[h5 j (by omega),List.getElem?_eq_none (by omega)]at hj;cases hj
theorem PD(q:GI w S D R X g){x:Int}:Ok (qf L g x) fun y=>GI w S D R X y.1/\cA 0 g y.1:=by
 unfold qf
 have hl:=q.len
 refine bX (fun _=>ae ⟨q,cA.rfl⟩) fun _=> ?_
 refine Ok.bind (P:=fun y=>GI w S D R X y/\cA 0 g y) ?_ fun y hy=>ae hy
 refine a0i g.u4.length (fun i r=>r.1=(i:Int)/\GI w S D R X r.2/\cA 0 g r.2/\r.2.u4.length=g.u4.length) (by omega) ⟨rfl,q.same rfl rfl rfl rfl rfl rfl rfl rfl rfl rfl rfl rfl,⟨rfl,Int.le_refl _,by show g.count<=g.count+0;omega⟩,rfl⟩ (fun i r hi hr=> ?_) fun r hr=> ?_
 ·obtain⟨a,u⟩:=r
  obtain⟨rfl,h1,h2,h5⟩:=hr
  dsimp only at*
  refine aM (fun _=>ay (by omega) ?_) fun h=>absurd (by omega) h
  rw[a08]
  obtain⟨s,hs⟩:∃s,u.u4[i]?=some s:=⟨_,List.getElem?_eq_getElem (by omega)⟩
  have hs':(u.u4.set i (Sa.kC s x))[i]?=some (Sa.kC s x):=List.getElem?_set_self (by omega)
  simp only[bB hs,bB hs']
  have hq:=h1.u4 s (bC hs)
  have put:∀s':Sa,pV w S u.bA X.ex s'->s'.own=s.own->s'.follows=s.follows->s'.pending=s.pending->s'.state=s.state->GI w S D R X (aa.bI u (u.u4.set i s')):=fun s' k0 k1 k2 k3 k4=>by
   refine h1.pM hs rfl k0 k1 k2 (fun y=>.inl (Nat.le_of_eq ?_)) (.inl (Nat.le_of_eq ?_)) (.inl (Nat.le_of_eq ?_)) (Nat.le_of_eq ?_) (Nat.le_of_eq ?_) (.inl rfl) (by rw[k3];exact h1.gone s (bC hs))
   ·unfold fZ;rw[k3]
   ·unfold pSa;rw[k3]
   ·unfold nj;rw[k3]
   ·unfold iR;rw[k4]
   ·unfold lone;rw[k4]
  refine a03 (by omega) (ay (by omega) (a03 (by rw[List.length_set];omega) (aC (fun _=> ?_) fun _=> ?_)))
  ·refine ay (by omega) (a03 (by rw[List.length_set];omega) ?_)
   rw[List.set_set]
   exact ae ⟨cG i (by omega),put _ {hq with} rfl rfl rfl rfl,h2,by show(u.u4.set i _).length=_;rw[List.length_set];exact h5⟩
  ·exact ae ⟨cG i (by omega),put _ {hq with} rfl rfl rfl rfl,h2,by show(u.u4.set i _).length=_;rw[List.length_set];exact h5⟩
 ·obtain⟨a,u⟩:=r
  obtain⟨rfl,h1,h2,h5⟩:=hr
  dsimp only at*
  exact aM (fun h=>by omega) fun _=>ae ⟨h1,h2⟩
end
section
variable {w:Int}{S S':List jn}{D:Dl}{R:List aQ}{X X':Cr}{g g':aa}{L:Nat}
theorem GI.addr(q:GI w S D R X g){i:Nat}{s s':Sa}(hs:g.u4[i]?=some s)(k0:pV w S g.bA X.ex s')(k1:s'.own=s.own)(k2:s'.follows=s.follows)(k3:s'.pending=s.pending)(k4:s'.state=s.state):GI w S D R X (aa.bI g (g.u4.set i s')):=by
 refine q.pM hs rfl k0 k1 k2 (fun y=>.inl (Nat.le_of_eq ?_)) (.inl (Nat.le_of_eq ?_)) (.inl (Nat.le_of_eq ?_)) (Nat.le_of_eq ?_) (Nat.le_of_eq ?_) (.inl rfl) (by rw[k3];exact q.gone s (bC hs))
 ·unfold fZ;rw[k3]
 ·unfold pSa;rw[k3]
 ·unfold nj;rw[k3]
 ·unfold iR;rw[k4]
 ·unfold lone;rw[k4]
theorem Ki{l:TL}(h:GL S l)(hl:l.len+1<=5000):qH w S (TL.of [T.a01 (TL.app (TL.of [T.aG 17]) l)]):=by
 have h1:GL S (TL.of [T.aG 17]):=GL.of (by simp) fun t ht=>by rw[List.mem_singleton]at ht;subst ht;exact aZ.aG _
 refine⟨GL.of (by simp) fun x hx=> ?_,fun x hx=> ?_⟩
 ·rw[List.mem_singleton]at hx;subst hx
  exact aZ.a01 (GL.app h1 h (by rw[TL.eD];simp;omega))
 ·exfalso
  have e:fnd (TL.of [T.a01 (TL.app (TL.of [T.aG 17]) l)]) 3=(TL.nil,false):=by
   show fnd (.cons 3 0 (.cons 1 17 .nil l) .nil) 3=_
   unfold fnd
   rw[if_neg]
   ·rfl
   ·intro hc
    have:(17:Int)=3:=hc.2.2.2
    exact absurd this (by decide)
  rw[mG e]at hx;cases hx
variable (hL:5000<L)(hM:L<=4611686018427387904)
include hL hM
theorem uP(q:GI w S D R X g){x:Int}{m:bW}{r:a04}(hp:GL S m.parts):Ok (lX L g x m r) fun y=>GI w S D R X y/\cA 0 g y:=by
 unfold lX
 have no:Ok (some g) fun y=>GI w S D R X y/\cA 0 g y:=ae ⟨q,cA.rfl⟩
 refine(q.at_ hL hM).bind fun y hy=> ?_
 rw[fH hL hM hp.1]
 refine aD (ae (aP (fun _=>no) fun _=>aM (fun _=>no) fun h0=>aP (fun _=>no) fun h1=>a03 (by omega) ?_))
 refine a2P hL hM ((jW hp).get 0).1 (aP (fun _=>no) fun _=> ?_)
 rcases hy with⟨rfl,_⟩|⟨i,s,rfl,hi,_⟩
 ·exact absurd (by decide:(-1:Int)<0) h0
 refine ay h0 (a03 (bL hi) ?_)
 simp only[a08,bB hi]
 have hq:=q.u4 s (bC hi)
 exact aC (fun _=>ae ⟨q.addr hi {hq with} rfl rfl rfl rfl,cA.rfl⟩) fun _=>ae ⟨q.addr hi {hq with} rfl rfl rfl rfl,cA.rfl⟩
theorem ya(q:GI w S D R X g){x:Int}{m:bW}{cq:Int}(hx:∀s∈g.u4,s.own=x->3<=s.state)(hp:GL S m.parts):Ok (lY L g x m cq) fun y=>GI w S D R X y.1/\cA 0 g y.1/\bE S y.2:=by
 unfold lY
 have ans:∀{g':aa} {parts:TL},GI w S D R X g'->cA 0 g g'->(∀s∈g'.u4,s.own=x->3<=s.state)->qH w S parts->Ok (Option.bind (a09 L g' x m cq parts) fun y=>some y) fun y=>GI w S D R X y.1/\cA 0 g y.1/\bE S y.2:=fun{g' parts} hq ha hs ho=>
  (ny hL hM hq (cq:=cq) (m:=m) hs ho.1 ho.2).bind fun y ⟨a1,a2,a3,_⟩=>ae ⟨a1,(ha.trans a2).le (by decide),a3⟩
 rw[fH hL hM hp.1]
 refine aD (ae (bJ (fun _=> ?_) fun _=> ?_))
 ·refine(q.at_ hL hM).bind fun y hy=> ?_
  rcases hy with⟨rfl,_⟩|⟨i,s,rfl,hi,he⟩
  ·exact bX (fun h=>absurd (by decide:(-1:Int)<0) h) fun _=>ans q cA.rfl hx oH
  refine bX (fun h0=>ay h0 (a03 (bL hi) ?_)) fun h=>by omega
  simp only[a08,bB hi]
  refine aP (fun _=>ay h0 (a03 (bL hi) ?_)) fun _=>ans q cA.rfl hx oH
  have hq:=q.u4 s (bC hi)
  refine ans (q.addr hi (s':=Sa.GD s cq) {hq with} rfl rfl rfl rfl) cA.rfl (fun t ht e=> ?_) oH
  have ht:t∈g.u4.set i (Sa.GD s cq):=ht
  rcases kH ht with rfl|ht
  ·exact hx s (bC hi) he
  ·exact hx t ht e
 ·rw[fH hL hM hp.1]
  refine aD (ae (bn (fun _=>ans q cA.rfl hx oH) fun _=> ?_))
  have hl:=DS (n:=17) hp.2.1
  exact bD (cF (by rw[TL.fC,TL.eD];simp;omega)) (ans q cA.rfl hx (Ki (jW hp) (by omega)))
end
section
variable {w:Int}{S S':List jn}{D:Dl}{R:List aQ}{X X':Cr}{g g':aa}{L:Nat}
variable (hL:5000<L)(hM:L<=4611686018427387904)
include hL hM
theorem Da(q:GI w S D R X g){t:Tm}{x:Int}:Ok (lH L g t x) fun y=>y.2=true->y.1∈g.aW:=by
 unfold lH
 have hn:=q.nh
 refine Ok.bind (P:=Sum.elim (fun _=>True) fun y=>y.1=true->y.2∈g.aW) ?_ fun y hy=> ?_
 ·refine a0i g.aW.length (fun i r=>r.1=(i:Int)) (by omega) rfl (fun i r hi hr=> ?_) fun r hr=> ?_
  ·obtain⟨a,z⟩:=r
   obtain rfl:a=(i:Int):=hr
   dsimp only
   refine aM (fun _=>ay (by omega) ?_) fun h=>absurd (by omega) h
   rw[a08]
   obtain⟨h,hh⟩:∃h,g.aW[i]?=some h:=⟨_,List.getElem?_eq_getElem hi⟩
   simp only[bB hh]
   have go:∀Q:(bN⊕(Bool×bN))->Prop,Ok (some (Sum.inl (add (i:Int) 1,z)):Option ((Int×bN)⊕(bN⊕(Bool×bN)))) (Sum.elim (fun r=>r.1=((i+1:Nat):Int)) Q):=fun Q=>ae (cG i (by omega))
   refine a03 hi (aC (fun _=> ?_) fun _=>go _)
   exact a2P hL hM (q.aW h (bC hh)).fn (aC (fun _=>ae fun _=>bC hh) fun _=>go _)
  ·obtain⟨a,z⟩:=r
   obtain rfl:a=(g.aW.length:Int):=hr
   dsimp only
   exact aM (fun h=>by omega) fun _=>ae trivial
 ·cases y with
  |inl z=>exact ae fun h=>by cases h
  |inr z=>exact ae hy
end
section
variable {w:Int}{S S':List jn}{D:Dl}{R:List aQ}{X X':Cr}{g g':aa}{L:Nat}
theorem a2r(q:GI w S D R {} g){i:Nat}{s s':Sa}(hi:g.u4[i]?=some s)(h2:s.state=2)(ht:Nm (1-w) s.bO)(k0:pV w S g.bA 0 s')(k1:s'.own=s.own)(k2:s'.follows=s.follows)(k3:s'.pending=a04.az)(k4:s'.state=3):
 GI w S D R {zl:=s.own} (aa.bI g (g.u4.set i s'))/\kY s.pending.dZ w D (aa.bI g (g.u4.set i s')):=by
 have hq:=q.u4 s (bC hi)
 have hp2:=hq.p2 h2
 have z1:∀x,fZ x s'=0:=fun x=>by unfold fZ;rw[k3];rfl
 have z2:pSa s'=0:=by unfold pSa;rw[k3];rfl
 have z3:nj s'=0:=by unfold nj;rw[k3];rfl
 have z4:fZ s.pending.dZ s=1:=by unfold fZ;rw[if_pos ⟨.inl hp2,rfl⟩]
 have hm:=iC (fZ s.pending.dZ) (bC hi)
 have hsoc:∀x,dD x s'+fZ x s=dD x s:=fun x=>by unfold dD;rw[k1,z1 x];omega
 have eU:occ s.pending.dZ (aa.bI g (g.u4.set i s'))+dD s.pending.dZ s=occ s.pending.dZ g+dD s.pending.dZ s':=by
  have:=nr (f:=dD s.pending.dZ) hi s'
  show sumL (dD s.pending.dZ) (g.u4.set i s')+sumL (eU s.pending.dZ) g.aW+sumL (gK s.pending.dZ) g.af+dD s.pending.dZ s=sumL (dD s.pending.dZ) g.u4+sumL (eU s.pending.dZ) g.aW+sumL (gK s.pending.dZ) g.af+dD s.pending.dZ s'
  omega
 have h1:=q.lD s.pending.dZ
 have h3:=hsoc s.pending.dZ
 have hs1:1<=occ s.pending.dZ g:=by
  have:=iC (dD s.pending.dZ) (bC hi)
  unfold occ;omega
 refine⟨q.pM hi rfl k0 k1 k2 (fun x=>.inl (by rw[z1];exact Nat.zero_le _)) (.inl (by rw[z2];exact Nat.zero_le _)) (.inl (by rw[z3];exact Nat.zero_le _)) ?_ ?_ (.inr (.inr ⟨rfl,rfl,?_⟩)) (by rw[k3];exact Nat.zero_le _),⟨by omega,(q.kr _ hs1).1,(q.kr _ hs1).2,fun d hd e=> ?_⟩⟩
 ·unfold iR;rw[k4,h2];exact Nat.le_refl 1
 ·unfold lone;rw[k4,h2];decide
 ·unfold lone;rw[k4,h2];decide
 ·have:=(q.uL d hd).2.2.1
  rw[e]at this
  omega
variable (hL:5000<L)(hM:L<=4611686018427387904)
include hL hM
theorem Dn(q:GI w S D R {} g)(hR:dQ R)(hK:D.k<L){i:Nat}{s:Sa}(hi:g.u4[i]?=some s)(h2:s.state=2){m:bW}(hp:GL S m.parts):
 Ok (a3L L g s.own m) fun y=>GI w S D R {} y/\cA 0 g y:=by
 unfold a3L
 rw[q.AI hL hM hi]
 have hl:=q.len
 have hlt:=bL hi
 have hw:=q.ww
 have hs:=q.u4 s (bC hi)
 refine aD (ae (aM (fun h=>by omega) fun _=>ay (by omega) (a03 hlt ?_)))
 simp only[a08,bB hi]
 have e1:add (i:Int) 1=((i+1:Nat):Int):=cG i (by omega)
 refine(Bz hL hM hp (by rw[q.kS];omega)).bind fun y5 h5=>bn (fun _=> ?_) fun e5=> ?_
 ·rw[e1,a08]
  exact ay (by omega) (ay (by omega) (bD (by simp[Nat.ble_eq];omega) (ae ⟨q.Ur hi (by omega),cA.rfl⟩)))
 ·refine ay (by omega) (a03 hlt ?_)
  have hr:=hs.bY h2
  have ho:=h5 e5 _ hr
  rw[q.kS]at ho
  have hty:s.bO.1=2:=by
   unfold kR fI at hr
   split at hr
   ·rename_i hc;have hh:=Option.some.inj hr;rw[<-hh];exact hc.2
   ·cases hr
  have ht:Nm (1-w) s.bO:=⟨hty,ho,hs.thn⟩
  obtain⟨s',es⟩:∃s',s'=Sa.bw s (state:=3) (pending:=a04.az) (eC:=g.bA) (lV:=g.bA):=⟨_,rfl⟩
  have k0:pV w S g.bA 0 s':=by
   rw[es]
   exact{hs with st:=.inr (.inr (.inl rfl)),key:=fun _=>hs.key (by omega),first:=fun h=>by exact absurd h (by show¬(3:Int)<=2;decide),bY:=fun h=>by exact absurd h (by show¬(3:Int)=2;decide),up:=fun _=>ht,body:=aZ.zero,Jm:=fun h=>by exact absurd h (by show¬((0:Int)=3∨(0:Int)=4∨(0:Int)=5);decide),sD:=⟨Nat.zero_le _,trivial⟩,MD:=⟨Nat.zero_le _,trivial⟩,p1:=fun h=>by exact absurd h (by show¬(3:Int)=1;decide),p2:=fun h=>by exact absurd h (by show¬(3:Int)=2;decide),p4:=fun _ h=>by exact absurd h (by show¬(3:Int)=4;decide),J6:=fun h=>absurd rfl h,eC:=⟨q.bA,Int.le_refl _⟩}
  have k1:s'.own=s.own:=by rw[es];rfl
  have k4:s'.state=3:=by rw[es];rfl
  obtain⟨q2,fr⟩:=a2r q hi h2 ht k0 k1 (by rw[es];rfl) (by rw[es];rfl) k4
  show Ok (Option.bind (gZ L (aa.bI g (g.u4.set i (Sa.bw s (state:=3) (pending:=a04.az) (eC:=g.bA) (lV:=g.bA)))) s.own m.parts s.pending s.ours s.bO) _) _
  rw[<-es,<-k1]
  rw[<-k1]at q2
  have hi2:(g.u4.set i s')[i]?=some s':=List.getElem?_set_self hlt
  have hne:s'.own≠0:=by rw[k1];exact q.Ep (bC hi)
  refine(BN hL hM q2 hR hi2 (by omega) hp hs.ours ht fr (X':={}) ⟨rfl,rfl,rfl,.inr (.inr ⟨rfl,hne,rfl,rfl⟩)⟩ (q2.a4o (.inl rfl) (Nat.le_refl _) (.inr rfl) (Nat.le_refl _) (Nat.le_refl _)) (q.gone s (bC hi)) hK).bind fun y6 ⟨t1,t2,_,_,t5,_⟩=> ?_
  rw[fH hL hM hp.1]
  have ha:cA 0 g y6.1:=t2
  refine aD (ae (aC (fun h1=>a03 (by omega) ?_) fun _=>ae ⟨t1,ha⟩))
  have hn:=t1.nt
  have hg:=(jW (n:=18) hp).get 0
  obtain⟨l,el⟩:∃l,l=y6.1.cu++[(TL.get (fnd m.parts 18).1 0,s.d)]:=⟨_,rfl⟩
  have hl3:l.length<=3:=by rw[el,List.length_append];show y6.1.cu.length+1<=3;omega
  have hmem:∀t∈l,aZ S t.body/\t.d.cP:=fun t ht=>by
   rw[el]at ht
   rcases List.mem_append.1 ht with ht|ht
   ·exact t1.a4l t ht
   ·rw[List.mem_singleton]at ht;rw[ht];exact⟨hg,hs.dn⟩
  simp only[<-el]
  have hk:eN 0 (sub (l.length:Int) 2)=((l.length-2:Nat):Int):=by
   have:l.length=0∨l.length=1∨l.length=2∨l.length=3:=by omega
   rcases this with h|h|h|h<;>rw[h]<;>decide
  rw[hk,a08]
  refine bD (cF (by omega)) (ay (by omega) (bD (by simp[Nat.ble_eq]) (ae ⟨t1.Ai (fun t ht=>hmem t (List.mem_of_mem_take (List.mem_of_mem_drop ht))) (by rw[List.length_drop,List.length_take];omega),ha⟩)))
end
section
variable {w:Int}{S S':List jn}{D:Dl}{R:List aQ}{X X':Cr}{g g':aa}{L:Nat}
theorem TL.CQ(z x:Tm):∀a:TL,TL.set (TL.app a (TL.of [z])) a.len x=TL.app a (TL.of [x])
 | .nil=>rfl
 | .cons o v b r=>by
   show TL.cons o v b (TL.set (TL.app r (TL.of [z])) r.len x)=TL.cons o v b (TL.app r (TL.of [x]))
   rw[TL.CQ z x r]
theorem A4{k:Tm}(hk:k.cP)(sh:Jl k){parts:TL}(hp:GL S parts)(hn:∀x,fI parts=some x->own x=own (a4n k))(h1 h2:Hd):aZ S (Cp h1 (T.gq k (mH h2 parts))):=by
 refine aZ.msg (aZ.gq ⟨fun _ x hx=>hn x (by rw[<-hx];exact(rN h2 parts).symm),fun e=> ?_⟩ (aZ.vR hk (.inr (.inr (.inr (.inr (.inl sh.1)))))) (aZ.plain hp))
 have:=sh.2;have:=e.2;omega
theorem EH{v:Int}{m n:Tm}(hm:m.cP)(hn:n.cP)(h:∀x,kR m=some x->own x=v):aZ S (T.EI v (T.a01 (TL.of [m,n,T.aG v]))):=by
 refine aZ.EI (fun msg n' p e x hx=> ?_) ⟨Nat.le_of_ble_eq_true rfl,hm.1,hm.2,hn.1,hn.2,Nat.zero_le _,trivial,trivial⟩
 have e1:m=msg:=by
  have:=congrArg (fun t:Tm=>t.2.2.get 0) e
  exact this
 rw[<-e1]at hx;exact h x hx
theorem GC{k:Tm}(hk:k.cP)(h2:k.1=2){b:Tm}(hb:aZ S b):aZ S (T.gq k b):=by
 refine aZ.gq ⟨fun h=> ?_,fun h=> ?_⟩ (aZ.vR hk (.inr (.inl h2))) hb
 ·have:=h.1;omega
 ·have:=h.1;omega
theorem IW{a:Int}{sig tk:Tm}{b:TL}(h1:aZ S sig)(h2:aZ S tk)(hb:GL S b)(hf:fnd b 3=(.nil,false))(hl:b.len<=4000):
 qH w S (TL.app (TL.app (TL.of [T.a01 (TL.of [T.aG 8,T.aG a]),T.a01 (TL.of [T.aG 9,sig])]) b) (TL.of [T.a01 (TL.of [T.aG 18,tk])])):=by
 have g1:GL S (TL.of [T.a01 (TL.of [T.aG 8,T.aG a]),T.a01 (TL.of [T.aG 9,sig])]):=GL.of (by simp) fun x hx=>by
  rcases List.mem_cons.1 hx with rfl|hx
  ·exact aZ.part (n:=8) (l:=[T.aG a]) (by simp) fun y hy=>by rw[List.mem_singleton]at hy;subst hy;exact aZ.aG _
  ·rw[List.mem_singleton]at hx;subst hx
   exact aZ.part (n:=9) (l:=[sig]) (by simp) fun y hy=>by rw[List.mem_singleton]at hy;subst hy;exact h1
 have g3:GL S (TL.of [T.a01 (TL.of [T.aG 18,tk])]):=GL.of (by simp) fun x hx=>by
  rw[List.mem_singleton]at hx;subst hx
  exact aZ.part (n:=18) (l:=[tk]) (by simp) fun y hy=>by rw[List.mem_singleton]at hy;subst hy;exact h2
 have f1:fnd (TL.of [T.a01 (TL.of [T.aG 8,T.aG a]),T.a01 (TL.of [T.aG 9,sig])]) 3=(.nil,false):=by
  rw[gD (n:=8) (l:=[T.aG a]) (by decide),gD (n:=9) (l:=[sig]) (by decide)];rfl
 have f3:fnd (TL.of [T.a01 (TL.of [T.aG 18,tk])]) 3=(.nil,false):=by rw[gD (n:=18) (l:=[tk]) (by decide)];rfl
 refine⟨GL.app (GL.app g1 hb (by rw[TL.eD];simp;omega)) g3 (by rw[TL.fC,TL.eD,TL.eD];simp;omega),fun x hx=> ?_⟩
 rw[mG (by rw[uh (by rw[uh f1];exact hf)];exact f3)]at hx;cases hx
variable (hL:5000<L)(hM:L<=4611686018427387904)
include hL hM
theorem AA(q:GI w S D R {} g)(hR:dQ R)(b:Bd g){d:aj}{m:bW}(hd:aZ S d.body):Ok (oh L g d m) fun y=>GI w S D R {} y.1/\cA 1 g y.1/\bE S y.2:=by
 unfold oh
 have no:Ok (some (g,([]:List aj))) fun y=>GI w S D R {} y.1/\cA 1 g y.1/\bE S y.2:=ae ⟨q,cA.rfl.le (by decide),bE.nil⟩
 refine(sG hL hM q).bind fun y hy=> ?_
 rcases hy with⟨rfl,_⟩|⟨i,h,rfl,hi,he⟩
 ·exact aM (fun _=>no) fun h=>absurd (by decide:(-1:Int)<0) h
 have hh:=q.aW h (bC hi)
 refine aM (fun _=>no) fun _=>ay (by omega) (a03 (bL hi) ?_)
 simp only[a08,bB hi]
 refine aP (fun _=>no) fun e1=>ay (by omega) (a03 (bL hi) ?_)
 refine(GO hL hM hd hh.Bk).bind fun y5 h5=>bn (fun _=>no) fun e5=>aP (fun _=>no) fun _=> ?_
 obtain⟨p1,p2⟩:=h5 e5
 rw[xV hL hM q hi]
 refine aD (ae ?_)
 obtain⟨q2,eU,hlo,hhi⟩:=q.MX hi
 obtain⟨g2,e2⟩:∃g2,g2=aa.pT g (g.aW.take i++g.aW.drop (i+1)):=⟨_,rfl⟩
 have a2:cA 0 g g2:=by rw[e2];exact cA.rfl
 have hs2:g2.u4=g.u4:=by rw[e2];rfl
 rw[<-e2]at q2 eU⊢
 have hw:=q.ww
 have err:∀n:Int,aZ S (Cp (FF (bW.bw y5.1 (bY:=true) (aV:=false) (parts:=AD n))) (T.gq h.out (mH (FF (bW.bw y5.1 (bY:=true) (aV:=false) (parts:=AD n))) (AD n)))):=fun n=>A4 hh.on hh.key.1 zo (fun x hx=>by rw[hh.key.2.2.1,hh.ours.2.1];exact(jH (S:=S) (n:=n)).2 x hx) _ _
 refine(Bz hL hM p1 (by rw[q2.kS];omega)).bind fun y7 h7=>bn (fun _=> ?_) fun e7=>bX (fun _=> ?_) fun hlen=> ?_
 ·rw[iP]
  exact aD (ae (aD (ae (ae ⟨q2,a2.le (by decide),bE.one (err 24)⟩))))
 ·rw[iP]
  exact aD (ae (aD (ae (ae ⟨q2,a2.le (by decide),bE.one (err 35)⟩))))
 have hpr:=h7 e7 _ hh.first
 rw[q2.kS]at hpr
 have hty:h.bO.1=2:=by
  have hr:=hh.first
  unfold kR fI at hr
  split at hr
  ·rename_i hc;have hx:=Option.some.inj hr;rw[<-hx];exact hc.2
  ·cases hr
 have ht:Nm (1-w) h.bO:=⟨hty,hpr,hh.thn⟩
 have hlen:(g2.u4.length:Int)<8:=hlen
 refine bD (cF (by rw[List.length_append];show(g2.u4.length+1)*856<=_;omega)) ?_
 obtain⟨n,en⟩:∃n,n=Sa.az (own:=h.own) (fg:=h.fg) (state:=3) (bM:=g2.bM) (a0a:=aj.cq d) (d:=h.d) (out:=h.out) (eI:=h.eI) (ours:=h.ours) (bO:=h.bO) (first:=h.first) (bY:=h.bY) (pU:=2) (iQ:=1) (eC:=g2.bA) (dK:=h.dK) (lV:=g2.bA):=⟨_,rfl⟩
 have k0:pV w S g2.bA 0 n:=by
  rw[en]
  exact{ours:=hh.ours,thn:=hh.thn,st:=.inr (.inr (.inl rfl)),key:=fun _=>hh.key,on:=hh.on,Bk:=hh.Bk,dn:=hh.dn,fn:=hh.fn,first:=fun h=>by exact absurd h (by show¬(3:Int)<=2;decide),rn:=hh.bY.1,bY:=fun h=>by exact absurd h (by show¬(3:Int)=2;decide),up:=fun _=>ht,body:=aZ.zero,sE:=aZ.zero,Jm:=fun h=>by exact absurd h (by show¬((0:Int)=3∨(0:Int)=4∨(0:Int)=5);decide),sD:=⟨Nat.zero_le _,trivial⟩,MD:=⟨Nat.zero_le _,trivial⟩,p1:=fun h=>by exact absurd h (by show¬(3:Int)=1;decide),p2:=fun h=>by exact absurd h (by show¬(3:Int)=2;decide),p4:=fun _ h=>by exact absurd h (by show¬(3:Int)=4;decide),J6:=fun h=>absurd rfl h,eC:=⟨q2.bA,Int.le_refl _⟩}
 have n1:n.own=h.own:=by rw[en];rfl
 have n2:n.pending=a04.az:=by rw[en];rfl
 have hcnt:g2.count=g.count:=by have:=a2.2.1;have:=a2.2.2;omega
 have q3:=q2.OS k0 (by rw[n1];exact eU) (by rw[n1];exact hlo) (by rw[n1,hcnt];exact hhi) (by rw[en];rfl) (fun x=>by unfold fZ;rw[n2];rfl) (by unfold pSa;rw[n2];rfl) (by unfold nj;rw[n2];rfl) (by omega) (by rw[n2];exact Nat.zero_le _)
 show Ok (Option.bind (a2X L (aa.bI g2 (g2.u4++[Sa.az (own:=h.own) (fg:=h.fg) (state:=3) (bM:=g2.bM) (a0a:=aj.cq d) (d:=h.d) (out:=h.out) (eI:=h.eI) (ours:=h.ours) (bO:=h.bO) (first:=h.first) (bY:=h.bY) (pU:=2) (iQ:=1) (eC:=g2.bA) (dK:=h.dK) (lV:=g2.bA)])) h.own y5.1.parts h.ours h.bO) _) _
 rw[<-en,<-n1]
 obtain⟨g3,e3⟩:∃g3,g3=aa.bI g2 (g2.u4++[n]):=⟨_,rfl⟩
 have a3:cA 0 g g3:=by rw[e3];exact a2
 have hs3:g3.u4=g2.u4++[n]:=by rw[e3];rfl
 rw[<-e3]at q3⊢
 have b3:Bd g3:=⟨by have:=a3.2.2;have:=b.lG;omega,by have:=a3.1;have:=b.bA;omega⟩
 have hi3:g3.u4[g2.u4.length]?=some n:=by rw[hs3];simp
 refine(Df hL hM q3 hR b3 hi3 (by rw[en];show(3:Int)<=3;decide) p1 hh.ours ht).bind fun y8 ⟨s1,s2,s3,_,_,s6,s7,s8,s9⟩=> ?_
 have hid:=s1.id
 have hvn:=s1.vn
 have hsas:y8.1.u4=g2.u4++[n]:=by rw[s3,hs3]
 have hi8:y8.1.u4[g2.u4.length]?=some n:=by rw[hsas];simp
 have hl8:y8.1.u4.length=g2.u4.length+1:=by rw[hsas];simp
 have hsub:sub (y8.1.u4.length:Int) 1=(g2.u4.length:Int):=by rw[hl8,uT (by omega) (by omega)];omega
 unfold jq
 refine aD (ae ?_)
 obtain⟨sg,esg⟩:∃sg,sg=T.EI (aa.av y8.1) (T.a01 (TL.of [bN.bY h,bN.bO h,T.aG (aa.av y8.1)])):=⟨_,rfl⟩
 obtain⟨tk,etk⟩:∃tk,tk=T.gq (aa.mm y8.1) (T.a01 (TL.of [bN.d h,T.aG (aa.kS y8.1),T.aG (add (aa.bA y8.1) 40)])):=⟨_,rfl⟩
 obtain⟨A,eA⟩:∃A,A=T.a01 (TL.of [T.aG 8,T.aG (aa.av y8.1)]):=⟨_,rfl⟩
 simp only[<-esg,<-etk,<-eA]
 obtain⟨P,eP⟩:∃P,P=TL.app (TL.set (TL.app (TL.set (TL.of [(0,0,TL.nil)]) 0 A) (TL.of [(0,0,TL.nil)])) (TL.len (TL.set (TL.of [(0,0,TL.nil)]) 0 A)) (T.a01 (TL.of [T.aG 9,sg]))) y8.2:=⟨_,rfl⟩
 have eP2:P=TL.app (TL.of [A,T.a01 (TL.of [T.aG 9,sg])]) y8.2:=eP
 simp only[<-eP,hsub,a08,bB hi8]
 simp only[TL.CQ]
 have hPl:P.len=2+y8.2.len:=by rw[eP2,TL.fC,TL.eD];rfl
 rw[iP]
 refine bD (cF (by omega)) (bD (cF (by rw[TL.fC,TL.eD];simp;omega)) (a03 (by rw[TL.fC,TL.eD];simp) (aD (ae (aD (ae (ay (by omega) (a03 (by omega) ?_))))))))
 have gsg:aZ S sg:=by
  rw[esg]
  exact EH hh.bY.1 hh.thn (by rw[hid];exact hh.rn)
 have gtk:aZ S tk:=by
  rw[etk]
  refine GC hvn.1 hvn.2 (aZ.a01 (GL.of (by simp) fun t ht=> ?_))
  simp only[List.mem_cons,List.mem_nil_iff,or_false]at ht
  rcases ht with rfl|rfl|rfl
  ·exact aZ.vR hh.dn (.inr (.inr (.inr (.inr (.inl hh.d6)))))
  ·exact aZ.aG _
  ·exact aZ.aG _
 have hown:qH w S (TL.app P (TL.of [T.a01 (TL.of [T.aG 18,tk])])):=by
  rw[eP2,eA];exact IW gsg gtk s6 s7 (by omega)
 have hb:aZ S (Cp (FF (bW.bw y5.1 (bY:=true) (aV:=false) (parts:=TL.app P (TL.of [T.a01 (TL.of [T.aG 18,tk])])))) (T.gq h.out (mH (FF (bW.bw y5.1 (bY:=true) (aV:=false) (parts:=TL.app P (TL.of [T.a01 (TL.of [T.aG 18,tk])])))) (TL.app P (TL.of [T.a01 (TL.of [T.aG 18,tk])]))))):=
  A4 hh.on hh.key.1 hown.1 (fun x hx=>by rw[hh.key.2.2.1,hh.ours.2.1];exact hown.2 x hx) _ _
 have k8:=s1.u4 n (bC hi8)
 exact ae ⟨s1.pM hi8 rfl {k8 with sE:=hb} rfl rfl (fun x=>.inl (Nat.le_refl _)) (.inl (Nat.le_refl _)) (.inl (Nat.le_refl _)) (Nat.le_refl _) (Nat.le_refl _) (.inl rfl) (s1.gone n (bC hi8)),(a3.trans s2).le (by decide),bE.one hb⟩
end
end Go.Proofs.YtehbbcdhahnkgaaGreat.Vm
