/- Plain functions: packets are sealed and opened. -/
import Derived.Test.YtehbbcdhahnkgaaGreatVVqY
set_option linter.all false
set_option maxRecDepth 100000
set_option maxHeartbeats 0
namespace Go.Proofs.YtehbbcdhahnkgaaGreat.Vm
open Go
def pW(c:Clear):Prop:=(0<=c.bf.bZ.hi/\c.bf.bZ.hi<18446744073709551616)/\(0<=c.bf.bZ.lo/\c.bf.bZ.lo<18446744073709551616)/\(0<=c.bf.target.hi/\c.bf.target.hi<18446744073709551616)/\(0<=c.bf.target.lo/\c.bf.target.lo<18446744073709551616)
def jT(p:a05):Prop:=(0<=p.aR/\p.aR<=255)/\(-1<=p.aK/\p.aK<=65535)/\(-1<=p.aO/\p.aO<=65535)
def Db(S:List jn):Prop:=∀e∈S,1<=e.2.2.1/\e.2.2.1<=200/\pW e.2.2.2/\jT e.2.2.2.bf
theorem Wm{a:Int}:∃b:Int,IntKind.i64.wrap a=b/\b=(a+9223372036854775808)%18446744073709551616-9223372036854775808:=by
 refine⟨_,?_,rfl⟩
 unfold IntKind.wrap;simp[IntKind.signed,IntKind.bits];omega
theorem uE{a:Int}(h1:0<=a)(h2:a<18446744073709551616):aY .u64 (aY .i64 a)=a:=by
 obtain⟨b,e1,e2⟩:=Wm (a:=a)
 show IntKind.u64.wrap (IntKind.i64.wrap a)=a
 rw[e1]
 have:IntKind.u64.wrap b=b%18446744073709551616:=by unfold IntKind.wrap;simp[IntKind.signed,IntKind.bits]
 rw[this];omega
theorem TL.of3{l:TL}(h:l.len=3):l=TL.of [l.get 0,l.get 1,l.get 2]:=by
 cases l with
 |nil=>cases h
 |cons o v a r=>cases r with
  |nil=>cases h
  |cons o' v' a' r=>cases r with
   |nil=>cases h
   |cons o2 v2 a2 r=>cases r with
    |nil=>rfl
    |cons=>simp[TL.len]at h
section
variable {w:Int}{S S':List jn}{D:Dl}{R:List aQ}{X X':Cr}{g g':aa}{L:Nat}
theorem GI.Sf(q:GI w S D R X g){i j:Nat}{s t:a00}(hi:g.af[i]?=some s)(hj:g.af[j]?=some t)(h:s.eI=t.eI):i=j:=by
 by_cases e:i=j
 ·exact e
 ·exfalso
  have h1:=q.lD s.eI
  have hc:=wA (f:=gK s.eI) hi
  have hm:t∈g.af.take i++g.af.drop (i+1):=by
   rcases Nat.lt_or_gt_of_ne e with h|h
   ·refine List.mem_append.2 (.inr (List.mem_of_getElem? (i:=j-(i+1)) ?_))
    rw[List.getElem?_drop,show i+1+(j-(i+1))=j by omega];exact hj
   ·refine List.mem_append.2 (.inl (List.mem_of_getElem? (i:=j) ?_))
    rw[List.getElem?_take];simp[h,hj]
  have hm':=iC (gK s.eI) hm
  have a1:1<=gK s.eI s:=by unfold gK;simp
  have a2:1<=gK s.eI t:=by unfold gK;simp[h]
  unfold occ at h1
  omega
theorem GI.L3(q:GI w S D R X g){s t:a00}(hs:s∈g.af)(ht:t∈g.af)(h:s.eI=t.eI):s=t:=by
 obtain⟨i,hi⟩:=List.mem_iff_getElem?.1 hs
 obtain⟨j,hj⟩:=List.mem_iff_getElem?.1 ht
 have:=q.Sf hi hj h
 subst this
 rw[hi]at hj;cases hj;rfl
theorem GI.MZ(q:GI w S D R X g){c:a00}{n:Int}(hc:c∈g.af)(hs:seen c.iS n):GI w S ⟨(c.eI,n)::D.l,D.k⟩ R X g:=by
 refine⟨q.ww,q.id,q.kS,q.dh,q.MA,q.lG,q.bA,q.gn,q.vn,q.u4,q.aW,q.dF,q.a4l,q.nh,q.nt,q.lD,q.kr,q.nY,q.fh,q.a3V,q.tq,q.jE,q.gone,fun d hd=> ?_⟩
 rcases List.mem_cons.1 hd with rfl|hd
 ·have h1:=q.lD c.eI
  have h2:=iC (gK c.eI) hc
  have h3:gK c.eI c=1:=by unfold gK;simp
  have h4:sumL (fZ c.eI) g.u4<=sumL (dD c.eI) g.u4:=qt _ fun s _=>by unfold dD;omega
  have h5:=q.kr c.eI (by unfold occ;omega)
  refine⟨h5.1,h5.2,by unfold occ at h1;show sumL (fZ c.eI) g.u4=0;omega,fun d hd e=> ?_⟩
  rw[q.L3 hd hc e];exact hs
 ·exact q.uL d hd
theorem GI.sc{ss ss':List Sa}{cs cs':List a00}(q:GI w S D R X (aa.bI (aa.ck g cs) ss))(e:ss'=ss)(e':cs'=cs):GI w S D R X (aa.bw g (u4:=ss') (af:=cs')):=by
 subst e;subst e'
 exact q.same rfl rfl rfl rfl rfl rfl rfl rfl rfl rfl rfl rfl
theorem TN{x:cC}(h:MJ x):∃t b:Nat,x=As t b/\b<64/\t<=300:=by
 obtain⟨h1,⟨b,h2,h3,h4⟩,h5,h6⟩:=h
 refine⟨x.mj.toNat,b.toNat,?_,by omega,by omega⟩
 have e1:((x.mj.toNat:Nat):Int)=x.mj:=by omega
 have e2:((b.toNat:Nat):Int)=b:=by omega
 unfold As
 rw[e1,e2,<-h2,<-h1];rfl
theorem OG{t b:Nat}(hb:b<64)(ht:t<=300):MJ (As t b):=⟨rfl,⟨b,rfl,by omega,by omega⟩,by show(0:Int)<=(t:Int);omega,by show(t:Int)<=300;omega⟩
theorem Ay{c:Clear}:jt L c=some (T7 c):=rfl
theorem HY{a:Address}:Ok (iW L a) fun _=>True:=by
 unfold iW
 (repeat' with_reducible first|refine bX (fun _=> ?_) (fun _=> ?_)|refine aM (fun _=> ?_) (fun _=> ?_)|refine aP (fun _=> ?_) (fun _=> ?_)|refine aC (fun _=> ?_) (fun _=> ?_)|refine ay (by omega) ?_|refine a03 (by omega) ?_|refine eK (by omega) ?_|refine a0r (by omega) ?_|refine ok_glt (by omega) ?_|refine bn (fun _=> ?_) (fun _=> ?_)|refine bJ (fun _=> ?_) (fun _=> ?_))<;>exact ae trivial
theorem LP{a:Int}:Ok (ju L a) fun _=>True:=by
 unfold ju
 (repeat' with_reducible first|refine bX (fun _=> ?_) (fun _=> ?_)|refine aM (fun _=> ?_) (fun _=> ?_)|refine aP (fun _=> ?_) (fun _=> ?_)|refine aC (fun _=> ?_) (fun _=> ?_)|refine ay (by omega) ?_|refine a03 (by omega) ?_|refine eK (by omega) ?_|refine a0r (by omega) ?_|refine ok_glt (by omega) ?_|refine bn (fun _=> ?_) (fun _=> ?_)|refine bJ (fun _=> ?_) (fun _=> ?_))<;>exact ae trivial
theorem LY{a:List Int}:Ok (iV L a) fun y=>y.2=true->y.1=(a05.az (bZ:=((a.getD 0 0),aY .u64 (a.getD 1 0),aY .u64 (a.getD 2 0))) (target:=((a.getD 3 0),aY .u64 (a.getD 4 0),aY .u64 (a.getD 5 0))) (aR:=(a.getD 6 0)) (aK:=(a.getD 7 0)) (aO:=(a.getD 8 0)),(a.getD 9 0)):=by
 unfold iV
 have no:∀{c:Clear} {Q:Clear->Prop},Ok (some (c,false)) fun y=>y.2=true->Q y.1:=fun{c Q}=>ae fun h=>by cases h
 refine HY.bind fun _ _=>bn (fun _=>no (Q:=fun z=>z=_)) fun _=>HY.bind fun _ _=>bn (fun _=>no (Q:=fun z=>z=_)) fun _=>aP (fun _=>no (Q:=fun z=>z=_)) fun _=>aM (fun _=>no (Q:=fun z=>z=_)) fun _=>aM (fun _=>no (Q:=fun z=>z=_)) fun _=> ?_
 refine LP.bind fun _ _=>bn (fun _=>no (Q:=fun z=>z=_)) fun _=>LP.bind fun _ _=>bn (fun _=>no (Q:=fun z=>z=_)) fun _=>ae fun _=>rfl
theorem Az{c:Clear}(h:pW c):Ok (fM L (T7 c)) fun y=>y.2=true->y.1=c:=by
 have e:fM L (T7 c)=iV L [c.bf.bZ.bx,aY .i64 c.bf.bZ.hi,aY .i64 c.bf.bZ.lo,c.bf.target.bx,aY .i64 c.bf.target.hi,aY .i64 c.bf.target.lo,c.bf.aR,c.bf.aK,c.bf.aO,c.iD]:=rfl
 rw[e]
 refine LY.mono fun y hy h2=> ?_
 rw[hy h2]
 have e1:=uE h.1.1 h.1.2
 have e2:=uE h.2.1.1 h.2.1.2
 have e3:=uE h.2.2.1.1 h.2.2.1.2
 have e4:=uE h.2.2.2.1 h.2.2.2.2
 show(((c.bf.bZ.bx,aY .u64 (aY .i64 c.bf.bZ.hi),aY .u64 (aY .i64 c.bf.bZ.lo)),(c.bf.target.bx,aY .u64 (aY .i64 c.bf.target.hi),aY .u64 (aY .i64 c.bf.target.lo)),c.bf.aR,c.bf.aK,c.bf.aO),c.iD)=c
 rw[e1,e2,e3,e4];rfl
variable (hL:5000<L)(hM:L<=4611686018427387904)
include hL hM
theorem IU{k t:Tm}{dZ:Int}{n:Nat}(h:aZ S t)(hk:WJ k)(hS:Db S)(hn:n<=1000):Ok (jG L k t dZ (n:Int)) fun y=>y.2=true->∃c,(own (Km k),dZ,(n:Int),c)∈S/\y.1=c:=by
 unfold jG
 have no:Ok (some (((a05.az,0):Clear),false)) fun y=>y.2=true->∃c,(own (Km k),dZ,(n:Int),c)∈S/\y.1=c:=ae fun h=>by cases h
 refine(wL hL hM h).bind fun y hy=>bn (fun _=>no) fun e=> ?_
 obtain⟨g1,g2⟩:=hy e
 refine aP (fun _=>no) fun h3=>aP (fun _=>no) fun hl=> ?_
 have ha:=g1.args (.inl h3)
 have hl:y.1.2.2.len=3:=by have:((y.1.2.2.len:Nat):Int)=3:=hl;omega
 have hw:aY .i64 (n:Int)=(n:Int):=u7 (by omega) (by omega)
 refine a03 (by show 0<y.1.2.2.len;omega) (a2P hL hM (ha.get 0).1 (aP (fun _=>no) fun c1=>a03 (by show 1<y.1.2.2.len;omega) (a2P hL hM (ha.get 1).1 (aP (fun _=>no) fun c2=>a03 (by show 2<y.1.2.2.len;omega) ?_))))
 have c1:=qK.1 c1
 have c2:=qK.1 c2
 rw[hw]at c2
 have eb:y.1=(3,y.1.2.1,TL.of [T.aG dZ,T.aG (n:Int),y.1.2.2.get 2]):=by
  have:=TL.of3 hl
  have c1:y.1.2.2.get 0=T.aG dZ:=c1
  have c2:y.1.2.2.get 1=T.aG (n:Int):=c2
  rw[c1,c2]at this
  have h3:y.1.1=3:=h3
  rw[<-this,<-h3]
 obtain⟨c,m1,m2⟩:=g2.2 hk _ _ _ _ eb
 show Ok (Option.bind (fM L (y.1.2.2.get 2)) fun y8=>some y8) _
 rw[m2]
 exact(Az (hS _ m1).2.2.1).bind fun z hz=>ae fun e=>⟨c,m1,hz e⟩
theorem I4(q:GI w S D R X g){r:Int}{p:a05}:Ok (gw L g r p) fun y=>y=0∨∃c∈g.af,c.eI=y/\c.sent<200:=by
 unfold gw
 have main:∀l:List a00,(∀c∈l,c∈g.af)->Ok (chooseL L g r p l) fun y=>y=0∨∃c∈g.af,c.eI=y/\c.sent<200:=by
  intro l
  induction l with
  |nil=>intro _;exact ae (.inl rfl)
  |cons c l ih=>
   intro h
   have rest:=ih fun d hd=>h d (by simp[hd])
   unfold chooseL
   refine bJ (fun _=> ?_) fun _=>rest
   rw[uW]
   refine aD (ae (bJ (fun _=>(q.at_ hL hM).bind fun y _=>bJ (fun e=>ae (.inr ⟨c,h c (by simp),rfl,?_⟩)) fun _=>rest) fun _=>rest))
   rw[Bool.and_eq_true]at e
   exact yC.1 e.2
 exact main _ fun c hc=>List.mem_reverse.1 hc
theorem T8(q:GI w S D R {} g){y r:Int}{c:Clear}(hy:∃x∈g.af,x.eI=y/\x.sent<200):
 Ok (lJ L g y r c) fun z=>∃(a n:Int),1<=n/\n<=200/\GI w (S++[(w,a,n,c)]) D R {} z.1/\cA 0 g z.1/\bE (S++[(w,a,n,c)]) z.2.bK/\z.2.sent=[(w,c,r,y)]/\z.2.aN=[]/\z.2.ct=[]/\z.2.outside=[]:=by
 obtain⟨x,hx,he,hlt⟩:=hy
 unfold lJ
 refine(q.Ji hL hM).bind fun y5 h5=> ?_
 rcases h5 with⟨_,hno⟩|⟨i,x',rfl,hi,he'⟩
 ·exact absurd he (hno x hx)
 obtain rfl:=q.L3 (bC hi) hx (by rw[he',he])
 refine ay (by omega) (a03 (bL hi) ?_)
 rw[a08,bB hi]
 unfold sw
 have hG:=q.dF x' hx
 have hs0:=hG.s0
 have hadd:add x'.sent 1=x'.sent+1:=fK (by omega) (by omega)
 rw[hadd,a08]
 have q1:=q.pL (c':=a00.xw x' (x'.sent+1)) hi {hG with s0:=by show 0<=x'.sent+1;omega,s1:=by show x'.sent+1<=200;omega} rfl rfl fun n h=>h
 refine(q1.at_ hL hM).bind fun y6 h6=> ?_
 rcases h6 with⟨_,hno⟩|⟨j,s,rfl,hj,_⟩
 ·obtain⟨s,s1,s2,_⟩:=q.nY x' hx
  exact absurd s2 (hno s s1)
 refine ay (by omega) (a03 (bL hj) ?_)
 rw[Ay]
 have hsub:∀e∈S,e∈S++[(w,x'.out,x'.sent+1,c)]:=fun e he=>by simp[he]
 refine aD (ae (ae ⟨x'.out,x'.sent+1,by omega,by omega,q1.mono hsub,cA.rfl,bE.one ?_,by rw[q.id];rfl,rfl,rfl,rfl⟩))
 have hpk:aZ (S++[(w,x'.out,x'.sent+1,c)]) (T7 c):=aZ.a01 (GL.of (by simp) fun t ht=>by
  simp only[List.mem_cons,List.mem_nil_iff,or_false]at ht
  rcases ht with rfl|rfl|rfl|rfl|rfl|rfl|rfl|rfl|rfl|rfl<;>exact aZ.aG _)
 have hbody:aZ (S++[(w,x'.out,x'.sent+1,c)]) (T.a01 (TL.of [T.aG x'.out,T.aG (x'.sent+1),T7 c])):=aZ.a01 (GL.of (by simp) fun t ht=>by
  simp only[List.mem_cons,List.mem_nil_iff,or_false]at ht
  rcases ht with rfl|rfl|rfl
  ·exact aZ.aG _
  ·exact aZ.aG _
  ·exact hpk)
 refine aZ.a01 (GL.of (by simp) fun t ht=> ?_)
 simp only[List.mem_cons,List.mem_nil_iff,or_false]at ht
 rcases ht with rfl|rfl|rfl|rfl
 ·exact aZ.aG _
 ·exact aZ.aG _
 ·exact aZ.aG _
 ·refine aZ.gq ⟨fun h=> ?_,fun _ v a n p hb=> ?_⟩ (aZ.vR hG.kon (.inr (.inr (.inr (.inr (.inl hG.ko.1.1)))))) hbody
  ·have:=h.2;have:=hG.ko.1.2;omega
  ·have e0:=congrArg (fun t:Tm=>(t.2.2.get 0).2.1) hb
   have e1:=congrArg (fun t:Tm=>(t.2.2.get 1).2.1) hb
   have e2:=congrArg (fun t:Tm=>t.2.2.get 2) hb
   have e0:x'.out=a:=e0
   have e1:x'.sent+1=n:=e1
   have e2:T7 c=p:=e2
   refine⟨c,?_,e2.symm⟩
   rw[hG.ko.2,hG.ours.2.1,<-e0,<-e1]
   simp
end
def Ju(w:Int)(S:List jn)(D D':Dl)(R:List aQ)(l:List aS):Prop:=(l=[]/\D'.l=D.l)∨∃(c:Clear) (r dZ n:Int),l=[(w,c,r,dZ)]/\(dZ,n)∉D.l/\(1-w,dZ,n,c)∈S/\actP R c.bf false=(2,r)/\D'.l=(dZ,n)::D.l
def Wz(w:Int)(S S':List jn)(R:List aQ)(l:List aS):Prop:=(l=[]/\S'=S)∨∃(c:Clear) (r dZ a n:Int),l=[(w,c,r,dZ)]/\1<=n/\n<=200/\actP R c.bf true=(2,r)/\S'=S++[(w,a,n,c)]
def Mz(w:Int)(R:List aQ)(c:Clear)(o:List aS):Prop:=∀d∈o,d.gB=w/\(actP R d.clear.bf true).1=1/\d.clear=c
section
variable {w:Int}{S S':List jn}{D:Dl}{R:List aQ}{X X':Cr}{g g':aa}{L:Nat}
variable (hL:5000<L)(hM:L<=4611686018427387904)
include hL hM
theorem J7(q:GI w S D R {} g)(hR:dQ R)(b:Bd g)(b2:g.count<=400000){r:Int}{p:a05}:Ok (jk L g r p) fun y=>GI w S D R {} y.1/\cA 3 g y.1/\bE S y.2:=by
 unfold jk
 have no:Ok (some (g,([]:List aj))) fun y=>GI w S D R {} y.1/\cA 3 g y.1/\bE S y.2:=ae ⟨q,cA.rfl.le (by decide),bE.nil⟩
 rw[q.dh]
 refine aM (fun _=>no) fun h0=>bX (fun _=>no) fun h1=>ay h0 (a03 (by omega) ?_)
 have hb:(R.getD r.toNat aQ.az).cI.length<=16:=by
  have hl:r.toNat<R.length:=by omega
  rw[show R.getD r.toNat aQ.az=R[r.toNat] by simp[List.getD,hl]]
  exact(hR.2 _ (List.getElem_mem hl)).1
 generalize(R.getD r.toNat aQ.az).cI=bs at hb
 unfold pg
 refine Ok.bind (P:=Sum.elim (fun _=>True) fun y:Int=>∃i:Nat,y=(i:Int)/\i<bs.length) ?_ fun y hy=> ?_
 ·refine fq bs.length (fun _=>True) (by omega) trivial (fun i hi _=> ?_) fun _=> ?_
  ·rw[uW]
   exact aM (fun _=>ay (by omega) (a03 hi (aD (ae (bJ (fun _=>ae ⟨i,rfl,hi⟩) fun _=>ae ⟨cG i (by omega),trivial⟩))))) fun h=>absurd (by omega) h
  ·exact aM (fun h=>absurd h (by omega)) fun _=>ae trivial
 cases y with
 |inl _=>exact no
 |inr z=>
  obtain⟨i,rfl,hi⟩:=hy
  refine aM (fun _=>no) fun _=> ?_
  have hB:Ok (iL L g r (i:Int) bs) fun y=>GI w S D R {} y.1/\cA 3 g y.1/\bE S y.2:=by
   unfold iL
   refine aC (fun _=>ay (by omega) (a03 hi ((a4w hL hM q b b2).bind fun y hy=>aP (fun _=>no) fun e=>ae (hy e)))) fun _=>no
  have hl:=q.len
  refine Ok.bind (P:=Sum.elim (fun _=>True) fun y:Int=>∃i:Nat,y=(i:Int)/\i<g.u4.length) ?_ fun y hy=> ?_
  ·refine fq g.u4.length (fun _=>True) (by omega) trivial (fun i hi _=> ?_) fun _=> ?_
   ·exact aM (fun _=>ay (by omega) (a03 hi (vE.bind fun _ _=>bJ (fun _=>ae ⟨i,rfl,hi⟩) fun _=>ae ⟨cG i (by omega),trivial⟩))) fun h=>absurd (by omega) h
   ·exact aM (fun h=>absurd h (by omega)) fun _=>ae trivial
  cases y with
  |inl _=>exact hB
  |inr z=>
   obtain⟨j,rfl,hj⟩:=hy
   refine bX (fun _=>ay (by omega) (a03 hj (ay (by omega) (a03 hi ((PI hL hM q hR b b2).bind fun y hy=>aP (fun _=>no) fun e=>ae ?_))))) fun _=>hB
   obtain⟨a1,a2,a3⟩:=hy e
   exact⟨a1,a2.le (by decide),a3⟩
theorem KI(q:GI w S D R {} g)(hR:dQ R)(b:Bd g)(b2:g.count<=400000){c:Clear}:Ok (jF L g c) fun y=>∃S',Wz w S S' R y.2.sent/\(∀e∈S',e∈S∨e.2.2.2=c)/\GI w S' D R {} y.1/\cA 3 g y.1/\bE S' y.2.bK/\y.2.aN=[]/\Mz w R c y.2.ct/\y.2.ct.length<=1/\(y.2.outside=[]∨y.2.outside=[c]):=by
 unfold jF
 rw[q.dh,wJ hL hM hR]
 have nil:∀{g':aa} {o:fa},GI w S D R {} g'->cA 3 g g'->bE S o.bK->o.sent=[]->o.aN=[]->o.ct=[]->o.outside=[]->Ok (some (g',o)) fun y=>∃S',Wz w S S' R y.2.sent/\(∀e∈S',e∈S∨e.2.2.2=c)/\GI w S' D R {} y.1/\cA 3 g y.1/\bE S' y.2.bK/\y.2.aN=[]/\Mz w R c y.2.ct/\y.2.ct.length<=1/\(y.2.outside=[]∨y.2.outside=[c]):=fun h1 h2 h3 h4 h5 h6 h7=>
  ae ⟨S,.inl ⟨h4,rfl⟩,fun e he=>.inl he,h1,h2,h3,h5,by rw[h6];exact fun d hd=>by simp at hd,by rw[h6];exact Nat.zero_le _,.inl h7⟩
 have a0:cA 3 g g:=cA.rfl.le (by decide)
 have no:=nil (g':=g) (o:=fa.az) q a0 bE.nil rfl rfl rfl rfl
 refine aD (ae (aM (fun _=>no) fun _=>bX (fun _=>no) fun h3=>aC (fun _=>no) fun _=>aC (fun h1=> ?_) fun _=>a0r (by omega) ?_))
 ·refine ae ⟨S,.inl ⟨rfl,rfl⟩,fun e he=>.inl he,q,a0,bE.nil,rfl,fun d hd=> ?_,Nat.le_refl 1,.inr rfl⟩
  have hd:d∈[((g.av,c,(actP R c.bf true).2,0):aS)]:=hd
  rw[List.mem_singleton]at hd
  rw[hd];exact⟨q.id,h1,rfl⟩
 ·refine(I4 hL hM q).bind fun y4 h4=>aP (fun h0=> ?_) fun _=> ?_
  ·rcases h4 with h4|h4
   ·exact absurd h4 h0
   ·refine(T8 hL hM q h4).bind fun z ⟨a,n,z1,z2,z3,z4,z5,z6,z7,z8,z9⟩=>ae ⟨_,.inr ⟨c,_,y4,a,n,z6,z1,z2,?_,rfl⟩,fun e he=> ?_,z3,z4.le (by decide),z5,z7,by rw[z8];exact fun d hd=>by simp at hd,by rw[z8];exact Nat.zero_le _,.inl z9⟩
    ·have:(actP R c.bf true).1=2:=by omega
     rw[<-this]
    ·rcases List.mem_append.1 he with he|he
     ·exact .inl he
     ·rw[List.mem_singleton]at he;rw[he];exact .inr rfl
  ·exact(J7 hL hM q hR b b2).bind fun y ⟨c1,c2,c3⟩=>nil c1 c2 c3 rfl rfl rfl rfl
theorem Ga(q:GI w S D R X g)(hR:dQ R){c:Clear}:Ok (jj L g c) fun y=>y.bK=[]/\y.sent=[]/\y.aN=[]/\y.ct=[]/\y.outside=[]:=by
 unfold jj
 rw[q.dh,wJ hL hM hR]
 exact aD (ae (aP (fun _=>ae ⟨rfl,rfl,rfl,rfl,rfl⟩) fun _=>ae ⟨rfl,rfl,rfl,rfl,rfl⟩))
theorem UP(q:GI w S D R {} g)(hR:dQ R)(hS:Db S){t:Tm}(ht:aZ S t):Ok (mO L g t) fun y=>∃D',Ju w S D D' R y.2.aN/\D'.k=D.k/\GI w S D' R {} y.1/\cA 0 g y.1/\y.2.bK=[]/\y.2.sent=[]/\y.2.ct=[]/\y.2.outside=[]:=by
 unfold mO
 have nil:∀{g':aa},GI w S D R {} g'->cA 0 g g'->Ok (some (g',fa.az)) fun y=>∃D',Ju w S D D' R y.2.aN/\D'.k=D.k/\GI w S D' R {} y.1/\cA 0 g y.1/\y.2.bK=[]/\y.2.sent=[]/\y.2.ct=[]/\y.2.outside=[]:=fun h1 h2=>ae ⟨D,.inl ⟨rfl,rfl⟩,rfl,h1,h2,rfl,rfl,rfl,rfl⟩
 have no:=nil q cA.rfl
 refine aP (fun _=>no) fun h3=>aP (fun _=>no) fun hl=>a03 (by omega) (aP (fun _=>no) fun _=>a03 (by omega) (aP (fun _=>no) fun _=>a03 (by omega) ?_))
 have ha:=ht.args (.inl h3)
 refine a2P hL hM (ha.get 0).1 (aP (fun _=>no) fun _=>a03 (by omega) (a03 (by omega) ?_))
 refine(q.Ji hL hM).bind fun y4 h4=> ?_
 rcases h4 with⟨rfl,_⟩|⟨i,x,rfl,hi,he⟩
 ·exact aM (fun _=>no) fun h=>absurd (by decide:(-1:Int)<0) h
 refine aM (fun _=>no) fun _=>aM (fun _=>no) fun _=>bX (fun _=>no) fun _=>ay (by omega) (a03 (bL hi) ?_)
 rw[a08,bB hi]
 unfold sS
 have hG:=q.dF x (bC hi)
 obtain⟨tp,bt,ew,w1,w2⟩:=TN hG.X1
 obtain⟨n,e5,hn⟩:=Jw (L:=L) w2 (x:=aY .u64 (Tm.val (TL.get (Tm.args t) 2)))
 have etop:cC.mj x.iS=(tp:Int):=by rw[ew];rfl
 rw[etop,e5,ew]
 refine aD (ae ((I2 hL w2 w1 hn).bind fun y6 h6=>a03 (by omega) ?_))
 rw[a08]
 refine(IU hL hM (ha.get 3) hG.ki.1 hS (by omega)).bind fun y7 h7=>aP (fun _=>no) fun e6=>bn (fun _=>no) fun e7=>ay (by omega) (a03 (bL hi) ?_)
 obtain⟨tp',bt',v1,v2,v3,v4,v5,v6⟩:=h6 e6
 obtain⟨c,m1,m2⟩:=h7 e7
 rw[hG.ki.2,hG.bO.2.1]at m1
 have hn2:=(hS _ m1).2.1
 have hn2:(n:Int)<=200:=hn2
 rw[v1,m2]
 have hspi:Tm.val (TL.get (Tm.args t) 1)=x.eI:=he.symm
 rw[hspi]at m1
 have q1:=q.pL (c':=a00.mo x (As tp' bt')) hi {hG with X1:=OG v2 (by omega)} rfl rfl fun m hm=>by
  have hm:seen (As tp bt) m:=by rw[<-ew];exact hm
  exact v6 m hm
 have hi1:(g.af.set i (a00.mo x (As tp' bt')))[i]?=some (a00.mo x (As tp' bt')):=List.getElem?_set_self (bL hi)
 have hno:(x.eI,(n:Int))∉D.l:=fun h=>by
  have:=(q.uL _ h).2.2.2 x (bC hi) rfl
  have:seen x.iS (n:Int):=this
  rw[ew]at this;exact v4 this
 have dH:∀{g1:aa},GI w S D R {} g1->cA 0 g g1->g1.af=g.af.set i (a00.mo x (As tp' bt'))->Ok (lI L g g1 x c) fun y=>∃D',Ju w S D D' R y.2.aN/\D'.k=D.k/\GI w S D' R {} y.1/\cA 0 g y.1/\y.2.bK=[]/\y.2.sent=[]/\y.2.ct=[]/\y.2.outside=[]:=fun{g1} k1 k2 k3=>by
  unfold lI su
  rw[q.dh,wJ hL hM hR,uW]
  refine aD (ae (aD (ae (bn (fun _=>nil k1 k2) fun _=>aP (fun _=>nil k1 k2) fun a1=>aP (fun _=>nil k1 k2) fun a2=> ?_))))
  have k4:=k1.MZ (c:=a00.mo x (As tp' bt')) (n:=(n:Int)) (by rw[k3];exact bC hi1) v5
  refine ae ⟨⟨(x.eI,(n:Int))::D.l,D.k⟩,.inr ⟨c,x.dm,x.eI,(n:Int),by rw[k1.id];rfl,hno,m1,?_,rfl⟩,rfl,k4,k2,rfl,rfl,rfl,rfl⟩
  have a1:(actP R c.bf false).1=2:=a1
  have a2:(actP R c.bf false).2=x.dm:=a2
  rw[<-a1,<-a2]
 refine(q1.at_ hL hM).bind fun y8 h8=> ?_
 rcases h8 with⟨rfl,_⟩|⟨j,s,rfl,hj,_⟩
 ·exact bX (fun h=>absurd (by decide:(-1:Int)<0) h) fun _=>dH q1 cA.rfl rfl
 refine bX (fun _=>ay (by omega) (a03 (bL hj) ?_)) fun h=>by omega
 rw[a08]
 have hj':g.u4[j]?=some s:=hj
 rw[bB hj']
 have hs:=q1.u4 s (bC hj)
 have q2:=q1.addr (s':=Sa.uA s g.bA) hj {hs with eC:=⟨q1.bA,Int.le_refl _⟩} rfl rfl rfl rfl
 refine dH (GI.sc (g:=g) (ss:=g.u4.set j (Sa.uA s g.bA)) (cs:=g.af.set i (a00.mo x (As tp' bt'))) q2 rfl rfl) cA.rfl rfl
end
structure oZ(w:Int)(S:List jn)(D:Dl)(R:List aQ)(g:aa)(e:cL)(g':aa)(o:fa)(S':List jn)(D':Dl):Prop where
 Th:Wz w S S' R o.sent
 new:∀x∈S',x∈S∨e.kind=2/\x.2.2.2=e.clear
 UM:Ju w S D D' R o.aN
 k:D'.k<=D.k+(if e.kind=1 then 5000 else 0)
 gi:GI w S' D' R {} g'
 bA:g'.bA=if e.kind=4 then g.bA+1 else g.bA
 c1:g.count<=g'.count
 c2:g'.count<=g.count+20
 tJ:∀d∈o.bK,aZ S' d.body
 len:o.bK.length<=7000
 Pg:Mz w R e.clear o.ct
 opk:o.ct=[]∨e.kind=2
 opl:o.ct.length<=1
 out:o.outside=[]∨e.kind=2/\o.outside=[e.clear]
theorem Mz.nil{w:Int}{R:List aQ}{c:Clear}:Mz w R c []:=fun d hd=>by simp at hd
section
variable {w:Int}{S S':List jn}{D D':Dl}{R:List aQ}{X X':Cr}{g g':aa}{L:Nat}
variable (hL:5000<L)(hM:L<=4611686018427387904)
include hL hM
omit hL hM in
theorem LD{o:Option (aa×List aj)}{k:Int}(h:Ok o fun y=>GI w S ⟨D.l,D.k+5000⟩ R {} y.1/\cA k g y.1/\bE S y.2)(hk:k<=3):Ok (gp o) fun y=>∃D',Ju w S D D' R y.2.aN/\D'.k<=D.k+5000/\GI w S D' R {} y.1/\cA 3 g y.1/\bE S y.2.bK/\y.2.sent=[]/\y.2.ct=[]/\y.2.outside=[]:=by
 unfold gp
 exact h.bind fun y ⟨a1,a2,a3⟩=>ae ⟨⟨D.l,D.k+5000⟩,.inl ⟨rfl,rfl⟩,Nat.le_refl _,a1,a2.le hk,a3,rfl,rfl,rfl⟩
theorem Fm(q:GI w S D R {} g)(hR:dQ R)(hS:Db S)(b:Bd g)(b2:g.count<=380000)(hK:D.k<=900000)(hK':D.k<L){d:aj}(hd:aZ S d.body):
 Ok (jJ L g d) fun y=>∃D',Ju w S D D' R y.2.aN/\D'.k<=D.k+5000/\GI w S D' R {} y.1/\cA 3 g y.1/\bE S y.2.bK/\y.2.sent=[]/\y.2.ct=[]/\y.2.outside=[]:=by
 have no:Ok (some (g,fa.az)) fun y=>∃D',Ju w S D D' R y.2.aN/\D'.k<=D.k+5000/\GI w S D' R {} y.1/\cA 3 g y.1/\bE S y.2.bK/\y.2.sent=[]/\y.2.ct=[]/\y.2.outside=[]:=ae ⟨D,.inl ⟨rfl,rfl⟩,Nat.le_add_right _ _,q,cA.rfl.le (by decide),bE.nil,rfl,rfl,rfl⟩
 have up:∀{k:Int} {o:Option (aa×List aj)},k<=3->Ok o (fun y=>GI w S D R {} y.1/\cA k g y.1/\bE S y.2)->Ok (gp o) fun y=>∃D',Ju w S D D' R y.2.aN/\D'.k<=D.k+5000/\GI w S D' R {} y.1/\cA 3 g y.1/\bE S y.2.bK/\y.2.sent=[]/\y.2.ct=[]/\y.2.outside=[]:=fun hk h=>
  LD (h.mono fun y ⟨a1,a2,a3⟩=>⟨a1.uQ (Nat.le_add_right _ _),a2,a3⟩) hk
 have hA:Ok (gT L g d) fun y=>∃D',Ju w S D D' R y.2.aN/\D'.k<=D.k+5000/\GI w S D' R {} y.1/\cA 3 g y.1/\bE S y.2.bK/\y.2.sent=[]/\y.2.ct=[]/\y.2.outside=[]:=by
  unfold gT
  have hprot:∀m:bW,Ok (gp (eR L g d m)) fun y=>∃D',Ju w S D D' R y.2.aN/\D'.k<=D.k+5000/\GI w S D' R {} y.1/\cA 3 g y.1/\bE S y.2.bK/\y.2.sent=[]/\y.2.ct=[]/\y.2.outside=[]:=fun m=>
   LD (Et hL hM q hR b (by omega) hK hK' hd) (by decide)
  refine(Dg hL hM hd).bind fun y4 h4=>bn (fun _=>no) fun e1=>bn (fun e2=> ?_) fun e2=>aC (fun _=>bn (fun _=>bJ (fun _=> ?_) fun _=>hprot _) fun _=>hprot _) fun _=>hprot _
  ·obtain⟨_,_,g3,_⟩:=h4 e1
   obtain⟨_,g5,g6⟩:=g3 e2
   exact up (by decide) (Nb hL hM q hR b (by omega) hd g5 g6)
  ·refine(sG hL hM q).bind fun y5 _=>bX (fun _=> ?_) fun _=>hprot _
   exact up (by decide) (AA hL hM q hR b hd)
 unfold jJ a2M
 refine aD (ae (bn (fun _=>no) fun _=>aC (fun h3=>aM (fun _=>a03 (by omega) ?_) fun _=>hA) fun _=>hA))
 refine a2P hL hM ((hd.args (.inl h3)).get 0).1 (aC (fun _=> ?_) fun _=>hA)
 exact(UP hL hM q hR hS hd).bind fun y ⟨D',a1,a2,a3,a4,a5,a6,a7,a8⟩=>ae ⟨D',a1,by omega,a3,a4.le (by decide),by rw[a5];exact bE.nil,a6,a7,a8⟩
theorem Mg{y:aa×fa}(q:GI w S D R {} y.1)(b:Bd y.1)(b2:y.1.count<=399000)(ho:bE S y.2.bK):Ok (a2p L y) fun z=>z.2.2=0/\GI w S D R {} z.1/\cA 15 y.1 z.1/\(∀d∈z.2.1.bK,aZ S d.body)/\z.2.1.bK.length<=7000/\z.2.1.sent=y.2.sent/\z.2.1.aN=y.2.aN/\z.2.1.ct=y.2.ct/\z.2.1.outside=y.2.outside:=by
 unfold a2p
 have h1:=ho.2
 refine(GM hL hM q b b2).bind fun y4 ⟨a1,a2,a3,a4,_⟩=>bD (cF (by rw[List.length_append];omega)) (ae ⟨rfl,a1,a2,fun d hd=> ?_,?_,rfl,rfl,rfl,rfl⟩)
 ·rcases List.mem_append.1 (show d∈y.2.bK++y4.2 from hd)with hd|hd
  ·exact ho.1 d hd
  ·exact a3.1 d hd
 ·show(y.2.bK++y4.2).length<=7000
  rw[List.length_append];omega
omit hL hM in
theorem LO{x:Int}{n:Nat}(hn:n<=1000):Ok (mV L x (n:Int)) fun y=>y.2=true->∃i:Nat,y.1=(i:Int)/\i<n:=by
 unfold mV
 refine aC (fun _=>ae fun h=>by cases h) fun h0=>eK h0 (eK h0 (ae fun _=> ?_))
 have hp:0<n:=by omega
 have a1:rem x (n:Int)=x.tmod n:=rfl
 have a2: -(n:Int)<x.tmod n:=by
  have:=Int.natAbs_tmod x (n:Int)
  have h1:(x.tmod n).natAbs<n:=by rw[this,Int.natAbs_natCast];exact Nat.mod_lt _ hp
  omega
 have a3:x.tmod n<(n:Int):=by
  have:=Int.natAbs_tmod x (n:Int)
  have h1:(x.tmod n).natAbs<n:=by rw[this,Int.natAbs_natCast];exact Nat.mod_lt _ hp
  omega
 have a4:add (rem x (n:Int)) (n:Int)=x.tmod n+n:=by rw[a1];exact fK (by omega) (by omega)
 show∃i:Nat,(rem (add (rem x (n:Int)) (n:Int)) (n:Int))=(i:Int)/\i<n
 rw[a4]
 show∃i:Nat,(x.tmod n+n).tmod n=(i:Int)/\i<n
 have h1:(x.tmod n+n).tmod n=(x.tmod n+n)% (n:Int):=Int.tmod_eq_emod_of_nonneg (by omega)
 rw[h1]
 have h2:=Int.emod_nonneg (x.tmod n+n) (show(n:Int)≠0 by omega)
 have h3:=Int.emod_lt_of_pos (x.tmod n+n) (show(0:Int)<n by omega)
 exact⟨((x.tmod n+n)% (n:Int)).toNat,by omega,by omega⟩
theorem Tj(q:GI w S D R {} g)(hR:dQ R)(hS:Db S)(b:Bd g)(b':g.bA<=99999)(b2:g.count<=380000)(hK:D.k<=900000)(hK':D.k<L){e:cL}(he:e.kind=1->aZ S e.fm.body):
 Ok (a2F L g e) fun y=>y.2.2=0->∃S' D',oZ w S D R g e y.1 y.2.1 S' D':=by
 have err:∀{n:Int},n≠0->Ok (some (g,fa.az,n)) fun y=>y.2.2=0->∃S' D',oZ w S D R g e y.1 y.2.1 S' D':=fun{n} hn=>ae fun h=>absurd h hn
 have dH:∀{S':List jn} {D':Dl} {g1:aa} {o:fa} {k:Int},GI w S' D' R {} g1->k<=5->e.kind≠4->cA k g g1->bE S' o.bK->Wz w S S' R o.sent->(∀x∈S',x∈S∨e.kind=2/\x.2.2.2=e.clear)->Ju w S D D' R o.aN->D'.k<=D.k+(if e.kind=1 then 5000 else 0)->Mz w R e.clear o.ct->(o.ct=[]∨e.kind=2)->o.ct.length<=1->(o.outside=[]∨e.kind=2/\o.outside=[e.clear])->
  Ok (a2p L (g1,o)) fun y=>y.2.2=0->∃S' D',oZ w S D R g e y.1 y.2.1 S' D':=fun{S' D' g1 o k} q1 hk h4 a1 h1 h2 h3 h5 h6 h7 h7' h8 h9=>by
  have b1:Bd g1:=⟨by have:=a1.2.2;have:=b.lG;omega,by have:=a1.1;have:=b.bA;omega⟩
  refine(Mg hL hM (y:=(g1,o)) q1 b1 (by have:=a1.2.2;show g1.count<=399000;omega) h1).mono fun z ⟨_,z1,z2,z3,z4,z5,z6,z7,z8⟩ _=>⟨S',D',?_⟩
  have a2:=a1.trans z2
  exact⟨by rw[z5];exact h2,h3,by rw[z6];exact h5,h6,z1,by rw[if_neg h4];exact a2.1,a2.2.1,by have:=a2.2.2;omega,z3,z4,by rw[z7];exact h7,by rw[z7];exact h7',by rw[z7];exact h8,by rw[z8];exact h9⟩
 have plain:∀{g1:aa} {l:List aj} {k:Int},GI w S D R {} g1->k<=5->e.kind≠4->cA k g g1->bE S l->Ok (a2p L (g1,fa.az (bK:=l))) fun y=>y.2.2=0->∃S' D',oZ w S D R g e y.1 y.2.1 S' D':=fun q1 hk h4 a1 h1=>
  dH q1 hk h4 a1 h1 (.inl ⟨rfl,rfl⟩) (fun x hx=>.inl hx) (.inl ⟨rfl,rfl⟩) (Nat.le_add_right _ _) Mz.nil (.inl rfl) (Nat.zero_le _) (.inl rfl)
 have plain':∀{g1:aa} {k:Int},GI w S D R {} g1->k<=5->e.kind≠4->cA k g g1->Ok (a2U L g1) fun y=>y.2.2=0->∃S' D',oZ w S D R g e y.1 y.2.1 S' D':=fun q1 hk h4 a1=>plain (l:=[]) q1 hk h4 a1 bE.nil
 have send:∀{o:Option (aa×List aj×Int)} {k:Int},k<=5->e.kind≠4->Ok o (fun y=>y.2.2=0->GI w S D R {} y.1/\cA k g y.1/\bE S y.2.1)->Ok (iO L g o) fun y=>y.2.2=0->∃S' D',oZ w S D R g e y.1 y.2.1 S' D':=fun{o k} hk h4 h=>by
  unfold iO
  refine h.bind fun y hy=>aC (fun h0=> ?_) fun h0=>aP (fun h=>err h) fun h=>absurd h h0
  obtain⟨a1,a2,a3⟩:=hy h0
  have:=a3.2
  exact bD (cF (by omega)) (aP (fun h=>absurd h0 h) fun _=>plain a1 hk h4 a2 a3)
 have hl:=q.len
 have hkid:=q.xZ
 have nth:∀{n:Nat} {f:Nat->Option (aa×fa×Int)},n<=1000->(∀i,i<n->Ok (f i) fun y=>y.2.2=0->∃S' D',oZ w S D R g e y.1 y.2.1 S' D')->Ok (l9 L g e.a3K n f) fun y=>y.2.2=0->∃S' D',oZ w S D R g e y.1 y.2.1 S' D':=fun{n f} hn h=>by
  unfold l9
  refine(LO hn).bind fun y hy=>bn (fun _=>err (by decide)) fun e=> ?_
  obtain⟨i,e1,e2⟩:=hy e
  rw[e1]
  exact ay (by omega) (a03 e2 (h i e2))
 have prot:∀{f:Int->aU->Option (aa×List aj×Int)} {k:Int},k<=5->e.kind≠4->(∀r bo,Ok (f r bo) fun y=>y.2.2=0->GI w S D R {} y.1/\cA k g y.1/\bE S y.2.1)->Ok (kE L g f) fun y=>y.2.2=0->∃S' D',oZ w S D R g e y.1 y.2.1 S' D':=fun{f k} hk h4 h=>by
  unfold kE
  have hR1:=hR.1
  rw[q.dh]
  refine(a2Z (p:=fun r:aQ=>aH r.cO 2) (l:=R) (z:=aQ.az) (by omega) hM).bind fun y hy=> ?_
  cases y with
  |inl _=>exact err (by decide)
  |inr z=>
   obtain⟨i,rfl,hi,_⟩:=hy
   exact aM (fun _=>err (by decide)) fun _=>ay (by omega) (a03 hi (aC (fun _=>err (by decide)) fun hb=>ay (by omega) (a03 hi (a03 (by omega) (send hk h4 (h _ _))))))
 unfold a2F
 refine aC (fun h=> ?_) fun n1=>aC (fun h=> ?_) fun n2=>aC (fun h=> ?_) fun n3=>aC (fun h=> ?_) fun n4=>aC (fun h=> ?_) fun n5=>aC (fun h=> ?_) fun n6=>aC (fun h=> ?_) fun n7=>aC (fun h=> ?_) fun n8=>aC (fun h=> ?_) fun n9=>aC (fun h=> ?_) fun n10=>aC (fun h=> ?_) fun n11=>aC (fun h=> ?_) fun n12=>aC (fun h=> ?_) fun n13=>err (by decide)
 ·refine(Fm hL hM q hR hS b b2 hK hK' (he h)).bind fun y ⟨D',a1,a2,a3,a4,a5,a6,a7,a8⟩=> ?_
  exact dH a3 (by decide) (by omega) a4 a5 (.inl ⟨a6,rfl⟩) (fun x hx=>.inl hx) a1 (by rw[if_pos h];exact a2) (by rw[a7];exact Mz.nil) (.inl a7) (by rw[a7];exact Nat.zero_le _) (.inl a8)
 ·refine(KI hL hM q hR b (by omega)).bind fun y ⟨S',a1,a2,a3,a4,a5,a6,a7,a8,a9⟩=> ?_
  exact dH a3 (by decide) (by omega) a4 a5 a1 (fun x hx=>(a2 x hx).imp (fun h=>h) fun h'=>⟨h,h'⟩) (.inl ⟨a6,rfl⟩) (Nat.le_add_right _ _) a7 (.inr h) a8 (a9.imp (fun h=>h) fun h'=>⟨h,h'⟩)
 ·refine(Ga hL hM q hR).bind fun y ⟨a1,a2,a3,a4,a5⟩=> ?_
  exact dH q (by decide) (by omega) cA.rfl (by rw[a1];exact bE.nil) (.inl ⟨a2,rfl⟩) (fun x hx=>.inl hx) (.inl ⟨a3,rfl⟩) (Nat.le_add_right _ _) (by rw[a4];exact Mz.nil) (.inl a4) (by rw[a4];exact Nat.zero_le _) (.inl a5)
 ·refine(a4R hL hM q b b').bind fun y ⟨a1,a2,a3,a4,a5⟩=>bD (cF (by omega)) ?_
  refine(Mg hL hM (y:=(y.1,fa.az (bK:=y.2))) a1 ⟨by have:=b.lG;show y.1.count<=500000;omega,by show y.1.bA<=100000;omega⟩ (by show y.1.count<=399000;omega) a4).mono fun z ⟨_,z1,z2,z3,z4,z5,z6,z7,z8⟩ _=>⟨S,D,?_⟩
  have z2a:z.1.bA=y.1.bA:=z2.1
  have z2b:y.1.count<=z.1.count:=z2.2.1
  have z2c:z.1.count<=y.1.count+15:=z2.2.2
  exact⟨.inl ⟨z5,rfl⟩,fun x hx=>.inl hx,.inl ⟨z6,rfl⟩,Nat.le_add_right _ _,z1,by rw[if_pos h];omega,by omega,by omega,z3,z4,by rw[z7];exact Mz.nil,.inl z7,by rw[z7];exact Nat.zero_le _,.inl z8⟩
 ·exact prot (by decide) (by omega) fun r bo=>a4w hL hM q b (by omega)
 ·exact nth (by omega) fun i _=>send (by decide) (by omega) (J3 hL hM q b (by omega))
 ·exact nth (by omega) fun i _=>send (by decide) (by omega) (CN hL hM q hR b (by omega))
 ·exact nth (by omega) fun i _=>aP (fun _=>err (by decide)) fun _=>send (by decide) (by omega) (OK hL hM q b)
 ·refine nth (by omega) fun i hi=>send (k:=0) (by decide) (by omega) ?_
  have hs:g.u4[i]?=some g.u4[i]:=List.getElem?_eq_getElem hi
  rw[bB hs]
  refine(OM hL hM q rfl b hs).mono fun y ⟨hy,_⟩ h0=> ?_
  obtain⟨_,_,a1,a2,a3⟩:=hy h0
  exact⟨a1,a2,a3⟩
 ·refine Ok.bind (P:=Sum.elim (fun _=>True) fun y:Int=>∃(i:Nat) (s:Sa),y=(i:Int)/\g.u4[i]?=some s/\s.state=3/\s.pending.ax=0) ?_ fun y hy=> ?_
  ·refine fq g.u4.length (fun _=>True) (by omega) trivial (fun i hi _=> ?_) fun _=> ?_
   ·have hs:g.u4[i]?=some g.u4[i]:=List.getElem?_eq_getElem hi
    have ha:add (i:Int) 1=((i+1:Nat):Int):=cG i (by omega)
    rw[a08,bB hs]
    exact aM (fun _=>ay (by omega) (a03 hi (aC (fun h3=>aC (fun h0=>ae ⟨i,_,rfl,hs,h3,h0⟩) fun _=>ae ⟨ha,trivial⟩) fun _=>ae ⟨ha,trivial⟩))) fun h=>absurd (by omega) h
   ·exact aM (fun h=>absurd h (by omega)) fun _=>ae trivial
  cases y with
  |inl _=>exact err (by decide)
  |inr z=>
   obtain⟨i,s,rfl,hs,h3,h0⟩:=hy
   refine aM (fun _=>err (by decide)) fun _=>ay (by omega) (a03 (bL hs) ?_)
   rw[a08,bB hs]
   refine(vA hL hM q b hs (by omega) (kind:=37) (parts:=TL.nil) (r:=a04.az (ax:=8)) GL.nil (fun x hx=>by cases hx) (fun h=>absurd h (by decide)) IJ IJ (fun _ h=>by omega) (fun h=>absurd h (by decide)) (fun h=>absurd h (by decide)) (fun h=>absurd h (by decide)) rfl).bind fun y ⟨a1,a2,a3,_⟩=>bD (cF (by have:=a3.2;omega)) ?_
   exact plain a1 (by decide) (by omega) a2 a3
 ·refine(PD hL hM q).bind fun y ⟨a1,a2⟩=>aC (fun h0=>aP (fun h=>absurd h0 h) fun _=>plain' a1 (by decide) (by omega) a2) fun h0=>aP (fun h=>err h) fun h=>absurd h h0
 ·exact aM (fun _=>err (by decide)) fun _=>plain' (q.same rfl rfl rfl rfl rfl rfl rfl rfl rfl rfl rfl rfl:GI w S D R {} (aa.Al g e.a3K)) (k:=0) (by decide) (by omega) ⟨rfl,Int.le_refl _,by show g.count<=g.count+0;omega⟩
 ·exact prot (by decide) (by omega) fun r bo=>AQ q b (by omega)
end
theorem SK{α:Type}:∀{l:List α},l.length<=1->l.Nodup
 |[],_=>List.nodup_nil
 |[x],_=>by simp
 |x::y::l,h=>by simp at h
def gt(n:ai)(w:Int):aa:=if w=0 then n.bG.1 else n.bG.2
structure NI(RR:Int->List aQ)(m k:Nat)(S:List jn)(DD:Int->Dl)(G:List (aS×Int×Int))(n:ai):Prop where
 gi:∀w,w=0∨w=1->GI w S (DD w) (RR w) {} (gt n w)
 lG:∀w,w=0∨w=1->(gt n w).count<=10+20*m/\(gt n w).bA<=m/\(DD w).k<=5000*k
 fl:∀d∈n.a06,aZ S d.body
 C4:n.a06.length<=60
 sn:n.seen.cP/\n.seen.gd S
 Pp:n.seen.len<=7000*m
 Su:Db S
 ED:n.sent.map (fun r=>(r.gB,r.clear))=S.map fun e=>(e.1,e.2.2.2)
 EE:∀r∈n.sent,(r.gB=0∨r.gB=1)/\actP (RR r.gB) r.clear.bf true=(2,r.dm)/\jT r.clear.bf
 Iq:n.aN=G.map Prod.fst
 Ir:∀x∈G,(x.1.gB=0∨x.1.gB=1)/\actP (RR x.1.gB) x.1.clear.bf false=(2,x.1.dm)/\(1-x.1.gB,x.2.1,x.2.2,x.1.clear)∈S/\(x.2.1,x.2.2)∈(DD x.1.gB).l
 N1:(G.map fun x=>(x.1.gB,x.2.1,x.2.2)).Nodup
 Pg:∀r∈n.ct,(r.gB=0∨r.gB=1)/\(actP (RR r.gB) r.clear.bf true).1=1/\jT r.clear.bf
 l1:n.sent.length<=m
 l2:n.aN.length<=m
 l3:n.ct.length<=m
structure Put(S:List jn)(n:ai)(o:fa)(y:ai):Prop where
 bG:y.bG=n.bG
 fl:∀d∈y.a06,aZ S d.body
 C4:y.a06.length<=60
 sn:y.seen.cP/\y.seen.gd S
 Pp:y.seen.len<=n.seen.len+o.bK.length
 sent:y.sent=n.sent++o.sent
 UM:y.aN=n.aN++o.aN
 Pg:y.ct=n.ct++o.ct
section
variable {w:Int}{S S':List jn}{D D':Dl}{R:List aQ}{X X':Cr}{g g':aa}{L:Nat}
theorem Qr{u:ai}{i:Nat}{d:aj}(h1:∀x∈u.a06,aZ S x.body)(h2:u.a06.length<=60)(hd:aZ S d.body)(hi:i<=100000):
 Ok (a30 u (i:Int) d) fun y=>∃u',y=.inl (((i+1:Nat):Int),u')/\(∀x∈u'.a06,aZ S x.body)/\u'.a06.length<=60/\u'.bG=u.bG/\u'.seen=u.seen/\u'.sent=u.sent/\u'.aN=u.aN/\u'.ct=u.ct:=by
 unfold a30
 have hs:add (i:Int) 1=((i+1:Nat):Int):=cG i (by omega)
 rw[hs]
 refine aM (fun h=>bD (cF (by rw[List.length_append];show(_+1)*56<=_;omega)) (ae ⟨_,rfl,fun x hx=> ?_,?_,rfl,rfl,rfl,rfl,rfl⟩)) fun _=>ae ⟨u,rfl,h1,h2,rfl,rfl,rfl,rfl,rfl⟩
 ·rcases List.mem_append.1 (show x∈u.a06++[d]from hx)with hx|hx
  ·exact h1 x hx
  ·rw[List.mem_singleton]at hx;rw[hx];exact hd
 ·show(u.a06++[d]).length<=60
  rw[List.length_append];show u.a06.length+1<=60;omega
theorem Og{x1:Int}{u:ai}{i:Nat}{d:aj}(h1:∀x∈u.a06,aZ S x.body)(h2:u.a06.length<=60)(h3:u.seen.cP/\u.seen.gd S)(h4:u.seen.len<=100000000)(hd:aZ S d.body)(hi:i<=100000):
 Ok (rM L x1 u (i:Int) d) fun y=>∃u',y=.inl (((i+1:Nat):Int),u')/\(∀x∈u'.a06,aZ S x.body)/\u'.a06.length<=60/\u'.bG=u.bG/\(u'.seen.cP/\u'.seen.gd S)/\u'.seen.len<=u.seen.len+1/\u'.sent=u.sent/\u'.aN=u.aN/\u'.ct=u.ct:=by
 have flyB:∀{t:Int} {v:ai},(∀x∈v.a06,aZ S x.body)->v.a06.length<=60->(v.seen.cP/\v.seen.gd S)->v.seen.len<=u.seen.len+1->v.bG=u.bG->v.sent=u.sent->v.aN=u.aN->v.ct=u.ct->Ok (oE x1 t v (i:Int) d) fun y=>∃u',y=.inl (((i+1:Nat):Int),u')/\(∀x∈u'.a06,aZ S x.body)/\u'.a06.length<=60/\u'.bG=u.bG/\(u'.seen.cP/\u'.seen.gd S)/\u'.seen.len<=u.seen.len+1/\u'.sent=u.sent/\u'.aN=u.aN/\u'.ct=u.ct:=fun{t v} v1 v2 v3 v4 v5 v6 v7 v8=>by
  have go:∀{d':aj},aZ S d'.body->Ok (a30 v (i:Int) d') fun y=>∃u',y=.inl (((i+1:Nat):Int),u')/\(∀x∈u'.a06,aZ S x.body)/\u'.a06.length<=60/\u'.bG=u.bG/\(u'.seen.cP/\u'.seen.gd S)/\u'.seen.len<=u.seen.len+1/\u'.sent=u.sent/\u'.aN=u.aN/\u'.ct=u.ct:=fun hd'=>
   (Qr v1 v2 hd' hi).mono fun y ⟨u',e,a1,a2,a3,a4,a5,a6,a7⟩=>⟨u',e,a1,a2,a3.trans v5,by rw[a4];exact v3,by rw[a4];exact v4,a5.trans v6,a6.trans v7,a7.trans v8⟩
  unfold oE
  exact aC (fun _=>aP (fun _=>go hd) fun _=>go hd) fun _=>go hd
 unfold rM a2M
 refine aD (ae (bJ (fun _=>bD (cF (by rw[TL.fC,TL.eD];show(_+1)*40<=_;omega)) (flyB h1 h2 ?_ ?_ rfl rfl rfl rfl)) fun _=>flyB h1 h2 h3 (by omega) rfl rfl rfl rfl))
 ·refine⟨TL.qg h3.1 (TL.tw fun t ht=> ?_),TL.Fy h3.2 (TL.FA fun t ht=> ?_)⟩
  ·rw[List.mem_singleton]at ht;rw[ht];exact hd.1
  ·rw[List.mem_singleton]at ht;rw[ht];exact hd.2
 ·show(TL.app u.seen (TL.of [d.body])).len<=u.seen.len+1
  rw[TL.fC,TL.eD];exact Nat.le_refl _
variable (hL:8000<L)(hM:L<=4611686018427387904)
include hL hM
theorem CG{Q:ai->Prop}{st:Nat->ai->Int->cL->Option (ai×Int)}{n:ai}{o:fa}{x1:Int}(h1:∀x∈n.a06,aZ S x.body)(h2:n.a06.length<=60)(h3:n.seen.cP/\n.seen.gd S)(h4:n.seen.len<=10000000)(ho:∀d∈o.bK,aZ S d.body)(hl:o.bK.length<=7000)
 (k1:(n.sent++o.sent).length<=1000000) (k2:(n.aN++o.aN).length<=1000000) (k3:(n.ct++o.ct).length<=1000000)
 (hc:∀y,Put S n o y->Ok (iter (Y:=ai) 42015 (fun r5:(Int×ai)=>
 bif aF r5.1 ((fa.outside o).length:Int)then
  aJ (!(aF r5.1 0))<|
  aJ (Nat.blt (Int.toNat r5.1) ((fa.outside o).length))<|
  Option.bind (st L r5.2 (sub 1 x1) (3,(0,0,(0,0,TL.nil)),(fa.outside o).getD (Int.toNat r5.1) Clear.az,0)) fun y6=>
  some (.inl (add r5.1 1,y6.1))
 else
 some (.inr r5.2)) L (0,y)) Q):Ok (oG L st n x1 o) Q:=by
 unfold oG
 refine Ok.bind (P:=fun u:ai=>(∀x∈u.a06,aZ S x.body)/\u.a06.length<=60/\u.bG=n.bG/\(u.seen.cP/\u.seen.gd S)/\u.seen.len<=n.seen.len+o.bK.length/\u.sent=n.sent/\u.aN=n.aN/\u.ct=n.ct) ?_ fun u ⟨a1,a2,a3,a4,a5,a6,a7,a8⟩=> ?_
 ·refine a0i o.bK.length (fun i s=>s.1=(i:Int)/\(∀x∈s.2.a06,aZ S x.body)/\s.2.a06.length<=60/\s.2.bG=n.bG/\(s.2.seen.cP/\s.2.seen.gd S)/\s.2.seen.len<=n.seen.len+i/\s.2.sent=n.sent/\s.2.aN=n.aN/\s.2.ct=n.ct) (by omega) ⟨rfl,h1,h2,rfl,h3,Nat.le_refl _,rfl,rfl,rfl⟩ (fun i s hi hs=> ?_) fun s hs=> ?_
  ·obtain⟨j,u⟩:=s
   obtain⟨rfl,a1,a2,a3,a4,a5,a6,a7,a8⟩:=hs
   dsimp only at a1 a2 a3 a4 a5 a6 a7 a8⊢
   refine aM (fun _=>ay (by omega) (a03 hi ?_)) fun h=>absurd (by omega) h
   have hd:o.bK[i]?=some o.bK[i]:=List.getElem?_eq_getElem hi
   rw[a08,bB hd]
   refine(Og a1 a2 a4 (by omega) (ho _ (bC hd)) (by omega)).mono fun y ⟨u',e,b1,b2,b3,b4,b5,b6,b7,b8⟩=> ?_
   rw[e]
   exact⟨rfl,b1,b2,b3.trans a3,b4,by show u'.seen.len<=n.seen.len+(i+1);omega,b6.trans a6,b7.trans a7,b8.trans a8⟩
  ·obtain⟨j,u⟩:=s
   obtain⟨rfl,a⟩:=hs
   dsimp only at a⊢
   exact aM (fun h=>by omega) fun _=>ae a
 ·refine bD (cF (by rw[a6];omega)) (bD (cF (by rw[a7];omega)) (bD (cF (by rw[a8];omega)) ?_))
  refine aD ((hc (ai.bw u (sent:=u.sent++o.sent) (aN:=u.aN++o.aN) (ct:=u.ct++o.ct)) ⟨a3,a1,a2,a4,a5,?_,?_,?_⟩).mono fun y hy=>ae hy)
  ·show u.sent++o.sent=_;rw[a6]
  ·show u.aN++o.aN=_;rw[a7]
  ·show u.ct++o.ct=_;rw[a8]
end
section
variable {RR:Int->List aQ}{m k:Nat}{S S':List jn}{DD:Int->Dl}{G:List (aS×Int×Int)}{n:ai}{L:Nat}
def D6(n:ai)(w:Int)(g:aa):ai:=if w=0 then ai.uz n (g,n.bG.2)else ai.uz n (n.bG.1,g)
theorem FE{w:Int}{g:aa}(hw:w=0∨w=1):gt (D6 n w g) w=g:=by
 rcases hw with rfl|rfl<;>rfl
theorem Ca{w v:Int}{g:aa}(hw:w=0∨w=1)(hv:v=0∨v=1)(h:v≠w):gt (D6 n w g) v=gt n v:=by
 rcases hw with rfl|rfl<;>rcases hv with rfl|rfl
 ·exact absurd rfl h
 ·rfl
 ·rfl
 ·exact absurd rfl h
theorem vT{y:ai}{w:Int}(h:y.bG=n.bG):gt y w=gt n w:=by unfold gt;rw[h]
theorem NI.step(q:NI RR m k S DD G n){w:Int}(hw:w=0∨w=1){e:cL}{g':aa}{o:fa}{S':List jn}{D':Dl}(st:oZ w S (DD w) (RR w) (gt n w) e g' o S' D')(he:e.kind=2->pW e.clear/\jT e.clear.bf){y:ai}(p:Put S' (D6 n w g') o y){k':Nat}(hk:k'=if e.kind=1 then k+1 else k):
 ∃DD' G',NI RR (m+1) k' S' DD' G' y:=by
 have hsub:∀x∈S,x∈S':=fun x hx=>by
  rcases st.Th with⟨_,e⟩|⟨_,_,_,_,_,_,_,_,_,e⟩
  ·rw[e];exact hx
  ·rw[e];simp[hx]
 obtain⟨G',hG1,hG2,hG3⟩:∃G':List (aS×Int×Int),o.aN=G'.map Prod.fst/\(∀x∈G',x.1.gB=w/\actP (RR w) x.1.clear.bf false=(2,x.1.dm)/\(1-w,x.2.1,x.2.2,x.1.clear)∈S'/\(x.2.1,x.2.2)∉(DD w).l/\(x.2.1,x.2.2)∈D'.l)/\G'.length<=1:=by
  rcases st.UM with⟨e,_⟩|⟨c,r,dZ,i,e,a1,a2,a3,a4⟩
  ·exact⟨[],e,fun x hx=>by simp at hx,Nat.zero_le _⟩
  ·refine⟨[((w,c,r,dZ),dZ,i)],e,fun x hx=> ?_,Nat.le_refl _⟩
   rw[List.mem_singleton]at hx;subst hx
   exact⟨rfl,a3,hsub _ a2,a1,by rw[a4];simp⟩
 have hDl:∀x∈(DD w).l,x∈D'.l:=fun x hx=>by
  rcases st.UM with⟨_,e⟩|⟨_,_,_,_,_,_,_,_,e⟩
  ·rw[e];exact hx
  ·rw[e];simp[hx]
 have hgy:∀v,gt y v=gt (D6 n w g') v:=fun v=>vT p.bG
 have hsent:o.sent.length<=1:=by
  rcases st.Th with⟨e,_⟩|⟨_,_,_,_,_,e,_⟩
  ·rw[e];exact Nat.zero_le _
  ·rw[e];exact Nat.le_refl _
 have hn:∀{α:Type} (f:ai->α),(∀u v,f (ai.uz u v)=f u)->f (D6 n w g')=f n:=fun f hf=>by unfold D6;split<;>exact hf _ _
 have ns:=p.sent;rw[hn ai.sent fun _ _=>rfl]at ns
 have nd:=p.UM;rw[hn ai.aN fun _ _=>rfl]at nd
 have no:=p.Pg;rw[hn ai.ct fun _ _=>rfl]at no
 have nl:=p.Pp;rw[hn ai.seen fun _ _=>rfl]at nl
 have hsnew:∀r∈o.sent,(r.gB=0∨r.gB=1)/\actP (RR r.gB) r.clear.bf true=(2,r.dm)/\jT r.clear.bf:=fun r hr=>by
  rcases st.Th with⟨ee,_⟩|⟨c,rl,dZ,a,i,ee,_,_,a3,a4⟩
  ·rw[ee]at hr;simp at hr
  ·rw[ee,List.mem_singleton]at hr;subst hr
   refine⟨hw,a3,?_⟩
   rcases st.new (w,a,i,c) (by rw[a4];simp)with h|⟨h,hc⟩
   ·exact(q.Su _ h).2.2.2
   ·have hc:c=e.clear:=hc
    show jT c.bf
    rw[hc];exact(he h).2
 have hGl:G.length<=m:=by have:=q.l2;rw[q.Iq,List.length_map]at this;exact this
 have hkk:∀v,((if v=w then D' else DD v).k<=5000*k')↔(if v=w then D'.k else(DD v).k)<=5000*k':=fun v=>by split<;>exact Iff.rfl
 refine⟨fun v=>if v=w then D' else DD v,G++G',⟨fun v hv=> ?_,fun v hv=> ?_,p.fl,p.C4,p.sn,?_,fun x hx=> ?_,?_,fun r hr=> ?_,?_,fun x hx=> ?_,?_,fun r hr=> ?_,?_,?_,?_⟩⟩
 ·rw[hgy]
  by_cases h:v=w
  ·subst h;rw[FE hw,if_pos rfl];exact st.gi
  ·rw[Ca hw hv h,if_neg h];exact(q.gi v hv).mono hsub
 ·rw[hgy]
  have c0:=q.lG v hv
  by_cases h:v=w
  ·subst h
   rw[FE hw]
   have c1:=st.c2
   have c2:=st.bA
   have c3:=st.k
   refine⟨by omega,by split at c2<;>omega,?_⟩
   show(if v=v then D' else DD v).k<=_
   rw[if_pos rfl,hk]
   split at c3
   ·rename_i h1;rw[if_pos h1];omega
   ·rename_i h1;rw[if_neg h1];omega
  ·rw[Ca hw hv h]
   refine⟨by omega,by omega,?_⟩
   show(if v=w then D' else DD v).k<=_
   rw[if_neg h,hk]
   split<;>omega
 ·have:=q.Pp;have:=st.len;omega
 ·rcases st.new x hx with h|⟨h,hc⟩
  ·exact q.Su x h
  ·rcases st.Th with⟨_,ee⟩|⟨c,rl,dZ,a,i,_,a1,a2,_,ee⟩
   ·rw[ee]at hx;exact q.Su x hx
   ·rw[ee]at hx
    rcases List.mem_append.1 hx with hx|hx
    ·exact q.Su x hx
    ·rw[List.mem_singleton]at hx;subst hx
     have hc:c=e.clear:=hc
     refine⟨a1,a2,?_⟩
     show pW c/\jT c.bf
     rw[hc];exact he h
 ·rw[ns,List.map_append,q.ED]
  rcases st.Th with⟨e1,e2⟩|⟨c,rl,dZ,a,i,e1,_,_,_,e2⟩
  ·rw[e1,e2];simp
  ·rw[e1,e2,List.map_append];rfl
 ·rw[ns]at hr
  rcases List.mem_append.1 hr with hr|hr
  ·exact q.EE r hr
  ·exact hsnew r hr
 ·rw[nd,hG1,q.Iq,List.map_append]
 ·rcases List.mem_append.1 hx with hx|hx
  ·obtain⟨b1,b2,b3,b4⟩:=q.Ir x hx
   refine⟨b1,b2,hsub _ b3,?_⟩
   show(x.2.1,x.2.2)∈(if x.1.gB=w then D' else DD x.1.gB).l
   split
   ·rename_i h;exact hDl _ (by rw[<-h];exact b4)
   ·exact b4
  ·obtain⟨b1,b2,b3,_,b5⟩:=hG2 x hx
   refine⟨by rw[b1];exact hw,by rw[b1];exact b2,by rw[b1];exact b3,?_⟩
   show(x.2.1,x.2.2)∈(if x.1.gB=w then D' else DD x.1.gB).l
   rw[if_pos b1];exact b5
 ·rw[List.map_append,List.nodup_append]
  refine⟨q.N1,?_,fun a ha b hb=> ?_⟩
  ·exact SK (by rw[List.length_map];exact hG3)
  ·obtain⟨x,hx,rfl⟩:=List.mem_map.1 ha
   obtain⟨z,hz,rfl⟩:=List.mem_map.1 hb
   intro h
   obtain⟨b1,_,_,b4,_⟩:=hG2 z hz
   obtain⟨_,_,_,d4⟩:=q.Ir x hx
   have h1:x.1.gB=z.1.gB:=(Prod.mk.inj h).1
   have h2:(x.2.1,x.2.2)=(z.2.1,z.2.2):=(Prod.mk.inj h).2
   rw[h1,b1,h2]at d4
   exact b4 d4
 ·rw[no]at hr
  rcases List.mem_append.1 hr with hr|hr
  ·exact q.Pg r hr
  ·obtain⟨b1,b2,b3⟩:=st.Pg r hr
   refine⟨by rw[b1];exact hw,by rw[b1];exact b2,?_⟩
   rcases st.opk with h|h
   ·rw[h]at hr;simp at hr
   ·rw[b3];exact(he h).2
 ·have:=q.l1;rw[ns,List.length_append];omega
 ·have:=q.l2;rw[nd,List.length_append,hG1,List.length_map];omega
 ·have:=q.l3;have:=st.opl;rw[no,List.length_append];omega
end
section
variable {RR:Int->List aQ}{m k:Nat}{S S':List jn}{DD:Int->Dl}{G:List (aS×Int×Int)}{n:ai}{L:Nat}
theorem NI.up(q:NI RR m k S DD G n){m' k':Nat}(h:m<=m')(h':k<=k'):NI RR m' k' S DD G n:=
 {q with lG:=fun w hw=>by have:=q.lG w hw;refine⟨by omega,by omega,by omega⟩,Pp:=by have:=q.Pp;omega,l1:=Nat.le_trans q.l1 h,l2:=Nat.le_trans q.l2 h,l3:=Nat.le_trans q.l3 h}
def NE(RR:Int->List aQ)(m k:Nat)(n:ai):Prop:=∃S DD G,NI RR m k S DD G n
theorem NE.up{m' k':Nat}(q:NE RR m k n)(h:m<=m')(h':k<=k'):NE RR m' k' n:=by
 obtain⟨S,DD,G,q⟩:=q;exact⟨S,DD,G,q.up h h'⟩
structure Lm(L:Nat)(RR:Int->List aQ):Prop where
 lo:1000000<L
 hi:L<=4611686018427387904
 dh:∀w,w=0∨w=1->dQ (RR w)
def F5(S:List jn)(e:cL):Prop:=(e.kind=1->aZ S e.fm.body)/\(e.kind=2->pW e.clear/\jT e.clear.bf)
theorem EO(h:Lm L RR)(q:NI RR m k S DD G n)(hm:m<=1000)(hk:k<=180){w:Int}(hw:w=0∨w=1){e:cL}(he:F5 S e):
 Ok (a2F L (gt n w) e) fun y=>y.2.2=0->∃S' D',oZ w S (DD w) (RR w) (gt n w) e y.1 y.2.1 S' D':=by
 have c:=q.lG w hw
 have hlo:=h.lo
 exact Tj (by omega) h.hi (q.gi w hw) (h.dh w hw) q.Su ⟨by omega,by omega⟩ (by omega) (by omega) (by omega) (by omega) he.1
theorem EN(h:Lm L RR)(q:NI RR m k S DD G n)(hm:m<=1000)(hk:k<=180){w:Int}(hw:w=0∨w=1){e:cL}(he:F5 S e){put:Nat->ai->Int->fa->Option ai}{Q:ai×Int->Prop}(h0:∀x,x≠0->Q (n,x))
 (hp:∀g' o S' D',oZ w S (DD w) (RR w) (gt n w) e g' o S' D'->Ok (put L (D6 n w g') w o) fun y=>Q (y,0)):Ok (j7 L put n w e) Q:=by
 have hA:Ok (j6 L put n w (gt n w) e) Q:=by
  unfold j6
  refine(EO h q hm hk hw he).bind fun y4 h4=>aP (fun hne=>ae (h0 _ hne)) fun hz=> ?_
  obtain⟨S',D',st⟩:=h4 hz
  have hh:=hp _ _ _ _ st
  rcases hw with rfl|rfl
  ·refine aC (fun _=>hh.bind fun y hy=>ae hy) fun hne=>absurd rfl hne
  ·refine aC (fun hne=>absurd hne (by decide)) fun _=>a0r rfl (hh.bind fun y hy=>ae hy)
 unfold j7
 rcases hw with rfl|rfl
 ·exact aC (fun _=>hA) fun hne=>absurd rfl hne
 ·exact aC (fun hne=>absurd hne (by decide)) fun _=>a0r rfl hA
theorem NI.CR(q:NI RR m k S DD G n)(hm:m<=1000){w:Int}{g':aa}{e:cL}{o:fa}{S':List jn}{D':Dl}(st:oZ w S (DD w) (RR w) (gt n w) e g' o S' D'):
 (∀x∈(D6 n w g').a06,aZ S' x.body)/\(D6 n w g').a06.length<=60/\((D6 n w g').seen.cP/\(D6 n w g').seen.gd S')/\(D6 n w g').seen.len<=10000000/\((D6 n w g').sent++o.sent).length<=1000000/\((D6 n w g').aN++o.aN).length<=1000000/\((D6 n w g').ct++o.ct).length<=1000000:=by
 have hsub:∀x∈S,x∈S':=fun x hx=>by
  rcases st.Th with⟨_,e⟩|⟨_,_,_,_,_,_,_,_,_,e⟩
  ·rw[e];exact hx
  ·rw[e];simp[hx]
 have hn:∀{α:Type} (f:ai->α),(∀u v,f (ai.uz u v)=f u)->f (D6 n w g')=f n:=fun f hf=>by unfold D6;split<;>exact hf _ _
 have h1:o.sent.length<=1:=by
  rcases st.Th with⟨e,_⟩|⟨_,_,_,_,_,e,_⟩
  ·rw[e];exact Nat.zero_le _
  ·rw[e];exact Nat.le_refl _
 have h2:o.aN.length<=1:=by
  rcases st.UM with⟨e,_⟩|⟨_,_,_,_,e,_⟩
  ·rw[e];exact Nat.zero_le _
  ·rw[e];exact Nat.le_refl _
 have h3:=st.opl
 have:=q.Pp;have:=q.l1;have:=q.l2;have:=q.l3
 rw[hn ai.a06 fun _ _=>rfl,hn ai.seen fun _ _=>rfl,hn ai.sent fun _ _=>rfl,hn ai.aN fun _ _=>rfl,hn ai.ct fun _ _=>rfl]
 exact⟨fun x hx=>(q.fl x hx).mono hsub,q.C4,⟨q.sn.1,TL.yy hsub q.sn.2⟩,by omega,by rw[List.length_append];omega,by rw[List.length_append];omega,by rw[List.length_append];omega⟩
theorem LV(h:Lm L RR)(q:NI RR m k S DD G n)(hm:m<=1000)(hk:k<=180){w:Int}(hw:w=0∨w=1){e:cL}(he:F5 S e)(h2:e.kind≠2)(f:Nat):
 Ok ((cQ L (f+2)).2 n w e) fun y=>NE RR (m+1) (if e.kind=1 then k+1 else k) y.1:=by
 have hlo:=h.lo
 refine EN (put:=fun _=>(cQ L (f+1)).1) h q hm hk hw he (fun x _=>⟨S,DD,G,q.up (by omega) (by split<;>omega)⟩) fun g' o S' D' st=> ?_
 obtain⟨p1,p2,p3,p4,p5,p6,p7⟩:=q.CR hm st
 refine CG (st:=fun _=>(cQ L f).2) (by omega:8000<L) h.hi p1 p2 p3 p4 st.tJ st.len p5 p6 p7 fun y hy=> ?_
 have ho:o.outside=[]:=st.out.elim (fun h=>h) fun hh=>absurd hh.1 h2
 rw[ho]
 obtain⟨DD',G',q'⟩:=q.step hw st he.2 hy rfl
 refine a0i 0 (fun i s=>s=((i:Int),y)) (by omega) rfl (fun i s hi _=>by omega) fun s hs=> ?_
 subst hs
 exact aM (fun h=>absurd h (by show¬((0:Nat):Int)<((0:Nat):Int);omega)) fun _=>ae ⟨S',DD',G',q'⟩
theorem Ni(h:Lm L RR)(q:NI RR m k S DD G n)(hm:m<=999)(hk:k<=179){w:Int}(hw:w=0∨w=1){e:cL}(he:F5 S e)(f:Nat):
 Ok ((cQ L (f+4)).2 n w e) fun y=>NE RR (m+2) (if e.kind=1 then k+1 else k) y.1:=by
 have hlo:=h.lo
 refine EN (put:=fun _=>(cQ L (f+3)).1) h q (by omega) (by omega) hw he (fun x _=>⟨S,DD,G,q.up (by omega) (by split<;>omega)⟩) fun g' o S' D' st=> ?_
 obtain⟨p1,p2,p3,p4,p5,p6,p7⟩:=q.CR (by omega) st
 refine CG (st:=fun _=>(cQ L (f+2)).2) (by omega:8000<L) h.hi p1 p2 p3 p4 st.tJ st.len p5 p6 p7 fun y hy=> ?_
 obtain⟨DD',G',q'⟩:=q.step hw st he.2 hy rfl
 rcases st.out with ho|⟨h2,ho⟩
 ·rw[ho]
  refine a0i 0 (fun i s=>s=((i:Int),y)) (by omega) rfl (fun i s hi _=>by omega) fun s hs=> ?_
  subst hs
  exact aM (fun h=>absurd h (by show¬((0:Nat):Int)<((0:Nat):Int);omega)) fun _=>ae ⟨S',DD',G',q'.up (by omega) (Nat.le_refl _)⟩
 ·rw[ho]
  refine a0i 1 (fun i s=>s.1=(i:Int)/\(i=0->s.2=y)/\(i=1->NE RR (m+2) (if e.kind=1 then k+1 else k) s.2)) (by omega) ⟨rfl,fun _=>rfl,fun h=>by omega⟩ (fun i s hi hs=> ?_) fun s hs=> ?_
  ·obtain rfl:i=0:=by omega
   obtain⟨a,u⟩:=s
   obtain⟨rfl,h1,_⟩:=hs
   obtain rfl:=h1 rfl
   refine aM (fun _=>bD rfl (bD rfl ?_)) fun h=>absurd (show((0:Nat):Int)<((1:Nat):Int) by decide) h
   have hw':sub 1 w=0∨sub 1 w=1:=by
    rcases hw with rfl|rfl
    ·exact .inr rfl
    ·exact .inl rfl
   refine(LV h q' (by omega) (by split<;>omega) hw' (e:=(3,(0,0,(0,0,TL.nil)),e.clear,0)) ⟨fun h=>absurd h (by show¬(3:Int)=1;decide),fun h=>absurd h (by show¬(3:Int)=2;decide)⟩ (by show¬(3:Int)=2;decide) f).bind fun z hz=>ae ⟨rfl,fun h=>by omega,fun _=> ?_⟩
   rw[if_neg (show¬cL.kind (3,(0,0,(0,0,TL.nil)),e.clear,0)=1 by show¬(3:Int)=1;decide)]at hz
   exact hz
  ·obtain⟨a,u⟩:=s
   obtain⟨rfl,_,h1⟩:=hs
   exact aM (fun h=>absurd h (by show¬((1:Nat):Int)<((1:Nat):Int);omega)) fun _=>ae (h1 rfl)
theorem yK(h:Lm L RR)(q:NI RR m k S DD G n)(hm:m<=999)(hk:k<=179){w:Int}(hw:w=0∨w=1){e:cL}(he:F5 S e):
 Ok (cR L n w e) fun y=>NE RR (m+2) (if e.kind=1 then k+1 else k) y.1:=Ni h q hm hk hw he 2
end
def nd(t:Tm):Nat:=t.2.2.nds+1
theorem uk:∀a b:TL,(a.app b).nds=a.nds+b.nds
 | .nil,b=>by simp[TL.app,TL.nds]
 | .cons o v x r,b=>by simp only[TL.app,TL.nds,uk r b];omega
theorem jM:∀l:TL,l.len<=l.nds
 | .nil=>Nat.le_refl _
 | .cons o v x r=>by have:=jM r;simp only[TL.len,TL.nds];omega
theorem w6(t:Tm):(TL.of [t]).nds=nd t:=rfl
theorem vZ:∀(l:TL) (i:Nat),i<l.len->(l.drop i).nds=nd (l.get i)+(l.drop (i+1)).nds
 | .nil,i,h=>absurd h (Nat.not_lt_zero _)
 | .cons o v x r,0,h=>by cases r<;>rfl
 | .cons o v x r,i+1,h=>vZ r i (by simpa [TL.len]using h)
theorem a3B(l:TL):l.drop 0=l:=by cases l<;>rfl
theorem yD:∀l:TL,l.nds<=5000->l.cP
 | .nil,_=>trivial
 | .cons o v a r,h=>by
   have h:a.nds+1+r.nds<=5000:=h
   have:=jM a
   exact⟨by omega,yD a (by omega),yD r (by omega)⟩
theorem a4C:∀(l:TL) (i:Nat),i<l.len->l.get i∈l.ls
 | .nil,i,h=>absurd h (Nat.not_lt_zero _)
 | .cons o v x r,0,h=>by simp[TL.ls,TL.get]
 | .cons o v x r,i+1,h=>by simp only[TL.ls,TL.get];exact List.mem_cons_of_mem _ (a4C r i (by simpa [TL.len]using h))
theorem Ll(n:Nat){l:TL}(h:l.cP):(l.take n).cP:=by
 have key:∀(l:TL) (n:Nat),l.cP->(l.take n).cP:=by
  intro l
  induction l with
  |nil=>intro n h;cases n<;>exact trivial
  |cons o v a r _ ih=>intro n h;cases n with
   |zero=>exact trivial
   |succ n=>exact⟨h.1,h.2.1,ih n h.2.2⟩
 exact key l n h
theorem Ct:∀{l:TL},l.cP->l.zV=true
 | .nil,_=>rfl
 | .cons o v a r,h=>by
   show(Nat.ble a.len 5000&&(a.zV&&r.zV))=true
   rw[jU h.1,Ct (l:=a) h.2.1,Ct (l:=r) h.2.2];rfl
theorem HP(l:TL):iG l=l.drop 1:=by unfold iG;rw[TL.a4u]
section
variable {L:Nat}(hL:1000000<L)(hM:L<=4611686018427387904)
include hL hM
theorem H8{t u:Tm}(ht:t.cP)(hu:u.cP):Ok (gC L t u) fun _=>True:=by
 unfold gC
 rw[mz (by omega) hM ht,mz (by omega) hM hu]
 exact aD (ae (aM (fun _=>ae trivial) fun _=>aD (ae (aM (fun _=>ae trivial) fun _=>ae trivial))))
omit hL hM in
theorem Sw{i j:Int}(h0:0<=i)(h1:i<=j)(h2:j<=1000000000):aY .i64 (yg .u64 (aY .u64 (add i j)) 1)=(i+j)/2:=by
 rw[fK (by omega) (by omega),show aY .u64 (i+j)=i+j from xT (by omega) (by omega)]
 have e:yg .u64 (i+j) 1=(i+j)/2:=by
  show(i+j).fdiv (2^min 1 64)=_
  rw[show(2:Int)^min 1 64=2 by decide]
  exact Int.fdiv_eq_ediv_of_nonneg _ (by decide)
 rw[e]
 exact u7 (by omega) (by omega)
theorem OT{k:TL}{t:Tm}(hk:k.cP)(ht:t.cP)(hl:k.len<=600000):Ok (ug L k t) fun y=>0<=y/\y<=(k.len:Int):=by
 unfold ug
 refine a0i k.len (fun m s=>0<=s.1/\s.1<=s.2/\s.2<=(k.len:Int)/\s.2-s.1<=(k.len:Int)-m) (by omega) ⟨Int.le_refl _,by show(0:Int)<=_;omega,Int.le_refl _,by show(k.len:Int)-0<=_;omega⟩ (fun m s hm hs=> ?_) fun s hs=> ?_
 ·obtain⟨i,j⟩:=s
  obtain⟨h1,h2,h3,h4⟩:=hs
  dsimp only at h1 h2 h3 h4⊢
  rw[Sw h1 h2 (by omega)]
  refine aM (fun hlt=>ay (by omega) (a03 (by omega) ?_)) fun h=>ae ⟨h1,by omega⟩
  refine(H8 hL hM (TL.a2C hk _) ht).bind fun y _=>aM (fun _=>ae ⟨?_,?_,h3,?_⟩) fun _=>ae ⟨h1,?_,?_,?_⟩
  ·rw[fK (by omega) (by omega)];show 0<=(i+j)/2+1;omega
  ·rw[fK (by omega) (by omega)];show(i+j)/2+1<=j;omega
  ·rw[fK (by omega) (by omega)];show j-((i+j)/2+1)<=_;omega
  ·show i<=(i+j)/2;omega
  ·show(i+j)/2<=_;omega
  ·show(i+j)/2-i<=_;omega
 ·obtain⟨i,j⟩:=s
  obtain⟨h1,h2,h3,h4⟩:=hs
  dsimp only at h1 h2 h3 h4⊢
  exact aM (fun h=>by omega) fun _=>ae ⟨h1,by omega⟩
theorem Dw{α:Type}{Q:α->Prop}{k:TL}{t:Tm}{i:Int}{f:Int->Option α}(hk:k.cP)(ht:t.cP)(h0:0<=i)(h1:i<(k.len:Int))(h:∀y,Ok (f y) Q):Ok (oq L k t i f) Q:=by
 unfold oq
 exact ay (by omega) (a03 (by omega) ((H8 hL hM (TL.a2C hk _) ht).bind fun y _=>h y))
theorem yB{k:TL}{t:Tm}(hk:k.cP)(ht:t.cP)(hl:k.len<=600000):Ok (fD L k t) fun _=>True:=by
 unfold fD
 exact(OT hL hM hk ht hl).bind fun y ⟨h0,h1⟩=>aM (fun h=>Dw hL hM hk ht h0 h fun _=>ae trivial) fun _=>ae trivial
theorem Ks{can:Tm->Option Bool}{l:TL}(hl:l.len<=5000)(h:∀i,i<l.len->Ok (can (l.get i)) fun _=>True):Ok (gQ L can l) fun _=>True:=by
 unfold gQ
 refine Ok.bind (P:=fun _=>True) (fq l.len (fun _=>True) (by omega) trivial (fun i hi _=> ?_) fun _=> ?_) fun y _=> ?_
 ·refine aM (fun _=>ay (by omega) (a03 hi ?_)) fun h=>absurd (by omega) h
  rw[a08]
  exact(h i hi).bind fun y _=>bn (fun _=>ae trivial) fun _=>ae ⟨cG i (by omega),trivial⟩
 ·exact aM (fun h=>absurd h (by omega)) fun _=>ae trivial
 ·cases y<;>exact ae trivial
omit hL hM in
theorem N0{l:TL}{i:Nat}(h:i<l.len):(l.get i).dep<=l.dep:=by
 have:∀(l:TL) (i:Nat),i<l.len->(l.get i).dep<=l.dep:=by
  intro l
  induction l with
  |nil=>intro i h;exact absurd h (Nat.not_lt_zero _)
  |cons o v a r iha ihr=>
   intro i h
   cases i with
   |zero=>simp only[TL.get,Tm.dep,TL.dep];omega
   |succ i=>have:=ihr i (by simpa [TL.len]using h);simp only[TL.get,TL.dep];omega
 exact this l i h
theorem MR{k:TL}(hk:k.cP)(hl:k.len<=600000):∀n,(∀t:Tm,t.cP->2*t.dep+1<=n->Ok ((bP L n).1 k t) fun _=>True)/\(∀a b:Tm,a.cP->b.cP->2*a.dep+2<=n->2*b.dep+2<=n->Ok ((bP L n).2 k a b) fun _=>True):=by
 intro n
 induction n with
 |zero=>exact⟨fun t _ h=>by omega,fun a b _ _ h=>by omega⟩
 |succ n ih=>
  obtain⟨ih1,ih2⟩:=ih
  refine⟨fun t ht hd=> ?_,fun a b ha hb hd1 hd2=> ?_⟩
  ·show Ok (jl L (fun _=>(bP L n).1) (fun _=>(bP L n).2) k t) _
   have harg:∀i,i<t.2.2.len->(t.2.2.get i).cP/\2*(t.2.2.get i).dep+2<=n:=fun i hi=>⟨TL.a2C ht.2 i,by
    have:=N0 hi
    have hd:2*(t.2.2.dep+1)+1<=n+1:=hd
    omega⟩
   have ev:Ok (gQ L ((bP L n).1 k) (Tm.args t)) fun _=>True:=Ks hL hM ht.1 fun i hi=>ih1 _ (harg i hi).1 (Nat.le_of_succ_le (harg i hi).2)
   unfold jl
   have no:∀{b:Bool},Ok (some b) fun _:Bool=>True:=ae trivial
   refine(yB hL hM hk ht hl).bind fun y _=>bJ (fun _=>no) fun _=>aC (fun _=>no) fun _=>aC (fun _=>no) fun _=>aC (fun _=>aP (fun _=>no) fun _=>no) fun _=>aC (fun _=>no) fun _=>aC (fun _=>ev) fun _=>aC (fun _=>ev) fun _=>aC (fun _=>ev) fun _=>aC (fun _=>aC (fun _=>ev) fun _=>no) fun _=>aC (fun _=>aC (fun h1=> ?_) fun _=>no) fun _=>aC (fun _=>aC (fun h2=> ?_) fun _=>no) fun _=>no
   ·have h1:(t.2.2.len:Int)=1:=h1
    have:=(harg 0 (by omega)).2
    refine(ih1 (T.eE (Tm.val t)) ⟨Nat.zero_le _,trivial⟩ ?_).bind fun y _=>bJ (fun _=>ev) fun _=>no
    show 2*(0+1)+1<=n
    have:1<=(t.2.2.get 0).dep:=Nat.succ_le_succ (Nat.zero_le _)
    omega
   ·have h2:(t.2.2.len:Int)=2:=h2
    obtain⟨a1,a2⟩:=harg 0 (by omega)
    obtain⟨b1,b2⟩:=harg 1 (by omega)
    exact a03 (by show 0<t.2.2.len;omega) (a03 (by show 1<t.2.2.len;omega) ((ih2 _ _ a1 b1 a2 b2).bind fun y _=>no))
  ·show Ok (gR L (fun _=>(bP L n).1) k a b) _
   unfold gR
   have no:∀{b:Bool},Ok (some b) fun _:Bool=>True:=ae trivial
   have A9:∀{x:Tm},x.cP->Tm.cP (T.A9 x):=fun h=>⟨by show 0+1<=5000;omega,h.1,h.2,trivial⟩
   refine(ih1 a ha (by omega)).bind fun y4 _=>(ih1 b hb (by omega)).bind fun y5 _=>bJ (fun _=>bJ (fun _=>no) fun _=>(yB hL hM hk (A9 hb) hl).bind fun y _=>bJ (fun _=>no) fun _=>bJ (fun _=>(yB hL hM hk (A9 ha) hl).bind fun y _=>no) fun _=>no) fun _=>bJ (fun _=>(yB hL hM hk (A9 ha) hl).bind fun y _=>no) fun _=>no
theorem a4v{k:TL}{t:Tm}(hk:k.cP)(ht:t.cP)(hl:k.len<=600000):Ok (bF L k t) fun _=>True:=(MR hL hM hk hl _).1 t ht (by omega)
theorem PC{l:TL}{t:Tm}(hk:l.cP)(ht:t.cP)(hl:l.len<=600000):Ok (rA L l t) fun _=>True:=by
 unfold rA wq
 rw[Ct hk]
 refine aD (ae ((a4v hL hM (TL.tw fun u hu=>TL.Hz hk u ?_) ht ?_).bind fun y _=>ae trivial))
 ·exact(List.mergeSort_perm _ _).mem_iff.1 hu
 ·rw[TL.eD,(List.mergeSort_perm _ _).length_eq,TL.Sv];exact hl
end
end Go.Proofs.YtehbbcdhahnkgaaGreat.Vm
namespace Go.Proofs.YtehbbcdhahnkgaaGreat.Vm
open Go Go.RowKit
set_option linter.unusedVariables false
attribute [local go_sem] Oper.semAt_some
theorem BZ(n k:Nat):aH (n:Int) (k:Int)=Nat.beq n k:=by
 unfold aH
 cases h:Nat.beq n k with
 |true=>rw[Nat.eq_of_beq_eq_true h];simp
 |false=>have:=Nat.ne_of_beq_eq_false h;exact decide_eq_false (by omega)
theorem Ma{L:Nat}(hL:5000<L)(hM:L<=4611686018427387904){t:Tm}(h:t.2.2.cP):sd L t=some (a3d t.1 t.2.1 t.2.2):=by
 obtain⟨o,v,a⟩:=t
 have e0:aH (a.len:Int) 0=Nat.beq a.len 0:=BZ _ 0
 have e1:aH (a.len:Int) 1=Nat.beq a.len 1:=BZ _ 1
 have e2:aH (a.len:Int) 2=Nat.beq a.len 2:=BZ _ 2
 have e3:Nat.beq a.len 2=true->(Nat.blt 1 a.len=true/\Nat.blt 0 a.len=true):=fun e=>by rw[Nat.eq_of_beq_eq_true e];exact⟨rfl,rfl⟩
 have e4:bq L (a.get 1) (a.get 0)=some (nW (a.get 1) (a.get 0)):=mz hL hM (TL.a2C h 1)
 unfold sd a3d Tm.op Tm.val Tm.args
 simp only[e0,e1,e2]
 cases aH o 1 with
 |true=>rfl
 |false=>
 cases aH o 2 with
 |true=>cases Nat.beq a.len 0<;>rfl
 |false=>
 cases aH o 9 with
 |true=>cases Nat.beq a.len 0<;>rfl
 |false=>
 cases aH o 10 with
 |true=>cases Nat.beq a.len 0<;>rfl
 |false=>
 cases aH o 3 with
 |true=>rfl
 |false=>
 cases aH o 6 with
 |true=>rfl
 |false=>
 cases aH o 4 with
 |true=>cases Nat.beq a.len 1<;>rfl
 |false=>
 cases aH o 8 with
 |true=>cases Nat.beq a.len 1<;>rfl
 |false=>
 cases aH o 5 with
 |true=>
  cases h2:Nat.beq a.len 2 with
  |false=>rfl
  |true=>
   obtain⟨q1,q2⟩:=e3 h2
   cases aH v 0 with
   |false=>rfl
   |true=>
    show aJ (Nat.blt 1 a.len) (aJ (Nat.blt 0 a.len) (Option.bind (bq L (a.get 1) (a.get 0)) fun y=>some (!(aF y 0))))=_
    rw[q1,q2,e4];rfl
 |false=>
 cases aH o 7 with
 |true=>cases Nat.beq a.len 2<;>rfl
 |false=>rfl
def TL.trs:TL->List sJ
 | .nil=>[]
 | .cons o v a r=>.mk o v a.trs::r.trs
def Mk(t:Tm):sJ:=.mk t.1 t.2.1 t.2.2.trs
theorem TL.HX:∀l:TL,l.trs.length=l.len
 | .nil=>rfl
 | .cons _ _ _ r=>by simp only[TL.trs,List.length_cons,TL.len,TL.HX r]
theorem TL.CY:∀{a b:TL},a.trs=b.trs->a=b
 | .nil,.nil,_=>rfl
 | .nil,.cons ..,h=>by cases h
 | .cons ..,.nil,h=>by cases h
 | .cons o v a r,.cons o' v' a' r',h=>by
   have h:(.mk o v a.trs:sJ)::r.trs=.mk o' v' a'.trs::r'.trs:=h
   injection h with h1 h2
   injection h1 with h3 h4 h5
   rw[h3,h4,TL.CY h5,TL.CY h2]
theorem Ov{t u:Tm}(h:Mk t=Mk u):t=u:=by
 obtain⟨o,v,a⟩:=t
 obtain⟨o',v',a'⟩:=u
 injection h with h1 h2 h3
 simp only at h1 h2 h3
 rw[h1,h2,TL.CY h3]
def TL.vN:TL->Int->List (Tm×Int)
 | .nil,_=>[]
 | .cons o v a r,d=>((o,v,a),d)::(a.vN (IntKind.i64.wrap (d+1))++r.vN d)
theorem Gy:∀(l:TL) (d:Int),(l.vN d).length=l.nds
 | .nil,_=>rfl
 | .cons o v a r,d=>by
   show(((o,v,a),d)::(a.vN (IntKind.i64.wrap (d+1))++r.vN d)).length=a.nds+1+r.nds
   rw[List.length_cons,List.length_append,Gy a,Gy r];omega
theorem Gz:∀(l:TL) (d:Int) (p:Tm×Int),p∈l.vN d->p.1.2.2.nds<=l.nds
 | .nil,_,p,h=>by cases h
 | .cons o v a r,d,p,h=>by
   show _<=a.nds+1+r.nds
   have h:p∈((o,v,a),d)::(a.vN (IntKind.i64.wrap (d+1))++r.vN d):=h
   rcases List.mem_cons.1 h with rfl|h
   ·show a.nds<=_;omega
   ·rcases List.mem_append.1 h with h|h
    ·have:=Gz a _ p h;omega
    ·have:=Gz r _ p h;omega
theorem Mq:∀(l:TL) (d:Nat),d<=61->(l.AO d=true↔∀p∈l.vN (d:Int),p.2<=60/\a3d p.1.1 p.1.2.1 p.1.2.2=true)
 | .nil,d,_=>⟨fun _ p h=>(by cases h),fun _=>rfl⟩
 | .cons o v a r,d,hd=>by
   show(Nat.ble d 60&&a3d o v a&&a.AO (d+1)&&r.AO d)=true↔∀p∈((o,v,a),(d:Int))::(a.vN (IntKind.i64.wrap ((d:Int)+1))++r.vN (d:Int)),_
   rcases Nat.lt_or_ge 60 d with h|h
   ·constructor
    ·intro e
     simp only[Bool.and_eq_true]at e
     have:=Nat.le_of_ble_eq_true e.1.1.1
     omega
    ·intro e
     have:=(e _ (List.mem_cons_self ..)).1
     simp only at this
     omega
   ·have hw:IntKind.i64.wrap ((d:Int)+1)=((d+1:Nat):Int):=by rw[IntKind.wrap_i64];omega
    rw[hw]
    have ha:=Mq a (d+1) (by omega)
    have hr:=Mq r d hd
    simp only[Bool.and_eq_true,ha,hr]
    constructor
    ·rintro⟨⟨⟨_,h2⟩,h3⟩,h4⟩ p hp
     rcases List.mem_cons.1 hp with rfl|hp
     ·exact⟨by show(d:Int)<=60;omega,h2⟩
     ·rcases List.mem_append.1 hp with hp|hp
      ·exact h3 p hp
      ·exact h4 p hp
    ·intro e
     exact⟨⟨⟨Nat.ble_eq_true_of_le h,(e _ (List.mem_cons_self ..)).2⟩,fun p hp=>e p (List.mem_cons_of_mem _ (List.mem_append.2 (.inl hp)))⟩,fun p hp=>e p (List.mem_cons_of_mem _ (List.mem_append.2 (.inr hp)))⟩
def X5(F:Fz)(x:Nd)(p:Tm×Int):Prop:=x.1=Mk p.1/\x.2.2=p.2/\DR F TT p.1 x.2.1
theorem All2.Lh{α β:Type}{R:α->β->Prop}:∀{xs:List α} {bs:List β},All2 R xs bs->∀a∈xs,∃b∈bs,R a b
 |[],[],_,a,h=>by cases h
 |a::xs,b::bs,⟨h1,h2⟩,x,h=>by
  rcases List.mem_cons.1 h with rfl|h
  ·exact⟨b,by simp,h1⟩
  ·obtain⟨c,h3,h4⟩:=All2.Lh h2 x h;exact⟨c,by simp[h3],h4⟩
theorem All2.Li{α β:Type}{R:α->β->Prop}:∀{xs:List α} {bs:List β},All2 R xs bs->∀b∈bs,∃a∈xs,R a b
 |[],[],_,a,h=>by cases h
 |a::xs,b::bs,⟨h1,h2⟩,x,h=>by
  rcases List.mem_cons.1 h with rfl|h
  ·exact⟨a,by simp,h1⟩
  ·obtain⟨c,h3,h4⟩:=All2.Li h2 x h;exact⟨c,by simp[h3],h4⟩
theorem TLR.cz{F:Fz}{w:World}{X:Nat}(hX:F X=none)(hF:∀b arr,F b=some arr->∃el fr,w.heap[b]?=some (.cells arr el fr)):∀{l:TL} {us:List Value},TLR F l us->∀d,∃uss zs,PreL X w l.trs uss d zs/\uss.flatten=us/\All2 (X5 F) zs (l.vN d)
 | .nil,us,h,d=>⟨[],[],by show PreL X w [] [] d [];unfold PreL;rfl,h.symm,trivial⟩
 | .cons o v a r,us,⟨sl,rest,e,h1,h2,hs,h4⟩,d=>by
   have h0:DR F TT (o,v,a) [.int .i64 o,.int .i64 v,sl]:=a3R.2 ⟨sl,rfl,h1,h2,hs⟩
   obtain⟨A,c,e1,e2,e3,_,_,us',e6,e7⟩:=hs
   obtain⟨uss,zs,p1,p2,p3⟩:=TLR.cz hX hF h4 d
   obtain⟨ussa,zsa,q1,q2,q3⟩:=TLR.cz hX hF e6 (IntKind.i64.wrap (d+1))
   subst e1 e
   have hlen:=TL.HX a
   refine⟨[.int .i64 o,.int .i64 v,.slice A a.len c]::uss,((.mk o v a.trs,[.int .i64 o,.int .i64 v,.slice A a.len c],d)::zsa)++zs,?_,by rw[List.flatten_cons,p2];rfl,?_⟩
   ·show PreL X w (.mk o v a.trs::r.trs) _ _ _
    unfold PreL
    refine⟨_,_,rfl,?_,p1⟩
    unfold Pre
    refine⟨A,c,zsa,by rw[hlen];exact Nat.le_trans e2 e3.1,by rw[hlen],rfl,?_⟩
    rcases Nat.eq_zero_or_pos a.len with hz|hp
    ·have ha:a=.nil:=by
      cases a with
      |nil=>rfl
      |cons=>simp[TL.len]at hz
     subst ha
     cases zsa with
     |nil=>exact .inl ⟨rfl,rfl⟩
     |cons=>exact(q3:False).elim
    ·obtain⟨b,k,arr,f1,f2,f3⟩:=e7 hp
     obtain⟨el,fr,hg⟩:=hF b arr f2
     refine .inr ⟨b,k,ussa,f1,fun e=>(by rw[e,hX]at f2;cases f2),q1,fun j u hu=> ?_⟩
     rw[q2]at hu
     rw[cell_of_row w b _ _ el fr hg]
     exact f3 j u hu
   ·show All2 (X5 F) _ (((o,v,a),d)::(a.vN (IntKind.i64.wrap (d+1))++r.vN d))
    exact⟨⟨rfl,rfl,h0⟩,All2.append q3 p3⟩
theorem DR.cz{F:Fz}{w:World}{X:Nat}(hX:F X=none)(hF:∀b arr,F b=some arr->∃el fr,w.heap[b]?=some (.cells arr el fr)){t:Tm}{cs:List Value}(h:DR F TT t cs)(d:Int):∃ys,Pre X w (Mk t) cs d ys/\All2 (X5 F) ys ((zZ t).vN d):=by
 obtain⟨sl,e,h1,h2,h3⟩:=a3R.1 h
 obtain⟨uss,zs,p1,p2,p3⟩:=TLR.cz (X:=X) (l:=zZ t) (us:=cs) hX hF ⟨sl,[],e,h1,h2,h3,rfl⟩ d
 have p1:PreL X w [Mk t] uss d zs:=p1
 cases uss with
 |nil=>unfold PreL at p1;exact p1.elim
 |cons us uss=>
  unfold PreL at p1
  obtain⟨y,z,q1,q2,q3⟩:=p1
  cases uss with
  |cons=>unfold PreL at q3;exact q3.elim
  |nil=>
   unfold PreL at q3
   subst q3 q1
   rw[List.append_nil]at p3
   have:us=cs:=by simpa using p2
   subst this
   exact⟨y,q2,p3⟩
theorem Ig{w w':World}{a:Addr}{v:Value}(hk:∀k,k<w.heap.size->w'.heap[k]?=w.heap[k]?)(h:w.cell? a=some v):w'.cell? a=some v:=by
 have:=hk _ (a3M h)
 simp only[World.cell?,this]
 exact h
theorem L1{F:Fz}{w W:World}(hF:∀b arr,F b=some arr->∃el fr,w.heap[b]?=some (.cells arr el fr))(hb:Below w.heap.size w W){b:Nat}{arr:Array Value}(h:F b=some arr):∃el fr,W.heap[b]?=some (.cells arr el fr):=by
 obtain⟨el,fr,hg⟩:=hF b arr h
 exact⟨el,fr,by rw[hb.block b (Array.getElem?_eq_some_iff.1 hg).1];exact hg⟩
theorem EL{d:Bool}{P:Program}{L:Nat}(hs:dU d P 81 (P7 L)){F:Fz}{W:World}(hF:∀b arr,F b=some arr->∃el fr,W.heap[b]?=some (.cells arr el fr)){t:Tm}{cs:List Value}(ht:DR F TT t cs){r:Bool}(hr:sd L t=some r):
 Calls P 81 #[.agg cs.toArray] W fun e W'=>e=.returned (.bool r)/\Below W.heap.size W W':=by
 refine(hs.2 F W t [.agg cs.toArray] [] r hr ⟨cs,rfl,Ka ht⟩ List.nodup_nil (fun b h=>by simp at h) hF).mono fun e w' ⟨rv,F',G',e1,c⟩=> ?_
 obtain⟨vs,e2,q1,_⟩:=c.data
 have q1:vs=[.bool r]:=q1
 subst e2 q1
 exact⟨by rw[e1];rfl,c.wo.1,c.wo.2.1,c.wo.2.2.1,c.size,fun k hk=>c.lV k hk (by simp)⟩
theorem FH{A B:World}{row:Option Nat}{k B0:Nat}{cs:Array Value}{e:TypeId}{fz:Nat×Nat}(h:A.heap[k]?=some (.cells cs e fz))(hg:A.grownBy B row)(hr:∀r,row=some r->B0<=r/\∃o:Obj,A.heap[r]?=some o/\o.isCells=false):B.heap[k]?=some (.cells cs e fz):=
 (hg.block k (Array.getElem?_eq_some_iff.1 h).1 (fun e=>by obtain⟨_,o,h1,h2⟩:=hr k e.symm;rw[h]at h1;cases h1;cases h2)).trans h
theorem Af{tmps:Array Value}{X:Nat}{w:World}{b:Bool}(h2:tmps.getD 2 undef=.pointer (some ⟨X,0,none⟩))(hc:w.cell? ⟨X,0,none⟩=some (.bool b)):(results Tryz.f51 tmps).run Tryz.prog w=.ok (.bool b) w:=by
 have ha:(isAgg 4).run Tryz.prog w=.ok false w:=by simp[isAgg,go_sem]
 have h2':tmps[2]?.getD undef=.pointer (some ⟨X,0,none⟩):=by simpa using h2
 simp[results,h2',asAddr,loadVar,Sem.run_bind,ha,Go.run_load,hc]
theorem Du{W:World}{D:Nat}{o:Obj}{X:Nat}{u:Value}(h:W.cell? ⟨X,0,none⟩=some u)(hne:X≠D):(W.putObj D o).cell? ⟨X,0,none⟩=some u:=by
 have:(W.putObj D o).heap[X]?=W.heap[X]?:=World.putObj_heap_other hne
 simp only[World.cell?,this]at h⊢
 exact h
set_option maxHeartbeats 4000000 in
theorem JG(n:Nat)(hn:5<=n){d:Bool}{L:Nat}(hL:5000<L)(hM:L<=4611686018427387904)(hsnd:dU d Tryz.prog 81 (P7 L)){F:Fz}{w:World}(hF:∀b arr,F b=some arr->∃el fr,w.heap[b]?=some (.cells arr el fr)){t0:Tm}{cs:List Value}(ht:DR F TT t0 cs){b:Bool}(hb0:a2M L t0=some b):
 CallsIn Fence.wide n Tryz.prog 51 #[.agg cs.toArray] w fun e w'=>e=.returned (.bool b)/\Below w.heap.size w w':=by
 have h1:1<=n:=by omega
 have hX:∀k,F (w.heap.size+k)=none:=fun k=>by
  cases e:F (w.heap.size+k)with
  |none=>rfl
  |some arr=>
   obtain⟨el,fr,hg⟩:=hF _ _ e
   have:=(Array.getElem?_eq_some_iff.1 hg).1
   omega
 obtain⟨T,hT⟩:∃T,T=Mk t0:=⟨_,rfl⟩
 obtain⟨ys,hp,hall2⟩:=DR.cz (X:=w.heap.size+1) (hX 1) hF ht 1
 obtain⟨ys3,hp3,hall3⟩:=DR.cz (X:=w.heap.size+2+1) (hX 3) hF ht 1
 rw[<-hT]at hp hp3
 obtain⟨o,v,A,k,c,rfl⟩:=hp.Ng
 obtain⟨r,hr⟩:∃r:Int,r=if ys.length<=600 then(ys.length:Int)else 601:=⟨_,rfl⟩
 have hyl:ys.length=t0.2.2.nds+1:=by rw[hall2.length,Gy];show t0.2.2.nds+1+0=_;omega
 have hyl3:ys3.length=ys.length:=by rw[hall3.length,hall2.length]
 have hnd:(zZ t0).nds=ys.length:=by rw[hyl];show t0.2.2.nds+1+0=_;omega
 have hv:=Mq (zZ t0) 1 (by omega)
 have hb1:b=(Nat.ble ys.length 600&&(zZ t0).AO 1):=by
  have hb0:some (Nat.ble (t0.2.2.nds+1) 600&&Nat.ble 1 60&&a3d t0.1 t0.2.1 t0.2.2&&t0.2.2.AO 2)=some b:=hb0
  have:=Option.some.inj hb0
  rw[<-this,hyl]
  show _=(_&&(Nat.ble 1 60&&a3d t0.1 t0.2.1 t0.2.2&&t0.2.2.AO 2&&true))
  simp only[Bool.and_assoc,Bool.and_true]
 have hF2:600<ys.length->b=false:=fun h=>by
  rw[hb1]
  cases e:Nat.ble ys.length 600 with
  |false=>rfl
  |true=>have:=Nat.le_of_ble_eq_true e;omega
 have hF3:ys.length<=600->b=true->∀q∈(zZ t0).vN 1,q.2<=60/\a3d q.1.1 q.1.2.1 q.1.2.2=true:=fun h6 e=>by
  rw[hb1,Bool.and_eq_true]at e
  exact hv.1 e.2
 have hF4:ys.length<=600->(∀q∈(zZ t0).vN 1,q.2<=60/\a3d q.1.1 q.1.2.1 q.1.2.2=true)->b=true:=fun h6 h=>by
  rw[hb1,Nat.ble_eq_true_of_le h6,hv.2 h];rfl
 have htr:∀x∈ys,∃o v A n c,x.2.1=[.int .i64 o,.int .i64 v,.slice A n c]:=fun x hx=>by
  obtain⟨p,_,_,_,hd⟩:=hall2.Lh x hx
  obtain⟨sl,e,_,_,A,c,hs,_⟩:=a3R.1 hd
  exact⟨_,_,_,_,_,by rw[e,hs]⟩
 have htr':∀x∈ys,∃q,q∈(zZ t0).vN 1/\x.1=Mk q.1/\x.2.2=q.2/\DR F TT q.1 x.2.1:=fun x hx=>by
  obtain⟨p,h1,h2⟩:=hall2.Lh x hx
  exact⟨p,h1,h2⟩
 have hall:∀p∈(zZ t0).vN 1,∃x∈ys,x.1=Mk p.1/\x.2.2=p.2:=fun p hp=>by
  obtain⟨x,h1,h2⟩:=hall2.Li p hp
  exact⟨x,h1,h2.1,h2.2.1⟩
 clear hall2 hall3 hb1 hb0 hv ht hyl
 refine callsIn_of_wp_marks Tryz.func51 rfl trivial ?_ rfl
 simp only[Tryz.ntmps51,List.size_toArray,List.length_cons,List.length_nil,Nat.reduceAdd,Nat.reduceSub,Array.replicate_succ,Array.replicate_zero,List.push_toArray,List.append_toArray,List.nil_append,List.cons_append]
 gi_wp2
 obtain⟨WA,hWA⟩:∃WA,WA=w.alloc (.cells #[.int .i64 o,.int .i64 v,.slice A k c] 28):=⟨_,rfl⟩
 have hsA:WA.heap.size=w.heap.size+1:=by rw[hWA];simp
 have hkA:KC (w.heap.size+1) w WA:=by rw[hWA];exact KC.alloc _ _
 have hbA:Below w.heap.size w WA:=by rw[hWA];exact(Below.refl _ w).alloc (Nat.le_refl _) _
 have hs:=yV WA (.bool false) 4
 have hnA:WA.heap[w.heap.size]?=some (.cells #[.int .i64 o,.int .i64 v,.slice A k c] 28 (0,0)):=by rw[hWA];exact World.alloc_heap_new w _
 obtain⟨WB,hWB⟩:∃WB,WB=WA.alloc (.cells #[.bool false] 4):=⟨_,rfl⟩
 have hsB:WB.heap.size=w.heap.size+2:=by rw[hWB];simp[hsA]
 have hkB:KC (w.heap.size+1) w WB:=by rw[hWB];exact hkA.trans (KC.alloc _ _)
 have hbB:Below w.heap.size w WB:=by rw[hWB];exact hbA.alloc hbA.size _
 have hnB:WB.heap[w.heap.size]?=some (.cells #[.int .i64 o,.int .i64 v,.slice A k c] 28 (0,0)):=by rw[hWB];exact(Below.heap_alloc _ _ _ (by omega)).trans hnA
 rw[<-hWB,hsA]at hs
 rw[<-hWA,<-hWB]
 clear hWA hWB
 refine⟨trivial,(JD (n-1) (by omega) T [.int .i64 o,.int .i64 v,.slice A k c] ys3 WB (by
  rw[hsB];exact hp3.ff (KC.below hbB)) r (by rw[hyl3];exact hr)).mono ?_⟩
 rintro e W1 ⟨rfl,hb1⟩
 have hb1':Below w.heap.size w W1:=hbB.trans (hb1.mono hbB.size)
 have hn1:W1.heap[w.heap.size]?=some (.cells #[.int .i64 o,.int .i64 v,.slice A k c] 28 (0,0)):=(hb1.block _ (by omega)).trans hnB
 have hc1:W1.cell? ⟨w.heap.size+1,0,none⟩=some (.bool false):=(hb1.cell (p:=⟨w.heap.size+1,0,none⟩) (by show w.heap.size+1<_;omega)).trans hs.1
 have hf1:W1.frozen? ⟨w.heap.size+1,0,none⟩=false:=by
  have:=hb1.block (w.heap.size+1) (by omega)
  have h2:=hs.2
  simp only[World.frozen?]at h2⊢
  rw[this];exact h2
 have d0:W1.cell? ⟨w.heap.size,0,none⟩=some (.int .i64 o):=a3u hn1 rfl
 have d1:W1.cell? ⟨w.heap.size,1,none⟩=some (.int .i64 v):=a3u hn1 rfl
 have d2:W1.cell? ⟨w.heap.size,2,none⟩=some (.slice A k c):=a3u hn1 rfl
 have hcl1:w.heap.size+1<W1.heap.size:=a3M hc1
 by_cases h6:ys.length<=600
 ·rw[if_pos h6]at hr
  have hr6:¬r>600:=by omega
  gi_wp2
  refine⟨trivial,(Ei (n-1) o v A k c _).mono ?_⟩
  rintro e w' ⟨rfl,rfl⟩
  gi_wp2
  obtain⟨WC,hWC⟩:∃WC,WC=W1.alloc (.cells #[.int .i64 o,.int .i64 v,.slice A k c] 28):=⟨_,rfl⟩
  have hsC:WC.heap.size=W1.heap.size+1:=by rw[hWC];simp
  have hbC:Below w.heap.size w WC:=by rw[hWC];exact hb1'.alloc hb1'.size _
  have hkC:KC (w.heap.size+1) w WC:=KC.below hbC
  have hcC:=rj (.cells #[.int .i64 o,.int .i64 v,.slice A k c] 28) hc1
  have hfC:=pq (.cells #[.int .i64 o,.int .i64 v,.slice A k c] 28) hc1 hf1
  have hnC:WC.heap[W1.heap.size]?=some (.cells #[.int .i64 o,.int .i64 v,.slice A k c] 28 (0,0)):=by rw[hWC];exact World.alloc_heap_new W1 _
  rw[<-hWC]at hcC hfC
  rw[<-hWC]
  clear hWC
  refine wpIn_rangeFunc_ownH rfl h1 (gf:=122) (lb:= #[.pointer (some ⟨W1.heap.size,0,none⟩)]) rfl trivial (Go.Proofs.enters_of Tryz.func122 (by kernel_rfl) rfl)
   (w8 (n-1) (w.heap.size+1) W1.heap.size T [.int .i64 o,.int .i64 v,.slice A k c] ys WC (fun j u hj=>a3u hnC (by simpa using hj)) (by omega) (hp.ff hkC)) KC.trans
   (fun W l o o' h1 h2 h3 h4=>⟨rfl,rfl,rfl,by simp,fun k cs e fz hk hc=>(World.putObj_heap_other (fun e=>by subst e;rw[h2]at hc;cases hc;cases h3)).trans hc⟩) (Below.refl _ _) (fun _=>rfl)
   (fun cz W=>(∃u,W.cell? ⟨w.heap.size+1,0,none⟩=some u)/\W.frozen? ⟨w.heap.size+1,0,none⟩=false/\Below w.heap.size w W/\∀x∈cz,x.1.2.2<=60/\∀r:Tm,x.1.1=Mk r->a3d r.1 r.2.1 r.2.2=true)
   (fun c cz W=>c=.ret/\W.cell? ⟨w.heap.size+1,0,none⟩=some (.bool false)/\Below w.heap.size w W/\b=false)
   (fun s A B row hs hg hr=>⟨hs.1.imp fun u h=>cell_kept h hg (fun r e=>(hr r e).2),(frozen_kept hs.1.choose_spec hg (fun r e=>(hr r e).2)).trans hs.2.1,hs.2.2.1.grown hg hs.2.2.1.size (fun k e=>by have:=(hr k e).1;omega),hs.2.2.2⟩)
   (fun c s A B row hs hg hr=>⟨hs.1,cell_kept hs.2.1 hg (fun r e=>(hr r e).2),hs.2.2.1.grown hg hs.2.2.1.size (fun k e=>by have:=(hr k e).1;omega),hs.2.2.2⟩)
   ⟨⟨_,hcC⟩,hfC,hbC,by simp⟩
   (fun x a' W=>∃p,a'={tmps:= #[.agg #[.int .i64 o,.int .i64 v,.slice A k c],.pointer (some ⟨w.heap.size,0,none⟩),.pointer (some ⟨w.heap.size+1,0,none⟩),.pointer (some ⟨p,0,none⟩),.int .i64 x.1.2.2,.agg #[.int .i64 o,.int .i64 v,.slice A k c],
     .int .i64 (ys.length:Nat),.bool (decide (600<(ys.length:Int))),.agg #[.int .i64 o,.int .i64 v,.slice A k c],.func (.func 122) #[] #[.pointer (some ⟨W1.heap.size,0,none⟩)],.agg x.1.2.1.toArray,.int .i64 x.1.2.2,undef,undef,undef,undef,undef,undef,undef],defers:=[]}/\W.heap[p]?=some (.cells x.1.2.1.toArray 28 (0,0)))
   (fun x a' s A B row hs hg hr=>by obtain⟨p,h1,h2⟩:=hs;exact⟨p,h1,FH h2 hg hr⟩) ?assign ?body ?done ?stop
  case assign=>
   rintro l cz ⟨⟨t,cs,d⟩,hxm⟩ W K hI hK
   obtain⟨o',v',A',k',c',hcs⟩:=htr _ hxm
   simp only at hcs
   subst hcs
   obtain⟨⟨u,hu⟩,hf,hb,hg⟩:=hI
   have hnew:(W.alloc (.cells #[.int .i64 o',.int .i64 v',.slice A' k' c'] 28)).heap[W.heap.size]?=some (.cells #[.int .i64 o',.int .i64 v',.slice A' k' c'] 28 (0,0)):=World.alloc_heap_new W _
   have hK2:=hK _ _ ((KeepsOthers.alloc W (.cells #[.int .i64 o',.int .i64 v',.slice A' k' c'] 28)).from _) (KC.alloc W _) ⟨⟨u,rj _ hu⟩,pq _ hu hf,hb.alloc hb.size _,hg⟩ ⟨W.heap.size,rfl,hnew⟩
   clear hK hnew
   simp only[Kj]
   gi_wp2
   exact hK2
  case body=>
   rintro l cz ⟨⟨t,cs,d⟩,hxm⟩ a' W hlw _ ⟨⟨u,hu⟩,hf,hb,hg⟩ ⟨p,rfl,hp⟩ hlt
   obtain⟨o',v',A',k',c',hcs⟩:=htr _ hxm
   simp only at hcs
   subst hcs
   obtain⟨q,hqm,hq1,hq2,hq3⟩:=htr' _ hxm
   have hq1:t=Mk q.1:=hq1
   have hq2:d=q.2:=hq2
   have hq3:DR F TT q.1 [.int .i64 o',.int .i64 v',.slice A' k' c']:=hq3
   obtain⟨rs,hrs⟩:∃rs,rs=a3d q.1.1 q.1.2.1 q.1.2.2:=⟨_,rfl⟩
   have hgood:rs=true->∀r:Tm,t=Mk r->a3d r.1 r.2.1 r.2.2=true:=fun e r hr=>by
    obtain rfl:=Ov (hq1.symm.trans hr)
    rw[<-hrs];exact e
   have hrb:b=true->d<=60/\rs=true:=fun e=>by
    have:=hF3 h6 e q hqm
    rw[hrs,hq2];exact this
   have p0:W.cell? ⟨p,0,none⟩=some (.int .i64 o'):=a3u hp rfl
   have p1:W.cell? ⟨p,1,none⟩=some (.int .i64 v'):=a3u hp rfl
   have p2:W.cell? ⟨p,2,none⟩=some (.slice A' k' c'):=a3u hp rfl
   have hul:w.heap.size+1<W.heap.size:=a3M hu
   clear hp hF2 hyl3 hp3
   by_cases h60:d>60
   ·clear hq1 hq2 hq3 hqm hF htr htr' hall hF3 hF4 hsnd hgood hrs
    have hb0:b=false:=by
     cases b with
     |false=>rfl
     |true=>exact absurd (hrb rfl).1 (by omega)
    have hc2:(W.setCell ⟨w.heap.size+1,0,none⟩ (.bool false)).cell? ⟨w.heap.size+1,0,none⟩=some (.bool false):=World.cell?_setCell_same' _ _ _ (by rw[hu];rfl)
    have hb2:=hb.setCell (p:=⟨w.heap.size+1,0,none⟩) (Nat.le_succ _) (.bool false)
    gi_wp2
    refine⟨trivial,?_⟩
    gi_wp2
    exact⟨(KeepsOthers.setCell _ _ _).from _,rfl,hc2,hb2,hb0⟩
   ·have hsc:=JS (ro:=some l) (n:=n-1-1-1) (EL hsnd (fun b arr h=>L1 hF hb h) hq3 (Ma hL hM (yD _ (by have:=Gz _ _ _ hqm;omega))))
    rw[<-hrs]at hsc
    clear hq1 hq2 hq3 hrs hqm hF htr htr' hall hF3 hF4 hsnd
    gi_wp2
    refine⟨trivial,fun h=>by simp[Fence.wide]at h,hsc.mono ?_⟩
    rintro e W2 ⟨rfl,hk2⟩
    have hb2:Below w.heap.size w W2:=⟨hk2.os.trans hb.os,hk2.tape.trans hb.tape,hk2.output.trans hb.output,Nat.le_trans hb.size hk2.size,fun k hk=>(hk2.block k (Nat.lt_of_lt_of_le hk hb.size)).trans (hb.block k hk)⟩
    have hu2:W2.cell? ⟨w.heap.size+1,0,none⟩=some u:=Ig (fun k hk=>hk2.block k hk) hu
    have hf2:W2.frozen? ⟨w.heap.size+1,0,none⟩=false:=by
     have:=hk2.block (w.heap.size+1) hul
     simp only[World.frozen?]at hf⊢
     rw[this];exact hf
    have hkf:KeepsFrom WC.heap.size W W2:=⟨hk2.size,fun k o _ hk _=>(hk2.block k (Array.getElem?_eq_some_iff.1 hk).1).trans hk⟩
    have hul2:w.heap.size+1<W2.heap.size:=a3M hu2
    cases rs with
    |true=>
     gi_wp2
     refine⟨hkf,⟨hk2.os,hk2.tape,hk2.output,hk2.size,fun k cs e fz _ hk=>(hk2.block k (Array.getElem?_eq_some_iff.1 hk).1).trans hk⟩,⟨u,hu2⟩,hf2,hb2,fun x hx=> ?_⟩
     rcases List.mem_append.1 hx with hx|hx
     ·exact hg x hx
     ·obtain rfl:=List.mem_singleton.1 hx
      exact⟨by show d<=60;omega,fun r hr=>hgood (by first|trivial|rfl) r hr⟩
    |false=>
     have hb0:b=false:=by
      cases b with
      |false=>rfl
      |true=>exact absurd (hrb rfl).2 (by simp)
     have hc2:(W2.setCell ⟨w.heap.size+1,0,none⟩ (.bool false)).cell? ⟨w.heap.size+1,0,none⟩=some (.bool false):=World.cell?_setCell_same' _ _ _ (by rw[hu2];rfl)
     have hb3:=hb2.setCell (p:=⟨w.heap.size+1,0,none⟩) (Nat.le_succ _) (.bool false)
     gi_wp2
     exact⟨hkf.trans ((KeepsOthers.setCell _ _ _).from _),rfl,hc2,hb3,hb0⟩
  case done=>
   rintro D zs W hD hzs ⟨⟨u,hu⟩,hf,hb,hg⟩ hK
   have hbt:b=true:=hF4 h6 fun p hp=>by
    obtain⟨x,hx,q1,q2⟩:=hall p hp
    rw[<-hzs]at hx
    obtain⟨z,hz,rfl⟩:=List.mem_map.1 hx
    have:=hg z hz
    exact⟨by rw[<-q2];exact this.1,this.2 _ q1⟩
   subst hbt
   have hc2:(W.setCell ⟨w.heap.size+1,0,none⟩ (.bool true)).cell? ⟨w.heap.size+1,0,none⟩=some (.bool true):=World.cell?_setCell_same' _ _ _ (by rw[hu];rfl)
   have hb2:=hb.setCell (p:=⟨w.heap.size+1,0,none⟩) (Nat.le_succ _) (.bool true)
   have hul:w.heap.size+1<W.heap.size:=a3M hu
   have hK2:=(Below.heap_setCell W ⟨w.heap.size+1,0,none⟩ (.bool true) D (by show D≠w.heap.size+1;omega)).trans hK
   gi_wp2
   refine⟨by simp,.inl ⟨_,_,rfl,run_takeDeferred hK2,?_⟩⟩
   have hX2:w.heap.size+1<D:=by omega
   exact⟨_,Af rfl (Du hc2 (by omega)),rfl,(hb2.grown (grownBy_putObj' _ _ _) hb2.size (fun k e=>by cases e;omega))⟩
  case stop=>
   rintro D c cz W hD hpre ⟨rfl,hc,hb,rfl⟩ hK
   gi_wp2
   refine⟨by simp,.inl ⟨_,_,rfl,run_takeDeferred hK,?_⟩⟩
   have hX2:w.heap.size+1<D:=by omega
   exact⟨_,Af rfl (Du hc (by omega)),rfl,(hb.grown (grownBy_putObj' _ _ _) hb.size (fun k e=>by cases e;omega))⟩
 ·rw[if_neg h6]at hr
  have hr6:r>600:=by omega
  obtain rfl:=hF2 (by omega)
  have hc2:(W1.setCell ⟨w.heap.size+1,0,none⟩ (.bool false)).cell? ⟨w.heap.size+1,0,none⟩=some (.bool false):=World.cell?_setCell_same' _ _ _ (by rw[hc1];rfl)
  have hb2:=hb1'.setCell (p:=⟨w.heap.size+1,0,none⟩) (Nat.le_succ _) (.bool false)
  gi_wp2
  exact⟨_,Af rfl hc2,rfl,hb2⟩
theorem Jb{d:Bool}{L:Nat}(hL:5000<L)(hM:L<=4611686018427387904)(hsnd:dU false Tryz.prog 81 (P7 L)):dU false Tryz.prog 51 (U1 L):=by
 refine⟨⟨Tryz.f51,Tryz.func51,by kernel_rfl,by kernel_rfl⟩,fun F w x vals G y hy hd hn hG hF=> ?_⟩
 obtain⟨cs,e1,hd⟩:=hd
 subst e1
 obtain⟨hdr,hg⟩:=DD.calm (t:=TT) rfl hd
 subst hg
 have:=callsIn_wide.1 (JG 5 (Nat.le_refl _) hL hM hsnd hF hdr hy)
 refine this.mono fun e w' ⟨h1,h2⟩=>⟨[.bool y],F,[],h1,⟨⟨[.bool y],rfl,rfl,rfl⟩,Fz.le_refl F,List.nodup_nil,fun b h=>by simp at h,fun b h1 h2=>absurd h2 h1,fun b arr h=>L1 hF h2 h,⟨h2.os,h2.tape,h2.output,fun e=>by cases e⟩,h2.size,fun b hb _=>h2.block b hb⟩⟩
end Go.Proofs.YtehbbcdhahnkgaaGreat.Vm
