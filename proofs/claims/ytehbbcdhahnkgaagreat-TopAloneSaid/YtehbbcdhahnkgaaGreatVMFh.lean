/- Plain functions. The table of types and functions. Contracts. -/
import Derived.Test.YtehbbcdhahnkgaaGreatVMFe
import Derived.Test.YtehbbcdhahnkgaaGreatProg
import Derived.KernelRfl
set_option linter.all false
set_option maxRecDepth 100000
set_option maxHeartbeats 0
namespace Go.Proofs.YtehbbcdhahnkgaaGreat.Vm
open Go
noncomputable section
def nR(L:Nat)(l:(List Int))(n:Int)(x0:Int)(s t pr sp tp:Int):Option (Int×Clear):=
 bif aH x0 1 then
  (bj L l n 16).bind fun y11=>
  some (y11.1,(a05.az (bZ:=(4,0,t)) (target:=(4,0,s)) (aR:=pr) (aK:=tp) (aO:=sp),y11.2))
 else
 (bj L l n 16).bind fun y11=>
 some (y11.1,(a05.az (bZ:=(4,0,s)) (target:=(4,0,t)) (aR:=pr) (aK:=sp) (aO:=tp),y11.2))
def qv(L:Nat)(l:(List Int))(n:Int)(x0:Int)(s t pr:Int):Option (Int×Clear):=
 (bj L l n 4).bind fun y8=>
 (bj L l y8.1 3).bind fun y9=>
 (bj L l y9.1 6).bind fun y10=>
 bif aH y10.2 5 then nR L l y10.1 x0 s t pr (-1) (-1)else
 nR L l y10.1 x0 s t pr (add 1024 y8.2) (add 80 (mul y9.2 8))
def a5a(L:Nat)(l:(List Int))(n:Int)(x0:Int)(s t pr:Int):Option (Int×Clear):=
 bif aH pr 6 then qv L l n x0 s t pr else
 bif aH pr 17 then qv L l n x0 s t pr else
 nR L l n x0 s t pr (-1) (-1)
def qu(L:Nat)(l:(List Int))(n:Int)(x0:Int)(s t:Int):Option (Int×Clear):=
 (bj L l n 4).bind fun y7=>
 aJ (!(aF y7.2 0))<|
 aJ (Nat.blt y7.2.toNat 4)<|
 a5a L l y7.1 x0 s t ([6,6,17,1].getD y7.2.toNat 0)
def pS(L:Nat)(l:(List Int))(n:Int)(x0:Int):Option (Int×Clear):=
 (bj L l n 6).bind fun y4=>
 (bj L l y4.1 6).bind fun y5=>
 (bj L l y5.1 8).bind fun y6=>
 bif aH y6.2 7 then qu L l y6.1 x0 (wM .u64 (wM .u64 167772160 (aY .u64 y4.2)) 268435456) (wM .u64 3232235520 (aY .u64 y5.2))else
 qu L l y6.1 x0 (wM .u64 167772160 (aY .u64 y4.2)) (wM .u64 3232235520 (aY .u64 y5.2))
def pQ(L:Nat)(l:(List Int))(n:Int)(x0 w k:Int):Option (Int×cL):=
 bif aF k 6 then
  (pS L l n x0).bind fun y7=>
  some (y7.1,(2,(0,0,(0,0,TL.nil)),y7.2,w))
 else
 bif aF k 8 then some (n,(5,(0,0,(0,0,TL.nil)),(a05.az,0),w))else
 bif aF k 10 then some (n,(7,(0,0,(0,0,TL.nil)),(a05.az,0),w))else
 bif aH k 10 then some (n,(6,(0,0,(0,0,TL.nil)),(a05.az,0),w))else
 bif aH k 11 then some (n,(10,(0,0,(0,0,TL.nil)),(a05.az,0),w))else
 bif aH k 12 then some (n,(8,(0,0,(0,0,TL.nil)),(a05.az,0),w))else
 bif aH k 13 then
  (bj L l n 2).bind fun y7=>
  aJ (!(aF y7.2 0))<|
  aJ (Nat.blt y7.2.toNat 2)<|
  some (y7.1,([9,13].getD y7.2.toNat 0,(0,0,(0,0,TL.nil)),(a05.az,0),w))
 else
 bif aH k 14 then
  (bj L l n 5).bind fun y7=>
  aJ (!(aF y7.2 0))<|
  aJ (Nat.blt y7.2.toNat 5)<|
  some (y7.1,(11,(0,0,(0,0,TL.nil)),(a05.az,0),[1,2,5,6,7].getD y7.2.toNat 0))
 else
 (pS L l n (sub 1 x0)).bind fun y7=>
 (bj L l y7.1 3).bind fun y8=>
 bif aH y8.2 2 then
  (bj L l y8.1 4).bind fun y9=>
  aJ (!(aF y9.2 0))<|
  aJ (Nat.blt y9.2.toNat 4)<|
  some (y9.1,(12,(0,0,(0,0,TL.nil)),y7.2,[0,0,1,2].getD y9.2.toNat 0))
 else
 some (y8.1,(3,(0,0,(0,0,TL.nil)),y7.2,w))
def ux(L:Nat)(l:(List Int))(n:Int)(x0:Int)(x1:Bool):Option (Int×cL):=
 (bj L l n 4).bind fun y5=>
 (bj L l y5.1 16).bind fun y6=>
 bif x1 then
  bif !(aF y6.2 12)then pQ L l y6.1 x0 y5.2 (sub y6.2 12)else pQ L l y6.1 x0 y5.2 y6.2
 else
 pQ L l y6.1 x0 y5.2 y6.2
def vr(L:Nat)(l:(List Int))(n:Int)(f t:Int)(x o:Tm):Option (Int×aj):=
 (bj L l n 3).bind fun y10=>
 bif aF 0 y10.2 then
  bif aH x.op 3 then
   bif aF 0 (TL.len x.args:Int)then
    aJ (room x.args.len 40)<|
    (bj L l y10.1 (TL.len x.args:Int)).bind fun y11=>
    aJ (!(aF y11.2 0))<|
    aJ (Nat.blt y11.2.toNat x.args.len)<|
    bif aH (Tm.op (TL.get x.args y11.2.toNat)) 1 then
     aJ (!(aF y11.2 0))<|
     aJ (Nat.blt y11.2.toNat x.args.len)<|
     (bj L l y11.1 3).bind fun y12=>
     aJ (!(aF y11.2 0))<|
     aJ (Nat.blt y11.2.toNat x.args.len)<|
     some (y12.1,(f,t,(Tm.op x,Tm.val x,TL.set x.args y11.2.toNat (Tm.op (TL.get x.args y11.2.toNat),add (Tm.val (TL.get x.args y11.2.toNat)) (sub y12.2 1),Tm.args (TL.get x.args y11.2.toNat)))))
    else
    bif aH o.op 3 then
     bif aF y11.2 (TL.len o.args:Int)then
      aJ (!(aF y11.2 0))<|
      aJ (Nat.blt y11.2.toNat o.args.len)<|
      aJ (!(aF y11.2 0))<|
      aJ (Nat.blt y11.2.toNat x.args.len)<|
      some (y11.1,(f,t,(Tm.op x,Tm.val x,TL.set x.args y11.2.toNat (TL.get o.args y11.2.toNat))))
     else
     some (y11.1,(f,t,x))
    else
    some (y11.1,(f,t,x))
   else
   some (y10.1,(f,t,x))
  else
  some (y10.1,(f,t,x))
 else
 some (y10.1,(f,t,x))
def nv(L:Nat)(l:(List Int))(n:Int)(x0:ai):Option (Int×aj):=
 (bj L l n 3).bind fun y4=>
 (bj L l y4.1 2).bind fun y5=>
 bif aH (TL.len x0.seen:Int) 0 then some (y5.1,(add 1 y4.2,add 1 y5.2,(0,0,TL.nil)))else
 (bj L l y5.1 256).bind fun y6=>
 (bj L l y6.1 256).bind fun y7=>
 aJ (!(aH (TL.len x0.seen:Int) 0))<|
 aJ (!(aF (rem (EZ .i64 (shl y6.2 8) y7.2) (TL.len x0.seen:Int)) 0))<|
 aJ (Nat.blt (Int.toNat (rem (EZ .i64 (shl y6.2 8) y7.2) (TL.len x0.seen:Int))) x0.seen.len)<|
 (bj L l y7.1 256).bind fun y8=>
 (bj L l y8.1 256).bind fun y9=>
 aJ (!(aH (TL.len x0.seen:Int) 0))<|
 aJ (!(aF (rem (EZ .i64 (shl y8.2 8) y9.2) (TL.len x0.seen:Int)) 0))<|
 aJ (Nat.blt (Int.toNat (rem (EZ .i64 (shl y8.2 8) y9.2) (TL.len x0.seen:Int))) x0.seen.len)<|
 vr L l y9.1 (add 1 y4.2) (add 1 y5.2) (TL.get x0.seen (Int.toNat (rem (EZ .i64 (shl y6.2 8) y7.2) (TL.len x0.seen:Int)))) (TL.get x0.seen (Int.toNat (rem (EZ .i64 (shl y8.2 8) y9.2) (TL.len x0.seen:Int))))
def a3P(L:Nat)(l:(List Int))(n:Int)(x0:ai)(x1:Bool):Option (Int×a0g):=
 (bj L l n 64).bind fun y5=>
 aJ (!(aH (eN 1 (x0.a06.length:Int)) 0))<|
 (bj L l y5.1 2).bind fun y6=>
 (bj L l y6.1 20).bind fun y7=>
 bif aF y7.2 7 then
  some (y7.1,a0g.az (kind:=1) (place:=rem y5.2 (eN 1 (x0.a06.length:Int))) (gB:=y6.2))
 else
 bif aF y7.2 9 then
  some (y7.1,a0g.az (kind:=8) (place:=rem y5.2 (eN 1 (x0.a06.length:Int))) (gB:=y6.2))
 else
 bif aF y7.2 15 then
  (ux L l y7.1 y6.2 false).bind fun y8=>
  some (y8.1,a0g.az (kind:=7) (place:=rem y5.2 (eN 1 (x0.a06.length:Int))) (gB:=y6.2) (nD:=y8.2))
 else
 bif aH y7.2 15 then
  some (y7.1,a0g.az (kind:=2) (place:=rem y5.2 (eN 1 (x0.a06.length:Int))) (gB:=y6.2))
 else
 bif aH y7.2 16 then
  some (y7.1,a0g.az (kind:=3) (place:=rem y5.2 (eN 1 (x0.a06.length:Int))) (gB:=y6.2))
 else
 bif !x1 then
  some (y7.1,a0g.az (kind:=1) (place:=rem y5.2 (eN 1 (x0.a06.length:Int))) (gB:=y6.2))
 else
 bif aH y7.2 17 then
  (bj L l y7.1 2).bind fun y8=>
  aJ (!(aF y8.2 0))<|
  aJ (Nat.blt y8.2.toNat 2)<|
  (bj L l y8.1 7).bind fun y9=>
  some (y9.1,a0g.az (kind:=[4,5].getD y8.2.toNat 0) (place:=rem y5.2 (eN 1 (x0.a06.length:Int))) (gB:=y6.2) (fm:=(add 1 y9.2,0,(0,0,TL.nil))))
 else
 bif aH y7.2 18 then
  (nv L l y7.1 x0).bind fun y8=>
  some (y8.1,a0g.az (kind:=6) (place:=rem y5.2 (eN 1 (x0.a06.length:Int))) (gB:=y6.2) (fm:=y8.2))
 else
 (bj L l y7.1 4).bind fun y8=>
 aJ (!(aF y8.2 0))<|
 aJ (Nat.blt y8.2.toNat 4)<|
 some (y8.1,a0g.az (kind:=9) (place:=[0,0,5,6].getD y8.2.toNat 0) (gB:=y6.2))
def pR(L:Nat)(x0:ai):Option Bool:=
 bif aF 4 ((aa.aW x0.bG.1).length:Int)then some false else
 bif aF 16 ((aa.u4 x0.bG.1).length:Int)then some false else
 bif aF 28 ((aa.af x0.bG.1).length:Int)then some false else
 bif aF 2 ((aa.cu x0.bG.1).length:Int)then some false else
 bif aF 4 ((aa.aW x0.bG.2).length:Int)then some false else
 bif aF 16 ((aa.u4 x0.bG.2).length:Int)then some false else
 bif aF 28 ((aa.af x0.bG.2).length:Int)then some false else
 bif aF 2 ((aa.cu x0.bG.2).length:Int)then some false else
 some (!(aF 60 (x0.a06.length:Int)))
def a4T(L:Nat)(n:ai)(rr:(List aQ)×(List aQ))(l:List Int)(x2:Bool):Option (ai×((List aQ)×(List aQ))×Bool):=
 (iter (Y:=((ai×ai×((List aQ)×(List aQ))×a2R)⊕(Bool×ai×((List aQ)×(List aQ))))) 8006 (fun r5:(Int×ai×ai×((List aQ)×(List aQ))×a2R)=>
   (gN L r5.2.2.2.2.a01 r5.2.2.2.2.at_).bind fun y6=>
   bif y6.2 then
    bif aF r5.1 90 then
     (a3P L r5.2.2.2.2.a01 y6.1 r5.2.1 x2).bind fun y7=>
     (eS L r5.2.1 y7.2).bind fun y8=>
     bif aH y8.2 0 then
      (pR L y8.1).bind fun y9=>
      bif !y9 then some (.inr (.inr (false,y8.1,rr)))else
      some (.inl (add r5.1 1,y8.1,r5.2.2.1,r5.2.2.2.1,a2R.oe r5.2.2.2.2 y7.1))
     else
     (pR L r5.2.1).bind fun y9=>
     bif !y9 then some (.inr (.inr (false,r5.2.1,rr)))else
     some (.inl (add r5.1 1,r5.2.1,r5.2.2.1,r5.2.2.2.1,a2R.oe r5.2.2.2.2 y7.1))
    else
    some (.inr (.inl (r5.2.1,r5.2.2.1,r5.2.2.2.1,a2R.oe r5.2.2.2.2 y6.1)))
   else
   some (.inr (.inl (r5.2.1,r5.2.2.1,r5.2.2.2.1,a2R.oe r5.2.2.2.2 y6.1)))) L (0,n,ai.az,([],[]),(l,0))).bind fun y5=>
 match y5 with
 | .inl y6=>some (y6.1,rr,true)
 | .inr y6=>some (y6.2.1,y6.2.2,y6.1)
def si(L:Nat)(x0:(List Int))(x1:(List Int))(x2:Bool):Option (ai×((List aQ)×(List aQ))×Bool):=
 (qZ L x0 0).bind fun y4=>
 bif !y4.2.2.2 then some (y4.2.1,y4.2.2.1,false)else
 bif aF 300 (x1.length:Int)then
  aJ (Nat.ble 300 x1.length)<|
  a4T L y4.2.1 y4.2.2.1 (List.drop 0 (List.take 300 x1)) x2
 else
 a4T L y4.2.1 y4.2.2.1 x1 x2
def u6(L:Nat)(x0:(List Int))(x1:(List Int))(x2:Bool):Option (ai×((List aQ)×(List aQ))×Bool):=
 bif aF 10 (x0.length:Int)then
  aJ (Nat.ble 10 x0.length)<|
  si L (List.drop 0 (List.take 10 x0)) x1 x2
 else
 si L x0 x1 x2
def sX(a b:Clear):Bool:=(aH a.bf.bZ.bx b.bf.bZ.bx)&&((aH a.bf.bZ.hi b.bf.bZ.hi)&&((aH a.bf.bZ.lo b.bf.bZ.lo)&&((aH a.bf.target.bx b.bf.target.bx)&&((aH a.bf.target.hi b.bf.target.hi)&&((aH a.bf.target.lo b.bf.target.lo)&&((aH a.bf.aR b.bf.aR)&&((aH a.bf.aK b.bf.aK)&&((aH a.bf.aO b.bf.aO)&&((aH a.iD b.iD)&&true)))))))))
def r9(L:Nat)(x0:(List aS))(x1:Int)(x2:Clear):Option Int:=
 (iter (Y:=Int) 16003 (fun r4:(Int×Int)=>
   bif aF r4.2 (x0.length:Int)then
    aJ (!(aF r4.2 0))<|
    aJ (Nat.blt r4.2.toNat x0.length)<|
    bif aH (aS.gB (x0.getD r4.2.toNat aS.az)) x1 then
     aJ (!(aF r4.2 0))<|
     aJ (Nat.blt r4.2.toNat x0.length)<|
     bif sX (aS.clear (x0.getD r4.2.toNat aS.az)) x2 then some (.inl (add r4.1 1,add r4.2 1))else
     some (.inl (r4.1,add r4.2 1))
    else
    some (.inl (r4.1,add r4.2 1))
   else
   some (.inr r4.1)) L (0,0)).bind fun y4=>
 some y4
def kU(L:Nat)(x0:a05)(x1:Bool):Option a05:=
 bif x1 then some x0 else
 some (a05.az (bZ:=x0.target) (target:=x0.bZ) (aR:=x0.aR) (aK:=x0.aO) (aO:=x0.aK))
def pI(L:Nat)(x0:Address)(x1:Address):Option Bool:=
 bif !(aH x0.bx x1.bx)then some (aF x0.bx x1.bx)else
 bif !(aH x0.hi x1.hi)then some (aF x0.hi x1.hi)else
 some (aF x0.lo x1.lo)
def j8(L:Nat)(x0:Address)(x1:Address)(x2:Address):Option Bool:=
 bif aH x0.bx x1.bx then
  (pI L x0 x1).bind fun y4=>
  bif !y4 then
   (pI L x2 x0).bind fun y5=>
   some !y5
  else
  some false
 else
 some false
def dJ(L:Nat)(x0:aU)(x1:a05)(x2:Bool):Option Bool:=
 (kU L x1 x2).bind fun y4=>
 (j8 L y4.bZ x0.a0c x0.cB).bind fun y5=>
 bif y5 then
  (j8 L y4.target x0.bU x0.bT).bind fun y6=>
  bif y6 then
   bif !(aF y4.aR x0.de)then
    bif !(aF x0.a0m y4.aR)then
     bif !(aF y4.aK (x0.aL.1))then
      bif !(aF (x0.aL.2) y4.aK)then
       bif !(aF y4.aO (x0.aI.1))then some (!(aF (x0.aI.2) y4.aO))else
       some false
      else
      some false
     else
     some false
    else
    some false
   else
   some false
  else
  some false
 else
 some false
def rT(L:Nat)(x0:(List aQ))(x1:a05)(x2:Bool):Option (Int×Bool):=
 (iter (Y:=(Unit⊕(Int×Bool))) 43002 (fun r4:Int=>
   bif aF r4 (x0.length:Int)then
    (iter (Y:=(Unit⊕(Int×Bool))) 43005 (fun r5:Int=>
      aJ (!(aF r4 0))<|
      aJ (Nat.blt r4.toNat x0.length)<|
      bif aF r5 ((aQ.cI (x0.getD r4.toNat aQ.az)).length:Int)then
       aJ (!(aF r4 0))<|
       aJ (Nat.blt r4.toNat x0.length)<|
       aJ (!(aF r5 0))<|
       aJ (Nat.blt r5.toNat ((aQ.cI (x0.getD r4.toNat aQ.az)).length))<|
       (dJ L ((aQ.cI (x0.getD r4.toNat aQ.az)).getD r5.toNat aU.az) x1 x2).bind fun y6=>
       bif y6 then some (.inr (.inr (r4,true)))else
       some (.inl (add r5 1))
      else
      some (.inr (.inl ()))) L 0).bind fun y5=>
    match y5 with
    | .inl y6=>
      some (.inl (add r4 1))
    | .inr y6=>
      some (.inr (.inr y6))
   else
   some (.inr (.inl ()))) L 0).bind fun y4=>
 match y4 with
 | .inl y5=>
   some (0,false)
 | .inr y5=>
   some y5
def oJ(L:Nat)(x0:a05):Option Bool:=
 bif aH x0.aR 6 then
  bif aH x0.aK (-1)then some true else
  some (aH x0.aO (-1))
 else
 bif aH x0.aR 17 then
  bif aH x0.aK (-1)then some true else
  some (aH x0.aO (-1))
 else
 bif aH x0.aR 1 then some (aH x0.aK (-1))else
 bif aH x0.aR 58 then some (aH x0.aK (-1))else
 some false
def rU(L:Nat)(x0:aU)(x1:a05)(x2:Bool):Option Bool:=
 bif aH x1.aO (-1)then
  bif aH x1.aR 6 then
   (kU L x1 x2).bind fun y4=>
   bif !x2 then
    bif aH x1.aK (-1)then
     (dJ L x0 (a05.bw y4 (aK:=eN 0 (x0.aL.2)) (aO:=eN 0 (x0.aI.2))) true).bind fun y5=>
     some y5
    else
    (dJ L x0 (a05.dz y4 (eN 0 (x0.aL.2))) true).bind fun y5=>
    some y5
   else
   bif aH x1.aK (-1)then
    (dJ L x0 (a05.bw y4 (aK:=eN 0 (x0.aL.2)) (aO:=eN 0 (x0.aI.2))) true).bind fun y5=>
    some y5
   else
   (dJ L x0 (a05.dA y4 (eN 0 (x0.aI.2))) true).bind fun y5=>
   some y5
  else
  (kU L x1 x2).bind fun y4=>
  bif !x2 then
   bif aH x1.aR 17 then
    bif aH x1.aK (-1)then
     (dJ L x0 (a05.bw y4 (aK:=eN 0 (x0.aL.2)) (aO:=eN 0 (x0.aI.2))) true).bind fun y5=>
     some y5
    else
    (dJ L x0 (a05.dz y4 (eN 0 (x0.aL.2))) true).bind fun y5=>
    some y5
   else
   bif aH x1.aK (-1)then
    (dJ L x0 (a05.dA y4 (eN 0 (x0.aI.2))) true).bind fun y5=>
    some y5
   else
   (dJ L x0 y4 true).bind fun y5=>
   some y5
  else
  bif aH x1.aK (-1)then
   bif aH x1.aR 17 then
    (dJ L x0 (a05.bw y4 (aK:=eN 0 (x0.aL.2)) (aO:=eN 0 (x0.aI.2))) true).bind fun y5=>
    some y5
   else
   (dJ L x0 (a05.dz y4 (eN 0 (x0.aL.2))) true).bind fun y5=>
   some y5
  else
  bif aH x1.aR 17 then
   (dJ L x0 (a05.dA y4 (eN 0 (x0.aI.2))) true).bind fun y5=>
   some y5
  else
  (dJ L x0 y4 true).bind fun y5=>
  some y5
 else
 (kU L x1 x2).bind fun y4=>
 bif !x2 then
  bif aH x1.aK (-1)then
   (dJ L x0 (a05.dA y4 (eN 0 (x0.aI.2))) true).bind fun y5=>
   some y5
  else
  (dJ L x0 y4 true).bind fun y5=>
  some y5
 else
 bif aH x1.aK (-1)then
  (dJ L x0 (a05.dz y4 (eN 0 (x0.aL.2))) true).bind fun y5=>
  some y5
 else
 (dJ L x0 y4 true).bind fun y5=>
 some y5
def a34(L:Nat)(x0:(List aQ))(x1:a05)(x2:Bool)(m:Int)(y4:Int×Bool):Option (Int×Int):=
 (iter (Y:=(Unit⊕(Int×Int))) 28008 (fun r5:Int=>
   bif aF r5 m then
    (oJ L x1).bind fun y6=>
    bif y6 then
     (iter (Y:=(Unit⊕(Int×Int))) 28011 (fun r7:Int=>
       aJ (!(aF r5 0))<|
       aJ (Nat.blt r5.toNat x0.length)<|
       bif aF r7 ((aQ.cI (x0.getD r5.toNat aQ.az)).length:Int)then
        aJ (!(aF r5 0))<|
        aJ (Nat.blt r5.toNat x0.length)<|
        bif !(aH (aQ.cO (x0.getD r5.toNat aQ.az)) 1)then
         aJ (!(aF r5 0))<|
         aJ (Nat.blt r5.toNat x0.length)<|
         aJ (!(aF r7 0))<|
         aJ (Nat.blt r7.toNat ((aQ.cI (x0.getD r5.toNat aQ.az)).length))<|
         (rU L ((aQ.cI (x0.getD r5.toNat aQ.az)).getD r7.toNat aU.az) x1 x2).bind fun y8=>
         bif y8 then some (.inr (.inr (0,r5)))else
         some (.inl (add r7 1))
        else
        some (.inl (add r7 1))
       else
       some (.inr (.inl ()))) L 0).bind fun y7=>
     match y7 with
     | .inl _=>some (.inl (add r5 1))
     | .inr y8=>some (.inr (.inr y8))
    else
    some (.inr (.inl ()))
   else
   some (.inr (.inl ()))) L 0).bind fun y5=>
 match y5 with
 | .inl _=>
   bif !y4.2 then some (0,(-1))else
   aJ (!(aF y4.1 0))<|
   aJ (Nat.blt y4.1.toNat x0.length)<|
   some ((aQ.cO (x0.getD y4.1.toNat aQ.az)),y4.1)
 | .inr y6=>some y6
def qE(L:Nat)(x0:(List aQ))(x1:a05)(x2:Bool)(y4:Int×Bool):Option (Int×Int):=
 bif y4.2 then a34 L x0 x1 x2 y4.1 y4 else a34 L x0 x1 x2 (x0.length:Int) y4
def eL(L:Nat)(x0:(List aQ))(x1:a05)(x2:Bool):Option (Int×Int):=
 (rT L x0 x1 x2).bind fun y4=>
 bif y4.2 then
  aJ (!(aF y4.1 0))<|
  aJ (Nat.blt y4.1.toNat x0.length)<|
  bif !(aH (aQ.cO (x0.getD y4.1.toNat aQ.az)) 1)then
   aJ (!(aF y4.1 0))<|
   aJ (Nat.blt y4.1.toNat x0.length)<|
   some ((aQ.cO (x0.getD y4.1.toNat aQ.az)),y4.1)
  else
  qE L x0 x1 x2 y4
 else
 qE L x0 x1 x2 y4
def uy{α:Type}(x:(List aQ)×(List aQ))(i:Int)(f:List aQ->Option α):Option α:=
 bif aH i 0 then f x.1 else aJ (aH i 1)<|f x.2
def jR(L:Nat)(x0:ai)(x1:((List aQ)×(List aQ)))(r3:Int)(d:aS):Option (Int⊕(Unit⊕Bool)):=
 (r9 L x0.aN d.gB d.clear).bind fun y4=>
 (r9 L x0.sent (sub 1 d.gB) d.clear).bind fun y5=>
 bif aF y5 y4 then some (.inr (.inr false))else
 uy x1 d.gB fun a=>
 (eL L a d.clear.bf false).bind fun y6=>
 uy x1 (sub 1 d.gB) fun b=>
 (eL L b d.clear.bf true).bind fun y7=>
 bif !(aH y6.1 2)then some (.inr (.inr false))else
 bif !(aH y6.2 d.dm)then some (.inr (.inr false))else
 bif !(aH y7.1 2)then some (.inr (.inr false))else
 uy x1 d.gB fun a=>
 aJ (!(aF y6.2 0))<|
 aJ (Nat.blt y6.2.toNat a.length)<|
 uy x1 (sub 1 d.gB) fun b=>
 aJ (!(aF y7.2 0))<|
 aJ (Nat.blt y7.2.toNat b.length)<|
 bif !(Jk (aQ.a0n (a.getD y6.2.toNat aQ.az)) (aQ.a0n (b.getD y7.2.toNat aQ.az)))then some (.inr (.inr false))else
 some (.inl (add r3 1))
def nP(L:Nat)(x0:ai)(x1:((List aQ)×(List aQ))):Option Bool:=
 (iter (Y:=(Unit⊕Bool)) 10002 (fun r3:Int=>
   bif aF r3 (x0.aN.length:Int)then
    aJ (!(aF r3 0))<|
    aJ (Nat.blt r3.toNat (x0.aN.length))<|
    bif !(aH (aS.gB (x0.aN.getD r3.toNat aS.az)) 0)then
     bif !(aH (aS.gB (x0.aN.getD r3.toNat aS.az)) 1)then some (.inr (.inr false))else
     jR L x0 x1 r3 (x0.aN.getD r3.toNat aS.az)
    else
    jR L x0 x1 r3 (x0.aN.getD r3.toNat aS.az)
   else
   some (.inr (.inl ()))) L 0).bind fun y3=>
 match y3 with
 | .inl _=>some true
 | .inr y4=>some y4
def a3J(L:Nat)(x0:ai)(x1:((List aQ)×(List aQ))):Option Bool:=
 (iter (Y:=(Unit⊕Bool)) 11002 (fun r3:Int=>
   bif aF r3 (x0.ct.length:Int)then
    aJ (!(aF r3 0))<|
    aJ (Nat.blt r3.toNat (x0.ct.length))<|
    bif aH (nA .i64 (aS.gB (x0.ct.getD r3.toNat aS.az)) 1) 0 then
     aJ (!(aF r3 0))<|
     aJ (Nat.blt r3.toNat (x0.ct.length))<|
     (eL L x1.1 (Clear.bf (aS.clear (x0.ct.getD r3.toNat aS.az))) true).bind fun y4=>
     bif !(aH y4.1 1)then some (.inr (.inr false))else
     some (.inl (add r3 1))
    else
    aJ (aH (nA .i64 (aS.gB (x0.ct.getD r3.toNat aS.az)) 1) 1)<|
    aJ (!(aF r3 0))<|
    aJ (Nat.blt r3.toNat (x0.ct.length))<|
    (eL L x1.2 (Clear.bf (aS.clear (x0.ct.getD r3.toNat aS.az))) true).bind fun y4=>
    bif !(aH y4.1 1)then some (.inr (.inr false))else
    some (.inl (add r3 1))
   else
   some (.inr (.inl ()))) L 0).bind fun y3=>
 match y3 with
 | .inl y4=>
   (iter (Y:=(Unit⊕Bool)) 11009 (fun r5:Int=>
     bif aF r5 (x0.sent.length:Int)then
      aJ (!(aF r5 0))<|
      aJ (Nat.blt r5.toNat (x0.sent.length))<|
      bif aH (nA .i64 (aS.gB (x0.sent.getD r5.toNat aS.az)) 1) 0 then
       aJ (!(aF r5 0))<|
       aJ (Nat.blt r5.toNat (x0.sent.length))<|
       (eL L x1.1 (Clear.bf (aS.clear (x0.sent.getD r5.toNat aS.az))) true).bind fun y6=>
       bif !(aH y6.1 2)then some (.inr (.inr false))else
       aJ (!(aF r5 0))<|
       aJ (Nat.blt r5.toNat (x0.sent.length))<|
       bif !(aH y6.2 (aS.dm (x0.sent.getD r5.toNat aS.az)))then some (.inr (.inr false))else
       some (.inl (add r5 1))
      else
      aJ (aH (nA .i64 (aS.gB (x0.sent.getD r5.toNat aS.az)) 1) 1)<|
      aJ (!(aF r5 0))<|
      aJ (Nat.blt r5.toNat (x0.sent.length))<|
      (eL L x1.2 (Clear.bf (aS.clear (x0.sent.getD r5.toNat aS.az))) true).bind fun y6=>
      bif !(aH y6.1 2)then some (.inr (.inr false))else
      aJ (!(aF r5 0))<|
      aJ (Nat.blt r5.toNat (x0.sent.length))<|
      bif !(aH y6.2 (aS.dm (x0.sent.getD r5.toNat aS.az)))then some (.inr (.inr false))else
      some (.inl (add r5 1))
     else
     some (.inr (.inl ()))) L 0).bind fun y5=>
   match y5 with
   | .inl y6=>
     some true
   | .inr y6=>
     some y6
 | .inr y4=>
   some y4
def nQ(x:ai)(r:Int)(f:aa->Nat)(k:Option (Int⊕(Unit⊕Bool))):Option (Int⊕(Unit⊕Bool)):=
 bif aH r 0 then
  bif !(aH (f x.bG.1:Int) 0)then some (.inr (.inr false))else k
 else
 aJ (aH r 1)<|
 bif !(aH (f x.bG.2:Int) 0)then some (.inr (.inr false))else k
def uw(L:Nat)(x:ai)(rr:(List aQ)×(List aQ)):Option Bool:=
 (iter (Y:=(Unit⊕Bool)) 3019 (fun r7:Int=>
   bif aF r7 2 then
    nQ x r7 (fun g=>g.u4.length) (nQ x r7 (fun g=>g.af.length) (nQ x r7 (fun g=>g.aW.length) (some (.inl (add r7 1)))))
   else
   some (.inr (.inl ()))) L 0).bind fun y7=>
 match y7 with
 | .inl _=>
   (nP L x rr).bind fun y9=>
   bif y9 then
    (a3J L x rr).bind fun y10=>
    some y10
   else
   some false
 | .inr y8=>some y8
def a3m(L:Nat)(x0:(List Int))(x1:(List Int)):Option Bool:=
 (uv L).bind fun y3=>
 bif !y3 then some false else
 (u6 L x0 x1 true).bind fun y4=>
 bif !y4.2.2 then some false else
 (iter (Y:=(ai⊕Bool)) 3007 (fun r5:(Int×ai)=>
   bif aF r5.1 90 then
    (iter (Y:=(ai⊕Bool)) 3009 (fun r6:ai=>
      bif aF 0 (r6.a06.length:Int)then
       (eS L r6 (a0g.az (kind:=2))).bind fun y7=>
       bif !(aH y7.2 0)then some (.inr (.inr false))else
       bif !(aH (y7.1.a06.length:Int) (sub (r6.a06.length:Int) 1))then some (.inr (.inr false))else
       some (.inl y7.1)
      else
      some (.inr (.inl r6))) L r5.2).bind fun y6=>
    match y6 with
    | .inl y7=>
      (eS L y7 (a0g.az (kind:=8))).bind fun y8=>
      bif !(aH y8.2 0)then some (.inr (.inr false))else
      some (.inl (add r5.1 1,y8.1))
    | .inr y7=>some (.inr (.inr y7))
   else
   some (.inr (.inl r5.2))) L (0,y4.1)).bind fun y5=>
 match y5 with
 | .inl y6=>uw L y6 y4.2.1
 | .inr y6=>some y6
def Ts{α:Type}:List (Nat×α)->Tr α:=@List.rec (Nat×α) (fun _=>Tr α) .lf fun p _ t=>t.set (some p.2) p.1
def OZ{α:Type}(f:Nat->Option α):Nat->Nat->Nat->Tr α:=@Nat.rec (fun _=>Nat->Nat->Tr α) (fun _ _=>.lf) fun _ t a m=>.nd (t (Nat.add a m) (Nat.mul 2 m)) (f a) (t (Nat.add a (Nat.mul 2 m)) (Nat.mul 2 m))
def FD:List Func->Nat->Option Func:=@List.rec Func (fun _=>Nat->Option Func) (fun _=>none) fun f _ g n=>bif Nat.beq n 0 then some f else g (Nat.pred n)
def WV(f:Func):Option D7:=@Option.rec Code (fun _=>Option D7) none (fun c=>some ⟨f.ntmps,f.results.toList,c⟩) f.body
noncomputable def Vh:Tr Func->Tr D7:=@Tr.rec Func (fun _=>Tr D7) .lf fun _ v _ l r=>.nd l (@Option.rec Func (fun _=>Option D7) none WV v) r
abbrev fN(l:Tr D7)(f:Func)(r:Tr D7):Tr D7:=.nd l (WV f) r
abbrev fU(f:Func):Tr D7:=.nd .lf (WV f) .lf
abbrev fE:Tr D7:=.nd .lf none .lf
noncomputable def fT:Tr Func:=OZ (FD Tryz.prog.funcs.toList) 9 0 1
open Tryz in
noncomputable def AF:Tr D7:=(fN (fN (fN (fN (fN (fN (fN (fN (fU f255) f127 (fU f383)) f63 (fN (fU f319) f191 fE)) f31 (fN (fN (fU f287) f159 fE) f95 (fN (fU f351) f223 fE))) f15 (fN (fN (fN (fU f271) f143 (fU f399)) f79 (fN (fU f335) f207 fE)) f47 (fN (fN (fU f303) f175 fE) f111 (fN (fU f367) f239 fE)))) f7 (fN (fN (fN (fN (fU f263) f135 (fU f391)) f71 (fN (fU f327) f199 fE)) f39 (fN (fN (fU f295) f167 fE) f103 (fN (fU f359) f231 fE))) f23 (fN (fN (fN (fU f279) f151 (fU f407)) f87 (fN (fU f343) f215 fE)) f55 (fN (fN (fU f311) f183 fE) f119 (fN (fU f375) f247 fE))))) f3 (fN (fN (fN (fN (fN (fU f259) f131 (fU f387)) f67 (fN (fU f323) f195 fE)) f35 (fN (fN (fU f291) f163 fE) f99 (fN (fU f355) f227 fE))) f19 (fN (fN (fN (fU f275) f147 (fU f403)) f83 (fN (fU f339) f211 fE)) f51 (fN (fN (fU f307) f179 fE) f115 (fN (fU f371) f243 fE)))) f11 (fN (fN (fN (fN (fU f267) f139 (fU f395)) f75 (fN (fU f331) f203 fE)) f43 (fN (fN (fU f299) f171 fE) f107 (fN (fU f363) f235 fE))) f27 (fN (fN (fN (fU f283) f155 (fU f411)) f91 (fN (fU f347) f219 fE)) f59 (fN (fN (fU f315) f187 fE) f123 (fN (fU f379) f251 fE)))))) f1 (fN (fN (fN (fN (fN (fN (fU f257) f129 (fU f385)) f65 (fN (fU f321) f193 fE)) f33 (fN (fN (fU f289) f161 fE) f97 (fN (fU f353) f225 fE))) f17 (fN (fN (fN (fU f273) f145 (fU f401)) f81 (fN (fU f337) f209 fE)) f49 (fN (fN (fU f305) f177 fE) f113 (fN (fU f369) f241 fE)))) f9 (fN (fN (fN (fN (fU f265) f137 (fU f393)) f73 (fN (fU f329) f201 fE)) f41 (fN (fN (fU f297) f169 fE) f105 (fN (fU f361) f233 fE))) f25 (fN (fN (fN (fU f281) f153 (fU f409)) f89 (fN (fU f345) f217 fE)) f57 (fN (fN (fU f313) f185 fE) f121 (fN (fU f377) f249 fE))))) f5 (fN (fN (fN (fN (fN (fU f261) f133 (fU f389)) f69 (fN (fU f325) f197 fE)) f37 (fN (fN (fU f293) f165 fE) f101 (fN (fU f357) f229 fE))) f21 (fN (fN (fN (fU f277) f149 (fU f405)) f85 (fN (fU f341) f213 fE)) f53 (fN (fN (fU f309) f181 fE) f117 (fN (fU f373) f245 fE)))) f13 (fN (fN (fN (fN (fU f269) f141 (fU f397)) f77 (fN (fU f333) f205 fE)) f45 (fN (fN (fU f301) f173 fE) f109 (fN (fU f365) f237 fE))) f29 (fN (fN (fN (fU f285) f157 fE) f93 (fN (fU f349) f221 fE)) f61 (fN (fN (fU f317) f189 fE) f125 (fN (fU f381) f253 fE))))))) f0 (fN (fN (fN (fN (fN (fN (fN (fU f256) f128 (fU f384)) f64 (fN (fU f320) f192 fE)) f32 (fN (fN (fU f288) f160 fE) f96 (fN (fU f352) f224 fE))) f16 (fN (fN (fN (fU f272) f144 (fU f400)) f80 (fN (fU f336) f208 fE)) f48 (fN (fN (fU f304) f176 fE) f112 (fN (fU f368) f240 fE)))) f8 (fN (fN (fN (fN (fU f264) f136 (fU f392)) f72 (fN (fU f328) f200 fE)) f40 (fN (fN (fU f296) f168 fE) f104 (fN (fU f360) f232 fE))) f24 (fN (fN (fN (fU f280) f152 (fU f408)) f88 (fN (fU f344) f216 fE)) f56 (fN (fN (fU f312) f184 fE) f120 (fN (fU f376) f248 fE))))) f4 (fN (fN (fN (fN (fN (fU f260) f132 (fU f388)) f68 (fN (fU f324) f196 fE)) f36 (fN (fN (fU f292) f164 fE) f100 (fN (fU f356) f228 fE))) f20 (fN (fN (fN (fU f276) f148 (fU f404)) f84 (fN (fU f340) f212 fE)) f52 (fN (fN (fU f308) f180 fE) f116 (fN (fU f372) f244 fE)))) f12 (fN (fN (fN (fN (fU f268) f140 (fU f396)) f76 (fN (fU f332) f204 fE)) f44 (fN (fN (fU f300) f172 fE) f108 (fN (fU f364) f236 fE))) f28 (fN (fN (fN (fU f284) f156 fE) f92 (fN (fU f348) f220 fE)) f60 (fN (fN (fU f316) f188 fE) f124 (fN (fU f380) f252 fE)))))) f2 (fN (fN (fN (fN (fN (fN (fU f258) f130 (fU f386)) f66 (fN (fU f322) f194 fE)) f34 (fN (fN (fU f290) f162 fE) f98 (fN (fU f354) f226 fE))) f18 (fN (fN (fN (fU f274) f146 (fU f402)) f82 (fN (fU f338) f210 fE)) f50 (fN (fN (fU f306) f178 fE) f114 (fN (fU f370) f242 fE)))) f10 (fN (fN (fN (fN (fU f266) f138 (fU f394)) f74 (fN (fU f330) f202 fE)) f42 (fN (fN (fU f298) f170 fE) f106 (fN (fU f362) f234 fE))) f26 (fN (fN (fN (fU f282) f154 (fU f410)) f90 (fN (fU f346) f218 fE)) f58 (fN (fN (fU f314) f186 fE) f122 (fN (fU f378) f250 fE))))) f6 (fN (fN (fN (fN (fN (fU f262) f134 (fU f390)) f70 (fN (fU f326) f198 fE)) f38 (fN (fN (fU f294) f166 fE) f102 (fN (fU f358) f230 fE))) f22 (fN (fN (fN (fU f278) f150 (fU f406)) f86 (fN (fU f342) f214 fE)) f54 (fN (fN (fU f310) f182 fE) f118 (fN (fU f374) f246 fE)))) f14 (fN (fN (fN (fN (fU f270) f142 (fU f398)) f78 (fN (fU f334) f206 fE)) f46 (fN (fN (fU f302) f174 fE) f110 (fN (fU f366) f238 fE))) f30 (fN (fN (fN (fU f286) f158 fE) f94 (fN (fU f350) f222 fE)) f62 (fN (fN (fU f318) f190 fE) f126 (fN (fU f382) f254 fE))))))))
def n1(k:Nat)(t:DT):JB:={kind:=k,t:=t}
abbrev iK:Ty:=.int .i64
abbrev Jq:Ty:=.ak .sl .unit
abbrev u9:Ty:=.ak iK (.ak iK Jq)
abbrev GF:Ty:=.int .u64
abbrev D3:Ty:=.ak iK (.ak GF (.ak GF .unit))
abbrev U4:Ty:=.ak D3 (.ak D3 (.ak D3 (.ak D3 (.ak iK (.ak iK (.ak (.arr 2 iK) (.ak (.arr 2 iK) .unit)))))))
abbrev yA9:Ty:=.ak iK (.ak iK (.ak u9 (.ak iK (.ak iK (.ak iK (.ak u9 (.ak u9 (.ak iK (.ak iK (.ak iK (.ak U4 (.ak u9 Jq))))))))))))
abbrev Je:Ty:=.ak iK .unit
abbrev X2:Ty:=.ak iK (.ak iK (.ak .bool (.ak iK (.ak iK (.ak iK (.ak u9 (.ak u9 (.ak u9 (.ak u9 (.ak u9 (.ak u9 (.ak u9 (.ak iK (.ak iK (.ak yA9 (.ak iK (.ak u9 (.ak iK (.ak iK (.ak iK (.ak iK (.ak iK (.ak .bool (.ak iK (.ak .bool Je)))))))))))))))))))))))))
abbrev Mv:Ty:=.ak .sl (.ak .sl Jq)
abbrev Pw:Ty:=.ak iK (.ak iK (.ak iK (.ak iK (.ak .sl (.ak .sl (.ak iK (.ak iK (.ak u9 (.ak u9 (.ak iK (.ak .sl Mv)))))))))))
abbrev Jd:Ty:=.ak iK Je
abbrev TQ:Ty:=.ak D3 (.ak D3 (.ak iK Jd))
abbrev Wx:Ty:=.ak TQ Je
abbrev OH:Ty:=.ak iK (.ak iK (.ak u9 .unit))
abbrev TO:Ty:=.ak iK (.ak OH (.ak Wx Je))
abbrev TR:Ty:=.ak iK (.ak GF Jq)
abbrev Wp:Ty:=.ak iK (.ak iK (.ak iK (.ak iK (.ak U4 (.ak u9 (.ak u9 (.ak .bool (.ak u9 (.ak u9 (.ak iK (.ak iK (.ak TR Jd))))))))))))
abbrev Jf:Ty:=.int .u8
abbrev a2x:Ty:=.ak GF (.ak GF (.ak (.int .u32) (.ak Jf (.ak Jf (.ak Jf (.ak Jf (.ak .fn (.ak .ptr (.ak (.int .i32) (.ak (.int .i32) .unit))))))))))
abbrev Wq:Ty:=.ak iK (.ak iK (.ak iK (.ak u9 (.ak u9 (.ak u9 (.ak u9 (.ak u9 (.ak u9 (.ak u9 (.ak iK (.ak .bool .unit)))))))))))
abbrev OI:Ty:=.ak .sl (.ak iK (.ak .bool .unit))
abbrev OJ:Ty:=.ak .sl (.ak .sl (.ak .sl Mv))
abbrev Wt:Ty:=.ak iK (.ak iK (.ak iK (.ak .bool (.ak .bool (.ak iK Jq)))))
abbrev TP:Ty:=.ak D3 (.ak D3 .unit)
abbrev Wu:Ty:=.ak iK (.ak .sl (.ak iK (.ak u9 (.ak u9 (.ak .sl Jq)))))
abbrev Wv:Ty:=.ak iK (.ak iK (.ak iK (.ak OH (.ak TO .unit))))
abbrev Ww:Ty:=.ak (.arr 2 Pw) (.ak .sl (.ak .sl (.ak iK Mv)))
abbrev a2y:Ty:=.ak .ptr (.ak .ptr (.ak .ptr (.ak .str .unit)))
abbrev OU:DT:=.ak dI (.ak dI (.ak dI (.ak dI (.ak (.a01 fG) (.ak (.a01 dI) (.ak dI (.ak dI (.ak TT (.ak TT (.ak dI (.ak (.a01 a2T) (.ak (.bH sq) (.ak (.a01 a0l) (.a01 ji))))))))))))))
abbrev dA2:DT:=.ak (.a01 dI) (.ak dI (.ak dI (.ak TT (.ak TT (.ak dI (.ak (.a01 a2T) (.ak (.a01 sq) (.ak (.a01 a0l) (.a01 ji)))))))))
abbrev TW:DT:=.ak .otrees (.ak .otrees .otrees)
abbrev Jj:DT:=.bH aX
abbrev H7:DT:=.ak dI dI
abbrev WH:DT:=.ak .otrees (.ak .otrees .bS)
abbrev Xa:DT:=.ak dI (.ak TT (.ak TT (.ak .bS .bS)))
abbrev WI:DT:=.ak (.a01 fG) (.a01 fG)
abbrev K5:DT:=.int .u64
abbrev Fj:DT:=.a01 gP
abbrev Us:DT:=.ak dI (.ak dI (.ak dI (.ak dI (.ak (.bH fG) dA2))))
abbrev Ut:DT:=.ak (.bH gP) (.ak (.bH gP) (.bH gP))
abbrev X9:DT:=.ak sR (.ak sR (.ak sR (.ak sR sR)))
abbrev K4:DT:=.ak .str .str
abbrev Io:DT:=.int .u8
abbrev dS7:DT:=.ak dI (.ak dI (.ak .bool Io))
abbrev Xb:DT:=.ak dI (.ak dI (.ak dI (.ak dI (.ak (.a01 fG) dA2))))
abbrev Xc:DT:=.ak (.ak aq aq) (.ak (.a01 aX) (.ak .bS (.ak dI (.ak Fj (.ak Fj Fj)))))
abbrev Xd:DT:=.ak dI (.ak dI TT)
abbrev Xe:DT:=.ak dI (.ak K5 K5)
abbrev Xf:DT:=.ak a0j (.ak a0j (.ak dI H7))
abbrev Xg:DT:=.ak cK dI
abbrev Xh:DT:=.ak dI (.ak aX (.ak a2H dI))
abbrev Xi:DT:=.ak dI (.ak dI (.ak dI (.ak aX sQ)))
abbrev Xj:DT:=.ak a0j (.ak a0j (.ak a0j (.ak a0j (.ak dI (.ak dI (.ak H7 H7))))))
abbrev Xk:DT:=.ak dI (.ak dI (.ak TT (.ak dI (.ak dI (.ak dI (.ak TT (.ak TT (.ak dI (.ak dI (.ak dI (.ak gL (.ak TT (.a01 dI)))))))))))))
abbrev Xl:DT:=.ak dI (.ak dI (.ak .bool (.ak dI (.ak dI (.ak dI (.ak TT (.ak TT (.ak TT (.ak TT (.ak TT (.ak TT (.ak TT (.ak dI (.ak dI (.ak iU (.ak dI (.ak TT (.ak dI (.ak dI (.ak dI (.ak dI (.ak dI (.ak .bool (.ak dI (.ak .bool dI)))))))))))))))))))))))))
abbrev Xm:DT:=.ak dI (.ak K5 (.a01 K5))
abbrev Xn:DT:=.ak dI (.ak dI (.ak dI (.ak dI (.ak gL (.ak TT (.ak TT (.ak .bool (.ak TT (.ak TT (.ak dI (.ak dI (.ak mN H7))))))))))))
abbrev Xo:DT:=.ak dI (.ak a2H H7)
abbrev Xp:DT:=.ak dI (.ak .str (.a01 gL))
abbrev Xq:DT:=.ak (.a01 Io) dI
abbrev Uu:DT:=.ak (.a01 aX) (.ak (.a01 a2H) (.ak (.a01 a2H) (.ak Fj (.ak Fj Fj))))
abbrev Uv:DT:=.ak aq Ip
abbrev K8:DT:=.ak aq Ip
abbrev Uw:DT:=.ak .bS (.ak .bS .bS)
abbrev zi:DT:=.ak a0j (.ak a0j H7)
abbrev Ux:DT:=.ak dI (.ak dI (.ak dI (.ak .bool (.ak .bool (.ak dI .bS)))))
abbrev Uy:DT:=.ak TT TT
abbrev Uz:DT:=.ak a0j (.ak a0j H7)
abbrev UA:DT:=.ak a0j .unit
abbrev UB:DT:=.ak .bS (.ak dI .bool)
abbrev UC:DT:=.ak dI (.ak dI (.ak dI (.ak TT (.ak TT (.ak TT (.ak TT (.ak TT (.ak TT (.ak TT (.ak dI .bool))))))))))
abbrev UD:DT:=.ak .bS .unit
abbrev K6:DT:=.ak .bS .unit
abbrev UE:DT:=.ak dI (.ak gL .str)
abbrev PW:DT:=.ak dI (.ak gL .str)
abbrev UF:DT:=.ak dI (.ak K5 K5)
abbrev UG:DT:=.ak mA mA
abbrev UH:DT:=.ak dI (.ak (.a01 dI) Xa)
abbrev UI:DT:=.ak aq .bS
abbrev UJ:DT:=.ak dI (.ak .bS (.ak dI .bool))
abbrev UK:DT:=.ak .bS .bool
abbrev K7:DT:=.ak .bS .bool
abbrev UL:DT:=.ak sq .unit
abbrev gG:DT:=.ak (.ak aq aq) (.ak Jj (.ak .otrees (.ak dI Ut)))
abbrev IP:DT:=.ak Jj (.ak (.bH a2H) (.ak (.bH a2H) Ut))
def tS(e:Nat)(d:DT):TI:=⟨.sl,24,e,false,some d⟩
def Wc(e:Nat):TI:=⟨.sl,24,e,false,none⟩
def tP(e:Nat):TI:=⟨.ptr,8,e,false,none⟩
def tF:TI:=⟨.fn,8,0,false,none⟩
abbrev tU(x:TI):Tr TI:=.nd .lf (some x) .lf
abbrev tN(l:Tr TI)(x:TI)(r:Tr TI):Tr TI:=.nd l (some x) r
abbrev tZ(l r:Tr TI):Tr TI:=.nd l none r
def tC0:TI:=⟨iK,8,0,true,some dI⟩
def ty3:TI:=⟨iK,8,0,true,some dI⟩
def WZ:TI:=⟨Jf,1,0,true,some Io⟩
def tC2:TI:=⟨.str,16,0,true,some .str⟩
def tC3:TI:=⟨GF,8,0,true,some K5⟩
def tC4:TI:=⟨.ak .ptr .unit,8,0,false,none⟩
def tC5:TI:=⟨.int .i32,4,0,true,some (.int .i32)⟩
def tC6:TI:=tS 28 .bS
def tC7:TI:=⟨u9,40,0,false,some TT⟩
def Wd:TI:=⟨u9,40,0,false,some TT⟩
def Tt:TI:=⟨OH,56,0,false,some aX⟩
def We:TI:=⟨GF,8,0,true,some K5⟩
def Wf:TI:=⟨U4,144,0,true,some gL⟩
def Tu:TI:=⟨X2,856,0,false,some sq⟩
def Tv:TI:=⟨Wp,416,0,false,some a0l⟩
def Wg:TI:=⟨.ak iK (.ak Wx Jd),104,0,true,some gP⟩
def Mm:TI:=⟨.ak u9 (.ak u9 .unit),80,0,false,some ji⟩
def Mn:TI:=⟨Wq,320,0,false,some a2T⟩
def tC8:TI:=⟨.arr 5 TP,240,359,true,some X9⟩
def tC9:TI:=⟨a2y,40,0,false,none⟩
def Wb:TI:=⟨a2x,48,0,false,none⟩
def Ox:Tr TI:=(tZ (tN (tN (tN (tN (tN (tN (tN (tU tF) tF .lf) tF (tN (tU (tP 70)) tF (tU tF))) (tS 81 (.a01 a0l)) (tN (tN (tU tF) tF (tU tF)) (tS 68 (.a01 gL)) (tN (tU tF) tF .lf))) (tP 477) (tN (tN (tZ (tU tF) .lf) ⟨TR,40,0,false,some mN⟩ (tN (tU tF) ⟨Wt,64,0,false,some Ux⟩ (tU tF))) Tt (tN (tN (tU tF) tF (tU ⟨.ak .sl (.ak .bool .unit),32,0,false,some K7⟩)) tF (tU Mm)))) ⟨.ak iK (.ak iK (.ak .bool (.ak Jf .unit))),24,0,true,some dS7⟩ (tN (tN (tN (tN (tU ⟨.int .u32,4,0,true,some (.int .u32)⟩) tF (tU tF)) ⟨X2,856,0,false,some Xl⟩ (tN (tU tF) (tS 66 (.a01 H7)) (tU tF))) ⟨Ww,688,0,false,some cW⟩ (tZ (tZ (tU tF) (tU tF)) (tN (tU ⟨TP,48,0,true,some sR⟩) tF (tU Wb)))) tF (tN (tN (tN (tU tF) tF (tU tF)) tF (tN (tU tF) tF (tU tF))) ⟨TO,152,0,false,some Xh⟩ (tZ (tN (tU tF) tF (tU tF)) (tN (tU tF) tF .lf))))) ty3 (tN (tN (tN (tN (tN (tU tF) tF .lf) ⟨U4,144,0,true,some Xj⟩ (tN (tU tF) tF (tU tF))) ⟨.arr 2 Pw,560,34,false,some (.ak aq aq)⟩ (tN (tN (tU tF) ⟨Mv,72,0,false,some OV⟩ (tU tF)) ⟨.ak .sl Je,32,0,false,some BX⟩ (tN (tU tF) tF (tU tF)))) tC4 (tN (tN (tN (tU tF) tF (tU tF)) tF (tN (tU tF) tF (tU tF))) ⟨TQ,72,0,true,some Xf⟩ (tN (tN (tU tF) tF (tU tF)) ⟨OJ,144,0,false,some Ip⟩ (tN (tU ⟨.ak Pw Jq,304,0,false,some UI⟩) tF .lf)))) tC2 (tN (tN (tN (tN (tU tF) ⟨.ak Pw (.ak OJ .unit),424,0,false,some K8⟩ (tU tF)) tF (tN (tU tF) tF (tU tF))) tC0 (tN (tN (tU tF) tF (tU tF)) tF (tN (tU tF) tF .lf))) tC7 (tN (tN (tN (tU ⟨Wq,320,0,false,some UC⟩) tF (tU tF)) tF (tZ (tU tF) (tU tF))) tF (tN (tN (tU tF) ⟨.ak .fn (.ak .fn .unit),16,0,false,none⟩ (tU tF)) ⟨.arr 2 .str,32,9,true,some K4⟩ (tN (tU tF) tF .lf)))))) tF (tN (tN (tN (tN (tN (tN .lf tF (tU tF)) tF (tN (tU tF) tF (tU tF))) ⟨Pw,280,0,false,some Xb⟩ (tN (tN (tU tF) (tP 163) (tU tF)) ⟨.ak iK (.ak .str Jq),48,0,false,some fG⟩ (tZ (tU ⟨D3,24,0,true,some UF⟩) (tU WZ)))) (tP 488) (tN (tN (tN (tU ⟨OI,40,0,false,some UB⟩) tF (tU tF)) Tv (tZ (tU ⟨.arr 3 (.arr 2 iK),48,66,true,some (.ak H7 (.ak H7 H7))⟩) (tU ⟨.ak X2 .unit,856,0,false,some K9⟩))) ⟨D3,24,0,true,some Xe⟩ (tN (tN (tU tF) tF .lf) (tS 54 (.a01 a2H)) (tN (tU tF) tF .lf)))) tC2 (tN (tZ (tN (tN (tU (tP 136)) (tP 139) (tU tF)) tF (tN (tU ⟨.ak iK (.ak U4 (.ak .str .unit)),168,0,true,some PW⟩) tF (tU (tP 50)))) (tN (tN (tU ⟨Jq,24,0,false,some UD⟩) tF (tU tF)) tF (tN (tU tC8) tF .lf))) (tS 3 (.a01 dI)) (tN (tN (tN (tU tF) tF (tU tF)) tF (tN (tU tF) ⟨.arr 3 .fn,24,213,false,none⟩ .lf)) ⟨Wv,232,0,false,some Xi⟩ (tN (tN (tU (tP 81)) tF (tU tF)) tF (tN (tU ⟨.ak iK OI,48,0,false,some Fk⟩) tF .lf))))) WZ (tZ (tN (tN (tN (tN (tU tF) tF (tU tF)) ⟨yA9,392,0,false,some Xk⟩ (tN (tU tF) tF (tU tF))) (tS 85 Fj) (tN (tN .lf tF (tU ⟨.arr 10 iK,80,3,true,some (.ak dI (.ak dI (.ak dI (.ak dI (.ak dI (.ak dI (.ak dI (.ak dI H7))))))))⟩)) (tS 25 (.a01 (.a01 dI))) (tN (tU ⟨.arr 5 D3,120,354,true,some (.ak mA (.ak mA (.ak mA (.ak mA mA))))⟩) tF (tU tC5)))) tC5 (tN (tN (tZ (tU tF) (tU tF)) Wg (tN (tU tF) tF (tU tF))) ⟨Wx,80,0,true,some Xg⟩ (tN (tN (tU tF) tF (tU tF)) tF (tU ⟨.ak D3 (.ak D3 Jd),64,0,true,some zi⟩)))) (tN (tN (tN (tN (tU tF) ⟨.mp,8,140,false,none⟩ (tU tF)) (tS 48 (.a01 K5)) (tN (tU tF) tF .lf)) tF (tN (tN (tU tF) tF (tU (tP 431))) tF (tN (tU ⟨Wu,168,0,false,some UH⟩) tF .lf))) (tS 284 (.a01 a2T)) (tN (tZ (tN (tU tF) tF (tU tF)) (tN (tU tF) tF (tU tC9))) tF (tZ (tN (tU tF) (tS 245 (.a01 zi)) (tU tF)) (tN (tU tF) ⟨.ak D3 .unit,24,0,true,some BY⟩ .lf))))))) (tN (tN (tZ (tN (tN (tN (tN (tU tC0) tF (tU tF)) (tP 99) (tZ (tU tF) (tU tF))) (tS 239 (.a01 ji)) (tN (tN (tU tF) tF .lf) ⟨.ak iK (.ak .str Jq),48,0,false,some Xp⟩ (tN (tU tF) tF .lf))) (tP 480) (tN (tN (tN (tU (tP 274)) tF (tU tF)) ⟨Wp,416,0,false,some Xn⟩ (tN (tU tF) ⟨Wt,64,0,false,some a3o⟩ (tU ⟨.ak X2 .unit,856,0,false,some UL⟩))) We (tN (tN (tU tF) tF (tU (tP 329))) tF (tN (tU tF) tF .lf)))) (tN (tN (tN (tN (tU tF) tC6 (tU tF)) Tu (tN (tU ⟨.ak iK (.ak U4 (.ak .str .unit)),168,0,true,some UE⟩) tF (tU tF))) ⟨.arr 2 .sl,48,24,false,some WI⟩ (tN (tN (tU (tP 298)) tF (tU tF)) tF (tN (tU tC8) tF (tU Wb)))) (tS 97 (.a01 fG)) (tN (tN (tN (tU tF) tF (tU tF)) tF (tN (tU tF) tF (tU tF))) ⟨TO,152,0,false,some sQ⟩ (tN (tN (tU tF) (Wc 187) (tU tF)) tF (tZ (tU ⟨.ak iK OI,48,0,false,some UJ⟩) .lf))))) ⟨.bool,1,0,true,some .bool⟩ (tN (tZ (tN (tN (tN (tU tF) tF (tU tF)) Wf (tN (tU tF) (tS 50 (.a01 a0j)) (tU tF))) (tS 47 (.a01 aX)) (tN (tN (tU tF) tF (tU tF)) tF (tN (tU tF) (tP 72) (tU (tP 5))))) (tN (tN (tU tF) ⟨.ak iK (.ak Wx Jd),104,0,true,some Xo⟩ (tN (tU tF) tF (tU tF))) ⟨TQ,72,0,true,some cK⟩ (tZ (tU tF) (tN (tU ⟨.ak Pw Jq,304,0,false,some om⟩) ⟨.ak D3 (.ak D3 Jd),64,0,true,some Uz⟩ .lf)))) tC3 (tN (tZ (tN (tN .lf tF (tU tF)) tF (tN .lf tF (tU (Wc 342)))) (tN (tZ (tU tF) (tU tF)) tF (tN (tU tF) tF .lf))) Wd (tN (tN (tN (tU Mn) tF (tU tF)) tF (tN (tU tF) tF (tU tC9))) tF (tN (tN (tU tF) tF (tU tF)) ⟨.arr 4 (.arr 2 .str),128,123,true,some (.ak K4 (.ak K4 (.ak K4 K4)))⟩ (tN (tU tF) ⟨.ak D3 .unit,24,0,true,some UA⟩ .lf)))))) tC0 (tN (tN (tN (tN (tN (tZ (tU tF) (tU tF)) ⟨.arr 2 iK,16,3,true,some H7⟩ (tN (tU tF) tF .lf)) ⟨Pw,280,0,false,some aq⟩ (tN (tN (tU tF) ⟨Mv,72,0,false,some Uw⟩ (tU (tP 338))) ⟨.ak .sl Je,32,0,false,some Xq⟩ (tN (tU ⟨D3,24,0,true,some mA⟩) tF (tU WZ)))) tC4 (tN (tN (tN (tU ⟨OI,40,0,false,some qa⟩) (tS 9 (.a01 .str)) (tU tF)) tF (tN (tU tC3) tF (tU tF))) ⟨D3,24,0,true,some a0j⟩ (tN (tN (tU tF) tF (tU tF)) ⟨OJ,144,0,false,some Uu⟩ (tN (tU (Wc 369)) tF .lf)))) tC2 (tN (tN (tN (tN (tU tF) ⟨.ak Pw (.ak OJ .unit),424,0,false,some Uv⟩ (tU tF)) tC3 (tN (tU tF) tF (tU (Wc 457)))) tF (tN (tN (tU ⟨Jq,24,0,false,some K6⟩) tF (tU tF)) tF (tN (tU tF) tF .lf))) tC6 (tN (tN (tN (tU tF) tF (tU ⟨.arr 11 .fn,88,406,false,none⟩)) tF (tN (tU tF) tF (tU tF))) ⟨Wv,232,0,false,some vL⟩ (tN (tN (tU tF) tF .lf) tF .lf)))) WZ (tZ (tN (tN (tN (tZ (tU tF) (tU tF)) ⟨yA9,392,0,false,some iU⟩ (tN (tU tF) tF (tU tF))) ⟨Ww,688,0,false,some Xc⟩ (tN (tN (tU tF) tF (tU tF)) tF (tN (tU ⟨TP,48,0,true,some UG⟩) tF (tU tC5)))) (tS 5 (.a01 Io)) (tN (tN (tN .lf tF (tU tF)) tF (tN (tU (tP 3)) tF (tU ⟨.arr 4 u9,160,28,false,some (.ak TT (.ak TT (.ak TT TT)))⟩))) ⟨Wx,80,0,true,some a2H⟩ (tN (tN (tU tF) tF (tU tF)) tF .lf))) (tN (tN (tN (tZ .lf (tU tF)) ⟨TR,40,0,false,some Xm⟩ (tN (tU tF) tF (tU tF))) ⟨OH,56,0,false,some Xd⟩ (tN (tZ (tU tF) (tU ⟨.ak .sl (.ak .bool .unit),32,0,false,some UK⟩)) tF (tN (tU ⟨Wu,168,0,false,some fV⟩) ⟨.ak u9 (.ak u9 .unit),80,0,false,some Uy⟩ .lf))) (tS 72 (.a01 sq)) (tZ (tN (tN .lf tF (tU ⟨.arr 5 iK,40,3,true,some (.ak dI (.ak dI (.ak dI H7)))⟩)) tF (tU (Wc 144))) (tN (tN (tU tF) ⟨.arr 5 .sl,120,189,false,some (.ak (.a01 zi) (.ak (.a01 zi) (.ak (.a01 zi) (.ak (.a01 zi) (.a01 zi)))))⟩ (tU tF)) tF (tN (tU tF) tF .lf))))))))
noncomputable def O3:Tr JB:=(.nd (.nd (.nd (.nd (.nd (.nd (.nd (.nd .lf none (.nd .lf (some (n1 2 (.a01 a0l))) .lf)) none .lf) none .lf) none (.nd .lf none (.nd .lf (some (n1 1 (.a01 sq))) .lf))) none (.nd (.nd .lf (some (n1 1 .bS)) (.nd (.nd .lf (some (n1 1 (.a01 ji))) .lf) none .lf)) none .lf)) none (.nd (.nd (.nd (.nd (.nd (.nd .lf (some (n1 1 (.a01 (.int .u64)))) .lf) none .lf) none .lf) none (.nd (.nd (.nd .lf (some (n1 1 (.a01 a2T))) .lf) none .lf) none .lf)) none (.nd (.nd .lf (some {kind:=3,t:=.otrees,fn:=84,f:=wq}) .lf) none .lf)) none (.nd (.nd .lf none (.nd (.nd (.nd .lf (some (n1 2 (.a01 sq))) .lf) none .lf) none .lf)) none .lf))) none (.nd (.nd (.nd (.nd .lf none (.nd (.nd .lf (some (n1 1 (.a01 a0l))) .lf) none .lf)) none (.nd .lf (some (n1 1 (.a01 gL))) .lf)) none .lf) none .lf)) none (.nd (.nd (.nd (.nd .lf none (.nd .lf (some (n1 1 (.a01 (.int .i64)))) .lf)) none (.nd (.nd .lf (some (n1 1 (.a01 gP))) .lf) (some (n1 2 (.a01 aX))) .lf)) none .lf) none (.nd (.nd (.nd (.nd .lf none (.nd (.nd (.nd .lf (some (n1 2 (.a01 a2T))) .lf) none .lf) none .lf)) none .lf) none .lf) none (.nd (.nd (.nd .lf (some (n1 1 (.a01 aX))) (.nd (.nd .lf (some (n1 2 (.a01 ji))) .lf) none .lf)) none .lf) none .lf))))
def Vg:List Jh:=[⟨3,7,[(8,.d dI),(5,.box 39 cW)],[(.exit 0,[(5,.box 39 cW)]),(.ret,[(4,.d .bool)])],4000⟩,
 ⟨3,9,[(5,.box 39 cW)],[(.exit 2,[(5,.box 39 cW)]),(.ret,[(4,.d .bool)])],500⟩,
 ⟨3,19,[(61,.d dI)],[(.exit 4,[]),(.ret,[(4,.d .bool)])],500⟩,
 ⟨8,6,[(13,.d dI),(9,.box 39 cW),(6,.box 39 cW),(7,.box 40 WI),(12,.box 99 BX)],[(.exit 0,[(9,.box 39 cW),(6,.box 39 cW),(7,.box 40 WI),(12,.box 99 BX)]),(.ret,[(8,.d .bool),(6,.box 39 cW),(7,.box 40 WI)])],500⟩,
 ⟨10,2,[(14,.d dI)],[(.exit 0,[]),(.ret,[(4,.d .bool)])],500⟩,
 ⟨11,2,[(14,.d dI)],[(.exit 0,[]),(.ret,[(4,.d .bool)])],500⟩,
 ⟨11,9,[(43,.d dI)],[(.exit 2,[]),(.ret,[(4,.d .bool)])],500⟩,
 ⟨12,2,[(8,.d dI),(2,.box 39 cW)],[(.exit 0,[(2,.box 39 cW)])],500⟩,
 ⟨16,3,[(7,.d dI),(11,.d dI)],[(.exit 0,[(7,.d dI)])],500⟩,
 ⟨17,5,[(27,.d dI)],[(.exit 0,[]),(.ret,[(2,.d .bool)])],4000⟩,
 ⟨17,9,[(6,.d dI),(32,.d dI)],[(.exit 2,[(6,.d dI)]),(.ret,[(2,.d .bool)])],500⟩,
 ⟨17,21,[(112,.d dI)],[(.exit 4,[]),(.ret,[(2,.d .bool)])],500⟩,
 ⟨28,8,[(11,.d dI)],[(.exit 0,[]),(.ret,[(6,.d dI),(7,.d dI)])],4000⟩,
 ⟨28,11,[(12,.d dI)],[(.exit 2,[]),(.ret,[(6,.d dI),(7,.d dI)])],500⟩,
 ⟨29,2,[(3,.d dI),(1,.box 39 cW)],[(.exit 0,[(1,.box 39 cW)])],500⟩,
 ⟨32,8,[(57,.d dI),(13,.box 34 Us)],[(.exit 0,[(13,.box 34 Us)])],500⟩,
 ⟨42,2,[(14,.d dI),(3,.box 39 gG)],[(.exit 0,[(3,.box 39 gG)])],500⟩,
 ⟨42,15,[(70,.d dI),(3,.box 39 gG)],[(.exit 2,[(3,.box 39 gG)])],500⟩,
 ⟨43,2,[(8,.d dI)],[(.exit 0,[]),(.ret,[(6,.d dI),(7,.d .bool)])],4000⟩,
 ⟨43,5,[(9,.d dI)],[(.exit 2,[]),(.ret,[(6,.d dI),(7,.d .bool)])],500⟩,
 ⟨47,4,[(13,.d dI)],[(.exit 0,[]),(.ret,[(2,.d dI)])],4000⟩,
 ⟨47,15,[(64,.d dI)],[(.exit 3,[]),(.ret,[(2,.d dI)])],500⟩,
 ⟨55,4,[(12,.d dI)],[(.exit 0,[]),(.ret,[(2,.d .otrees),(3,.d dI)])],500⟩,
 ⟨55,11,[(6,.box 163 TW)],[(.exit 2,[(6,.box 163 TW)])],2048000⟩,
 ⟨70,3,[(4,.d Jj),(14,.d dI),(1,.box 34 aq)],[(.exit 0,[(4,.d Jj),(1,.box 34 aq)])],32000⟩,
 ⟨76,2,[(8,.d dI)],[(.exit 0,[]),(.ret,[(2,.d .bool)])],500⟩,
 ⟨82,2,[(8,.d dI)],[(.exit 0,[]),(.ret,[(4,.d dI)])],4000⟩,
 ⟨85,3,[(5,.d .bool),(10,.d dI),(0,.box 163 TW)],[(.exit 0,[(5,.d .bool),(0,.box 163 TW)])],32000⟩,
 ⟨85,3,[(5,.d .bool),(10,.d dI),(0,.box 163 WH)],[(.exit 0,[(5,.d .bool),(0,.box 163 WH)])],32000⟩,
 ⟨86,1,[(0,.box 163 TW)],[(.exit 0,[(0,.box 163 TW)])],256000⟩,
 ⟨86,12,[(4,.d .bool),(5,.d .otrees),(65,.d dI),(0,.box 163 WH)],[(.exit 3,[(4,.d .bool),(5,.d .otrees),(0,.box 163 WH)])],256000⟩,
 ⟨106,2,[(8,.d dI)],[(.exit 0,[]),(.ret,[(4,.d dI)])],4000⟩,
 ⟨109,6,[(19,.d dI),(2,.box 34 OU)],[(.exit 0,[(2,.box 34 OU)])],500⟩,
 ⟨123,4,[(17,.d dI)],[(.exit 0,[]),(.ret,[(6,.d .bool)])],500⟩,
 ⟨128,3,[(9,.d dI),(10,.d dI)],[(.exit 0,[(9,.d dI)])],4000⟩,
 ⟨138,10,[(55,.d dI)],[(.exit 0,[]),(.ret,[(6,.d dI),(7,.d dI)])],4000⟩,
 ⟨138,13,[(63,.d dI)],[(.exit 2,[]),(.ret,[(6,.d dI),(7,.d dI)])],500⟩,
 ⟨146,5,[(5,.d Jj),(6,.d (.bH dI)),(17,.d dI),(1,.box 34 OU)],[(.exit 0,[(5,.d Jj),(6,.d (.bH dI)),(1,.box 34 OU)])],500⟩,
 ⟨149,4,[(4,.d Jj),(14,.d dI),(1,.box 34 OU)],[(.exit 0,[(4,.d Jj),(1,.box 34 OU)])],500⟩,
 ⟨150,2,[(8,.d dI)],[(.exit 0,[]),(.ret,[(4,.d dI)])],4000⟩,
 ⟨179,10,[(45,.d dI)],[(.exit 2,[]),(.ret,[(4,.d dI)])],500⟩,
 ⟨196,4,[(12,.d dI)],[(.exit 0,[]),(.ret,[(2,.d .otrees),(3,.d .bool)])],500⟩,
 ⟨197,11,[(14,.d Jj),(44,.d dI)],[(.exit 2,[(14,.d Jj)])],500⟩,
 ⟨202,2,[(8,.d dI)],[(.exit 0,[]),(.ret,[(4,.d dI)])],4000⟩,
 ⟨223,2,[(14,.d dI)],[(.exit 0,[]),(.ret,[(6,.d dI),(7,.d .bool)])],4000⟩,
 ⟨223,5,[(22,.d dI)],[(.exit 2,[]),(.ret,[(6,.d dI),(7,.d .bool)])],500⟩,
 ⟨229,2,[(8,.d dI)],[(.exit 0,[]),(.ret,[(4,.d dI)])],4000⟩,
 ⟨234,2,[(11,.d dI),(3,.box 34 aq)],[(.exit 0,[(3,.box 34 aq)])],4000⟩,
 ⟨235,9,[(44,.d dI),(2,.box 34 OU)],[(.exit 0,[(2,.box 34 OU)])],500⟩,
 ⟨235,21,[(9,.d (.bH a0l)),(83,.d dI)],[(.exit 2,[(9,.d (.bH a0l))])],500⟩,
 ⟨236,2,[(11,.d dI),(3,.box 34 aq),(65538,.box 36 Jj)],[(.exit 0,[(3,.box 34 aq),(65538,.box 36 Jj)])],4000⟩,
 ⟨238,3,[(3,.d .otrees),(8,.d dI)],[(.exit 0,[(3,.d .otrees)])],500⟩,
 ⟨241,2,[(8,.d dI)],[(.exit 0,[]),(.ret,[(4,.d dI)])],4000⟩,
 ⟨261,4,[(18,.d dI),(6,.d (.bH K5))],[(.exit 0,[(6,.d (.bH K5))])],500⟩,
 ⟨269,6,[(43,.d dI),(2,.box 366 fV),(4,.box 366 (.ak dI (.ak (.bH dI) Xa)))],[(.exit 0,[(2,.box 366 fV),(4,.box 366 (.ak dI (.ak (.bH dI) Xa)))]),(.ret,[(3,.d .bool),(2,.box 366 fV)])],500⟩,
 ⟨286,2,[(13,.d dI),(6,.box 284 a2T)],[(.exit 0,[(6,.box 284 a2T)]),(.ret,[(7,.d .bool),(6,.box 284 a2T)])],500⟩,
 ⟨292,2,[(10,.d dI)],[(.exit 0,[]),(.ret,[(4,.d .otrees),(5,.d .bool)])],500⟩,
 ⟨294,3,[(19,.d dI),(7,.box 68 gL)],[(.exit 0,[(7,.box 68 gL)]),(.ret,[(6,.d dI),(8,.d .bool),(7,.box 68 gL)])],4000⟩,
 ⟨294,7,[(36,.d dI),(7,.box 68 gL)],[(.exit 2,[(7,.box 68 gL)]),(.ret,[(6,.d dI),(8,.d .bool),(7,.box 68 gL)])],500⟩,
 ⟨308,8,[(14,.d .otrees),(49,.d dI),(4,.box 34 aq)],[(.exit 0,[(14,.d .otrees),(4,.box 34 aq)])],500⟩,
 ⟨318,1,[(3,.d dI)],[(.exit 0,[]),(.ret,[])],4000⟩,
 ⟨319,5,[(5,.d dI),(6,.d dI),(0,.d (.bH a2T))],[(.exit 0,[(5,.d dI),(0,.d (.bH a2T))])],4000⟩,
 ⟨320,13,[(5,.d .otrees),(72,.d dI)],[(.exit 4,[(5,.d .otrees)])],500⟩,
 ⟨345,4,[(22,.d dI),(5,.box 274 qa),(6,.box 68 gL)],[(.exit 0,[(5,.box 274 qa),(6,.box 68 gL)])],500⟩,
 ⟨345,9,[(43,.d dI),(5,.box 274 qa),(6,.box 68 gL)],[(.exit 2,[(5,.box 274 qa),(6,.box 68 gL)])],500⟩,
 ⟨345,14,[(11,.d (.bH Io)),(5,.box 274 qa)],[(.exit 4,[(11,.d (.bH Io)),(5,.box 274 qa)])],500⟩,
 ⟨350,2,[(8,.d dI)],[(.exit 0,[]),(.ret,[(4,.d dI)])],4000⟩,
 ⟨358,2,[(12,.d dI)],[(.exit 0,[]),(.ret,[(6,.d dI)])],500⟩,
 ⟨371,1,[(2,.d dI),(3,.d dI),(0,.d .otrees)],[(.exit 0,[(0,.d .otrees)])],500⟩,
 ⟨376,2,[(8,.d dI)],[(.exit 0,[]),(.ret,[(4,.d dI)])],500⟩,
 ⟨382,3,[(7,.d dI),(15,.d dI)],[(.exit 0,[]),(.ret,[(6,.d .bool)])],500⟩]
def uq2{a b c:Type}(f:a->b->c)(x:a×b):c:=f x.1 x.2
def uq3{a b c d:Type}(f:a->b->c->d)(x:a×b×c):d:=f x.1 x.2.1 x.2.2
def uq4{a b c d e:Type}(f:a->b->c->d->e)(x:a×b×c×d):e:=f x.1 x.2.1 x.2.2.1 x.2.2.2
def uq5{a b c d e g:Type}(f:a->b->c->d->e->g)(x:a×b×c×d×e):g:=f x.1 x.2.1 x.2.2.1 x.2.2.2.1 x.2.2.2.2
abbrev KL:=List (Nat×cN)
abbrev KP:=List (Nat×uG)
def Gm(c:KL)(p:KP)(L:Nat):vC:=⟨⟨Ox,AF,Ts c,O3,Ts p⟩,Vg,L,20⟩
def cZ(L:Nat)(c:KL)(p:KP)(f:Nat)(k:cN):Prop:=∀x,AE (Gm c p L) 30 f k.a k.r x=k.f x
def ON(L:Nat)(c:KL)(p:KP)(f:Nat)(k:uG):Prop:=∀l n x,WK (Gm c p L) 30 f k.el k.a k.r l n x=k.f l n x
def k36(L:Nat):cN:=⟨[dI],[.bool],iy L⟩
def k37(L:Nat):cN:=⟨[.bS,TT],[.bool],uq2 (rz L)⟩
def k22(L:Nat):cN:=⟨[cW,vL],[dI],uq2 (a2B L)⟩
def k23(L:Nat):cN:=⟨[cW],[gG],kk L⟩
def mE(L:Nat):cN:=⟨[TT,TT],[dI],fun x=>bq L x.1 x.2⟩
def U1(L:Nat):cN:=⟨[TT],[.bool],fun x=>a2M L x⟩
def lB(L:Nat):cN:=⟨[aq,dI],[dI],uq2 (bz L)⟩
def a4W(L:Nat):cN:=⟨[sq],[dI,dI],mS L⟩
def xY(L:Nat):cN:=⟨[a3o],[(.ak dI (.ak dI (.ak dI (.ak dI dI))))],cJ L⟩
def zJ(L:Nat):cN:=⟨[aq,dI,dI,.bS,iU],[aq,(.bH aX)],uq5 (dL L)⟩
def QS(L:Nat):cN:=⟨[aq,sq],[aq,(.bH aX)],uq2 (oC L)⟩
def QT(L:Nat):cN:=⟨[aq,sq],[aq,(.bH aX)],uq2 (a3r L)⟩
def k70(L:Nat):cN:=⟨[aq],[aq,(.bH aX)],lW L⟩
def NG(L:Nat):cN:=⟨[mA,mA],[dI],uq2 (bV L)⟩
def Rn(L:Nat):cN:=⟨[sR,mA],[.bool],uq2 (cD L)⟩
def FT(L:Nat):cN:=⟨[gL,cK,.bool],[.bool],uq3 (cS L)⟩
def Rg(L:Nat):cN:=⟨[(.a01 fG),cK,.bool],[dI,.bool],uq3 (qe L)⟩
def Nv(L:Nat):cN:=⟨[cK],[.bool,.bool],a2J L⟩
def Rh(L:Nat):cN:=⟨[gL,cK,.bool],[.bool],uq3 (oB L)⟩
def KN(L:Nat):cN:=⟨[(.a01 fG),cK,.bool],[dI,dI],uq3 (j5 L)⟩
def zK(L:Nat):cN:=⟨[aq,dI],[dI],uq2 (a0f L)⟩
def Rk(L:Nat):cN:=⟨[(.int .u64),dI],[(.int .u64)],uq2 (oT L)⟩
def QX(L:Nat):cN:=⟨[(.int .u64),dI,(.int .u64),dI],[(.int .u64)],uq4 (oS L)⟩
def RL(L:Nat):cN:=⟨[mN,(.int .u64)],[.bool],uq2 (vw L)⟩
def RM(L:Nat):cN:=⟨[mN,(.int .u64)],[.bool],uq2 (vu L)⟩
def Rl(L:Nat):cN:=⟨[mN,(.int .u64)],[dI],uq2 (sk L)⟩
def QY(L:Nat):cN:=⟨[mN,(.int .u64)],[mN,dI],uq2 (nw L)⟩
def KT(L:Nat):cN:=⟨[TT,TT],[TT,.bool],uq2 (a38 L)⟩
def RO(L:Nat):cN:=⟨[a0j],[.bool],iW L⟩
def RP(L:Nat):cN:=⟨[dI],[.bool],ju L⟩
def Rm(L:Nat):cN:=⟨[TT],[a2H,.bool],fM L⟩
def QZ(L:Nat):cN:=⟨[TT,TT,dI,(.int .u64)],[a2H,.bool],uq4 (jG L)⟩
def QF(L:Nat):cN:=⟨[aq,TT],[aq,IP],uq2 (mO L)⟩
def Nr(L:Nat):cN:=⟨[TT],[.otrees,.bool],kz L⟩
def IC(L:Nat):cN:=⟨[TT],[a3o,.bool,.bool],fJ L⟩
def qB(L:Nat):cN:=⟨[.bS,dI],[.otrees,.bool],uq2 (cj L)⟩
def Nx(L:Nat):cN:=⟨[.bS],[dI,TT,.bool],fW L⟩
def NH(L:Nat):cN:=⟨[.bS,dI],[TT,.bool],uq2 (nH L)⟩
def Ny(L:Nat):cN:=⟨[.bS],[TT,.bool],kj L⟩
def Ro(L:Nat):cN:=⟨[a3o],[fV,.bool],oy L⟩
def NC(L:Nat):cN:=⟨[aq,TT,dI],[a2T,.bool],uq3 (lH L)⟩
def Rp(L:Nat):cN:=⟨[aq,aX,fV],[om,.bool],uq3 (qA L)⟩
def KW(L:Nat):cN:=⟨[aq,fV,.bS],[om,.bool],uq3 (dX L)⟩
def Rq(L:Nat):cN:=⟨[aq,aX,fV],[om,.bool],uq3 (kP L)⟩
def RQ(L:Nat):cN:=⟨[aq,dI,dI,TT],[TT],uq4 (sO L)⟩
def RU(L:Nat):cN:=⟨[aq],[.bool],a3N L⟩
def Rr(L:Nat):cN:=⟨[aq,aX,fV],[om,.bool],uq3 (pA L)⟩
def RV(L:Nat):cN:=⟨[aq,fV],[dI,.bool],uq2 (lS L)⟩
def Rs(L:Nat):cN:=⟨[aq,aX,fV],[om,.bool],uq3 (o5 L)⟩
def Rt(L:Nat):cN:=⟨[aq,aX,fV],[om,.bool],uq3 (rI L)⟩
def Nw(L:Nat):cN:=⟨[dI,dI],[TT],uq2 (tC L)⟩
def FQ(L:Nat):cN:=⟨[dI,dI,dI],[TT],uq3 (pE L)⟩
def KR(L:Nat):cN:=⟨[(.a01 dI)],[.otrees],gM L⟩
def KS(L:Nat):cN:=⟨[dI,TT],[TT],uq2 (gE L)⟩
def ID(L:Nat):cN:=⟨[.bS,dI,dI],[.bool],uq3 (kQ L)⟩
def E5(L:Nat):cN:=⟨[TT,dI,dI],[TT,TT,TT],uq3 (eM L)⟩
def KX(L:Nat):cN:=⟨[TT,TT],[TT,.bool],uq2 (mJ L)⟩
def Nz(L:Nat):cN:=⟨[TT,TT,TT,TT],[TT],uq4 (lT L)⟩
def NF(L:Nat):cN:=⟨[aq,a2T],[aq,dI],uq2 (pe L)⟩
def Ru(L:Nat):cN:=⟨[aq,aX,fV],[om,.bool],uq3 (jL L)⟩
def a4X(L:Nat):cN:=⟨[aq,aX,a3o],[aq,(.bH aX)],uq3 (kF L)⟩
def AM(L:Nat):cN:=⟨[.bS,dI],[dI,.bool],uq2 (eG L)⟩
def Rv(L:Nat):cN:=⟨[aq,sq,dI,.bS],[Fk,.bool],uq4 (ox L)⟩
def R4(L:Nat):cN:=⟨[aq,aX,a3o],[aq,(.bH aX),dI],uq3 (mX L)⟩
def NA(L:Nat):cN:=⟨[.bS,dI],[TT,.bool],uq2 (rV L)⟩
def NB(L:Nat):cN:=⟨[.bS],[TT,.bool],oM L⟩
def Rw(L:Nat):cN:=⟨[aq,TT],[TT,.bool],uq2 (qm L)⟩
def ND(L:Nat):cN:=⟨[TT,TT,TT],[TT],uq3 (nN L)⟩
def R5(L:Nat):cN:=⟨[aq,aX,a3o],[aq,(.bH aX)],uq3 (mh L)⟩
def R6(L:Nat):cN:=⟨[aq,aX,a3o],[aq,dI],uq3 (oL L)⟩
def KO(L:Nat):cN:=⟨[dI,TT,TT],[TT],uq3 (jq L)⟩
def FU(L:Nat):cN:=⟨[aq,dI],[.str],uq2 (fL L)⟩
def FV(L:Nat):cN:=⟨[gL,.str],[TT],uq2 (fA L)⟩
def R7(L:Nat):cN:=⟨[aq,dI],[aq,(.bH aX)],uq2 (jo L)⟩
def QG(L:Nat):cN:=⟨[aq,aX,a3o],[aq,(.bH aX)],uq3 (mU L)⟩
def KM(L:Nat):cN:=⟨[aq,dI],[dI],uq2 (oU L)⟩
def Ns(L:Nat):cN:=⟨[TT,TT],[a3o,.bool],uq2 (a3l L)⟩
def R8(L:Nat):cN:=⟨[aq,dI],[aq],uq2 (mM L)⟩
def Nt(L:Nat):cN:=⟨[.bS,dI,TT,TT],[.bool],uq4 (nB L)⟩
def NK(L:Nat):cN:=⟨[gL],[gL],oO L⟩
def Sb(L:Nat):cN:=⟨[sR,sR],[sR,.bool],uq2 (dw L)⟩
def NL(L:Nat):cN:=⟨[gL,gL],[gL,.bool],uq2 (iq L)⟩
def Rx(L:Nat):cN:=⟨[(.a01 fG),gL,.str],[dI,gL,.bool],uq3 (a3v L)⟩
def RW(L:Nat):cN:=⟨[dI],[mN,dI],vt L⟩
def KU(L:Nat):cN:=⟨[sq,dI,dI,dI,gL,.bool,TT,TT],[a0l],fun x=>js L x.1 x.2.1 x.2.2.1 x.2.2.2.1 x.2.2.2.2.1 x.2.2.2.2.2.1 x.2.2.2.2.2.2.1 x.2.2.2.2.2.2.2⟩
def QD(L:Nat):cN:=⟨[a0j],[.bool],gI L⟩
def QV(L:Nat):cN:=⟨[BY,BY],[.bool],uq2 (jY L)⟩
def QE(L:Nat):cN:=⟨[a0j,a0j],[.bool],uq2 (a2W L)⟩
def WQ(L:Nat):cN:=⟨[gL],[dI],iZ L⟩
def NJ(L:Nat):cN:=⟨[.bS],[gL,.str,.bool],j0 L⟩
def Nu(L:Nat):cN:=⟨[aq,dI,.bS,TT,TT],[aq,.otrees],uq5 (a2X L)⟩
def QH(L:Nat):cN:=⟨[aq,aX,a3o],[aq,(.bH aX)],uq3 (oh L)⟩
def R9(L:Nat):cN:=⟨[aq,a3o],[dI],uq2 (ow L)⟩
def RX(L:Nat):cN:=⟨[gL,gL],[.bool],uq2 (iM L)⟩
def KV(L:Nat):cN:=⟨[aq,dI,.bS,iU,TT,TT],[aq,dI,.bool],fun x=>gZ L x.1 x.2.1 x.2.2.1 x.2.2.2.1 x.2.2.2.2.1 x.2.2.2.2.2⟩
def Ra(L:Nat):cN:=⟨[aq,dI,a3o],[aq],uq3 (a3L L)⟩
def Rb(L:Nat):cN:=⟨[sq,a3o],[dI],uq2 (mR L)⟩
def Nq(L:Nat):cN:=⟨[dI,TT,dI,TT],[.otrees],uq4 (jB L)⟩
def E6(L:Nat):cN:=⟨[aq,dI,a3o,dI,.bS],[aq,(.bH aX)],uq5 (a09 L)⟩
def RY(L:Nat):cN:=⟨[sq],[.bool],nq L⟩
def NM(L:Nat):cN:=⟨[.bS],[dI,TT,TT,TT,.bool],ku L⟩
def NU(L:Nat):cN:=⟨[K9,TT,TT,TT],[TT],uq4 (iA L)⟩
def S6(L:Nat):cN:=⟨[K9,sq,TT],[sq],uq3 (kV L)⟩
def S7(L:Nat):cN:=⟨[K9,sq,TT],[sq],uq3 (jX L)⟩
def NN(L:Nat):cN:=⟨[sq,dI,dI,.bool,TT,TT,TT,dI],[sq],fun x=>a2V L x.1 x.2.1 x.2.2.1 x.2.2.2.1 x.2.2.2.2.1 x.2.2.2.2.2.1 x.2.2.2.2.2.2.1 x.2.2.2.2.2.2.2⟩
def Rz(L:Nat):cN:=⟨[aq,dI,a3o,dI],[aq,(.bH aX)],uq4 (jP L)⟩
def NO(L:Nat):cN:=⟨[sq],[.bool],pb L⟩
def NP(L:Nat):cN:=⟨[.bS],[TT,.bool],jA L⟩
def S8(L:Nat):cN:=⟨[aq,a0l,dI],[.bool],uq3 (a3j L)⟩
def NQ(L:Nat):cN:=⟨[aq,dI,dI],[dI],uq3 (qU L)⟩
def RZ(L:Nat):cN:=⟨[sq],[dI],j9 L⟩
def RA(L:Nat):cN:=⟨[aq,dI,a3o,dI],[aq,(.bH aX)],uq4 (nn L)⟩
def NR(L:Nat):cN:=⟨[.bS],[TT,.bool],nC L⟩
def S2(L:Nat):cN:=⟨[.bS],[.bool],mL L⟩
def RB(L:Nat):cN:=⟨[aq,dI,a3o,dI],[aq,(.bH aX)],uq4 (mK L)⟩
def KQ(L:Nat):cN:=⟨[aq,dI],[aq],uq2 (a2L L)⟩
def S3(L:Nat):cN:=⟨[aq,dI,dI],[aq],uq3 (lu L)⟩
def KY(L:Nat):cN:=⟨[aq,dI],[aq],uq2 (lp L)⟩
def RC(L:Nat):cN:=⟨[aq,dI,a3o,dI],[aq,(.bH aX)],uq4 (mg L)⟩
def RD(L:Nat):cN:=⟨[aq,dI,a3o,dI],[aq,(.bH aX)],uq4 (lY L)⟩
def Rc(L:Nat):cN:=⟨[aq,dI,a3o,dI],[aq,(.bH aX)],uq4 (mT L)⟩
def a4Y(L:Nat):cN:=⟨[aq,dI],[aq],uq2 (a2Q L)⟩
def Re(L:Nat):cN:=⟨[sq,dI],[aX],uq2 (a3C L)⟩
def RE(L:Nat):cN:=⟨[aq,dI],[aq,iU],uq2 (mQ L)⟩
def RF(L:Nat):cN:=⟨[aq,dI,iU],[aq],uq3 (a3k L)⟩
def RG(L:Nat):cN:=⟨[aq,dI,a3o,iU],[aq],uq4 (pY L)⟩
def FP(L:Nat):cN:=⟨[sq],[.bool],gm L⟩
def No(L:Nat):cN:=⟨[aq,dI],[aq,(.bH aX),dI],uq2 (mc L)⟩
def NS(L:Nat):cN:=⟨[aq,dI],[aq,(.bH aX)],uq2 (dW L)⟩
def Sd(L:Nat):cN:=⟨[TT],[dI],qX L⟩
def Sc(L:Nat):cN:=⟨[TT,TT],[.bool],uq2 (vq L)⟩
def NT(L:Nat):cN:=⟨[TT,TT],[TT],uq2 (gg L)⟩
def S9(L:Nat):cN:=⟨[(.ak TT (.ak TT (.ak TT TT)))],[TT],qj L⟩
def S4(L:Nat):cN:=⟨[aq,dI,dI],[aq,(.bH aX)],uq3 (eX L)⟩
def RH(L:Nat):cN:=⟨[aq,dI,a3o,iU],[aq,(.bH aX)],uq4 (qh L)⟩
def Np(L:Nat):cN:=⟨[aq,dI],[aq,(.bH aX),dI],uq2 (a2K L)⟩
def S5(L:Nat):cN:=⟨[sq,sq],[.bool],uq2 (kI L)⟩
def RI(L:Nat):cN:=⟨[aq,dI,a3o,iU],[aq,(.bH aX)],uq4 (a3h L)⟩
def RJ(L:Nat):cN:=⟨[aq,dI,a3o,iU],[aq],uq4 (lX L)⟩
def Rf(L:Nat):cN:=⟨[aq,dI,a3o],[aq,(.bH aX)],uq3 (jK L)⟩
def QI(L:Nat):cN:=⟨[aq,aX,a3o],[aq,(.bH aX)],uq3 (eR L)⟩
def k93(L:Nat):cN:=⟨[aq,aX],[aq,IP],uq2 (jJ L)⟩
def V9(L:Nat):cN:=⟨[aq,dI,cK],[dI],fun x=>gw L x.1 x.2.1 x.2.2⟩
def Ri(L:Nat):cN:=⟨[a2H],[TT],jt L⟩
def QJ(L:Nat):cN:=⟨[aq,dI,dI,a2H],[aq,IP],uq4 (lJ L)⟩
def WS(L:Nat):cN:=⟨[aq,dI,dI,gL],[aq,(.bH aX),dI],uq4 (kg L)⟩
def Rj(L:Nat):cN:=⟨[aq,dI,dI,gL],[aq,(.bH aX),dI],uq4 (rq L)⟩
def QK(L:Nat):cN:=⟨[aq,dI,cK],[aq,(.bH aX)],uq3 (jk L)⟩
def k94(L:Nat):cN:=⟨[aq,a2H],[aq,IP],uq2 (jF L)⟩
def k95(L:Nat):cN:=⟨[aq,a2H],[IP],uq2 (jj L)⟩
def QL(L:Nat):cN:=⟨[aq],[aq],ru L⟩
def QM(L:Nat):cN:=⟨[aq],[aq,(.bH aX),(.bH dI)],ou L⟩
def QN(L:Nat):cN:=⟨[aq,(.a01 dI)],[aq],uq2 (kG L)⟩
def QO(L:Nat):cN:=⟨[aq],[aq,(.bH aX)],mZ L⟩
def a4U(L:Nat):cN:=⟨[aq],[aq,(.bH aX)],vY L⟩
def k96(L:Nat):cN:=⟨[aq],[aq,(.bH aX)],lN L⟩
def Qy(L:Nat):cN:=⟨[aq,dI],[aq,(.bH aX),dI],uq2 (a3i L)⟩
def Qz(L:Nat):cN:=⟨[aq,dI],[aq,(.bH aX),dI],uq2 (qi L)⟩
def QA(L:Nat):cN:=⟨[aq,dI],[aq,dI],uq2 (qf L)⟩
def QB(L:Nat):cN:=⟨[aq,dI,dI,gL],[aq,(.bH aX),dI],uq4 (oK L)⟩
def a4V(L:Nat):cN:=⟨[dI,dI],[dI,.bool],uq2 (mV L)⟩
def k41(L:Nat):cN:=⟨[aq,sQ],[aq,IP,dI],uq2 (a2F L)⟩
def Se(L:Nat):cN:=⟨[gG,dI,Ip],[gG],fun x=>a2z L x.1 x.2.1 x.2.2⟩
def MB(L:Nat):cN:=⟨[gG,dI,sQ],[gG,dI],fun x=>cR L x.1 x.2.1 x.2.2⟩
def k25(L:Nat):cN:=⟨[gG,aX],[gG],uq2 (a3c L)⟩
def k9(L:Nat):cN:=⟨[cW,vL],[cW,dI],uq2 (eS L)⟩
def k29(L:Nat):cN:=⟨[cW],[cW],qD L⟩
def ZW(L:Nat):cN:=⟨[cW,dI],[cW],uq2 (pF L)⟩
def ZZ(L:Nat):cN:=⟨[cW],[.bool],wC L⟩
def WM(L:Nat):uG:=⟨99,[],[.bool],fun l n x=>gN L l n⟩
def Ry(L:Nat):uG:=⟨99,[dI],[dI],fun l n x=>bj L l n x⟩
def k31(L:Nat):cN:=⟨[dI,dI],[(.bH fG)],fun x=>a3I L x.1 x.2⟩
def k76(L:Nat):cN:=⟨[.str],[.bool],we L⟩
def k47(L:Nat):cN:=⟨[(.a01 fG)],[dI],dY L⟩
def k32(L:Nat):cN:=⟨[dI,dI,dI,(.a01 fG),(.a01 dI)],[aq,dI],uq5 (nG L)⟩
def k33(L:Nat):cN:=⟨[aq,aq],[cW],uq2 (xO L)⟩
def WL(L:Nat):uG:=⟨99,[],[cW,(.ak (.a01 fG) (.a01 fG)),.bool],fun l n x=>qZ L l n⟩
def k7(L:Nat):cN:=⟨[],[.bool],fun x=>uv L⟩
def ZX(L:Nat):uG:=⟨99,[dI],[a2H],fun l n x=>pS L l n x⟩
def k34(L:Nat):uG:=⟨99,[dI,.bool],[sQ],fun l n x=>ux L l n x.1 x.2⟩
def k35(L:Nat):uG:=⟨99,[cW],[aX],fun l n x=>nv L l n x⟩
def k20(L:Nat):uG:=⟨99,[cW,.bool],[vL],fun l n x=>a3P L l n x.1 x.2⟩
def k21(L:Nat):cN:=⟨[cW],[.bool],pR L⟩
def k8(L:Nat):cN:=⟨[(.a01 (.int .u8)),(.a01 (.int .u8)),.bool],[cW,(.ak (.a01 fG) (.a01 fG)),.bool],uq3 (u6 L)⟩
def ZY(L:Nat):cN:=⟨[(.a01 gP),dI,a2H],[dI],uq3 (r9 L)⟩
def k72(L:Nat):cN:=⟨[cK,.bool],[cK],uq2 (kU L)⟩
def QU(L:Nat):cN:=⟨[a0j,a0j],[.bool],uq2 (pI L)⟩
def QC(L:Nat):cN:=⟨[a0j,a0j,a0j],[.bool],uq3 (j8 L)⟩
def WO(L:Nat):cN:=⟨[gL,cK,.bool],[.bool],uq3 (dJ L)⟩
def k43(L:Nat):cN:=⟨[(.a01 fG),cK,.bool],[dI,.bool],uq3 (rT L)⟩
def k44(L:Nat):cN:=⟨[cK],[.bool],oJ L⟩
def k45(L:Nat):cN:=⟨[gL,cK,.bool],[.bool],uq3 (rU L)⟩
def WN(L:Nat):cN:=⟨[(.a01 fG),cK,.bool],[dI,dI],uq3 (eL L)⟩
def ZU(L:Nat):cN:=⟨[cW,(.ak (.a01 fG) (.a01 fG))],[.bool],uq2 (nP L)⟩
def ZV(L:Nat):cN:=⟨[cW,(.ak (.a01 fG) (.a01 fG))],[.bool],uq2 (a3J L)⟩
def k3(L:Nat):cN:=⟨[(.a01 (.int .u8)),(.a01 (.int .u8))],[.bool],fun x=>a3m L x.1 x.2⟩
def k54(L:Nat):cN:=⟨[.bS,TT],[.bool],uq2 (rA L)⟩
def k55(L:Nat):cN:=⟨[.bS],[.otrees,dI],oo L⟩
def KZ(L:Nat):cN:=⟨[.bS,TT],[.bool],fun x=>bF L x.1 x.2⟩
def L0(L:Nat):cN:=⟨[TT,TT],[dI],fun x=>gC L x.1 x.2⟩
def WR(L:Nat):cN:=⟨[.bS,TT],[.bool],uq2 (fD L)⟩
def P8(L:Nat):cN:=⟨[.bS,TT,TT],[.bool],fun x=>dV L x.1 x.2.1 x.2.2⟩
def QW(L:Nat):cN:=⟨[.otrees,dI,.otrees],[.otrees],fun x=>ja L x.1 x.2.1 x.2.2⟩
end
end Go.Proofs.YtehbbcdhahnkgaaGreat.Vm
