/- Plain functions. -/
import Derived.Test.YtehbbcdhahnkgaaGreatVMTy
set_option linter.all false
set_option maxRecDepth 100000
set_option maxHeartbeats 0
namespace Go.Proofs.YtehbbcdhahnkgaaGreat.Vm
open Go
noncomputable section
def jL(L:Nat)(x0:aa)(x1:aj)(x2:aT):Option (fk×Bool):=
 (lT L x2.dx (T.name (add (mul x0.av 1048576) (add (add x0.count 1) 1))) x2.a3g (T.name (add (mul x0.av 1048576) (add (add (add x0.count 1) 1) 1)))).bind fun y4=>
 (eM L y4 x2.dZ (add (mul 1000 (add x0.av 1)) (add x0.count 1))).bind fun y5=>
 (gM L [x2.kf]).bind fun y6=>
 aJ (room (TL.len (TL.app (TL.of [T.aG 1]) y6)) 40)<|
 (gE L x2.kf (T.name (add (mul x0.av 1048576) (add (add (add x0.count 1) 1) 1)))).bind fun y7=>
 (pE L x2.dZ x0.bM x1.cq).bind fun y8=>
 (cJ L (bW.az (kind:=34) (eV:=x2.dZ) (ia:=add (mul 1000 (add x0.av 1)) (add x0.count 1)) (bY:=true) (parts:=TL.of [T.a01 (TL.app (TL.of [T.aG 1]) y6),y7,T.a01 (TL.of [T.aG 3,T.name (add (mul x0.av 1048576) (add (add x0.count 1) 1))]),y8]))).bind fun y9=>
 (kQ L x2.parts x2.dZ x0.bM).bind fun y10=>
 (pe L (aa.dj x0 (add (add (add x0.count 1) 1) 1)) (bN.az (own:=add (mul 1000 (add x0.av 1)) (add x0.count 1)) (fg:=x2.dZ) (cq:=x1.cq) (first:=x1.body) (bY:=T.a01 (TL.of [T.aG y9.1,T.aG y9.2.1,T.aG y9.2.2.1,T.aG y9.2.2.2.1,T.aG y9.2.2.2.2,T.a01 (TL.of [T.a01 (TL.app (TL.of [T.aG 1]) y6),y7,T.a01 (TL.of [T.aG 3,T.name (add (mul x0.av 1048576) (add (add x0.count 1) 1))]),y8])])) (ours:=T.name (add (mul x0.av 1048576) (add (add x0.count 1) 1))) (bO:=x2.dx) (d:=y5.1) (out:=y5.2.2) (eI:=y5.2.1) (born:=x0.bA) (dK:=y10))).bind fun y11=>
 some ((y11.1,TL.of [T.a01 (TL.of [T.aG y9.1,T.aG y9.2.1,T.aG y9.2.2.1,T.aG y9.2.2.2.1,T.aG y9.2.2.2.2,T.a01 (TL.of [T.a01 (TL.app (TL.of [T.aG 1]) y6),y7,T.a01 (TL.of [T.aG 3,T.name (add (mul x0.av 1048576) (add (add x0.count 1) 1))]),y8])])]),true)
def nZ(L:Nat)(x0:aa)(x1:aj)(a:fk):Option (aa×(List aj)):=
 (iter (Y:=(List aj)) 197011 (fun r6:((List aj)×Int)=>
   bif aF r6.2 (TL.len a.body:Int)then
    aJ (!(aF r6.2 0))<|
    aJ (Nat.blt r6.2.toNat a.body.len)<|
    aJ (room ((r6.1++[(x0.bM,(x1.cq,TL.get a.body r6.2.toNat))]).length) 56)<|
    some (.inl (r6.1++[(x0.bM,x1.cq,TL.get a.body r6.2.toNat)],add r6.2 1))
   else
   some (.inr r6.1)) L ([],0)).bind fun y6=>
 some (a.g,y6)
def ga(L:Nat)(x0:aa)(x1:aj)(o:Option (fk×Bool))(k:Option (aa×(List aj))):Option (aa×(List aj)):=
 Option.bind o fun y=>bif !y.2 then k else nZ L x0 x1 y.1
def kF(L:Nat)(x0:aa)(x1:aj)(x2:bW):Option (aa×(List aj)):=
 (oy L x2).bind fun y4=>
 bif !y4.2 then some (x0,[])else
 ga L x0 x1 (qA L x0 x1 y4.1)<|
 ga L x0 x1 (kP L x0 x1 y4.1)<|
 ga L x0 x1 (pA L x0 x1 y4.1)<|
 ga L x0 x1 (o5 L x0 x1 y4.1)<|
 ga L x0 x1 (rI L x0 x1 y4.1)<|
 ga L x0 x1 (jL L x0 x1 y4.1)<|
 some (x0,[])
def eG(L:Nat)(x0:TL)(x1:Int):Option (Int×Bool):=
 (cj L x0 x1).bind fun y3=>
 bif !(aH (TL.len y3.1:Int) 1)then some (0,false)else
 aJ (Nat.blt 0 y3.1.len)<|
 bif !(aH (Tm.op (TL.get y3.1 0)) 1)then some (0,false)else
 aJ (Nat.blt 0 y3.1.len)<|
 some ((Tm.val (TL.get y3.1 0)),true)
def j4(L:Nat)(x1:Sa)(x2:Int)(x3:TL):Option (gh×Bool):=
 (cj L x3 6).bind fun y7=>
 bif aH (TL.len y7.1:Int) 2 then
  aJ (Nat.blt 0 y7.1.len)<|
  bif aH (Tm.op (TL.get y7.1 0)) 1 then
   aJ (Nat.blt 1 y7.1.len)<|
   (bq L (TL.get y7.1 1) x1.ours).bind fun y8=>
   bif aH y8 0 then
    aJ (Nat.blt 0 y7.1.len)<|
    some ((x2,TL.nil,(Tm.val (TL.get y7.1 0)),false),true)
   else
   some ((x2,TL.nil,x1.a0a,false),false)
  else
  some ((x2,TL.nil,x1.a0a,false),false)
 else
 some ((x2,TL.nil,x1.a0a,false),false)
def ox(L:Nat)(x0:aa)(x1:Sa)(x2:Int)(x3:TL):Option (gh×Bool):=
 (nH L x3 4).bind fun y5=>
 bif y5.2 then some ((x2,TL.of [y5.1],x1.a0a,false),true)else
 (eG L x3 5).bind fun y6=>
 bif y6.2 then
  bif !(aH y6.1 x2)then
   (iter (Y:=(Unit⊕Int)) 376002 (fun r7:Int=>
     bif aF r7 (x0.dB.length:Int)then
      aJ (!(aF r7 0))<|
      aJ (Nat.blt r7.toNat (x0.dB.length))<|
      bif aH y6.1 (x0.dB.getD r7.toNat 0)then some (.inr (.inr r7))else
      some (.inl (add r7 1))
     else
     some (.inr (.inl ()))) L 0).bind fun y7=>
   match y7 with
   | .inl _=>j4 L x1 x2 x3
   | .inr y8=>bif !(aF y8 0)then some ((y6.1,TL.nil,x1.a0a,true),true)else j4 L x1 x2 x3
  else
  j4 L x1 x2 x3
 else
 j4 L x1 x2 x3
def tg(x0:aa)(n i:Int)(s:Sa)(a:gh)(sD F:Tm):Option (aa×(List aj)×Int):=
 some (aa.bw x0 (count:=n) (u4:=List.set x0.u4 i.toNat (Sa.bw s (a0a:=a.a0a) (first:=F) (pending:=a04.bw s.pending (body:=F) (to:=a.a0a) (sent:=1) (sx:=add x0.bA 2) (eE:=sD)) (sK:=add s.sK 1))),[(s.bM,a.a0a,F)],0)
def oz(L:Nat)(x0:aa)(n:Int)(i:Int)(s:Sa)(a:gh)(sD:Tm)(cz:List Tm):Option (aa×(List aj)×Int):=
 (gM L x0.dB).bind fun y8=>
 aJ (room (TL.len (TL.app (TL.of [T.aG 1]) y8)) 40)<|
 (gE L a.kf sD).bind fun y9=>
 (pE L s.own s.bM a.a0a).bind fun y10=>
 (cJ L (bW.az (kind:=34) (eV:=s.own) (aV:=true) (parts:=TL.of (cz++[T.a01 (TL.app (TL.of [T.aG 1]) y8),y9,T.a01 (TL.of [T.aG 3,s.ours]),y10])))).bind fun y11=>
 aJ (!(aF i 0))<|
 aJ (Nat.blt i.toNat (x0.u4.length))<|
 tg x0 n i s a sD (T.a01 (TL.of [T.aG y11.1,T.aG y11.2.1,T.aG y11.2.2.1,T.aG y11.2.2.2.1,T.aG y11.2.2.2.2,T.a01 (TL.of (cz++[T.a01 (TL.app (TL.of [T.aG 1]) y8),y9,T.a01 (TL.of [T.aG 3,s.ours]),y10]))]))
def mY(L:Nat)(x0:aa)(n:Int)(i:Int)(s:Sa)(a:gh)(sD:Tm):Option (aa×(List aj)×Int):=
 bif aF 0 (TL.len a.qY:Int)then
  aJ (room (TL.len (TL.app (TL.of [T.aG 4]) a.qY)) 40)<|
  oz L x0 n i s a sD [T.a01 (TL.app (TL.of [T.aG 4]) a.qY)]
 else
 oz L x0 n i s a sD []
def tf(L:Nat)(x0:aa)(x1:aj)(x2:bW)(y4:Int)(s:Sa)(y6:Int):Option (aa×(List aj)×Int):=
 (eG L x2.parts 1).bind fun y8=>
 (fW L x2.parts).bind fun y9=>
 (kj L x2.parts).bind fun y10=>
 bif !(aF 0 x2.ia)then some (x0,[],0)else
 bif !y8.2 then some (x0,[],0)else
 bif !(aH y8.1 y6)then some (x0,[],0)else
 bif !y9.2.2 then some (x0,[],0)else
 bif !(aH y9.1 y6)then some (x0,[],0)else
 bif !y10.2 then some (x0,[],0)else
 (bq L y10.1 s.ours).bind fun y11=>
 bif aH y11 0 then some (x0,[],0)else
 (kQ L x2.parts x2.eV s.bM).bind fun y12=>
 (lT L s.ours y10.1 y9.2.1 s.pending.eE).bind fun y13=>
 (eM L y13 x2.eV x2.ia).bind fun y14=>
 aJ (!(aF y4 0))<|
 aJ (Nat.blt y4.toNat (x0.u4.length))<|
 some (aa.bI x0 (List.set x0.u4 y4.toNat (Sa.bw s (fg:=x2.ia) (d:=y14.1) (out:=y14.2.1) (eI:=y14.2.2) (bO:=y10.1) (bY:=x1.body) (dK:=y12))),[],s.own)
def td(L:Nat)(x0:aa)(x1:aj)(x2:bW)(y4:Int)(s:Sa):Option (aa×(List aj)×Int):=
 bif !s.aV then some (x0,[],0)else
 bif !(aH s.state 1)then some (x0,[],0)else
 bif !(aH s.pending.ax 1)then some (x0,[],0)else
 (fJ L s.pending.body).bind fun y5=>
 (fW L y5.1.parts).bind fun y6=>
 bif !(aH y5.1.kind 34)then some (x0,[],0)else
 (ox L x0 s y6.1 x2.parts).bind fun y7=>
 bif y7.2 then
  bif !(aF s.sK 3)then some (x0,[],0)else
  bif y7.1.eE then mY L x0 (add x0.count 1) y4 s y7.1 (T.name (add (mul x0.av 1048576) (add x0.count 1)))else
  mY L x0 x0.count y4 s y7.1 s.pending.eE
 else
 tf L x0 x1 x2 y4 s y6.1
def mX(L:Nat)(x0:aa)(x1:aj)(x2:bW):Option (aa×(List aj)×Int):=
 (bz L x0 x2.eV).bind fun y4=>
 bif aF y4 0 then some (x0,[],0)else
 bif x2.aV then some (x0,[],0)else
 bif !(aH x2.iD 0)then some (x0,[],0)else
 aJ (!(aF y4 0))<|
 aJ (Nat.blt y4.toNat (x0.u4.length))<|
 td L x0 x1 x2 y4 (x0.u4.getD y4.toNat Sa.az)
def rV(L:Nat)(x0:TL)(x1:Int):Option (Tm×Bool):=
 (cj L x0 x1).bind fun y3=>
 bif !(aH (TL.len y3.1:Int) 1)then some ((0,0,TL.nil),false)else
 aJ (Nat.blt 0 y3.1.len)<|
 some (TL.get y3.1 0,true)
def oM(L:Nat)(x0:TL):Option (Tm×Bool):=
 (rV L x0 3).bind fun y2=>
 bif y2.2 then some (y2.1,aH y2.1.op 2)else
 some (y2.1,false)
def qm(L:Nat)(x0:aa)(x1:Tm):Option (Tm×Bool):=
 (a38 L x0.mm x1).bind fun y3=>
 bif !y3.2 then some ((0,0,TL.nil),false)else
 bif !(aH y3.1.op 3)then some ((0,0,TL.nil),false)else
 bif !(aH (TL.len y3.1.args:Int) 3)then some ((0,0,TL.nil),false)else
 bif !(aF 1 (TL.len y3.1.args:Int))then
  bif !(aF 2 (TL.len y3.1.args:Int))then some ((0,0,TL.nil),false)else
  aJ (Nat.blt 2 y3.1.args.len)<|
  bif !(aH (Tm.op (TL.get y3.1.args 2)) 1)then some ((0,0,TL.nil),false)else
  aJ (Nat.blt 2 y3.1.args.len)<|
  some ((0,0,TL.nil),false)
 else
 aJ (Nat.blt 1 y3.1.args.len)<|
 bif !(aH (Tm.op (TL.get y3.1.args 1)) 1)then
  bif !(aF 2 (TL.len y3.1.args:Int))then some ((0,0,TL.nil),false)else
  aJ (Nat.blt 2 y3.1.args.len)<|
  bif !(aH (Tm.op (TL.get y3.1.args 2)) 1)then some ((0,0,TL.nil),false)else
  aJ (Nat.blt 2 y3.1.args.len)<|
  some ((0,0,TL.nil),false)
 else
 aJ (Nat.blt 1 y3.1.args.len)<|
 bif !(aF 2 (TL.len y3.1.args:Int))then some ((0,0,TL.nil),false)else
 aJ (Nat.blt 2 y3.1.args.len)<|
 bif !(aH (Tm.op (TL.get y3.1.args 2)) 1)then some ((0,0,TL.nil),false)else
 aJ (Nat.blt 2 y3.1.args.len)<|
 bif !(aH (Tm.val (TL.get y3.1.args 1)) x0.kS)then some ((0,0,TL.nil),false)else
 bif aF (Tm.val (TL.get y3.1.args 2)) x0.bA then some ((0,0,TL.nil),false)else
 aJ (Nat.blt 0 y3.1.args.len)<|
 some (TL.get y3.1.args 0,true)
def nN(L:Nat)(x0:Tm)(x1:Tm)(x2:Tm):Option Tm:=
 some (T.derive 9 (TL.of [x0,x1,x2]))
def mh(L:Nat)(x0:aa)(x1:aj)(x2:bW):Option (aa×(List aj)):=
 (rV L x2.parts 18).bind fun y4=>
 (oM L x2.parts).bind fun y5=>
 bif !x2.aV then some (x0,[])else
 bif !(aH x2.iD 0)then some (x0,[])else
 bif !(aH x2.ia 0)then some (x0,[])else
 bif !(aF 0 x2.eV)then some (x0,[])else
 bif !y4.2 then some (x0,[])else
 bif !y5.2 then some (x0,[])else
 (lH L x0 x1.body x1.cq).bind fun y6=>
 bif y6.2 then some (x0,[(x0.bM,x1.cq,y6.1.bY)])else
 (qm L x0 y4.1).bind fun y7=>
 bif !y7.2 then
  (cJ L (bW.az (kind:=38) (eV:=x2.eV) (bY:=true) (parts:=TL.of [T.a01 (TL.of [T.aG 12,T.aG 44])]))).bind fun y8=>
  some (x0,[(x0.bM,x1.cq,T.a01 (TL.of [T.aG y8.1,T.aG y8.2.1,T.aG y8.2.2.1,T.aG y8.2.2.2.1,T.aG y8.2.2.2.2,T.a01 (TL.of [T.a01 (TL.of [T.aG 12,T.aG 44])])]))])
 else
 bif !(aF (x0.aW.length:Int) 4)then some (x0,[])else
 (nN L y7.1 y5.1 (T.name (add (mul x0.av 1048576) (add (add x0.count 1) 1)))).bind fun y8=>
 (eM L y8 x2.eV (add (mul 1000 (add x0.av 1)) (add x0.count 1))).bind fun y9=>
 (pE L x2.eV x0.bM x1.cq).bind fun y10=>
 (cJ L (bW.az (kind:=38) (eV:=x2.eV) (ia:=add (mul 1000 (add x0.av 1)) (add x0.count 1)) (bY:=true) (parts:=TL.of [T.a01 (TL.of [T.aG 3,T.name (add (mul x0.av 1048576) (add (add x0.count 1) 1))]),y10]))).bind fun y11=>
 (kQ L x2.parts x2.eV x0.bM).bind fun y12=>
 (pe L (aa.dj x0 (add (add x0.count 1) 1)) (bN.az (own:=add (mul 1000 (add x0.av 1)) (add x0.count 1)) (fg:=x2.eV) (cq:=x1.cq) (first:=x1.body) (bY:=T.a01 (TL.of [T.aG y11.1,T.aG y11.2.1,T.aG y11.2.2.1,T.aG y11.2.2.2.1,T.aG y11.2.2.2.2,T.a01 (TL.of [T.a01 (TL.of [T.aG 3,T.name (add (mul x0.av 1048576) (add (add x0.count 1) 1))]),y10])])) (ours:=T.name (add (mul x0.av 1048576) (add (add x0.count 1) 1))) (bO:=y5.1) (d:=y9.1) (out:=y9.2.2) (eI:=y9.2.1) (born:=x0.bA) (dK:=y12))).bind fun y13=>
 some (y13.1,[(y13.1.bM,x1.cq,T.a01 (TL.of [T.aG y11.1,T.aG y11.2.1,T.aG y11.2.2.1,T.aG y11.2.2.2.1,T.aG y11.2.2.2.2,T.a01 (TL.of [T.a01 (TL.of [T.aG 3,T.name (add (mul x0.av 1048576) (add (add x0.count 1) 1))]),y10])]))])
def oL(L:Nat)(x0:aa)(x1:aj)(x2:bW):Option (aa×Int):=
 (bz L x0 x2.eV).bind fun y4=>
 bif aF y4 0 then some (x0,0)else
 bif x2.aV then some (x0,0)else
 bif !(aH x2.iD 0)then some (x0,0)else
 bif !(aF 0 x2.ia)then some (x0,0)else
 aJ (!(aF y4 0))<|
 aJ (Nat.blt y4.toNat (x0.u4.length))<|
 (fJ L (a04.body (Sa.pending (x0.u4.getD y4.toNat Sa.az)))).bind fun y5=>
 (oM L x2.parts).bind fun y6=>
 bif !(Sa.aV (x0.u4.getD y4.toNat Sa.az))then some (x0,0)else
 bif !(aH (Sa.state (x0.u4.getD y4.toNat Sa.az)) 1)then some (x0,0)else
 bif !(aH (a04.ax (Sa.pending (x0.u4.getD y4.toNat Sa.az))) 1)then some (x0,0)else
 bif !(aH y5.1.kind 38)then some (x0,0)else
 bif !y6.2 then some (x0,0)else
 (bq L y6.1 (Sa.ours (x0.u4.getD y4.toNat Sa.az))).bind fun y7=>
 bif aH y7 0 then some (x0,0)else
 (kQ L x2.parts x2.eV (Sa.bM (x0.u4.getD y4.toNat Sa.az))).bind fun y8=>
 (nN L (Sa.d (x0.u4.getD y4.toNat Sa.az)) (Sa.ours (x0.u4.getD y4.toNat Sa.az)) y6.1).bind fun y9=>
 (eM L y9 x2.eV x2.ia).bind fun y10=>
 aJ (!(aF y4 0))<|
 aJ (Nat.blt y4.toNat (x0.u4.length))<|
 some (aa.bI x0 (List.set x0.u4 y4.toNat (Sa.bw (x0.u4.getD y4.toNat Sa.az) (fg:=x2.ia) (d:=y10.1) (out:=y10.2.1) (eI:=y10.2.2) (bO:=y6.1) (bY:=x1.body) (dK:=y8))),(Sa.own (x0.u4.getD y4.toNat Sa.az)))
def jq(L:Nat)(x0:Int)(x1:Tm)(x2:Tm):Option Tm:=
 some (T.EI x0 (T.a01 (TL.of [x1,x2,T.aG x0])))
def fL(L:Nat)(x0:aa)(x1:Int):Option (List UInt8):=
 bif aF x1 0 then some []else
 bif !(aF x1 (x0.dh.length:Int))then some []else
 aJ (!(aF x1 0))<|
 aJ (Nat.blt x1.toNat (x0.dh.length))<|
 some (aQ.a0n (x0.dh.getD x1.toNat aQ.az))
def fA(L:Nat)(x0:aU)(x1:(List UInt8)):Option Tm:=
 (iter (Y:=TL) 320013 (fun r3:(TL×Int)=>
   bif aF r3.2 ((ey x1).length:Int)then
    aJ (!(aF r3.2 0))<|
    aJ (Nat.blt r3.2.toNat ((ey x1).length))<|
    aJ (room (TL.len (TL.app r3.1 (TL.of [T.aG (aY .i64 ((ey x1).getD r3.2.toNat 0))]))) 40)<|
    some (.inl (TL.app r3.1 (TL.of [T.aG (aY .i64 ((ey x1).getD r3.2.toNat 0))]),add r3.2 1))
   else
   some (.inr r3.1)) L (TL.of [T.aG (Address.bx ([x0.a0c,x0.cB,x0.bU,x0.bT].getD 0 Address.az)),T.aG (aY .i64 (Address.hi ([x0.a0c,x0.cB,x0.bU,x0.bT].getD 0 Address.az))),T.aG (aY .i64 (Address.lo ([x0.a0c,x0.cB,x0.bU,x0.bT].getD 0 Address.az))),T.aG (Address.bx ([x0.a0c,x0.cB,x0.bU,x0.bT].getD 1 Address.az)),T.aG (aY .i64 (Address.hi ([x0.a0c,x0.cB,x0.bU,x0.bT].getD 1 Address.az))),T.aG (aY .i64 (Address.lo ([x0.a0c,x0.cB,x0.bU,x0.bT].getD 1 Address.az))),T.aG (Address.bx ([x0.a0c,x0.cB,x0.bU,x0.bT].getD 2 Address.az)),T.aG (aY .i64 (Address.hi ([x0.a0c,x0.cB,x0.bU,x0.bT].getD 2 Address.az))),T.aG (aY .i64 (Address.lo ([x0.a0c,x0.cB,x0.bU,x0.bT].getD 2 Address.az))),T.aG (Address.bx ([x0.a0c,x0.cB,x0.bU,x0.bT].getD 3 Address.az)),T.aG (aY .i64 (Address.hi ([x0.a0c,x0.cB,x0.bU,x0.bT].getD 3 Address.az))),T.aG (aY .i64 (Address.lo ([x0.a0c,x0.cB,x0.bU,x0.bT].getD 3 Address.az))),T.aG ([x0.de,x0.a0m,x0.aL.1,x0.aL.2,x0.aI.1,x0.aI.2].getD 0 0),T.aG ([x0.de,x0.a0m,x0.aL.1,x0.aL.2,x0.aI.1,x0.aI.2].getD 1 0),T.aG ([x0.de,x0.a0m,x0.aL.1,x0.aL.2,x0.aI.1,x0.aI.2].getD 2 0),T.aG ([x0.de,x0.a0m,x0.aL.1,x0.aL.2,x0.aI.1,x0.aI.2].getD 3 0),T.aG ([x0.de,x0.a0m,x0.aL.1,x0.aL.2,x0.aI.1,x0.aI.2].getD 4 0),T.aG ([x0.de,x0.a0m,x0.aL.1,x0.aL.2,x0.aI.1,x0.aI.2].getD 5 0)],0)).bind fun y3=>
 aJ (room (TL.len (TL.app (TL.of [T.aG 11]) y3)) 40)<|
 some (T.a01 (TL.app (TL.of [T.aG 11]) y3))
def jo(L:Nat)(x0:aa)(x1:Int):Option (aa×(List aj)):=
 (bz L x0 x1).bind fun y3=>
 bif aF y3 0 then some (x0,[])else
 aJ (!(aF y3 0))<|
 aJ (Nat.blt y3.toNat (x0.u4.length))<|
 (jq L x0.av (Sa.first (x0.u4.getD y3.toNat Sa.az)) (Sa.bO (x0.u4.getD y3.toNat Sa.az))).bind fun y4=>
 (fL L (aa.dj x0 (add x0.count 1)) (a04.dm (Sa.pending (x0.u4.getD y3.toNat Sa.az)))).bind fun y5=>
 (fA L (a04.box (Sa.pending (x0.u4.getD y3.toNat Sa.az))) y5).bind fun y6=>
 (cJ L (bW.az (kind:=35) (eV:=(Sa.own (x0.u4.getD y3.toNat Sa.az))) (ia:=(Sa.fg (x0.u4.getD y3.toNat Sa.az))) (aV:=true) (iD:=1) (parts:=TL.app (TL.set (TL.app (TL.set (TL.of [(0,0,TL.nil)]) 0 (T.a01 (TL.of [T.aG 8,T.aG x0.av]))) (TL.of [(0,0,TL.nil)])) (TL.len (TL.set (TL.of [(0,0,TL.nil)]) 0 (T.a01 (TL.of [T.aG 8,T.aG x0.av])))) (T.a01 (TL.of [T.aG 9,y4]))) (TL.of [T.a01 (TL.of [T.aG 10,T.aG (add (mul 1000 (add x0.av 1)) (add x0.count 1))]),y6])))).bind fun y7=>
 (cJ L (bW.az (kind:=35) (eV:=(Sa.own (x0.u4.getD y3.toNat Sa.az))) (ia:=(Sa.fg (x0.u4.getD y3.toNat Sa.az))) (aV:=true) (iD:=1) (parts:=TL.app (TL.set (TL.app (TL.set (TL.of [(0,0,TL.nil)]) 0 (T.a01 (TL.of [T.aG 8,T.aG x0.av]))) (TL.of [(0,0,TL.nil)])) (TL.len (TL.set (TL.of [(0,0,TL.nil)]) 0 (T.a01 (TL.of [T.aG 8,T.aG x0.av])))) (T.a01 (TL.of [T.aG 9,y4]))) (TL.of [T.a01 (TL.of [T.aG 10,T.aG (add (mul 1000 (add x0.av 1)) (add x0.count 1))]),y6])))).bind fun y8=>
 some (aa.bw x0 (count:=add x0.count 1) (u4:=List.set x0.u4 y3.toNat (Sa.bw (x0.u4.getD y3.toNat Sa.az) (state:=2) (eZ:=2) (pending:=a04.az (ax:=2) (iD:=1) (body:=T.a01 (TL.of [T.aG y8.1,T.aG y8.2.1,T.aG y8.2.2.1,T.aG y8.2.2.2.1,T.aG y8.2.2.2.2,T.gq (Sa.out (x0.u4.getD y3.toNat Sa.az)) (T.a01 (TL.of [T.aG y7.1,T.aG y7.2.1,T.aG y7.2.2.1,T.aG y7.2.2.2.1,T.aG y7.2.2.2.2,T.a01 (TL.app (TL.set (TL.app (TL.set (TL.of [(0,0,TL.nil)]) 0 (T.a01 (TL.of [T.aG 8,T.aG x0.av]))) (TL.of [(0,0,TL.nil)])) (TL.len (TL.set (TL.of [(0,0,TL.nil)]) 0 (T.a01 (TL.of [T.aG 8,T.aG x0.av])))) (T.a01 (TL.of [T.aG 9,y4]))) (TL.of [T.a01 (TL.of [T.aG 10,T.aG (add (mul 1000 (add x0.av 1)) (add x0.count 1))]),y6]))]))])) (to:=(Sa.a0a (x0.u4.getD y3.toNat Sa.az))) (sent:=1) (sx:=add x0.bA 2) (dZ:=add (mul 1000 (add x0.av 1)) (add x0.count 1)) (dm:=(a04.dm (Sa.pending (x0.u4.getD y3.toNat Sa.az)))) (box:=(a04.box (Sa.pending (x0.u4.getD y3.toNat Sa.az))))))),[((Sa.bM (x0.u4.getD y3.toNat Sa.az)),(Sa.a0a (x0.u4.getD y3.toNat Sa.az)),T.a01 (TL.of [T.aG y8.1,T.aG y8.2.1,T.aG y8.2.2.1,T.aG y8.2.2.2.1,T.aG y8.2.2.2.2,T.gq (Sa.out (x0.u4.getD y3.toNat Sa.az)) (T.a01 (TL.of [T.aG y7.1,T.aG y7.2.1,T.aG y7.2.2.1,T.aG y7.2.2.2.1,T.aG y7.2.2.2.2,T.a01 (TL.app (TL.set (TL.app (TL.set (TL.of [(0,0,TL.nil)]) 0 (T.a01 (TL.of [T.aG 8,T.aG x0.av]))) (TL.of [(0,0,TL.nil)])) (TL.len (TL.set (TL.of [(0,0,TL.nil)]) 0 (T.a01 (TL.of [T.aG 8,T.aG x0.av])))) (T.a01 (TL.of [T.aG 9,y4]))) (TL.of [T.a01 (TL.of [T.aG 10,T.aG (add (mul 1000 (add x0.av 1)) (add x0.count 1))]),y6]))]))]))])
def lQ(L:Nat)(x0:aa)(x1:aj)(x2:bW):Option (aa×(List aj)):=
 bif aH x2.kind 38 then
  (oL L x0 x1 x2).bind fun y4=>
  bif aH y4.2 0 then some (y4.1,[])else
  (jo L y4.1 y4.2).bind fun y5=>
  aJ (room y5.2.length 56)<|
  some y5
 else
 some (x0,[])
def a3F(L:Nat)(x0:aa)(x1:aj)(x2:bW):Option (aa×(List aj)):=
 bif aH x2.kind 38 then
  bif !x2.bY then(mh L x0 x1 x2).bind fun y=>some y else lQ L x0 x1 x2
 else
 lQ L x0 x1 x2
def lR(L:Nat)(x0:aa)(x1:aj)(x2:bW):Option (aa×(List aj)):=
 bif aH x2.kind 34 then
  (mX L x0 x1 x2).bind fun y4=>
  bif aH y4.2.2 0 then some (y4.1,y4.2.1)else
  (jo L y4.1 y4.2.2).bind fun y5=>
  aJ (room ((y4.2.1++y5.2).length) 56)<|
  some (y5.1,y4.2.1++y5.2)
 else
 a3F L x0 x1 x2
def mU(L:Nat)(x0:aa)(x1:aj)(x2:bW):Option (aa×(List aj)):=
 bif aH x2.kind 34 then
  bif !x2.bY then(kF L x0 x1 x2).bind fun y=>some y else lR L x0 x1 x2
 else
 lR L x0 x1 x2
def oU(L:Nat)(x0:aa)(x1:Int):Option Int:=
 (iter (Y:=(Unit⊕Int)) 202002 (fun r3:Int=>
   bif aF r3 (x0.aW.length:Int)then
    aJ (!(aF r3 0))<|
    aJ (Nat.blt r3.toNat (x0.aW.length))<|
    bif aH (bN.own (x0.aW.getD r3.toNat bN.az)) x1 then some (.inr (.inr r3))else
    some (.inl (add r3 1))
   else
   some (.inr (.inl ()))) L 0).bind fun y3=>
 match y3 with
 | .inl y4=>
   some (-1)
 | .inr y4=>
   some y4
def a3l(L:Nat)(x0:Tm)(x1:Tm):Option (bW×Bool):=
 (fJ L x1).bind fun y3=>
 bif !y3.2.2 then some (bW.az,false)else
 bif !y3.2.1 then some (bW.az,false)else
 aJ (Nat.blt 5 x1.args.len)<|
 (a38 L x0 (TL.get x1.args 5)).bind fun y4=>
 bif !y4.2 then some (bW.az,false)else
 bif !(aH y4.1.op 3)then some (bW.az,false)else
 bif !(aH (TL.len y4.1.args:Int) 6)then some (bW.az,false)else
 aJ (Nat.blt 0 y4.1.args.len)<|
 aJ (Nat.blt 0 x1.args.len)<|
 (bq L (TL.get y4.1.args 0) (TL.get x1.args 0)).bind fun y5=>
 bif !(aH y5 0)then some (bW.az,false)else
 aJ (Nat.blt 1 y4.1.args.len)<|
 aJ (Nat.blt 1 x1.args.len)<|
 (bq L (TL.get y4.1.args 1) (TL.get x1.args 1)).bind fun y6=>
 bif !(aH y6 0)then some (bW.az,false)else
 aJ (Nat.blt 2 y4.1.args.len)<|
 aJ (Nat.blt 2 x1.args.len)<|
 (bq L (TL.get y4.1.args 2) (TL.get x1.args 2)).bind fun y7=>
 bif !(aH y7 0)then some (bW.az,false)else
 aJ (Nat.blt 3 y4.1.args.len)<|
 aJ (Nat.blt 3 x1.args.len)<|
 (bq L (TL.get y4.1.args 3) (TL.get x1.args 3)).bind fun y8=>
 bif !(aH y8 0)then some (bW.az,false)else
 aJ (Nat.blt 4 y4.1.args.len)<|
 aJ (Nat.blt 4 x1.args.len)<|
 (bq L (TL.get y4.1.args 4) (TL.get x1.args 4)).bind fun y9=>
 bif !(aH y9 0)then some (bW.az,false)else
 aJ (Nat.blt 5 y4.1.args.len)<|
 (kz L (TL.get y4.1.args 5)).bind fun y10=>
 bif !y10.2 then some (bW.az,false)else
 some (bW.HZ y3.1 y10.1,true)
def mM(L:Nat)(x0:aa)(x1:Int):Option aa:=
 (oU L x0 x1).bind fun y3=>
 bif aF y3 0 then some x0 else
 aJ (!(aF y3 0))<|
 aJ (!(aF (add y3 1) 0))<|
 aJ ((Nat.ble y3.toNat (Int.toNat (add y3 1)))&&(Nat.ble (Int.toNat (add y3 1)) (x0.aW.length)))<|
 some (aa.pT x0 ((List.take y3.toNat x0.aW)++(List.drop (Int.toNat (add y3 1)) x0.aW)))
def nB(L:Nat)(x0:TL)(x1:Int)(x2:Tm)(x3:Tm):Option Bool:=
 (eG L x0 8).bind fun y5=>
 (cj L x0 9).bind fun y6=>
 bif y5.2 then
  bif aH y5.1 x1 then
   bif aH (TL.len y6.1:Int) 1 then
    aJ (Nat.blt 0 y6.1.len)<|
    (jq L x1 x2 x3).bind fun y7=>
    (bq L (TL.get y6.1 0) y7).bind fun y8=>
    some (aH y8 0)
   else
   some false
  else
  some false
 else
 some false
def oO(L:Nat)(x0:aU):Option aU:=
 some (aU.az (a0c:=x0.bU) (cB:=x0.bT) (bU:=x0.a0c) (bT:=x0.cB) (de:=x0.de) (a0m:=x0.a0m) (aL:=x0.aI) (aI:=x0.aL))
def dw(L:Nat)(x0:gu)(x1:gu):Option (gu×Bool):=
 (bV L x1.lo x0.lo).bind fun y3=>
 bif aF 0 y3 then
  (bV L x1.hi x0.hi).bind fun y4=>
  bif aF y4 0 then
   (bV L x1.lo x1.hi).bind fun y5=>
   some (x1,!(aF 0 y5))
  else
  (bV L x1.lo x0.hi).bind fun y5=>
  some (gu.TF x1 x0.hi,!(aF 0 y5))
 else
 (bV L x1.hi x0.hi).bind fun y4=>
 bif aF y4 0 then
  (bV L x0.lo x1.hi).bind fun y5=>
  some (gu.TF x0 x1.hi,!(aF 0 y5))
 else
 (bV L x0.lo x0.hi).bind fun y5=>
 some (x0,!(aF 0 y5))
def iq(L:Nat)(x0:aU)(x1:aU):Option (aU×Bool):=
 (dw L (x0.a0c,x0.cB) (x1.a0c,x1.cB)).bind fun y3=>
 bif !y3.2 then some (aU.az,false)else
 (dw L (x0.bU,x0.bT) (x1.bU,x1.bT)).bind fun y4=>
 bif !y4.2 then some (aU.az,false)else
 (dw L ((0,0,aY .u64 (add x0.de 1)),(0,0,aY .u64 (add x0.a0m 1))) ((0,0,aY .u64 (add x1.de 1)),(0,0,aY .u64 (add x1.a0m 1)))).bind fun y5=>
 bif !y5.2 then some (aU.az,false)else
 (dw L ((0,0,aY .u64 (add (x0.aL.1) 1)),(0,0,aY .u64 (add (x0.aL.2) 1))) ((0,0,aY .u64 (add (x1.aL.1) 1)),(0,0,aY .u64 (add (x1.aL.2) 1)))).bind fun y6=>
 bif !y6.2 then some (aU.az,false)else
 (dw L ((0,0,aY .u64 (add (x0.aI.1) 1)),(0,0,aY .u64 (add (x0.aI.2) 1))) ((0,0,aY .u64 (add (x1.aI.1) 1)),(0,0,aY .u64 (add (x1.aI.2) 1)))).bind fun y7=>
 bif !y7.2 then some (aU.az,false)else
 some (aU.az (a0c:=y3.1.lo) (cB:=y3.1.hi) (bU:=y4.1.lo) (bT:=y4.1.hi) (de:=sub (aY .i64 y5.1.lo.lo) 1) (a0m:=sub (aY .i64 y5.1.hi.lo) 1) (aL:=(sub (aY .i64 y6.1.lo.lo) 1,sub (aY .i64 y6.1.hi.lo) 1)) (aI:=(sub (aY .i64 y7.1.lo.lo) 1,sub (aY .i64 y7.1.hi.lo) 1)),true)
def a3v(L:Nat)(x0:(List aQ))(x1:aU)(x2:(List UInt8)):Option (Int×aU×Bool):=
 (oO L x1).bind fun y4=>
 (iter (Y:=(aU⊕(Int×Bool×aU))) 294003 (fun r5:(Int×aU)=>
   bif aF r5.1 (x0.length:Int)then
    aJ (!(aF r5.1 0))<|
    aJ (Nat.blt r5.1.toNat x0.length)<|
    bif !(aH (aQ.cO (x0.getD r5.1.toNat aQ.az)) 2)then some (.inl (add r5.1 1,r5.2))else
    bif !(Jk (aQ.a0n (x0.getD r5.1.toNat aQ.az)) x2)then some (.inl (add r5.1 1,r5.2))else
    (iter (Y:=(aU⊕(Int×Bool×aU))) 294007 (fun r6:(Int×aU)=>
      bif aF r6.1 ((aQ.cI (x0.getD r5.1.toNat aQ.az)).length:Int)then
       aJ (!(aF r6.1 0))<|
       aJ (Nat.blt r6.1.toNat ((aQ.cI (x0.getD r5.1.toNat aQ.az)).length))<|
       (iq L y4 ((aQ.cI (x0.getD r5.1.toNat aQ.az)).getD r6.1.toNat aU.az)).bind fun y7=>
       bif y7.2 then some (.inr (.inr (r5.1,true,y7.1)))else
       some (.inl (add r6.1 1,r6.2))
      else
      some (.inr (.inl r6.2))) L (0,r5.2)).bind fun y6=>
    match y6 with
    | .inl y7=>
      some (.inl (add r5.1 1,y7))
    | .inr y7=>
      some (.inr (.inr y7))
   else
   some (.inr (.inl r5.2))) L (0,aU.az)).bind fun y5=>
 match y5 with
 | .inl y6=>
   some (0,aU.az,false)
 | .inr y6=>
   some (y6.1,y6.2.2,y6.2.1)
def vt(L:Nat)(x0:Int):Option (cC×Int):=
 bif aF x0 1 then some ((0,0,[]),5)else
 bif aF 1024 x0 then some ((0,0,[]),5)else
 aJ (!(aF (quo (add x0 63) 64) 0))<|
 aJ (!(aF (quo (add x0 63) 64) 0))<|
 aJ (((Nat.ble (Int.toNat (quo (add x0 63) 64)) (Int.toNat (quo (add x0 63) 64)))&&(room (Int.toNat (quo (add x0 63) 64)) 8))&&(Nat.ble (Int.toNat (quo (add x0 63) 64)) 9223372036854775807))<|
 some ((x0,0,List.replicate (Int.toNat (quo (add x0 63) 64)) 0),0)
def js(L:Nat)(x0:Sa)(x1:Int)(x2:Int)(x3:Int)(x4:aU)(x5:Bool)(x6:Tm)(x7:Tm):Option a00:=
 (vt L 6).bind fun y9=>
 bif !x5 then
  bif !x5 then
   some (a00.az (eI:=x1) (out:=x2) (sa:=x0.own) (dm:=x3) (box:=x4) (sy:=T.derive 5 (TL.of [x0.d,x7,x6])) (o6:=T.derive 6 (TL.of [x0.d,x7,x6])) (aV:=x5) (ours:=x6) (bO:=x7) (state:=1) (iS:=y9.1))
  else
  some (a00.az (eI:=x1) (out:=x2) (sa:=x0.own) (dm:=x3) (box:=x4) (sy:=T.derive 6 (TL.of [x0.d,x7,x6])) (o6:=T.derive 5 (TL.of [x0.d,x7,x6])) (aV:=x5) (ours:=x6) (bO:=x7) (state:=1) (iS:=y9.1))
 else
 bif !x5 then
  some (a00.az (eI:=x1) (out:=x2) (sa:=x0.own) (dm:=x3) (box:=x4) (sy:=T.derive 5 (TL.of [x0.d,x6,x7])) (o6:=T.derive 6 (TL.of [x0.d,x6,x7])) (aV:=x5) (ours:=x6) (bO:=x7) (state:=1) (iS:=y9.1))
 else
 some (a00.az (eI:=x1) (out:=x2) (sa:=x0.own) (dm:=x3) (box:=x4) (sy:=T.derive 6 (TL.of [x0.d,x6,x7])) (o6:=T.derive 5 (TL.of [x0.d,x6,x7])) (aV:=x5) (ours:=x6) (bO:=x7) (state:=1) (iS:=y9.1))
def gI(L:Nat)(x0:Address):Option Bool:=
 bif aH x0.bx 6 then some true else
 bif aH x0.bx 4 then
  bif aH x0.hi 0 then some (aF x0.lo 4294967296)else
  some false
 else
 some false
def jY(L:Nat)(x0:jZ)(x1:jZ):Option Bool:=
 bif !(aH x0.kD.bx x1.kD.bx)then some (aF x0.kD.bx x1.kD.bx)else
 bif !(aH x0.kD.hi x1.kD.hi)then some (aF x0.kD.hi x1.kD.hi)else
 some (aF x0.kD.lo x1.kD.lo)
def a2W(L:Nat)(x0:Address)(x1:Address):Option Bool:=
 (jY L (x0,()) (x1,())).bind fun y3=>
 some y3
def iZ(L:Nat)(x0:aU):Option Int:=
 (gI L ([x0.a0c,x0.cB,x0.bU,x0.bT].getD 0 Address.az)).bind fun y2=>
 bif !y2 then some 15 else
 bif !(aH (Address.bx ([x0.a0c,x0.cB,x0.bU,x0.bT].getD 0 Address.az)) x0.a0c.bx)then some 15 else
 (gI L ([x0.a0c,x0.cB,x0.bU,x0.bT].getD 1 Address.az)).bind fun y3=>
 bif !y3 then some 15 else
 bif !(aH (Address.bx ([x0.a0c,x0.cB,x0.bU,x0.bT].getD 1 Address.az)) x0.a0c.bx)then some 15 else
 (gI L ([x0.a0c,x0.cB,x0.bU,x0.bT].getD 2 Address.az)).bind fun y4=>
 bif !y4 then some 15 else
 bif !(aH (Address.bx ([x0.a0c,x0.cB,x0.bU,x0.bT].getD 2 Address.az)) x0.a0c.bx)then some 15 else
 (gI L ([x0.a0c,x0.cB,x0.bU,x0.bT].getD 3 Address.az)).bind fun y5=>
 bif !y5 then some 15 else
 bif !(aH (Address.bx ([x0.a0c,x0.cB,x0.bU,x0.bT].getD 3 Address.az)) x0.a0c.bx)then some 15 else
 (a2W L x0.cB x0.a0c).bind fun y6=>
 bif y6 then some 5 else
 (a2W L x0.bT x0.bU).bind fun y7=>
 bif y7 then some 5 else
 bif aF x0.de 0 then some 5 else
 bif aF 255 x0.a0m then some 5 else
 bif aF x0.a0m x0.de then some 5 else
 bif aF (([x0.aL,x0.aI].getD 0 (0,0)).1) (-1)then some 5 else
 bif aF 65535 (([x0.aL,x0.aI].getD 0 (0,0)).2)then some 5 else
 bif aF (([x0.aL,x0.aI].getD 0 (0,0)).2) (([x0.aL,x0.aI].getD 0 (0,0)).1)then some 5 else
 bif aF (([x0.aL,x0.aI].getD 1 (0,0)).1) (-1)then some 5 else
 bif aF 65535 (([x0.aL,x0.aI].getD 1 (0,0)).2)then some 5 else
 bif aF (([x0.aL,x0.aI].getD 1 (0,0)).2) (([x0.aL,x0.aI].getD 1 (0,0)).1)then some 5 else
 some 0
def j0(L:Nat)(x0:TL):Option (aU×(List UInt8)×Bool):=
 (iter (Y:=(ag×aU)) 345004 (fun r2:(Int×ag×aU)=>
   bif aF r2.1 4 then
    bif aH r2.1 0 then
     bif r2.2.1.wR then some (.inl (add r2.1 1,ag.jV r2.2.1 true,aU.jd r2.2.2 (0,0,0)))else
     bif !(aF r2.2.1.at_ (TL.len r2.2.1.l:Int))then some (.inl (add r2.1 1,ag.jV r2.2.1 true,aU.jd r2.2.2 (0,0,0)))else
     aJ (!(aF (sub (add r2.2.1.at_ 1) 1) 0))<|
     aJ (Nat.blt (Int.toNat (sub (add r2.2.1.at_ 1) 1)) r2.2.1.l.len)<|
     bif !(aH (Tm.op (TL.get r2.2.1.l (Int.toNat (sub (add r2.2.1.at_ 1) 1)))) 1)then
      some (.inl (add r2.1 1,(r2.2.1.l,add r2.2.1.at_ 1,true),aU.jd r2.2.2 ((Tm.val (TL.get r2.2.1.l (Int.toNat (sub (add r2.2.1.at_ 1) 1)))),0,0)))
     else
     bif r2.2.1.wR then
      some (.inl (add r2.1 1,(r2.2.1.l,add r2.2.1.at_ 1,true),aU.jd r2.2.2 ((Tm.val (TL.get r2.2.1.l (Int.toNat (sub (add r2.2.1.at_ 1) 1)))),0,0)))
     else
     bif !(aF (add r2.2.1.at_ 1) (TL.len r2.2.1.l:Int))then
      some (.inl (add r2.1 1,(r2.2.1.l,add r2.2.1.at_ 1,true),aU.jd r2.2.2 ((Tm.val (TL.get r2.2.1.l (Int.toNat (sub (add r2.2.1.at_ 1) 1)))),0,0)))
     else
     aJ (!(aF (sub (add (add r2.2.1.at_ 1) 1) 1) 0))<|
     aJ (Nat.blt (Int.toNat (sub (add (add r2.2.1.at_ 1) 1) 1)) r2.2.1.l.len)<|
     bif !(aH (Tm.op (TL.get r2.2.1.l (Int.toNat (sub (add (add r2.2.1.at_ 1) 1) 1)))) 1)then
      some (.inl (add r2.1 1,(r2.2.1.l,add (add r2.2.1.at_ 1) 1,true),aU.jd r2.2.2 ((Tm.val (TL.get r2.2.1.l (Int.toNat (sub (add r2.2.1.at_ 1) 1)))),aY .u64 (Tm.val (TL.get r2.2.1.l (Int.toNat (sub (add (add r2.2.1.at_ 1) 1) 1)))),0)))
     else
     bif r2.2.1.wR then
      some (.inl (add r2.1 1,(r2.2.1.l,add (add r2.2.1.at_ 1) 1,true),aU.jd r2.2.2 ((Tm.val (TL.get r2.2.1.l (Int.toNat (sub (add r2.2.1.at_ 1) 1)))),aY .u64 (Tm.val (TL.get r2.2.1.l (Int.toNat (sub (add (add r2.2.1.at_ 1) 1) 1)))),0)))
     else
     bif !(aF (add (add r2.2.1.at_ 1) 1) (TL.len r2.2.1.l:Int))then
      some (.inl (add r2.1 1,(r2.2.1.l,add (add r2.2.1.at_ 1) 1,true),aU.jd r2.2.2 ((Tm.val (TL.get r2.2.1.l (Int.toNat (sub (add r2.2.1.at_ 1) 1)))),aY .u64 (Tm.val (TL.get r2.2.1.l (Int.toNat (sub (add (add r2.2.1.at_ 1) 1) 1)))),0)))
     else
     aJ (!(aF (sub (add (add (add r2.2.1.at_ 1) 1) 1) 1) 0))<|
     aJ (Nat.blt (Int.toNat (sub (add (add (add r2.2.1.at_ 1) 1) 1) 1)) r2.2.1.l.len)<|
     bif !(aH (Tm.op (TL.get r2.2.1.l (Int.toNat (sub (add (add (add r2.2.1.at_ 1) 1) 1) 1)))) 1)then
      some (.inl (add r2.1 1,(r2.2.1.l,add (add (add r2.2.1.at_ 1) 1) 1,true),aU.jd r2.2.2 ((Tm.val (TL.get r2.2.1.l (Int.toNat (sub (add r2.2.1.at_ 1) 1)))),aY .u64 (Tm.val (TL.get r2.2.1.l (Int.toNat (sub (add (add r2.2.1.at_ 1) 1) 1)))),aY .u64 (Tm.val (TL.get r2.2.1.l (Int.toNat (sub (add (add (add r2.2.1.at_ 1) 1) 1) 1)))))))
     else
     some (.inl (add r2.1 1,ag.oe r2.2.1 (add (add (add r2.2.1.at_ 1) 1) 1),aU.jd r2.2.2 ((Tm.val (TL.get r2.2.1.l (Int.toNat (sub (add r2.2.1.at_ 1) 1)))),aY .u64 (Tm.val (TL.get r2.2.1.l (Int.toNat (sub (add (add r2.2.1.at_ 1) 1) 1)))),aY .u64 (Tm.val (TL.get r2.2.1.l (Int.toNat (sub (add (add (add r2.2.1.at_ 1) 1) 1) 1)))))))
    else
    bif aH r2.1 1 then
     bif r2.2.1.wR then some (.inl (add r2.1 1,ag.jV r2.2.1 true,aU.jc r2.2.2 (0,0,0)))else
     bif !(aF r2.2.1.at_ (TL.len r2.2.1.l:Int))then some (.inl (add r2.1 1,ag.jV r2.2.1 true,aU.jc r2.2.2 (0,0,0)))else
     aJ (!(aF (sub (add r2.2.1.at_ 1) 1) 0))<|
     aJ (Nat.blt (Int.toNat (sub (add r2.2.1.at_ 1) 1)) r2.2.1.l.len)<|
     bif !(aH (Tm.op (TL.get r2.2.1.l (Int.toNat (sub (add r2.2.1.at_ 1) 1)))) 1)then
      some (.inl (add r2.1 1,(r2.2.1.l,add r2.2.1.at_ 1,true),aU.jc r2.2.2 ((Tm.val (TL.get r2.2.1.l (Int.toNat (sub (add r2.2.1.at_ 1) 1)))),0,0)))
     else
     bif r2.2.1.wR then
      some (.inl (add r2.1 1,(r2.2.1.l,add r2.2.1.at_ 1,true),aU.jc r2.2.2 ((Tm.val (TL.get r2.2.1.l (Int.toNat (sub (add r2.2.1.at_ 1) 1)))),0,0)))
     else
     bif !(aF (add r2.2.1.at_ 1) (TL.len r2.2.1.l:Int))then
      some (.inl (add r2.1 1,(r2.2.1.l,add r2.2.1.at_ 1,true),aU.jc r2.2.2 ((Tm.val (TL.get r2.2.1.l (Int.toNat (sub (add r2.2.1.at_ 1) 1)))),0,0)))
     else
     aJ (!(aF (sub (add (add r2.2.1.at_ 1) 1) 1) 0))<|
     aJ (Nat.blt (Int.toNat (sub (add (add r2.2.1.at_ 1) 1) 1)) r2.2.1.l.len)<|
     bif !(aH (Tm.op (TL.get r2.2.1.l (Int.toNat (sub (add (add r2.2.1.at_ 1) 1) 1)))) 1)then
      some (.inl (add r2.1 1,(r2.2.1.l,add (add r2.2.1.at_ 1) 1,true),aU.jc r2.2.2 ((Tm.val (TL.get r2.2.1.l (Int.toNat (sub (add r2.2.1.at_ 1) 1)))),aY .u64 (Tm.val (TL.get r2.2.1.l (Int.toNat (sub (add (add r2.2.1.at_ 1) 1) 1)))),0)))
     else
     bif r2.2.1.wR then
      some (.inl (add r2.1 1,(r2.2.1.l,add (add r2.2.1.at_ 1) 1,true),aU.jc r2.2.2 ((Tm.val (TL.get r2.2.1.l (Int.toNat (sub (add r2.2.1.at_ 1) 1)))),aY .u64 (Tm.val (TL.get r2.2.1.l (Int.toNat (sub (add (add r2.2.1.at_ 1) 1) 1)))),0)))
     else
     bif !(aF (add (add r2.2.1.at_ 1) 1) (TL.len r2.2.1.l:Int))then
      some (.inl (add r2.1 1,(r2.2.1.l,add (add r2.2.1.at_ 1) 1,true),aU.jc r2.2.2 ((Tm.val (TL.get r2.2.1.l (Int.toNat (sub (add r2.2.1.at_ 1) 1)))),aY .u64 (Tm.val (TL.get r2.2.1.l (Int.toNat (sub (add (add r2.2.1.at_ 1) 1) 1)))),0)))
     else
     aJ (!(aF (sub (add (add (add r2.2.1.at_ 1) 1) 1) 1) 0))<|
     aJ (Nat.blt (Int.toNat (sub (add (add (add r2.2.1.at_ 1) 1) 1) 1)) r2.2.1.l.len)<|
     bif !(aH (Tm.op (TL.get r2.2.1.l (Int.toNat (sub (add (add (add r2.2.1.at_ 1) 1) 1) 1)))) 1)then
      some (.inl (add r2.1 1,(r2.2.1.l,add (add (add r2.2.1.at_ 1) 1) 1,true),aU.jc r2.2.2 ((Tm.val (TL.get r2.2.1.l (Int.toNat (sub (add r2.2.1.at_ 1) 1)))),aY .u64 (Tm.val (TL.get r2.2.1.l (Int.toNat (sub (add (add r2.2.1.at_ 1) 1) 1)))),aY .u64 (Tm.val (TL.get r2.2.1.l (Int.toNat (sub (add (add (add r2.2.1.at_ 1) 1) 1) 1)))))))
     else
     some (.inl (add r2.1 1,ag.oe r2.2.1 (add (add (add r2.2.1.at_ 1) 1) 1),aU.jc r2.2.2 ((Tm.val (TL.get r2.2.1.l (Int.toNat (sub (add r2.2.1.at_ 1) 1)))),aY .u64 (Tm.val (TL.get r2.2.1.l (Int.toNat (sub (add (add r2.2.1.at_ 1) 1) 1)))),aY .u64 (Tm.val (TL.get r2.2.1.l (Int.toNat (sub (add (add (add r2.2.1.at_ 1) 1) 1) 1)))))))
    else
    bif aH r2.1 2 then
     bif r2.2.1.wR then some (.inl (add r2.1 1,ag.jV r2.2.1 true,aU.ig r2.2.2 (0,0,0)))else
     bif !(aF r2.2.1.at_ (TL.len r2.2.1.l:Int))then some (.inl (add r2.1 1,ag.jV r2.2.1 true,aU.ig r2.2.2 (0,0,0)))else
     aJ (!(aF (sub (add r2.2.1.at_ 1) 1) 0))<|
     aJ (Nat.blt (Int.toNat (sub (add r2.2.1.at_ 1) 1)) r2.2.1.l.len)<|
     bif !(aH (Tm.op (TL.get r2.2.1.l (Int.toNat (sub (add r2.2.1.at_ 1) 1)))) 1)then
      some (.inl (add r2.1 1,(r2.2.1.l,add r2.2.1.at_ 1,true),aU.ig r2.2.2 ((Tm.val (TL.get r2.2.1.l (Int.toNat (sub (add r2.2.1.at_ 1) 1)))),0,0)))
     else
     bif r2.2.1.wR then
      some (.inl (add r2.1 1,(r2.2.1.l,add r2.2.1.at_ 1,true),aU.ig r2.2.2 ((Tm.val (TL.get r2.2.1.l (Int.toNat (sub (add r2.2.1.at_ 1) 1)))),0,0)))
     else
     bif !(aF (add r2.2.1.at_ 1) (TL.len r2.2.1.l:Int))then
      some (.inl (add r2.1 1,(r2.2.1.l,add r2.2.1.at_ 1,true),aU.ig r2.2.2 ((Tm.val (TL.get r2.2.1.l (Int.toNat (sub (add r2.2.1.at_ 1) 1)))),0,0)))
     else
     aJ (!(aF (sub (add (add r2.2.1.at_ 1) 1) 1) 0))<|
     aJ (Nat.blt (Int.toNat (sub (add (add r2.2.1.at_ 1) 1) 1)) r2.2.1.l.len)<|
     bif !(aH (Tm.op (TL.get r2.2.1.l (Int.toNat (sub (add (add r2.2.1.at_ 1) 1) 1)))) 1)then
      some (.inl (add r2.1 1,(r2.2.1.l,add (add r2.2.1.at_ 1) 1,true),aU.ig r2.2.2 ((Tm.val (TL.get r2.2.1.l (Int.toNat (sub (add r2.2.1.at_ 1) 1)))),aY .u64 (Tm.val (TL.get r2.2.1.l (Int.toNat (sub (add (add r2.2.1.at_ 1) 1) 1)))),0)))
     else
     bif r2.2.1.wR then
      some (.inl (add r2.1 1,(r2.2.1.l,add (add r2.2.1.at_ 1) 1,true),aU.ig r2.2.2 ((Tm.val (TL.get r2.2.1.l (Int.toNat (sub (add r2.2.1.at_ 1) 1)))),aY .u64 (Tm.val (TL.get r2.2.1.l (Int.toNat (sub (add (add r2.2.1.at_ 1) 1) 1)))),0)))
     else
     bif !(aF (add (add r2.2.1.at_ 1) 1) (TL.len r2.2.1.l:Int))then
      some (.inl (add r2.1 1,(r2.2.1.l,add (add r2.2.1.at_ 1) 1,true),aU.ig r2.2.2 ((Tm.val (TL.get r2.2.1.l (Int.toNat (sub (add r2.2.1.at_ 1) 1)))),aY .u64 (Tm.val (TL.get r2.2.1.l (Int.toNat (sub (add (add r2.2.1.at_ 1) 1) 1)))),0)))
     else
     aJ (!(aF (sub (add (add (add r2.2.1.at_ 1) 1) 1) 1) 0))<|
     aJ (Nat.blt (Int.toNat (sub (add (add (add r2.2.1.at_ 1) 1) 1) 1)) r2.2.1.l.len)<|
     bif !(aH (Tm.op (TL.get r2.2.1.l (Int.toNat (sub (add (add (add r2.2.1.at_ 1) 1) 1) 1)))) 1)then
      some (.inl (add r2.1 1,(r2.2.1.l,add (add (add r2.2.1.at_ 1) 1) 1,true),aU.ig r2.2.2 ((Tm.val (TL.get r2.2.1.l (Int.toNat (sub (add r2.2.1.at_ 1) 1)))),aY .u64 (Tm.val (TL.get r2.2.1.l (Int.toNat (sub (add (add r2.2.1.at_ 1) 1) 1)))),aY .u64 (Tm.val (TL.get r2.2.1.l (Int.toNat (sub (add (add (add r2.2.1.at_ 1) 1) 1) 1)))))))
     else
     some (.inl (add r2.1 1,ag.oe r2.2.1 (add (add (add r2.2.1.at_ 1) 1) 1),aU.ig r2.2.2 ((Tm.val (TL.get r2.2.1.l (Int.toNat (sub (add r2.2.1.at_ 1) 1)))),aY .u64 (Tm.val (TL.get r2.2.1.l (Int.toNat (sub (add (add r2.2.1.at_ 1) 1) 1)))),aY .u64 (Tm.val (TL.get r2.2.1.l (Int.toNat (sub (add (add (add r2.2.1.at_ 1) 1) 1) 1)))))))
    else
    aJ (aH r2.1 3)<|
    bif r2.2.1.wR then some (.inl (add r2.1 1,ag.jV r2.2.1 true,aU.ic r2.2.2 (0,0,0)))else
    bif !(aF r2.2.1.at_ (TL.len r2.2.1.l:Int))then some (.inl (add r2.1 1,ag.jV r2.2.1 true,aU.ic r2.2.2 (0,0,0)))else
    aJ (!(aF (sub (add r2.2.1.at_ 1) 1) 0))<|
    aJ (Nat.blt (Int.toNat (sub (add r2.2.1.at_ 1) 1)) r2.2.1.l.len)<|
    bif !(aH (Tm.op (TL.get r2.2.1.l (Int.toNat (sub (add r2.2.1.at_ 1) 1)))) 1)then
     some (.inl (add r2.1 1,(r2.2.1.l,add r2.2.1.at_ 1,true),aU.ic r2.2.2 ((Tm.val (TL.get r2.2.1.l (Int.toNat (sub (add r2.2.1.at_ 1) 1)))),0,0)))
    else
    bif r2.2.1.wR then
     some (.inl (add r2.1 1,(r2.2.1.l,add r2.2.1.at_ 1,true),aU.ic r2.2.2 ((Tm.val (TL.get r2.2.1.l (Int.toNat (sub (add r2.2.1.at_ 1) 1)))),0,0)))
    else
    bif !(aF (add r2.2.1.at_ 1) (TL.len r2.2.1.l:Int))then
     some (.inl (add r2.1 1,(r2.2.1.l,add r2.2.1.at_ 1,true),aU.ic r2.2.2 ((Tm.val (TL.get r2.2.1.l (Int.toNat (sub (add r2.2.1.at_ 1) 1)))),0,0)))
    else
    aJ (!(aF (sub (add (add r2.2.1.at_ 1) 1) 1) 0))<|
    aJ (Nat.blt (Int.toNat (sub (add (add r2.2.1.at_ 1) 1) 1)) r2.2.1.l.len)<|
    bif !(aH (Tm.op (TL.get r2.2.1.l (Int.toNat (sub (add (add r2.2.1.at_ 1) 1) 1)))) 1)then
     some (.inl (add r2.1 1,(r2.2.1.l,add (add r2.2.1.at_ 1) 1,true),aU.ic r2.2.2 ((Tm.val (TL.get r2.2.1.l (Int.toNat (sub (add r2.2.1.at_ 1) 1)))),aY .u64 (Tm.val (TL.get r2.2.1.l (Int.toNat (sub (add (add r2.2.1.at_ 1) 1) 1)))),0)))
    else
    bif r2.2.1.wR then
     some (.inl (add r2.1 1,(r2.2.1.l,add (add r2.2.1.at_ 1) 1,true),aU.ic r2.2.2 ((Tm.val (TL.get r2.2.1.l (Int.toNat (sub (add r2.2.1.at_ 1) 1)))),aY .u64 (Tm.val (TL.get r2.2.1.l (Int.toNat (sub (add (add r2.2.1.at_ 1) 1) 1)))),0)))
    else
    bif !(aF (add (add r2.2.1.at_ 1) 1) (TL.len r2.2.1.l:Int))then
     some (.inl (add r2.1 1,(r2.2.1.l,add (add r2.2.1.at_ 1) 1,true),aU.ic r2.2.2 ((Tm.val (TL.get r2.2.1.l (Int.toNat (sub (add r2.2.1.at_ 1) 1)))),aY .u64 (Tm.val (TL.get r2.2.1.l (Int.toNat (sub (add (add r2.2.1.at_ 1) 1) 1)))),0)))
    else
    aJ (!(aF (sub (add (add (add r2.2.1.at_ 1) 1) 1) 1) 0))<|
    aJ (Nat.blt (Int.toNat (sub (add (add (add r2.2.1.at_ 1) 1) 1) 1)) r2.2.1.l.len)<|
    bif !(aH (Tm.op (TL.get r2.2.1.l (Int.toNat (sub (add (add (add r2.2.1.at_ 1) 1) 1) 1)))) 1)then
     some (.inl (add r2.1 1,(r2.2.1.l,add (add (add r2.2.1.at_ 1) 1) 1,true),aU.ic r2.2.2 ((Tm.val (TL.get r2.2.1.l (Int.toNat (sub (add r2.2.1.at_ 1) 1)))),aY .u64 (Tm.val (TL.get r2.2.1.l (Int.toNat (sub (add (add r2.2.1.at_ 1) 1) 1)))),aY .u64 (Tm.val (TL.get r2.2.1.l (Int.toNat (sub (add (add (add r2.2.1.at_ 1) 1) 1) 1)))))))
    else
    some (.inl (add r2.1 1,ag.oe r2.2.1 (add (add (add r2.2.1.at_ 1) 1) 1),aU.ic r2.2.2 ((Tm.val (TL.get r2.2.1.l (Int.toNat (sub (add r2.2.1.at_ 1) 1)))),aY .u64 (Tm.val (TL.get r2.2.1.l (Int.toNat (sub (add (add r2.2.1.at_ 1) 1) 1)))),aY .u64 (Tm.val (TL.get r2.2.1.l (Int.toNat (sub (add (add (add r2.2.1.at_ 1) 1) 1) 1)))))))
   else
   some (.inr r2.2)) L (0,(x0,0,false),aU.az)).bind fun y2=>
 (iter (Y:=(ag×aU)) 345009 (fun r3:(Int×ag×aU)=>
   bif aF r3.1 6 then
    bif aH r3.1 0 then
     bif r3.2.1.wR then some (.inl (add r3.1 1,ag.jV r3.2.1 true,aU.uC r3.2.2 0))else
     bif !(aF r3.2.1.at_ (TL.len r3.2.1.l:Int))then some (.inl (add r3.1 1,ag.jV r3.2.1 true,aU.uC r3.2.2 0))else
     aJ (!(aF (sub (add r3.2.1.at_ 1) 1) 0))<|
     aJ (Nat.blt (Int.toNat (sub (add r3.2.1.at_ 1) 1)) r3.2.1.l.len)<|
     bif !(aH (Tm.op (TL.get r3.2.1.l (Int.toNat (sub (add r3.2.1.at_ 1) 1)))) 1)then
      some (.inl (add r3.1 1,(r3.2.1.l,add r3.2.1.at_ 1,true),aU.uC r3.2.2 (Tm.val (TL.get r3.2.1.l (Int.toNat (sub (add r3.2.1.at_ 1) 1))))))
     else
     some (.inl (add r3.1 1,ag.oe r3.2.1 (add r3.2.1.at_ 1),aU.uC r3.2.2 (Tm.val (TL.get r3.2.1.l (Int.toNat (sub (add r3.2.1.at_ 1) 1))))))
    else
    bif aH r3.1 1 then
     bif r3.2.1.wR then some (.inl (add r3.1 1,ag.jV r3.2.1 true,aU.uB r3.2.2 0))else
     bif !(aF r3.2.1.at_ (TL.len r3.2.1.l:Int))then some (.inl (add r3.1 1,ag.jV r3.2.1 true,aU.uB r3.2.2 0))else
     aJ (!(aF (sub (add r3.2.1.at_ 1) 1) 0))<|
     aJ (Nat.blt (Int.toNat (sub (add r3.2.1.at_ 1) 1)) r3.2.1.l.len)<|
     bif !(aH (Tm.op (TL.get r3.2.1.l (Int.toNat (sub (add r3.2.1.at_ 1) 1)))) 1)then
      some (.inl (add r3.1 1,(r3.2.1.l,add r3.2.1.at_ 1,true),aU.uB r3.2.2 (Tm.val (TL.get r3.2.1.l (Int.toNat (sub (add r3.2.1.at_ 1) 1))))))
     else
     some (.inl (add r3.1 1,ag.oe r3.2.1 (add r3.2.1.at_ 1),aU.uB r3.2.2 (Tm.val (TL.get r3.2.1.l (Int.toNat (sub (add r3.2.1.at_ 1) 1))))))
    else
    bif aH r3.1 2 then
     bif r3.2.1.wR then
      some (.inl (add r3.1 1,ag.jV r3.2.1 true,aU.iI r3.2.2 (0,r3.2.2.aL.2)))
     else
     bif !(aF r3.2.1.at_ (TL.len r3.2.1.l:Int))then
      some (.inl (add r3.1 1,ag.jV r3.2.1 true,aU.iI r3.2.2 (0,r3.2.2.aL.2)))
     else
     aJ (!(aF (sub (add r3.2.1.at_ 1) 1) 0))<|
     aJ (Nat.blt (Int.toNat (sub (add r3.2.1.at_ 1) 1)) r3.2.1.l.len)<|
     bif !(aH (Tm.op (TL.get r3.2.1.l (Int.toNat (sub (add r3.2.1.at_ 1) 1)))) 1)then
      some (.inl (add r3.1 1,(r3.2.1.l,add r3.2.1.at_ 1,true),aU.iI r3.2.2 ((Tm.val (TL.get r3.2.1.l (Int.toNat (sub (add r3.2.1.at_ 1) 1)))),r3.2.2.aL.2)))
     else
     some (.inl (add r3.1 1,ag.oe r3.2.1 (add r3.2.1.at_ 1),aU.iI r3.2.2 ((Tm.val (TL.get r3.2.1.l (Int.toNat (sub (add r3.2.1.at_ 1) 1)))),r3.2.2.aL.2)))
    else
    bif aH r3.1 3 then
     bif r3.2.1.wR then
      some (.inl (add r3.1 1,ag.jV r3.2.1 true,aU.iI r3.2.2 (r3.2.2.aL.1,0)))
     else
     bif !(aF r3.2.1.at_ (TL.len r3.2.1.l:Int))then
      some (.inl (add r3.1 1,ag.jV r3.2.1 true,aU.iI r3.2.2 (r3.2.2.aL.1,0)))
     else
     aJ (!(aF (sub (add r3.2.1.at_ 1) 1) 0))<|
     aJ (Nat.blt (Int.toNat (sub (add r3.2.1.at_ 1) 1)) r3.2.1.l.len)<|
     bif !(aH (Tm.op (TL.get r3.2.1.l (Int.toNat (sub (add r3.2.1.at_ 1) 1)))) 1)then
      some (.inl (add r3.1 1,(r3.2.1.l,add r3.2.1.at_ 1,true),aU.iI r3.2.2 (r3.2.2.aL.1,(Tm.val (TL.get r3.2.1.l (Int.toNat (sub (add r3.2.1.at_ 1) 1)))))))
     else
     some (.inl (add r3.1 1,ag.oe r3.2.1 (add r3.2.1.at_ 1),aU.iI r3.2.2 (r3.2.2.aL.1,(Tm.val (TL.get r3.2.1.l (Int.toNat (sub (add r3.2.1.at_ 1) 1)))))))
    else
    bif aH r3.1 4 then
     bif r3.2.1.wR then
      some (.inl (add r3.1 1,ag.jV r3.2.1 true,aU.gX r3.2.2 (0,r3.2.2.aI.2)))
     else
     bif !(aF r3.2.1.at_ (TL.len r3.2.1.l:Int))then
      some (.inl (add r3.1 1,ag.jV r3.2.1 true,aU.gX r3.2.2 (0,r3.2.2.aI.2)))
     else
     aJ (!(aF (sub (add r3.2.1.at_ 1) 1) 0))<|
     aJ (Nat.blt (Int.toNat (sub (add r3.2.1.at_ 1) 1)) r3.2.1.l.len)<|
     bif !(aH (Tm.op (TL.get r3.2.1.l (Int.toNat (sub (add r3.2.1.at_ 1) 1)))) 1)then
      some (.inl (add r3.1 1,(r3.2.1.l,add r3.2.1.at_ 1,true),aU.gX r3.2.2 ((Tm.val (TL.get r3.2.1.l (Int.toNat (sub (add r3.2.1.at_ 1) 1)))),r3.2.2.aI.2)))
     else
     some (.inl (add r3.1 1,ag.oe r3.2.1 (add r3.2.1.at_ 1),aU.gX r3.2.2 ((Tm.val (TL.get r3.2.1.l (Int.toNat (sub (add r3.2.1.at_ 1) 1)))),r3.2.2.aI.2)))
    else
    aJ (aH r3.1 5)<|
    bif r3.2.1.wR then
     some (.inl (add r3.1 1,ag.jV r3.2.1 true,aU.gX r3.2.2 (r3.2.2.aI.1,0)))
    else
    bif !(aF r3.2.1.at_ (TL.len r3.2.1.l:Int))then
     some (.inl (add r3.1 1,ag.jV r3.2.1 true,aU.gX r3.2.2 (r3.2.2.aI.1,0)))
    else
    aJ (!(aF (sub (add r3.2.1.at_ 1) 1) 0))<|
    aJ (Nat.blt (Int.toNat (sub (add r3.2.1.at_ 1) 1)) r3.2.1.l.len)<|
    bif !(aH (Tm.op (TL.get r3.2.1.l (Int.toNat (sub (add r3.2.1.at_ 1) 1)))) 1)then
     some (.inl (add r3.1 1,(r3.2.1.l,add r3.2.1.at_ 1,true),aU.gX r3.2.2 (r3.2.2.aI.1,(Tm.val (TL.get r3.2.1.l (Int.toNat (sub (add r3.2.1.at_ 1) 1)))))))
    else
    some (.inl (add r3.1 1,ag.oe r3.2.1 (add r3.2.1.at_ 1),aU.gX r3.2.2 (r3.2.2.aI.1,(Tm.val (TL.get r3.2.1.l (Int.toNat (sub (add r3.2.1.at_ 1) 1)))))))
   else
   some (.inr r3.2)) L (0,y2.1,y2.2)).bind fun y3=>
 (iter (Y:=((List Int)×ag)) 345014 (fun r4:((List Int)×ag)=>
   bif !r4.2.wR then
    bif aF r4.2.at_ (TL.len x0:Int)then
     bif r4.2.wR then
      aJ (room ((r4.1++[0]).length) 1)<|
      some (.inl (r4.1++[0],ag.jV r4.2 true))
     else
     bif !(aF r4.2.at_ (TL.len r4.2.l:Int))then
      aJ (room ((r4.1++[0]).length) 1)<|
      some (.inl (r4.1++[0],ag.jV r4.2 true))
     else
     aJ (!(aF (sub (add r4.2.at_ 1) 1) 0))<|
     aJ (Nat.blt (Int.toNat (sub (add r4.2.at_ 1) 1)) r4.2.l.len)<|
     bif !(aH (Tm.op (TL.get r4.2.l (Int.toNat (sub (add r4.2.at_ 1) 1)))) 1)then
      aJ (room ((r4.1++[aY .u8 (Tm.val (TL.get r4.2.l (Int.toNat (sub (add r4.2.at_ 1) 1))))]).length) 1)<|
      some (.inl (r4.1++[aY .u8 (Tm.val (TL.get r4.2.l (Int.toNat (sub (add r4.2.at_ 1) 1))))],(r4.2.l,add r4.2.at_ 1,true)))
     else
     bif r4.2.wR then
      aJ (room ((r4.1++[aY .u8 (Tm.val (TL.get r4.2.l (Int.toNat (sub (add r4.2.at_ 1) 1))))]).length) 1)<|
      some (.inl (r4.1++[aY .u8 (Tm.val (TL.get r4.2.l (Int.toNat (sub (add r4.2.at_ 1) 1))))],(r4.2.l,add r4.2.at_ 1,true)))
     else
     bif aF (Tm.val (TL.get r4.2.l (Int.toNat (sub (add r4.2.at_ 1) 1)))) 0 then
      aJ (room ((r4.1++[aY .u8 (Tm.val (TL.get r4.2.l (Int.toNat (sub (add r4.2.at_ 1) 1))))]).length) 1)<|
      some (.inl (r4.1++[aY .u8 (Tm.val (TL.get r4.2.l (Int.toNat (sub (add r4.2.at_ 1) 1))))],(r4.2.l,add r4.2.at_ 1,true)))
     else
     bif aF 255 (Tm.val (TL.get r4.2.l (Int.toNat (sub (add r4.2.at_ 1) 1))))then
      aJ (room ((r4.1++[aY .u8 (Tm.val (TL.get r4.2.l (Int.toNat (sub (add r4.2.at_ 1) 1))))]).length) 1)<|
      some (.inl (r4.1++[aY .u8 (Tm.val (TL.get r4.2.l (Int.toNat (sub (add r4.2.at_ 1) 1))))],(r4.2.l,add r4.2.at_ 1,true)))
     else
     aJ (room ((r4.1++[aY .u8 (Tm.val (TL.get r4.2.l (Int.toNat (sub (add r4.2.at_ 1) 1))))]).length) 1)<|
     some (.inl (r4.1++[aY .u8 (Tm.val (TL.get r4.2.l (Int.toNat (sub (add r4.2.at_ 1) 1))))],(r4.2.l,add r4.2.at_ 1,!(aF (r4.1.length:Int) 16))))
    else
    some (.inr r4)
   else
   some (.inr r4)) L ([],y3.1)).bind fun y4=>
 bif y4.2.wR then some (aU.az,[],false)else
 (iZ L y3.2).bind fun y5=>
 bif !(aH y5 0)then some (aU.az,[],false)else
 aJ (Nat.ble y4.1.length 9223372036854775807)<|
 some (y3.2,wu y4.1,true)
def a2X(L:Nat)(x0:aa)(x1:Int)(x2:TL)(x3:Tm)(x4:Tm):Option (aa×TL):=
 (bz L x0 x1).bind fun y6=>
 (eG L x2 10).bind fun y7=>
 (cj L x2 11).bind fun y8=>
 (j0 L y8.1).bind fun y9=>
 bif y7.2 then
  bif aF 0 y7.1 then
   bif y8.2 then
    bif !y9.2.2 then some (x0,TL.of [T.a01 (TL.of [T.aG 12,T.aG 7])])else
    bif aF y6 0 then some (x0,TL.of [T.a01 (TL.of [T.aG 12,T.aG 7])])else
    bif !(aF (x0.af.length:Int) 12)then some (x0,TL.of [T.a01 (TL.of [T.aG 12,T.aG 35])])else
    (a3v L x0.dh y9.1 y9.2.1).bind fun y10=>
    bif !y10.2.2 then some (x0,TL.of [T.a01 (TL.of [T.aG 12,T.aG 38])])else
    aJ (!(aF y6 0))<|
    aJ (Nat.blt y6.toNat (x0.u4.length))<|
    (js L (x0.u4.getD y6.toNat Sa.az) (add (mul 1000 (add x0.av 1)) (add x0.count 1)) y7.1 y10.1 y10.2.1 false x3 x4).bind fun y11=>
    aJ (room ((x0.af++[y11]).length) 416)<|
    (fL L (aa.bw x0 (count:=add x0.count 1) (af:=x0.af++[y11])) y10.1).bind fun y12=>
    (fA L y10.2.1 y12).bind fun y13=>
    some (aa.bw x0 (count:=add x0.count 1) (af:=x0.af++[y11]),TL.of [T.a01 (TL.of [T.aG 10,T.aG (add (mul 1000 (add x0.av 1)) (add x0.count 1))]),y13])
   else
   some (x0,TL.of [T.a01 (TL.of [T.aG 12,T.aG 7])])
  else
  some (x0,TL.of [T.a01 (TL.of [T.aG 12,T.aG 7])])
 else
 some (x0,TL.of [T.a01 (TL.of [T.aG 12,T.aG 7])])
def oh(L:Nat)(x0:aa)(x1:aj)(x2:bW):Option (aa×(List aj)):=
 (oU L x0 x2.ia).bind fun y4=>
 bif aF y4 0 then some (x0,[])else
 aJ (!(aF y4 0))<|
 aJ (Nat.blt y4.toNat (x0.aW.length))<|
 bif !(aH (bN.fg (x0.aW.getD y4.toNat bN.az)) x2.eV)then some (x0,[])else
 aJ (!(aF y4 0))<|
 aJ (Nat.blt y4.toNat (x0.aW.length))<|
 (a3l L (bN.eI (x0.aW.getD y4.toNat bN.az)) x1.body).bind fun y5=>
 bif !y5.2 then some (x0,[])else
 bif !(aH y5.1.iD 1)then some (x0,[])else
 (mM L x0 (bN.own (x0.aW.getD y4.toNat bN.az))).bind fun y6=>
 (nB L y5.1.parts y6.kS (bN.first (x0.aW.getD y4.toNat bN.az)) (bN.ours (x0.aW.getD y4.toNat bN.az))).bind fun y7=>
 bif !y7 then
  (cJ L (bW.bw y5.1 (bY:=true) (aV:=false) (parts:=TL.of [T.a01 (TL.of [T.aG 12,T.aG 24])]))).bind fun y8=>
  (cJ L (bW.bw y5.1 (bY:=true) (aV:=false) (parts:=TL.of [T.a01 (TL.of [T.aG 12,T.aG 24])]))).bind fun y9=>
  some (y6,[(y6.bM,x1.cq,T.a01 (TL.of [T.aG y9.1,T.aG y9.2.1,T.aG y9.2.2.1,T.aG y9.2.2.2.1,T.aG y9.2.2.2.2,T.gq (bN.out (x0.aW.getD y4.toNat bN.az)) (T.a01 (TL.of [T.aG y8.1,T.aG y8.2.1,T.aG y8.2.2.1,T.aG y8.2.2.2.1,T.aG y8.2.2.2.2,T.a01 (TL.of [T.a01 (TL.of [T.aG 12,T.aG 24])])]))]))])
 else
 bif !(aF (y6.u4.length:Int) 8)then
  (cJ L (bW.bw y5.1 (bY:=true) (aV:=false) (parts:=TL.of [T.a01 (TL.of [T.aG 12,T.aG 35])]))).bind fun y8=>
  (cJ L (bW.bw y5.1 (bY:=true) (aV:=false) (parts:=TL.of [T.a01 (TL.of [T.aG 12,T.aG 35])]))).bind fun y9=>
  some (y6,[(y6.bM,x1.cq,T.a01 (TL.of [T.aG y9.1,T.aG y9.2.1,T.aG y9.2.2.1,T.aG y9.2.2.2.1,T.aG y9.2.2.2.2,T.gq (bN.out (x0.aW.getD y4.toNat bN.az)) (T.a01 (TL.of [T.aG y8.1,T.aG y8.2.1,T.aG y8.2.2.1,T.aG y8.2.2.2.1,T.aG y8.2.2.2.2,T.a01 (TL.of [T.a01 (TL.of [T.aG 12,T.aG 35])])]))]))])
 else
 aJ (room ((y6.u4++[((bN.own (x0.aW.getD y4.toNat bN.az)),((bN.fg (x0.aW.getD y4.toNat bN.az)),(false,(3,(y6.bM,(x1.cq,((bN.d (x0.aW.getD y4.toNat bN.az)),((bN.out (x0.aW.getD y4.toNat bN.az)),((bN.eI (x0.aW.getD y4.toNat bN.az)),((bN.ours (x0.aW.getD y4.toNat bN.az)),((bN.bO (x0.aW.getD y4.toNat bN.az)),((bN.first (x0.aW.getD y4.toNat bN.az)),((bN.bY (x0.aW.getD y4.toNat bN.az)),(0,(2,((0,(0,((0,(0,TL.nil)),(0,(0,(0,((0,(0,TL.nil)),((0,(0,TL.nil)),(0,(0,(0,(((0,(0,0)),((0,(0,0)),((0,(0,0)),((0,(0,0)),(0,(0,((0,0),(0,0)))))))),((0,(0,TL.nil)),[]))))))))))))),(1,((0,(0,TL.nil)),(y6.bA,(0,(0,(0,(0,((bN.dK (x0.aW.getD y4.toNat bN.az)),(y6.bA,(false,0))))))))))))))))))))))))))]).length) 856)<|
 (a2X L (aa.bI y6 (y6.u4++[Sa.az (own:=(bN.own (x0.aW.getD y4.toNat bN.az))) (fg:=(bN.fg (x0.aW.getD y4.toNat bN.az))) (state:=3) (bM:=y6.bM) (a0a:=x1.cq) (d:=(bN.d (x0.aW.getD y4.toNat bN.az))) (out:=(bN.out (x0.aW.getD y4.toNat bN.az))) (eI:=(bN.eI (x0.aW.getD y4.toNat bN.az))) (ours:=(bN.ours (x0.aW.getD y4.toNat bN.az))) (bO:=(bN.bO (x0.aW.getD y4.toNat bN.az))) (first:=(bN.first (x0.aW.getD y4.toNat bN.az))) (bY:=(bN.bY (x0.aW.getD y4.toNat bN.az))) (pU:=2) (iQ:=1) (eC:=y6.bA) (dK:=(bN.dK (x0.aW.getD y4.toNat bN.az))) (lV:=y6.bA)])) (bN.own (x0.aW.getD y4.toNat bN.az)) y5.1.parts (bN.ours (x0.aW.getD y4.toNat bN.az)) (bN.bO (x0.aW.getD y4.toNat bN.az))).bind fun y8=>
 (jq L y8.1.av (bN.bY (x0.aW.getD y4.toNat bN.az)) (bN.bO (x0.aW.getD y4.toNat bN.az))).bind fun y9=>
 aJ (room (TL.len (TL.app (TL.set (TL.app (TL.set (TL.of [(0,0,TL.nil)]) 0 (T.a01 (TL.of [T.aG 8,T.aG y8.1.av]))) (TL.of [(0,0,TL.nil)])) (TL.len (TL.set (TL.of [(0,0,TL.nil)]) 0 (T.a01 (TL.of [T.aG 8,T.aG y8.1.av])))) (T.a01 (TL.of [T.aG 9,y9]))) y8.2)) 40)<|
 aJ (room (TL.len (TL.app (TL.app (TL.set (TL.app (TL.set (TL.of [(0,0,TL.nil)]) 0 (T.a01 (TL.of [T.aG 8,T.aG y8.1.av]))) (TL.of [(0,0,TL.nil)])) (TL.len (TL.set (TL.of [(0,0,TL.nil)]) 0 (T.a01 (TL.of [T.aG 8,T.aG y8.1.av])))) (T.a01 (TL.of [T.aG 9,y9]))) y8.2) (TL.of [(0,0,TL.nil)]))) 40)<|
 aJ (Nat.blt (TL.len (TL.app (TL.set (TL.app (TL.set (TL.of [(0,0,TL.nil)]) 0 (T.a01 (TL.of [T.aG 8,T.aG y8.1.av]))) (TL.of [(0,0,TL.nil)])) (TL.len (TL.set (TL.of [(0,0,TL.nil)]) 0 (T.a01 (TL.of [T.aG 8,T.aG y8.1.av])))) (T.a01 (TL.of [T.aG 9,y9]))) y8.2)) (TL.len (TL.app (TL.app (TL.set (TL.app (TL.set (TL.of [(0,0,TL.nil)]) 0 (T.a01 (TL.of [T.aG 8,T.aG y8.1.av]))) (TL.of [(0,0,TL.nil)])) (TL.len (TL.set (TL.of [(0,0,TL.nil)]) 0 (T.a01 (TL.of [T.aG 8,T.aG y8.1.av])))) (T.a01 (TL.of [T.aG 9,y9]))) y8.2) (TL.of [(0,0,TL.nil)]))))<|
 (cJ L (bW.bw y5.1 (bY:=true) (aV:=false) (parts:=TL.set (TL.app (TL.app (TL.set (TL.app (TL.set (TL.of [(0,0,TL.nil)]) 0 (T.a01 (TL.of [T.aG 8,T.aG y8.1.av]))) (TL.of [(0,0,TL.nil)])) (TL.len (TL.set (TL.of [(0,0,TL.nil)]) 0 (T.a01 (TL.of [T.aG 8,T.aG y8.1.av])))) (T.a01 (TL.of [T.aG 9,y9]))) y8.2) (TL.of [(0,0,TL.nil)])) (TL.len (TL.app (TL.set (TL.app (TL.set (TL.of [(0,0,TL.nil)]) 0 (T.a01 (TL.of [T.aG 8,T.aG y8.1.av]))) (TL.of [(0,0,TL.nil)])) (TL.len (TL.set (TL.of [(0,0,TL.nil)]) 0 (T.a01 (TL.of [T.aG 8,T.aG y8.1.av])))) (T.a01 (TL.of [T.aG 9,y9]))) y8.2)) (T.a01 (TL.of [T.aG 18,T.gq y8.1.mm (T.a01 (TL.of [(bN.d (x0.aW.getD y4.toNat bN.az)),T.aG y8.1.kS,T.aG (add y8.1.bA 40)]))]))))).bind fun y10=>
 (cJ L (bW.bw y5.1 (bY:=true) (aV:=false) (parts:=TL.set (TL.app (TL.app (TL.set (TL.app (TL.set (TL.of [(0,0,TL.nil)]) 0 (T.a01 (TL.of [T.aG 8,T.aG y8.1.av]))) (TL.of [(0,0,TL.nil)])) (TL.len (TL.set (TL.of [(0,0,TL.nil)]) 0 (T.a01 (TL.of [T.aG 8,T.aG y8.1.av])))) (T.a01 (TL.of [T.aG 9,y9]))) y8.2) (TL.of [(0,0,TL.nil)])) (TL.len (TL.app (TL.set (TL.app (TL.set (TL.of [(0,0,TL.nil)]) 0 (T.a01 (TL.of [T.aG 8,T.aG y8.1.av]))) (TL.of [(0,0,TL.nil)])) (TL.len (TL.set (TL.of [(0,0,TL.nil)]) 0 (T.a01 (TL.of [T.aG 8,T.aG y8.1.av])))) (T.a01 (TL.of [T.aG 9,y9]))) y8.2)) (T.a01 (TL.of [T.aG 18,T.gq y8.1.mm (T.a01 (TL.of [(bN.d (x0.aW.getD y4.toNat bN.az)),T.aG y8.1.kS,T.aG (add y8.1.bA 40)]))]))))).bind fun y11=>
 aJ (!(aF (sub (y8.1.u4.length:Int) 1) 0))<|
 aJ (Nat.blt (Int.toNat (sub (y8.1.u4.length:Int) 1)) (y8.1.u4.length))<|
 some (aa.bI y8.1 (List.set y8.1.u4 (Int.toNat (sub (y8.1.u4.length:Int) 1)) (Sa.TH (y8.1.u4.getD (Int.toNat (sub (y8.1.u4.length:Int) 1)) Sa.az) (T.a01 (TL.of [T.aG y11.1,T.aG y11.2.1,T.aG y11.2.2.1,T.aG y11.2.2.2.1,T.aG y11.2.2.2.2,T.gq (bN.out (x0.aW.getD y4.toNat bN.az)) (T.a01 (TL.of [T.aG y10.1,T.aG y10.2.1,T.aG y10.2.2.1,T.aG y10.2.2.2.1,T.aG y10.2.2.2.2,T.a01 (TL.set (TL.app (TL.app (TL.set (TL.app (TL.set (TL.of [(0,0,TL.nil)]) 0 (T.a01 (TL.of [T.aG 8,T.aG y8.1.av]))) (TL.of [(0,0,TL.nil)])) (TL.len (TL.set (TL.of [(0,0,TL.nil)]) 0 (T.a01 (TL.of [T.aG 8,T.aG y8.1.av])))) (T.a01 (TL.of [T.aG 9,y9]))) y8.2) (TL.of [(0,0,TL.nil)])) (TL.len (TL.app (TL.set (TL.app (TL.set (TL.of [(0,0,TL.nil)]) 0 (T.a01 (TL.of [T.aG 8,T.aG y8.1.av]))) (TL.of [(0,0,TL.nil)])) (TL.len (TL.set (TL.of [(0,0,TL.nil)]) 0 (T.a01 (TL.of [T.aG 8,T.aG y8.1.av])))) (T.a01 (TL.of [T.aG 9,y9]))) y8.2)) (T.a01 (TL.of [T.aG 18,T.gq y8.1.mm (T.a01 (TL.of [(bN.d (x0.aW.getD y4.toNat bN.az)),T.aG y8.1.kS,T.aG (add y8.1.bA 40)]))])))]))])))),[(y8.1.bM,x1.cq,T.a01 (TL.of [T.aG y11.1,T.aG y11.2.1,T.aG y11.2.2.1,T.aG y11.2.2.2.1,T.aG y11.2.2.2.2,T.gq (bN.out (x0.aW.getD y4.toNat bN.az)) (T.a01 (TL.of [T.aG y10.1,T.aG y10.2.1,T.aG y10.2.2.1,T.aG y10.2.2.2.1,T.aG y10.2.2.2.2,T.a01 (TL.set (TL.app (TL.app (TL.set (TL.app (TL.set (TL.of [(0,0,TL.nil)]) 0 (T.a01 (TL.of [T.aG 8,T.aG y8.1.av]))) (TL.of [(0,0,TL.nil)])) (TL.len (TL.set (TL.of [(0,0,TL.nil)]) 0 (T.a01 (TL.of [T.aG 8,T.aG y8.1.av])))) (T.a01 (TL.of [T.aG 9,y9]))) y8.2) (TL.of [(0,0,TL.nil)])) (TL.len (TL.app (TL.set (TL.app (TL.set (TL.of [(0,0,TL.nil)]) 0 (T.a01 (TL.of [T.aG 8,T.aG y8.1.av]))) (TL.of [(0,0,TL.nil)])) (TL.len (TL.set (TL.of [(0,0,TL.nil)]) 0 (T.a01 (TL.of [T.aG 8,T.aG y8.1.av])))) (T.a01 (TL.of [T.aG 9,y9]))) y8.2)) (T.a01 (TL.of [T.aG 18,T.gq y8.1.mm (T.a01 (TL.of [(bN.d (x0.aW.getD y4.toNat bN.az)),T.aG y8.1.kS,T.aG (add y8.1.bA 40)]))])))]))]))])
def ow(L:Nat)(x0:aa)(x1:bW):Option Int:=
 bif x1.aV then
  (iter (Y:=(Unit⊕Int)) 106002 (fun r3:Int=>
    bif aF r3 (x0.u4.length:Int)then
     aJ (!(aF r3 0))<|
     aJ (Nat.blt r3.toNat (x0.u4.length))<|
     bif aH (Sa.own (x0.u4.getD r3.toNat Sa.az)) x1.ia then
      bif aH (Sa.fg (x0.u4.getD r3.toNat Sa.az)) x1.eV then some (.inr (.inr r3))else
      some (.inl (add r3 1))
     else
     some (.inl (add r3 1))
    else
    some (.inr (.inl ()))) L 0).bind fun y3=>
  match y3 with
  | .inl y4=>
    some (-1)
  | .inr y4=>
    some y4
 else
 (iter (Y:=(Unit⊕Int)) 106002 (fun r3:Int=>
   bif aF r3 (x0.u4.length:Int)then
    aJ (!(aF r3 0))<|
    aJ (Nat.blt r3.toNat (x0.u4.length))<|
    bif aH (Sa.own (x0.u4.getD r3.toNat Sa.az)) x1.eV then
     bif aH (Sa.fg (x0.u4.getD r3.toNat Sa.az)) x1.ia then some (.inr (.inr r3))else
     some (.inl (add r3 1))
    else
    some (.inl (add r3 1))
   else
   some (.inr (.inl ()))) L 0).bind fun y3=>
 match y3 with
 | .inl y4=>
   some (-1)
 | .inr y4=>
   some y4
def iM(L:Nat)(x0:aU)(x1:aU):Option Bool:=
 (iq L x0 x1).bind fun y3=>
 bif y3.2 then
  some ((aH y3.1.a0c.bx x0.a0c.bx)&&((aH y3.1.a0c.hi x0.a0c.hi)&&((aH y3.1.a0c.lo x0.a0c.lo)&&((aH y3.1.cB.bx x0.cB.bx)&&((aH y3.1.cB.hi x0.cB.hi)&&((aH y3.1.cB.lo x0.cB.lo)&&((aH y3.1.bU.bx x0.bU.bx)&&((aH y3.1.bU.hi x0.bU.hi)&&((aH y3.1.bU.lo x0.bU.lo)&&((aH y3.1.bT.bx x0.bT.bx)&&((aH y3.1.bT.hi x0.bT.hi)&&((aH y3.1.bT.lo x0.bT.lo)&&((aH y3.1.de x0.de)&&((aH y3.1.a0m x0.a0m)&&((aH (y3.1.aL.1) (x0.aL.1))&&((aH (y3.1.aL.2) (x0.aL.2))&&((aH (y3.1.aI.1) (x0.aI.1))&&((aH (y3.1.aI.2) (x0.aI.2))&&true))))))))))))))))))
 else
 some false
def gZ(L:Nat)(x0:aa)(x1:Int)(x2:TL)(x3:a04)(x4:Tm)(x5:Tm):Option (aa×Int×Bool):=
 (bz L x0 x1).bind fun y7=>
 (eG L x2 10).bind fun y8=>
 (cj L x2 11).bind fun y9=>
 (j0 L y9.1).bind fun y10=>
 bif y8.2 then
  bif aF 0 y8.1 then
   bif y9.2 then
    bif !y10.2.2 then some (x0,0,false)else
    bif aF y7 0 then some (x0,0,false)else
    bif aF x3.dm 0 then some (x0,0,false)else
    bif !(aF x3.dm (x0.dh.length:Int))then some (x0,0,false)else
    aJ (!(aF x3.dm 0))<|
    aJ (Nat.blt (Int.toNat x3.dm) (x0.dh.length))<|
    bif !(Jk y10.2.1 (aQ.a0n (x0.dh.getD (Int.toNat x3.dm) aQ.az)))then some (x0,0,false)else
    (oO L y10.1).bind fun y11=>
    (iM L y11 x3.box).bind fun y12=>
    bif !y12 then some (x0,0,false)else
    (iter (Y:=(Unit⊕Int)) 376002 (fun r13:Int=>
      bif aF r13 (x3.gone.length:Int)then
       aJ (!(aF r13 0))<|
       aJ (Nat.blt r13.toNat (x3.gone.length))<|
       bif aH y8.1 (x3.gone.getD r13.toNat 0)then some (.inr (.inr r13))else
       some (.inl (add r13 1))
      else
      some (.inr (.inl ()))) L 0).bind fun y13=>
    match y13 with
    | .inl y14=>
      aJ (!(aF y7 0))<|
      aJ (Nat.blt y7.toNat (x0.u4.length))<|
      (js L (x0.u4.getD y7.toNat Sa.az) x3.dZ y8.1 x3.dm y11 true x4 x5).bind fun y15=>
      aJ (room ((x0.af++[y15]).length) 416)<|
      some (aa.ck x0 (x0.af++[y15]),x3.dZ,true)
    | .inr y14=>
      bif !(aF y14 0)then some (x0,0,true)else
      aJ (!(aF y7 0))<|
      aJ (Nat.blt y7.toNat (x0.u4.length))<|
      (js L (x0.u4.getD y7.toNat Sa.az) x3.dZ y8.1 x3.dm y11 true x4 x5).bind fun y15=>
      aJ (room ((x0.af++[y15]).length) 416)<|
      some (aa.ck x0 (x0.af++[y15]),x3.dZ,true)
   else
   some (x0,0,false)
  else
  some (x0,0,false)
 else
 some (x0,0,false)
def a3L(L:Nat)(x0:aa)(x1:Int)(x2:bW):Option aa:=
 (bz L x0 x1).bind fun y4=>
 bif aF y4 0 then some x0 else
 aJ (!(aF y4 0))<|
 aJ (Nat.blt y4.toNat (x0.u4.length))<|
 (nB L x2.parts x0.kS (Sa.bY (x0.u4.getD y4.toNat Sa.az)) (Sa.ours (x0.u4.getD y4.toNat Sa.az))).bind fun y5=>
 bif !y5 then
  aJ (!(aF y4 0))<|
  aJ (!(aF (add y4 1) 0))<|
  aJ ((Nat.ble y4.toNat (Int.toNat (add y4 1)))&&(Nat.ble (Int.toNat (add y4 1)) (x0.u4.length)))<|
  some (aa.bI x0 ((List.take y4.toNat x0.u4)++(List.drop (Int.toNat (add y4 1)) x0.u4)))
 else
 aJ (!(aF y4 0))<|
 aJ (Nat.blt y4.toNat (x0.u4.length))<|
 (gZ L (aa.bI x0 (List.set x0.u4 y4.toNat (Sa.bw (x0.u4.getD y4.toNat Sa.az) (state:=3) (pending:=a04.az) (eC:=x0.bA) (lV:=x0.bA)))) x1 x2.parts (Sa.pending (x0.u4.getD y4.toNat Sa.az)) (Sa.ours (x0.u4.getD y4.toNat Sa.az)) (Sa.bO (x0.u4.getD y4.toNat Sa.az))).bind fun y6=>
 (cj L x2.parts 18).bind fun y7=>
 bif aH (TL.len y7.1:Int) 1 then
  aJ (Nat.blt 0 y7.1.len)<|
  aJ (room ((y6.1.cu++[(TL.get y7.1 0,(Sa.d (x0.u4.getD y4.toNat Sa.az)))]).length) 80)<|
  aJ (!(aF (eN 0 (sub ((y6.1.cu++[(TL.get y7.1 0,(Sa.d (x0.u4.getD y4.toNat Sa.az)))]).length:Int) 2)) 0))<|
  aJ ((Nat.ble (Int.toNat (eN 0 (sub ((y6.1.cu++[(TL.get y7.1 0,(Sa.d (x0.u4.getD y4.toNat Sa.az)))]).length:Int) 2))) ((y6.1.cu++[(TL.get y7.1 0,(Sa.d (x0.u4.getD y4.toNat Sa.az)))]).length))&&(Nat.ble ((y6.1.cu++[(TL.get y7.1 0,(Sa.d (x0.u4.getD y4.toNat Sa.az)))]).length) ((y6.1.cu++[(TL.get y7.1 0,(Sa.d (x0.u4.getD y4.toNat Sa.az)))]).length)))<|
  some (aa.xx y6.1 (List.drop (Int.toNat (eN 0 (sub ((y6.1.cu++[(TL.get y7.1 0,(Sa.d (x0.u4.getD y4.toNat Sa.az)))]).length:Int) 2))) (List.take ((y6.1.cu++[(TL.get y7.1 0,(Sa.d (x0.u4.getD y4.toNat Sa.az)))]).length) (y6.1.cu++[(TL.get y7.1 0,(Sa.d (x0.u4.getD y4.toNat Sa.az)))]))))
 else
 some y6.1
def mR(L:Nat)(x0:Sa)(x1:bW):Option Int:=
 bif UO x1.aV x0.aV then some 0 else
 bif !x1.bY then
  bif aH x1.iD x0.pU then some 1 else
  bif !x1.bY then
   bif aH x1.iD x0.iQ then some 2 else
   bif x1.bY then
    bif !(aH x0.pending.ax 0)then
     bif aH x1.iD x0.pending.iD then some 3 else
     some 0
    else
    some 0
   else
   some 0
  else
  bif x1.bY then
   bif !(aH x0.pending.ax 0)then
    bif aH x1.iD x0.pending.iD then some 3 else
    some 0
   else
   some 0
  else
  some 0
 else
 bif !x1.bY then
  bif aH x1.iD x0.iQ then some 2 else
  bif x1.bY then
   bif !(aH x0.pending.ax 0)then
    bif aH x1.iD x0.pending.iD then some 3 else
    some 0
   else
   some 0
  else
  some 0
 else
 bif x1.bY then
  bif !(aH x0.pending.ax 0)then
   bif aH x1.iD x0.pending.iD then some 3 else
   some 0
  else
  some 0
 else
 some 0
def jB(L:Nat)(x0:Int)(x1:Tm)(x2:Int)(x3:Tm):Option TL:=
 some (TL.of [T.a01 (TL.of [T.aG 10,T.aG x0]),T.a01 (TL.of [T.aG 3,x1]),T.a01 (TL.of [T.aG 2,T.aG x2,T.A9 x3])])
def a09(L:Nat)(x0:aa)(x1:Int)(x2:bW)(x3:Int)(x4:TL):Option (aa×(List aj)):=
 (bz L x0 x1).bind fun y6=>
 bif aF y6 0 then some (x0,[])else
 aJ (!(aF y6 0))<|
 aJ (Nat.blt y6.toNat (x0.u4.length))<|
 (cJ L (bW.bw x2 (bY:=true) (aV:=(Sa.aV (x0.u4.getD y6.toNat Sa.az))) (parts:=x4))).bind fun y7=>
 (cJ L (bW.bw x2 (bY:=true) (aV:=(Sa.aV (x0.u4.getD y6.toNat Sa.az))) (parts:=x4))).bind fun y8=>
 some (aa.bI x0 (List.set x0.u4 y6.toNat (Sa.bw (x0.u4.getD y6.toNat Sa.az) (pU:=add x2.iD 1) (iQ:=x2.iD) (sE:=T.a01 (TL.of [T.aG y8.1,T.aG y8.2.1,T.aG y8.2.2.1,T.aG y8.2.2.2.1,T.aG y8.2.2.2.2,T.gq (Sa.out (x0.u4.getD y6.toNat Sa.az)) (T.a01 (TL.of [T.aG y7.1,T.aG y7.2.1,T.aG y7.2.2.1,T.aG y7.2.2.2.1,T.aG y7.2.2.2.2,T.a01 x4]))])))),[((Sa.bM (x0.u4.getD y6.toNat Sa.az)),x3,T.a01 (TL.of [T.aG y8.1,T.aG y8.2.1,T.aG y8.2.2.1,T.aG y8.2.2.2.1,T.aG y8.2.2.2.2,T.gq (Sa.out (x0.u4.getD y6.toNat Sa.az)) (T.a01 (TL.of [T.aG y7.1,T.aG y7.2.1,T.aG y7.2.2.1,T.aG y7.2.2.2.1,T.aG y7.2.2.2.2,T.a01 x4]))]))])
def nq(L:Nat)(x0:Sa):Option Bool:=
 bif !(aH x0.state 3)then some true else
 bif !(aH x0.next 0)then some true else
 bif !(aH x0.dP 0)then some true else
 bif !(aH x0.follows 0)then some true else
 (iter (Y:=(Unit⊕Int)) 376002 (fun r2:Int=>
   bif aF r2 4 then
    aJ (!(aF r2 0))<|
    aJ (Nat.blt r2.toNat 4)<|
    bif aH x0.pending.ax ([3,4,6,7].getD r2.toNat 0)then some (.inr (.inr r2))else
    some (.inl (add r2 1))
   else
   some (.inr (.inl ()))) L 0).bind fun y2=>
 match y2 with
 | .inl y3=>
   some false
 | .inr y3=>
   some (!(aF y3 0))
def ku(L:Nat)(x0:TL):Option (Int×Tm×Tm×Tm×Bool):=
 (eG L x0 10).bind fun y2=>
 (cj L x0 3).bind fun y3=>
 (cj L x0 2).bind fun y4=>
 bif !(aF 0 y2.1)then some (0,(0,0,TL.nil),(0,0,TL.nil),(0,0,TL.nil),false)else
 bif !(aH (TL.len y3.1:Int) 1)then some (0,(0,0,TL.nil),(0,0,TL.nil),(0,0,TL.nil),false)else
 aJ (Nat.blt 0 y3.1.len)<|
 bif !(aH (Tm.op (TL.get y3.1 0)) 2)then some (0,(0,0,TL.nil),(0,0,TL.nil),(0,0,TL.nil),false)else
 bif !(aH (TL.len y4.1:Int) 2)then some (0,(0,0,TL.nil),(0,0,TL.nil),(0,0,TL.nil),false)else
 aJ (Nat.blt 1 y4.1.len)<|
 bif !(aH (Tm.op (TL.get y4.1 1)) 4)then some (0,(0,0,TL.nil),(0,0,TL.nil),(0,0,TL.nil),false)else
 aJ (Nat.blt 1 y4.1.len)<|
 bif !(aH (TL.len (Tm.args (TL.get y4.1 1)):Int) 1)then some (0,(0,0,TL.nil),(0,0,TL.nil),(0,0,TL.nil),false)else
 aJ (Nat.blt 0 y3.1.len)<|
 aJ (Nat.blt 0 y4.1.len)<|
 aJ (Nat.blt 1 y4.1.len)<|
 some (y2.1,TL.get y3.1 0,TL.get y4.1 0,TL.get y4.1 1,true)
def iA(L:Nat)(x0:D4)(x1:Tm)(x2:Tm)(x3:Tm):Option Tm:=
 some (T.derive 1 (TL.of [x0.sa.d,x1,x2,x3]))
def kV(L:Nat)(x0:D4)(x1:Sa)(x2:Tm):Option Sa:=
 (iA L (D4.w_u x0 ()) x1.ours x1.bO x2).bind fun y4=>
 (eM L y4 x1.own x1.fg).bind fun y5=>
 some (Sa.bw x1 (d:=y5.1) (out:=y5.2.1) (eI:=y5.2.2))
def jX(L:Nat)(x0:D4)(x1:Sa)(x2:Tm):Option Sa:=
 (iA L (D4.w_u x0 ()) x1.bO x1.ours x2).bind fun y4=>
 (eM L y4 x1.fg x1.own).bind fun y5=>
 some (Sa.bw x1 (d:=y5.1) (out:=y5.2.2) (eI:=y5.2.1))
def a2V(L:Nat)(x0:Sa)(x1:Int)(x2:Int)(x3:Bool)(x4:Tm)(x5:Tm)(x6:Tm)(x7:Int):Option Sa:=
 bif x3 then
  (kV L (x0,()) (Sa.az (own:=x1) (fg:=x2) (aV:=x3) (state:=3) (bM:=x0.bM) (a0a:=x0.a0a) (ours:=x4) (bO:=x5) (iQ:=(-1)) (eC:=x7) (dK:=x0.dK) (lV:=x7)) x6).bind fun y9=>
  some y9
 else
 (jX L (x0,()) (Sa.az (own:=x1) (fg:=x2) (aV:=x3) (state:=3) (bM:=x0.bM) (a0a:=x0.a0a) (ours:=x4) (bO:=x5) (iQ:=(-1)) (eC:=x7) (dK:=x0.dK) (lV:=x7)) x6).bind fun y9=>
 some y9
def jP(L:Nat)(x0:aa)(x1:Int)(x2:bW)(x3:Int):Option (aa×(List aj)):=
 (bz L x0 x1).bind fun y5=>
 bif aF y5 0 then some (x0,[])else
 aJ (!(aF y5 0))<|
 aJ (Nat.blt y5.toNat (x0.u4.length))<|
 (nq L (x0.u4.getD y5.toNat Sa.az)).bind fun y6=>
 bif y6 then
  (a09 L x0 x1 x2 x3 (TL.of [T.a01 (TL.of [T.aG 12,T.aG 43])])).bind fun y7=>
  some y7
 else
 (ku L x2.parts).bind fun y7=>
 bif !y7.2.2.2.2 then
  (a09 L x0 x1 x2 x3 (TL.of [T.a01 (TL.of [T.aG 12,T.aG 7])])).bind fun y8=>
  some y8
 else
 bif !(aF (x0.u4.length:Int) 8)then
  (a09 L x0 x1 x2 x3 (TL.of [T.a01 (TL.of [T.aG 12,T.aG 35])])).bind fun y8=>
  some y8
 else
 (mJ L y7.2.2.2.1 (T.name (add (mul x0.av 1048576) (add (add (add x0.count 1) 1) 1)))).bind fun y8=>
 aJ (!(aF y5 0))<|
 aJ (Nat.blt y5.toNat (x0.u4.length))<|
 (a2V L (x0.u4.getD y5.toNat Sa.az) (add (mul 1000 (add x0.av 1)) (add x0.count 1)) y7.1 false (T.name (add (mul x0.av 1048576) (add (add x0.count 1) 1))) y7.2.1 y8.1 x0.bA).bind fun y9=>
 aJ (room ((x0.u4++[y9]).length) 856)<|
 aJ (!(aF y5 0))<|
 aJ (Nat.blt y5.toNat ((x0.u4++[y9]).length))<|
 aJ (!(aF y5 0))<|
 aJ (Nat.blt y5.toNat ((List.set (x0.u4++[y9]) y5.toNat (Sa.eT ((x0.u4++[y9]).getD y5.toNat Sa.az) (add (mul 1000 (add x0.av 1)) (add x0.count 1)))).length))<|
 (jB L (add (mul 1000 (add x0.av 1)) (add x0.count 1)) (T.name (add (mul x0.av 1048576) (add (add x0.count 1) 1))) 0 (T.name (add (mul x0.av 1048576) (add (add (add x0.count 1) 1) 1)))).bind fun y10=>
 aJ (Nat.blt 2 y10.len)<|
 (a09 L (aa.bw x0 (count:=add (add (add x0.count 1) 1) 1) (u4:=List.set (List.set (x0.u4++[y9]) y5.toNat (Sa.eT ((x0.u4++[y9]).getD y5.toNat Sa.az) (add (mul 1000 (add x0.av 1)) (add x0.count 1)))) y5.toNat (Sa.jb ((List.set (x0.u4++[y9]) y5.toNat (Sa.eT ((x0.u4++[y9]).getD y5.toNat Sa.az) (add (mul 1000 (add x0.av 1)) (add x0.count 1)))).getD y5.toNat Sa.az) (add (mul 1000 (add x0.av 1)) (add x0.count 1))))) x1 x2 x3 (TL.set y10 2 (T.a01 (TL.of [T.aG 2,y7.2.2.1,T.A9 (T.name (add (mul x0.av 1048576) (add (add (add x0.count 1) 1) 1)))])))).bind fun y11=>
 some y11
def pb(L:Nat)(x0:Sa):Option Bool:=
 bif aH x0.state 4 then some true else
 bif aH x0.pending.ax 5 then some true else
 bif !(aH x0.next 0)then some true else
 bif !(aH x0.dP 0)then some true else
 some (!(aH x0.follows 0))
def jA(L:Nat)(x0:TL):Option (Tm×Bool):=
 (cj L x0 3).bind fun y2=>
 bif !(aH (TL.len y2.1:Int) 1)then some ((0,0,TL.nil),false)else
 aJ (Nat.blt 0 y2.1.len)<|
 bif !(aH (Tm.op (TL.get y2.1 0)) 2)then some ((0,0,TL.nil),false)else
 aJ (Nat.blt 0 y2.1.len)<|
 some (TL.get y2.1 0,true)
def a3j(L:Nat)(x0:aa)(x1:a00)(x2:Int):Option Bool:=
 (iter (Y:=(Unit⊕Bool)) 382003 (fun r4:(Int×Int)=>
   bif aF r4.2 (add (x0.u4.length:Int) 1)then
    bif aH r4.1 x2 then some (.inr (.inr true))else
    (bz L x0 r4.1).bind fun y5=>
    bif aF y5 0 then some (.inr (.inr false))else
    aJ (!(aF y5 0))<|
    aJ (Nat.blt y5.toNat (x0.u4.length))<|
    some (.inl ((Sa.follows (x0.u4.getD y5.toNat Sa.az)),add r4.2 1))
   else
   some (.inr (.inl ()))) L (x1.sa,0)).bind fun y4=>
 match y4 with
 | .inl y5=>
   some false
 | .inr y5=>
   some y5
def qU(L:Nat)(x0:aa)(x1:Int)(x2:Int):Option Int:=
 (iter (Y:=(Unit⊕Int)) 358002 (fun r4:Int=>
   bif aF r4 (x0.af.length:Int)then
    aJ (!(aF r4 0))<|
    aJ (Nat.blt r4.toNat (x0.af.length))<|
    bif aH (a00.out (x0.af.getD r4.toNat a00.az)) x2 then
     (a3j L x0 (x0.af.getD r4.toNat a00.az) x1).bind fun y5=>
     bif y5 then some (.inr (.inr (a00.eI (x0.af.getD r4.toNat a00.az))))else
     some (.inl (add r4 1))
    else
    some (.inl (add r4 1))
   else
   some (.inr (.inl ()))) L 0).bind fun y4=>
 match y4 with
 | .inl y5=>
   some 0
 | .inr y5=>
   some y5
def j9(L:Nat)(x0:Sa):Option Int:=
 bif aH x0.pending.ax 3 then some 43 else
 bif aH x0.pending.ax 4 then some 43 else
 some 44
end
end Go.Proofs.YtehbbcdhahnkgaaGreat.Vm
