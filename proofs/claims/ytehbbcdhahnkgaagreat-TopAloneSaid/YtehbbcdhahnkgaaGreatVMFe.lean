/- Plain functions. -/
import Derived.Test.YtehbbcdhahnkgaaGreatVMFc
set_option linter.all false
set_option maxRecDepth 100000
set_option maxHeartbeats 0
namespace Go.Proofs.YtehbbcdhahnkgaaGreat.Vm
open Go
noncomputable section
def nn(L:Nat)(x0:aa)(x1:Int)(x2:bW)(x3:Int):Option (aa×(List aj)):=
 (bz L x0 x1).bind fun y5=>
 bif aF y5 0 then some (x0,[])else
 aJ (!(aF y5 0))<|
 aJ (Nat.blt y5.toNat (x0.u4.length))<|
 (pb L (x0.u4.getD y5.toNat Sa.az)).bind fun y6=>
 bif y6 then
  (a09 L x0 x1 x2 x3 (TL.of [T.a01 (TL.of [T.aG 12,T.aG 43])])).bind fun y7=>
  some y7
 else
 (jA L x2.parts).bind fun y7=>
 (eG L x2.parts 10).bind fun y8=>
 bif !y7.2 then
  (a09 L x0 x1 x2 x3 (TL.of [T.a01 (TL.of [T.aG 12,T.aG 7])])).bind fun y9=>
  some y9
 else
 bif !(aF 0 y8.1)then
  (a09 L x0 x1 x2 x3 (TL.of [T.a01 (TL.of [T.aG 12,T.aG 7])])).bind fun y9=>
  some y9
 else
 (eG L x2.parts 13).bind fun y9=>
 bif y9.2 then
  (qU L x0 x1 y9.1).bind fun y10=>
  (a0f L x0 y10).bind fun y11=>
  bif aH y10 0 then
   aJ (!(aF y5 0))<|
   aJ (Nat.blt y5.toNat (x0.u4.length))<|
   (j9 L (x0.u4.getD y5.toNat Sa.az)).bind fun y12=>
   (a09 L x0 x1 x2 x3 (TL.of [T.a01 (TL.of [T.aG 12,T.aG y12])])).bind fun y13=>
   some y13
  else
  bif aF y11 0 then
   aJ (!(aF y5 0))<|
   aJ (Nat.blt y5.toNat (x0.u4.length))<|
   (j9 L (x0.u4.getD y5.toNat Sa.az)).bind fun y12=>
   (a09 L x0 x1 x2 x3 (TL.of [T.a01 (TL.of [T.aG 12,T.aG y12])])).bind fun y13=>
   some y13
  else
  aJ (!(aF y11 0))<|
  aJ (Nat.blt y11.toNat (x0.af.length))<|
  bif !(aH (a00.state (x0.af.getD y11.toNat a00.az)) 1)then
   (a09 L x0 x1 x2 x3 (TL.of [T.a01 (TL.of [T.aG 12,T.aG 43])])).bind fun y12=>
   some y12
  else
  bif !(aF (x0.af.length:Int) 12)then
   (a09 L x0 x1 x2 x3 (TL.of [T.a01 (TL.of [T.aG 12,T.aG 35])])).bind fun y12=>
   some y12
  else
  aJ (!(aF y11 0))<|
  aJ (Nat.blt y11.toNat (x0.af.length))<|
  aJ (!(aF y5 0))<|
  aJ (Nat.blt y5.toNat (x0.u4.length))<|
  (js L (x0.u4.getD y5.toNat Sa.az) (add (mul 1000 (add x0.av 1)) (add x0.count 1)) y8.1 (a00.dm (x0.af.getD y11.toNat a00.az)) (a00.box (x0.af.getD y11.toNat a00.az)) false (T.name (add (mul x0.av 1048576) (add (add x0.count 1) 1))) y7.1).bind fun y12=>
  aJ (room ((x0.af++[y12]).length) 416)<|
  aJ (!(aF y11 0))<|
  aJ (Nat.blt y11.toNat ((x0.af++[y12]).length))<|
  aJ (!(aF y11 0))<|
  aJ (Nat.blt y11.toNat ((List.set (x0.af++[y12]) y11.toNat (a00.eT ((x0.af++[y12]).getD y11.toNat a00.az) (add (mul 1000 (add x0.av 1)) (add x0.count 1)))).length))<|
  (fL L (aa.bw x0 (count:=add (add x0.count 1) 1) (af:=List.set (List.set (x0.af++[y12]) y11.toNat (a00.eT ((x0.af++[y12]).getD y11.toNat a00.az) (add (mul 1000 (add x0.av 1)) (add x0.count 1)))) y11.toNat (a00.gJ ((List.set (x0.af++[y12]) y11.toNat (a00.eT ((x0.af++[y12]).getD y11.toNat a00.az) (add (mul 1000 (add x0.av 1)) (add x0.count 1)))).getD y11.toNat a00.az) 2))) (a00.dm (x0.af.getD y11.toNat a00.az))).bind fun y13=>
  (fA L (a00.box (x0.af.getD y11.toNat a00.az)) y13).bind fun y14=>
  (a09 L (aa.bw x0 (count:=add (add x0.count 1) 1) (af:=List.set (List.set (x0.af++[y12]) y11.toNat (a00.eT ((x0.af++[y12]).getD y11.toNat a00.az) (add (mul 1000 (add x0.av 1)) (add x0.count 1)))) y11.toNat (a00.gJ ((List.set (x0.af++[y12]) y11.toNat (a00.eT ((x0.af++[y12]).getD y11.toNat a00.az) (add (mul 1000 (add x0.av 1)) (add x0.count 1)))).getD y11.toNat a00.az) 2))) x1 x2 x3 (TL.of [T.a01 (TL.of [T.aG 10,T.aG (add (mul 1000 (add x0.av 1)) (add x0.count 1))]),y14,T.a01 (TL.of [T.aG 3,T.name (add (mul x0.av 1048576) (add (add x0.count 1) 1))])])).bind fun y15=>
  some y15
 else
 (a0f L x0 0).bind fun y10=>
 aJ (!(aF y5 0))<|
 aJ (Nat.blt y5.toNat (x0.u4.length))<|
 (j9 L (x0.u4.getD y5.toNat Sa.az)).bind fun y11=>
 (a09 L x0 x1 x2 x3 (TL.of [T.a01 (TL.of [T.aG 12,T.aG y11])])).bind fun y12=>
 some y12
def nC(L:Nat)(x0:TL):Option (Tm×Bool):=
 (cj L x0 3).bind fun y2=>
 bif !(aH (TL.len y2.1:Int) 1)then some ((0,0,TL.nil),false)else
 aJ (Nat.blt 0 y2.1.len)<|
 bif !(aH (Tm.op (TL.get y2.1 0)) 2)then some ((0,0,TL.nil),false)else
 aJ (Nat.blt 0 y2.1.len)<|
 some (TL.get y2.1 0,true)
def mL(L:Nat)(x0:TL):Option Bool:=
 bif aH (TL.len x0:Int) 0 then some false else
 aJ (Nat.ble 1 x0.len)<|
 (cj L (TL.drop 0 (TL.take 1 x0)) 12).bind fun y2=>
 some y2.2
def mK(L:Nat)(x0:aa)(x1:Int)(x2:bW)(x3:Int):Option (aa×(List aj)):=
 (bz L x0 x1).bind fun y5=>
 bif aF y5 0 then some (x0,[])else
 aJ (!(aF y5 0))<|
 aJ (Nat.blt y5.toNat (x0.u4.length))<|
 (pb L (x0.u4.getD y5.toNat Sa.az)).bind fun y6=>
 bif y6 then
  (a09 L x0 x1 x2 x3 (TL.of [T.a01 (TL.of [T.aG 12,T.aG 43])])).bind fun y7=>
  some y7
 else
 (nC L x2.parts).bind fun y7=>
 bif !y7.2 then
  (a09 L x0 x1 x2 x3 (TL.of [T.a01 (TL.of [T.aG 12,T.aG 7])])).bind fun y8=>
  some y8
 else
 (a2X L (aa.dj x0 (add x0.count 1)) x1 x2.parts (T.name (add (mul x0.av 1048576) (add x0.count 1))) y7.1).bind fun y8=>
 (mL L y8.2).bind fun y9=>
 bif !y9 then
  aJ (room (TL.len (TL.app y8.2 (TL.of [T.a01 (TL.of [T.aG 3,T.name (add (mul x0.av 1048576) (add x0.count 1))])]))) 40)<|
  (a09 L y8.1 x1 x2 x3 (TL.app y8.2 (TL.of [T.a01 (TL.of [T.aG 3,T.name (add (mul x0.av 1048576) (add x0.count 1))])]))).bind fun y10=>
  some y10
 else
 (a09 L y8.1 x1 x2 x3 y8.2).bind fun y10=>
 some y10
def a2L(L:Nat)(x0:aa)(x1:Int):Option aa:=
 (bz L x0 x1).bind fun y3=>
 bif aF y3 0 then some x0 else
 aJ (!(aF y3 0))<|
 aJ (Nat.blt y3.toNat (x0.u4.length))<|
 bif aH (Sa.follows (x0.u4.getD y3.toNat Sa.az)) x1 then
  aJ (!(aF y3 0))<|
  aJ (!(aF (add y3 1) 0))<|
  aJ ((Nat.ble y3.toNat (Int.toNat (add y3 1)))&&(Nat.ble (Int.toNat (add y3 1)) (x0.u4.length)))<|
  (iter (Y:=aa) 235009 (fun r4:(Int×aa)=>
    bif aF r4.1 (((List.take y3.toNat x0.u4)++(List.drop (Int.toNat (add y3 1)) x0.u4)).length:Int)then
     aJ (!(aF r4.1 0))<|
     aJ (Nat.blt r4.1.toNat (r4.2.u4.length))<|
     bif aH (Sa.follows (r4.2.u4.getD r4.1.toNat Sa.az)) x1 then
      bif aH (Sa.next (r4.2.u4.getD r4.1.toNat Sa.az)) x1 then
       bif aH (Sa.dP (r4.2.u4.getD r4.1.toNat Sa.az)) x1 then
        some (.inl (add r4.1 1,aa.bI r4.2 (List.set r4.2.u4 r4.1.toNat (Sa.bw (r4.2.u4.getD r4.1.toNat Sa.az) (next:=0) (dP:=0) (follows:=0)))))
       else
       some (.inl (add r4.1 1,aa.bI r4.2 (List.set r4.2.u4 r4.1.toNat (Sa.bw (r4.2.u4.getD r4.1.toNat Sa.az) (next:=0) (follows:=0)))))
      else
      bif aH (Sa.dP (r4.2.u4.getD r4.1.toNat Sa.az)) x1 then
       some (.inl (add r4.1 1,aa.bI r4.2 (List.set r4.2.u4 r4.1.toNat (Sa.bw (r4.2.u4.getD r4.1.toNat Sa.az) (dP:=0) (follows:=0)))))
      else
      some (.inl (add r4.1 1,aa.bI r4.2 (List.set r4.2.u4 r4.1.toNat (Sa.jb (r4.2.u4.getD r4.1.toNat Sa.az) 0))))
     else
     bif aH (Sa.next (r4.2.u4.getD r4.1.toNat Sa.az)) x1 then
      bif aH (Sa.dP (r4.2.u4.getD r4.1.toNat Sa.az)) x1 then
       some (.inl (add r4.1 1,aa.bI r4.2 (List.set r4.2.u4 r4.1.toNat (Sa.bw (r4.2.u4.getD r4.1.toNat Sa.az) (next:=0) (dP:=0)))))
      else
      some (.inl (add r4.1 1,aa.bI r4.2 (List.set r4.2.u4 r4.1.toNat (Sa.jh (r4.2.u4.getD r4.1.toNat Sa.az) 0))))
     else
     bif aH (Sa.dP (r4.2.u4.getD r4.1.toNat Sa.az)) x1 then
      some (.inl (add r4.1 1,aa.bI r4.2 (List.set r4.2.u4 r4.1.toNat (Sa.eT (r4.2.u4.getD r4.1.toNat Sa.az) 0))))
     else
     some (.inl (add r4.1 1,r4.2))
    else
    some (.inr r4.2)) L (0,aa.bI x0 ((List.take y3.toNat x0.u4)++(List.drop (Int.toNat (add y3 1)) x0.u4)))).bind fun y4=>
  (iter (Y:=(List a00)) 235021 (fun r5:((List a00)×Int)=>
    bif aF r5.2 (y4.af.length:Int)then
     aJ (!(aF r5.2 0))<|
     aJ (Nat.blt r5.2.toNat (y4.af.length))<|
     bif aH (a00.sa (y4.af.getD r5.2.toNat a00.az)) x1 then some (.inl (r5.1,add r5.2 1))else
     aJ (room ((r5.1++[y4.af.getD r5.2.toNat a00.az]).length) 416)<|
     some (.inl (r5.1++[y4.af.getD r5.2.toNat a00.az],add r5.2 1))
    else
    some (.inr r5.1)) L ([],0)).bind fun y5=>
  some (aa.ck y4 y5)
 else
 (bz L x0 (Sa.follows (x0.u4.getD y3.toNat Sa.az))).bind fun y4=>
 bif aF y4 0 then
  aJ (!(aF y3 0))<|
  aJ (!(aF (add y3 1) 0))<|
  aJ ((Nat.ble y3.toNat (Int.toNat (add y3 1)))&&(Nat.ble (Int.toNat (add y3 1)) (x0.u4.length)))<|
  (iter (Y:=aa) 235009 (fun r5:(Int×aa)=>
    bif aF r5.1 (((List.take y3.toNat x0.u4)++(List.drop (Int.toNat (add y3 1)) x0.u4)).length:Int)then
     aJ (!(aF r5.1 0))<|
     aJ (Nat.blt r5.1.toNat (r5.2.u4.length))<|
     bif aH (Sa.follows (r5.2.u4.getD r5.1.toNat Sa.az)) x1 then
      bif aH (Sa.next (r5.2.u4.getD r5.1.toNat Sa.az)) x1 then
       bif aH (Sa.dP (r5.2.u4.getD r5.1.toNat Sa.az)) x1 then
        some (.inl (add r5.1 1,aa.bI r5.2 (List.set r5.2.u4 r5.1.toNat (Sa.bw (r5.2.u4.getD r5.1.toNat Sa.az) (next:=0) (dP:=0) (follows:=0)))))
       else
       some (.inl (add r5.1 1,aa.bI r5.2 (List.set r5.2.u4 r5.1.toNat (Sa.bw (r5.2.u4.getD r5.1.toNat Sa.az) (next:=0) (follows:=0)))))
      else
      bif aH (Sa.dP (r5.2.u4.getD r5.1.toNat Sa.az)) x1 then
       some (.inl (add r5.1 1,aa.bI r5.2 (List.set r5.2.u4 r5.1.toNat (Sa.bw (r5.2.u4.getD r5.1.toNat Sa.az) (dP:=0) (follows:=0)))))
      else
      some (.inl (add r5.1 1,aa.bI r5.2 (List.set r5.2.u4 r5.1.toNat (Sa.jb (r5.2.u4.getD r5.1.toNat Sa.az) 0))))
     else
     bif aH (Sa.next (r5.2.u4.getD r5.1.toNat Sa.az)) x1 then
      bif aH (Sa.dP (r5.2.u4.getD r5.1.toNat Sa.az)) x1 then
       some (.inl (add r5.1 1,aa.bI r5.2 (List.set r5.2.u4 r5.1.toNat (Sa.bw (r5.2.u4.getD r5.1.toNat Sa.az) (next:=0) (dP:=0)))))
      else
      some (.inl (add r5.1 1,aa.bI r5.2 (List.set r5.2.u4 r5.1.toNat (Sa.jh (r5.2.u4.getD r5.1.toNat Sa.az) 0))))
     else
     bif aH (Sa.dP (r5.2.u4.getD r5.1.toNat Sa.az)) x1 then
      some (.inl (add r5.1 1,aa.bI r5.2 (List.set r5.2.u4 r5.1.toNat (Sa.eT (r5.2.u4.getD r5.1.toNat Sa.az) 0))))
     else
     some (.inl (add r5.1 1,r5.2))
    else
    some (.inr r5.2)) L (0,aa.bI x0 ((List.take y3.toNat x0.u4)++(List.drop (Int.toNat (add y3 1)) x0.u4)))).bind fun y5=>
  (iter (Y:=(List a00)) 235021 (fun r6:((List a00)×Int)=>
    bif aF r6.2 (y5.af.length:Int)then
     aJ (!(aF r6.2 0))<|
     aJ (Nat.blt r6.2.toNat (y5.af.length))<|
     bif aH (a00.sa (y5.af.getD r6.2.toNat a00.az)) x1 then some (.inl (r6.1,add r6.2 1))else
     aJ (room ((r6.1++[y5.af.getD r6.2.toNat a00.az]).length) 416)<|
     some (.inl (r6.1++[y5.af.getD r6.2.toNat a00.az],add r6.2 1))
    else
    some (.inr r6.1)) L ([],0)).bind fun y6=>
  some (aa.ck y5 y6)
 else
 aJ (!(aF y3 0))<|
 aJ (!(aF (add y3 1) 0))<|
 aJ ((Nat.ble y3.toNat (Int.toNat (add y3 1)))&&(Nat.ble (Int.toNat (add y3 1)) (x0.u4.length)))<|
 (iter (Y:=aa) 235009 (fun r5:(Int×aa)=>
   bif aF r5.1 (((List.take y3.toNat x0.u4)++(List.drop (Int.toNat (add y3 1)) x0.u4)).length:Int)then
    aJ (!(aF r5.1 0))<|
    aJ (Nat.blt r5.1.toNat (r5.2.u4.length))<|
    bif aH (Sa.follows (r5.2.u4.getD r5.1.toNat Sa.az)) x1 then
     bif aH (Sa.next (r5.2.u4.getD r5.1.toNat Sa.az)) x1 then
      bif aH (Sa.dP (r5.2.u4.getD r5.1.toNat Sa.az)) x1 then
       some (.inl (add r5.1 1,aa.bI r5.2 (List.set r5.2.u4 r5.1.toNat (Sa.bw (r5.2.u4.getD r5.1.toNat Sa.az) (next:=0) (dP:=0) (follows:=(Sa.follows (x0.u4.getD y3.toNat Sa.az)))))))
      else
      some (.inl (add r5.1 1,aa.bI r5.2 (List.set r5.2.u4 r5.1.toNat (Sa.bw (r5.2.u4.getD r5.1.toNat Sa.az) (next:=0) (follows:=(Sa.follows (x0.u4.getD y3.toNat Sa.az)))))))
     else
     bif aH (Sa.dP (r5.2.u4.getD r5.1.toNat Sa.az)) x1 then
      some (.inl (add r5.1 1,aa.bI r5.2 (List.set r5.2.u4 r5.1.toNat (Sa.bw (r5.2.u4.getD r5.1.toNat Sa.az) (dP:=0) (follows:=(Sa.follows (x0.u4.getD y3.toNat Sa.az)))))))
     else
     some (.inl (add r5.1 1,aa.bI r5.2 (List.set r5.2.u4 r5.1.toNat (Sa.jb (r5.2.u4.getD r5.1.toNat Sa.az) (Sa.follows (x0.u4.getD y3.toNat Sa.az))))))
    else
    bif aH (Sa.next (r5.2.u4.getD r5.1.toNat Sa.az)) x1 then
     bif aH (Sa.dP (r5.2.u4.getD r5.1.toNat Sa.az)) x1 then
      some (.inl (add r5.1 1,aa.bI r5.2 (List.set r5.2.u4 r5.1.toNat (Sa.bw (r5.2.u4.getD r5.1.toNat Sa.az) (next:=0) (dP:=0)))))
     else
     some (.inl (add r5.1 1,aa.bI r5.2 (List.set r5.2.u4 r5.1.toNat (Sa.jh (r5.2.u4.getD r5.1.toNat Sa.az) 0))))
    else
    bif aH (Sa.dP (r5.2.u4.getD r5.1.toNat Sa.az)) x1 then
     some (.inl (add r5.1 1,aa.bI r5.2 (List.set r5.2.u4 r5.1.toNat (Sa.eT (r5.2.u4.getD r5.1.toNat Sa.az) 0))))
    else
    some (.inl (add r5.1 1,r5.2))
   else
   some (.inr r5.2)) L (0,aa.bI x0 ((List.take y3.toNat x0.u4)++(List.drop (Int.toNat (add y3 1)) x0.u4)))).bind fun y5=>
 (iter (Y:=(List a00)) 235021 (fun r6:((List a00)×Int)=>
   bif aF r6.2 (y5.af.length:Int)then
    aJ (!(aF r6.2 0))<|
    aJ (Nat.blt r6.2.toNat (y5.af.length))<|
    bif aH (a00.sa (y5.af.getD r6.2.toNat a00.az)) x1 then
     bif aH (Sa.follows (x0.u4.getD y3.toNat Sa.az)) 0 then some (.inl (r6.1,add r6.2 1))else
     aJ (room ((r6.1++[((a00.eI (y5.af.getD r6.2.toNat a00.az)),((a00.out (y5.af.getD r6.2.toNat a00.az)),((Sa.follows (x0.u4.getD y3.toNat Sa.az)),(y5.af.getD r6.2.toNat a00.az).2.2.2)))]).length) 416)<|
     some (.inl (r6.1++[a00.An (y5.af.getD r6.2.toNat a00.az) (Sa.follows (x0.u4.getD y3.toNat Sa.az))],add r6.2 1))
    else
    aJ (room ((r6.1++[y5.af.getD r6.2.toNat a00.az]).length) 416)<|
    some (.inl (r6.1++[y5.af.getD r6.2.toNat a00.az],add r6.2 1))
   else
   some (.inr r6.1)) L ([],0)).bind fun y6=>
 some (aa.ck y5 y6)
def lu(L:Nat)(x0:aa)(x1:Int)(x2:Int):Option aa:=
 (bz L x0 x1).bind fun y4=>
 bif aF y4 0 then some x0 else
 aJ (!(aF y4 0))<|
 aJ (Nat.blt y4.toNat (x0.u4.length))<|
 bif !(aH (a04.ax (Sa.pending (x0.u4.getD y4.toNat Sa.az))) 3)then
  bif !(aH (a04.ax (Sa.pending (x0.u4.getD y4.toNat Sa.az))) 4)then some x0 else
  aJ (room (((a04.gone (Sa.pending (x0.u4.getD y4.toNat Sa.az)))++[x2]).length) 8)<|
  aJ (!(aF y4 0))<|
  aJ (Nat.blt y4.toNat (x0.u4.length))<|
  some (aa.bI x0 (List.set x0.u4 y4.toNat (Sa.dS (x0.u4.getD y4.toNat Sa.az) (a04.D1 (Sa.pending (x0.u4.getD y4.toNat Sa.az)) ((a04.gone (Sa.pending (x0.u4.getD y4.toNat Sa.az)))++[x2])))))
 else
 aJ (room (((a04.gone (Sa.pending (x0.u4.getD y4.toNat Sa.az)))++[x2]).length) 8)<|
 aJ (!(aF y4 0))<|
 aJ (Nat.blt y4.toNat (x0.u4.length))<|
 some (aa.bI x0 (List.set x0.u4 y4.toNat (Sa.dS (x0.u4.getD y4.toNat Sa.az) (a04.D1 (Sa.pending (x0.u4.getD y4.toNat Sa.az)) ((a04.gone (Sa.pending (x0.u4.getD y4.toNat Sa.az)))++[x2])))))
def lp(L:Nat)(x0:aa)(x1:Int):Option aa:=
 (a0f L x0 x1).bind fun y3=>
 bif !(aF y3 0)then
  aJ (!(aF y3 0))<|
  aJ (!(aF (add y3 1) 0))<|
  aJ ((Nat.ble y3.toNat (Int.toNat (add y3 1)))&&(Nat.ble (Int.toNat (add y3 1)) (x0.af.length)))<|
  some (aa.ck x0 ((List.take y3.toNat x0.af)++(List.drop (Int.toNat (add y3 1)) x0.af)))
 else
 some x0
def mg(L:Nat)(x0:aa)(x1:Int)(x2:bW)(x3:Int):Option (aa×(List aj)):=
 (cj L x2.parts 15).bind fun y5=>
 bif y5.2 then
  (a09 L x0 x1 x2 x3 TL.nil).bind fun y6=>
  (a2L L y6.1 x1).bind fun y7=>
  some (y7,y6.2)
 else
 (cj L x2.parts 14).bind fun y6=>
 (iter (Y:=(TL×aa)) 308008 (fun r7:(TL×Int×aa)=>
   bif aF r7.2.1 (TL.len y6.1:Int)then
    aJ (!(aF r7.2.1 0))<|
    aJ (Nat.blt r7.2.1.toNat y6.1.len)<|
    bif !(aH (Tm.op (TL.get y6.1 r7.2.1.toNat)) 1)then some (.inl (r7.1,add r7.2.1 1,r7.2.2))else
    (qU L r7.2.2 x1 (Tm.val (TL.get y6.1 r7.2.1.toNat))).bind fun y8=>
    (a0f L r7.2.2 y8).bind fun y9=>
    bif aH y8 0 then
     (lu L r7.2.2 x1 (Tm.val (TL.get y6.1 r7.2.1.toNat))).bind fun y10=>
     some (.inl (r7.1,add r7.2.1 1,y10))
    else
    bif aF y9 0 then
     (lu L r7.2.2 x1 (Tm.val (TL.get y6.1 r7.2.1.toNat))).bind fun y10=>
     some (.inl (r7.1,add r7.2.1 1,y10))
    else
    aJ (!(aF y9 0))<|
    aJ (Nat.blt y9.toNat (r7.2.2.af.length))<|
    bif !(aH (a00.state (r7.2.2.af.getD y9.toNat a00.az)) 3)then
     (lp L r7.2.2 y8).bind fun y10=>
     aJ (room (TL.len (TL.app r7.1 (TL.of [T.aG y8]))) 40)<|
     some (.inl (TL.app r7.1 (TL.of [T.aG y8]),add r7.2.1 1,y10))
    else
    some (.inl (r7.1,add r7.2.1 1,r7.2.2))
   else
   some (.inr (r7.1,r7.2.2))) L (TL.nil,0,x0)).bind fun y7=>
 bif aF 0 (TL.len y7.1:Int)then
  aJ (room (TL.len (TL.app (TL.of [T.aG 14]) y7.1)) 40)<|
  (a09 L y7.2 x1 x2 x3 (TL.of [T.a01 (TL.app (TL.of [T.aG 14]) y7.1)])).bind fun y8=>
  some y8
 else
 (a09 L y7.2 x1 x2 x3 TL.nil).bind fun y8=>
 some y8
def lY(L:Nat)(x0:aa)(x1:Int)(x2:bW)(x3:Int):Option (aa×(List aj)):=
 (cj L x2.parts 16).bind fun y5=>
 bif y5.2 then
  (bz L x0 x1).bind fun y6=>
  bif !(aF y6 0)then
   aJ (!(aF y6 0))<|
   aJ (Nat.blt y6.toNat (x0.u4.length))<|
   bif !(aH (Sa.a0a (x0.u4.getD y6.toNat Sa.az)) x3)then
    aJ (!(aF y6 0))<|
    aJ (Nat.blt y6.toNat (x0.u4.length))<|
    (a09 L (aa.bI x0 (List.set x0.u4 y6.toNat (Sa.GD (x0.u4.getD y6.toNat Sa.az) x3))) x1 x2 x3 TL.nil).bind fun y7=>
    some y7
   else
   (a09 L x0 x1 x2 x3 TL.nil).bind fun y7=>
   some y7
  else
  (a09 L x0 x1 x2 x3 TL.nil).bind fun y7=>
  some y7
 else
 (cj L x2.parts 17).bind fun y6=>
 bif !y6.2 then
  (a09 L x0 x1 x2 x3 TL.nil).bind fun y7=>
  some y7
 else
 aJ (room (TL.len (TL.app (TL.of [T.aG 17]) y6.1)) 40)<|
 (a09 L x0 x1 x2 x3 (TL.of [T.a01 (TL.app (TL.of [T.aG 17]) y6.1)])).bind fun y7=>
 some y7
def l8(L:Nat)(p:TL)(l:List Int){α:Type}(y n:Option α):Option α:=
 (iter (Y:=(Unit⊕Int)) 350002 (fun r5:Int=>
   bif aF r5 (l.length:Int)then
    aJ (!(aF r5 0))<|
    aJ (Nat.blt r5.toNat l.length)<|
    (cj L p (l.getD r5.toNat 0)).bind fun y6=>
    bif y6.2 then some (.inr (.inr r5))else
    some (.inl (add r5 1))
   else
   some (.inr (.inl ()))) L 0).bind fun z=>
 match z with
 | .inl _=>n
 | .inr i=>bif !(aF i 0)then y else n
def a3E(L:Nat)(x0:aa)(x1:Int)(x2:bW)(x3:Int):Option (aa×(List aj)):=
 bif !(aH x2.kind 37)then
  (a09 L x0 x1 x2 x3 (TL.of [T.a01 (TL.of [T.aG 12,T.aG 7])])).bind fun y=>some y
 else
 l8 L x2.parts [15,14] ((mg L x0 x1 x2 x3).bind fun y=>some y)
  (l8 L x2.parts [16,17] ((lY L x0 x1 x2 x3).bind fun y=>some y) ((a09 L x0 x1 x2 x3 TL.nil).bind fun y=>some y))
def lO(L:Nat)(x0:aa)(x1:Int)(x2:bW)(x3:Int):Option (aa×(List aj)):=
 bif aH x2.kind 36 then(mK L x0 x1 x2 x3).bind fun y=>some y else a3E L x0 x1 x2 x3
def lP(L:Nat)(x0:aa)(x1:Int)(x2:bW)(x3:Int):Option (aa×(List aj)):=
 bif aH x2.kind 36 then l8 L x2.parts [13] ((nn L x0 x1 x2 x3).bind fun y=>some y) (lO L x0 x1 x2 x3)else lO L x0 x1 x2 x3
def mT(L:Nat)(x0:aa)(x1:Int)(x2:bW)(x3:Int):Option (aa×(List aj)):=
 bif aH x2.kind 36 then l8 L x2.parts [2] ((jP L x0 x1 x2 x3).bind fun y=>some y) (lP L x0 x1 x2 x3)else lP L x0 x1 x2 x3
def a2Q(L:Nat)(x0:aa)(x1:Int):Option aa:=
 (bz L x0 x1).bind fun y3=>
 bif aF y3 0 then some x0 else
 aJ (!(aF y3 0))<|
 aJ (Nat.blt y3.toNat (x0.u4.length))<|
 some (aa.bI x0 (List.set x0.u4 y3.toNat (Sa.uA (x0.u4.getD y3.toNat Sa.az) x0.bA)))
def a3C(L:Nat)(x0:Sa)(x1:Int):Option aj:=
 some (x0.bM,x1,x0.sE)
def mQ(L:Nat)(x0:aa)(x1:Int):Option (aa×a04):=
 (bz L x0 x1).bind fun y3=>
 bif aF y3 0 then some (x0,a04.az)else
 aJ (!(aF y3 0))<|
 aJ (Nat.blt y3.toNat (x0.u4.length))<|
 some (aa.bI x0 (List.set x0.u4 y3.toNat (Sa.dS (x0.u4.getD y3.toNat Sa.az) a04.az)),(Sa.pending (x0.u4.getD y3.toNat Sa.az)))
def a3k(L:Nat)(x0:aa)(x1:Int)(x2:a04):Option aa:=
 bif aH x2.ax 6 then
  (lp L x0 x2.dF).bind fun y4=>
  some y4
 else
 bif aH x2.ax 7 then
  (a2L L x0 x1).bind fun y4=>
  some y4
 else
 some x0
def pY(L:Nat)(x0:aa)(x1:Int)(x2:bW)(x3:a04):Option aa:=
 (nC L x2.parts).bind fun y5=>
 bif !y5.2 then some x0 else
 (gZ L x0 x1 x2.parts x3 x3.dx y5.1).bind fun y6=>
 some y6.1
def gm(L:Nat)(x0:Sa):Option Bool:=
 bif aH x0.state 3 then
  bif aH x0.pending.ax 0 then
   bif aH x0.next 0 then
    bif aH x0.dP 0 then some (aH x0.follows 0)else
    some false
   else
   some false
  else
  some false
 else
 some false
def mc(L:Nat)(x0:aa)(x1:Int):Option (aa×(List aj)×Int):=
 (a0f L x0 x1).bind fun y3=>
 bif aF y3 0 then some (x0,[],20)else
 aJ (!(aF y3 0))<|
 aJ (Nat.blt y3.toNat (x0.af.length))<|
 (bz L x0 (a00.sa (x0.af.getD y3.toNat a00.az))).bind fun y4=>
 bif aF y4 0 then some (x0,[],20)else
 bif aH (a00.state (x0.af.getD y3.toNat a00.az)) 3 then some (x0,[],21)else
 aJ (!(aF y4 0))<|
 aJ (Nat.blt y4.toNat (x0.u4.length))<|
 (gm L (x0.u4.getD y4.toNat Sa.az)).bind fun y5=>
 bif !y5 then some (x0,[],21)else
 aJ (!(aF y3 0))<|
 aJ (Nat.blt y3.toNat (x0.af.length))<|
 (dL L (aa.ck x0 (List.set x0.af y3.toNat (a00.gJ (x0.af.getD y3.toNat a00.az) 3))) (a00.sa (x0.af.getD y3.toNat a00.az)) 37 (TL.of [T.a01 (TL.of [T.aG 14,T.aG x1])]) (a04.az (ax:=6) (dF:=x1))).bind fun y6=>
 some (y6.1,y6.2,0)
def dW(L:Nat)(x0:aa)(x1:Int):Option (aa×(List aj)):=
 (mc L x0 x1).bind fun y3=>
 bif !(aH y3.2.2 0)then some (x0,[])else
 some (y3.1,y3.2.1)
def qX(L:Nat)(x0:Tm):Option Int:=
 some (nA .i64 (mul (eN x0.val 0) 7919) 65535)
def vq(L:Nat)(x0:Tm)(x1:Tm):Option Bool:=
 (qX L x0).bind fun y3=>
 (qX L x1).bind fun y4=>
 bif !(aH y3 y4)then some (aF y3 y4)else
 (bq L x0 x1).bind fun y5=>
 some (aF y5 0)
def gg(L:Nat)(x0:Tm)(x1:Tm):Option Tm:=
 (vq L x0 x1).bind fun y3=>
 bif y3 then some x0 else
 some x1
def qj(L:Nat)(x0:(Tm×Tm×Tm×Tm)):Option Tm:=
 (gg L x0.1 x0.2.1).bind fun y2=>
 (gg L x0.2.2.1 x0.2.2.2).bind fun y3=>
 (gg L y2 y3).bind fun y4=>
 some y4
def eX(L:Nat)(x0:aa)(x1:Int)(x2:Int):Option (aa×(List aj)):=
 (a0f L x0 x1).bind fun y4=>
 aJ (!(aF y4 0))<|
 aJ (Nat.blt y4.toNat (x0.af.length))<|
 (a0f L x0 x2).bind fun y5=>
 aJ (!(aF y5 0))<|
 aJ (Nat.blt y5.toNat (x0.af.length))<|
 (a0f L x0 (a00.dP (x0.af.getD y4.toNat a00.az))).bind fun y6=>
 bif aH (a00.dP (x0.af.getD y4.toNat a00.az)) 0 then
  (dW L x0 x1).bind fun y7=>
  some y7
 else
 bif aF y6 0 then
  (dW L x0 x1).bind fun y7=>
  some y7
 else
 aJ (!(aF y6 0))<|
 aJ (Nat.blt y6.toNat (x0.af.length))<|
 (qj L ((a00.ours (x0.af.getD y5.toNat a00.az)),(a00.bO (x0.af.getD y5.toNat a00.az)),(a00.ours (x0.af.getD y6.toNat a00.az)),(a00.bO (x0.af.getD y6.toNat a00.az)))).bind fun y7=>
 (bq L y7 (a00.ours (x0.af.getD y5.toNat a00.az))).bind fun y8=>
 bif aH y8 0 then
  (dW L x0 x2).bind fun y9=>
  some y9
 else
 (bq L y7 (a00.bO (x0.af.getD y5.toNat a00.az))).bind fun y9=>
 bif aH y9 0 then
  (dW L x0 x2).bind fun y10=>
  some y10
 else
 aJ (!(aF y6 0))<|
 aJ (Nat.blt y6.toNat (x0.af.length))<|
 (dW L (aa.ck x0 (List.set x0.af y6.toNat (a00.gJ (x0.af.getD y6.toNat a00.az) 2))) x1).bind fun y10=>
 some y10
def qh(L:Nat)(x0:aa)(x1:Int)(x2:bW)(x3:a04):Option (aa×(List aj)):=
 (eG L x2.parts 12).bind fun y5=>
 bif y5.2 then
  bif aH y5.1 44 then
   (lp L x0 x3.dF).bind fun y6=>
   (jA L x2.parts).bind fun y7=>
   bif !y7.2 then some (y6,[])else
   (gZ L y6 x1 x2.parts x3 x3.dx y7.1).bind fun y8=>
   (a0f L y8.1 x3.dF).bind fun y9=>
   bif !y8.2.2 then some (y8.1,[])else
   bif aH y8.2.1 0 then
    (dW L y8.1 x3.dF).bind fun y10=>
    some y10
   else
   bif aF y9 0 then
    (dW L y8.1 y8.2.1).bind fun y10=>
    some y10
   else
   aJ (!(aF y9 0))<|
   aJ (Nat.blt y9.toNat (y8.1.af.length))<|
   bif !(aH (a00.state (y8.1.af.getD y9.toNat a00.az)) 3)then
    (eX L (aa.ck y8.1 (List.set y8.1.af y9.toNat (a00.bw (y8.1.af.getD y9.toNat a00.az) (state:=2) (next:=y8.2.1)))) x3.dF y8.2.1).bind fun y10=>
    some y10
   else
   (eX L (aa.ck y8.1 (List.set y8.1.af y9.toNat (a00.jh (y8.1.af.getD y9.toNat a00.az) y8.2.1))) x3.dF y8.2.1).bind fun y10=>
   some y10
  else
  (jA L x2.parts).bind fun y6=>
  bif !y6.2 then some (x0,[])else
  (gZ L x0 x1 x2.parts x3 x3.dx y6.1).bind fun y7=>
  (a0f L y7.1 x3.dF).bind fun y8=>
  bif !y7.2.2 then some (y7.1,[])else
  bif aH y7.2.1 0 then
   (dW L y7.1 x3.dF).bind fun y9=>
   some y9
  else
  bif aF y8 0 then
   (dW L y7.1 y7.2.1).bind fun y9=>
   some y9
  else
  aJ (!(aF y8 0))<|
  aJ (Nat.blt y8.toNat (y7.1.af.length))<|
  bif !(aH (a00.state (y7.1.af.getD y8.toNat a00.az)) 3)then
   (eX L (aa.ck y7.1 (List.set y7.1.af y8.toNat (a00.bw (y7.1.af.getD y8.toNat a00.az) (state:=2) (next:=y7.2.1)))) x3.dF y7.2.1).bind fun y9=>
   some y9
  else
  (eX L (aa.ck y7.1 (List.set y7.1.af y8.toNat (a00.jh (y7.1.af.getD y8.toNat a00.az) y7.2.1))) x3.dF y7.2.1).bind fun y9=>
  some y9
 else
 (jA L x2.parts).bind fun y6=>
 bif !y6.2 then some (x0,[])else
 (gZ L x0 x1 x2.parts x3 x3.dx y6.1).bind fun y7=>
 (a0f L y7.1 x3.dF).bind fun y8=>
 bif !y7.2.2 then some (y7.1,[])else
 bif aH y7.2.1 0 then
  (dW L y7.1 x3.dF).bind fun y9=>
  some y9
 else
 bif aF y8 0 then
  (dW L y7.1 y7.2.1).bind fun y9=>
  some y9
 else
 aJ (!(aF y8 0))<|
 aJ (Nat.blt y8.toNat (y7.1.af.length))<|
 bif !(aH (a00.state (y7.1.af.getD y8.toNat a00.az)) 3)then
  (eX L (aa.ck y7.1 (List.set y7.1.af y8.toNat (a00.bw (y7.1.af.getD y8.toNat a00.az) (state:=2) (next:=y7.2.1)))) x3.dF y7.2.1).bind fun y9=>
  some y9
 else
 (eX L (aa.ck y7.1 (List.set y7.1.af y8.toNat (a00.jh (y7.1.af.getD y8.toNat a00.az) y7.2.1))) x3.dF y7.2.1).bind fun y9=>
 some y9
def a2K(L:Nat)(x0:aa)(x1:Int):Option (aa×(List aj)×Int):=
 (bz L x0 x1).bind fun y3=>
 bif aF y3 0 then some (x0,[],20)else
 aJ (!(aF y3 0))<|
 aJ (Nat.blt y3.toNat (x0.u4.length))<|
 bif !(aH (Sa.state (x0.u4.getD y3.toNat Sa.az)) 3)then some (x0,[],21)else
 aJ (!(aF y3 0))<|
 aJ (Nat.blt y3.toNat (x0.u4.length))<|
 bif !(aH (a04.ax (Sa.pending (x0.u4.getD y3.toNat Sa.az))) 0)then some (x0,[],21)else
 aJ (!(aF y3 0))<|
 aJ (Nat.blt y3.toNat (x0.u4.length))<|
 (dL L (aa.bI x0 (List.set x0.u4 y3.toNat (Sa.gJ (x0.u4.getD y3.toNat Sa.az) 4))) x1 37 (TL.of [T.a01 (TL.of [T.aG 15])]) (a04.az (ax:=7))).bind fun y4=>
 some (y4.1,y4.2,0)
def kI(L:Nat)(x0:Sa)(x1:Sa):Option Bool:=
 (gg L x0.ours x0.bO).bind fun y3=>
 (gg L x1.ours x1.bO).bind fun y4=>
 (gg L y3 y4).bind fun y5=>
 (bq L y5 x0.ours).bind fun y6=>
 bif aH y6 0 then some true else
 (bq L y5 x0.bO).bind fun y7=>
 some (aH y7 0)
def a3h(L:Nat)(x0:aa)(x1:Int)(x2:bW)(x3:a04):Option (aa×(List aj)):=
 (bz L x0 x1).bind fun y5=>
 (ku L x2.parts).bind fun y6=>
 bif aF y5 0 then some (x0,[])else
 bif !y6.2.2.2.2 then some (x0,[])else
 (mJ L y6.2.2.2.1 x3.eE).bind fun y7=>
 aJ (!(aF y5 0))<|
 aJ (Nat.blt y5.toNat (x0.u4.length))<|
 (a2V L (x0.u4.getD y5.toNat Sa.az) x3.dZ y6.1 true x3.dx y6.2.1 y7.1 x0.bA).bind fun y8=>
 aJ (room ((x0.u4++[y8]).length) 856)<|
 aJ (!(aF y5 0))<|
 aJ (Nat.blt y5.toNat ((x0.u4++[y8]).length))<|
 (bz L (aa.bI x0 (List.set (x0.u4++[y8]) y5.toNat (Sa.jh ((x0.u4++[y8]).getD y5.toNat Sa.az) y8.own))) (Sa.dP ((x0.u4++[y8]).getD y5.toNat Sa.az))).bind fun y9=>
 bif !(aH (Sa.dP ((x0.u4++[y8]).getD y5.toNat Sa.az)) 0)then
  bif !(aF y9 0)then
   aJ (!(aF y9 0))<|
   aJ (Nat.blt y9.toNat ((List.set (x0.u4++[y8]) y5.toNat (Sa.jh ((x0.u4++[y8]).getD y5.toNat Sa.az) y8.own)).length))<|
   (kI L y8 ((List.set (x0.u4++[y8]) y5.toNat (Sa.jh ((x0.u4++[y8]).getD y5.toNat Sa.az) y8.own)).getD y9.toNat Sa.az)).bind fun y10=>
   bif y10 then
    (a2K L (aa.bI x0 (List.set (x0.u4++[y8]) y5.toNat (Sa.jh ((x0.u4++[y8]).getD y5.toNat Sa.az) y8.own))) y8.own).bind fun y11=>
    bif !(aH y11.2.2 0)then
     some (aa.bI x0 (List.set (x0.u4++[y8]) y5.toNat (Sa.jh ((x0.u4++[y8]).getD y5.toNat Sa.az) y8.own)),[])
    else
    some (y11.1,y11.2.1)
   else
   (a2K L (aa.bI x0 (List.set (x0.u4++[y8]) y5.toNat (Sa.bw ((x0.u4++[y8]).getD y5.toNat Sa.az) (next:=y8.own) (follows:=y8.own)))) x1).bind fun y11=>
   bif !(aH y11.2.2 0)then
    some (aa.bI x0 (List.set (x0.u4++[y8]) y5.toNat (Sa.bw ((x0.u4++[y8]).getD y5.toNat Sa.az) (next:=y8.own) (follows:=y8.own))),[])
   else
   some (y11.1,y11.2.1)
  else
  (a2K L (aa.bI x0 (List.set (x0.u4++[y8]) y5.toNat (Sa.bw ((x0.u4++[y8]).getD y5.toNat Sa.az) (next:=y8.own) (follows:=y8.own)))) x1).bind fun y10=>
  bif !(aH y10.2.2 0)then
   some (aa.bI x0 (List.set (x0.u4++[y8]) y5.toNat (Sa.bw ((x0.u4++[y8]).getD y5.toNat Sa.az) (next:=y8.own) (follows:=y8.own))),[])
  else
  some (y10.1,y10.2.1)
 else
 (a2K L (aa.bI x0 (List.set (x0.u4++[y8]) y5.toNat (Sa.bw ((x0.u4++[y8]).getD y5.toNat Sa.az) (next:=y8.own) (follows:=y8.own)))) x1).bind fun y10=>
 bif !(aH y10.2.2 0)then
  some (aa.bI x0 (List.set (x0.u4++[y8]) y5.toNat (Sa.bw ((x0.u4++[y8]).getD y5.toNat Sa.az) (next:=y8.own) (follows:=y8.own))),[])
 else
 some (y10.1,y10.2.1)
def lX(L:Nat)(x0:aa)(x1:Int)(x2:bW)(x3:a04):Option aa:=
 (bz L x0 x1).bind fun y5=>
 (cj L x2.parts 17).bind fun y6=>
 bif !(aH x3.ax 10)then some x0 else
 bif aF y5 0 then some x0 else
 bif !(aH (TL.len y6.1:Int) 1)then some x0 else
 aJ (Nat.blt 0 y6.1.len)<|
 (bq L (TL.get y6.1 0) x3.probe).bind fun y7=>
 bif !(aH y7 0)then some x0 else
 aJ (!(aF y5 0))<|
 aJ (Nat.blt y5.toNat (x0.u4.length))<|
 bif aH (Sa.Ao (x0.u4.getD y5.toNat Sa.az)) x3.to then
  some (aa.bI x0 (List.set x0.u4 y5.toNat (Sa.bw (x0.u4.getD y5.toNat Sa.az) (a0a:=x3.to) (Ao:=0))))
 else
 some (aa.bI x0 (List.set x0.u4 y5.toNat (Sa.Am (x0.u4.getD y5.toNat Sa.az) x3.to)))
def fo(L:Nat)(x0:aa)(x1:Int)(x2:bW)(r:a04):Option (aa×(List aj)):=
 bif aH r.ax 0 then none else
 bif aH r.ax 1 then none else
 bif aH r.ax 2 then none else
 bif aH r.ax 3 then(pY L x0 x1 x2 r).bind fun y=>some (y,[])else
 bif aH r.ax 4 then(qh L x0 x1 x2 r).bind fun y=>some y else
 bif aH r.ax 5 then(a3h L x0 x1 x2 r).bind fun y=>some y else
 bif aH r.ax 6 then(a3k L x0 x1 r).bind fun y=>some (y,[])else
 bif aH r.ax 7 then(a3k L x0 x1 r).bind fun y=>some (y,[])else
 bif aH r.ax 8 then none else
 bif aH r.ax 9 then(lX L x0 x1 x2 r).bind fun y=>some (y,[])else
 aJ (aH r.ax 10)<|(lX L x0 x1 x2 r).bind fun y=>some (y,[])
def jK(L:Nat)(x0:aa)(x1:Int)(x2:bW):Option (aa×(List aj)):=
 (mQ L x0 x1).bind fun y4=>
 bif aF y4.2.ax 0 then some (y4.1,[])else
 bif !(aF y4.2.ax 11)then some (y4.1,[])else
 bif aH y4.2.ax 0 then some (y4.1,[])else
 bif aH y4.2.ax 1 then some (y4.1,[])else
 bif aH y4.2.ax 2 then some (y4.1,[])else
 bif aH y4.2.ax 3 then fo L y4.1 x1 x2 y4.2 else
 bif aH y4.2.ax 4 then fo L y4.1 x1 x2 y4.2 else
 bif aH y4.2.ax 5 then fo L y4.1 x1 x2 y4.2 else
 bif aH y4.2.ax 6 then fo L y4.1 x1 x2 y4.2 else
 bif aH y4.2.ax 7 then fo L y4.1 x1 x2 y4.2 else
 bif aH y4.2.ax 8 then some (y4.1,[])else
 bif aH y4.2.ax 9 then fo L y4.1 x1 x2 y4.2 else
 aJ (aH y4.2.ax 10)<|fo L y4.1 x1 x2 y4.2
def eR(L:Nat)(x0:aa)(x1:aj)(x2:bW):Option (aa×(List aj)):=
 (ow L x0 x2).bind fun y4=>
 bif aF y4 0 then some (x0,[])else
 aJ (!(aF y4 0))<|
 aJ (Nat.blt y4.toNat (x0.u4.length))<|
 (a3l L (Sa.eI (x0.u4.getD y4.toNat Sa.az)) x1.body).bind fun y5=>
 bif !y5.2 then some (x0,[])else
 bif aH (Sa.state (x0.u4.getD y4.toNat Sa.az)) 1 then some (x0,[])else
 bif aH (Sa.state (x0.u4.getD y4.toNat Sa.az)) 2 then
  bif y5.1.bY then
   bif aH y5.1.kind 35 then
    bif aH y5.1.iD 1 then
     bif !y5.1.aV then
      (a3L L x0 (Sa.own (x0.u4.getD y4.toNat Sa.az)) y5.1).bind fun y6=>
      some (y6,[])
     else
     some (x0,[])
    else
    some (x0,[])
   else
   some (x0,[])
  else
  some (x0,[])
 else
 (mR L (x0.u4.getD y4.toNat Sa.az) y5.1).bind fun y6=>
 bif aH y6 1 then
  (a2Q L x0 (Sa.own (x0.u4.getD y4.toNat Sa.az))).bind fun y7=>
  (mT L y7 (Sa.own (x0.u4.getD y4.toNat Sa.az)) y5.1 x1.cq).bind fun y8=>
  some y8
 else
 bif aH y6 2 then
  (a3C L (x0.u4.getD y4.toNat Sa.az) x1.cq).bind fun y7=>
  some (x0,[y7])
 else
 bif aH y6 3 then
  (a2Q L x0 (Sa.own (x0.u4.getD y4.toNat Sa.az))).bind fun y7=>
  (jK L y7 (Sa.own (x0.u4.getD y4.toNat Sa.az)) y5.1).bind fun y8=>
  some y8
 else
 some (x0,[])
def gp(o:Option (aa×List aj)):Option (aa×fa):=Option.bind o fun y=>some (y.1,fa.az (bK:=y.2))
def gT(L:Nat)(x0:aa)(x1:aj):Option (aa×fa):=
 (fJ L x1.body).bind fun y4=>
 bif !y4.2.2 then some (x0,fa.az)else
 bif !y4.2.1 then gp (mU L x0 x1 y4.1)else
 bif aH y4.1.kind 35 then
  bif !y4.1.bY then
   bif y4.1.aV then
    (oU L x0 y4.1.ia).bind fun y5=>
    bif !(aF y5 0)then gp (oh L x0 x1 y4.1)else gp (eR L x0 x1 y4.1)
   else
   gp (eR L x0 x1 y4.1)
  else
  gp (eR L x0 x1 y4.1)
 else
 gp (eR L x0 x1 y4.1)
def jJ(L:Nat)(x0:aa)(x1:aj):Option (aa×fa):=
 (a2M L x1.body).bind fun y3=>
 bif !y3 then some (x0,fa.az)else
 bif aH x1.body.op 3 then
  bif aF 0 (TL.len x1.body.args:Int)then
   aJ (Nat.blt 0 x1.body.args.len)<|
   (bq L (TL.get x1.body.args 0) (T.aG 50)).bind fun y4=>
   bif aH y4 0 then
    (mO L x0 x1.body).bind fun y5=>
    some y5
   else
   gT L x0 x1
  else
  gT L x0 x1
 else
 gT L x0 x1
def chooseL(L:Nat)(g:aa)(dm:Int)(p:a05):List a00->Option Int
 |[]=>some 0
 |c::l=>
  bif aH c.state 1&&aH c.dm dm then
   (cS L c.box p true).bind fun h=>
   bif h then
    (bz L g c.sa).bind fun i=>
    bif !(aF i 0)&&aF c.sent 200 then some c.eI else chooseL L g dm p l
   else chooseL L g dm p l
  else chooseL L g dm p l
def gw(L:Nat)(x0:aa)(x1:Int)(x2:a05):Option Int:=chooseL L x0 x1 x2 x0.af.reverse
def jt(L:Nat)(x0:Clear):Option Tm:=
 some (T.a01 (TL.of [T.aG x0.bf.bZ.bx,T.aG (aY .i64 x0.bf.bZ.hi),T.aG (aY .i64 x0.bf.bZ.lo),T.aG x0.bf.target.bx,T.aG (aY .i64 x0.bf.target.hi),T.aG (aY .i64 x0.bf.target.lo),T.aG x0.bf.aR,T.aG x0.bf.aK,T.aG x0.bf.aO,T.aG x0.iD]))
def sw(L:Nat)(x0:aa)(x1:Int)(x2:Int)(x3:Clear)(y5:Int)(x:a00):Option (aa×fa):=
 (bz L (aa.ck x0 (List.set x0.af y5.toNat (a00.xw x (add x.sent 1)))) x.sa).bind fun y6=>
 aJ (!(aF y6 0))<|
 aJ (Nat.blt y6.toNat (x0.u4.length))<|
 (jt L x3).bind fun y7=>
 some (aa.ck x0 (List.set x0.af y5.toNat (a00.xw x (add x.sent 1))),fa.az (bK:=[((Sa.bM (x0.u4.getD y6.toNat Sa.az)),(Sa.a0a (x0.u4.getD y6.toNat Sa.az)),T.a01 (TL.of [T.aG 50,T.aG x.out,T.aG (rem (add x.sent 1) 16),T.gq x.o6 (T.a01 (TL.of [T.aG x.out,T.aG (add x.sent 1),y7]))]))]) (sent:=[(x0.av,x3,x2,x1)]))
def lJ(L:Nat)(x0:aa)(x1:Int)(x2:Int)(x3:Clear):Option (aa×fa):=
 (a0f L x0 x1).bind fun y5=>
 aJ (!(aF y5 0))<|
 aJ (Nat.blt y5.toNat (x0.af.length))<|
 sw L x0 x1 x2 x3 y5 (x0.af.getD y5.toNat a00.az)
def kg(L:Nat)(x0:aa)(x1:Int)(x2:Int)(x3:aU):Option (aa×(List aj)×Int):=
 bif !(aF (x0.u4.length:Int) 8)then some (x0,[],25)else
 bif aH (x0.dB.length:Int) 0 then some (x0,[],8)else
 aJ (Nat.blt 0 (x0.dB.length))<|
 (gM L x0.dB).bind fun y5=>
 aJ (room (TL.len (TL.app (TL.of [T.aG 1]) y5)) 40)<|
 (gE L (x0.dB.getD 0 0) (T.name (add (mul x0.av 1048576) (add (add (add x0.count 1) 1) 1)))).bind fun y6=>
 (pE L (add (mul 1000 (add x0.av 1)) (add x0.count 1)) x0.bM x1).bind fun y7=>
 (cJ L (bW.az (kind:=34) (eV:=add (mul 1000 (add x0.av 1)) (add x0.count 1)) (aV:=true) (parts:=TL.of [T.a01 (TL.app (TL.of [T.aG 1]) y5),y6,T.a01 (TL.of [T.aG 3,T.name (add (mul x0.av 1048576) (add (add x0.count 1) 1))]),y7]))).bind fun y8=>
 aJ (room ((x0.u4++[(add (mul 1000 (add x0.av 1)) (add x0.count 1),(0,(true,(1,(x0.bM,(x1,((0,(0,TL.nil)),((0,(0,TL.nil)),((0,(0,TL.nil)),((2,(add (mul x0.av 1048576) (add (add x0.count 1) 1),TL.nil)),((0,(0,TL.nil)),((3,(0,TL.of [T.aG y8.1,T.aG y8.2.1,T.aG y8.2.2.1,T.aG y8.2.2.2.1,T.aG y8.2.2.2.2,T.a01 (TL.of [T.a01 (TL.app (TL.of [T.aG 1]) y5),y6,T.a01 (TL.of [T.aG 3,T.name (add (mul x0.av 1048576) (add (add x0.count 1) 1))]),y7])])),((0,(0,TL.nil)),(1,(0,((1,(0,((3,(0,TL.of [T.aG y8.1,T.aG y8.2.1,T.aG y8.2.2.1,T.aG y8.2.2.2.1,T.aG y8.2.2.2.2,T.a01 (TL.of [T.a01 (TL.app (TL.of [T.aG 1]) y5),y6,T.a01 (TL.of [T.aG 3,T.name (add (mul x0.av 1048576) (add (add x0.count 1) 1))]),y7])])),(x1,(1,(add x0.bA 2,((2,(add (mul x0.av 1048576) (add (add x0.count 1) 1),TL.nil)),((2,(add (mul x0.av 1048576) (add (add (add x0.count 1) 1) 1),TL.nil)),(0,(0,(x2,(x3,((0,(0,TL.nil)),[]))))))))))))),((-1),((0,(0,TL.nil)),(x0.bA,(0,(0,(0,(0,(false,(x0.bA,(false,0))))))))))))))))))))))))))]).length) 856)<|
 some (aa.bw x0 (count:=add (add (add x0.count 1) 1) 1) (u4:=x0.u4++[Sa.az (own:=add (mul 1000 (add x0.av 1)) (add x0.count 1)) (aV:=true) (state:=1) (bM:=x0.bM) (a0a:=x1) (ours:=T.name (add (mul x0.av 1048576) (add (add x0.count 1) 1))) (first:=T.a01 (TL.of [T.aG y8.1,T.aG y8.2.1,T.aG y8.2.2.1,T.aG y8.2.2.2.1,T.aG y8.2.2.2.2,T.a01 (TL.of [T.a01 (TL.app (TL.of [T.aG 1]) y5),y6,T.a01 (TL.of [T.aG 3,T.name (add (mul x0.av 1048576) (add (add x0.count 1) 1))]),y7])])) (eZ:=1) (pending:=a04.az (ax:=1) (body:=T.a01 (TL.of [T.aG y8.1,T.aG y8.2.1,T.aG y8.2.2.1,T.aG y8.2.2.2.1,T.aG y8.2.2.2.2,T.a01 (TL.of [T.a01 (TL.app (TL.of [T.aG 1]) y5),y6,T.a01 (TL.of [T.aG 3,T.name (add (mul x0.av 1048576) (add (add x0.count 1) 1))]),y7])])) (to:=x1) (sent:=1) (sx:=add x0.bA 2) (dx:=T.name (add (mul x0.av 1048576) (add (add x0.count 1) 1))) (eE:=T.name (add (mul x0.av 1048576) (add (add (add x0.count 1) 1) 1))) (dm:=x2) (box:=x3)) (iQ:=(-1)) (eC:=x0.bA) (lV:=x0.bA)]),[(x0.bM,x1,T.a01 (TL.of [T.aG y8.1,T.aG y8.2.1,T.aG y8.2.2.1,T.aG y8.2.2.2.1,T.aG y8.2.2.2.2,T.a01 (TL.of [T.a01 (TL.app (TL.of [T.aG 1]) y5),y6,T.a01 (TL.of [T.aG 3,T.name (add (mul x0.av 1048576) (add (add x0.count 1) 1))]),y7])]))],0)
def rq(L:Nat)(x0:aa)(x1:Int)(x2:Int)(x3:aU):Option (aa×(List aj)×Int):=
 (bz L x0 x1).bind fun y5=>
 bif aF y5 0 then some (x0,[],20)else
 aJ (!(aF y5 0))<|
 aJ (Nat.blt y5.toNat (x0.u4.length))<|
 (gm L (x0.u4.getD y5.toNat Sa.az)).bind fun y6=>
 bif !y6 then some (x0,[],21)else
 bif aF x2 0 then some (x0,[],24)else
 bif !(aF x2 (x0.dh.length:Int))then some (x0,[],24)else
 aJ (!(aF x2 0))<|
 aJ (Nat.blt x2.toNat (x0.dh.length))<|
 bif !(aH (aQ.cO (x0.dh.getD x2.toNat aQ.az)) 2)then some (x0,[],24)else
 bif !(aF (x0.af.length:Int) 12)then some (x0,[],25)else
 (fL L (aa.dj x0 (add (add x0.count 1) 1)) x2).bind fun y7=>
 (fA L x3 y7).bind fun y8=>
 (dL L (aa.dj x0 (add (add x0.count 1) 1)) x1 36 (TL.of [T.a01 (TL.of [T.aG 10,T.aG (add (mul 1000 (add x0.av 1)) (add x0.count 1))]),y8,T.a01 (TL.of [T.aG 3,T.name (add (mul x0.av 1048576) (add (add x0.count 1) 1))])]) (a04.az (ax:=3) (dx:=T.name (add (mul x0.av 1048576) (add (add x0.count 1) 1))) (dZ:=add (mul 1000 (add x0.av 1)) (add x0.count 1)) (dm:=x2) (box:=x3))).bind fun y9=>
 some (y9.1,y9.2,0)
def iL(L:Nat)(x0:aa)(x1:Int)(y5:Int)(bs:List aU):Option (aa×(List aj)):=
 bif aH (x0.u4.length:Int) 0 then
  aJ (!(aF y5 0))<|
  aJ (Nat.blt y5.toNat bs.length)<|
  (kg L x0 x0.a0a x1 (bs.getD y5.toNat aU.az)).bind fun y8=>
  bif !(aH y8.2.2 0)then some (x0,[])else
  some (y8.1,y8.2.1)
 else
 some (x0,[])
def pg(L:Nat)(x0:aa)(x1:Int)(x2:a05)(bs:List aU):Option (aa×(List aj)):=
 (iter (Y:=(Unit⊕Int)) 229002 (fun r4:Int=>
   bif aF r4 (bs.length:Int)then
    aJ (!(aF r4 0))<|
    aJ (Nat.blt r4.toNat bs.length)<|
    (cS L (bs.getD r4.toNat aU.az) x2 true).bind fun y5=>
    bif y5 then some (.inr (.inr r4))else
    some (.inl (add r4 1))
   else
   some (.inr (.inl ()))) L 0).bind fun y4=>
 match y4 with
 | .inl _=>some (x0,[])
 | .inr y5=>
   bif aF y5 0 then some (x0,[])else
   (iter (Y:=(Unit⊕Int)) 106002 (fun r6:Int=>
     bif aF r6 (x0.u4.length:Int)then
      aJ (!(aF r6 0))<|
      aJ (Nat.blt r6.toNat (x0.u4.length))<|
      (gm L (x0.u4.getD r6.toNat Sa.az)).bind fun y7=>
      bif y7 then some (.inr (.inr r6))else
      some (.inl (add r6 1))
     else
     some (.inr (.inl ()))) L 0).bind fun y6=>
   match y6 with
   | .inl _=>iL L x0 x1 y5 bs
   | .inr y7=>
     bif !(aF y7 0)then
      aJ (!(aF y7 0))<|
      aJ (Nat.blt y7.toNat (x0.u4.length))<|
      aJ (!(aF y5 0))<|
      aJ (Nat.blt y5.toNat bs.length)<|
      (rq L x0 (Sa.own (x0.u4.getD y7.toNat Sa.az)) x1 (bs.getD y5.toNat aU.az)).bind fun y8=>
      bif !(aH y8.2.2 0)then some (x0,[])else
      some (y8.1,y8.2.1)
     else
     iL L x0 x1 y5 bs
def jk(L:Nat)(x0:aa)(x1:Int)(x2:a05):Option (aa×(List aj)):=
 bif aF x1 0 then some (x0,[])else
 bif !(aF x1 (x0.dh.length:Int))then some (x0,[])else
 aJ (!(aF x1 0))<|
 aJ (Nat.blt x1.toNat (x0.dh.length))<|
 pg L x0 x1 x2 (aQ.cI (x0.dh.getD x1.toNat aQ.az))
def jF(L:Nat)(x0:aa)(x1:Clear):Option (aa×fa):=
 (j5 L x0.dh x1.bf true).bind fun y3=>
 bif aF y3.1 0 then some (x0,fa.az)else
 bif !(aF y3.1 3)then some (x0,fa.az)else
 bif aH y3.1 0 then some (x0,fa.az)else
 bif aH y3.1 1 then some (x0,fa.az (outside:=[x1]) (ct:=[(x0.av,x1,y3.2,0)]))else
 aJ (aH y3.1 2)<|
 (gw L x0 y3.2 x1.bf).bind fun y4=>
 bif !(aH y4 0)then
  (lJ L x0 y4 y3.2 x1).bind fun y5=>
  some y5
 else
 (jk L x0 y3.2 x1.bf).bind fun y5=>
 some (y5.1,fa.az (bK:=y5.2))
def jj(L:Nat)(x0:aa)(x1:Clear):Option fa:=
 (j5 L x0.dh x1.bf false).bind fun y3=>
 bif !(aH y3.1 1)then some fa.az else
 some (fa.az (lU:=[x1]))
def ru(L:Nat)(x0:aa):Option aa:=
 (iter (Y:=(Unit⊕Int)) 202002 (fun r2:Int=>
   bif aF r2 (x0.aW.length:Int)then
    aJ (!(aF r2 0))<|
    aJ (Nat.blt r2.toNat (x0.aW.length))<|
    bif !(aF (sub x0.bA (bN.born (x0.aW.getD r2.toNat bN.az))) 10)then some (.inr (.inr r2))else
    some (.inl (add r2 1))
   else
   some (.inr (.inl ()))) L 0).bind fun y2=>
 match y2 with
 | .inl y3=>
   some x0
 | .inr y3=>
   bif aH y3 (-1)then some x0 else
   (iter (Y:=(Int×(List bN))) 319005 (fun r4:(Int×Int×(List bN))=>
     bif aF r4.2.1 (r4.2.2.length:Int)then
      aJ (!(aF r4.2.1 0))<|
      aJ (Nat.blt r4.2.1.toNat r4.2.2.length)<|
      bif !(!(aF (sub x0.bA (bN.born (r4.2.2.getD r4.2.1.toNat bN.az))) 10))then
       aJ (!(aF r4.1 0))<|
       aJ (Nat.blt r4.1.toNat r4.2.2.length)<|
       some (.inl (add r4.1 1,add r4.2.1 1,List.set r4.2.2 r4.1.toNat (r4.2.2.getD r4.2.1.toNat bN.az)))
      else
      some (.inl (r4.1,add r4.2.1 1,r4.2.2))
     else
     some (.inr (r4.1,r4.2.2))) L (y3,add y3 1,x0.aW)).bind fun y4=>
   aJ (!(aF y4.1 0))<|
   aJ ((Nat.ble y4.1.toNat y4.2.length)&&(Nat.ble y4.2.length y4.2.length))<|
   aJ (!(aF y4.1 0))<|
   aJ ((Nat.ble 0 y4.1.toNat)&&(Nat.ble y4.1.toNat ((((List.drop 0 (List.take y4.1.toNat y4.2))++(List.replicate (y4.2.length-y4.1.toNat) (0,(0,(0,((0,(0,TL.nil)),((0,(0,TL.nil)),((0,(0,TL.nil)),((0,(0,TL.nil)),((0,(0,TL.nil)),((0,(0,TL.nil)),((0,(0,TL.nil)),(0,false)))))))))))))++(List.drop y4.2.length (List.take y4.2.length y4.2))).length)))<|
   some (aa.pT x0 (List.drop 0 (List.take y4.1.toNat (((List.drop 0 (List.take y4.1.toNat y4.2))++(List.replicate (y4.2.length-y4.1.toNat) (0,(0,(0,((0,(0,TL.nil)),((0,(0,TL.nil)),((0,(0,TL.nil)),((0,(0,TL.nil)),((0,(0,TL.nil)),((0,(0,TL.nil)),((0,(0,TL.nil)),(0,false)))))))))))))++(List.drop y4.2.length (List.take y4.2.length y4.2))))))
def ou(L:Nat)(x0:aa):Option (aa×(List aj)×(List Int)):=
 (iter (Y:=((List aj)×(List Int)×aa)) 146005 (fun r2:((List aj)×(List Int)×Int×aa)=>
   bif aF r2.2.2.1 (x0.u4.length:Int)then
    aJ (!(aF r2.2.2.1 0))<|
    aJ (Nat.blt r2.2.2.1.toNat (r2.2.2.2.u4.length))<|
    bif aH (a04.ax (Sa.pending (r2.2.2.2.u4.getD r2.2.2.1.toNat Sa.az))) 0 then some (.inl (r2.1,r2.2.1,add r2.2.2.1 1,r2.2.2.2))else
    bif aF r2.2.2.2.bA (a04.sx (Sa.pending (r2.2.2.2.u4.getD r2.2.2.1.toNat Sa.az)))then some (.inl (r2.1,r2.2.1,add r2.2.2.1 1,r2.2.2.2))else
    bif !(aF (a04.sent (Sa.pending (r2.2.2.2.u4.getD r2.2.2.1.toNat Sa.az))) 3)then
     aJ (room ((r2.2.1++[(Sa.own (r2.2.2.2.u4.getD r2.2.2.1.toNat Sa.az))]).length) 8)<|
     some (.inl (r2.1,r2.2.1++[(Sa.own (r2.2.2.2.u4.getD r2.2.2.1.toNat Sa.az))],add r2.2.2.1 1,r2.2.2.2))
    else
    aJ (room ((r2.1++[((Sa.bM (r2.2.2.2.u4.getD r2.2.2.1.toNat Sa.az)),((a04.to (Sa.pending (r2.2.2.2.u4.getD r2.2.2.1.toNat Sa.az))),(a04.body (Sa.pending (r2.2.2.2.u4.getD r2.2.2.1.toNat Sa.az)))))]).length) 56)<|
    aJ (!(aF (eN (a04.sent (Sa.pending (r2.2.2.2.u4.getD r2.2.2.1.toNat Sa.az))) 0) 0))<|
    some (.inl (r2.1++[((Sa.bM (r2.2.2.2.u4.getD r2.2.2.1.toNat Sa.az)),(a04.to (Sa.pending (r2.2.2.2.u4.getD r2.2.2.1.toNat Sa.az))),(a04.body (Sa.pending (r2.2.2.2.u4.getD r2.2.2.1.toNat Sa.az))))],r2.2.1,add r2.2.2.1 1,aa.bI r2.2.2.2 (List.set r2.2.2.2.u4 r2.2.2.1.toNat (Sa.dS (r2.2.2.2.u4.getD r2.2.2.1.toNat Sa.az) (a04.bw (Sa.pending (r2.2.2.2.u4.getD r2.2.2.1.toNat Sa.az)) (sent:=add (a04.sent (Sa.pending (r2.2.2.2.u4.getD r2.2.2.1.toNat Sa.az))) 1) (sx:=add r2.2.2.2.bA (shl 2 (eN (a04.sent (Sa.pending (r2.2.2.2.u4.getD r2.2.2.1.toNat Sa.az))) 0))))))))
   else
   some (.inr (r2.1,r2.2.1,r2.2.2.2))) L ([],[],0,x0)).bind fun y2=>
 some (y2.2.2,y2.1,y2.2.1)
def kG(L:Nat)(x0:aa)(x1:(List Int)):Option aa:=
 (iter (Y:=aa) 234002 (fun r3:(Int×aa)=>
   bif aF r3.1 (x1.length:Int)then
    aJ (!(aF r3.1 0))<|
    aJ (Nat.blt r3.1.toNat x1.length)<|
    (a2L L r3.2 (x1.getD r3.1.toNat 0)).bind fun y4=>
    some (.inl (add r3.1 1,y4))
   else
   some (.inr r3.2)) L (0,x0)).bind fun y3=>
 some y3
def mZ(L:Nat)(x0:aa):Option (aa×(List aj)):=
 (iter (Y:=(aa×(List aj))) 236002 (fun r2:(Int×aa×(List aj))=>
   bif aF r2.1 (x0.u4.length:Int)then
    aJ (!(aF r2.1 0))<|
    aJ (Nat.blt r2.1.toNat (x0.u4.length))<|
    bif !(aH (Sa.state (x0.u4.getD r2.1.toNat Sa.az)) 3)then some (.inl (add r2.1 1,r2.2.1,r2.2.2))else
    bif !(aH (a04.ax (Sa.pending (x0.u4.getD r2.1.toNat Sa.az))) 0)then some (.inl (add r2.1 1,r2.2.1,r2.2.2))else
    bif aF (sub r2.2.1.bA (Sa.eC (x0.u4.getD r2.1.toNat Sa.az))) 8 then some (.inl (add r2.1 1,r2.2.1,r2.2.2))else
    (dL L r2.2.1 (Sa.own (x0.u4.getD r2.1.toNat Sa.az)) 37 TL.nil (a04.az (ax:=8))).bind fun y3=>
    aJ (room ((r2.2.2++y3.2).length) 56)<|
    some (.inl (add r2.1 1,y3.1,r2.2.2++y3.2))
   else
   some (.inr r2.2)) L (0,x0,[])).bind fun y2=>
 some y2
def vY(L:Nat)(x0:aa):Option (aa×(List aj)):=
 (iter (Y:=((List aj)×aa)) 149004 (fun r2:((List aj)×Int×aa)=>
   bif aF r2.2.1 (x0.u4.length:Int)then
    aJ (!(aF r2.2.1 0))<|
    aJ (Nat.blt r2.2.1.toNat (r2.2.2.u4.length))<|
    bif !(aH (Sa.state (r2.2.2.u4.getD r2.2.1.toNat Sa.az)) 3)then some (.inl (r2.1,add r2.2.1 1,r2.2.2))else
    bif !(Sa.dK (r2.2.2.u4.getD r2.2.1.toNat Sa.az))then some (.inl (r2.1,add r2.2.1 1,r2.2.2))else
    bif aF (sub r2.2.2.bA (Sa.lV (r2.2.2.u4.getD r2.2.1.toNat Sa.az))) 5 then some (.inl (r2.1,add r2.2.1 1,r2.2.2))else
    aJ (room ((r2.1++[((Sa.bM (r2.2.2.u4.getD r2.2.1.toNat Sa.az)),((Sa.a0a (r2.2.2.u4.getD r2.2.1.toNat Sa.az)),(3,(0,TL.of [T.aG 51]))))]).length) 56)<|
    some (.inl (r2.1++[((Sa.bM (r2.2.2.u4.getD r2.2.1.toNat Sa.az)),(Sa.a0a (r2.2.2.u4.getD r2.2.1.toNat Sa.az)),T.a01 (TL.of [T.aG 51]))],add r2.2.1 1,aa.bI r2.2.2 (List.set r2.2.2.u4 r2.2.1.toNat (Sa.TG (r2.2.2.u4.getD r2.2.1.toNat Sa.az) r2.2.2.bA))))
   else
   some (.inr (r2.1,r2.2.2))) L ([],0,x0)).bind fun y2=>
 some (y2.2,y2.1)
def lN(L:Nat)(x0:aa):Option (aa×(List aj)):=
 (ru L (aa.Pt x0 (add x0.bA 1))).bind fun y2=>
 (ou L y2).bind fun y3=>
 (kG L y3.1 y3.2.2).bind fun y4=>
 (mZ L y4).bind fun y5=>
 aJ (room ((y3.2.1++y5.2).length) 56)<|
 (vY L y5.1).bind fun y6=>
 aJ (room (((y3.2.1++y5.2)++y6.2).length) 56)<|
 some (y6.1,(y3.2.1++y5.2)++y6.2)
def a3i(L:Nat)(x0:aa)(x1:Int):Option (aa×(List aj)×Int):=
 (bz L x0 x1).bind fun y3=>
 bif aF y3 0 then some (x0,[],20)else
 aJ (!(aF y3 0))<|
 aJ (Nat.blt y3.toNat (x0.u4.length))<|
 (gm L (x0.u4.getD y3.toNat Sa.az)).bind fun y4=>
 bif !y4 then some (x0,[],21)else
 bif !(aF (x0.u4.length:Int) 8)then some (x0,[],25)else
 bif aH (x0.dB.length:Int) 0 then some (x0,[],8)else
 aJ (Nat.blt 0 (x0.dB.length))<|
 (jB L (add (mul 1000 (add x0.av 1)) (add x0.count 1)) (T.name (add (mul x0.av 1048576) (add (add x0.count 1) 1))) (x0.dB.getD 0 0) (T.name (add (mul x0.av 1048576) (add (add (add x0.count 1) 1) 1)))).bind fun y5=>
 (dL L (aa.dj x0 (add (add (add x0.count 1) 1) 1)) x1 36 y5 (a04.az (ax:=5) (dx:=T.name (add (mul x0.av 1048576) (add (add x0.count 1) 1))) (eE:=T.name (add (mul x0.av 1048576) (add (add (add x0.count 1) 1) 1))) (dZ:=add (mul 1000 (add x0.av 1)) (add x0.count 1)))).bind fun y6=>
 some (y6.1,y6.2,0)
def qi(L:Nat)(x0:aa)(x1:Int):Option (aa×(List aj)×Int):=
 (a0f L x0 x1).bind fun y3=>
 bif aF y3 0 then some (x0,[],20)else
 aJ (!(aF y3 0))<|
 aJ (Nat.blt y3.toNat (x0.af.length))<|
 (bz L x0 (a00.sa (x0.af.getD y3.toNat a00.az))).bind fun y4=>
 bif aF y4 0 then some (x0,[],20)else
 bif !(aH (a00.state (x0.af.getD y3.toNat a00.az)) 1)then some (x0,[],21)else
 aJ (!(aF y4 0))<|
 aJ (Nat.blt y4.toNat (x0.u4.length))<|
 (gm L (x0.u4.getD y4.toNat Sa.az)).bind fun y5=>
 bif !y5 then some (x0,[],21)else
 bif !(aF (x0.af.length:Int) 12)then some (x0,[],25)else
 (fL L (aa.dj x0 (add (add x0.count 1) 1)) (a00.dm (x0.af.getD y3.toNat a00.az))).bind fun y6=>
 (fA L (a00.box (x0.af.getD y3.toNat a00.az)) y6).bind fun y7=>
 (dL L (aa.dj x0 (add (add x0.count 1) 1)) (a00.sa (x0.af.getD y3.toNat a00.az)) 36 (TL.of [T.a01 (TL.of [T.aG 13,T.aG x1]),T.a01 (TL.of [T.aG 10,T.aG (add (mul 1000 (add x0.av 1)) (add x0.count 1))]),y7,T.a01 (TL.of [T.aG 3,T.name (add (mul x0.av 1048576) (add (add x0.count 1) 1))])]) (a04.az (ax:=4) (dx:=T.name (add (mul x0.av 1048576) (add (add x0.count 1) 1))) (dZ:=add (mul 1000 (add x0.av 1)) (add x0.count 1)) (dF:=x1) (dm:=(a00.dm (x0.af.getD y3.toNat a00.az))) (box:=(a00.box (x0.af.getD y3.toNat a00.az))))).bind fun y8=>
 some (y8.1,y8.2,0)
def qf(L:Nat)(x0:aa)(x1:Int):Option (aa×Int):=
 bif !(aF 0 x1)then some (x0,5)else
 (iter (Y:=aa) 109006 (fun r3:(Int×aa)=>
   bif aF r3.1 (x0.u4.length:Int)then
    aJ (!(aF r3.1 0))<|
    aJ (Nat.blt r3.1.toNat (r3.2.u4.length))<|
    aJ (!(aF r3.1 0))<|
    aJ (Nat.blt r3.1.toNat ((List.set r3.2.u4 r3.1.toNat (Sa.kC (r3.2.u4.getD r3.1.toNat Sa.az) x1)).length))<|
    bif aH (Sa.state ((List.set r3.2.u4 r3.1.toNat (Sa.kC (r3.2.u4.getD r3.1.toNat Sa.az) x1)).getD r3.1.toNat Sa.az)) 3 then
     aJ (!(aF r3.1 0))<|
     aJ (Nat.blt r3.1.toNat ((List.set r3.2.u4 r3.1.toNat (Sa.kC (r3.2.u4.getD r3.1.toNat Sa.az) x1)).length))<|
     some (.inl (add r3.1 1,aa.bI r3.2 (List.set (List.set r3.2.u4 r3.1.toNat (Sa.kC (r3.2.u4.getD r3.1.toNat Sa.az) x1)) r3.1.toNat (Sa.D2 ((List.set r3.2.u4 r3.1.toNat (Sa.kC (r3.2.u4.getD r3.1.toNat Sa.az) x1)).getD r3.1.toNat Sa.az) true))))
    else
    some (.inl (add r3.1 1,aa.bI r3.2 (List.set r3.2.u4 r3.1.toNat (Sa.kC (r3.2.u4.getD r3.1.toNat Sa.az) x1))))
   else
   some (.inr r3.2)) L (0,aa.kC x0 x1)).bind fun y3=>
 some (y3,0)
def oK(L:Nat)(x0:aa)(x1:Int)(x2:Int)(x3:aU):Option (aa×(List aj)×Int):=
 bif aF x1 0 then some (x0,[],8)else
 bif !(aF x1 (x0.cu.length:Int))then some (x0,[],8)else
 bif !(aF (x0.u4.length:Int) 8)then some (x0,[],25)else
 aJ (!(aF x1 0))<|
 aJ (Nat.blt x1.toNat (x0.cu.length))<|
 aJ (!(aF x1 0))<|
 aJ (!(aF (add x1 1) 0))<|
 aJ ((Nat.ble x1.toNat (Int.toNat (add x1 1)))&&(Nat.ble (Int.toNat (add x1 1)) (x0.cu.length)))<|
 (pE L (add (mul 1000 (add x0.av 1)) (add x0.count 1)) x0.bM x0.a0a).bind fun y5=>
 (cJ L (bW.az (kind:=38) (eV:=add (mul 1000 (add x0.av 1)) (add x0.count 1)) (aV:=true) (parts:=TL.of [T.a01 (TL.of [T.aG 18,(eH.body (x0.cu.getD x1.toNat eH.az))]),T.a01 (TL.of [T.aG 3,T.name (add (mul x0.av 1048576) (add (add x0.count 1) 1))]),y5]))).bind fun y6=>
 aJ (room ((x0.u4++[(add (mul 1000 (add x0.av 1)) (add x0.count 1),(0,(true,(1,(x0.bM,(x0.a0a,((eH.d (x0.cu.getD x1.toNat eH.az)),((0,(0,TL.nil)),((0,(0,TL.nil)),((2,(add (mul x0.av 1048576) (add (add x0.count 1) 1),TL.nil)),((0,(0,TL.nil)),((3,(0,TL.of [T.aG y6.1,T.aG y6.2.1,T.aG y6.2.2.1,T.aG y6.2.2.2.1,T.aG y6.2.2.2.2,T.a01 (TL.of [T.a01 (TL.of [T.aG 18,(eH.body (x0.cu.getD x1.toNat eH.az))]),T.a01 (TL.of [T.aG 3,T.name (add (mul x0.av 1048576) (add (add x0.count 1) 1))]),y5])])),((0,(0,TL.nil)),(1,(0,((1,(0,((3,(0,TL.of [T.aG y6.1,T.aG y6.2.1,T.aG y6.2.2.1,T.aG y6.2.2.2.1,T.aG y6.2.2.2.2,T.a01 (TL.of [T.a01 (TL.of [T.aG 18,(eH.body (x0.cu.getD x1.toNat eH.az))]),T.a01 (TL.of [T.aG 3,T.name (add (mul x0.av 1048576) (add (add x0.count 1) 1))]),y5])])),(x0.a0a,(1,(add x0.bA 2,((2,(add (mul x0.av 1048576) (add (add x0.count 1) 1),TL.nil)),((0,(0,TL.nil)),(0,(0,(x2,(x3,((0,(0,TL.nil)),[]))))))))))))),((-1),((0,(0,TL.nil)),(x0.bA,(0,(0,(0,(0,(false,(x0.bA,(false,0))))))))))))))))))))))))))]).length) 856)<|
 some (aa.bw x0 (count:=add (add x0.count 1) 1) (u4:=x0.u4++[Sa.az (own:=add (mul 1000 (add x0.av 1)) (add x0.count 1)) (aV:=true) (state:=1) (bM:=x0.bM) (a0a:=x0.a0a) (d:=(eH.d (x0.cu.getD x1.toNat eH.az))) (ours:=T.name (add (mul x0.av 1048576) (add (add x0.count 1) 1))) (first:=T.a01 (TL.of [T.aG y6.1,T.aG y6.2.1,T.aG y6.2.2.1,T.aG y6.2.2.2.1,T.aG y6.2.2.2.2,T.a01 (TL.of [T.a01 (TL.of [T.aG 18,(eH.body (x0.cu.getD x1.toNat eH.az))]),T.a01 (TL.of [T.aG 3,T.name (add (mul x0.av 1048576) (add (add x0.count 1) 1))]),y5])])) (eZ:=1) (pending:=a04.az (ax:=1) (body:=T.a01 (TL.of [T.aG y6.1,T.aG y6.2.1,T.aG y6.2.2.1,T.aG y6.2.2.2.1,T.aG y6.2.2.2.2,T.a01 (TL.of [T.a01 (TL.of [T.aG 18,(eH.body (x0.cu.getD x1.toNat eH.az))]),T.a01 (TL.of [T.aG 3,T.name (add (mul x0.av 1048576) (add (add x0.count 1) 1))]),y5])])) (to:=x0.a0a) (sent:=1) (sx:=add x0.bA 2) (dx:=T.name (add (mul x0.av 1048576) (add (add x0.count 1) 1))) (dm:=x2) (box:=x3)) (iQ:=(-1)) (eC:=x0.bA) (lV:=x0.bA)]) (cu:=(List.take x1.toNat x0.cu)++(List.drop (Int.toNat (add x1 1)) x0.cu)),[(x0.bM,x0.a0a,T.a01 (TL.of [T.aG y6.1,T.aG y6.2.1,T.aG y6.2.2.1,T.aG y6.2.2.2.1,T.aG y6.2.2.2.2,T.a01 (TL.of [T.a01 (TL.of [T.aG 18,(eH.body (x0.cu.getD x1.toNat eH.az))]),T.a01 (TL.of [T.aG 3,T.name (add (mul x0.av 1048576) (add (add x0.count 1) 1))]),y5])]))],0)
def mV(L:Nat)(x0:Int)(x1:Int):Option (Int×Bool):=
 bif aH x1 0 then some (0,false)else
 aJ (!(aH x1 0))<|
 aJ (!(aH x1 0))<|
 some (rem (add (rem x0 x1) x1) x1,true)
def a2p(L:Nat)(y:aa×fa):Option (aa×fa×Int):=
 (lW L y.1).bind fun y4=>
 aJ (room ((y.2.bK++y4.2).length) 56)<|
 some (y4.1,fa.ET y.2 (y.2.bK++y4.2),0)
def a2U(L:Nat)(x:aa):Option (aa×fa×Int):=
 (lW L x).bind fun y4=>
 aJ (room y4.2.length 56)<|
 some (y4.1,fa.az (bK:=y4.2),0)
def iO(L:Nat)(x0:aa)(o:Option (aa×List aj×Int)):Option (aa×fa×Int):=
 Option.bind o fun y=>
 bif aH y.2.2 0 then
  aJ (room y.2.1.length 56)<|
  bif !(aH y.2.2 0)then some (x0,fa.az,y.2.2)else
  a2p L (y.1,fa.az (bK:=y.2.1))
 else
 bif !(aH y.2.2 0)then some (x0,fa.az,y.2.2)else
 a2U L x0
def kE(L:Nat)(x0:aa)(f:Int->aU->Option (aa×List aj×Int)):Option (aa×fa×Int):=
 (iter (Y:=(Unit⊕Int)) 150002 (fun r3:Int=>
   bif aF r3 (x0.dh.length:Int)then
    aJ (!(aF r3 0))<|
    aJ (Nat.blt r3.toNat (x0.dh.length))<|
    bif aH (aQ.cO (x0.dh.getD r3.toNat aQ.az)) 2 then some (.inr (.inr r3))else
    some (.inl (add r3 1))
   else
   some (.inr (.inl ()))) L 0).bind fun y3=>
 match y3 with
 | .inl _=>some (x0,fa.az,24)
 | .inr y4=>
   bif aF y4 0 then some (x0,fa.az,24)else
   aJ (!(aF y4 0))<|
   aJ (Nat.blt y4.toNat (x0.dh.length))<|
   bif aH ((aQ.cI (x0.dh.getD y4.toNat aQ.az)).length:Int) 0 then some (x0,fa.az,24)else
   aJ (!(aF y4 0))<|
   aJ (Nat.blt y4.toNat (x0.dh.length))<|
   aJ (Nat.blt 0 ((aQ.cI (x0.dh.getD y4.toNat aQ.az)).length))<|
   iO L x0 (f y4 ((aQ.cI (x0.dh.getD y4.toNat aQ.az)).getD 0 aU.az))
def l9(L:Nat)(x0:aa)(w:Int)(n:Nat)(f:Nat->Option (aa×fa×Int)):Option (aa×fa×Int):=
 (mV L w (n:Int)).bind fun y3=>
 bif !y3.2 then some (x0,fa.az,8)else
 aJ (!(aF y3.1 0))<|
 aJ (Nat.blt y3.1.toNat n)<|
 f y3.1.toNat
def a2F(L:Nat)(x0:aa)(x1:cL):Option (aa×fa×Int):=
 bif aH x1.kind 1 then(jJ L x0 x1.fm).bind fun y3=>a2p L y3 else
 bif aH x1.kind 2 then(jF L x0 x1.clear).bind fun y3=>a2p L y3 else
 bif aH x1.kind 3 then(jj L x0 x1.clear).bind fun y3=>a2p L (x0,y3)else
 bif aH x1.kind 4 then(lN L x0).bind fun y3=>aJ (room y3.2.length 56)<|a2p L (y3.1,fa.az (bK:=y3.2))else
 bif aH x1.kind 5 then kE L x0 fun r b=>kg L x0 x0.a0a r b else
 bif aH x1.kind 6 then l9 L x0 x1.a3K (x0.u4.length) fun i=>iO L x0 (a3i L x0 (Sa.own (x0.u4.getD i Sa.az)))else
 bif aH x1.kind 7 then l9 L x0 x1.a3K (x0.af.length) fun i=>iO L x0 (qi L x0 (a00.eI (x0.af.getD i a00.az)))else
 bif aH x1.kind 8 then l9 L x0 x1.a3K (x0.af.length) fun i=>
  bif !(aH (a00.state (x0.af.getD i a00.az)) 1)then some (x0,fa.az,21)else
  iO L x0 (mc L x0 (a00.eI (x0.af.getD i a00.az)))else
 bif aH x1.kind 9 then l9 L x0 x1.a3K (x0.u4.length) fun i=>iO L x0 (a2K L x0 (Sa.own (x0.u4.getD i Sa.az)))else
 bif aH x1.kind 10 then
  (iter (Y:=(Unit⊕Int)) 106002 (fun r3:Int=>
    bif aF r3 (x0.u4.length:Int)then
     aJ (!(aF r3 0))<|
     aJ (Nat.blt r3.toNat (x0.u4.length))<|
     bif aH (Sa.state (x0.u4.getD r3.toNat Sa.az)) 3 then
      bif aH (a04.ax (Sa.pending (x0.u4.getD r3.toNat Sa.az))) 0 then some (.inr (.inr r3))else
      some (.inl (add r3 1))
     else
     some (.inl (add r3 1))
    else
    some (.inr (.inl ()))) L 0).bind fun y3=>
  match y3 with
  | .inl _=>some (x0,fa.az,8)
  | .inr y4=>
    bif aF y4 0 then some (x0,fa.az,8)else
    aJ (!(aF y4 0))<|
    aJ (Nat.blt y4.toNat (x0.u4.length))<|
    (dL L x0 (Sa.own (x0.u4.getD y4.toNat Sa.az)) 37 TL.nil (a04.az (ax:=8))).bind fun y5=>
    aJ (room y5.2.length 56)<|
    a2p L (y5.1,fa.az (bK:=y5.2))
 else
 bif aH x1.kind 11 then
  (qf L x0 x1.a3K).bind fun y3=>
  bif aH y3.2 0 then
   bif !(aH y3.2 0)then some (x0,fa.az,y3.2)else
   a2U L y3.1
  else
  bif !(aH y3.2 0)then some (x0,fa.az,y3.2)else
  a2U L x0
 else
 bif aH x1.kind 12 then
  bif aF x1.a3K 0 then some (x0,fa.az,5)else
  a2U L (aa.Al x0 x1.a3K)
 else
 bif aH x1.kind 13 then kE L x0 fun r b=>oK L x0 (sub (x0.cu.length:Int) 1) r b else
 some (x0,fa.az,5)
def a30(u:ai)(i:Int)(d:aj):Option ((Int×ai)⊕ai):=
 bif aF (u.a06.length:Int) 60 then
  aJ (room ((u.a06++[d]).length) 56)<|
  some (.inl (add i 1,ai.nS u (u.a06++[d])))
 else
 some (.inl (add i 1,u))
def oE(x1 t:Int)(u:ai)(i:Int)(d:aj):Option ((Int×ai)⊕ai):=
 bif aH x1 0 then
  bif !(aH t 0)then a30 u i (aj.D0 d t)else a30 u i d
 else
 a30 u i d
def rM(L:Nat)(x1:Int)(u:ai)(i:Int)(d:aj):Option ((Int×ai)⊕ai):=
 (a2M L d.body).bind fun y5=>
 bif y5 then
  aJ (room (TL.len (TL.app u.seen (TL.of [d.body]))) 40)<|
  oE x1 u.a3a (ai.TJ u (TL.app u.seen (TL.of [d.body]))) i d
 else
 oE x1 u.a3a u i d
def oG(L:Nat)(cR:Nat->ai->Int->cL->Option (ai×Int))(x0:ai)(x1:Int)(x2:fa):Option ai:=
 (iter (Y:=ai) 42002 (fun r4:(Int×ai)=>
   bif aF r4.1 (x2.bK.length:Int)then
    aJ (!(aF r4.1 0))<|
    aJ (Nat.blt r4.1.toNat (x2.bK.length))<|
    rM L x1 r4.2 r4.1 (x2.bK.getD r4.1.toNat aj.az)
   else
   some (.inr r4.2)) L (0,x0)).bind fun y4=>
 aJ (room ((y4.sent++x2.sent).length) 104)<|
 aJ (room ((y4.aN++x2.aN).length) 104)<|
 aJ (room ((y4.ct++x2.ct).length) 104)<|
 (iter (Y:=ai) 42015 (fun r5:(Int×ai)=>
   bif aF r5.1 (x2.outside.length:Int)then
    aJ (!(aF r5.1 0))<|
    aJ (Nat.blt r5.1.toNat (x2.outside.length))<|
    (cR L r5.2 (sub 1 x1) (3,(0,0,(0,0,TL.nil)),x2.outside.getD r5.1.toNat Clear.az,0)).bind fun y6=>
    some (.inl (add r5.1 1,y6.1))
   else
   some (.inr r5.2)) L (0,ai.bw y4 (sent:=y4.sent++x2.sent) (aN:=y4.aN++x2.aN) (ct:=y4.ct++x2.ct))).bind fun y5=>
 some y5
def j6(L:Nat)(a2z:Nat->ai->Int->fa->Option ai)(x0:ai)(x1:Int)(g:aa)(x2:cL):Option (ai×Int):=
 (a2F L g x2).bind fun y4=>
 bif !(aH y4.2.2 0)then some (x0,y4.2.2)else
 bif aH x1 0 then
  (a2z L (ai.uz x0 (y4.1,x0.bG.2)) x1 y4.2.1).bind fun y5=>
  some (y5,0)
 else
 aJ (aH x1 1)<|
 (a2z L (ai.uz x0 (x0.bG.1,y4.1)) x1 y4.2.1).bind fun y5=>
 some (y5,0)
def j7(L:Nat)(a2z:Nat->ai->Int->fa->Option ai)(x0:ai)(x1:Int)(x2:cL):Option (ai×Int):=
 bif aH x1 0 then j6 L a2z x0 x1 x0.bG.1 x2 else
 aJ (aH x1 1)<|
 j6 L a2z x0 x1 x0.bG.2 x2
def cQ(L:Nat):Nat->(ai->Int->fa->Option ai)×(ai->Int->cL->Option (ai×Int))
 |0=>(fun _ _ _=>none,fun _ _ _=>none)
 |n+1=>(oG L (fun _=>(cQ L n).2),j7 L (fun _=>(cQ L n).1))
def a2z(L:Nat)(x0:ai)(x1:Int)(x2:fa):Option ai:=(cQ L (6)).1 x0 x1 x2
def cR(L:Nat)(x0:ai)(x1:Int)(x2:cL):Option (ai×Int):=(cQ L (6)).2 x0 x1 x2
def a3c(L:Nat)(x0:ai)(x1:aj):Option ai:=
 bif aH x1.to (aa.bM x0.bG.1)then
  (cR L x0 0 (1,x1,(a05.az,0),0)).bind fun y3=>
  some y3.1
 else
 bif !(aH x0.a3a 0)then
  bif aH x1.to x0.a3a then
   (cR L x0 0 (1,aj.Wi x1 (aa.bM x0.bG.1),(a05.az,0),0)).bind fun y3=>
   some y3.1
  else
  bif aH x1.to (aa.bM x0.bG.2)then
   (cR L x0 1 (1,x1,(a05.az,0),0)).bind fun y3=>
   some y3.1
  else
  some x0
 else
 bif aH x1.to (aa.bM x0.bG.2)then
  (cR L x0 1 (1,x1,(a05.az,0),0)).bind fun y3=>
  some y3.1
 else
 some x0
def ng(L:Nat)(x1:a0g)(y4:ai):Option (ai×Int):=
 aJ (!(aF x1.place 0))<|
 aJ (Nat.blt (Int.toNat x1.place) (y4.a06.length))<|
 aJ (!(aF x1.place 0))<|
 aJ (!(aF (add x1.place 1) 0))<|
 aJ ((Nat.ble (Int.toNat x1.place) (Int.toNat (add x1.place 1)))&&(Nat.ble (Int.toNat (add x1.place 1)) (y4.a06.length)))<|
 bif aH x1.kind 1 then
  (a3c L (ai.nS y4 ((List.take (Int.toNat x1.place) y4.a06)++(List.drop (Int.toNat (add x1.place 1)) y4.a06))) (y4.a06.getD (Int.toNat x1.place) aj.az)).bind fun y5=>
  some (y5,0)
 else
 some (ai.nS y4 ((List.take (Int.toNat x1.place) y4.a06)++(List.drop (Int.toNat (add x1.place 1)) y4.a06)),0)
def eS(L:Nat)(x0:ai)(x1:a0g):Option (ai×Int):=
 (a2B L x0 x1).bind fun y3=>
 bif !(aH y3 0)then some (x0,y3)else
 (kk L x0).bind fun y4=>
 bif aH x1.kind 1 then ng L x1 y4 else
 bif aH x1.kind 2 then ng L x1 y4 else
 bif aH x1.kind 3 then
  aJ (!(aF x1.place 0))<|
  aJ (Nat.blt (Int.toNat x1.place) (y4.a06.length))<|
  aJ (room ((y4.a06++[y4.a06.getD (Int.toNat x1.place) aj.az]).length) 56)<|
  some (ai.nS y4 (y4.a06++[y4.a06.getD (Int.toNat x1.place) aj.az]),0)
 else
 bif aH x1.kind 4 then
  aJ (!(aF x1.place 0))<|
  aJ (Nat.blt (Int.toNat x1.place) (y4.a06.length))<|
  some (ai.nS y4 (List.set y4.a06 (Int.toNat x1.place) (aj.CZ (y4.a06.getD (Int.toNat x1.place) aj.az) (T.V3 0))),0)
 else
 bif aH x1.kind 5 then
  aJ (!(aF x1.place 0))<|
  aJ (Nat.blt (Int.toNat x1.place) (y4.a06.length))<|
  some (ai.nS y4 (List.set y4.a06 (Int.toNat x1.place) (aj.D0 (y4.a06.getD (Int.toNat x1.place) aj.az) x1.fm.cq)),0)
 else
 bif aH x1.kind 6 then
  aJ (room ((y4.a06++[x1.fm]).length) 56)<|
  some (ai.nS y4 (y4.a06++[x1.fm]),0)
 else
 bif aH x1.kind 7 then
  (cR L y4 x1.gB x1.nD).bind fun y5=>
  bif !(aH y5.2 0)then some (x0,y5.2)else
  some (y5.1,0)
 else
 bif aH x1.kind 8 then
  (cR L y4 0 (4,(0,0,(0,0,TL.nil)),(a05.az,0),0)).bind fun y5=>
  (cR L y5.1 1 (4,(0,0,(0,0,TL.nil)),(a05.az,0),0)).bind fun y6=>
  some (y6.1,0)
 else
 bif aH x1.kind 9 then some (ai.xR y4 x1.place,0)else
 some (y4,0)
def qD(L:Nat)(x0:ai):Option ai:=
 (iter (Y:=ai) 29002 (fun r2:(Int×ai)=>
   bif aF r2.1 200 then
    bif aH (r2.2.a06.length:Int) 0 then some (.inr r2.2)else
    (eS L r2.2 (a0g.az (kind:=1))).bind fun y3=>
    some (.inl (add r2.1 1,y3.1))
   else
   some (.inr r2.2)) L (0,x0)).bind fun y2=>
 some y2
def pF(L:Nat)(x0:ai)(x1:Int):Option ai:=
 (iter (Y:=ai) 12002 (fun r3:(Int×ai)=>
   bif aF r3.1 (Eg (eN x1 0) 200)then
    (qD L r3.2).bind fun y4=>
    (eS L y4 (a0g.az (kind:=8))).bind fun y5=>
    some (.inl (add r3.1 1,y5.1))
   else
   some (.inr r3.2)) L (0,x0)).bind fun y3=>
 (qD L y3).bind fun y4=>
 some y4
def wC(L:Nat)(x0:ai):Option Bool:=
 bif !(aH ((aa.af x0.bG.1).length:Int) ((aa.af x0.bG.2).length:Int))then some false else
 (iter (Y:=(Unit⊕Bool)) 17005 (fun r2:Int=>
   bif aF r2 ((aa.af x0.bG.1).length:Int)then
    (iter (Y:=(Int⊕Bool)) 17009 (fun r3:(Int×Int)=>
      bif aF r3.2 ((aa.af x0.bG.2).length:Int)then
       aJ (!(aF r2 0))<|
       aJ (Nat.blt r2.toNat ((aa.af x0.bG.1).length))<|
       aJ (!(aF r3.2 0))<|
       aJ (Nat.blt r3.2.toNat ((aa.af x0.bG.2).length))<|
       bif aH (a00.eI ((aa.af x0.bG.1).getD r2.toNat a00.az)) (a00.out ((aa.af x0.bG.2).getD r3.2.toNat a00.az))then
        aJ (!(aF r2 0))<|
        aJ (Nat.blt r2.toNat ((aa.af x0.bG.1).length))<|
        aJ (!(aF r3.2 0))<|
        aJ (Nat.blt r3.2.toNat ((aa.af x0.bG.2).length))<|
        bif aH (a00.out ((aa.af x0.bG.1).getD r2.toNat a00.az)) (a00.eI ((aa.af x0.bG.2).getD r3.2.toNat a00.az))then
         aJ (!(aF r2 0))<|
         aJ (Nat.blt r2.toNat ((aa.af x0.bG.1).length))<|
         aJ (!(aF r3.2 0))<|
         aJ (Nat.blt r3.2.toNat ((aa.af x0.bG.2).length))<|
         bif !((aH (Address.bx (aU.a0c (a00.box ((aa.af x0.bG.1).getD r2.toNat a00.az)))) (Address.bx (aU.bU (a00.box ((aa.af x0.bG.2).getD r3.2.toNat a00.az)))))&&((aH (Address.hi (aU.a0c (a00.box ((aa.af x0.bG.1).getD r2.toNat a00.az)))) (Address.hi (aU.bU (a00.box ((aa.af x0.bG.2).getD r3.2.toNat a00.az)))))&&((aH (Address.lo (aU.a0c (a00.box ((aa.af x0.bG.1).getD r2.toNat a00.az)))) (Address.lo (aU.bU (a00.box ((aa.af x0.bG.2).getD r3.2.toNat a00.az)))))&&((aH (Address.bx (aU.cB (a00.box ((aa.af x0.bG.1).getD r2.toNat a00.az)))) (Address.bx (aU.bT (a00.box ((aa.af x0.bG.2).getD r3.2.toNat a00.az)))))&&((aH (Address.hi (aU.cB (a00.box ((aa.af x0.bG.1).getD r2.toNat a00.az)))) (Address.hi (aU.bT (a00.box ((aa.af x0.bG.2).getD r3.2.toNat a00.az)))))&&((aH (Address.lo (aU.cB (a00.box ((aa.af x0.bG.1).getD r2.toNat a00.az)))) (Address.lo (aU.bT (a00.box ((aa.af x0.bG.2).getD r3.2.toNat a00.az)))))&&((aH (Address.bx (aU.bU (a00.box ((aa.af x0.bG.1).getD r2.toNat a00.az)))) (Address.bx (aU.a0c (a00.box ((aa.af x0.bG.2).getD r3.2.toNat a00.az)))))&&((aH (Address.hi (aU.bU (a00.box ((aa.af x0.bG.1).getD r2.toNat a00.az)))) (Address.hi (aU.a0c (a00.box ((aa.af x0.bG.2).getD r3.2.toNat a00.az)))))&&((aH (Address.lo (aU.bU (a00.box ((aa.af x0.bG.1).getD r2.toNat a00.az)))) (Address.lo (aU.a0c (a00.box ((aa.af x0.bG.2).getD r3.2.toNat a00.az)))))&&((aH (Address.bx (aU.bT (a00.box ((aa.af x0.bG.1).getD r2.toNat a00.az)))) (Address.bx (aU.cB (a00.box ((aa.af x0.bG.2).getD r3.2.toNat a00.az)))))&&((aH (Address.hi (aU.bT (a00.box ((aa.af x0.bG.1).getD r2.toNat a00.az)))) (Address.hi (aU.cB (a00.box ((aa.af x0.bG.2).getD r3.2.toNat a00.az)))))&&((aH (Address.lo (aU.bT (a00.box ((aa.af x0.bG.1).getD r2.toNat a00.az)))) (Address.lo (aU.cB (a00.box ((aa.af x0.bG.2).getD r3.2.toNat a00.az)))))&&((aH (aU.de (a00.box ((aa.af x0.bG.1).getD r2.toNat a00.az))) (aU.de (a00.box ((aa.af x0.bG.2).getD r3.2.toNat a00.az))))&&((aH (aU.a0m (a00.box ((aa.af x0.bG.1).getD r2.toNat a00.az))) (aU.a0m (a00.box ((aa.af x0.bG.2).getD r3.2.toNat a00.az))))&&((aH ((aU.aL (a00.box ((aa.af x0.bG.1).getD r2.toNat a00.az))).1) ((aU.aI (a00.box ((aa.af x0.bG.2).getD r3.2.toNat a00.az))).1))&&((aH ((aU.aL (a00.box ((aa.af x0.bG.1).getD r2.toNat a00.az))).2) ((aU.aI (a00.box ((aa.af x0.bG.2).getD r3.2.toNat a00.az))).2))&&((aH ((aU.aI (a00.box ((aa.af x0.bG.1).getD r2.toNat a00.az))).1) ((aU.aL (a00.box ((aa.af x0.bG.2).getD r3.2.toNat a00.az))).1))&&((aH ((aU.aI (a00.box ((aa.af x0.bG.1).getD r2.toNat a00.az))).2) ((aU.aL (a00.box ((aa.af x0.bG.2).getD r3.2.toNat a00.az))).2))&&true))))))))))))))))))then some (.inr (.inr false))else
         aJ (!(aF r3.2 0))<|
         aJ (Nat.blt r3.2.toNat ((aa.af x0.bG.2).length))<|
         bif !(aH (a00.state ((aa.af x0.bG.2).getD r3.2.toNat a00.az)) 1)then some (.inr (.inr false))else
         some (.inl (add r3.1 1,add r3.2 1))
        else
        some (.inl (r3.1,add r3.2 1))
       else
       some (.inl (r3.1,add r3.2 1))
      else
      some (.inr (.inl r3.1))) L (0,0)).bind fun y3=>
    match y3 with
    | .inl y4=>
      bif !(aH y4 1)then some (.inr (.inr false))else
      aJ (!(aF r2 0))<|
      aJ (Nat.blt r2.toNat ((aa.af x0.bG.1).length))<|
      bif !(aH (a00.state ((aa.af x0.bG.1).getD r2.toNat a00.az)) 1)then some (.inr (.inr false))else
      (iter (Y:=(Unit⊕Bool)) 17021 (fun r5:Int=>
        bif aF r5 ((aa.af x0.bG.1).length:Int)then
         bif !(aH r5 r2)then
          aJ (!(aF r5 0))<|
          aJ (Nat.blt r5.toNat ((aa.af x0.bG.1).length))<|
          aJ (!(aF r2 0))<|
          aJ (Nat.blt r2.toNat ((aa.af x0.bG.1).length))<|
          bif aH (a00.eI ((aa.af x0.bG.1).getD r5.toNat a00.az)) (a00.eI ((aa.af x0.bG.1).getD r2.toNat a00.az))then some (.inr (.inr false))else
          some (.inl (add r5 1))
         else
         some (.inl (add r5 1))
        else
        some (.inr (.inl ()))) L 0).bind fun y5=>
      match y5 with
      | .inl y6=>
        some (.inl (add r2 1))
      | .inr y6=>
        some (.inr (.inr y6))
    | .inr y4=>
      some (.inr (.inr y4))
   else
   some (.inr (.inl ()))) L 0).bind fun y2=>
 match y2 with
 | .inl y3=>
   some true
 | .inr y3=>
   some y3
def gN(L:Nat)(l:(List Int))(n:Int):Option (Int×Bool):=
 some (n,aF n (l.length:Int))
def bj(L:Nat)(l:(List Int))(n:Int)(x0:Int):Option (Int×Int):=
 (gN L l n).bind fun y4=>
 bif !y4.2 then some (y4.1,0)else
 aJ (!(aF (sub (add y4.1 1) 1) 0))<|
 aJ (Nat.blt (Int.toNat (sub (add y4.1 1) 1)) l.length)<|
 aJ (!(aH x0 0))<|
 some (add y4.1 1,rem (aY .i64 (l.getD (Int.toNat (sub (add y4.1 1) 1)) 0)) x0)
def qn:List aQ:=[(2,[103,111,108,100],[((4,0,167772160),(4,0,184549375),(4,0,3232235520),(4,0,3232301055),0,255,(-1,65535),(-1,65535))]),
 (0,[],[((4,0,0),(4,0,4294967295),(4,0,0),(4,0,4294967295),0,255,(-1,65535),(-1,65535)),((6,0,0),(6,18446744073709551615,18446744073709551615),(6,0,0),(6,18446744073709551615,18446744073709551615),0,255,(-1,65535),(-1,65535))])]
def rW:List aQ:=[(2,[103,111,108,100],[((4,0,3232235520),(4,0,3232301055),(4,0,167772160),(4,0,184549375),0,255,(-1,65535),(-1,65535))]),
 (0,[],[((4,0,0),(4,0,4294967295),(4,0,0),(4,0,4294967295),0,255,(-1,65535),(-1,65535)),((6,0,0),(6,18446744073709551615,18446744073709551615),(6,0,0),(6,18446744073709551615,18446744073709551615),0,255,(-1,65535),(-1,65535))])]
def oN:List aQ:=[(1,[],[((4,0,0),(4,0,4294967295),(4,0,0),(4,0,4294967295),1,1,(-1,65535),(-1,65535)),((6,0,0),(6,18446744073709551615,18446744073709551615),(6,0,0),(6,18446744073709551615,18446744073709551615),1,1,(-1,65535),(-1,65535))]),
 (2,[103,111,108,100],[((4,0,167772160),(4,0,184549375),(4,0,3232235520),(4,0,3232301055),6,6,(-1,65535),(80,90))]),
 (1,[],[((4,0,0),(4,0,4294967295),(4,0,0),(4,0,4294967295),17,17,(-1,65535),(-1,65535)),((6,0,0),(6,18446744073709551615,18446744073709551615),(6,0,0),(6,18446744073709551615,18446744073709551615),17,17,(-1,65535),(-1,65535))]),
 (0,[],[((4,0,0),(4,0,4294967295),(4,0,0),(4,0,4294967295),0,255,(-1,65535),(-1,65535)),((6,0,0),(6,18446744073709551615,18446744073709551615),(6,0,0),(6,18446744073709551615,18446744073709551615),0,255,(-1,65535),(-1,65535))])]
def qp:List aQ:=[(1,[],[((4,0,0),(4,0,4294967295),(4,0,0),(4,0,4294967295),1,1,(-1,65535),(-1,65535)),((6,0,0),(6,18446744073709551615,18446744073709551615),(6,0,0),(6,18446744073709551615,18446744073709551615),1,1,(-1,65535),(-1,65535))]),
 (2,[103,111,108,100],[((4,0,3232235520),(4,0,3232301055),(4,0,167772160),(4,0,184549375),6,6,(80,90),(-1,65535))]),
 (1,[],[((4,0,0),(4,0,4294967295),(4,0,0),(4,0,4294967295),17,17,(0,65535),(-1,65535)),((6,0,0),(6,18446744073709551615,18446744073709551615),(6,0,0),(6,18446744073709551615,18446744073709551615),17,17,(0,65535),(-1,65535))]),
 (0,[],[((4,0,0),(4,0,4294967295),(4,0,0),(4,0,4294967295),0,255,(-1,65535),(-1,65535)),((6,0,0),(6,18446744073709551615,18446744073709551615),(6,0,0),(6,18446744073709551615,18446744073709551615),0,255,(-1,65535),(-1,65535))])]
def rX:List aQ:=[(2,[103,111,108,100],[((4,0,167772160),(4,0,184549375),(4,0,3232235520),(4,0,3232301055),0,255,(-1,65535),(-1,65535))]),
 (1,[],[((4,0,0),(4,0,4294967295),(4,0,0),(4,0,4294967295),0,255,(-1,65535),(-1,65535)),((6,0,0),(6,18446744073709551615,18446744073709551615),(6,0,0),(6,18446744073709551615,18446744073709551615),0,255,(-1,65535),(-1,65535))])]
def rY:List aQ:=[(2,[103,111,108,100],[((4,0,3232235520),(4,0,3232235775),(4,0,167772160),(4,0,167772163),6,6,(-1,65535),(-1,65535))]),
 (1,[],[((4,0,0),(4,0,4294967295),(4,0,0),(4,0,4294967295),0,255,(-1,65535),(-1,65535)),((6,0,0),(6,18446744073709551615,18446744073709551615),(6,0,0),(6,18446744073709551615,18446744073709551615),0,255,(-1,65535),(-1,65535))])]
def qq:List aQ:=[(2,[103,111,108,100],[((4,0,167772160),(4,0,184549375),(4,0,3232235520),(4,0,3232301055),6,6,(-1,65535),(-1,65535))]),
 (2,[115,105,108,118,101,114],[((4,0,167772160),(4,0,184549375),(4,0,3232235520),(4,0,3232301055),17,17,(-1,65535),(-1,65535))]),
 (1,[],[((4,0,0),(4,0,4294967295),(4,0,0),(4,0,4294967295),1,1,(-1,65535),(-1,65535)),((6,0,0),(6,18446744073709551615,18446744073709551615),(6,0,0),(6,18446744073709551615,18446744073709551615),1,1,(-1,65535),(-1,65535))])]
def a3H:List aQ:=[(2,[115,105,108,118,101,114],[((4,0,3232235520),(4,0,3232301055),(4,0,167772160),(4,0,184549375),17,17,(-1,65535),(-1,65535))]),
 (2,[103,111,108,100],[((4,0,3232235520),(4,0,3232301055),(4,0,167772160),(4,0,184549375),6,6,(-1,65535),(-1,65535))]),
 (0,[],[((4,0,0),(4,0,4294967295),(4,0,0),(4,0,4294967295),0,255,(-1,65535),(-1,65535)),((6,0,0),(6,18446744073709551615,18446744073709551615),(6,0,0),(6,18446744073709551615,18446744073709551615),0,255,(-1,65535),(-1,65535))])]
def kW:Int->Int->List aQ
 |0,0=>qn
 |0,1=>rW
 |1,0=>oN
 |1,1=>qp
 |2,0=>rX
 |2,1=>rY
 |3,0=>qq
 |3,1=>a3H
 |_,_=>[]
def a3I(L:Nat)(x0:Int)(x1:Int):Option (List aQ):=bif !(aF x0 0)&&aF x0 4&& !(aF x1 0)&&aF x1 2 then some (kW x0 x1)else none
def we(L:Nat)(x0:(List UInt8)):Option Bool:=
 (iter (Y:=(Unit⊕Bool)) 76002 (fun r2:Int=>
   bif aF r2 ((ey x0).length:Int)then
    aJ (!(aF r2 0))<|
    aJ (Nat.blt r2.toNat ((ey x0).length))<|
    bif !(aF ((ey x0).getD r2.toNat 0) 48)then
     bif !(aF 57 ((ey x0).getD r2.toNat 0))then some (.inl (add r2 1))else
     bif !(aF ((ey x0).getD r2.toNat 0) 97)then
      bif !(aF 122 ((ey x0).getD r2.toNat 0))then some (.inl (add r2 1))else
      bif !(aF ((ey x0).getD r2.toNat 0) 65)then
       bif !(!(aF 90 ((ey x0).getD r2.toNat 0)))then some (.inr (.inr false))else
       some (.inl (add r2 1))
      else
      some (.inr (.inr false))
     else
     bif !(aF ((ey x0).getD r2.toNat 0) 65)then
      bif !(!(aF 90 ((ey x0).getD r2.toNat 0)))then some (.inr (.inr false))else
      some (.inl (add r2 1))
     else
     some (.inr (.inr false))
    else
    bif !(aF ((ey x0).getD r2.toNat 0) 97)then
     bif !(aF 122 ((ey x0).getD r2.toNat 0))then some (.inl (add r2 1))else
     bif !(aF ((ey x0).getD r2.toNat 0) 65)then
      bif !(!(aF 90 ((ey x0).getD r2.toNat 0)))then some (.inr (.inr false))else
      some (.inl (add r2 1))
     else
     some (.inr (.inr false))
    else
    bif !(aF ((ey x0).getD r2.toNat 0) 65)then
     bif !(!(aF 90 ((ey x0).getD r2.toNat 0)))then some (.inr (.inr false))else
     some (.inl (add r2 1))
    else
    some (.inr (.inr false))
   else
   some (.inr (.inl ()))) L 0).bind fun y2=>
 match y2 with
 | .inl y3=>
   bif !(aF (x0.length:Int) 1)then some (!(aF 16 (x0.length:Int)))else
   some false
 | .inr y3=>
   some y3
def a4c(L:Nat)(i:Int)(r:aQ):Option (Int⊕(Unit⊕Int)):=
 bif aH (r.cI.length:Int) 0 then some (.inr (.inr 8))else
 bif aF 16 (r.cI.length:Int)then some (.inr (.inr 10))else
 (iter (Y:=(Unit⊕Int)) 47015 (fun r4:Int=>
   bif aF r4 (r.cI.length:Int)then
    aJ (!(aF r4 0))<|
    aJ (Nat.blt r4.toNat (r.cI.length))<|
    (iZ L (r.cI.getD r4.toNat aU.az)).bind fun y5=>
    bif !(aH y5 0)then some (.inr (.inr y5))else
    some (.inl (add r4 1))
   else
   some (.inr (.inl ()))) L 0).bind fun y4=>
 match y4 with
 | .inl _=>some (.inl (add i 1))
 | .inr y5=>some (.inr (.inr y5))
def xP(L:Nat)(i:Int)(r:aQ):Option (Int⊕(Unit⊕Int)):=
 bif !(aH r.cO 2)then
  bif !(Jk r.a0n [])then some (.inr (.inr 14))else a4c L i r
 else
 a4c L i r
def tM(L:Nat)(i:Int)(r:aQ):Option (Int⊕(Unit⊕Int)):=
 bif aH r.cO 2 then
  (we L r.a0n).bind fun y3=>
  bif !y3 then some (.inr (.inr 14))else xP L i r
 else
 xP L i r
def Es(L:Nat)(i:Int)(r:aQ):Option (Int⊕(Unit⊕Int)):=
 bif !(aH r.cO 0)then
  bif !(aH r.cO 1)then
   bif !(aH r.cO 2)then some (.inr (.inr 5))else tM L i r
  else
  tM L i r
 else
 tM L i r
def dY(L:Nat)(x0:(List aQ)):Option Int:=
 bif aF 24 (x0.length:Int)then some 10 else
 (iter (Y:=(Unit⊕Int)) 47004 (fun r2:Int=>
   bif aF r2 (x0.length:Int)then
    aJ (!(aF r2 0))<|
    aJ (Nat.blt r2.toNat x0.length)<|
    Es L r2 (x0.getD r2.toNat aQ.az)
   else
   some (.inr (.inl ()))) L 0).bind fun y2=>
 match y2 with
 | .inl _=>some 0
 | .inr y3=>some y3
def nG(L:Nat)(x0:Int)(x1:Int)(x2:Int)(x3:(List aQ))(x4:(List Int)):Option (aa×Int):=
 bif !(aH x0 0)then
  bif !(aH x0 1)then some (aa.az,5)else
  bif !(aF 0 x1)then some (aa.az,5)else
  bif !(aF 0 x2)then some (aa.az,5)else
  bif aH (x4.length:Int) 0 then some (aa.az,5)else
  bif aF 4 (x4.length:Int)then some (aa.az,5)else
  (dY L x3).bind fun y6=>
  bif !(aH y6 0)then some (aa.az,y6)else
  (iter (Y:=aa) 32008 (fun r7:(Int×aa)=>
    bif aF r7.1 (x3.length:Int)then
     aJ (!(aF r7.1 0))<|
     aJ (Nat.blt r7.1.toNat x3.length)<|
     aJ (room ((r7.2.dh++[x3.getD r7.1.toNat aQ.az]).length) 48)<|
     some (.inl (add r7.1 1,aa.uD r7.2 (r7.2.dh++[x3.getD r7.1.toNat aQ.az])))
    else
    some (.inr r7.2)) L (0,aa.az (av:=x0) (kS:=sub 1 x0) (bM:=x1) (a0a:=x2) (dB:=x4))).bind fun y7=>
  some (aa.bw y7 (count:=add (add y7.count 1) 1) (guard:=T.name (add (mul y7.av 1048576) (add y7.count 1))) (mm:=T.name (add (mul y7.av 1048576) (add (add y7.count 1) 1))),0)
 else
 bif !(aF 0 x1)then some (aa.az,5)else
 bif !(aF 0 x2)then some (aa.az,5)else
 bif aH (x4.length:Int) 0 then some (aa.az,5)else
 bif aF 4 (x4.length:Int)then some (aa.az,5)else
 (dY L x3).bind fun y6=>
 bif !(aH y6 0)then some (aa.az,y6)else
 (iter (Y:=aa) 32008 (fun r7:(Int×aa)=>
   bif aF r7.1 (x3.length:Int)then
    aJ (!(aF r7.1 0))<|
    aJ (Nat.blt r7.1.toNat x3.length)<|
    aJ (room ((r7.2.dh++[x3.getD r7.1.toNat aQ.az]).length) 48)<|
    some (.inl (add r7.1 1,aa.uD r7.2 (r7.2.dh++[x3.getD r7.1.toNat aQ.az])))
   else
   some (.inr r7.2)) L (0,aa.az (av:=x0) (kS:=sub 1 x0) (bM:=x1) (a0a:=x2) (dB:=x4))).bind fun y7=>
 some (aa.bw y7 (count:=add (add y7.count 1) 1) (guard:=T.name (add (mul y7.av 1048576) (add y7.count 1))) (mm:=T.name (add (mul y7.av 1048576) (add (add y7.count 1) 1))),0)
def xO(L:Nat)(x0:aa)(x1:aa):Option ai:=
 some (ai.az (bG:=(x0,x1)))
def qZ(L:Nat)(l:(List Int))(n:Int):Option (Int×(ai×((List aQ)×(List aQ))×Bool)):=
 (bj L l n 4).bind fun y3=>
 (a3I L y3.2 0).bind fun y4=>
 (a3I L y3.2 1).bind fun y5=>
 (bj L l y3.1 4).bind fun y6=>
 aJ (!(aF y6.2 0))<|
 aJ (Nat.blt y6.2.toNat 4)<|
 (nG L 0 1 2 y4 ([[31,1024],[1024,31],[31],[1024]].getD y6.2.toNat [])).bind fun y7=>
 (bj L l y6.1 4).bind fun y8=>
 aJ (!(aF y8.2 0))<|
 aJ (Nat.blt y8.2.toNat 4)<|
 (nG L 1 2 1 y5 ([[31,1024],[1024,31],[31],[1024]].getD y8.2.toNat [])).bind fun y9=>
 (xO L y7.1 y9.1).bind fun y10=>
 bif aH y7.2 0 then some (y8.1,(y10,(y4,y5),aH y9.2 0))else
 some (y8.1,(y10,(y4,y5),false))
def uv(L:Nat):Option Bool:=
 (qZ L [] 0).bind fun y1=>
 (eS L y1.2.1 (a0g.az (kind:=7) (nD:=(5,(0,0,(0,0,TL.nil)),(a05.az,0),0)))).bind fun y2=>
 (pF L y2.1 3).bind fun y3=>
 (eS L y3 (a0g.az (kind:=7) (nD:=(2,(0,0,(0,0,TL.nil)),(a05.az (bZ:=(4,0,167772160)) (target:=(4,0,3232235520)) (aR:=6) (aK:=1) (aO:=80),9),0)))).bind fun y4=>
 (pF L y4.1 1).bind fun y5=>
 bif y1.2.2.2 then
  bif aH y2.2 0 then
   bif aH y4.2 0 then
    bif aH ((aa.af y5.bG.1).length:Int) 1 then
     (wC L y5).bind fun y6=>
     bif y6 then
      bif aH (y5.aN.length:Int) 1 then
       aJ (Nat.blt 0 (y5.aN.length))<|
       some ((aH (Address.bx (a05.bZ (Clear.bf (aS.clear (y5.aN.getD 0 aS.az))))) 4)&&((aH (Address.hi (a05.bZ (Clear.bf (aS.clear (y5.aN.getD 0 aS.az))))) 0)&&((aH (Address.lo (a05.bZ (Clear.bf (aS.clear (y5.aN.getD 0 aS.az))))) 167772160)&&((aH (Address.bx (a05.target (Clear.bf (aS.clear (y5.aN.getD 0 aS.az))))) 4)&&((aH (Address.hi (a05.target (Clear.bf (aS.clear (y5.aN.getD 0 aS.az))))) 0)&&((aH (Address.lo (a05.target (Clear.bf (aS.clear (y5.aN.getD 0 aS.az))))) 3232235520)&&((aH (a05.aR (Clear.bf (aS.clear (y5.aN.getD 0 aS.az)))) 6)&&((aH (a05.aK (Clear.bf (aS.clear (y5.aN.getD 0 aS.az)))) 1)&&((aH (a05.aO (Clear.bf (aS.clear (y5.aN.getD 0 aS.az)))) 80)&&((aH (Clear.iD (aS.clear (y5.aN.getD 0 aS.az))) 9)&&true))))))))))
      else
      some false
     else
     some false
    else
    some false
   else
   some false
  else
  some false
 else
 some false
end
end Go.Proofs.YtehbbcdhahnkgaaGreat.Vm
