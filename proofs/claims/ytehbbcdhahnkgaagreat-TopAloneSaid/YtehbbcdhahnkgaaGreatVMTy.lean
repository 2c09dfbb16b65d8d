/- Plain functions: types. Plain functions: what an attacker can derive. Plain functions. -/
import Derived.Test.YtehbbcdhahnkgaaGreatVM
set_option linter.all false
set_option maxRecDepth 100000
set_option maxHeartbeats 0
namespace Go.Proofs.YtehbbcdhahnkgaaGreat.Vm
open Go
abbrev dI:DT:=.int .i64
noncomputable section
def Tm.op(t:Tm):Int:=t.1
def Tm.val(t:Tm):Int:=t.2.1
def Tm.args(t:Tm):TL:=t.2.2
def TL.of:List Tm->TL
 |[]=>.nil
 |t::l=>.cons t.1 t.2.1 t.2.2 (TL.of l)
def TL.dep:TL->Nat
 | .nil=>0
 | .cons _ _ a r=>max (a.dep+1) r.dep
def Tm.dep(t:Tm):Nat:=t.2.2.dep+1
def T.aG(n:Int):Tm:=(1,n,.nil)
def T.name(n:Int):Tm:=(2,n,.nil)
def T.eE(n:Int):Tm:=(9,n,.nil)
def T.V3(n:Int):Tm:=(10,n,.nil)
def T.a01(l:TL):Tm:=(3,0,l)
def T.A9(t:Tm):Tm:=(4,0,.cons t.1 t.2.1 t.2.2 .nil)
def T.Gk(t u:Tm):Tm:=(5,0,.cons t.1 t.2.1 t.2.2 (.cons u.1 u.2.1 u.2.2 .nil))
def T.derive(n:Int)(l:TL):Tm:=(6,n,l)
def T.gq(t u:Tm):Tm:=(7,0,.cons t.1 t.2.1 t.2.2 (.cons u.1 u.2.1 u.2.2 .nil))
def T.EI(n:Int)(t:Tm):Tm:=(8,n,.cons t.1 t.2.1 t.2.2 .nil)
def aJ{α:Type}(b:Bool)(x:Option α):Option α:=bif b then x else none
def add(a b:Int):Int:=wM .i64 a b
def sub(a b:Int):Int:=ij .i64 a b
def mul(a b:Int):Int:=Vi .i64 a b
def quo(a b:Int):Int:=nM .i64 a b
def rem(a b:Int):Int:=vh .i64 a b
def shl(a b:Int):Int:=pO .i64 a b
abbrev a0j:DT:=(.ak dI (.ak (.int .u64) (.int .u64)))
abbrev Address:=a0j.den
def Address.bx(x:Address):Int:=x.1
def Address.hi(x:Address):Int:=x.2.1
def Address.TF(x:Address)(v:Int):Address:=(x.1,v,x.2.2)
def Address.lo(x:Address):Int:=x.2.2
def Address.bw(x:Address)(bx:Int:=x.1)(hi:Int:=x.2.1)(lo:Int:=x.2.2):Address:=(bx,hi,lo)
def Address.az(bx:Int:=0)(hi:Int:=0)(lo:Int:=0):Address:=(bx,hi,lo)
abbrev gL:DT:=(.ak a0j (.ak a0j (.ak a0j (.ak a0j (.ak dI (.ak dI (.ak (.ak dI dI) (.ak dI dI))))))))
abbrev aU:=gL.den
def aU.a0c(x:aU):Address:=x.1
def aU.jd(x:aU)(v:Address):aU:=(v,x.2.1,x.2.2.1,x.2.2.2.1,x.2.2.2.2.1,x.2.2.2.2.2.1,x.2.2.2.2.2.2.1,x.2.2.2.2.2.2.2)
def aU.cB(x:aU):Address:=x.2.1
def aU.jc(x:aU)(v:Address):aU:=(x.1,v,x.2.2.1,x.2.2.2.1,x.2.2.2.2.1,x.2.2.2.2.2.1,x.2.2.2.2.2.2.1,x.2.2.2.2.2.2.2)
def aU.bU(x:aU):Address:=x.2.2.1
def aU.ig(x:aU)(v:Address):aU:=(x.1,x.2.1,v,x.2.2.2.1,x.2.2.2.2.1,x.2.2.2.2.2.1,x.2.2.2.2.2.2.1,x.2.2.2.2.2.2.2)
def aU.bT(x:aU):Address:=x.2.2.2.1
def aU.ic(x:aU)(v:Address):aU:=(x.1,x.2.1,x.2.2.1,v,x.2.2.2.2.1,x.2.2.2.2.2.1,x.2.2.2.2.2.2.1,x.2.2.2.2.2.2.2)
def aU.de(x:aU):Int:=x.2.2.2.2.1
def aU.uC(x:aU)(v:Int):aU:=(x.1,x.2.1,x.2.2.1,x.2.2.2.1,v,x.2.2.2.2.2.1,x.2.2.2.2.2.2.1,x.2.2.2.2.2.2.2)
def aU.a0m(x:aU):Int:=x.2.2.2.2.2.1
def aU.uB(x:aU)(v:Int):aU:=(x.1,x.2.1,x.2.2.1,x.2.2.2.1,x.2.2.2.2.1,v,x.2.2.2.2.2.2.1,x.2.2.2.2.2.2.2)
def aU.aL(x:aU):(Int×Int):=x.2.2.2.2.2.2.1
def aU.iI(x:aU)(v:(Int×Int)):aU:=(x.1,x.2.1,x.2.2.1,x.2.2.2.1,x.2.2.2.2.1,x.2.2.2.2.2.1,v,x.2.2.2.2.2.2.2)
def aU.aI(x:aU):(Int×Int):=x.2.2.2.2.2.2.2
def aU.gX(x:aU)(v:(Int×Int)):aU:=(x.1,x.2.1,x.2.2.1,x.2.2.2.1,x.2.2.2.2.1,x.2.2.2.2.2.1,x.2.2.2.2.2.2.1,v)
def aU.bw(x:aU)(a0c:Address:=x.1)(cB:Address:=x.2.1)(bU:Address:=x.2.2.1)(bT:Address:=x.2.2.2.1)(de:Int:=x.2.2.2.2.1)(a0m:Int:=x.2.2.2.2.2.1)(aL:(Int×Int):=x.2.2.2.2.2.2.1)(aI:(Int×Int):=x.2.2.2.2.2.2.2):aU:=(a0c,cB,bU,bT,de,a0m,aL,aI)
def aU.az(a0c:Address:=Address.az)(cB:Address:=Address.az)(bU:Address:=Address.az)(bT:Address:=Address.az)(de:Int:=0)(a0m:Int:=0)(aL:(Int×Int):=(0,0))(aI:(Int×Int):=(0,0)):aU:=(a0c,cB,bU,bT,de,a0m,aL,aI)
abbrev fG:DT:=(.ak dI (.ak .str (.a01 gL)))
abbrev aQ:=fG.den
def aQ.cO(x:aQ):Int:=x.1
def aQ.a0n(x:aQ):(List UInt8):=x.2.1
def aQ.cI(x:aQ):(List aU):=x.2.2
def aQ.bw(x:aQ)(cO:Int:=x.1)(a0n:(List UInt8):=x.2.1)(cI:(List aU):=x.2.2):aQ:=(cO,a0n,cI)
def aQ.az(cO:Int:=0)(a0n:(List UInt8):=[])(cI:(List aU):=[]):aQ:=(cO,a0n,cI)
abbrev a2T:DT:=(.ak dI (.ak dI (.ak dI (.ak TT (.ak TT (.ak TT (.ak TT (.ak TT (.ak TT (.ak TT (.ak dI .bool)))))))))))
abbrev bN:=a2T.den
def bN.own(x:bN):Int:=x.1
def bN.fg(x:bN):Int:=x.2.1
def bN.cq(x:bN):Int:=x.2.2.1
def bN.D0(x:bN)(v:Int):bN:=(x.1,x.2.1,v,x.2.2.2.1,x.2.2.2.2.1,x.2.2.2.2.2.1,x.2.2.2.2.2.2.1,x.2.2.2.2.2.2.2.1,x.2.2.2.2.2.2.2.2.1,x.2.2.2.2.2.2.2.2.2.1,x.2.2.2.2.2.2.2.2.2.2.1,x.2.2.2.2.2.2.2.2.2.2.2)
def bN.first(x:bN):Tm:=x.2.2.2.1
def bN.bY(x:bN):Tm:=x.2.2.2.2.1
def bN.ours(x:bN):Tm:=x.2.2.2.2.2.1
def bN.bO(x:bN):Tm:=x.2.2.2.2.2.2.1
def bN.d(x:bN):Tm:=x.2.2.2.2.2.2.2.1
def bN.out(x:bN):Tm:=x.2.2.2.2.2.2.2.2.1
def bN.eI(x:bN):Tm:=x.2.2.2.2.2.2.2.2.2.1
def bN.born(x:bN):Int:=x.2.2.2.2.2.2.2.2.2.2.1
def bN.dK(x:bN):Bool:=x.2.2.2.2.2.2.2.2.2.2.2
def bN.bw(x:bN)(own:Int:=x.1)(fg:Int:=x.2.1)(cq:Int:=x.2.2.1)(first:Tm:=x.2.2.2.1)(bY:Tm:=x.2.2.2.2.1)(ours:Tm:=x.2.2.2.2.2.1)(bO:Tm:=x.2.2.2.2.2.2.1)(d:Tm:=x.2.2.2.2.2.2.2.1)(out:Tm:=x.2.2.2.2.2.2.2.2.1)(eI:Tm:=x.2.2.2.2.2.2.2.2.2.1)(born:Int:=x.2.2.2.2.2.2.2.2.2.2.1)(dK:Bool:=x.2.2.2.2.2.2.2.2.2.2.2):bN:=(own,fg,cq,first,bY,ours,bO,d,out,eI,born,dK)
def bN.az(own:Int:=0)(fg:Int:=0)(cq:Int:=0)(first:Tm:=(0,0,TL.nil))(bY:Tm:=(0,0,TL.nil))(ours:Tm:=(0,0,TL.nil))(bO:Tm:=(0,0,TL.nil))(d:Tm:=(0,0,TL.nil))(out:Tm:=(0,0,TL.nil))(eI:Tm:=(0,0,TL.nil))(born:Int:=0)(dK:Bool:=false):bN:=(own,fg,cq,first,bY,ours,bO,d,out,eI,born,dK)
abbrev iU:DT:=(.ak dI (.ak dI (.ak TT (.ak dI (.ak dI (.ak dI (.ak TT (.ak TT (.ak dI (.ak dI (.ak dI (.ak gL (.ak TT (.a01 dI))))))))))))))
abbrev a04:=iU.den
def a04.ax(x:a04):Int:=x.1
def a04.iD(x:a04):Int:=x.2.1
def a04.body(x:a04):Tm:=x.2.2.1
def a04.CZ(x:a04)(v:Tm):a04:=(x.1,x.2.1,v,x.2.2.2.1,x.2.2.2.2.1,x.2.2.2.2.2.1,x.2.2.2.2.2.2.1,x.2.2.2.2.2.2.2.1,x.2.2.2.2.2.2.2.2.1,x.2.2.2.2.2.2.2.2.2.1,x.2.2.2.2.2.2.2.2.2.2.1,x.2.2.2.2.2.2.2.2.2.2.2.1,x.2.2.2.2.2.2.2.2.2.2.2.2.1,x.2.2.2.2.2.2.2.2.2.2.2.2.2)
def a04.to(x:a04):Int:=x.2.2.2.1
def a04.Wi(x:a04)(v:Int):a04:=(x.1,x.2.1,x.2.2.1,v,x.2.2.2.2.1,x.2.2.2.2.2.1,x.2.2.2.2.2.2.1,x.2.2.2.2.2.2.2.1,x.2.2.2.2.2.2.2.2.1,x.2.2.2.2.2.2.2.2.2.1,x.2.2.2.2.2.2.2.2.2.2.1,x.2.2.2.2.2.2.2.2.2.2.2.1,x.2.2.2.2.2.2.2.2.2.2.2.2.1,x.2.2.2.2.2.2.2.2.2.2.2.2.2)
def a04.sent(x:a04):Int:=x.2.2.2.2.1
def a04.xw(x:a04)(v:Int):a04:=(x.1,x.2.1,x.2.2.1,x.2.2.2.1,v,x.2.2.2.2.2.1,x.2.2.2.2.2.2.1,x.2.2.2.2.2.2.2.1,x.2.2.2.2.2.2.2.2.1,x.2.2.2.2.2.2.2.2.2.1,x.2.2.2.2.2.2.2.2.2.2.1,x.2.2.2.2.2.2.2.2.2.2.2.1,x.2.2.2.2.2.2.2.2.2.2.2.2.1,x.2.2.2.2.2.2.2.2.2.2.2.2.2)
def a04.sx(x:a04):Int:=x.2.2.2.2.2.1
def a04.dx(x:a04):Tm:=x.2.2.2.2.2.2.1
def a04.eE(x:a04):Tm:=x.2.2.2.2.2.2.2.1
def a04.dZ(x:a04):Int:=x.2.2.2.2.2.2.2.2.1
def a04.dF(x:a04):Int:=x.2.2.2.2.2.2.2.2.2.1
def a04.dm(x:a04):Int:=x.2.2.2.2.2.2.2.2.2.2.1
def a04.box(x:a04):aU:=x.2.2.2.2.2.2.2.2.2.2.2.1
def a04.probe(x:a04):Tm:=x.2.2.2.2.2.2.2.2.2.2.2.2.1
def a04.gone(x:a04):(List Int):=x.2.2.2.2.2.2.2.2.2.2.2.2.2
def a04.D1(x:a04)(v:(List Int)):a04:=(x.1,x.2.1,x.2.2.1,x.2.2.2.1,x.2.2.2.2.1,x.2.2.2.2.2.1,x.2.2.2.2.2.2.1,x.2.2.2.2.2.2.2.1,x.2.2.2.2.2.2.2.2.1,x.2.2.2.2.2.2.2.2.2.1,x.2.2.2.2.2.2.2.2.2.2.1,x.2.2.2.2.2.2.2.2.2.2.2.1,x.2.2.2.2.2.2.2.2.2.2.2.2.1,v)
def a04.bw(x:a04)(ax:Int:=x.1)(iD:Int:=x.2.1)(body:Tm:=x.2.2.1)(to:Int:=x.2.2.2.1)(sent:Int:=x.2.2.2.2.1)(sx:Int:=x.2.2.2.2.2.1)(dx:Tm:=x.2.2.2.2.2.2.1)(eE:Tm:=x.2.2.2.2.2.2.2.1)(dZ:Int:=x.2.2.2.2.2.2.2.2.1)(dF:Int:=x.2.2.2.2.2.2.2.2.2.1)(dm:Int:=x.2.2.2.2.2.2.2.2.2.2.1)(box:aU:=x.2.2.2.2.2.2.2.2.2.2.2.1)(probe:Tm:=x.2.2.2.2.2.2.2.2.2.2.2.2.1)(gone:(List Int):=x.2.2.2.2.2.2.2.2.2.2.2.2.2):a04:=(ax,iD,body,to,sent,sx,dx,eE,dZ,dF,dm,box,probe,gone)
def a04.az(ax:Int:=0)(iD:Int:=0)(body:Tm:=(0,0,TL.nil))(to:Int:=0)(sent:Int:=0)(sx:Int:=0)(dx:Tm:=(0,0,TL.nil))(eE:Tm:=(0,0,TL.nil))(dZ:Int:=0)(dF:Int:=0)(dm:Int:=0)(box:aU:=aU.az)(probe:Tm:=(0,0,TL.nil))(gone:(List Int):=[]):a04:=(ax,iD,body,to,sent,sx,dx,eE,dZ,dF,dm,box,probe,gone)
abbrev sq:DT:=(.ak dI (.ak dI (.ak .bool (.ak dI (.ak dI (.ak dI (.ak TT (.ak TT (.ak TT (.ak TT (.ak TT (.ak TT (.ak TT (.ak dI (.ak dI (.ak iU (.ak dI (.ak TT (.ak dI (.ak dI (.ak dI (.ak dI (.ak dI (.ak .bool (.ak dI (.ak .bool dI))))))))))))))))))))))))))
abbrev Sa:=sq.den
def Sa.own(x:Sa):Int:=x.1
def Sa.fg(x:Sa):Int:=x.2.1
def Sa.aV(x:Sa):Bool:=x.2.2.1
def Sa.state(x:Sa):Int:=x.2.2.2.1
def Sa.gJ(x:Sa)(v:Int):Sa:=(x.1,x.2.1,x.2.2.1,v,x.2.2.2.2.1,x.2.2.2.2.2.1,x.2.2.2.2.2.2.1,x.2.2.2.2.2.2.2.1,x.2.2.2.2.2.2.2.2.1,x.2.2.2.2.2.2.2.2.2.1,x.2.2.2.2.2.2.2.2.2.2.1,x.2.2.2.2.2.2.2.2.2.2.2.1,x.2.2.2.2.2.2.2.2.2.2.2.2.1,x.2.2.2.2.2.2.2.2.2.2.2.2.2.1,x.2.2.2.2.2.2.2.2.2.2.2.2.2.2.1,x.2.2.2.2.2.2.2.2.2.2.2.2.2.2.2.1,x.2.2.2.2.2.2.2.2.2.2.2.2.2.2.2.2.1,x.2.2.2.2.2.2.2.2.2.2.2.2.2.2.2.2.2.1,x.2.2.2.2.2.2.2.2.2.2.2.2.2.2.2.2.2.2.1,x.2.2.2.2.2.2.2.2.2.2.2.2.2.2.2.2.2.2.2.1,x.2.2.2.2.2.2.2.2.2.2.2.2.2.2.2.2.2.2.2.2.1,x.2.2.2.2.2.2.2.2.2.2.2.2.2.2.2.2.2.2.2.2.2.1,x.2.2.2.2.2.2.2.2.2.2.2.2.2.2.2.2.2.2.2.2.2.2.1,x.2.2.2.2.2.2.2.2.2.2.2.2.2.2.2.2.2.2.2.2.2.2.2.1,x.2.2.2.2.2.2.2.2.2.2.2.2.2.2.2.2.2.2.2.2.2.2.2.2.1,x.2.2.2.2.2.2.2.2.2.2.2.2.2.2.2.2.2.2.2.2.2.2.2.2.2.1,x.2.2.2.2.2.2.2.2.2.2.2.2.2.2.2.2.2.2.2.2.2.2.2.2.2.2)
def Sa.bM(x:Sa):Int:=x.2.2.2.2.1
def Sa.kC(x:Sa)(v:Int):Sa:=(x.1,x.2.1,x.2.2.1,x.2.2.2.1,v,x.2.2.2.2.2.1,x.2.2.2.2.2.2.1,x.2.2.2.2.2.2.2.1,x.2.2.2.2.2.2.2.2.1,x.2.2.2.2.2.2.2.2.2.1,x.2.2.2.2.2.2.2.2.2.2.1,x.2.2.2.2.2.2.2.2.2.2.2.1,x.2.2.2.2.2.2.2.2.2.2.2.2.1,x.2.2.2.2.2.2.2.2.2.2.2.2.2.1,x.2.2.2.2.2.2.2.2.2.2.2.2.2.2.1,x.2.2.2.2.2.2.2.2.2.2.2.2.2.2.2.1,x.2.2.2.2.2.2.2.2.2.2.2.2.2.2.2.2.1,x.2.2.2.2.2.2.2.2.2.2.2.2.2.2.2.2.2.1,x.2.2.2.2.2.2.2.2.2.2.2.2.2.2.2.2.2.2.1,x.2.2.2.2.2.2.2.2.2.2.2.2.2.2.2.2.2.2.2.1,x.2.2.2.2.2.2.2.2.2.2.2.2.2.2.2.2.2.2.2.2.1,x.2.2.2.2.2.2.2.2.2.2.2.2.2.2.2.2.2.2.2.2.2.1,x.2.2.2.2.2.2.2.2.2.2.2.2.2.2.2.2.2.2.2.2.2.2.1,x.2.2.2.2.2.2.2.2.2.2.2.2.2.2.2.2.2.2.2.2.2.2.2.1,x.2.2.2.2.2.2.2.2.2.2.2.2.2.2.2.2.2.2.2.2.2.2.2.2.1,x.2.2.2.2.2.2.2.2.2.2.2.2.2.2.2.2.2.2.2.2.2.2.2.2.2.1,x.2.2.2.2.2.2.2.2.2.2.2.2.2.2.2.2.2.2.2.2.2.2.2.2.2.2)
def Sa.a0a(x:Sa):Int:=x.2.2.2.2.2.1
def Sa.Am(x:Sa)(v:Int):Sa:=(x.1,x.2.1,x.2.2.1,x.2.2.2.1,x.2.2.2.2.1,v,x.2.2.2.2.2.2.1,x.2.2.2.2.2.2.2.1,x.2.2.2.2.2.2.2.2.1,x.2.2.2.2.2.2.2.2.2.1,x.2.2.2.2.2.2.2.2.2.2.1,x.2.2.2.2.2.2.2.2.2.2.2.1,x.2.2.2.2.2.2.2.2.2.2.2.2.1,x.2.2.2.2.2.2.2.2.2.2.2.2.2.1,x.2.2.2.2.2.2.2.2.2.2.2.2.2.2.1,x.2.2.2.2.2.2.2.2.2.2.2.2.2.2.2.1,x.2.2.2.2.2.2.2.2.2.2.2.2.2.2.2.2.1,x.2.2.2.2.2.2.2.2.2.2.2.2.2.2.2.2.2.1,x.2.2.2.2.2.2.2.2.2.2.2.2.2.2.2.2.2.2.1,x.2.2.2.2.2.2.2.2.2.2.2.2.2.2.2.2.2.2.2.1,x.2.2.2.2.2.2.2.2.2.2.2.2.2.2.2.2.2.2.2.2.1,x.2.2.2.2.2.2.2.2.2.2.2.2.2.2.2.2.2.2.2.2.2.1,x.2.2.2.2.2.2.2.2.2.2.2.2.2.2.2.2.2.2.2.2.2.2.1,x.2.2.2.2.2.2.2.2.2.2.2.2.2.2.2.2.2.2.2.2.2.2.2.1,x.2.2.2.2.2.2.2.2.2.2.2.2.2.2.2.2.2.2.2.2.2.2.2.2.1,x.2.2.2.2.2.2.2.2.2.2.2.2.2.2.2.2.2.2.2.2.2.2.2.2.2.1,x.2.2.2.2.2.2.2.2.2.2.2.2.2.2.2.2.2.2.2.2.2.2.2.2.2.2)
def Sa.d(x:Sa):Tm:=x.2.2.2.2.2.2.1
def Sa.out(x:Sa):Tm:=x.2.2.2.2.2.2.2.1
def Sa.eI(x:Sa):Tm:=x.2.2.2.2.2.2.2.2.1
def Sa.ours(x:Sa):Tm:=x.2.2.2.2.2.2.2.2.2.1
def Sa.bO(x:Sa):Tm:=x.2.2.2.2.2.2.2.2.2.2.1
def Sa.first(x:Sa):Tm:=x.2.2.2.2.2.2.2.2.2.2.2.1
def Sa.bY(x:Sa):Tm:=x.2.2.2.2.2.2.2.2.2.2.2.2.1
def Sa.eZ(x:Sa):Int:=x.2.2.2.2.2.2.2.2.2.2.2.2.2.1
def Sa.pU(x:Sa):Int:=x.2.2.2.2.2.2.2.2.2.2.2.2.2.2.1
def Sa.pending(x:Sa):a04:=x.2.2.2.2.2.2.2.2.2.2.2.2.2.2.2.1
def Sa.dS(x:Sa)(v:a04):Sa:=(x.1,x.2.1,x.2.2.1,x.2.2.2.1,x.2.2.2.2.1,x.2.2.2.2.2.1,x.2.2.2.2.2.2.1,x.2.2.2.2.2.2.2.1,x.2.2.2.2.2.2.2.2.1,x.2.2.2.2.2.2.2.2.2.1,x.2.2.2.2.2.2.2.2.2.2.1,x.2.2.2.2.2.2.2.2.2.2.2.1,x.2.2.2.2.2.2.2.2.2.2.2.2.1,x.2.2.2.2.2.2.2.2.2.2.2.2.2.1,x.2.2.2.2.2.2.2.2.2.2.2.2.2.2.1,v,x.2.2.2.2.2.2.2.2.2.2.2.2.2.2.2.2.1,x.2.2.2.2.2.2.2.2.2.2.2.2.2.2.2.2.2.1,x.2.2.2.2.2.2.2.2.2.2.2.2.2.2.2.2.2.2.1,x.2.2.2.2.2.2.2.2.2.2.2.2.2.2.2.2.2.2.2.1,x.2.2.2.2.2.2.2.2.2.2.2.2.2.2.2.2.2.2.2.2.1,x.2.2.2.2.2.2.2.2.2.2.2.2.2.2.2.2.2.2.2.2.2.1,x.2.2.2.2.2.2.2.2.2.2.2.2.2.2.2.2.2.2.2.2.2.2.1,x.2.2.2.2.2.2.2.2.2.2.2.2.2.2.2.2.2.2.2.2.2.2.2.1,x.2.2.2.2.2.2.2.2.2.2.2.2.2.2.2.2.2.2.2.2.2.2.2.2.1,x.2.2.2.2.2.2.2.2.2.2.2.2.2.2.2.2.2.2.2.2.2.2.2.2.2.1,x.2.2.2.2.2.2.2.2.2.2.2.2.2.2.2.2.2.2.2.2.2.2.2.2.2.2)
def Sa.iQ(x:Sa):Int:=x.2.2.2.2.2.2.2.2.2.2.2.2.2.2.2.2.1
def Sa.sE(x:Sa):Tm:=x.2.2.2.2.2.2.2.2.2.2.2.2.2.2.2.2.2.1
def Sa.TH(x:Sa)(v:Tm):Sa:=(x.1,x.2.1,x.2.2.1,x.2.2.2.1,x.2.2.2.2.1,x.2.2.2.2.2.1,x.2.2.2.2.2.2.1,x.2.2.2.2.2.2.2.1,x.2.2.2.2.2.2.2.2.1,x.2.2.2.2.2.2.2.2.2.1,x.2.2.2.2.2.2.2.2.2.2.1,x.2.2.2.2.2.2.2.2.2.2.2.1,x.2.2.2.2.2.2.2.2.2.2.2.2.1,x.2.2.2.2.2.2.2.2.2.2.2.2.2.1,x.2.2.2.2.2.2.2.2.2.2.2.2.2.2.1,x.2.2.2.2.2.2.2.2.2.2.2.2.2.2.2.1,x.2.2.2.2.2.2.2.2.2.2.2.2.2.2.2.2.1,v,x.2.2.2.2.2.2.2.2.2.2.2.2.2.2.2.2.2.2.1,x.2.2.2.2.2.2.2.2.2.2.2.2.2.2.2.2.2.2.2.1,x.2.2.2.2.2.2.2.2.2.2.2.2.2.2.2.2.2.2.2.2.1,x.2.2.2.2.2.2.2.2.2.2.2.2.2.2.2.2.2.2.2.2.2.1,x.2.2.2.2.2.2.2.2.2.2.2.2.2.2.2.2.2.2.2.2.2.2.1,x.2.2.2.2.2.2.2.2.2.2.2.2.2.2.2.2.2.2.2.2.2.2.2.1,x.2.2.2.2.2.2.2.2.2.2.2.2.2.2.2.2.2.2.2.2.2.2.2.2.1,x.2.2.2.2.2.2.2.2.2.2.2.2.2.2.2.2.2.2.2.2.2.2.2.2.2.1,x.2.2.2.2.2.2.2.2.2.2.2.2.2.2.2.2.2.2.2.2.2.2.2.2.2.2)
def Sa.eC(x:Sa):Int:=x.2.2.2.2.2.2.2.2.2.2.2.2.2.2.2.2.2.2.1
def Sa.uA(x:Sa)(v:Int):Sa:=(x.1,x.2.1,x.2.2.1,x.2.2.2.1,x.2.2.2.2.1,x.2.2.2.2.2.1,x.2.2.2.2.2.2.1,x.2.2.2.2.2.2.2.1,x.2.2.2.2.2.2.2.2.1,x.2.2.2.2.2.2.2.2.2.1,x.2.2.2.2.2.2.2.2.2.2.1,x.2.2.2.2.2.2.2.2.2.2.2.1,x.2.2.2.2.2.2.2.2.2.2.2.2.1,x.2.2.2.2.2.2.2.2.2.2.2.2.2.1,x.2.2.2.2.2.2.2.2.2.2.2.2.2.2.1,x.2.2.2.2.2.2.2.2.2.2.2.2.2.2.2.1,x.2.2.2.2.2.2.2.2.2.2.2.2.2.2.2.2.1,x.2.2.2.2.2.2.2.2.2.2.2.2.2.2.2.2.2.1,v,x.2.2.2.2.2.2.2.2.2.2.2.2.2.2.2.2.2.2.2.1,x.2.2.2.2.2.2.2.2.2.2.2.2.2.2.2.2.2.2.2.2.1,x.2.2.2.2.2.2.2.2.2.2.2.2.2.2.2.2.2.2.2.2.2.1,x.2.2.2.2.2.2.2.2.2.2.2.2.2.2.2.2.2.2.2.2.2.2.1,x.2.2.2.2.2.2.2.2.2.2.2.2.2.2.2.2.2.2.2.2.2.2.2.1,x.2.2.2.2.2.2.2.2.2.2.2.2.2.2.2.2.2.2.2.2.2.2.2.2.1,x.2.2.2.2.2.2.2.2.2.2.2.2.2.2.2.2.2.2.2.2.2.2.2.2.2.1,x.2.2.2.2.2.2.2.2.2.2.2.2.2.2.2.2.2.2.2.2.2.2.2.2.2.2)
def Sa.next(x:Sa):Int:=x.2.2.2.2.2.2.2.2.2.2.2.2.2.2.2.2.2.2.2.1
def Sa.jh(x:Sa)(v:Int):Sa:=(x.1,x.2.1,x.2.2.1,x.2.2.2.1,x.2.2.2.2.1,x.2.2.2.2.2.1,x.2.2.2.2.2.2.1,x.2.2.2.2.2.2.2.1,x.2.2.2.2.2.2.2.2.1,x.2.2.2.2.2.2.2.2.2.1,x.2.2.2.2.2.2.2.2.2.2.1,x.2.2.2.2.2.2.2.2.2.2.2.1,x.2.2.2.2.2.2.2.2.2.2.2.2.1,x.2.2.2.2.2.2.2.2.2.2.2.2.2.1,x.2.2.2.2.2.2.2.2.2.2.2.2.2.2.1,x.2.2.2.2.2.2.2.2.2.2.2.2.2.2.2.1,x.2.2.2.2.2.2.2.2.2.2.2.2.2.2.2.2.1,x.2.2.2.2.2.2.2.2.2.2.2.2.2.2.2.2.2.1,x.2.2.2.2.2.2.2.2.2.2.2.2.2.2.2.2.2.2.1,v,x.2.2.2.2.2.2.2.2.2.2.2.2.2.2.2.2.2.2.2.2.1,x.2.2.2.2.2.2.2.2.2.2.2.2.2.2.2.2.2.2.2.2.2.1,x.2.2.2.2.2.2.2.2.2.2.2.2.2.2.2.2.2.2.2.2.2.2.1,x.2.2.2.2.2.2.2.2.2.2.2.2.2.2.2.2.2.2.2.2.2.2.2.1,x.2.2.2.2.2.2.2.2.2.2.2.2.2.2.2.2.2.2.2.2.2.2.2.2.1,x.2.2.2.2.2.2.2.2.2.2.2.2.2.2.2.2.2.2.2.2.2.2.2.2.2.1,x.2.2.2.2.2.2.2.2.2.2.2.2.2.2.2.2.2.2.2.2.2.2.2.2.2.2)
def Sa.dP(x:Sa):Int:=x.2.2.2.2.2.2.2.2.2.2.2.2.2.2.2.2.2.2.2.2.1
def Sa.eT(x:Sa)(v:Int):Sa:=(x.1,x.2.1,x.2.2.1,x.2.2.2.1,x.2.2.2.2.1,x.2.2.2.2.2.1,x.2.2.2.2.2.2.1,x.2.2.2.2.2.2.2.1,x.2.2.2.2.2.2.2.2.1,x.2.2.2.2.2.2.2.2.2.1,x.2.2.2.2.2.2.2.2.2.2.1,x.2.2.2.2.2.2.2.2.2.2.2.1,x.2.2.2.2.2.2.2.2.2.2.2.2.1,x.2.2.2.2.2.2.2.2.2.2.2.2.2.1,x.2.2.2.2.2.2.2.2.2.2.2.2.2.2.1,x.2.2.2.2.2.2.2.2.2.2.2.2.2.2.2.1,x.2.2.2.2.2.2.2.2.2.2.2.2.2.2.2.2.1,x.2.2.2.2.2.2.2.2.2.2.2.2.2.2.2.2.2.1,x.2.2.2.2.2.2.2.2.2.2.2.2.2.2.2.2.2.2.1,x.2.2.2.2.2.2.2.2.2.2.2.2.2.2.2.2.2.2.2.1,v,x.2.2.2.2.2.2.2.2.2.2.2.2.2.2.2.2.2.2.2.2.2.1,x.2.2.2.2.2.2.2.2.2.2.2.2.2.2.2.2.2.2.2.2.2.2.1,x.2.2.2.2.2.2.2.2.2.2.2.2.2.2.2.2.2.2.2.2.2.2.2.1,x.2.2.2.2.2.2.2.2.2.2.2.2.2.2.2.2.2.2.2.2.2.2.2.2.1,x.2.2.2.2.2.2.2.2.2.2.2.2.2.2.2.2.2.2.2.2.2.2.2.2.2.1,x.2.2.2.2.2.2.2.2.2.2.2.2.2.2.2.2.2.2.2.2.2.2.2.2.2.2)
def Sa.follows(x:Sa):Int:=x.2.2.2.2.2.2.2.2.2.2.2.2.2.2.2.2.2.2.2.2.2.1
def Sa.jb(x:Sa)(v:Int):Sa:=(x.1,x.2.1,x.2.2.1,x.2.2.2.1,x.2.2.2.2.1,x.2.2.2.2.2.1,x.2.2.2.2.2.2.1,x.2.2.2.2.2.2.2.1,x.2.2.2.2.2.2.2.2.1,x.2.2.2.2.2.2.2.2.2.1,x.2.2.2.2.2.2.2.2.2.2.1,x.2.2.2.2.2.2.2.2.2.2.2.1,x.2.2.2.2.2.2.2.2.2.2.2.2.1,x.2.2.2.2.2.2.2.2.2.2.2.2.2.1,x.2.2.2.2.2.2.2.2.2.2.2.2.2.2.1,x.2.2.2.2.2.2.2.2.2.2.2.2.2.2.2.1,x.2.2.2.2.2.2.2.2.2.2.2.2.2.2.2.2.1,x.2.2.2.2.2.2.2.2.2.2.2.2.2.2.2.2.2.1,x.2.2.2.2.2.2.2.2.2.2.2.2.2.2.2.2.2.2.1,x.2.2.2.2.2.2.2.2.2.2.2.2.2.2.2.2.2.2.2.1,x.2.2.2.2.2.2.2.2.2.2.2.2.2.2.2.2.2.2.2.2.1,v,x.2.2.2.2.2.2.2.2.2.2.2.2.2.2.2.2.2.2.2.2.2.2.1,x.2.2.2.2.2.2.2.2.2.2.2.2.2.2.2.2.2.2.2.2.2.2.2.1,x.2.2.2.2.2.2.2.2.2.2.2.2.2.2.2.2.2.2.2.2.2.2.2.2.1,x.2.2.2.2.2.2.2.2.2.2.2.2.2.2.2.2.2.2.2.2.2.2.2.2.2.1,x.2.2.2.2.2.2.2.2.2.2.2.2.2.2.2.2.2.2.2.2.2.2.2.2.2.2)
def Sa.sK(x:Sa):Int:=x.2.2.2.2.2.2.2.2.2.2.2.2.2.2.2.2.2.2.2.2.2.2.1
def Sa.dK(x:Sa):Bool:=x.2.2.2.2.2.2.2.2.2.2.2.2.2.2.2.2.2.2.2.2.2.2.2.1
def Sa.lV(x:Sa):Int:=x.2.2.2.2.2.2.2.2.2.2.2.2.2.2.2.2.2.2.2.2.2.2.2.2.1
def Sa.TG(x:Sa)(v:Int):Sa:=(x.1,x.2.1,x.2.2.1,x.2.2.2.1,x.2.2.2.2.1,x.2.2.2.2.2.1,x.2.2.2.2.2.2.1,x.2.2.2.2.2.2.2.1,x.2.2.2.2.2.2.2.2.1,x.2.2.2.2.2.2.2.2.2.1,x.2.2.2.2.2.2.2.2.2.2.1,x.2.2.2.2.2.2.2.2.2.2.2.1,x.2.2.2.2.2.2.2.2.2.2.2.2.1,x.2.2.2.2.2.2.2.2.2.2.2.2.2.1,x.2.2.2.2.2.2.2.2.2.2.2.2.2.2.1,x.2.2.2.2.2.2.2.2.2.2.2.2.2.2.2.1,x.2.2.2.2.2.2.2.2.2.2.2.2.2.2.2.2.1,x.2.2.2.2.2.2.2.2.2.2.2.2.2.2.2.2.2.1,x.2.2.2.2.2.2.2.2.2.2.2.2.2.2.2.2.2.2.1,x.2.2.2.2.2.2.2.2.2.2.2.2.2.2.2.2.2.2.2.1,x.2.2.2.2.2.2.2.2.2.2.2.2.2.2.2.2.2.2.2.2.1,x.2.2.2.2.2.2.2.2.2.2.2.2.2.2.2.2.2.2.2.2.2.1,x.2.2.2.2.2.2.2.2.2.2.2.2.2.2.2.2.2.2.2.2.2.2.1,x.2.2.2.2.2.2.2.2.2.2.2.2.2.2.2.2.2.2.2.2.2.2.2.1,v,x.2.2.2.2.2.2.2.2.2.2.2.2.2.2.2.2.2.2.2.2.2.2.2.2.2.1,x.2.2.2.2.2.2.2.2.2.2.2.2.2.2.2.2.2.2.2.2.2.2.2.2.2.2)
def Sa.zU(x:Sa):Bool:=x.2.2.2.2.2.2.2.2.2.2.2.2.2.2.2.2.2.2.2.2.2.2.2.2.2.1
def Sa.D2(x:Sa)(v:Bool):Sa:=(x.1,x.2.1,x.2.2.1,x.2.2.2.1,x.2.2.2.2.1,x.2.2.2.2.2.1,x.2.2.2.2.2.2.1,x.2.2.2.2.2.2.2.1,x.2.2.2.2.2.2.2.2.1,x.2.2.2.2.2.2.2.2.2.1,x.2.2.2.2.2.2.2.2.2.2.1,x.2.2.2.2.2.2.2.2.2.2.2.1,x.2.2.2.2.2.2.2.2.2.2.2.2.1,x.2.2.2.2.2.2.2.2.2.2.2.2.2.1,x.2.2.2.2.2.2.2.2.2.2.2.2.2.2.1,x.2.2.2.2.2.2.2.2.2.2.2.2.2.2.2.1,x.2.2.2.2.2.2.2.2.2.2.2.2.2.2.2.2.1,x.2.2.2.2.2.2.2.2.2.2.2.2.2.2.2.2.2.1,x.2.2.2.2.2.2.2.2.2.2.2.2.2.2.2.2.2.2.1,x.2.2.2.2.2.2.2.2.2.2.2.2.2.2.2.2.2.2.2.1,x.2.2.2.2.2.2.2.2.2.2.2.2.2.2.2.2.2.2.2.2.1,x.2.2.2.2.2.2.2.2.2.2.2.2.2.2.2.2.2.2.2.2.2.1,x.2.2.2.2.2.2.2.2.2.2.2.2.2.2.2.2.2.2.2.2.2.2.1,x.2.2.2.2.2.2.2.2.2.2.2.2.2.2.2.2.2.2.2.2.2.2.2.1,x.2.2.2.2.2.2.2.2.2.2.2.2.2.2.2.2.2.2.2.2.2.2.2.2.1,v,x.2.2.2.2.2.2.2.2.2.2.2.2.2.2.2.2.2.2.2.2.2.2.2.2.2.2)
def Sa.Ao(x:Sa):Int:=x.2.2.2.2.2.2.2.2.2.2.2.2.2.2.2.2.2.2.2.2.2.2.2.2.2.2
def Sa.GD(x:Sa)(v:Int):Sa:=(x.1,x.2.1,x.2.2.1,x.2.2.2.1,x.2.2.2.2.1,x.2.2.2.2.2.1,x.2.2.2.2.2.2.1,x.2.2.2.2.2.2.2.1,x.2.2.2.2.2.2.2.2.1,x.2.2.2.2.2.2.2.2.2.1,x.2.2.2.2.2.2.2.2.2.2.1,x.2.2.2.2.2.2.2.2.2.2.2.1,x.2.2.2.2.2.2.2.2.2.2.2.2.1,x.2.2.2.2.2.2.2.2.2.2.2.2.2.1,x.2.2.2.2.2.2.2.2.2.2.2.2.2.2.1,x.2.2.2.2.2.2.2.2.2.2.2.2.2.2.2.1,x.2.2.2.2.2.2.2.2.2.2.2.2.2.2.2.2.1,x.2.2.2.2.2.2.2.2.2.2.2.2.2.2.2.2.2.1,x.2.2.2.2.2.2.2.2.2.2.2.2.2.2.2.2.2.2.1,x.2.2.2.2.2.2.2.2.2.2.2.2.2.2.2.2.2.2.2.1,x.2.2.2.2.2.2.2.2.2.2.2.2.2.2.2.2.2.2.2.2.1,x.2.2.2.2.2.2.2.2.2.2.2.2.2.2.2.2.2.2.2.2.2.1,x.2.2.2.2.2.2.2.2.2.2.2.2.2.2.2.2.2.2.2.2.2.2.1,x.2.2.2.2.2.2.2.2.2.2.2.2.2.2.2.2.2.2.2.2.2.2.2.1,x.2.2.2.2.2.2.2.2.2.2.2.2.2.2.2.2.2.2.2.2.2.2.2.2.1,x.2.2.2.2.2.2.2.2.2.2.2.2.2.2.2.2.2.2.2.2.2.2.2.2.2.1,v)
def Sa.bw(x:Sa)(own:Int:=x.1)(fg:Int:=x.2.1)(aV:Bool:=x.2.2.1)(state:Int:=x.2.2.2.1)(bM:Int:=x.2.2.2.2.1)(a0a:Int:=x.2.2.2.2.2.1)(d:Tm:=x.2.2.2.2.2.2.1)(out:Tm:=x.2.2.2.2.2.2.2.1)(eI:Tm:=x.2.2.2.2.2.2.2.2.1)(ours:Tm:=x.2.2.2.2.2.2.2.2.2.1)(bO:Tm:=x.2.2.2.2.2.2.2.2.2.2.1)(first:Tm:=x.2.2.2.2.2.2.2.2.2.2.2.1)(bY:Tm:=x.2.2.2.2.2.2.2.2.2.2.2.2.1)(eZ:Int:=x.2.2.2.2.2.2.2.2.2.2.2.2.2.1)(pU:Int:=x.2.2.2.2.2.2.2.2.2.2.2.2.2.2.1)(pending:a04:=x.2.2.2.2.2.2.2.2.2.2.2.2.2.2.2.1)(iQ:Int:=x.2.2.2.2.2.2.2.2.2.2.2.2.2.2.2.2.1)(sE:Tm:=x.2.2.2.2.2.2.2.2.2.2.2.2.2.2.2.2.2.1)(eC:Int:=x.2.2.2.2.2.2.2.2.2.2.2.2.2.2.2.2.2.2.1)(next:Int:=x.2.2.2.2.2.2.2.2.2.2.2.2.2.2.2.2.2.2.2.1)(dP:Int:=x.2.2.2.2.2.2.2.2.2.2.2.2.2.2.2.2.2.2.2.2.1)(follows:Int:=x.2.2.2.2.2.2.2.2.2.2.2.2.2.2.2.2.2.2.2.2.2.1)(sK:Int:=x.2.2.2.2.2.2.2.2.2.2.2.2.2.2.2.2.2.2.2.2.2.2.1)(dK:Bool:=x.2.2.2.2.2.2.2.2.2.2.2.2.2.2.2.2.2.2.2.2.2.2.2.1)(lV:Int:=x.2.2.2.2.2.2.2.2.2.2.2.2.2.2.2.2.2.2.2.2.2.2.2.2.1)(zU:Bool:=x.2.2.2.2.2.2.2.2.2.2.2.2.2.2.2.2.2.2.2.2.2.2.2.2.2.1)(Ao:Int:=x.2.2.2.2.2.2.2.2.2.2.2.2.2.2.2.2.2.2.2.2.2.2.2.2.2.2):Sa:=(own,fg,aV,state,bM,a0a,d,out,eI,ours,bO,first,bY,eZ,pU,pending,iQ,sE,eC,next,dP,follows,sK,dK,lV,zU,Ao)
def Sa.az(own:Int:=0)(fg:Int:=0)(aV:Bool:=false)(state:Int:=0)(bM:Int:=0)(a0a:Int:=0)(d:Tm:=(0,0,TL.nil))(out:Tm:=(0,0,TL.nil))(eI:Tm:=(0,0,TL.nil))(ours:Tm:=(0,0,TL.nil))(bO:Tm:=(0,0,TL.nil))(first:Tm:=(0,0,TL.nil))(bY:Tm:=(0,0,TL.nil))(eZ:Int:=0)(pU:Int:=0)(pending:a04:=a04.az)(iQ:Int:=0)(sE:Tm:=(0,0,TL.nil))(eC:Int:=0)(next:Int:=0)(dP:Int:=0)(follows:Int:=0)(sK:Int:=0)(dK:Bool:=false)(lV:Int:=0)(zU:Bool:=false)(Ao:Int:=0):Sa:=(own,fg,aV,state,bM,a0a,d,out,eI,ours,bO,first,bY,eZ,pU,pending,iQ,sE,eC,next,dP,follows,sK,dK,lV,zU,Ao)
abbrev mN:DT:=(.ak dI (.ak (.int .u64) (.a01 (.int .u64))))
abbrev cC:=mN.den
def cC.size(x:cC):Int:=x.1
def cC.mj(x:cC):Int:=x.2.1
def cC.bits(x:cC):(List Int):=x.2.2
def cC.TC(x:cC)(v:(List Int)):cC:=(x.1,x.2.1,v)
def cC.bw(x:cC)(size:Int:=x.1)(mj:Int:=x.2.1)(bits:(List Int):=x.2.2):cC:=(size,mj,bits)
def cC.az(size:Int:=0)(mj:Int:=0)(bits:(List Int):=[]):cC:=(size,mj,bits)
abbrev a0l:DT:=(.ak dI (.ak dI (.ak dI (.ak dI (.ak gL (.ak TT (.ak TT (.ak .bool (.ak TT (.ak TT (.ak dI (.ak dI (.ak mN (.ak dI dI))))))))))))))
abbrev a00:=a0l.den
def a00.eI(x:a00):Int:=x.1
def a00.out(x:a00):Int:=x.2.1
def a00.sa(x:a00):Int:=x.2.2.1
def a00.An(x:a00)(v:Int):a00:=(x.1,x.2.1,v,x.2.2.2.1,x.2.2.2.2.1,x.2.2.2.2.2.1,x.2.2.2.2.2.2.1,x.2.2.2.2.2.2.2.1,x.2.2.2.2.2.2.2.2.1,x.2.2.2.2.2.2.2.2.2.1,x.2.2.2.2.2.2.2.2.2.2.1,x.2.2.2.2.2.2.2.2.2.2.2.1,x.2.2.2.2.2.2.2.2.2.2.2.2.1,x.2.2.2.2.2.2.2.2.2.2.2.2.2.1,x.2.2.2.2.2.2.2.2.2.2.2.2.2.2)
def a00.dm(x:a00):Int:=x.2.2.2.1
def a00.box(x:a00):aU:=x.2.2.2.2.1
def a00.sy(x:a00):Tm:=x.2.2.2.2.2.1
def a00.o6(x:a00):Tm:=x.2.2.2.2.2.2.1
def a00.aV(x:a00):Bool:=x.2.2.2.2.2.2.2.1
def a00.ours(x:a00):Tm:=x.2.2.2.2.2.2.2.2.1
def a00.bO(x:a00):Tm:=x.2.2.2.2.2.2.2.2.2.1
def a00.state(x:a00):Int:=x.2.2.2.2.2.2.2.2.2.2.1
def a00.gJ(x:a00)(v:Int):a00:=(x.1,x.2.1,x.2.2.1,x.2.2.2.1,x.2.2.2.2.1,x.2.2.2.2.2.1,x.2.2.2.2.2.2.1,x.2.2.2.2.2.2.2.1,x.2.2.2.2.2.2.2.2.1,x.2.2.2.2.2.2.2.2.2.1,v,x.2.2.2.2.2.2.2.2.2.2.2.1,x.2.2.2.2.2.2.2.2.2.2.2.2.1,x.2.2.2.2.2.2.2.2.2.2.2.2.2.1,x.2.2.2.2.2.2.2.2.2.2.2.2.2.2)
def a00.sent(x:a00):Int:=x.2.2.2.2.2.2.2.2.2.2.2.1
def a00.xw(x:a00)(v:Int):a00:=(x.1,x.2.1,x.2.2.1,x.2.2.2.1,x.2.2.2.2.1,x.2.2.2.2.2.1,x.2.2.2.2.2.2.1,x.2.2.2.2.2.2.2.1,x.2.2.2.2.2.2.2.2.1,x.2.2.2.2.2.2.2.2.2.1,x.2.2.2.2.2.2.2.2.2.2.1,v,x.2.2.2.2.2.2.2.2.2.2.2.2.1,x.2.2.2.2.2.2.2.2.2.2.2.2.2.1,x.2.2.2.2.2.2.2.2.2.2.2.2.2.2)
def a00.iS(x:a00):cC:=x.2.2.2.2.2.2.2.2.2.2.2.2.1
def a00.mo(x:a00)(v:cC):a00:=(x.1,x.2.1,x.2.2.1,x.2.2.2.1,x.2.2.2.2.1,x.2.2.2.2.2.1,x.2.2.2.2.2.2.1,x.2.2.2.2.2.2.2.1,x.2.2.2.2.2.2.2.2.1,x.2.2.2.2.2.2.2.2.2.1,x.2.2.2.2.2.2.2.2.2.2.1,x.2.2.2.2.2.2.2.2.2.2.2.1,v,x.2.2.2.2.2.2.2.2.2.2.2.2.2.1,x.2.2.2.2.2.2.2.2.2.2.2.2.2.2)
def a00.next(x:a00):Int:=x.2.2.2.2.2.2.2.2.2.2.2.2.2.1
def a00.jh(x:a00)(v:Int):a00:=(x.1,x.2.1,x.2.2.1,x.2.2.2.1,x.2.2.2.2.1,x.2.2.2.2.2.1,x.2.2.2.2.2.2.1,x.2.2.2.2.2.2.2.1,x.2.2.2.2.2.2.2.2.1,x.2.2.2.2.2.2.2.2.2.1,x.2.2.2.2.2.2.2.2.2.2.1,x.2.2.2.2.2.2.2.2.2.2.2.1,x.2.2.2.2.2.2.2.2.2.2.2.2.1,v,x.2.2.2.2.2.2.2.2.2.2.2.2.2.2)
def a00.dP(x:a00):Int:=x.2.2.2.2.2.2.2.2.2.2.2.2.2.2
def a00.eT(x:a00)(v:Int):a00:=(x.1,x.2.1,x.2.2.1,x.2.2.2.1,x.2.2.2.2.1,x.2.2.2.2.2.1,x.2.2.2.2.2.2.1,x.2.2.2.2.2.2.2.1,x.2.2.2.2.2.2.2.2.1,x.2.2.2.2.2.2.2.2.2.1,x.2.2.2.2.2.2.2.2.2.2.1,x.2.2.2.2.2.2.2.2.2.2.2.1,x.2.2.2.2.2.2.2.2.2.2.2.2.1,x.2.2.2.2.2.2.2.2.2.2.2.2.2.1,v)
def a00.bw(x:a00)(eI:Int:=x.1)(out:Int:=x.2.1)(sa:Int:=x.2.2.1)(dm:Int:=x.2.2.2.1)(box:aU:=x.2.2.2.2.1)(sy:Tm:=x.2.2.2.2.2.1)(o6:Tm:=x.2.2.2.2.2.2.1)(aV:Bool:=x.2.2.2.2.2.2.2.1)(ours:Tm:=x.2.2.2.2.2.2.2.2.1)(bO:Tm:=x.2.2.2.2.2.2.2.2.2.1)(state:Int:=x.2.2.2.2.2.2.2.2.2.2.1)(sent:Int:=x.2.2.2.2.2.2.2.2.2.2.2.1)(iS:cC:=x.2.2.2.2.2.2.2.2.2.2.2.2.1)(next:Int:=x.2.2.2.2.2.2.2.2.2.2.2.2.2.1)(dP:Int:=x.2.2.2.2.2.2.2.2.2.2.2.2.2.2):a00:=(eI,out,sa,dm,box,sy,o6,aV,ours,bO,state,sent,iS,next,dP)
def a00.az(eI:Int:=0)(out:Int:=0)(sa:Int:=0)(dm:Int:=0)(box:aU:=aU.az)(sy:Tm:=(0,0,TL.nil))(o6:Tm:=(0,0,TL.nil))(aV:Bool:=false)(ours:Tm:=(0,0,TL.nil))(bO:Tm:=(0,0,TL.nil))(state:Int:=0)(sent:Int:=0)(iS:cC:=cC.az)(next:Int:=0)(dP:Int:=0):a00:=(eI,out,sa,dm,box,sy,o6,aV,ours,bO,state,sent,iS,next,dP)
abbrev ji:DT:=(.ak TT TT)
abbrev eH:=ji.den
def eH.body(x:eH):Tm:=x.1
def eH.CZ(x:eH)(v:Tm):eH:=(v,x.2)
def eH.d(x:eH):Tm:=x.2
def eH.bw(x:eH)(body:Tm:=x.1)(d:Tm:=x.2):eH:=(body,d)
def eH.az(body:Tm:=(0,0,TL.nil))(d:Tm:=(0,0,TL.nil)):eH:=(body,d)
abbrev aq:DT:=(.ak dI (.ak dI (.ak dI (.ak dI (.ak (.a01 fG) (.ak (.a01 dI) (.ak dI (.ak dI (.ak TT (.ak TT (.ak dI (.ak (.a01 a2T) (.ak (.a01 sq) (.ak (.a01 a0l) (.a01 ji)))))))))))))))
abbrev aa:=aq.den
def aa.av(x:aa):Int:=x.1
def aa.kS(x:aa):Int:=x.2.1
def aa.bM(x:aa):Int:=x.2.2.1
def aa.kC(x:aa)(v:Int):aa:=(x.1,x.2.1,v,x.2.2.2.1,x.2.2.2.2.1,x.2.2.2.2.2.1,x.2.2.2.2.2.2.1,x.2.2.2.2.2.2.2.1,x.2.2.2.2.2.2.2.2.1,x.2.2.2.2.2.2.2.2.2.1,x.2.2.2.2.2.2.2.2.2.2.1,x.2.2.2.2.2.2.2.2.2.2.2.1,x.2.2.2.2.2.2.2.2.2.2.2.2.1,x.2.2.2.2.2.2.2.2.2.2.2.2.2.1,x.2.2.2.2.2.2.2.2.2.2.2.2.2.2)
def aa.a0a(x:aa):Int:=x.2.2.2.1
def aa.Am(x:aa)(v:Int):aa:=(x.1,x.2.1,x.2.2.1,v,x.2.2.2.2.1,x.2.2.2.2.2.1,x.2.2.2.2.2.2.1,x.2.2.2.2.2.2.2.1,x.2.2.2.2.2.2.2.2.1,x.2.2.2.2.2.2.2.2.2.1,x.2.2.2.2.2.2.2.2.2.2.1,x.2.2.2.2.2.2.2.2.2.2.2.1,x.2.2.2.2.2.2.2.2.2.2.2.2.1,x.2.2.2.2.2.2.2.2.2.2.2.2.2.1,x.2.2.2.2.2.2.2.2.2.2.2.2.2.2)
def aa.dh(x:aa):(List aQ):=x.2.2.2.2.1
def aa.uD(x:aa)(v:(List aQ)):aa:=(x.1,x.2.1,x.2.2.1,x.2.2.2.1,v,x.2.2.2.2.2.1,x.2.2.2.2.2.2.1,x.2.2.2.2.2.2.2.1,x.2.2.2.2.2.2.2.2.1,x.2.2.2.2.2.2.2.2.2.1,x.2.2.2.2.2.2.2.2.2.2.1,x.2.2.2.2.2.2.2.2.2.2.2.1,x.2.2.2.2.2.2.2.2.2.2.2.2.1,x.2.2.2.2.2.2.2.2.2.2.2.2.2.1,x.2.2.2.2.2.2.2.2.2.2.2.2.2.2)
def aa.dB(x:aa):(List Int):=x.2.2.2.2.2.1
def aa.bA(x:aa):Int:=x.2.2.2.2.2.2.1
def aa.Pt(x:aa)(v:Int):aa:=(x.1,x.2.1,x.2.2.1,x.2.2.2.1,x.2.2.2.2.1,x.2.2.2.2.2.1,v,x.2.2.2.2.2.2.2.1,x.2.2.2.2.2.2.2.2.1,x.2.2.2.2.2.2.2.2.2.1,x.2.2.2.2.2.2.2.2.2.2.1,x.2.2.2.2.2.2.2.2.2.2.2.1,x.2.2.2.2.2.2.2.2.2.2.2.2.1,x.2.2.2.2.2.2.2.2.2.2.2.2.2.1,x.2.2.2.2.2.2.2.2.2.2.2.2.2.2)
def aa.count(x:aa):Int:=x.2.2.2.2.2.2.2.1
def aa.dj(x:aa)(v:Int):aa:=(x.1,x.2.1,x.2.2.1,x.2.2.2.1,x.2.2.2.2.1,x.2.2.2.2.2.1,x.2.2.2.2.2.2.1,v,x.2.2.2.2.2.2.2.2.1,x.2.2.2.2.2.2.2.2.2.1,x.2.2.2.2.2.2.2.2.2.2.1,x.2.2.2.2.2.2.2.2.2.2.2.1,x.2.2.2.2.2.2.2.2.2.2.2.2.1,x.2.2.2.2.2.2.2.2.2.2.2.2.2.1,x.2.2.2.2.2.2.2.2.2.2.2.2.2.2)
def aa.guard(x:aa):Tm:=x.2.2.2.2.2.2.2.2.1
def aa.mm(x:aa):Tm:=x.2.2.2.2.2.2.2.2.2.1
def aa.pH(x:aa):Int:=x.2.2.2.2.2.2.2.2.2.2.1
def aa.Al(x:aa)(v:Int):aa:=(x.1,x.2.1,x.2.2.1,x.2.2.2.1,x.2.2.2.2.1,x.2.2.2.2.2.1,x.2.2.2.2.2.2.1,x.2.2.2.2.2.2.2.1,x.2.2.2.2.2.2.2.2.1,x.2.2.2.2.2.2.2.2.2.1,v,x.2.2.2.2.2.2.2.2.2.2.2.1,x.2.2.2.2.2.2.2.2.2.2.2.2.1,x.2.2.2.2.2.2.2.2.2.2.2.2.2.1,x.2.2.2.2.2.2.2.2.2.2.2.2.2.2)
def aa.aW(x:aa):(List bN):=x.2.2.2.2.2.2.2.2.2.2.2.1
def aa.pT(x:aa)(v:(List bN)):aa:=(x.1,x.2.1,x.2.2.1,x.2.2.2.1,x.2.2.2.2.1,x.2.2.2.2.2.1,x.2.2.2.2.2.2.1,x.2.2.2.2.2.2.2.1,x.2.2.2.2.2.2.2.2.1,x.2.2.2.2.2.2.2.2.2.1,x.2.2.2.2.2.2.2.2.2.2.1,v,x.2.2.2.2.2.2.2.2.2.2.2.2.1,x.2.2.2.2.2.2.2.2.2.2.2.2.2.1,x.2.2.2.2.2.2.2.2.2.2.2.2.2.2)
def aa.u4(x:aa):(List Sa):=x.2.2.2.2.2.2.2.2.2.2.2.2.1
def aa.bI(x:aa)(v:(List Sa)):aa:=(x.1,x.2.1,x.2.2.1,x.2.2.2.1,x.2.2.2.2.1,x.2.2.2.2.2.1,x.2.2.2.2.2.2.1,x.2.2.2.2.2.2.2.1,x.2.2.2.2.2.2.2.2.1,x.2.2.2.2.2.2.2.2.2.1,x.2.2.2.2.2.2.2.2.2.2.1,x.2.2.2.2.2.2.2.2.2.2.2.1,v,x.2.2.2.2.2.2.2.2.2.2.2.2.2.1,x.2.2.2.2.2.2.2.2.2.2.2.2.2.2)
def aa.af(x:aa):(List a00):=x.2.2.2.2.2.2.2.2.2.2.2.2.2.1
def aa.ck(x:aa)(v:(List a00)):aa:=(x.1,x.2.1,x.2.2.1,x.2.2.2.1,x.2.2.2.2.1,x.2.2.2.2.2.1,x.2.2.2.2.2.2.1,x.2.2.2.2.2.2.2.1,x.2.2.2.2.2.2.2.2.1,x.2.2.2.2.2.2.2.2.2.1,x.2.2.2.2.2.2.2.2.2.2.1,x.2.2.2.2.2.2.2.2.2.2.2.1,x.2.2.2.2.2.2.2.2.2.2.2.2.1,v,x.2.2.2.2.2.2.2.2.2.2.2.2.2.2)
def aa.cu(x:aa):(List eH):=x.2.2.2.2.2.2.2.2.2.2.2.2.2.2
def aa.xx(x:aa)(v:(List eH)):aa:=(x.1,x.2.1,x.2.2.1,x.2.2.2.1,x.2.2.2.2.1,x.2.2.2.2.2.1,x.2.2.2.2.2.2.1,x.2.2.2.2.2.2.2.1,x.2.2.2.2.2.2.2.2.1,x.2.2.2.2.2.2.2.2.2.1,x.2.2.2.2.2.2.2.2.2.2.1,x.2.2.2.2.2.2.2.2.2.2.2.1,x.2.2.2.2.2.2.2.2.2.2.2.2.1,x.2.2.2.2.2.2.2.2.2.2.2.2.2.1,v)
def aa.bw(x:aa)(av:Int:=x.1)(kS:Int:=x.2.1)(bM:Int:=x.2.2.1)(a0a:Int:=x.2.2.2.1)(dh:(List aQ):=x.2.2.2.2.1)(dB:(List Int):=x.2.2.2.2.2.1)(bA:Int:=x.2.2.2.2.2.2.1)(count:Int:=x.2.2.2.2.2.2.2.1)(guard:Tm:=x.2.2.2.2.2.2.2.2.1)(mm:Tm:=x.2.2.2.2.2.2.2.2.2.1)(pH:Int:=x.2.2.2.2.2.2.2.2.2.2.1)(aW:(List bN):=x.2.2.2.2.2.2.2.2.2.2.2.1)(u4:(List Sa):=x.2.2.2.2.2.2.2.2.2.2.2.2.1)(af:(List a00):=x.2.2.2.2.2.2.2.2.2.2.2.2.2.1)(cu:(List eH):=x.2.2.2.2.2.2.2.2.2.2.2.2.2.2):aa:=(av,kS,bM,a0a,dh,dB,bA,count,guard,mm,pH,aW,u4,af,cu)
def aa.az(av:Int:=0)(kS:Int:=0)(bM:Int:=0)(a0a:Int:=0)(dh:(List aQ):=[])(dB:(List Int):=[])(bA:Int:=0)(count:Int:=0)(guard:Tm:=(0,0,TL.nil))(mm:Tm:=(0,0,TL.nil))(pH:Int:=0)(aW:(List bN):=[])(u4:(List Sa):=[])(af:(List a00):=[])(cu:(List eH):=[]):aa:=(av,kS,bM,a0a,dh,dB,bA,count,guard,mm,pH,aW,u4,af,cu)
abbrev aX:DT:=(.ak dI (.ak dI TT))
abbrev aj:=aX.den
def aj.cq(x:aj):Int:=x.1
def aj.D0(x:aj)(v:Int):aj:=(v,x.2.1,x.2.2)
def aj.to(x:aj):Int:=x.2.1
def aj.Wi(x:aj)(v:Int):aj:=(x.1,v,x.2.2)
def aj.body(x:aj):Tm:=x.2.2
def aj.CZ(x:aj)(v:Tm):aj:=(x.1,x.2.1,v)
def aj.bw(x:aj)(cq:Int:=x.1)(to:Int:=x.2.1)(body:Tm:=x.2.2):aj:=(cq,to,body)
def aj.az(cq:Int:=0)(to:Int:=0)(body:Tm:=(0,0,TL.nil)):aj:=(cq,to,body)
abbrev cK:DT:=(.ak a0j (.ak a0j (.ak dI (.ak dI dI))))
abbrev a05:=cK.den
def a05.bZ(x:a05):Address:=x.1
def a05.target(x:a05):Address:=x.2.1
def a05.aR(x:a05):Int:=x.2.2.1
def a05.aK(x:a05):Int:=x.2.2.2.1
def a05.dz(x:a05)(v:Int):a05:=(x.1,x.2.1,x.2.2.1,v,x.2.2.2.2)
def a05.aO(x:a05):Int:=x.2.2.2.2
def a05.dA(x:a05)(v:Int):a05:=(x.1,x.2.1,x.2.2.1,x.2.2.2.1,v)
def a05.bw(x:a05)(bZ:Address:=x.1)(target:Address:=x.2.1)(aR:Int:=x.2.2.1)(aK:Int:=x.2.2.2.1)(aO:Int:=x.2.2.2.2):a05:=(bZ,target,aR,aK,aO)
def a05.az(bZ:Address:=Address.az)(target:Address:=Address.az)(aR:Int:=0)(aK:Int:=0)(aO:Int:=0):a05:=(bZ,target,aR,aK,aO)
abbrev a2H:DT:=(.ak cK dI)
abbrev Clear:=a2H.den
def Clear.bf(x:Clear):a05:=x.1
def Clear.iD(x:Clear):Int:=x.2
def Clear.bw(x:Clear)(bf:a05:=x.1)(iD:Int:=x.2):Clear:=(bf,iD)
def Clear.az(bf:a05:=a05.az)(iD:Int:=0):Clear:=(bf,iD)
abbrev gP:DT:=(.ak dI (.ak a2H (.ak dI dI)))
abbrev aS:=gP.den
def aS.gB(x:aS):Int:=x.1
def aS.clear(x:aS):Clear:=x.2.1
def aS.dm(x:aS):Int:=x.2.2.1
def aS.dZ(x:aS):Int:=x.2.2.2
def aS.bw(x:aS)(gB:Int:=x.1)(clear:Clear:=x.2.1)(dm:Int:=x.2.2.1)(dZ:Int:=x.2.2.2):aS:=(gB,clear,dm,dZ)
def aS.az(gB:Int:=0)(clear:Clear:=Clear.az)(dm:Int:=0)(dZ:Int:=0):aS:=(gB,clear,dm,dZ)
abbrev cW:DT:=(.ak (.ak aq aq) (.ak (.a01 aX) (.ak .bS (.ak dI (.ak (.a01 gP) (.ak (.a01 gP) (.a01 gP)))))))
abbrev ai:=cW.den
def ai.bG(x:ai):(aa×aa):=x.1
def ai.uz(x:ai)(v:(aa×aa)):ai:=(v,x.2.1,x.2.2.1,x.2.2.2.1,x.2.2.2.2.1,x.2.2.2.2.2.1,x.2.2.2.2.2.2)
def ai.a06(x:ai):(List aj):=x.2.1
def ai.nS(x:ai)(v:(List aj)):ai:=(x.1,v,x.2.2.1,x.2.2.2.1,x.2.2.2.2.1,x.2.2.2.2.2.1,x.2.2.2.2.2.2)
def ai.seen(x:ai):TL:=x.2.2.1
def ai.TJ(x:ai)(v:TL):ai:=(x.1,x.2.1,v,x.2.2.2.1,x.2.2.2.2.1,x.2.2.2.2.2.1,x.2.2.2.2.2.2)
def ai.a3a(x:ai):Int:=x.2.2.2.1
def ai.xR(x:ai)(v:Int):ai:=(x.1,x.2.1,x.2.2.1,v,x.2.2.2.2.1,x.2.2.2.2.2.1,x.2.2.2.2.2.2)
def ai.sent(x:ai):(List aS):=x.2.2.2.2.1
def ai.xw(x:ai)(v:(List aS)):ai:=(x.1,x.2.1,x.2.2.1,x.2.2.2.1,v,x.2.2.2.2.2.1,x.2.2.2.2.2.2)
def ai.aN(x:ai):(List aS):=x.2.2.2.2.2.1
def ai.ct(x:ai):(List aS):=x.2.2.2.2.2.2
def ai.bw(x:ai)(bG:(aa×aa):=x.1)(a06:(List aj):=x.2.1)(seen:TL:=x.2.2.1)(a3a:Int:=x.2.2.2.1)(sent:(List aS):=x.2.2.2.2.1)(aN:(List aS):=x.2.2.2.2.2.1)(ct:(List aS):=x.2.2.2.2.2.2):ai:=(bG,a06,seen,a3a,sent,aN,ct)
def ai.az(bG:(aa×aa):=(aa.az,aa.az))(a06:(List aj):=[])(seen:TL:=TL.nil)(a3a:Int:=0)(sent:(List aS):=[])(aN:(List aS):=[])(ct:(List aS):=[]):ai:=(bG,a06,seen,a3a,sent,aN,ct)
abbrev sQ:DT:=(.ak dI (.ak aX (.ak a2H dI)))
abbrev cL:=sQ.den
def cL.kind(x:cL):Int:=x.1
def cL.fm(x:cL):aj:=x.2.1
def cL.clear(x:cL):Clear:=x.2.2.1
def cL.a3K(x:cL):Int:=x.2.2.2
def cL.bw(x:cL)(kind:Int:=x.1)(fm:aj:=x.2.1)(clear:Clear:=x.2.2.1)(a3K:Int:=x.2.2.2):cL:=(kind,fm,clear,a3K)
def cL.az(kind:Int:=0)(fm:aj:=aj.az)(clear:Clear:=Clear.az)(a3K:Int:=0):cL:=(kind,fm,clear,a3K)
abbrev vL:DT:=(.ak dI (.ak dI (.ak dI (.ak aX sQ))))
abbrev a0g:=vL.den
def a0g.kind(x:a0g):Int:=x.1
def a0g.place(x:a0g):Int:=x.2.1
def a0g.gB(x:a0g):Int:=x.2.2.1
def a0g.fm(x:a0g):aj:=x.2.2.2.1
def a0g.nD(x:a0g):cL:=x.2.2.2.2
def a0g.bw(x:a0g)(kind:Int:=x.1)(place:Int:=x.2.1)(gB:Int:=x.2.2.1)(fm:aj:=x.2.2.2.1)(nD:cL:=x.2.2.2.2):a0g:=(kind,place,gB,fm,nD)
def a0g.az(kind:Int:=0)(place:Int:=0)(gB:Int:=0)(fm:aj:=aj.az)(nD:cL:=cL.az):a0g:=(kind,place,gB,fm,nD)
abbrev BX:DT:=(.ak (.a01 (.int .u8)) dI)
abbrev a2R:=BX.den
def a2R.a01(x:a2R):(List Int):=x.1
def a2R.at_(x:a2R):Int:=x.2
def a2R.oe(x:a2R)(v:Int):a2R:=(x.1,v)
def a2R.bw(x:a2R)(a01:(List Int):=x.1)(at_:Int:=x.2):a2R:=(a01,at_)
def a2R.az(a01:(List Int):=[])(at_:Int:=0):a2R:=(a01,at_)
abbrev Ip:DT:=(.ak (.a01 aX) (.ak (.a01 a2H) (.ak (.a01 a2H) (.ak (.a01 gP) (.ak (.a01 gP) (.a01 gP))))))
abbrev fa:=Ip.den
def fa.bK(x:fa):(List aj):=x.1
def fa.ET(x:fa)(v:(List aj)):fa:=(v,x.2.1,x.2.2.1,x.2.2.2.1,x.2.2.2.2.1,x.2.2.2.2.2)
def fa.lU(x:fa):(List Clear):=x.2.1
def fa.outside(x:fa):(List Clear):=x.2.2.1
def fa.sent(x:fa):(List aS):=x.2.2.2.1
def fa.xw(x:fa)(v:(List aS)):fa:=(x.1,x.2.1,x.2.2.1,v,x.2.2.2.2.1,x.2.2.2.2.2)
def fa.aN(x:fa):(List aS):=x.2.2.2.2.1
def fa.ct(x:fa):(List aS):=x.2.2.2.2.2
def fa.bw(x:fa)(bK:(List aj):=x.1)(lU:(List Clear):=x.2.1)(outside:(List Clear):=x.2.2.1)(sent:(List aS):=x.2.2.2.1)(aN:(List aS):=x.2.2.2.2.1)(ct:(List aS):=x.2.2.2.2.2):fa:=(bK,lU,outside,sent,aN,ct)
def fa.az(bK:(List aj):=[])(lU:(List Clear):=[])(outside:(List Clear):=[])(sent:(List aS):=[])(aN:(List aS):=[])(ct:(List aS):=[]):fa:=(bK,lU,outside,sent,aN,ct)
abbrev a3o:DT:=(.ak dI (.ak dI (.ak dI (.ak .bool (.ak .bool (.ak dI .bS))))))
abbrev bW:=a3o.den
def bW.kind(x:bW):Int:=x.1
def bW.eV(x:bW):Int:=x.2.1
def bW.ia(x:bW):Int:=x.2.2.1
def bW.bY(x:bW):Bool:=x.2.2.2.1
def bW.aV(x:bW):Bool:=x.2.2.2.2.1
def bW.iD(x:bW):Int:=x.2.2.2.2.2.1
def bW.parts(x:bW):TL:=x.2.2.2.2.2.2
def bW.HZ(x:bW)(v:TL):bW:=(x.1,x.2.1,x.2.2.1,x.2.2.2.1,x.2.2.2.2.1,x.2.2.2.2.2.1,v)
def bW.bw(x:bW)(kind:Int:=x.1)(eV:Int:=x.2.1)(ia:Int:=x.2.2.1)(bY:Bool:=x.2.2.2.1)(aV:Bool:=x.2.2.2.2.1)(iD:Int:=x.2.2.2.2.2.1)(parts:TL:=x.2.2.2.2.2.2):bW:=(kind,eV,ia,bY,aV,iD,parts)
def bW.az(kind:Int:=0)(eV:Int:=0)(ia:Int:=0)(bY:Bool:=false)(aV:Bool:=false)(iD:Int:=0)(parts:TL:=TL.nil):bW:=(kind,eV,ia,bY,aV,iD,parts)
abbrev BY:DT:=(.ak a0j .unit)
abbrev jZ:=BY.den
def jZ.kD(x:jZ):Address:=x.1
def jZ.w_u(x:jZ)(v:Unit):jZ:=(x.1,v)
def jZ.u(x:jZ):Unit:=x.2
def jZ.az(kD:Address:=Address.az):jZ:=(kD,())
abbrev qa:DT:=(.ak .bS (.ak dI .bool))
abbrev ag:=qa.den
def ag.l(x:ag):TL:=x.1
def ag.at_(x:ag):Int:=x.2.1
def ag.oe(x:ag)(v:Int):ag:=(x.1,v,x.2.2)
def ag.wR(x:ag):Bool:=x.2.2
def ag.jV(x:ag)(v:Bool):ag:=(x.1,x.2.1,v)
def ag.bw(x:ag)(l:TL:=x.1)(at_:Int:=x.2.1)(wR:Bool:=x.2.2):ag:=(l,at_,wR)
def ag.az(l:TL:=TL.nil)(at_:Int:=0)(wR:Bool:=false):ag:=(l,at_,wR)
abbrev mA:DT:=(.ak dI (.ak (.int .u64) (.int .u64)))
abbrev sR:DT:=(.ak mA mA)
abbrev gu:=sR.den
def gu.lo(x:gu):Address:=x.1
def gu.hi(x:gu):Address:=x.2
def gu.TF(x:gu)(v:Address):gu:=(x.1,v)
def gu.bw(x:gu)(lo:Address:=x.1)(hi:Address:=x.2):gu:=(lo,hi)
def gu.az(lo:Address:=Address.az)(hi:Address:=Address.az):gu:=(lo,hi)
abbrev fV:DT:=(.ak dI (.ak (.a01 dI) (.ak dI (.ak TT (.ak TT (.ak .bS .bS))))))
abbrev aT:=fV.den
def aT.dZ(x:aT):Int:=x.1
def aT.a2q(x:aT):(List Int):=x.2.1
def aT.Jc(x:aT)(v:(List Int)):aT:=(x.1,v,x.2.2.1,x.2.2.2.1,x.2.2.2.2.1,x.2.2.2.2.2.1,x.2.2.2.2.2.2)
def aT.kf(x:aT):Int:=x.2.2.1
def aT.a3g(x:aT):Tm:=x.2.2.2.1
def aT.dx(x:aT):Tm:=x.2.2.2.2.1
def aT.nX(x:aT):TL:=x.2.2.2.2.2.1
def aT.parts(x:aT):TL:=x.2.2.2.2.2.2
def aT.HZ(x:aT)(v:TL):aT:=(x.1,x.2.1,x.2.2.1,x.2.2.2.1,x.2.2.2.2.1,x.2.2.2.2.2.1,v)
def aT.bw(x:aT)(dZ:Int:=x.1)(a2q:(List Int):=x.2.1)(kf:Int:=x.2.2.1)(a3g:Tm:=x.2.2.2.1)(dx:Tm:=x.2.2.2.2.1)(nX:TL:=x.2.2.2.2.2.1)(parts:TL:=x.2.2.2.2.2.2):aT:=(dZ,a2q,kf,a3g,dx,nX,parts)
def aT.az(dZ:Int:=0)(a2q:(List Int):=[])(kf:Int:=0)(a3g:Tm:=(0,0,TL.nil))(dx:Tm:=(0,0,TL.nil))(nX:TL:=TL.nil)(parts:TL:=TL.nil):aT:=(dZ,a2q,kf,a3g,dx,nX,parts)
abbrev om:DT:=(.ak aq .bS)
abbrev fk:=om.den
def fk.g(x:fk):aa:=x.1
def fk.body(x:fk):TL:=x.2
def fk.CZ(x:fk)(v:TL):fk:=(x.1,v)
def fk.bw(x:fk)(g:aa:=x.1)(body:TL:=x.2):fk:=(g,body)
def fk.az(g:aa:=aa.az)(body:TL:=TL.nil):fk:=(g,body)
abbrev Fk:DT:=(.ak dI (.ak .bS (.ak dI .bool)))
abbrev gh:=Fk.den
def gh.kf(x:gh):Int:=x.1
def gh.qY(x:gh):TL:=x.2.1
def gh.a0a(x:gh):Int:=x.2.2.1
def gh.Am(x:gh)(v:Int):gh:=(x.1,x.2.1,v,x.2.2.2)
def gh.eE(x:gh):Bool:=x.2.2.2
def gh.bw(x:gh)(kf:Int:=x.1)(qY:TL:=x.2.1)(a0a:Int:=x.2.2.1)(eE:Bool:=x.2.2.2):gh:=(kf,qY,a0a,eE)
def gh.az(kf:Int:=0)(qY:TL:=TL.nil)(a0a:Int:=0)(eE:Bool:=false):gh:=(kf,qY,a0a,eE)
abbrev K9:DT:=(.ak sq .unit)
abbrev D4:=K9.den
def D4.sa(x:D4):Sa:=x.1
def D4.An(x:D4)(v:Sa):D4:=(v,())
def D4.w_u(x:D4)(v:Unit):D4:=(x.1,v)
def D4.u(x:D4):Unit:=x.2
def D4.az(sa:Sa:=Sa.az):D4:=(sa,())
abbrev OV:DT:=(.ak .bS (.ak .bS .bS))
abbrev a29:=OV.den
def a29.k(x:a29):TL:=x.1
def a29.w_k(x:a29)(v:TL):a29:=(v,x.2.1,x.2.2)
def a29.fresh(x:a29):TL:=x.2.1
def a29.a3n(x:a29)(v:TL):a29:=(x.1,v,x.2.2)
def a29.a0b(x:a29):TL:=x.2.2
def a29.wD(x:a29)(v:TL):a29:=(x.1,x.2.1,v)
def a29.bw(x:a29)(k:TL:=x.1)(fresh:TL:=x.2.1)(a0b:TL:=x.2.2):a29:=(k,fresh,a0b)
def a29.az(k:TL:=TL.nil)(fresh:TL:=TL.nil)(a0b:TL:=TL.nil):a29:=(k,fresh,a0b)
def nu(L:Nat)(bq:Nat->Tm->Tm->Option Int)(x0:Tm)(x1:Tm):Option Int:=
 bif aF x0.op x1.op then some (-1)else
 bif aF x1.op x0.op then some 1 else
 bif aF x0.val x1.val then some (-1)else
 bif aF x1.val x0.val then some 1 else
 bif aF (TL.len x0.args:Int) (TL.len x1.args:Int)then some (-1)else
 bif aF (TL.len x1.args:Int) (TL.len x0.args:Int)then some 1 else
 (iter (Y:=(Unit⊕Int)) 179010 (fun r3:Int=>
   bif aF r3 (TL.len x0.args:Int)then
    aJ (!(aF r3 0))<|
    aJ (Nat.blt r3.toNat x0.args.len)<|
    aJ (!(aF r3 0))<|
    aJ (Nat.blt r3.toNat x1.args.len)<|
    (bq L (TL.get x0.args r3.toNat) (TL.get x1.args r3.toNat)).bind fun y4=>
    bif !(aH y4 0)then some (.inr (.inr y4))else
    some (.inl (add r3 1))
   else
   some (.inr (.inl ()))) L 0).bind fun y3=>
 match y3 with
 | .inl y4=>
   some 0
 | .inr y4=>
   some y4
def a2o(L:Nat):Nat->(Tm->Tm->Option Int)
 |0=>fun _ _=>none
 |n+1=>(nu L (fun _=>a2o L n))
def bq(L:Nat)(x0:Tm)(x1:Tm):Option Int:=a2o L (Tm.dep x0) x0 x1
def TL.nds:TL->Nat
 | .nil=>0
 | .cons _ _ a r=>a.nds+1+r.nds
def TL.cmp:TL->TL->Int
 | .cons o v a r,.cons o' v' a' r'=>
   bif aF o o' then-1 else bif aF o' o then 1 else bif aF v v' then-1 else bif aF v' v then 1 else bif Nat.blt a.len a'.len then-1 else bif Nat.blt a'.len a.len then 1 else
   bif aH (a.cmp a') 0 then r.cmp r' else a.cmp a'
 |_,_=>0
def nW(t u:Tm):Int:=TL.cmp (.cons t.1 t.2.1 t.2.2 .nil) (.cons u.1 u.2.1 u.2.2 .nil)
def gU(a b:Tm):Bool:=aF (nW a b) 0
def a3d(o v:Int)(a:TL):Bool:=
 bif aH o 1 then Nat.beq a.len 0 else
 bif aH o 2||aH o 9||aH o 10 then Nat.beq a.len 0&& !(aF v 0)else
 bif aH o 3 then aH v 0 else
 bif aH o 6 then !(aF v 0)else
 bif aH o 4 then Nat.beq a.len 1&&aH v 0 else
 bif aH o 8 then Nat.beq a.len 1&& !(aF v 0)else
 bif aH o 5 then Nat.beq a.len 2&&aH v 0&& !(gU (a.get 1) (a.get 0))else
 bif aH o 7 then Nat.beq a.len 2&&aH v 0 else false
def TL.AO:TL->Nat->Bool
 | .nil,_=>true
 | .cons o v a r,d=>Nat.ble d 60&&a3d o v a&&a.AO (d+1)&&r.AO d
def a2M(L:Nat)(x0:Tm):Option Bool:=some (Nat.ble (x0.2.2.nds+1) 600&&Nat.ble 1 60&&a3d x0.1 x0.2.1 x0.2.2&&x0.2.2.AO 2)
def gC(L:Nat)(x0:Tm)(x1:Tm):Option Int:=
 (bq L x0 x1).bind fun y3=>
 bif aF y3 0 then some (-1)else
 (bq L x1 x0).bind fun y4=>
 bif aF y4 0 then some 1 else
 some 0
def ug(L:Nat)(k:TL)(t:Tm):Option Int:=
 iter (Y:=Int) 128003 (fun r:(Int×Int)=>
  bif aF r.1 r.2 then
   aJ (!(aF (aY .i64 (yg .u64 (aY .u64 (add r.1 r.2)) 1)) 0))<|
   aJ (Nat.blt (Int.toNat (aY .i64 (yg .u64 (aY .u64 (add r.1 r.2)) 1))) k.len)<|
   (gC L (TL.get k (Int.toNat (aY .i64 (yg .u64 (aY .u64 (add r.1 r.2)) 1)))) t).bind fun y=>
   bif aF y 0 then some (.inl (add (aY .i64 (yg .u64 (aY .u64 (add r.1 r.2)) 1)) 1,r.2))else
   some (.inl (r.1,aY .i64 (yg .u64 (aY .u64 (add r.1 r.2)) 1)))
  else
  some (.inr r.1)) L (0,(TL.len k:Int))
def oq{α:Type}(L:Nat)(k:TL)(t:Tm)(i:Int)(f:Int->Option α):Option α:=
 aJ (!(aF i 0))<|
 aJ (Nat.blt i.toNat k.len)<|
 Option.bind (gC L (TL.get k i.toNat) t) f
def fD(L:Nat)(x0:TL)(x1:Tm):Option Bool:=
 (ug L x0 x1).bind fun y3=>
 bif aF y3 (TL.len x0:Int)then oq L x0 x1 y3 fun y4=>some (aH y4 0)else
 some false
def gQ(L:Nat)(can:Tm->Option Bool)(l:TL):Option Bool:=
 (iter (Y:=(Unit⊕Int)) 82002 (fun r4:Int=>
   bif aF r4 (TL.len l:Int)then
    aJ (!(aF r4 0))<|
    aJ (Nat.blt r4.toNat l.len)<|
    (can (TL.get l r4.toNat)).bind fun y5=>
    bif !y5 then some (.inr (.inr r4))else
    some (.inl (add r4 1))
   else
   some (.inr (.inl ()))) L 0).bind fun y4=>
 match y4 with
 | .inl _=>some true
 | .inr y5=>some (!(!(aF y5 0)))
def jl(L:Nat)(bF:Nat->TL->Tm->Option Bool)(dV:Nat->TL->Tm->Tm->Option Bool)(x0:TL)(x1:Tm):Option Bool:=
 (fD L x0 x1).bind fun y3=>
 bif y3 then some true else
 bif aH x1.op 1 then some true else
 bif aH x1.op 10 then some true else
 bif aH x1.op 2 then
  bif !(aH x1.op 2)then some false else
  some (aH (quo x1.val 1048576) 2)
 else
 bif aH x1.op 9 then some (aH x1.val 2)else
 bif aH x1.op 3 then gQ L (bF L x0) x1.args else
 bif aH x1.op 6 then gQ L (bF L x0) x1.args else
 bif aH x1.op 4 then gQ L (bF L x0) x1.args else
 bif aH x1.op 7 then
  bif aH (TL.len x1.args:Int) 2 then gQ L (bF L x0) x1.args else some false
 else
 bif aH x1.op 8 then
  bif aH (TL.len x1.args:Int) 1 then
   (bF L x0 (T.eE x1.val)).bind fun y4=>
   bif y4 then gQ L (bF L x0) x1.args else some false
  else some false
 else
 bif aH x1.op 5 then
  bif aH (TL.len x1.args:Int) 2 then
   aJ (Nat.blt 0 x1.args.len)<|
   aJ (Nat.blt 1 x1.args.len)<|
   (dV L x0 (TL.get x1.args 0) (TL.get x1.args 1)).bind fun y4=>
   some y4
  else some false
 else
 some false
def gR(L:Nat)(bF:Nat->TL->Tm->Option Bool)(x0:TL)(x1:Tm)(x2:Tm):Option Bool:=
 (bF L x0 x1).bind fun y4=>
 (bF L x0 x2).bind fun y5=>
 bif y4 then
  bif y5 then some true else
  (fD L x0 (T.A9 x2)).bind fun y6=>
  bif y6 then some true else
  bif y5 then
   (fD L x0 (T.A9 x1)).bind fun y7=>
   some y7
  else
  some false
 else
 bif y5 then
  (fD L x0 (T.A9 x1)).bind fun y6=>
  some y6
 else
 some false
def bP(L:Nat):Nat->(TL->Tm->Option Bool)×(TL->Tm->Tm->Option Bool)
 |0=>(fun _ _=>none,fun _ _ _=>none)
 |n+1=>(jl L (fun _=>(bP L n).1) (fun _=>(bP L n).2),gR L (fun _=>(bP L n).1))
def bF(L:Nat)(x0:TL)(x1:Tm):Option Bool:=(bP L (2*Tm.dep x1+2)).1 x0 x1
def dV(L:Nat)(x0:TL)(x1:Tm)(x2:Tm):Option Bool:=(bP L (2*Tm.dep x1+2*Tm.dep x2+2)).2 x0 x1 x2
def TL.ls:TL->List Tm
 | .nil=>[]
 | .cons o v a r=>(o,v,a)::r.ls
def TL.zV:TL->Bool
 | .nil=>true
 | .cons _ _ a r=>Nat.ble a.len 5000&&(a.zV&&r.zV)
def wq(l:TL):Option TL:=bif l.zV then some (TL.of (l.ls.mergeSort fun a b=> !(gU b a)))else none
def ja(L:Nat)(x0:TL)(x1:Int)(x2:TL):Option TL:=
 bif !(aF x1 0)&&Nat.ble x1.toNat x0.len&&Nat.beq x2.len 1&&room (x0.len+1) 40 then some (TL.app (TL.take x1.toNat x0) (TL.app x2 (TL.drop x1.toNat x0)))else none
def rA(L:Nat)(x0:TL)(x1:Tm):Option Bool:=
 (wq x0).bind fun y3=>
 (bF L y3 x1).bind fun y4=>
 some y4
def a3A{α:Type}(l:TL)(t:Tm)(f:TL->α):Option α:=
 aJ (room (TL.len (TL.app l (TL.of [(0,0,TL.nil)]))) 40)<|
 aJ (Nat.blt l.len (TL.len (TL.app l (TL.of [(0,0,TL.nil)]))))<|
 some (f (TL.set (TL.app l (TL.of [(0,0,TL.nil)])) l.len t))
def qc(L:Nat)(m:Bool)(i:Int)(w:a29)(t:Tm)(p:Int)(b:Bool):Option ((Bool×Int×a29)⊕(Bool×a29)):=
 bif b then
  (ja L w.k p (TL.of [t])).bind fun k=>
  bif b then a3A w.fresh t fun l=>.inl (true,add i 1,(k,l,a29.a0b w))else
  some (.inl (m,add i 1,a29.w_k w k))
 else
 bif b then a3A w.fresh t fun l=>.inl (true,add i 1,a29.a3n w l)else
 some (.inl (m,add i 1,w))
def kN(L:Nat)(l:TL)(w:a29):Option (Bool×a29):=
 iter (Y:=(Bool×a29)) 85003 (fun r:(Bool×Int×a29)=>
  bif aF r.2.1 (TL.len l:Int)then
   aJ (!(aF r.2.1 0))<|
   aJ (Nat.blt r.2.1.toNat l.len)<|
   (ug L r.2.2.k (TL.get l r.2.1.toNat)).bind fun p=>
   bif aF p (TL.len r.2.2.k:Int)then oq L r.2.2.k (TL.get l r.2.1.toNat) p fun y=>qc L r.1 r.2.1 r.2.2 (TL.get l r.2.1.toNat) p (!(aH y 0))else
   qc L r.1 r.2.1 r.2.2 (TL.get l r.2.1.toNat) p true
  else
  some (.inr (r.1,r.2.2))) L (false,0,w)
def iG(l:TL):TL:=TL.drop 1 (TL.take l.len l)
def rB(L:Nat)(w:a29):Option a29:=
 iter (Y:=a29) 86001 (fun r6:a29=>
  bif aF 0 (TL.len r6.fresh:Int)then
   aJ (Nat.blt 0 r6.fresh.len)<|
   aJ ((Nat.ble 1 r6.fresh.len)&&(Nat.ble r6.fresh.len r6.fresh.len))<|
   bif aH (Tm.op (TL.get r6.fresh 0)) 3 then
    (kN L (Tm.args (TL.get r6.fresh 0)) (a29.a3n r6 (iG r6.fresh))).bind fun y7=>some (.inl y7.2)
   else
   bif aH (Tm.op (TL.get r6.fresh 0)) 8 then
    (kN L (Tm.args (TL.get r6.fresh 0)) (a29.a3n r6 (iG r6.fresh))).bind fun y7=>some (.inl y7.2)
   else
   bif aH (Tm.op (TL.get r6.fresh 0)) 7 then
    bif aH (TL.len (Tm.args (TL.get r6.fresh 0)):Int) 2 then
     a3A r6.a0b (TL.get r6.fresh 0) fun l=>.inl (r6.k,iG r6.fresh,l)
    else
    some (.inl (a29.a3n r6 (iG r6.fresh)))
   else
   some (.inl (a29.a3n r6 (iG r6.fresh)))
  else
  some (.inr r6)) L w
def sU(L:Nat)(s:TL)(w:a29):Option (Bool×TL×a29):=
 iter (Y:=(Bool×TL×a29)) 86012 (fun r7:(Bool×TL×Int×a29)=>
  bif aF r7.2.2.1 (TL.len s:Int)then
   aJ (!(aF r7.2.2.1 0))<|
   aJ (Nat.blt r7.2.2.1.toNat s.len)<|
   aJ (Nat.blt 0 (TL.len (Tm.args (TL.get s r7.2.2.1.toNat))))<|
   (bF L r7.2.2.2.k (TL.get (Tm.args (TL.get s r7.2.2.1.toNat)) 0)).bind fun y8=>
   bif !y8 then
    aJ (room (TL.len (TL.app r7.2.1 (TL.of [TL.get s r7.2.2.1.toNat]))) 40)<|
    some (.inl (r7.1,TL.app r7.2.1 (TL.of [TL.get s r7.2.2.1.toNat]),add r7.2.2.1 1,r7.2.2.2))
   else
   aJ ((Nat.ble 1 (TL.len (Tm.args (TL.get s r7.2.2.1.toNat))))&&(Nat.ble (TL.len (Tm.args (TL.get s r7.2.2.1.toNat))) (TL.len (Tm.args (TL.get s r7.2.2.1.toNat)))))<|
   (kN L (iG (Tm.args (TL.get s r7.2.2.1.toNat))) r7.2.2.2).bind fun y9=>
   bif y9.1 then some (.inl (true,r7.2.1,add r7.2.2.1 1,y9.2))else
   some (.inl (r7.1,r7.2.1,add r7.2.2.1 1,y9.2))
  else
  some (.inr (r7.1,r7.2.1,r7.2.2.2))) L (false,TL.nil,0,w)
def oo(L:Nat)(x0:TL):Option (TL×Int):=
 bif aF 400 (TL.len x0:Int)then some (TL.nil,10)else
 (iter (Y:=(Unit⊕(TL×Int))) 55004 (fun r2:Int=>
   bif aF r2 (TL.len x0:Int)then
    aJ (!(aF r2 0))<|
    aJ (Nat.blt r2.toNat x0.len)<|
    (a2M L (TL.get x0 r2.toNat)).bind fun y3=>
    bif !y3 then some (.inr (.inr (TL.nil,26)))else
    some (.inl (add r2 1))
   else
   some (.inr (.inl ()))) L 0).bind fun y2=>
 match y2 with
 | .inl _=>
   (kN L x0 (TL.nil,TL.nil,TL.nil)).bind fun y4=>
   (iter (Y:=a29) 55011 (fun r5:a29=>
     (rB L r5).bind fun y6=>
     (sU L y6.a0b y6).bind fun y7=>
     bif y7.1 then some (.inl (a29.wD y7.2.2 y7.2.1))else
     some (.inr (a29.wD y7.2.2 y7.2.1))) L y4.2).bind fun y5=>
   some (y5.k,0)
 | .inr y3=>
   some y3
def qb(L:Nat)(x0:TL)(x1:Tm):Option Bool:=
 (rA L x0 x1).bind fun y6=>
 bif y6 then some true else
 (oo L x0).bind fun y7=>
 bif aH y7.2 0 then
  (bF L y7.1 x1).bind fun y8=>
  some y8
 else
 some false
def rz(L:Nat)(x0:TL)(x1:Tm):Option Bool:=
 bif aF 400 (TL.len x0:Int)then some false else
 (a2M L x1).bind fun y3=>
 bif !y3 then some false else
 (iter (Y:=(Unit⊕Int)) 82002 (fun r4:Int=>
   bif aF r4 (TL.len x0:Int)then
    aJ (!(aF r4 0))<|
    aJ (Nat.blt r4.toNat x0.len)<|
    (a2M L (TL.get x0 r4.toNat)).bind fun y5=>
    bif !y5 then some (.inr (.inr r4))else
    some (.inl (add r4 1))
   else
   some (.inr (.inl ()))) L 0).bind fun y4=>
 match y4 with
 | .inl _=>qb L x0 x1
 | .inr y5=>bif !(aF y5 0)then some false else qb L x0 x1
def iy(L:Nat)(x0:Int):Option Bool:=
 bif aH x0 1 then some true else
 bif aH x0 2 then some true else
 bif aH x0 3 then some true else
 bif aH x0 4 then some true else
 some (aH x0 5)
def gA(x0:ai)(x1:a0g):Option Int:=
 bif !(aF (x0.a06.length:Int) 60)then
  bif aH x1.kind 3 then some 25 else
  bif aH x1.kind 6 then some 25 else
  some 0
 else
 some 0
def gz(L:Nat)(x0:ai)(x1:a0g):Option Int:=
 bif aH x1.kind 6 then
  (rz L x0.seen x1.fm.body).bind fun y4=>
  bif !y4 then some 26 else gA x0 x1
 else
 gA x0 x1
def gy(L:Nat)(x0:ai)(x1:a0g):Option Int:=
 bif aH x1.kind 7 then
  bif aH x1.nD.kind 1 then some 21 else
  bif aH x1.nD.kind 4 then some 21 else
  gz L x0 x1
 else
 gz L x0 x1
def gx(L:Nat)(x0:ai)(x1:a0g):Option Int:=
 (iy L x1.kind).bind fun y3=>
 bif y3 then
  bif aF x1.place 0 then some 8 else
  bif !(aF x1.place (x0.a06.length:Int))then some 8 else
  gy L x0 x1
 else
 gy L x0 x1
def fF(L:Nat)(x0:ai)(x1:a0g):Option Int:=
 bif aH x1.kind 9 then
  bif aF x1.place 0 then some 5 else gx L x0 x1
 else
 gx L x0 x1
def a2B(L:Nat)(x0:ai)(x1:a0g):Option Int:=
 bif aF x1.kind 1 then some 5 else
 bif aF 9 x1.kind then some 5 else
 bif aH x1.kind 7 then
  bif !(aH x1.gB 0)then
   bif !(aH x1.gB 1)then some 5 else fF L x0 x1
  else
  fF L x0 x1
 else
 fF L x0 x1
def kk(L:Nat)(x0:ai):Option ai:=
 some x0
def bz(L:Nat)(x0:aa)(x1:Int):Option Int:=
 (iter (Y:=(Unit⊕Int)) 106002 (fun r3:Int=>
   bif aF r3 (x0.u4.length:Int)then
    aJ (!(aF r3 0))<|
    aJ (Nat.blt r3.toNat (x0.u4.length))<|
    bif aH (Sa.own (x0.u4.getD r3.toNat Sa.az)) x1 then some (.inr (.inr r3))else
    some (.inl (add r3 1))
   else
   some (.inr (.inl ()))) L 0).bind fun y3=>
 match y3 with
 | .inl y4=>
   some (-1)
 | .inr y4=>
   some y4
def mS(L:Nat)(x0:Sa):Option (Int×Int):=
 bif x0.aV then some (x0.own,x0.fg)else
 some (x0.fg,x0.own)
def cJ(L:Nat)(x0:bW):Option (Int×Int×Int×Int×Int):=
 bif x0.bY then
  bif x0.aV then some (x0.kind,x0.eV,x0.ia,3,x0.iD)else
  some (x0.kind,x0.eV,x0.ia,1,x0.iD)
 else
 bif x0.aV then some (x0.kind,x0.eV,x0.ia,2,x0.iD)else
 some (x0.kind,x0.eV,x0.ia,0,x0.iD)
def dL(L:Nat)(x0:aa)(x1:Int)(x2:Int)(x3:TL)(x4:a04):Option (aa×(List aj)):=
 (bz L x0 x1).bind fun y6=>
 bif aF y6 0 then some (x0,[])else
 aJ (!(aF y6 0))<|
 aJ (Nat.blt y6.toNat (x0.u4.length))<|
 (mS L (x0.u4.getD y6.toNat Sa.az)).bind fun y7=>
 (cJ L (bW.az (kind:=x2) (eV:=y7.1) (ia:=y7.2) (aV:=(Sa.aV (x0.u4.getD y6.toNat Sa.az))) (iD:=(Sa.eZ (x0.u4.getD y6.toNat Sa.az))) (parts:=x3))).bind fun y8=>
 (cJ L (bW.az (kind:=x2) (eV:=y7.1) (ia:=y7.2) (aV:=(Sa.aV (x0.u4.getD y6.toNat Sa.az))) (iD:=(Sa.eZ (x0.u4.getD y6.toNat Sa.az))) (parts:=x3))).bind fun y9=>
 bif aH x4.to 0 then
  some (aa.bI x0 (List.set x0.u4 y6.toNat (Sa.bw (x0.u4.getD y6.toNat Sa.az) (eZ:=add (Sa.eZ (x0.u4.getD y6.toNat Sa.az)) 1) (pending:=a04.bw x4 (iD:=(Sa.eZ (x0.u4.getD y6.toNat Sa.az))) (body:=T.a01 (TL.of [T.aG y9.1,T.aG y9.2.1,T.aG y9.2.2.1,T.aG y9.2.2.2.1,T.aG y9.2.2.2.2,T.gq (Sa.out (x0.u4.getD y6.toNat Sa.az)) (T.a01 (TL.of [T.aG y8.1,T.aG y8.2.1,T.aG y8.2.2.1,T.aG y8.2.2.2.1,T.aG y8.2.2.2.2,T.a01 x3]))])) (to:=(Sa.a0a (x0.u4.getD y6.toNat Sa.az))) (sent:=1) (sx:=add x0.bA 2)))),[((Sa.bM (x0.u4.getD y6.toNat Sa.az)),(Sa.a0a (x0.u4.getD y6.toNat Sa.az)),T.a01 (TL.of [T.aG y9.1,T.aG y9.2.1,T.aG y9.2.2.1,T.aG y9.2.2.2.1,T.aG y9.2.2.2.2,T.gq (Sa.out (x0.u4.getD y6.toNat Sa.az)) (T.a01 (TL.of [T.aG y8.1,T.aG y8.2.1,T.aG y8.2.2.1,T.aG y8.2.2.2.1,T.aG y8.2.2.2.2,T.a01 x3]))]))])
 else
 some (aa.bI x0 (List.set x0.u4 y6.toNat (Sa.bw (x0.u4.getD y6.toNat Sa.az) (eZ:=add (Sa.eZ (x0.u4.getD y6.toNat Sa.az)) 1) (pending:=a04.bw x4 (iD:=(Sa.eZ (x0.u4.getD y6.toNat Sa.az))) (body:=T.a01 (TL.of [T.aG y9.1,T.aG y9.2.1,T.aG y9.2.2.1,T.aG y9.2.2.2.1,T.aG y9.2.2.2.2,T.gq (Sa.out (x0.u4.getD y6.toNat Sa.az)) (T.a01 (TL.of [T.aG y8.1,T.aG y8.2.1,T.aG y8.2.2.1,T.aG y8.2.2.2.1,T.aG y8.2.2.2.2,T.a01 x3]))])) (sent:=1) (sx:=add x0.bA 2)))),[((Sa.bM (x0.u4.getD y6.toNat Sa.az)),x4.to,T.a01 (TL.of [T.aG y9.1,T.aG y9.2.1,T.aG y9.2.2.1,T.aG y9.2.2.2.1,T.aG y9.2.2.2.2,T.gq (Sa.out (x0.u4.getD y6.toNat Sa.az)) (T.a01 (TL.of [T.aG y8.1,T.aG y8.2.1,T.aG y8.2.2.1,T.aG y8.2.2.2.1,T.aG y8.2.2.2.2,T.a01 x3]))]))])
def oC(L:Nat)(x0:aa)(x1:Sa):Option (aa×(List aj)):=
 (dL L (aa.dj x0 (add x0.count 1)) x1.own 37 (TL.of [T.a01 (TL.of [T.aG 17,T.name (add (mul x0.av 1048576) (add x0.count 1))])]) (a04.az (ax:=10) (to:=x1.Ao) (probe:=T.name (add (mul x0.av 1048576) (add x0.count 1))))).bind fun y3=>
 some y3
def a3r(L:Nat)(x0:aa)(x1:Sa):Option (aa×(List aj)):=
 (bz L x0 x1.own).bind fun y3=>
 aJ (!(aF y3 0))<|
 aJ (Nat.blt y3.toNat (x0.u4.length))<|
 (dL L (aa.bI x0 (List.set x0.u4 y3.toNat (Sa.D2 (x0.u4.getD y3.toNat Sa.az) false))) x1.own 37 (TL.of [T.a01 (TL.of [T.aG 16])]) (a04.az (ax:=9))).bind fun y4=>
 some y4
def lW(L:Nat)(x0:aa):Option (aa×(List aj)):=
 (iter (Y:=((List aj)×aa)) 70003 (fun r2:((List aj)×Int×aa)=>
   bif aF r2.2.1 (x0.u4.length:Int)then
    aJ (!(aF r2.2.1 0))<|
    aJ (Nat.blt r2.2.1.toNat (x0.u4.length))<|
    bif !(aH (Sa.state (x0.u4.getD r2.2.1.toNat Sa.az)) 3)then some (.inl (r2.1,add r2.2.1 1,r2.2.2))else
    bif !(aH (a04.ax (Sa.pending (x0.u4.getD r2.2.1.toNat Sa.az))) 0)then some (.inl (r2.1,add r2.2.1 1,r2.2.2))else
    bif !(!(aH (Sa.Ao (x0.u4.getD r2.2.1.toNat Sa.az)) 0))then
     bif !(Sa.zU (x0.u4.getD r2.2.1.toNat Sa.az))then some (.inl (r2.1,add r2.2.1 1,r2.2.2))else
     (a3r L r2.2.2 (x0.u4.getD r2.2.1.toNat Sa.az)).bind fun y3=>
     aJ (room ((r2.1++y3.2).length) 56)<|
     some (.inl (r2.1++y3.2,add r2.2.1 1,y3.1))
    else
    (oC L r2.2.2 (x0.u4.getD r2.2.1.toNat Sa.az)).bind fun y3=>
    aJ (room ((r2.1++y3.2).length) 56)<|
    some (.inl (r2.1++y3.2,add r2.2.1 1,y3.1))
   else
   some (.inr (r2.1,r2.2.2))) L ([],0,x0)).bind fun y2=>
 some (y2.2,y2.1)
def OA{α:Type}(a b:Int)(k:Int->α):α:=
 bif !(aH a a)then
  bif !(aH b b)then k 0 else k (-1)
 else
 bif !(aH b b)then k 1 else
 bif aF a b then k (-1)else
 bif aF b a then k 1 else
 k 0
def vor(a b c:Int):Option Int:=
 bif !(aH a 0)then some ([a,b,c].getD 0 0)else
 bif !(aH b 0)then some ([a,b,c].getD 1 0)else
 bif !(aH c 0)then some ([a,b,c].getD 2 0)else
 some 0
def bV(L:Nat)(x0:Address)(x1:Address):Option Int:=
 OA x0.bx x1.bx fun a=>OA x0.hi x1.hi fun b=>OA x0.lo x1.lo fun c=>vor a b c
def cD(L:Nat)(x0:gu)(x1:Address):Option Bool:=
 (bV L x0.lo x1).bind fun y3=>
 bif !(aF 0 y3)then
  (bV L x1 x0.hi).bind fun y4=>
  some (!(aF 0 y4))
 else
 some false
def cS(L:Nat)(x0:aU)(x1:a05)(x2:Bool):Option Bool:=
 bif !x2 then
  (cD L (x0.a0c,x0.cB) x1.target).bind fun y4=>
  bif !y4 then some false else
  (cD L (x0.bU,x0.bT) x1.bZ).bind fun y5=>
  bif !y5 then some false else
  (cD L ((0,0,aY .u64 (add x0.de 1)),(0,0,aY .u64 (add x0.a0m 1))) (0,0,aY .u64 (add x1.aR 1))).bind fun y6=>
  bif !y6 then some false else
  (cD L ((0,0,aY .u64 (add (x0.aL.1) 1)),(0,0,aY .u64 (add (x0.aL.2) 1))) (0,0,aY .u64 (add x1.aO 1))).bind fun y7=>
  bif !y7 then some false else
  (cD L ((0,0,aY .u64 (add (x0.aI.1) 1)),(0,0,aY .u64 (add (x0.aI.2) 1))) (0,0,aY .u64 (add x1.aK 1))).bind fun y8=>
  bif !y8 then some false else
  some true
 else
 (cD L (x0.a0c,x0.cB) x1.bZ).bind fun y4=>
 bif !y4 then some false else
 (cD L (x0.bU,x0.bT) x1.target).bind fun y5=>
 bif !y5 then some false else
 (cD L ((0,0,aY .u64 (add x0.de 1)),(0,0,aY .u64 (add x0.a0m 1))) (0,0,aY .u64 (add x1.aR 1))).bind fun y6=>
 bif !y6 then some false else
 (cD L ((0,0,aY .u64 (add (x0.aL.1) 1)),(0,0,aY .u64 (add (x0.aL.2) 1))) (0,0,aY .u64 (add x1.aK 1))).bind fun y7=>
 bif !y7 then some false else
 (cD L ((0,0,aY .u64 (add (x0.aI.1) 1)),(0,0,aY .u64 (add (x0.aI.2) 1))) (0,0,aY .u64 (add x1.aO 1))).bind fun y8=>
 bif !y8 then some false else
 some true
def qe(L:Nat)(x0:(List aQ))(x1:a05)(x2:Bool):Option (Int×Bool):=
 (iter (Y:=(Unit⊕(Int×Bool))) 223002 (fun r4:Int=>
   bif aF r4 (x0.length:Int)then
    aJ (!(aF r4 0))<|
    aJ (Nat.blt r4.toNat x0.length)<|
    (iter (Y:=(Unit⊕(Int×Bool))) 223005 (fun r5:Int=>
      bif aF r5 ((aQ.cI (x0.getD r4.toNat aQ.az)).length:Int)then
       aJ (!(aF r5 0))<|
       aJ (Nat.blt r5.toNat ((aQ.cI (x0.getD r4.toNat aQ.az)).length))<|
       (cS L ((aQ.cI (x0.getD r4.toNat aQ.az)).getD r5.toNat aU.az) x1 x2).bind fun y6=>
       bif y6 then some (.inr (.inr (r4,true)))else
       some (.inl (add r5 1))
      else
      some (.inr (.inl ()))) L 0).bind fun y5=>
    match y5 with
    | .inl y6=>
      some (.inl (add r4 1))
    | .inr y6=>
      some (.inr (.inr y6))
   else
   some (.inr (.inl ()))) L 0).bind fun y4=>
 match y4 with
 | .inl y5=>
   some (0,false)
 | .inr y5=>
   some y5
def a2J(L:Nat)(x0:a05):Option (Bool×Bool):=
 bif aH x0.aR 6 then some (aH x0.aK (-1),aH x0.aO (-1))else
 bif aH x0.aR 17 then some (aH x0.aK (-1),aH x0.aO (-1))else
 bif aH x0.aR 1 then some (aH x0.aK (-1),false)else
 bif aH x0.aR 58 then some (aH x0.aK (-1),false)else
 some (false,false)
def a2n(L:Nat)(b:aU)(q:a05)(o a c:Bool)(l r:Int):Option Bool:=
 bif !a then
  bif !c then(cS L b q o).bind fun y=>some y else
  bif !(aF r 0)then(cS L b q o).bind fun y=>some y else
  some false
 else
 bif !(aF l 0)then
  bif !c then(cS L b q o).bind fun y=>some y else
  bif !(aF r 0)then(cS L b q o).bind fun y=>some y else
  some false
 else
 some false
def oB(L:Nat)(x0:aU)(x1:a05)(x2:Bool):Option Bool:=
 (a2J L x1).bind fun y4=>
 bif !x2 then
  bif y4.2 then
   bif y4.1 then a2n L x0 (a05.bw x1 (aK:=x0.aI.2) (aO:=x0.aL.2)) x2 y4.2 y4.1 x0.aL.2 x0.aI.2
   else a2n L x0 (a05.dA x1 (x0.aL.2)) x2 y4.2 y4.1 x0.aL.2 x1.aK
  else
  bif y4.1 then a2n L x0 (a05.dz x1 (x0.aI.2)) x2 y4.2 y4.1 x1.aO x0.aI.2
  else a2n L x0 x1 x2 y4.2 y4.1 x1.aO x1.aK
 else
 bif y4.1 then
  bif y4.2 then a2n L x0 (a05.bw x1 (aK:=x0.aL.2) (aO:=x0.aI.2)) x2 y4.1 y4.2 x0.aL.2 x0.aI.2
  else a2n L x0 (a05.dz x1 (x0.aL.2)) x2 y4.1 y4.2 x0.aL.2 x1.aO
 else
 bif y4.2 then a2n L x0 (a05.dA x1 (x0.aI.2)) x2 y4.1 y4.2 x1.aK x0.aI.2
 else a2n L x0 x1 x2 y4.1 y4.2 x1.aK x1.aO
def jN(L:Nat)(l:List aQ)(x1:a05)(x2:Bool)(k:Option (Int×Int)):Option (Int×Int):=
 (iter (Y:=(Unit⊕(Int×Int))) 138010 (fun r6:Int=>
   bif aF r6 (l.length:Int)then
    aJ (!(aF r6 0))<|
    aJ (Nat.blt r6.toNat l.length)<|
    (iter (Y:=(Unit⊕(Int×Int))) 138013 (fun r7:Int=>
      bif aF r7 ((aQ.cI (l.getD r6.toNat aQ.az)).length:Int)then
       aJ (!(aF r7 0))<|
       aJ (Nat.blt r7.toNat ((aQ.cI (l.getD r6.toNat aQ.az)).length))<|
       bif !(aH (aQ.cO (l.getD r6.toNat aQ.az)) 1)then
        (oB L ((aQ.cI (l.getD r6.toNat aQ.az)).getD r7.toNat aU.az) x1 x2).bind fun y8=>
        bif y8 then some (.inr (.inr (0,r6)))else
        some (.inl (add r7 1))
       else
       some (.inl (add r7 1))
      else
      some (.inr (.inl ()))) L 0).bind fun y7=>
    match y7 with
    | .inl _=>some (.inl (add r6 1))
    | .inr y8=>some (.inr (.inr y8))
   else
   some (.inr (.inl ()))) L 0).bind fun y6=>
 match y6 with
 | .inl _=>k
 | .inr y7=>some y7
def tr(L:Nat)(l:List aQ)(x1:a05)(x2:Bool)(k:Option (Int×Int)):Option (Int×Int):=
 (a2J L x1).bind fun y5=>
 bif y5.1 then jN L l x1 x2 k else
 bif y5.2 then jN L l x1 x2 k else
 k
def pD(L:Nat)(x0:(List aQ))(x1:a05)(x2:Bool)(y4:Int×Bool):Option (Int×Int):=
 bif y4.2 then
  aJ (!(aF y4.1 0))<|
  aJ ((Nat.ble 0 y4.1.toNat)&&(Nat.ble y4.1.toNat x0.length))<|
  tr L (List.drop 0 (List.take y4.1.toNat x0)) x1 x2 (bif !y4.2 then some (0,(-1))else some (1,y4.1))
 else
 tr L x0 x1 x2 (bif !y4.2 then some (0,(-1))else some (1,y4.1))
def j5(L:Nat)(x0:(List aQ))(x1:a05)(x2:Bool):Option (Int×Int):=
 (qe L x0 x1 x2).bind fun y4=>
 bif y4.2 then
  aJ (!(aF y4.1 0))<|
  aJ (Nat.blt y4.1.toNat x0.length)<|
  bif !(aH (aQ.cO (x0.getD y4.1.toNat aQ.az)) 1)then
   aJ (!(aF y4.1 0))<|
   aJ (Nat.blt y4.1.toNat x0.length)<|
   some ((aQ.cO (x0.getD y4.1.toNat aQ.az)),y4.1)
  else
  pD L x0 x1 x2 y4
 else
 pD L x0 x1 x2 y4
def a0f(L:Nat)(x0:aa)(x1:Int):Option Int:=
 (iter (Y:=(Unit⊕Int)) 241002 (fun r3:Int=>
   bif aF r3 (x0.af.length:Int)then
    aJ (!(aF r3 0))<|
    aJ (Nat.blt r3.toNat (x0.af.length))<|
    bif aH (a00.eI (x0.af.getD r3.toNat a00.az)) x1 then some (.inr (.inr r3))else
    some (.inl (add r3 1))
   else
   some (.inr (.inl ()))) L 0).bind fun y3=>
 match y3 with
 | .inl y4=>
   some (-1)
 | .inr y4=>
   some y4
def oT(L:Nat)(x0:Int)(x1:Int):Option Int:=
 bif !(aF x0 (aY .u64 (eN x1 1)))then some (wM .u64 (ij .u64 x0 (aY .u64 (eN x1 1))) 1)else
 some 0
def oS(L:Nat)(x0:Int)(x1:Int)(x2:Int)(x3:Int):Option Int:=
 (oT L x0 x1).bind fun y5=>
 aJ (!(aF (Eg (eN x3 0) 63) 0))<|
 some (wM .u64 y5 (nA .u64 (ij .u64 x2 y5) (ij .u64 (pO .u64 1 (Eg (eN x3 0) 63)) 1)))
def vw(L:Nat)(x0:cC)(x1:Int):Option Bool:=
 some (!(aF (ij .u64 x0.mj x1) (aY .u64 (eN x0.size 0))))
def vu(L:Nat)(x0:cC)(x1:Int):Option Bool:=
 bif aF (nM .u64 x1 64) (aY .u64 (x0.bits.length:Int))then
  aJ (!(aF (nM .u64 x1 64) 0))<|
  aJ (Nat.blt (Int.toNat (nM .u64 x1 64)) (x0.bits.length))<|
  aJ (!(aF (vh .u64 x1 64) 0))<|
  some (aH (nA .u64 (yg .u64 (x0.bits.getD (Int.toNat (nM .u64 x1 64)) 0) (vh .u64 x1 64)) 1) 1)
 else
 some false
def sk(L:Nat)(x0:cC)(x1:Int):Option Int:=
 bif aH x1 0 then some 22 else
 bif aF x0.mj x1 then some 0 else
 (vw L x0 x1).bind fun y3=>
 bif y3 then some 22 else
 (vu L x0 (ij .u64 x0.mj x1)).bind fun y4=>
 bif y4 then some 23 else
 some 0
def a3Q(L:Nat)(w:List Int)(d:Int):Option (List Int):=
 iter (Y:=(List Int)) 261004 (fun r4:(Int×(List Int))=>
  bif aF r4.1 (w.length:Int)then
   bif aF (aY .u64 r4.1) (nM .u64 d 64)then some (.inl (add r4.1 1,r4.2))else
   aJ (!(aF (ij .u64 (aY .u64 r4.1) (nM .u64 d 64)) 0))<|
   aJ (Nat.blt (Int.toNat (ij .u64 (aY .u64 r4.1) (nM .u64 d 64))) w.length)<|
   aJ (!(aF (vh .u64 d 64) 0))<|
   aJ (!(aF r4.1 0))<|
   aJ (Nat.blt r4.1.toNat r4.2.length)<|
   bif aF 0 (ij .u64 (aY .u64 r4.1) (nM .u64 d 64))then
    aJ (!(aF r4.1 0))<|
    aJ (Nat.blt r4.1.toNat ((List.set r4.2 r4.1.toNat (pO .u64 (w.getD (Int.toNat (ij .u64 (aY .u64 r4.1) (nM .u64 d 64))) 0) (vh .u64 d 64))).length))<|
    aJ (!(aF (ij .u64 (ij .u64 (aY .u64 r4.1) (nM .u64 d 64)) 1) 0))<|
    aJ (Nat.blt (Int.toNat (ij .u64 (ij .u64 (aY .u64 r4.1) (nM .u64 d 64)) 1)) w.length)<|
    aJ (!(aF (ij .u64 64 (vh .u64 d 64)) 0))<|
    aJ (!(aF r4.1 0))<|
    aJ (Nat.blt r4.1.toNat ((List.set r4.2 r4.1.toNat (pO .u64 (w.getD (Int.toNat (ij .u64 (aY .u64 r4.1) (nM .u64 d 64))) 0) (vh .u64 d 64))).length))<|
    some (.inl (add r4.1 1,List.set (List.set r4.2 r4.1.toNat (pO .u64 (w.getD (Int.toNat (ij .u64 (aY .u64 r4.1) (nM .u64 d 64))) 0) (vh .u64 d 64))) r4.1.toNat (EZ .u64 ((List.set r4.2 r4.1.toNat (pO .u64 (w.getD (Int.toNat (ij .u64 (aY .u64 r4.1) (nM .u64 d 64))) 0) (vh .u64 d 64))).getD r4.1.toNat 0) (yg .u64 (w.getD (Int.toNat (ij .u64 (ij .u64 (aY .u64 r4.1) (nM .u64 d 64)) 1)) 0) (ij .u64 64 (vh .u64 d 64))))))
   else
   some (.inl (add r4.1 1,List.set r4.2 r4.1.toNat (pO .u64 (w.getD (Int.toNat (ij .u64 (aY .u64 r4.1) (nM .u64 d 64))) 0) (vh .u64 d 64))))
  else
  some (.inr r4.2)) L (0,List.replicate w.length 0)
def iJ(l:List Int)(d:Int)(f:List Int->cC×Int):Option (cC×Int):=
 bif aF (nM .u64 d 64) (aY .u64 (l.length:Int))then
  aJ (!(aF (nM .u64 d 64) 0))<|
  aJ (Nat.blt (Int.toNat (nM .u64 d 64)) l.length)<|
  aJ (!(aF (vh .u64 d 64) 0))<|
  aJ (!(aF (nM .u64 d 64) 0))<|
  aJ (Nat.blt (Int.toNat (nM .u64 d 64)) l.length)<|
  some (f (List.set l (Int.toNat (nM .u64 d 64)) (EZ .u64 (l.getD (Int.toNat (nM .u64 d 64)) 0) (pO .u64 1 (vh .u64 d 64)))))
 else
 some (f l)
def nw(L:Nat)(x0:cC)(x1:Int):Option (cC×Int):=
 (sk L x0 x1).bind fun y3=>
 bif !(aH y3 0)then some (x0,y3)else
 bif aF x0.mj x1 then
  aJ (((Nat.ble (x0.bits.length) (x0.bits.length))&&(room (x0.bits.length) 8))&&(Nat.ble (x0.bits.length) 9223372036854775807))<|
  (a3Q L x0.bits (ij .u64 x1 x0.mj)).bind fun y4=>
  bif aF 0 (rem x0.size 64)then
   bif aF 0 (y4.length:Int)then
    aJ (!(aF (sub (y4.length:Int) 1) 0))<|
    aJ (Nat.blt (Int.toNat (sub (y4.length:Int) 1)) y4.length)<|
    aJ (!(aF (rem x0.size 64) 0))<|
    aJ (!(aF (sub (y4.length:Int) 1) 0))<|
    aJ (Nat.blt (Int.toNat (sub (y4.length:Int) 1)) y4.length)<|
    iJ (List.set y4 (Int.toNat (sub (y4.length:Int) 1)) (nA .u64 (y4.getD (Int.toNat (sub (y4.length:Int) 1)) 0) (ij .u64 (pO .u64 1 (rem x0.size 64)) 1))) (ij .u64 x1 x1) fun l=>((x0.size,x1,l),0)
   else
   iJ y4 (ij .u64 x1 x1) fun l=>((x0.size,x1,l),0)
  else
  iJ y4 (ij .u64 x1 x1) fun l=>((x0.size,x1,l),0)
 else
 iJ x0.bits (ij .u64 x0.mj x1) fun l=>(cC.TC x0 l,0)
def a38(L:Nat)(x0:Tm)(x1:Tm):Option (Tm×Bool):=
 bif !(aH x1.op 7)then some ((0,0,TL.nil),false)else
 bif !(aH (TL.len x1.args:Int) 2)then some ((0,0,TL.nil),false)else
 aJ (Nat.blt 0 x1.args.len)<|
 (bq L (TL.get x1.args 0) x0).bind fun y3=>
 bif !(aH y3 0)then some ((0,0,TL.nil),false)else
 aJ (Nat.blt 1 x1.args.len)<|
 some (TL.get x1.args 1,true)
def iW(L:Nat)(x0:Address):Option Bool:=
 bif aH x0.bx 6 then some true else
 bif aH x0.bx 4 then
  bif aH x0.hi 0 then some (aF x0.lo 4294967296)else
  some false
 else
 some false
def ju(L:Nat)(x0:Int):Option Bool:=
 bif !(aF x0 (-1))then some (!(aF 65535 x0))else
 some false
def iV(L:Nat)(a:List Int):Option (Clear×Bool):=
 (iW L ((a.getD 0 0),aY .u64 (a.getD 1 0),aY .u64 (a.getD 2 0))).bind fun y2=>
 bif !y2 then some ((a05.az,0),false)else
 (iW L ((a.getD 3 0),aY .u64 (a.getD 4 0),aY .u64 (a.getD 5 0))).bind fun y3=>
 bif !y3 then some ((a05.az,0),false)else
 bif !(aH (a.getD 0 0) (a.getD 3 0))then some ((a05.az,0),false)else
 bif aF (a.getD 6 0) 0 then some ((a05.az,0),false)else
 bif aF 255 (a.getD 6 0)then some ((a05.az,0),false)else
 (ju L (a.getD 7 0)).bind fun y4=>
 bif !y4 then some ((a05.az,0),false)else
 (ju L (a.getD 8 0)).bind fun y5=>
 bif !y5 then some ((a05.az,0),false)else
 some ((a05.az (bZ:=((a.getD 0 0),aY .u64 (a.getD 1 0),aY .u64 (a.getD 2 0))) (target:=((a.getD 3 0),aY .u64 (a.getD 4 0),aY .u64 (a.getD 5 0))) (aR:=(a.getD 6 0)) (aK:=(a.getD 7 0)) (aO:=(a.getD 8 0)),(a.getD 9 0)),true)
def dataplane_readR(L:Nat)(x0:Tm):Nat->Nat->List Int->Option (Clear×Bool)
 |0,i,a=>
  bif aF (i:Int) (TL.len x0.args:Int)then
   aJ (Nat.blt i x0.args.len)<|
   aJ (!(aH (Tm.op (TL.get x0.args i)) 1))<|
   some ((a05.az,0),false)
  else
  iV L a
 |k+1,i,a=>
  bif aF (i:Int) (TL.len x0.args:Int)then
   aJ (Nat.blt i x0.args.len)<|
   bif !(aH (Tm.op (TL.get x0.args i)) 1)then some ((a05.az,0),false)else
   dataplane_readR L x0 k (i+1) (a++[Tm.val (TL.get x0.args i)])
  else
  iV L a
def fM(L:Nat)(x0:Tm):Option (Clear×Bool):=
 bif !(aH x0.op 3)then some ((a05.az,0),false)else
 bif !(aH (TL.len x0.args:Int) 10)then some ((a05.az,0),false)else
 dataplane_readR L x0 10 0 []
def jG(L:Nat)(x0:Tm)(x1:Tm)(x2:Int)(x3:Int):Option (Clear×Bool):=
 (a38 L x0 x1).bind fun y5=>
 bif !y5.2 then some ((a05.az,0),false)else
 bif !(aH y5.1.op 3)then some ((a05.az,0),false)else
 bif !(aH (TL.len y5.1.args:Int) 3)then some ((a05.az,0),false)else
 aJ (Nat.blt 0 y5.1.args.len)<|
 (bq L (TL.get y5.1.args 0) (T.aG x2)).bind fun y6=>
 bif !(aH y6 0)then some ((a05.az,0),false)else
 aJ (Nat.blt 1 y5.1.args.len)<|
 (bq L (TL.get y5.1.args 1) (T.aG (aY .i64 x3))).bind fun y7=>
 bif !(aH y7 0)then some ((a05.az,0),false)else
 aJ (Nat.blt 2 y5.1.args.len)<|
 (fM L (TL.get y5.1.args 2)).bind fun y8=>
 some y8
def su(g:aa)(x:a00)(c:Clear)(y9:Int×Int)(y10:Bool):Option (aa×fa):=
 bif !y10 then some (g,fa.az)else
 bif !(aH y9.1 2)then some (g,fa.az)else
 bif !(aH y9.2 x.dm)then some (g,fa.az)else
 some (g,fa.az (lU:=[c]) (aN:=[(g.av,c,x.dm,x.eI)]))
def lI(L:Nat)(x0 g:aa)(x:a00)(c:Clear):Option (aa×fa):=
 (j5 L x0.dh c.bf false).bind fun y9=>
 (cS L x.box c.bf false).bind fun y10=>
 su g x c y9 y10
def sS(L:Nat)(x0:aa)(x1:Tm)(y4:Int)(x:a00):Option (aa×fa):=
 (oS L x.iS.mj 6 (aY .u64 (Tm.val (TL.get x1.args 2))) 4).bind fun y5=>
 (nw L x.iS y5).bind fun y6=>
 aJ (Nat.blt 3 x1.args.len)<|
 (jG L x.sy (TL.get x1.args 3) (Tm.val (TL.get x1.args 1)) y5).bind fun y7=>
 bif !(aH y6.2 0)then some (x0,fa.az)else
 bif !y7.2 then some (x0,fa.az)else
 aJ (!(aF y4 0))<|
 aJ (Nat.blt y4.toNat (x0.af.length))<|
 (bz L (aa.ck x0 (List.set x0.af y4.toNat (a00.mo x y6.1))) x.sa).bind fun y8=>
 bif !(aF y8 0)then
  aJ (!(aF y8 0))<|
  aJ (Nat.blt y8.toNat (x0.u4.length))<|
  lI L x0 (aa.bw x0 (u4:=List.set x0.u4 y8.toNat (Sa.uA (x0.u4.getD y8.toNat Sa.az) x0.bA)) (af:=List.set x0.af y4.toNat (a00.mo x y6.1))) x y7.1
 else
 lI L x0 (aa.ck x0 (List.set x0.af y4.toNat (a00.mo x y6.1))) x y7.1
def mO(L:Nat)(x0:aa)(x1:Tm):Option (aa×fa):=
 bif !(aH x1.op 3)then some (x0,fa.az)else
 bif !(aH (TL.len x1.args:Int) 4)then some (x0,fa.az)else
 aJ (Nat.blt 1 x1.args.len)<|
 bif !(aH (Tm.op (TL.get x1.args 1)) 1)then some (x0,fa.az)else
 aJ (Nat.blt 2 x1.args.len)<|
 bif !(aH (Tm.op (TL.get x1.args 2)) 1)then some (x0,fa.az)else
 aJ (Nat.blt 0 x1.args.len)<|
 (bq L (TL.get x1.args 0) (T.aG 50)).bind fun y3=>
 bif !(aH y3 0)then some (x0,fa.az)else
 aJ (Nat.blt 1 x1.args.len)<|
 aJ (Nat.blt 2 x1.args.len)<|
 (a0f L x0 (Tm.val (TL.get x1.args 1))).bind fun y4=>
 bif aF y4 0 then some (x0,fa.az)else
 bif aF (Tm.val (TL.get x1.args 2)) 0 then some (x0,fa.az)else
 bif !(aF (Tm.val (TL.get x1.args 2)) 16)then some (x0,fa.az)else
 aJ (!(aF y4 0))<|
 aJ (Nat.blt y4.toNat (x0.af.length))<|
 sS L x0 x1 y4 (x0.af.getD y4.toNat a00.az)
def kz(L:Nat)(x0:Tm):Option (TL×Bool):=
 bif !(aH x0.op 3)then some (TL.nil,false)else
 (iter (Y:=(Unit⊕(TL×Bool))) 196004 (fun r2:Int=>
   bif aF r2 (TL.len x0.args:Int)then
    aJ (!(aF r2 0))<|
    aJ (Nat.blt r2.toNat x0.args.len)<|
    bif !(aH (Tm.op (TL.get x0.args r2.toNat)) 3)then some (.inr (.inr (TL.nil,false)))else
    bif aH (TL.len (Tm.args (TL.get x0.args r2.toNat)):Int) 0 then some (.inr (.inr (TL.nil,false)))else
    aJ (Nat.blt 0 (TL.len (Tm.args (TL.get x0.args r2.toNat))))<|
    bif !(aH (Tm.op (TL.get (Tm.args (TL.get x0.args r2.toNat)) 0)) 1)then some (.inr (.inr (TL.nil,false)))else
    some (.inl (add r2 1))
   else
   some (.inr (.inl ()))) L 0).bind fun y2=>
 match y2 with
 | .inl y3=>
   some (x0.args,true)
 | .inr y3=>
   some y3
def fJ(L:Nat)(x0:Tm):Option (bW×Bool×Bool):=
 bif !(aH x0.op 3)then some (bW.az,false,false)else
 bif !(aH (TL.len x0.args:Int) 6)then some (bW.az,false,false)else
 bif !(aF 0 (TL.len x0.args:Int))then some (bW.az,false,false)else
 aJ (Nat.blt 0 x0.args.len)<|
 bif !(aH (Tm.op (TL.get x0.args 0)) 1)then some (bW.az,false,false)else
 bif !(aF 1 (TL.len x0.args:Int))then some (bW.az,false,false)else
 aJ (Nat.blt 1 x0.args.len)<|
 bif !(aH (Tm.op (TL.get x0.args 1)) 1)then some (bW.az,false,false)else
 bif !(aF 2 (TL.len x0.args:Int))then some (bW.az,false,false)else
 aJ (Nat.blt 2 x0.args.len)<|
 bif !(aH (Tm.op (TL.get x0.args 2)) 1)then some (bW.az,false,false)else
 bif !(aF 3 (TL.len x0.args:Int))then some (bW.az,false,false)else
 aJ (Nat.blt 3 x0.args.len)<|
 bif !(aH (Tm.op (TL.get x0.args 3)) 1)then some (bW.az,false,false)else
 bif !(aF 4 (TL.len x0.args:Int))then some (bW.az,false,false)else
 aJ (Nat.blt 4 x0.args.len)<|
 bif !(aH (Tm.op (TL.get x0.args 4)) 1)then some (bW.az,false,false)else
 bif aF (Tm.val (TL.get x0.args 3)) 0 then some (bW.az,false,false)else
 bif aF 3 (Tm.val (TL.get x0.args 3))then some (bW.az,false,false)else
 aJ (Nat.blt 5 x0.args.len)<|
 (kz L (TL.get x0.args 5)).bind fun y2=>
 bif y2.2 then
  some (bW.az (kind:=(Tm.val (TL.get x0.args 0))) (eV:=(Tm.val (TL.get x0.args 1))) (ia:=(Tm.val (TL.get x0.args 2))) (bY:=aH (nA .i64 (Tm.val (TL.get x0.args 3)) 1) 1) (aV:=aH (nA .i64 (Tm.val (TL.get x0.args 3)) 2) 2) (iD:=(Tm.val (TL.get x0.args 4))) (parts:=y2.1),false,true)
 else
 bif aH (Tm.op (TL.get x0.args 5)) 7 then
  bif aH (TL.len (Tm.args (TL.get x0.args 5)):Int) 2 then
   some (bW.az (kind:=(Tm.val (TL.get x0.args 0))) (eV:=(Tm.val (TL.get x0.args 1))) (ia:=(Tm.val (TL.get x0.args 2))) (bY:=aH (nA .i64 (Tm.val (TL.get x0.args 3)) 1) 1) (aV:=aH (nA .i64 (Tm.val (TL.get x0.args 3)) 2) 2) (iD:=(Tm.val (TL.get x0.args 4))),true,true)
  else
  some (bW.az,false,false)
 else
 some (bW.az,false,false)
def cj(L:Nat)(x0:TL)(x1:Int):Option (TL×Bool):=
 (iter (Y:=(Unit⊕(TL×Bool))) 292002 (fun r3:Int=>
   bif aF r3 (TL.len x0:Int)then
    aJ (!(aF r3 0))<|
    aJ (Nat.blt r3.toNat x0.len)<|
    bif aH (Tm.op (TL.get x0 r3.toNat)) 3 then
     bif aF 0 (TL.len (Tm.args (TL.get x0 r3.toNat)):Int)then
      aJ (Nat.blt 0 (TL.len (Tm.args (TL.get x0 r3.toNat))))<|
      bif aH (Tm.op (TL.get (Tm.args (TL.get x0 r3.toNat)) 0)) 1 then
       aJ (Nat.blt 0 (TL.len (Tm.args (TL.get x0 r3.toNat))))<|
       bif aH (Tm.val (TL.get (Tm.args (TL.get x0 r3.toNat)) 0)) x1 then
        aJ ((Nat.ble 1 (TL.len (Tm.args (TL.get x0 r3.toNat))))&&(Nat.ble (TL.len (Tm.args (TL.get x0 r3.toNat))) (TL.len (Tm.args (TL.get x0 r3.toNat)))))<|
        some (.inr (.inr (TL.drop 1 (TL.take (TL.len (Tm.args (TL.get x0 r3.toNat))) (Tm.args (TL.get x0 r3.toNat))),true)))
       else
       some (.inl (add r3 1))
      else
      some (.inl (add r3 1))
     else
     some (.inl (add r3 1))
    else
    some (.inl (add r3 1))
   else
   some (.inr (.inl ()))) L 0).bind fun y3=>
 match y3 with
 | .inl y4=>
   some (TL.nil,false)
 | .inr y4=>
   some y4
def fW(L:Nat)(x0:TL):Option (Int×Tm×Bool):=
 (cj L x0 2).bind fun y2=>
 bif !(aH (TL.len y2.1:Int) 2)then some (0,(0,0,TL.nil),false)else
 aJ (Nat.blt 0 y2.1.len)<|
 bif !(aH (Tm.op (TL.get y2.1 0)) 1)then some (0,(0,0,TL.nil),false)else
 aJ (Nat.blt 1 y2.1.len)<|
 bif !(aH (Tm.op (TL.get y2.1 1)) 4)then some (0,(0,0,TL.nil),false)else
 aJ (Nat.blt 1 y2.1.len)<|
 bif !(aH (TL.len (Tm.args (TL.get y2.1 1)):Int) 1)then some (0,(0,0,TL.nil),false)else
 aJ (Nat.blt 0 y2.1.len)<|
 aJ (Nat.blt 1 y2.1.len)<|
 some ((Tm.val (TL.get y2.1 0)),TL.get y2.1 1,true)
def nH(L:Nat)(x0:TL)(x1:Int):Option (Tm×Bool):=
 (cj L x0 x1).bind fun y3=>
 bif !(aH (TL.len y3.1:Int) 1)then some ((0,0,TL.nil),false)else
 aJ (Nat.blt 0 y3.1.len)<|
 some (TL.get y3.1 0,true)
def kj(L:Nat)(x0:TL):Option (Tm×Bool):=
 (nH L x0 3).bind fun y2=>
 bif y2.2 then some (y2.1,aH y2.1.op 2)else
 some (y2.1,false)
def oy(L:Nat)(x0:bW):Option (aT×Bool):=
 bif !x0.aV then some (aT.az (dZ:=x0.eV) (parts:=x0.parts),false)else
 bif !(aH x0.iD 0)then some (aT.az (dZ:=x0.eV) (parts:=x0.parts),false)else
 bif !(aH x0.ia 0)then some (aT.az (dZ:=x0.eV) (parts:=x0.parts),false)else
 bif !(aF 0 x0.eV)then some (aT.az (dZ:=x0.eV) (parts:=x0.parts),false)else
 (cj L x0.parts 1).bind fun y2=>
 (iter (Y:=((aT×aT)⊕(Bool×aT))) 269006 (fun r3:(Int×aT×aT)=>
   bif aF r3.1 (TL.len y2.1:Int)then
    aJ (!(aF r3.1 0))<|
    aJ (Nat.blt r3.1.toNat y2.1.len)<|
    bif !(aH (Tm.op (TL.get y2.1 r3.1.toNat)) 1)then some (.inr (.inr (false,r3.2.2)))else
    aJ (room ((r3.2.2.a2q++[(Tm.val (TL.get y2.1 r3.1.toNat))]).length) 8)<|
    some (.inl (add r3.1 1,r3.2.1,aT.Jc r3.2.2 (r3.2.2.a2q++[(Tm.val (TL.get y2.1 r3.1.toNat))])))
   else
   some (.inr (.inl r3.2))) L (0,aT.az,aT.az (dZ:=x0.eV) (parts:=x0.parts))).bind fun y3=>
 match y3 with
 | .inl y4=>
   (fW L x0.parts).bind fun y5=>
   (kj L x0.parts).bind fun y6=>
   (cj L x0.parts 4).bind fun y7=>
   bif y2.2 then
    bif y5.2.2 then
     some (aT.az (dZ:=y4.2.dZ) (a2q:=y4.2.a2q) (kf:=y5.1) (a3g:=y5.2.1) (dx:=y6.1) (nX:=y7.1) (parts:=y4.2.parts),y6.2)
    else
    some (aT.az (dZ:=y4.2.dZ) (a2q:=y4.2.a2q) (kf:=y5.1) (a3g:=y5.2.1) (dx:=y6.1) (nX:=y7.1) (parts:=y4.2.parts),false)
   else
   some (aT.az (dZ:=y4.2.dZ) (a2q:=y4.2.a2q) (kf:=y5.1) (a3g:=y5.2.1) (dx:=y6.1) (nX:=y7.1) (parts:=y4.2.parts),false)
 | .inr y4=>
   some (y4.2,y4.1)
def lH(L:Nat)(x0:aa)(x1:Tm)(x2:Int):Option (bN×Bool):=
 (iter (Y:=(bN⊕(Bool×bN))) 286002 (fun r4:(Int×bN)=>
   bif aF r4.1 (x0.aW.length:Int)then
    aJ (!(aF r4.1 0))<|
    aJ (Nat.blt r4.1.toNat (x0.aW.length))<|
    bif aH (bN.cq (x0.aW.getD r4.1.toNat bN.az)) x2 then
     (bq L (bN.first (x0.aW.getD r4.1.toNat bN.az)) x1).bind fun y5=>
     bif aH y5 0 then some (.inr (.inr (true,x0.aW.getD r4.1.toNat bN.az)))else
     some (.inl (add r4.1 1,r4.2))
    else
    some (.inl (add r4.1 1,r4.2))
   else
   some (.inr (.inl r4.2))) L (0,bN.az)).bind fun y4=>
 match y4 with
 | .inl y5=>
   some (bN.az,false)
 | .inr y5=>
   some (y5.2,y5.1)
def qA(L:Nat)(x0:aa)(x1:aj)(x2:aT):Option (fk×Bool):=
 (lH L x0 x1.body x1.cq).bind fun y4=>
 some ((x0,TL.of [y4.1.bY]),y4.2)
def dX(L:Nat)(x0:aa)(x1:aT)(x2:TL):Option (fk×Bool):=
 (cJ L (bW.az (kind:=34) (eV:=x1.dZ) (bY:=true) (parts:=x2))).bind fun y4=>
 some ((x0,TL.of [T.a01 (TL.of [T.aG y4.1,T.aG y4.2.1,T.aG y4.2.2.1,T.aG y4.2.2.2.1,T.aG y4.2.2.2.2,T.a01 x2])]),true)
def kP(L:Nat)(x0:aa)(x1:aj)(x2:aT):Option (fk×Bool):=
 bif aH x0.pH 0 then some ((aa.az,TL.nil),false)else
 (dX L x0 x2 (TL.of [T.a01 (TL.of [T.aG 6,T.aG x0.pH,x2.dx])])).bind fun y4=>
 some y4
def sO(L:Nat)(x0:aa)(x1:Int)(x2:Int)(x3:Tm):Option Tm:=
 some (T.derive 7 (TL.of [x0.guard,T.aG x1,T.aG x2,x3]))
def a3N(L:Nat)(x0:aa):Option Bool:=
 some (!(aF (x0.aW.length:Int) 2))
def pA(L:Nat)(x0:aa)(x1:aj)(x2:aT):Option (fk×Bool):=
 (sO L x0 x2.dZ x1.cq x2.dx).bind fun y4=>
 (a3N L x0).bind fun y5=>
 bif !y5 then some ((aa.az,TL.nil),false)else
 bif aH (TL.len x2.nX:Int) 1 then
  aJ (Nat.blt 0 x2.nX.len)<|
  (bq L (TL.get x2.nX 0) y4).bind fun y6=>
  bif aH y6 0 then some ((aa.az,TL.nil),false)else
  (dX L x0 x2 (TL.of [T.a01 (TL.of [T.aG 4,y4])])).bind fun y7=>
  some y7
 else
 (dX L x0 x2 (TL.of [T.a01 (TL.of [T.aG 4,y4])])).bind fun y6=>
 some y6
def lS(L:Nat)(x0:aa)(x1:aT):Option (Int×Bool):=
 (iter (Y:=(Unit⊕Int)) 350002 (fun r3:Int=>
   bif aF r3 (x0.dB.length:Int)then
    aJ (!(aF r3 0))<|
    aJ (Nat.blt r3.toNat (x0.dB.length))<|
    (iter (Y:=(Unit⊕Int)) 376002 (fun r4:Int=>
      bif aF r4 (x1.a2q.length:Int)then
       aJ (!(aF r4 0))<|
       aJ (Nat.blt r4.toNat (x1.a2q.length))<|
       bif aH (x0.dB.getD r3.toNat 0) (x1.a2q.getD r4.toNat 0)then some (.inr (.inr r4))else
       some (.inl (add r4 1))
      else
      some (.inr (.inl ()))) L 0).bind fun y4=>
    match y4 with
    | .inl y5=>
      some (.inl (add r3 1))
    | .inr y5=>
      bif !(aF y5 0)then some (.inr (.inr r3))else
      some (.inl (add r3 1))
   else
   some (.inr (.inl ()))) L 0).bind fun y3=>
 match y3 with
 | .inl y4=>
   some (0,false)
 | .inr y4=>
   bif aF y4 0 then some (0,false)else
   aJ (!(aF y4 0))<|
   aJ (Nat.blt y4.toNat (x0.dB.length))<|
   some (x0.dB.getD y4.toNat 0,true)
def o5(L:Nat)(x0:aa)(x1:aj)(x2:aT):Option (fk×Bool):=
 (lS L x0 x2).bind fun y4=>
 bif !y4.2 then
  (dX L x0 x2 (TL.of [T.a01 (TL.of [T.aG 12,T.aG 14])])).bind fun y5=>
  some y5
 else
 bif !(aH y4.1 x2.kf)then
  (dX L x0 x2 (TL.of [T.a01 (TL.of [T.aG 5,T.aG y4.1])])).bind fun y5=>
  some y5
 else
 some ((aa.az,TL.nil),false)
def rI(L:Nat)(x0:aa)(x1:aj)(x2:aT):Option (fk×Bool):=
 some ((x0,TL.nil),!(aF (x0.aW.length:Int) 4))
def tC(L:Nat)(x0:Int)(x1:Int):Option Tm:=
 some (T.derive 8 (TL.of [T.aG x0,T.aG x1]))
def pE(L:Nat)(x0:Int)(x1:Int)(x2:Int):Option Tm:=
 (tC L x0 x1).bind fun y4=>
 (tC L x0 x2).bind fun y5=>
 some (T.a01 (TL.of [T.aG 7,y4,y5]))
def gM(L:Nat)(x0:(List Int)):Option TL:=
 (iter (Y:=TL) 238003 (fun r2:(TL×Int)=>
   bif aF r2.2 (x0.length:Int)then
    aJ (!(aF r2.2 0))<|
    aJ (Nat.blt r2.2.toNat x0.length)<|
    aJ (room (TL.len (TL.app r2.1 (TL.of [T.aG (x0.getD r2.2.toNat 0)]))) 40)<|
    some (.inl (TL.app r2.1 (TL.of [T.aG (x0.getD r2.2.toNat 0)]),add r2.2 1))
   else
   some (.inr r2.1)) L (TL.nil,0)).bind fun y2=>
 some y2
def gE(L:Nat)(x0:Int)(x1:Tm):Option Tm:=
 some (T.a01 (TL.of [T.aG 2,T.aG x0,T.A9 x1]))
def kQ(L:Nat)(x0:TL)(x1:Int)(x2:Int):Option Bool:=
 (cj L x0 7).bind fun y4=>
 bif aH (TL.len y4.1:Int) 2 then
  aJ (Nat.blt 1 y4.1.len)<|
  (tC L x1 x2).bind fun y5=>
  (bq L (TL.get y4.1 1) y5).bind fun y6=>
  some (!(aH y6 0))
 else
 some false
def eM(L:Nat)(x0:Tm)(x1:Int)(x2:Int):Option (Tm×Tm×Tm):=
 some (T.derive 2 (TL.of [x0,T.aG x1,T.aG x2]),T.derive 3 (TL.of [x0,T.aG x1,T.aG x2]),T.derive 4 (TL.of [x0,T.aG x1,T.aG x2]))
def mJ(L:Nat)(x0:Tm)(x1:Tm):Option (Tm×Bool):=
 bif !(aH x0.op 4)then some ((0,0,TL.nil),false)else
 bif !(aH (TL.len x0.args:Int) 1)then some ((0,0,TL.nil),false)else
 aJ (Nat.blt 0 x0.args.len)<|
 (bq L x1 (TL.get x0.args 0)).bind fun y3=>
 bif aF y3 0 then some (T.Gk x1 (TL.get x0.args 0),true)else
 some (T.Gk (TL.get x0.args 0) x1,true)
def lT(L:Nat)(x0:Tm)(x1:Tm)(x2:Tm)(x3:Tm):Option Tm:=
 (mJ L x2 x3).bind fun y5=>
 some (T.derive 1 (TL.of [x0,x1,y5.1]))
def pe(L:Nat)(x0:aa)(x1:bN):Option (aa×Int):=
 bif !(aF (x0.aW.length:Int) 4)then some (x0,25)else
 aJ (room ((x0.aW++[x1]).length) 320)<|
 some (aa.pT x0 (x0.aW++[x1]),0)
end
end Go.Proofs.YtehbbcdhahnkgaaGreat.Vm
