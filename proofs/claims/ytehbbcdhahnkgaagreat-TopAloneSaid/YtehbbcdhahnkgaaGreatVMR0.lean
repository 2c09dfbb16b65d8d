/- The lines of the texts of rules. -/
import Derived.Test.YtehbbcdhahnkgaaGreatVMFh
import Derived.KernelRfl
set_option linter.all false
set_option maxRecDepth 100000
set_option maxHeartbeats 0
namespace Go.Proofs.YtehbbcdhahnkgaaGreat.Vm
open Go
noncomputable section
def TY:List UInt8->List Nat->Bool
 |[],[]=>true
 |u::l,n::k=>bif Nat.beq u.toNat n then TY l k else false
 |_,_=>false
def TZ:List (List UInt8)->List (List Nat)->Bool
 |[],[]=>true
 |u::l,n::k=>bif TY u n then TZ l k else false
 |_,_=>false
def toW(l:List (List Nat)):List (List UInt8):=l.map fun k=>k.map UInt8.ofNat
abbrev OB:List Nat:=[112,114,111,116,101,99,116]
abbrev TM:List Nat:=[103,111,108,100]
abbrev OD:List Nat:=[108,111,99,97,108]
abbrev Pu:List Nat:=[49,48,46,48,46,48,46,48,47,56]
abbrev OE:List Nat:=[114,101,109,111,116,101]
abbrev Pv:List Nat:=[49,57,50,46,49,54,56,46,48,46,48,47,49,54]
abbrev wd6:List Nat:=[100,105,115,99,97,114,100]
abbrev X0:List Nat:=[98,121,112,97,115,115]
abbrev ME:List Nat:=[112,114,111,116,111]
abbrev wd9:List Nat:=[49]
abbrev Mt:List Nat:=[54]
abbrev a2t:List Nat:=[114,112,111,114,116]
abbrev Wj:List Nat:=[56,48,45,57,48]
abbrev OC:List Nat:=[49,55]
abbrev Wk:List Nat:=[108,112,111,114,116]
abbrev a2u:List Nat:=[48,45,54,53,53,51,53]
abbrev a2v:List Nat:=[49,57,50,46,49,54,56,46,48,46,48,47,50,52]
abbrev a2w:List Nat:=[49,48,46,48,46,48,46,48,47,51,48]
abbrev Wl:List Nat:=[115,105,108,118,101,114]
def D5:List (List (List Nat)×aQ):=[([OB,TM,OD,Pu,OE,Pv],qn.getD 0 default),
 ([wd6],qn.getD 1 default),
 ([OB,TM,OD,Pv,OE,Pu],rW.getD 0 default),
 ([X0,ME,wd9],oN.getD 0 default),
 ([OB,TM,OD,Pu,OE,Pv,ME,Mt,a2t,Wj],oN.getD 1 default),
 ([X0,ME,OC],oN.getD 2 default),
 ([OB,TM,OD,Pv,OE,Pu,ME,Mt,Wk,Wj],qp.getD 1 default),
 ([X0,ME,OC,Wk,a2u],qp.getD 2 default),
 ([X0],rX.getD 1 default),
 ([OB,TM,OD,a2v,OE,a2w,ME,Mt],rY.getD 0 default),
 ([OB,TM,OD,Pu,OE,Pv,ME,Mt],qq.getD 0 default),
 ([OB,Wl,OD,Pu,OE,Pv,ME,OC],qq.getD 1 default),
 ([OB,Wl,OD,Pv,OE,Pu,ME,OC],a3H.getD 0 default),
 ([OB,TM,OD,Pv,OE,Pu,ME,Mt],a3H.getD 1 default)]
def WT:List (List (List Nat)×aQ)->List (List UInt8)->Option (aQ×Int)
 |[],_=>none
 |p::l,x=>bif TZ x p.1 then some (p.2,0)else WT l x
def MC:cN:=⟨[.a01 .str],[fG,dI],WT D5⟩
abbrev G0(c:KL):vC:=⟨⟨Ox,AF,Ts c,O3,.lf⟩,[],0,300⟩
def lz(p:List (List Nat)×aQ):Prop:=AE (G0 []) 60 75 [.a01 .str] [fG,dI] (toW p.1)=some ((p.2,(0:Int)):aQ×Int)
end
end Go.Proofs.YtehbbcdhahnkgaaGreat.Vm
