/- TopAlone, called: true. -/
import Derived.Test.YtehbbcdhahnkgaaGreatVMCho
import Derived.Below
set_option linter.all false
set_option maxRecDepth 100000
set_option maxHeartbeats 0
namespace Go.Proofs.YtehbbcdhahnkgaaGreat.Vm
open Go Go.RowKit
theorem JT{P:Program}{f:(tupT [.a01 (.int .u8),.a01 (.int .u8)]).den->Option (tupT [.bool]).den}(h:dU false P 3 ⟨[.a01 (.int .u8),.a01 (.int .u8)],[.bool],f⟩){F:Fz}{W:World}{l0 l1:List Int}{v0 v1:Value}(hf:f (l0,l1)=some true)(d0:DR F (.a01 (.int .u8)) l0 [v0])(d1:DR F (.a01 (.int .u8)) l1 [v1])(hF:∀b arr,F b=some arr->∃el fr,W.heap[b]?=some (.cells arr el fr)):
 Calls P 3 #[v0,v1] W fun e w'=>e=.returned (.bool true)/\Below W.heap.size W w':=by
 refine(h.2 F W (l0,l1) [v0,v1] [] true hf ⟨[v0],[v1],[],[],rfl,rfl,⟨d0,rfl⟩,[v1],rfl,⟨d1,rfl⟩⟩ List.nodup_nil (fun b h=>by simp at h) hF).mono fun e w' ⟨rv,F',G',e1,c⟩=> ?_
 obtain⟨vs,e2,q1,_⟩:=c.data
 have q1:vs=[.bool true]:=q1
 subst e2 q1
 exact⟨by rw[e1];rfl,c.wo.1,c.wo.2.1,c.wo.2.2.1,c.size,fun k hk=>c.lV k hk (by simp)⟩
theorem xE{F:Fz}{W:World}{l0 l1:List Int}{v0 v1:Value}(h0:∀v∈l0,0<=v/\v<256)(h1:∀v∈l1,0<=v/\v<256)(d0:DR F (.a01 (.int .u8)) l0 [v0])(d1:DR F (.a01 (.int .u8)) l1 [v1])(hF:∀b arr,F b=some arr->∃el fr,W.heap[b]?=some (.cells arr el fr)):
 Calls Tryz.prog 3 #[v0,v1] W fun e w'=>e=.returned (.bool true)/\Below W.heap.size W w':=by
 have h:=o3
 unfold k3 at h
 exact JT h (Dh h0 h1) d0 d1 hF
end Go.Proofs.YtehbbcdhahnkgaaGreat.Vm
