/- The law TopAlone: the program's text returns true for every script and every list of codes. Conditions: those that the given statement TopAloneSaid itself names, no other. -/
import Derived.Test.YtehbbcdhahnkgaaGreatRows
import Derived.Test.YtehbbcdhahnkgaaGreatVMEnd
import Derived.WalkKit
import Derived.ProofKit
import Derived.OpenShut
import Derived.ShutString
import Derived.ChangeOld
import Derived.Below
import Derived.ChangeSlices
set_option linter.all false
set_option maxRecDepth 100000
set_option maxHeartbeats 0
namespace Go.Proofs.YtehbbcdhahnkgaaGreat.lawTopAlone
open Go.ChangeShapes Go.WideShapes Go.ChangeAt Go.RowKit
open Go.ChangeMaps (open_string shut_string)
open Go.Proofs.YtehbbcdhahnkgaaGreat.Vm (DR EW Fz All2 Wy GK CE Au a0p xE tupVal)
set_option linter.unusedVariables false
theorem own:ownKnob Tryz.prog.godebug=none:=by kernel_rfl
theorem Ht:laidOutB Tryz.prog=true:=by kernel_rfl
def Fall(W:World):Fz:=fun b=>match W.heap[b]? with
 |some (.cells arr _ _)=>some arr
 |_=>none
theorem N8{W:World}(b:Nat)(arr:Array Value)(h:Fall W b=some arr):∃el fr,W.heap[b]?=some (.cells arr el fr):=by
 unfold Fall at h
 split at h
 ·rename_i el fr e;cases h;exact⟨el,fr,e⟩
 ·cases h
theorem Dr{H:Type}{enc:TypeId×Value->H}{W:World}{base base2:Nat}{held:Bool}{a:Option Addr}{len cap:Nat}{d:DataW H}{p:List MemPlace}(hok:Value.okWide Tryz.prog W .any base2 22 (.slice a len cap))
 (h:DataW.Trod enc Tryz.prog W base (fun _=>true) held 22 (.slice a len cap) d p):∃l:List Int,(∀v∈l,0<=v/\v<256)/\DR (Fall W) (.a01 (.int .u8)) l [.slice a len cap]:=by
 obtain⟨fuel,hf⟩:=h
 rcases open_ints Tryz.underlying22 Tryz.underlying5 (by kernel_rfl) hf with⟨hcs,_⟩|⟨x,l,c,zs,hcs,_,hl,hm,hz,_,hcell,hwz⟩
 ·simp[Value.cells]at hcs
  obtain⟨rfl,rfl,rfl⟩:=hcs
  exact⟨[],by simp,_,rfl,none,0,rfl,Nat.le_refl _,⟨Nat.zero_le _,by decide⟩,fun _=>rfl,fun p e=>(by cases e),[],⟨[],rfl,trivial⟩,fun h=>absurd h (by decide)⟩
 ·simp[Value.cells]at hcs
  obtain⟨rfl,rfl,rfl⟩:=hcs
  have hzl:zs.length=cap:=by simpa using hz
  have hsp:x.spot=none:=by
   have hu:=Tryz.underlying22
   simp only[Value.okWide,Cell.okWide,Cell.ok,hu]at hok
   exact hok.2.2.2.1
  have hlen:(zs.take len).length=len:=by simp;omega
  have hb:∀z∈zs,0<=z/\z<256:=fun z hz=>by
   have:=bounds_u8 (hwz z hz)
   omega
  refine⟨zs.take len,fun v hv=>hb v (List.mem_of_mem_take hv),_,rfl,some x,cap,by rw[hlen],by rw[hlen];exact hl,⟨hm,by show(zs.take len).length*0<=_;omega⟩,fun e=>(by cases e),fun p e=>(by cases e;exact hsp),(zs.take len).map fun z=>Value.int .u8 z,⟨(zs.take len).map fun z=>[Value.int .u8 z],?_,?_⟩,fun hn=> ?_⟩
  ·generalize zs.take len=l
   induction l with
   |nil=>rfl
   |cons z l ih=>simp only[List.map_cons,List.flatten_cons,<-ih];rfl
  ·have:∀l:List Int,(∀z∈l,0<=z/\z<256)->All2 (DR (Fall W) (.int .u8)) l (l.map fun z=>[Value.int .u8 z]):=by
    intro l
    induction l with
    |nil=>intro _;trivial
    |cons z l ih=>
     intro h
     have h1:=h z (by simp)
     refine⟨⟨rfl,?_⟩,ih fun z hz=>h z (by simp[hz])⟩
     show(decide (_<=z)&&decide (z<=_))=true
     rw[Bool.and_eq_true,decide_eq_true_eq,decide_eq_true_eq]
     exact⟨h1.1,by show z<=255;omega⟩
   exact this _ fun z hz=>hb z (List.mem_of_mem_take hz)
  ·rw[hlen]at hn
   obtain⟨b,o,s⟩:=x
   have hs:s=none:=hsp
   subst hs
   have h0:=hcell 0 (by omega)
   rw[Addr.add_lit]at h0
   simp only[World.cell?]at h0
   have hcb:∃arr el fr,W.heap[b]?=some (.cells arr el fr):=by
    cases e:W.heap[b]? with
    |none=>simp[e]at h0
    |some ob=>cases ob<;>simp[e]at h0;exact⟨_,_,_,rfl⟩
   obtain⟨arr,el,fr,hg⟩:=hcb
   refine⟨b,o,arr,rfl,by simp[Fall,hg],fun j u hu=> ?_⟩
   have hj:j<len:=by
    have:=(List.getElem?_eq_some_iff.1 hu).1
    simp at this
    omega
   have hcj:=hcell j (by omega)
   rw[Addr.add_lit,cell_of_row W b _ _ el fr hg]at hcj
   rw[hcj]
   simp only[List.getElem?_map,List.getElem?_take,hj,if_true,List.getElem?_eq_getElem (show j<zs.length by omega),Option.map_some,Option.some.injEq]at hu
   rw[<-hu]
   simp only[List.getD,List.getElem?_eq_getElem (show j<zs.length by omega),Option.getD_some]
set_option maxRecDepth 100000 in
theorem lifted(os:Os)(started:os.Started)(H:Type)(enc:TypeId×Value->H):
 ReturnsInHanded {} Tryz.checked os 3 .any (Rows.topAloneSpec.pre6 enc Tryz.prog Tryz.f3 Rows.topAloneRow.domain false) (Rows.topAloneSpec.post enc Tryz.prog Tryz.f3 false true false false):=by
 refine returnsInHanded_of_change (C:=Tryz.checked) own started (by kernel_rfl) Tryz.func3
  (ChangeSpec.witness6 (enc:=enc) (C:=Tryz.checked) false ⟨#[], #[.slice none 0 0,.slice none 0 0],[]⟩ 8 (by kernel_rfl) (by kernel_rfl) (by kernel_rfl) (by kernel_rfl)) ?_
 intro W base args ds gs before hval0 hW hcnd hsz
 have hval:∀(j:Nat) t v,Tryz.f3.params[j]?=some t->args[j]?=some v->Value.okWide Tryz.prog W .any base t v:=hval0
 have hW':=hW
 obtain⟨p,q,hA0,hV,rfl,hfz,hnd⟩:=hW
 have hA:DataW.TrodAll enc Tryz.prog W 0 (fun _=>true) true Tryz.f3.params.toList args.toList ds p:=hA0
 rw[Tryz.params3]at hA hval
 obtain⟨v0,vs0,d0,ds0,p0,q0,hargs,rfl,rfl,h0,r0⟩:=trodAll_cons hA
 obtain⟨v1,vs1,d1,ds1,p1,q1,rfl,rfl,rfl,h1,r1⟩:=trodAll_cons r0
 obtain⟨rfl,rfl,rfl⟩:=trodAll_nil r1
 obtain rfl:args= #[v0,v1]:=by cases args;simp_all
 obtain⟨rfl,rfl⟩:=trodVars_none hV
 obtain⟨a0,len0,cap0,rfl⟩:=okWide_slice Tryz.underlying22 (hval 0 22 v0 rfl rfl)
 have k0:=h0
 have lt0:∀x∈p0,x.block<W.heap.size:=by obtain⟨m,hm⟩:=k0;exact DataW.trod_lt m _ _ _ hm
 obtain⟨l0,b0,rd0⟩:=Dr (hval 0 22 _ rfl rfl) h0
 obtain⟨a1,len1,cap1,rfl⟩:=okWide_slice Tryz.underlying22 (hval 1 22 v1 rfl rfl)
 have k1:=h1
 have lt1:∀x∈p1,x.block<W.heap.size:=by obtain⟨m,hm⟩:=k1;exact DataW.trod_lt m _ _ _ hm
 obtain⟨l1,b1,rd1⟩:=Dr (hval 1 22 _ rfl rfl) h1
 clear hA0 hval0
 have walk:Calls Tryz.prog 3 #[.slice a0 len0 cap0,.slice a1 len1 cap1] W fun e w'=>e=.returned (.bool true)/\Below W.heap.size W w':=xE b0 b1 rd0 rd1 N8
 refine walk.mono fun e W' ⟨he,bel⟩=> ?_
 subst he
 have bel:Below W.heap.size W W':=bel
 exact⟨_,rfl,_,_,_,[],_,[],hW',trodAll_mk1 (shut_bool Tryz.underlying4 _),(trodAll_cons_mk (Below.trod Ht (by kernel_rfl) (of_decide_eq_true (by kernel_rfl)) k0 bel lt0) (trodAll_cons_mk (Below.trod Ht (by kernel_rfl) (of_decide_eq_true (by kernel_rfl)) k1 bel lt1) trodAll_mk0)),rfl,bel.frame _,fun h=>by cases h⟩
theorem both{a b:Bool}(h:a=true)(h':b=true):(a&&b)=true:=by rw[h,h'];rfl
theorem US:(Rows.topAloneRow.wf (OpenSpec.ofChange Rows.topAloneSpec))=true:=by kernel_rfl
theorem UT:(laidOutB Tryz.pinned.checked.prog)=true:=by kernel_rfl
theorem UU:(mapsRowed Tryz.pinned.checked.prog)=true:=by kernel_rfl
theorem a57:(Tryz.f3.params.all (Tryz.pinned.checked.prog.readableRec ·))=true:=by kernel_rfl
theorem UW:(namedTie Tryz.pinned.checked.prog Rows.topAloneRow.named Rows.topAloneSpec.vars)=true:=by kernel_rfl
theorem UX:(Rows.topAloneRow.stops==[])=true:=by kernel_rfl
theorem UY:(Tryz.pinned.checked.prog.stops==[])=true:=by kernel_rfl
theorem UZ:(Rows.topAloneRow.knobs==[])=true:=by kernel_rfl
theorem V0:(Tryz.pinned.checked.prog.stopKnobs==[])=true:=by kernel_rfl
theorem V1:(Rows.topAloneRow.inPlace==Tryz.pinned.checked.prog.inPlace 3)=true:=by kernel_rfl
theorem Q4:(Rows.topAloneRow.unfollowed==Tryz.pinned.checked.prog.unfollowed 3)=true:=by kernel_rfl
theorem Q5:(Rows.topAloneRow.recurses==Tryz.pinned.checked.prog.recurses 3)=true:=by kernel_rfl
theorem Q6:(Rows.topAloneRow.named==Tryz.pinned.checked.prog.varsNamed 3)=true:=by kernel_rfl
theorem Q7:(Rows.topAloneRow.maps==(Tryz.f3.params.toList++Rows.topAloneSpec.plain.varTypes Tryz.pinned.checked.prog).any (Tryz.pinned.checked.prog.mapsRec ·))=true:=by kernel_rfl
theorem Q8:(Rows.topAloneRow.ifaces==(Tryz.f3.params.toList++Rows.topAloneSpec.plain.varTypes Tryz.pinned.checked.prog).any (Tryz.pinned.checked.prog.ifacesRec ·))=true:=by kernel_rfl
theorem Q9:(Rows.topAloneRow.mapsOut==Tryz.pinned.checked.prog.mapsAmong Tryz.f3.resultTypes.toList)=true:=by kernel_rfl
theorem Qa:(Rows.topAloneRow.loops==(Tryz.f3.params.toList++Rows.topAloneSpec.plain.varTypes Tryz.pinned.checked.prog).any (Tryz.pinned.checked.prog.loopsFrom ·))=true:=by kernel_rfl
theorem Qb:(Rows.topAloneRow.wideKeys==(Tryz.f3.params.toList++Rows.topAloneSpec.plain.varTypes Tryz.pinned.checked.prog++Tryz.f3.resultTypes.toList).any (Tryz.pinned.checked.prog.wideKeysFrom ·))=true:=by kernel_rfl
theorem Qc:(Rows.topAloneSpec.vars.all (Tryz.pinned.checked.prog.varReadable ·))=true:=by kernel_rfl
theorem Qd:(Tryz.f3.resultTypes.all (fun t=>Tryz.pinned.checked.prog.readableRec t&&decide (t<Tryz.pinned.checked.prog.types.size)))=true:=by kernel_rfl
theorem Qe:(Rows.topAloneRow.ifacesOut==Tryz.f3.resultTypes.toList.any (Tryz.pinned.checked.prog.ifacesRec ·))=true:=by kernel_rfl
theorem Qf:(Rows.topAloneRow.loopsOut==Tryz.f3.resultTypes.toList.any (Tryz.pinned.checked.prog.loopsFrom ·))=true:=by kernel_rfl
theorem Qg:(Rows.topAloneRow.plainKeys==Tryz.pinned.checked.prog.plainKeys)=true:=by kernel_rfl
theorem Qh:(Rows.topAloneRow.shortTexts.isNone)=true:=by kernel_rfl
theorem Qi:(Tryz.pinned.checked.prog.stopsHeard)=true:=by kernel_rfl
theorem Qj:(Tryz.pinned.checked.prog.mayEnter)=true:=by kernel_rfl
theorem Qk:(Rows.topAloneRow.lifted==Tryz.pinned.checked.prog.liftsFinal)=true:=by kernel_rfl
theorem Ql:(Tryz.pinned.checked.prog.make==some Rows.topAloneRow.make)=true:=by kernel_rfl
theorem Qm:(Rows.topAloneRow.kinds==(if Rows.topAloneRow.domain.isEmpty then []else Tryz.f3.params.toList.map fun t=>match Tryz.pinned.checked.prog.underlying t with|some (.int k)=>some k|_=>none))=true:=by kernel_rfl
theorem Qn:(Rows.topAloneRow.pinned==Rows.topAloneRow.pinnedBy)=true:=by kernel_rfl
theorem Qo:(Rows.topAloneRow.veiled==(Tryz.f3.params.toList++Rows.topAloneSpec.plain.varTypes Tryz.pinned.checked.prog++Tryz.f3.resultTypes.toList).any (Tryz.pinned.checked.prog.veiledRec ·))=true:=by kernel_rfl
theorem Qp:(Rows.topAloneRow.veiledFits Tryz.pinned.checked.prog Tryz.f3.params.toList (Tryz.f3.params.toList++Rows.topAloneSpec.plain.varTypes Tryz.pinned.checked.prog++Tryz.f3.resultTypes.toList))=true:=by kernel_rfl
set_option maxRecDepth 100000 in
theorem Qx:joinedFacts Tryz.pinned.checked.prog 3 Tryz.f3 Rows.topAloneSpec Rows.topAloneRow=true:=by
 unfold joinedFacts
 exact(both (both (both (both (both (both (both (both (both (both (both (both (both (both (both (both (both (both (both (both (both (both (both (both (both (both (both (both (both (both (both US UT) UU) a57) UW) UX) UY) UZ) V0) V1) Q4) Q5) Q6) Q7) Q8) Q9) Qa) Qb) Qc) Qd) Qe) Qf) Qg) Qh) Qi) Qj) Qk) Ql) Qm) Qn) Qo) Qp)
theorem da:Rows.topAloneRow.holds Tryz.pinned (OpenSpec.ofChange Rows.topAloneSpec):=
 OpenClaim.holds_of_wide 3 Tryz.f3 rfl rfl rfl rfl rfl rfl rfl ⟨rfl,rfl,rfl,rfl,rfl⟩ rfl rfl rfl rfl rfl (by kernel_rfl) Tryz.func3 Qx
  (of_decide_eq_true (by kernel_rfl)) (by unfold Func.isWrapper;first|(rw[if_pos (by decide+kernel)];kernel_rfl)|(rw[if_neg (by decide+kernel)];exact⟨rfl,rfl⟩))
  (fun os started H enc _=>lifted os started H enc)
theorem proved:Rows.TopAloneSaid:=da
end Go.Proofs.YtehbbcdhahnkgaaGreat.lawTopAlone
