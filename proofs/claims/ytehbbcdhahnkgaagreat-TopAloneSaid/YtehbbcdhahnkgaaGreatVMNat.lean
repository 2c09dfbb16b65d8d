/- The value machine and the machine: slices.Clone. -/
import Derived.Test.YtehbbcdhahnkgaaGreatVMCall
import Derived.Shelf.SlLaysE0
import Derived.Shelf.RegionOpenPlain
import Derived.WalkKit
import Derived.Deep.LoopGhost
import Derived.Lib.Walk
import Derived.Lib.SliceRun
import Derived.Lib.AppendZeros
set_option linter.all false
set_option maxRecDepth 100000
set_option maxHeartbeats 0
namespace Go.Proofs.YtehbbcdhahnkgaaGreat.Vm
open Go
section
variable {P:Program}{ρ:En}
theorem qQ{w:World}{b:Nat}{arr:Array Value}{el:TypeId}{fr:Nat×Nat}(h:w.heap[b]?=some (.cells arr el fr)){k:Nat}{u:Value}(hk:arr[k]?=some u):w.cell? ⟨b,k,none⟩=some u:=by
 rw[cell_of_row w b _ _ el fr h];exact hk
theorem pX.El{f:Nat}{B:Func}(h:Bears P f B)(hb:B.body.isNone=false):pX P f:=by
 obtain⟨nm,hn,hf⟩:=h
 exact⟨_,hf,hb,hn⟩
theorem a4b{H:Hp}{m m1:Mp}{w':World}{U:Nat->Prop}{n:Nat}{ws0:List Wr}{t:DT}{x:t.den}{v':Value}{B:Option Nat}(eY:m.le m1)(hU:∀id,m1.has id->U id)(hn:¬U n)(ht:t.isL=true)(hw:a0d ρ (cw H ws0) m1 w')(hr:kL m1.fz w' t x v' B)(hg:mu ρ (cw H ws0) m1 B.toList):
 ∃m' v,Ending.returned v'=.returned v/\m.le m'/\den m' (.li n)=some v/\a0d ρ (cw H (ws0++[.ej n (some (.row t x))])) m' w'/\∀id,m'.has id->U id∨(n<=id/\id<n+1):=by
 obtain⟨q1,q2,_⟩:=hw.own (fun e=>hn (hU _ e)) ht hr hg
 refine⟨_,v',rfl,Mp.le_trans eY q1,?_,by rw[a0o];exact q2,fun id hid=> ?_⟩
 ·simp only[den]
  rw[fP]
  rcases hr with⟨A,e,_⟩|⟨b,o',el,c,cz,vs,post,_,e,_⟩
  ·exact⟨A,0,0,by show gW m1.pl n (some v') n=_;rw[bQ,e],e⟩
  ·exact⟨_,_,c,by show gW m1.pl n (some v') n=_;rw[bQ,e],e⟩
 ·rcases a3O hid with q|q
  ·exact .inl (hU id q)
  ·exact .inr ⟨by omega,by omega⟩
open Go.Shelf Go.RowKit Go.Lib in
set_option maxHeartbeats 2000000 in
set_option maxRecDepth 100000 in
theorem B4{σ:Shelf.Ren}(L:SlLaysE0.n41 P σ){te:TI}(he:xB P (σ.t 23) te){w:World}{A:Addr}{n c:Nat}{v':Value}{w':World}(hr:∀ty,(Builtin.append_ #[σ.t 22,σ.t 22] ty #[.slice (some ⟨w.heap.size,0,none⟩) 0 0,.slice (some A) n c]).run P (w.alloc (.cells #[] (σ.t 23)))=.ok v' w'):
 Calls P (σ.f 41) #[.slice (some A) n c] w fun e w''=>e=.returned v'/\w''=w':=by
 have mixed:=L.mixed;have t4:=L.t4;have a4:=L.a4;have z4:=L.z4;have v4:=L.v4;have t22:=L.t22;have a22:=L.a22;have z22:=L.z22;have v22:=L.v22
 have q22:∀(w:World) (a:Option Addr) (n c n' c':Nat),(binOp .eql (σ.t 22) (.slice a n c) (.slice none n' c')).run P w=.ok (.bool a.isNone) w:=fun w a n c n' c'=>Lib.run_eql_slice_nil w _ _ a n c n' c' L.t22
 have u22:∀w,Sem.run P (underlying (σ.t 22)) w=.ok (TypeDesc.slice (σ.t 23)) w:=run_underlying t22
 have z23:∀w,(Go.sizeOf (σ.t 23)).run P w=.ok te.ty.size w:=fun w=>gH he.Is
 obtain⟨_,_,FG⟩:=L.f41
 go_enter FG,SlBodyN.n41_ntmps σ
 go_wp2_with (at_builtin;refine Lib.wpList_append_run _ rfl _ _ _ _ rfl _ _ rfl rfl _ _ (hr _) ?_)
 go_wp2
 go_ret
 exact⟨rfl,rfl⟩
open Go.Shelf Go.RowKit Go.Lib in
set_option maxHeartbeats 1000000 in
theorem Ii{σ:Shelf.Ren}(L:SlLaysE0.n41 P σ)(n c:Nat)(w:World):Calls P (σ.f 41) #[.slice none n c] w fun e w'=>e=.returned (.slice none 0 0)/\w'=w:=by
 have mixed:=L.mixed;have t4:=L.t4;have a4:=L.a4;have z4:=L.z4;have v4:=L.v4;have t22:=L.t22;have a22:=L.a22;have z22:=L.z22;have v22:=L.v22
 have q22:∀(w:World) (a:Option Addr) (n c n' c':Nat),(binOp .eql (σ.t 22) (.slice a n c) (.slice none n' c')).run P w=.ok (.bool a.isNone) w:=fun w a n c n' c'=>Lib.run_eql_slice_nil w _ _ a n c n' c' L.t22
 obtain⟨_,_,FG⟩:=L.f41
 go_enter FG,SlBodyN.n41_ntmps σ
 go_wp2
 go_ret
 exact⟨rfl,rfl⟩
theorem a2S{d:Bool}{σ:Shelf.Ren}(L:SlLaysE0.n41 P σ){te:TI}(he:xB P (σ.t 23) te){t:DT}(ht:(cT t).isL=true)(hs:te.ty.size=u5 (cT t))(hb:te.bytes<=lim (cT t))(hbp:0<te.bytes):jS d P (σ.f 41) {kind:=1,t:=t}:=by
 intro ρ args n K S H r _ h
 rcases args with _|⟨v,_|⟨v2,_|⟨v3,_|⟨v4,l⟩⟩⟩⟩<;>try exact aA h
 ·obtain⟨x,hk,hlr⟩:=Ec (t:=cT t) ht h
  refine⟨_,_,_,hk,Nat.le_succ n,fQ _ _,pX.El L.f41 rfl,fun m w U vals hrep hU hfree hargs=> ?_⟩
  obtain⟨val,hv,rfl⟩:=ik hargs
  obtain⟨A,c,us,e1,hus,hat,hnil,hspot,hlim⟩:=hlr hrep hv
  subst e1
  have hn:¬U n:=hfree n (Nat.le_refl _) (Nat.lt_succ_self _)
  obtain⟨i0,hi,hz,hsz,hby⟩:=he.parts
  have hz0:lenL (cT t) x=0->us=[]:=fun h0=>List.eq_nil_of_length_eq_zero (by rw[hus.len,h0,Nat.zero_mul])
  cases A with
  |none=>
   have h0:lenL (cT t) x=0:=by
    rcases Nat.eq_zero_or_pos (lenL (cT t) x)with h0|h0
    ·exact h0
    ·obtain⟨b,o,arr,el,fr,g1,_⟩:=hat h0
     cases g1
   rw[hz0 h0]at hus
   refine(Ii L (lenL (cT t) x) c w).mono fun e w' ⟨q1,q2⟩=> ?_
   subst q1 q2
   exact a4b (ws0:=[]) (Mp.le_refl m) hU hn ht hrep (.inl ⟨none,rfl,(fun p e=>by cases e),hus,h0,rfl⟩) mu.nil
  |some p=>
   obtain⟨w1,hw1⟩:∃w1,w1=w.alloc (.cells #[] (σ.t 23)):=⟨_,rfl⟩
   have hk1:∀k,k<w.heap.size->w1.heap[k]?=w.heap[k]?:=fun k hk=>by rw[hw1];exact Go.heap_alloc_old w _ hk
   have hwo1:Wo w w1:=by rw[hw1];exact⟨rfl,rfl,rfl,Nat.le_refl _⟩
   have hrep1:a0d ρ H m w1:=hrep.grow hk1 hwo1
   have hsz1:w.heap.size<=w1.heap.size:=CV hk1
   have hlr1:LR m.fz w1 (cT t) x (.slice (some p) (lenL (cT t) x) c):=⟨some p,c,us,rfl,hus,fun h0=>by
    obtain⟨b,o,arr,el,fr,g1,g2,g3⟩:=hat h0
    exact⟨b,o,arr,el,fr,g1,by rw[hk1 b (Array.getElem?_eq_some_iff.1 g2).1];exact g2,g3⟩,hnil,hspot,hlim⟩
   obtain⟨us',hus',hsrc⟩:=hlr1.src (P:=P) (tx:=σ.t 22) (e':=σ.t 23) L.t22
   rw[<-hs,<-hsz]at hsrc
   have hul:=hus'.len
   rcases Nat.eq_zero_or_pos (lenL (cT t) x)with h0|h0
   ·have hus0:us'=[]:=List.eq_nil_of_length_eq_zero (by rw[hul,h0,Nat.zero_mul])
    subst hus0
    rw[h0]at hsrc⊢
    have hrun:=fun ty=>sB (σ.t 22) (σ.t 22) ty (σ.t 23) i0 L.t22 hi (A:=some ⟨w.heap.size,0,none⟩) (sLen:=0) (sCap:=0) hsrc (Nat.le_refl 0)
    rw[hw1]at hrun
    refine(B4 L he hrun).mono fun e w' ⟨q1,q2⟩=> ?_
    subst q1 q2
    rw[<-hw1]
    exact a4b (ws0:=[]) (Mp.le_refl m) hU hn ht hrep1 (.inl ⟨_,rfl,(fun p e=>by cases e;rfl),hus',h0,rfl⟩) mu.nil
   ·have hbig:=Nat.le_trans (Nat.mul_le_mul_left (lenL (cT t) x) hb) hlim
    have hlen:lenL (cT t) x<=9223372036854775807:=by
     have:=Nat.mul_le_mul_left (lenL (cT t) x) hbp
     omega
    have hfit:=growslice_fits (need:=0+lenL (cT t) x) (old:=0) (bytes:=te.bytes) (by omega) (by rw[Nat.zero_add];exact hbig)
    rw[<-hby]at hfit
    have hrun:=fun ty=>run_append_grow_src w1 (σ.t 22) (σ.t 22) ty (σ.t 23) i0 _ L.t22 hi hz (some ⟨w.heap.size,0,none⟩) 0 0 [] (run_firstCells_some w1.drew _ 0 _ 0 _ [] (by simp) (fun j u hu=>by simp at hu)) _ _ us' hsrc (by omega) (by omega) hfit
    rw[hw1]at hrun
    refine(B4 L he hrun).mono fun e w' ⟨q1,q2⟩=> ?_
    subst q1
    rw[<-hw1]at q2⊢
    have hge:=grownCap_ge w1 (0+lenL (cT t) x) 0 (σ.t 23)
    have hcm:=grownCap_le_maxLen w1 (0+lenL (cT t) x) 0 (σ.t 23) (by unfold maxLen;omega)
    have hk2:∀k,k<w1.heap.size->w'.heap[k]?=w1.heap[k]?:=fun k hk=>by rw[q2];exact Go.heap_alloc_old w1.drew _ hk
    have hrep2:a0d ρ H m w':=hrep1.grow hk2 (by rw[q2];exact⟨rfl,rfl,rfl,Nat.le_succ _⟩)
    rw[Nat.zero_add]at*
    refine a4b (ws0:=[]) (B:=some w1.heap.size) (Mp.le_refl m) hU hn ht hrep2 (.inr ⟨w1.heap.size,0,σ.t 23,_,[],us',(Builtin.zeroCells (pk te.ty (zc te.ty)).cells (grownCap w1 (lenL (cT t) x) 0 (σ.t 23)-lenL (cT t) x)).toList,rfl,rfl,?_,rfl,hus',hge,⟨hcm,hlim⟩,?_⟩) (mu.new hrep hsz1 hrep2.ff)
    ·rw[q2]
     have:=Go.heap_alloc_new w1.drew (.cells ((([]:List Value)++us').toArray++Builtin.zeroCells (pk te.ty (zc te.ty)).cells (grownCap w1 (lenL (cT t) x) 0 (σ.t 23)-lenL (cT t) x)) (σ.t 23))
     refine this.trans ?_
     congr 2;apply Array.toList_inj.1;simp
    ·rw[uF,po,xy,hul,hs,<-Nat.add_mul]
     congr 1;omega
end
end Go.Proofs.YtehbbcdhahnkgaaGreat.Vm
