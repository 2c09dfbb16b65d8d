/- dataplane.Choose: its parts go as the value machine says. slices.Backward over a list of children. -/
import Derived.Test.YtehbbcdhahnkgaaGreatVMCx
import Derived.LoopNIn
set_option linter.all false
set_option maxRecDepth 100000
set_option maxHeartbeats 0
namespace Go.Proofs.YtehbbcdhahnkgaaGreat.Vm
open Go Go.RowKit
theorem uf:∀{bs:List Bx} {i:Nat} {o:Ob},ue bs i=some o->∃q∈bs,q.id=i/\o=.cells q.el q.cs
 |[],_,_,h=>by cases h
 |q::l,i,o,h=>by
  have h:(bif Nat.beq q.id i then some (.cells q.el q.cs)else ue l i)=some o:=h
  cases e:Nat.beq q.id i with
  |true=>rw[e]at h;cases h;exact⟨q,by simp,Nat.eq_of_beq_eq_true e,rfl⟩
  |false=>rw[e]at h;obtain⟨q',h1,h2⟩:=uf (show ue l i=some o from h);exact⟨q',by simp[h1],h2⟩
theorem BQ{ρ:En}{m:Mp}{W:World}{bs:List Bx}{bl:Nat->Nat}(hk:uH ρ W)(hfz:∀b arr,m.fz b=some arr->∃el fr,W.heap[b]?=some (.cells arr el fr))(hfm:∀b,m.fz b≠none->ρ.fz b≠none∨ρ.eJ b)
 (h:∀q∈bs,∃vs,m.ad q.id=some (bl q.id)/\denL m q.cs=some vs/\q.cs.all HV.one=true/\W.heap[bl q.id]?=some (.cells vs.toArray q.el (0,0))/\ρ.eJ (bl q.id)/\m.fz (bl q.id)=none)
 (hne:∀q∈bs,∀q'∈bs,q.id≠q'.id->bl q.id≠bl q'.id):a0d ρ (ue bs) m W:=by
 refine⟨fun i o hi=> ?_,fun i j o o' b b' hij hi hj _ _ hb hb'=> ?_,hk,fun i o b hi _ hb=> ?_,hfz,fun i o b hi _ hb=> ?_,hfm⟩
 ·obtain⟨q,hq,rfl,rfl⟩:=uf hi
  obtain⟨vs,h1,h2,h3,h4,_⟩:=h q hq
  exact⟨_,vs,h1,h2,h3,h4⟩
 ·obtain⟨q,hq,rfl,rfl⟩:=uf hi
  obtain⟨q',hq',rfl,rfl⟩:=uf hj
  obtain⟨_,h1,_⟩:=h q hq
  obtain⟨_,h2,_⟩:=h q' hq'
  rw[h1]at hb;rw[h2]at hb'
  cases hb;cases hb'
  exact hne q hq q' hq' hij
 ·obtain⟨q,hq,rfl,rfl⟩:=uf hi
  obtain⟨_,h1,_,_,_,h5,_⟩:=h q hq
  rw[h1]at hb;cases hb;exact h5
 ·obtain⟨q,hq,rfl,rfl⟩:=uf hi
  obtain⟨_,h1,_,_,_,_,h6⟩:=h q hq
  rw[h1]at hb;cases hb;exact h6
structure CS where
 F:Fz
 g:aa
 r:Int
 p:a05
 bg:Nat
 br:Nat
 bp:Nat
 bt:Nat
 Iu:List Value
 HI:List Value
structure CS.ok(s:CS):Prop where
 dg:DR s.F aq s.g s.Iu
 dp:DR s.F cK s.p s.HI
 dr:a0p .i64 s.r=true
 nf:∀b∈[s.bg,s.br,s.bp,s.bt],s.F b=none
 nd:[s.bg,s.br,s.bp,s.bt].Nodup
structure CF(s:CS)(W:World):Prop where
 fz:∀b arr,s.F b=some arr->∃el fr,W.heap[b]?=some (.cells arr el fr)
 hg:W.heap[s.bg]?=some (.cells s.Iu.toArray 34 (0,0))
 hr:W.heap[s.br]?=some (.cells #[.int .i64 s.r] 3 (0,0))
 hp:W.heap[s.bp]?=some (.cells s.HI.toArray 52 (0,0))
 ht:W.heap[s.bt]?=some (.cells #[.int .i64 0] 3 (0,0))
def CS.bl(s:CS)(bc:Nat)(i:Nat):Nat:=match i with
 |200=>s.bg
 |201=>s.br
 |202=>s.bp
 |203=>s.bt
 |_=>bc
def CS.m0(s:CS)(bc:Nat):Mp:=⟨fun i=>if 200<=i/\i<205 then some (s.bl bc i)else none,fun _=>none,fun _=>none,s.F⟩
theorem CS.Po{s:CS}(hs:s.ok){W:World}(h:CF s W)(bc:Nat){c:a00}{cvs:List Value}(hc:DR s.F a0l c cvs)(ρ:En)(hk:uH ρ W)(hfm:∀b,s.F b≠none->ρ.fz b≠none∨ρ.eJ b):
 ∃m:Mp,m.fz=s.F/\(∀i,m.has i->i<300)/\(s.m0 bc).le m/\denL m (exC aq s.g 0)=some s.Iu/\denL m (exC cK s.p 8)=some s.HI/\denL m (exC a0l c 20)=some cvs/\denL m [.i .i64 s.r]=some [.int .i64 s.r]:=by
 have h0:a0d ρ (fun _=>none) (s.m0 bc) W:=⟨fun i o h=>(by cases h),fun i j o o' b b' hne hi=>(by cases hi),hk,fun i o b hi=>(by cases hi),h.fz,fun i o b hi=>(by cases hi),hfm⟩
 have hdd:∀{t:DT} {x:t.den} {vs:List Value},t.calm=true->DR s.F t x vs->DD s.F W t x vs []:=by
  intro t
  induction t with
  |ak a b iha ihb=>
   intro x vs hc ⟨us,rs,e,h1,h2⟩
   simp only[DT.calm,Bool.and_eq_true]at hc
   exact⟨us,rs,[],[],e,rfl,iha hc.1 h1,ihb hc.2 h2⟩
  |bH t _=>intro x vs hc;cases hc
  |otrees=>intro x vs hc;cases hc
  |_=>intro x vs _ h;exact⟨h,rfl⟩
 have hno:∀i,i<200->¬(s.m0 bc).has i:=fun i hi hh=>by
  rcases hh with q|q|q
  ·apply q;show(if 200<=i/\i<205 then _ else none)=none;rw[if_neg (by omega)]
  ·exact q rfl
  ·exact q rfl
 have hle0:∀i,(s.m0 bc).has i->i<205:=fun i hh=>by
  rcases Nat.lt_or_ge i 205 with q|q
  ·exact q
  ·exfalso
   rcases hh with u|u|u
   ·apply u;show(if 200<=i/\i<205 then _ else none)=none;rw[if_neg (by omega)]
   ·exact u rfl
   ·exact u rfl
 obtain⟨m1,i1⟩:=a2Y (n:=0) h0 (hdd (t:=aq) rfl hs.dg) mu.nil (fun i _ hi=>hno i (by have:i<0+8:=hi;omega))
 have r1:a0d ρ (fun _=>none) m1 W:=i1.rep
 have f1:m1.fz=s.F:=i1.fz
 have n1:∀i,8<=i->i<200->¬m1.has i:=fun i h1 h2 hh=>by
  rcases i1.has i hh with q|q
  ·exact hno i h2 q
  ·have:i<0+8:=q.2
   omega
 obtain⟨m2,i2⟩:=a2Y (n:=8) (t:=cK) (x:=s.p) (vs:=s.HI) (G:=[]) r1 (by rw[f1];exact hdd (t:=cK) rfl hs.dp) mu.nil (fun i h1 hi=>n1 i h1 (by have:i<8+0:=hi;omega))
 have r2:a0d ρ (fun _=>none) m2 W:=i2.rep
 have f2:m2.fz=s.F:=i2.fz.trans f1
 have l2:a0l.lists<=100:=by decide
 obtain⟨m3,i3⟩:=a2Y (n:=20) (t:=a0l) (x:=c) (vs:=cvs) (G:=[]) r2 (by rw[f2];exact hdd (t:=a0l) rfl hc) mu.nil (fun i h1 hi hh=>by
  rcases i2.has i hh with q|q
  ·exact n1 i (by omega) (by omega) q
  ·have:i<8+0:=q.2
   omega)
 refine⟨m3,i3.fz.trans f2,fun i hi=> ?_,Mp.le_trans i1.le (Mp.le_trans i2.le i3.le),fc (Mp.le_trans i2.le i3.le) i1.cs,fc i3.le i2.cs,i3.cs,by simp[denL,den,hs.dr]⟩
 rcases i3.has i hi with q|q
 ·rcases i2.has i q with q|q
  ·rcases i1.has i q with q|q
   ·have:=hle0 i q;omega
   ·have:i<0+8:=q.2
    omega
  ·have:i<8+0:=q.2
   omega
 ·have:i<20+a0l.lists:=q.2
  omega
theorem rQ{m m':Mp}{W':World}{i b el:Nat}{cs:List HV}{vs:List Value}(eY:m.le m')(hb:m.ad i=some b)(hcs:denL m cs=some vs)(h:OR m' W' i (.cells el cs)):W'.heap[b]?=some (.cells vs.toArray el (0,0)):=by
 obtain⟨b',vs',h1,h2,_,h4⟩:=h
 rw[eY.ad _ _ hb]at h1;cases h1
 rw[fc eY hcs]at h2;cases h2
 exact h4
theorem a2N{G:GS}{H:Hp}{i:Nat}(hu:unB G i=true)(hc:iT H G){o:Ob}(ho:H i=some o):G.da H i=some o:=by
 unfold unB at hu
 unfold GS.da GS.find
 split at hu
 ·rename_i e
  rw[e]
  cases e2:G.ca.get i with
  |none=>exact ho
  |some o'=>have:=hc i o' e2;rw[ho]at this;cases this;rfl
 ·cases hu
theorem yG{G:GS}{H:Hp}{i el:Nat}{cs:List HV}(h:cellOf (G.st.get i)=some (el,cs)):G.da H i=some (.cells el cs):=by
 unfold cellOf at h
 split at h
 ·rename_i e
  cases h
  unfold GS.da GS.find
  rw[e]
 ·cases h
theorem rR{bk:Tr HV}{n:Nat}(H:Hp):({bk,st:=.lf,ca:=.lf,next:=n}:GS).da H=H:=by funext id;rfl
theorem yJ:∀{l:List (Nat×HV)} {k:Nat} {v:HV},(Om l).get k=some v->(k,v)∈l
 |[],k,v,h=>by cases h
 |p::l,k,v,h=>by
  have h:((Om l).set (some p.2) p.1).get k=some v:=h
  rw[Tr.mW]at h
  split at h
  ·rename_i e;cases h;subst e;simp
  ·exact List.mem_cons_of_mem _ (yJ h)
theorem BR:sH false Tryz.prog chΓ:=zh (c:=Ue) (p:=[]) ⟨a3p,Lq⟩ trivial
theorem Fe:codeDst 43 (.seq Ug Uh)=true/\codeDst 43 MS=true/\codeDst 43 PO=true:=⟨by kernel_rfl,by kernel_rfl,by kernel_rfl⟩
theorem JU:plainC (.seq Ug Uh)=true/\plainC MS=true/\plainC PO=true:=⟨by kernel_rfl,by kernel_rfl,by kernel_rfl⟩
structure CT(s:CS)(a:Act):Prop where
 df:a.defers=[]
 sz:a.tmps.size=43
 t3:a.tmps.getD 3 undef=.pointer (some ⟨s.bg,0,none⟩)
 t4:a.tmps.getD 4 undef=.pointer (some ⟨s.br,0,none⟩)
 t5:a.tmps.getD 5 undef=.pointer (some ⟨s.bp,0,none⟩)
 t6:a.tmps.getD 6 undef=.pointer (some ⟨s.bt,0,none⟩)
structure Aw(X:Nat->Prop)(W W':World):Prop where
 os:W'.os=W.os
 tape:W'.tape=W.tape
 output:W'.output=W.output
 size:W.heap.size<=W'.heap.size
 blk:∀b,b<W.heap.size->¬X b->W'.heap[b]?=W.heap[b]?
theorem CF.lt{s:CS}{W:World}(h:CF s W):∀b∈[s.bg,s.br,s.bp,s.bt],b<W.heap.size:=by
 intro b hb
 simp only[List.mem_cons,List.not_mem_nil,or_false]at hb
 rcases hb with rfl|rfl|rfl|rfl
 ·exact(Array.getElem?_eq_some_iff.1 h.hg).1
 ·exact(Array.getElem?_eq_some_iff.1 h.hr).1
 ·exact(Array.getElem?_eq_some_iff.1 h.hp).1
 ·exact(Array.getElem?_eq_some_iff.1 h.ht).1
def CS.en(s:CS)(W:World)(bc:Nat):En:=⟨W,fun b=>b∈[s.bg,s.br,s.bp,s.bt,bc],s.F,false⟩
theorem CS.a4q(s:CS)(W:World)(bc:Nat):uH (s.en W bc) W:=⟨.rfl,Nat.le_refl _,fun _ _ _=>rfl⟩
def PM(m:Mp)(H:Hp)(mj:Nat):Bs:={N:=43,U:=fun i=>i<300,n0:=300,mb:=m,H0:=H,mj,Fr:=fun _=>False,a0:=fun _=>undef}
theorem PL{s:CS}(hs:s.ok){W:World}(h:CF s W){c:a00}{cvs:List Value}(hc:DR s.F a0l c cvs){a:Act}(ha:CT s a)(t13:a.tmps.getD 13 undef=.agg cvs.toArray){ro:Option Nat}{k:Nat}{Q:Exit->Act->World->Prop}
 (hQ:∀a' W' bc,CT s a'->a'.tmps.getD 8 undef=.pointer (some ⟨bc,0,none⟩)->CF s W'->W'.heap[bc]?=some (.cells cvs.toArray 81 (0,0))->bc∉[s.bg,s.br,s.bp,s.bt]->s.F bc=none->W.heap.size<=bc->Aw (fun _=>False) W W'->Q .normal a' W'):
 MS.wpIn (FR ro) k Tryz.prog Q a W:=by
 obtain⟨m,hmf,hmU,hml,d1,d2,d3,d4⟩:=CS.Po hs h s.bg hc (s.en W s.bg) (s.a4q W s.bg) (fun b hb=>.inl hb)
 have had:∀i,200<=i->i<205->m.ad i=some (s.bl s.bg i):=fun i h1 h2=>hml.ad i _ (by show(if 200<=i/\i<205 then _ else none)=_;rw[if_pos ⟨h1,h2⟩])
 have hnd:=hs.nd
 simp only[List.nodup_cons,List.mem_cons,List.not_mem_nil,or_false,not_or,List.nodup_nil,and_true,not_false_eq_true]at hnd
 obtain⟨⟨n1,n2,n3⟩,⟨n4,n5⟩,n6⟩:=hnd
 have hrep:a0d (s.en W s.bg) (ue (kM s.g s.r s.p)) m W:=by
  refine BQ (bl:=s.bl s.bg) (s.a4q W s.bg) (fun b arr e=>h.fz b arr (by rw[<-hmf];exact e)) (fun b hb=>.inl (by rw[hmf]at hb;exact hb)) (fun q hq=> ?_) (fun q hq q' hq' hne=> ?_)
  ·have hq2:q=⟨200,34,exC aq s.g 0⟩∨q=⟨201,3,[.i .i64 s.r]⟩∨q=⟨202,52,exC cK s.p 8⟩∨q=⟨203,3,[.i .i64 0]⟩:=by simpa [kM]using hq
   rcases hq2 with rfl|rfl|rfl|rfl
   ·exact⟨_,had 200 (by omega) (by omega),d1,mP,h.hg,.inr (by simp[CS.en,CS.bl]),by rw[hmf];exact hs.nf _ (by simp[CS.bl])⟩
   ·exact⟨_,had 201 (by omega) (by omega),d4,rfl,h.hr,.inr (by simp[CS.en,CS.bl]),by rw[hmf];exact hs.nf _ (by simp[CS.bl])⟩
   ·exact⟨_,had 202 (by omega) (by omega),d2,mP,h.hp,.inr (by simp[CS.en,CS.bl]),by rw[hmf];exact hs.nf _ (by simp[CS.bl])⟩
   ·exact⟨_,had 203 (by omega) (by omega),rfl,rfl,h.ht,.inr (by simp[CS.en,CS.bl]),by rw[hmf];exact hs.nf _ (by simp[CS.bl])⟩
  ·have hq2:q.id=200∨q.id=201∨q.id=202∨q.id=203:=by
    have:q=⟨200,34,exC aq s.g 0⟩∨q=⟨201,3,[.i .i64 s.r]⟩∨q=⟨202,52,exC cK s.p 8⟩∨q=⟨203,3,[.i .i64 0]⟩:=by simpa [kM]using hq
    rcases this with rfl|rfl|rfl|rfl<;>simp
   have hq3:q'.id=200∨q'.id=201∨q'.id=202∨q'.id=203:=by
    have:q'=⟨200,34,exC aq s.g 0⟩∨q'=⟨201,3,[.i .i64 s.r]⟩∨q'=⟨202,52,exC cK s.p 8⟩∨q'=⟨203,3,[.i .i64 0]⟩:=by simpa [kM]using hq'
    rcases this with rfl|rfl|rfl|rfl<;>simp
   rcases hq2 with e|e|e|e<;>rcases hq3 with e'|e'|e'|e'<;>rw[e,e']at hne⊢<;>simp only[CS.bl]<;>first|exact absurd rfl hne|omega
 obtain⟨e,G',hrun,hK⟩:=eO (Q1 s.g s.r s.p c)
 obtain⟨_,hca⟩:=l5 _ hrun
 have hca:=hca (fun id o h=>by cases h)
 have st0:lE (s.en W s.bg) (PM m (ue (kM s.g s.r s.p)) G'.next) {bk:=Om ((13,.agg (exC a0l c 20))::TV),st:=.lf,ca:=.lf,next:=300} a W:=by
  refine⟨fun k hk=>hk.elim,⟨m,Mp.le_refl m,⟨by rw[rR];exact hrep,fun k v hk=> ?_,ha.df,ha.sz⟩,fun id hid=>.inl (hmU id hid)⟩,Nat.le_refl _⟩
  have hk2:(k=13/\v=.agg (exC a0l c 20))∨(k=3/\v=.p 200 0)∨(k=4/\v=.p 201 0)∨(k=5/\v=.p 202 0)∨(k=6/\v=.p 203 0):=by simpa [TV]using yJ hk
  rcases hk2 with⟨rfl,rfl⟩|⟨rfl,rfl⟩|⟨rfl,rfl⟩|⟨rfl,rfl⟩|⟨rfl,rfl⟩
  ·rw[t13];simp only[den,d3,mP]
  ·rw[ha.t3];simp only[den,had 200 (by omega) (by omega)];rfl
  ·rw[ha.t4];simp only[den,had 201 (by omega) (by omega)];rfl
  ·rw[ha.t5];simp only[den,had 202 (by omega) (by omega)];rfl
  ·rw[ha.t6];simp only[den,had 203 (by omega) (by omega)];rfl
 rw[<-BM (ds:=[]) ha.df]
 refine qL (ds:=[]) nJ fu (a47 (ρ:=s.en W s.bg) BR 5) MS JU.2.1 ⟨fun j h1 h2 h3=>by have:j<300:=h3;have:300<=j:=h1;omega⟩ Fe.2.1 (fun d _ hd=>hd) st0 hrun (Nat.le_refl _) (fun a' W' hst=> ?_)
 obtain⟨_,⟨m',eY,hr',hU'⟩,_⟩:=hst
 have eY:m.le m':=eY
 unfold kAsg at hK
 split at hK
 ·rename_i f s3 s4 s5 s6 s8
  obtain⟨hu,hK⟩:=cE hK
  have hK:=bR hK
  simp only[Prod.mk.injEq]at hK
  obtain⟨rfl,hcell⟩:=hK
  simp only[Bool.and_eq_true]at hu
  obtain⟨⟨⟨u0,u1⟩,u2⟩,u3⟩:=hu
  have ptr:∀{n id b:Nat},G'.bk.get n=some (.p id 0)->m.ad id=some b->a'.tmps.getD n undef=.pointer (some ⟨b,0,none⟩):=fun{n id b} h1 h2=>by
   have:=hr'.bk n _ h1
   simp only[den,eY.ad _ _ h2]at this
   exact(Option.some.inj this).symm
  have o0:=hr'.heap.fe 200 _ (a2N u0 hca (show ue (kM s.g s.r s.p) 200=some (.cells 34 (exC aq s.g 0))from rfl))
  have o1:=hr'.heap.fe 201 _ (a2N u1 hca (show ue (kM s.g s.r s.p) 201=some (.cells 3 [.i .i64 s.r])from rfl))
  have o2:=hr'.heap.fe 202 _ (a2N u2 hca (show ue (kM s.g s.r s.p) 202=some (.cells 52 (exC cK s.p 8))from rfl))
  have o3:=hr'.heap.fe 203 _ (a2N u3 hca (show ue (kM s.g s.r s.p) 203=some (.cells 3 [.i .i64 0])from rfl))
  have ho:=yG (H:=ue (kM s.g s.r s.p)) hcell.symm
  obtain⟨bc,cv,c1,c2,_,c4⟩:=hr'.heap.fe 300 _ ho
  rw[fc eY d3]at c2;cases c2
  have q0:=rQ eY (had 200 (by omega) (by omega)) d1 o0
  have q1:=rQ eY (had 201 (by omega) (by omega)) d4 o1
  have q2:=rQ eY (had 202 (by omega) (by omega)) d2 o2
  have q3:=rQ eY (had 203 (by omega) (by omega)) (show denL m [.i .i64 0]=some [.int .i64 0]from rfl) o3
  have hkp:=hr'.heap.ff
  have hold:Aw (fun _=>False) W W':=⟨hkp.wo.1,hkp.wo.2.1,hkp.wo.2.2.1,hkp.size,fun b hb _=>by
   by_cases hm:b∈[s.bg,s.br,s.bp,s.bt,s.bg]
   ·simp only[List.mem_cons,List.not_mem_nil,or_false]at hm
    rcases hm with rfl|rfl|rfl|rfl|rfl
    ·rw[h.hg];exact q0
    ·rw[h.hr];exact q1
    ·rw[h.hp];exact q2
    ·rw[h.ht];exact q3
    ·rw[h.hg];exact q0
   ·exact hkp.blk b hb hm⟩
  have hcf:CF s W':=⟨fun b arr e=>by
   obtain⟨el,fr,hg⟩:=h.fz b arr e
   exact⟨el,fr,by rw[hold.blk b (Array.getElem?_eq_some_iff.1 hg).1 (fun h=>h)];exact hg⟩,q0,q1,q2,q3⟩
  have hne:∀{i:Nat} {o:Ob} {b:Nat},i≠300->G'.da (ue (kM s.g s.r s.p)) i=some o->o.eJ=true->m'.ad i=some b->bc≠b:=fun{i o b} h1 h2 h3 h4 e=>hr'.heap.inj i 300 _ _ b bc h1 h2 ho h3 rfl h4 c1 e.symm
  refine hQ _ W' bc ⟨rfl,hr'.size,ptr s3 (had 200 (by omega) (by omega)),ptr s4 (had 201 (by omega) (by omega)),ptr s5 (had 202 (by omega) (by omega)),ptr s6 (had 203 (by omega) (by omega))⟩ ?_ hcf c4 ?_ ?_ ?_ hold
  ·have:=hr'.bk 8 _ s8
   simp only[den,c1]at this
   exact(Option.some.inj this).symm
  ·simp only[List.mem_cons,List.not_mem_nil,or_false,not_or]
   exact⟨hne (by omega) (a2N u0 hca (show ue (kM s.g s.r s.p) 200=some (.cells 34 (exC aq s.g 0))from rfl)) rfl (eY.ad _ _ (had 200 (by omega) (by omega))),hne (by omega) (a2N u1 hca (show ue (kM s.g s.r s.p) 201=some (.cells 3 [.i .i64 s.r])from rfl)) rfl (eY.ad _ _ (had 201 (by omega) (by omega))),hne (by omega) (a2N u2 hca (show ue (kM s.g s.r s.p) 202=some (.cells 52 (exC cK s.p 8))from rfl)) rfl (eY.ad _ _ (had 202 (by omega) (by omega))),hne (by omega) (a2N u3 hca (show ue (kM s.g s.r s.p) 203=some (.cells 3 [.i .i64 0])from rfl)) rfl (eY.ad _ _ (had 203 (by omega) (by omega)))⟩
  ·have:=hr'.heap.vy 300 _ bc ho rfl c1
   cases e:s.F bc with
   |none=>rfl
   |some arr=>rw[eY.fz bc arr (by rw[hmf];exact e)]at this;cases this
  ·rcases hr'.heap.off 300 _ bc ho rfl c1 with q|q
   ·exact q
   ·exfalso
    have q:bc∈[s.bg,s.br,s.bp,s.bt,s.bg]:=q
    have hn0:=hne (by omega) (a2N u0 hca (show ue (kM s.g s.r s.p) 200=some (.cells 34 (exC aq s.g 0))from rfl)) rfl (eY.ad _ _ (had 200 (by omega) (by omega)))
    have hn1:=hne (by omega) (a2N u1 hca (show ue (kM s.g s.r s.p) 201=some (.cells 3 [.i .i64 s.r])from rfl)) rfl (eY.ad _ _ (had 201 (by omega) (by omega)))
    have hn2:=hne (by omega) (a2N u2 hca (show ue (kM s.g s.r s.p) 202=some (.cells 52 (exC cK s.p 8))from rfl)) rfl (eY.ad _ _ (had 202 (by omega) (by omega)))
    have hn3:=hne (by omega) (a2N u3 hca (show ue (kM s.g s.r s.p) 203=some (.cells 3 [.i .i64 0])from rfl)) rfl (eY.ad _ _ (had 203 (by omega) (by omega)))
    simp only[List.mem_cons,List.not_mem_nil,or_false]at q
    rcases q with q|q|q|q|q
    ·exact hn0 q
    ·exact hn1 q
    ·exact hn2 q
    ·exact hn3 q
    ·exact hn0 q
 ·exact aA hK
theorem MQ{s:CS}(hs:s.ok){W:World}(h:CF s W){c:a00}{cvs:List Value}(hc:DR s.F a0l c cvs){bc:Nat}(hbc:W.heap[bc]?=some (.cells cvs.toArray 81 (0,0)))(hbn:bc∉[s.bg,s.br,s.bp,s.bt])(hbF:s.F bc=none){a:Act}(ha:CT s a)(t8:a.tmps.getD 8 undef=.pointer (some ⟨bc,0,none⟩))
 {r:Option Int} (hr:p9 LL s.g s.r s.p c=some r) {ro:Option Nat} {k:Nat} {Q:Exit->Act->World->Prop}
 (hQn:r=none->∀a' W',CF s W'->Aw (fun b=>b=bc) W W'->Q .normal a' W') (hQr:∀v,r=some v->∀a' W',CT s a'->a0p .i64 v=true->W'.heap[s.bt]?=some (.cells #[.int .i64 v] 3 (0,0))->Aw (fun b=>b∈[s.bg,s.br,s.bp,s.bt,bc]) W W'->Q .ret a' W'):
 PO.wpIn (FR ro) k Tryz.prog Q a W:=by
 obtain⟨m,hmf,hmU,hml,d1,d2,d3,d4⟩:=CS.Po hs h bc hc (s.en W bc) (s.a4q W bc) (fun b hb=>.inl hb)
 have had:∀i,200<=i->i<205->m.ad i=some (s.bl bc i):=fun i h1 h2=>hml.ad i _ (by show(if 200<=i/\i<205 then _ else none)=_;rw[if_pos ⟨h1,h2⟩])
 have hnd:=hs.nd
 simp only[List.nodup_cons,List.mem_cons,List.not_mem_nil,or_false,not_or,List.nodup_nil,and_true,not_false_eq_true]at hnd
 obtain⟨⟨n1,n2,n3⟩,⟨n4,n5⟩,n6⟩:=hnd
 simp only[List.mem_cons,List.not_mem_nil,or_false,not_or]at hbn
 obtain⟨b1,b2,b3,b4⟩:=hbn
 have hrep:a0d (s.en W bc) (ue (⟨204,81,exC a0l c 20⟩::kM s.g s.r s.p)) m W:=by
  refine BQ (bl:=s.bl bc) (s.a4q W bc) (fun b arr e=>h.fz b arr (by rw[<-hmf];exact e)) (fun b hb=>.inl (by rw[hmf]at hb;exact hb)) (fun q hq=> ?_) (fun q hq q' hq' hne=> ?_)
  ·have hq2:q=⟨204,81,exC a0l c 20⟩∨q=⟨200,34,exC aq s.g 0⟩∨q=⟨201,3,[.i .i64 s.r]⟩∨q=⟨202,52,exC cK s.p 8⟩∨q=⟨203,3,[.i .i64 0]⟩:=by simpa [kM]using hq
   rcases hq2 with rfl|rfl|rfl|rfl|rfl
   ·exact⟨_,had 204 (by omega) (by omega),d3,mP,hbc,.inr (by simp[CS.en,CS.bl]),by rw[hmf];exact hbF⟩
   ·exact⟨_,had 200 (by omega) (by omega),d1,mP,h.hg,.inr (by simp[CS.en,CS.bl]),by rw[hmf];exact hs.nf _ (by simp[CS.bl])⟩
   ·exact⟨_,had 201 (by omega) (by omega),d4,rfl,h.hr,.inr (by simp[CS.en,CS.bl]),by rw[hmf];exact hs.nf _ (by simp[CS.bl])⟩
   ·exact⟨_,had 202 (by omega) (by omega),d2,mP,h.hp,.inr (by simp[CS.en,CS.bl]),by rw[hmf];exact hs.nf _ (by simp[CS.bl])⟩
   ·exact⟨_,had 203 (by omega) (by omega),rfl,rfl,h.ht,.inr (by simp[CS.en,CS.bl]),by rw[hmf];exact hs.nf _ (by simp[CS.bl])⟩
  ·have hq2:q.id=204∨q.id=200∨q.id=201∨q.id=202∨q.id=203:=by
    have:q=⟨204,81,exC a0l c 20⟩∨q=⟨200,34,exC aq s.g 0⟩∨q=⟨201,3,[.i .i64 s.r]⟩∨q=⟨202,52,exC cK s.p 8⟩∨q=⟨203,3,[.i .i64 0]⟩:=by simpa [kM]using hq
    rcases this with rfl|rfl|rfl|rfl|rfl<;>simp
   have hq3:q'.id=204∨q'.id=200∨q'.id=201∨q'.id=202∨q'.id=203:=by
    have:q'=⟨204,81,exC a0l c 20⟩∨q'=⟨200,34,exC aq s.g 0⟩∨q'=⟨201,3,[.i .i64 s.r]⟩∨q'=⟨202,52,exC cK s.p 8⟩∨q'=⟨203,3,[.i .i64 0]⟩:=by simpa [kM]using hq'
    rcases this with rfl|rfl|rfl|rfl|rfl<;>simp
   rcases hq2 with e|e|e|e|e<;>rcases hq3 with e'|e'|e'|e'|e'<;>rw[e,e']at hne⊢<;>simp only[CS.bl]<;>first|exact absurd rfl hne|omega
 obtain⟨e,G',hrun,hK⟩:=eO ((N6 s.g s.r s.p c).trans hr)
 obtain⟨_,hca⟩:=l5 _ hrun
 have hca:=hca (fun id o h=>by cases h)
 have st0:lE (s.en W bc) (PM m (ue (⟨204,81,exC a0l c 20⟩::kM s.g s.r s.p)) G'.next) {bk:=Om ((8,.p 204 0)::TV),st:=.lf,ca:=.lf,next:=300} a W:=by
  refine⟨fun k hk=>hk.elim,⟨m,Mp.le_refl m,⟨by rw[rR];exact hrep,fun k v hk=> ?_,ha.df,ha.sz⟩,fun id hid=>.inl (hmU id hid)⟩,Nat.le_refl _⟩
  have hk2:(k=8/\v=.p 204 0)∨(k=3/\v=.p 200 0)∨(k=4/\v=.p 201 0)∨(k=5/\v=.p 202 0)∨(k=6/\v=.p 203 0):=by simpa [TV]using yJ hk
  rcases hk2 with⟨rfl,rfl⟩|⟨rfl,rfl⟩|⟨rfl,rfl⟩|⟨rfl,rfl⟩|⟨rfl,rfl⟩
  ·rw[t8];simp only[den,had 204 (by omega) (by omega)];rfl
  ·rw[ha.t3];simp only[den,had 200 (by omega) (by omega)];rfl
  ·rw[ha.t4];simp only[den,had 201 (by omega) (by omega)];rfl
  ·rw[ha.t5];simp only[den,had 202 (by omega) (by omega)];rfl
  ·rw[ha.t6];simp only[den,had 203 (by omega) (by omega)];rfl
 rw[<-BM (ds:=[]) ha.df]
 refine qL (ds:=[]) nJ fu (a47 (ρ:=s.en W bc) BR 5) PO JU.2.2 ⟨fun j h1 h2 h3=>by have:j<300:=h3;have:300<=j:=h1;omega⟩ Fe.2.2 (fun d _ hd=>hd) st0 hrun (Nat.le_refl _) (fun a' W' hst=> ?_)
 obtain⟨_,⟨m',eY,hr',hU'⟩,_⟩:=hst
 have eY:m.le m':=eY
 have hkp:=hr'.heap.ff
 unfold kBody at hK
 split at hK
 ·obtain⟨hu,hK⟩:=cE hK
  have hK:=bR hK
  simp only[Bool.and_eq_true]at hu
  obtain⟨⟨⟨u0,u1⟩,u2⟩,u3⟩:=hu
  have o0:=hr'.heap.fe 200 _ (a2N u0 hca (show ue (⟨204,81,exC a0l c 20⟩::kM s.g s.r s.p) 200=some (.cells 34 (exC aq s.g 0))from rfl))
  have o1:=hr'.heap.fe 201 _ (a2N u1 hca (show ue (⟨204,81,exC a0l c 20⟩::kM s.g s.r s.p) 201=some (.cells 3 [.i .i64 s.r])from rfl))
  have o2:=hr'.heap.fe 202 _ (a2N u2 hca (show ue (⟨204,81,exC a0l c 20⟩::kM s.g s.r s.p) 202=some (.cells 52 (exC cK s.p 8))from rfl))
  have o3:=hr'.heap.fe 203 _ (a2N u3 hca (show ue (⟨204,81,exC a0l c 20⟩::kM s.g s.r s.p) 203=some (.cells 3 [.i .i64 0])from rfl))
  have q0:=rQ eY (had 200 (by omega) (by omega)) d1 o0
  have q1:=rQ eY (had 201 (by omega) (by omega)) d4 o1
  have q2:=rQ eY (had 202 (by omega) (by omega)) d2 o2
  have q3:=rQ eY (had 203 (by omega) (by omega)) (show denL m [.i .i64 0]=some [.int .i64 0]from rfl) o3
  have hold:Aw (fun b=>b=bc) W W':=⟨hkp.wo.1,hkp.wo.2.1,hkp.wo.2.2.1,hkp.size,fun b hb hnb=>by
   by_cases hm:b∈[s.bg,s.br,s.bp,s.bt,bc]
   ·simp only[List.mem_cons,List.not_mem_nil,or_false]at hm
    rcases hm with rfl|rfl|rfl|rfl|rfl
    ·rw[h.hg];exact q0
    ·rw[h.hr];exact q1
    ·rw[h.hp];exact q2
    ·rw[h.ht];exact q3
    ·exact absurd rfl hnb
   ·exact hkp.blk b hb hm⟩
  have hcf:CF s W':=⟨fun b arr e=>by
   obtain⟨el,fr,hg⟩:=h.fz b arr e
   exact⟨el,fr,by rw[hold.blk b (Array.getElem?_eq_some_iff.1 hg).1 (fun e2=>by have e2:b=bc:=e2;subst e2;rw[hbF]at e;cases e)];exact hg⟩,q0,q1,q2,q3⟩
  exact hQn hK _ W' hcf hold
 ·split at hK
  ·rename_i v hst6 hs3 hs4 hs5 hs6
   have hK:=bR hK
   have ptr:∀{n id b:Nat},G'.bk.get n=some (.p id 0)->m.ad id=some b->a'.tmps.getD n undef=.pointer (some ⟨b,0,none⟩):=fun{n id b} h1 h2=>by
    have:=hr'.bk n _ h1
    simp only[den,eY.ad _ _ h2]at this
    exact(Option.some.inj this).symm
   have hct:CT s (TD [] a'):=⟨rfl,hr'.size,ptr hs3 (had 200 (by omega) (by omega)),ptr hs4 (had 201 (by omega) (by omega)),ptr hs5 (had 202 (by omega) (by omega)),ptr hs6 (had 203 (by omega) (by omega))⟩
   have ho:=yG (G:=G') (H:=ue (⟨204,81,exC a0l c 20⟩::kM s.g s.r s.p)) (i:=203) (el:=3) (cs:=[.i .i64 v]) (by rw[hst6];rfl)
   obtain⟨b',cv,c1,c2,_,c4⟩:=hr'.heap.fe 203 _ ho
   rw[eY.ad _ _ (had 203 (by omega) (by omega))]at c1;cases c1
   obtain⟨u,hu,rfl⟩:=ik c2
   obtain⟨rfl,hkd⟩:=eB hu
   exact hQr v hK _ W' hct hkd c4 ⟨hkp.wo.1,hkp.wo.2.1,hkp.wo.2.2.1,hkp.size,fun b hb hnb=>hkp.blk b hb hnb⟩
  ·exact aA hK
 ·exact aA hK
theorem MU:codeDst 43 PN=true:=by kernel_rfl
theorem a4S:plainC PN=true:=by kernel_rfl
theorem PZ{s:CS}(hs:s.ok){W:World}(h:CF s W){a:Act}(hd:a.defers=[])(hz:a.tmps.size=43)(t6:a.tmps.getD 6 undef=.pointer (some ⟨s.bt,0,none⟩)){ds:List Deferred}{ro:Option Nat}{k:Nat}{Q:Exit->Act->World->Prop}
 (hQ:∀a' W',a'.tmps.getD 6 undef=.pointer (some ⟨s.bt,0,none⟩)->W'.heap[s.bt]?=some (.cells #[.int .i64 0] 3 (0,0))->Aw (fun b=>b=s.bt) W W'->Q .normal (TD ds a') W'):PN.wpIn (FR ro) k Tryz.prog Q (TD ds a) W:=by
 obtain⟨m,hm⟩:∃m:Mp,m=⟨fun i=>if i=203 then some s.bt else none,fun _=>none,fun _=>none,s.F⟩:=⟨_,rfl⟩
 have had:m.ad 203=some s.bt:=by rw[hm];rfl
 have hFb:m.fz s.bt=none:=by rw[hm];exact hs.nf _ (by simp)
 obtain⟨ρ,hρ⟩:∃ρ:En,ρ=⟨W,fun b=>b=s.bt,s.F,false⟩:=⟨_,rfl⟩
 have hrep:a0d ρ (ue [⟨203,3,[.i .i64 0]⟩]) m W:=by
  refine BQ (bl:=fun _=>s.bt) (by rw[hρ];exact⟨.rfl,Nat.le_refl _,fun _ _ _=>rfl⟩) (fun b arr e=>h.fz b arr (by rw[hm]at e;exact e)) (fun b hb=>.inl (by rw[hρ];rw[hm]at hb;exact hb)) (fun q hq=> ?_) (fun q hq q' hq' hne=> ?_)
  ·obtain rfl:=List.mem_singleton.1 hq
   exact⟨_,had,rfl,rfl,h.ht,.inr (by rw[hρ]),hFb⟩
  ·obtain rfl:=List.mem_singleton.1 hq
   obtain rfl:=List.mem_singleton.1 hq'
   exact absurd rfl hne
 obtain⟨e,G',hrun,hK⟩:=eO Q3
 have st0:lE ρ (PM m (ue [⟨203,3,[.i .i64 0]⟩]) G'.next) {bk:=Om [(6,.p 203 0)],st:=.lf,ca:=.lf,next:=300} a W:=by
  refine⟨fun k hk=>hk.elim,⟨m,Mp.le_refl m,⟨by rw[rR];exact hrep,fun k v hk=> ?_,hd,hz⟩,fun id hid=>.inl ?_⟩,Nat.le_refl _⟩
  ·have hk2:k=6/\v=.p 203 0:=by simpa using yJ hk
   obtain⟨rfl,rfl⟩:=hk2
   rw[t6];simp only[den,had]
  ·show id<300
   rcases hid with q|q|q
   ·by_cases e:id=203
    ·omega
    ·exfalso;apply q;rw[hm];show(if id=203 then _ else none)=none;rw[if_neg e]
   ·exact absurd (by rw[hm]) q
   ·exact absurd (by rw[hm]) q
 refine qL (ds:=ds) nJ fu (a47 (ρ:=ρ) (by rw[hρ];exact BR) 5) PN a4S ⟨fun j h1 h2 h3=>by have:j<300:=h3;have:300<=j:=h1;omega⟩ MU (fun d _ hd=>hd) st0 hrun (Nat.le_refl _) (fun a' W' hst=> ?_)
 obtain⟨_,⟨m',eY,hr',hU'⟩,_⟩:=hst
 have eY:m.le m':=eY
 have hkp:=hr'.heap.ff
 rw[hρ]at hkp
 unfold kEnd at hK
 split at hK
 ·rename_i hs203 hs6
  have ho:=yG (G:=G') (H:=ue [⟨203,3,[.i .i64 0]⟩]) (i:=203) (el:=3) (cs:=[.i .i64 0]) (by rw[hs203];rfl)
  have q3:=rQ eY had (show denL m [.i .i64 0]=some [.int .i64 0]from rfl) (hr'.heap.fe 203 _ ho)
  refine hQ a' W' ?_ q3 ⟨hkp.wo.1,hkp.wo.2.1,hkp.wo.2.2.1,hkp.size,fun b hb hnb=>hkp.blk b hb hnb⟩
  have:=hr'.bk 6 _ hs6
  simp only[den,eY.ad _ _ had]at this
  exact(Option.some.inj this).symm
 ·exact aA hK
end Go.Proofs.YtehbbcdhahnkgaaGreat.Vm
namespace Go.Proofs.YtehbbcdhahnkgaaGreat.Vm
open Go Go.RowKit
set_option linter.unusedVariables false
attribute [local go_sem] Oper.semAt_some
theorem IX(i:Nat):(List.range (i+1)).reverse=i::(List.range i).reverse:=by rw[List.range_succ,List.reverse_append];rfl
set_option maxHeartbeats 4000000 in
theorem Fb(nf b4 n cap k:Nat)(A:Option Addr)(cvs:Nat->Array Value)(w:World)(h4:w.heap[b4]?=some (.cells #[.slice A n cap] 31 (0,0)))(hn:n<=maxLen)(hA:∀W,(isAgg 81).run Tryz.prog W=.ok true W)(hS:∀W,(sizeOf 81).run Tryz.prog W=.ok k W)
 (hrow:0<n->∃bc off,A=some ⟨bc,off,none⟩/\bc<w.heap.size/\∀W,W.heap[bc]?=w.heap[bc]?->∀i,i<n->(loadCellsFrom ⟨bc,off+i*42,none⟩ 0 k #[]).run Tryz.prog W=.ok (cvs i) W):
 SeqStopsK Fence.wide nf Tryz.prog 318 #[.pointer (some ⟨b4,0,none⟩)] (fun(x:Fin n)=> #[.int .i64 (x.val:Nat),.agg (cvs x.val)]) (Below w.heap.size) (fun xs=>xs.map (·.val)=(List.range n).reverse) (fun cz=>cz.map (·.val)<+:(List.range n).reverse) n w:=by
 intro l J Jx W hb hJ hJx hY h0
 have h4l:b4<w.heap.size:=(Array.getElem?_eq_some_iff.1 h4).1
 have h4W:∀W',Below w.heap.size w W'->W'.cell? ⟨b4,0,none⟩=some (.slice A n cap):=fun W' hb'=>(rm ((hb'.block b4 h4l).trans h4)).1
 have hc0:=h4W W hb
 have hmx:maxLen=9223372036854775807:=rfl
 have hw0:IntKind.i64.wrap ((n:Int)-1)=(n:Int)-1:=by rw[IntKind.wrap_i64];omega
 refine callsIn_of_wp Tryz.func318 rfl trivial ?_ rfl
 simp only[Tryz.ntmps318,List.size_toArray,List.length_cons,List.length_nil,Nat.reduceAdd,Nat.reduceSub,Array.replicate_succ,Array.replicate_zero,List.push_toArray,List.append_toArray,List.nil_append,List.cons_append]
 gi_wp2
 revert hA hS
 generalize 81=t81
 intro hA hS
 gi_loopw [3] (fun iv wr=>∃(j:Nat) (cz:List (Fin n)),j<=n/\iv=.int .i64 ((j:Int)-1)/\cz.map (·.val)++(List.range j).reverse=(List.range n).reverse/\J cz wr/\Below w.heap.size w wr) (fun iv _=>(intOf iv+1).toNat)
 case atStart=>exact⟨n,[],Nat.le_refl _,rfl,rfl,h0,hb⟩
 case round=>
  obtain⟨j,cz,hj,rfl,hpre,hJp,hbp⟩:=hrel
  have hlen:cz.length+j=n:=by have:=congrArg List.length hpre;simpa using this
  have hcw:=h4W wr hbp
  cases j with
  |zero=>
   gi_wp2
   go_end0
   exact⟨⟨_,rfl⟩,.inl ⟨cz,by simpa using hpre,hJp⟩⟩
  |succ i=>
   have hi:i<n:=by omega
   have e1:((i+1:Nat):Int)-1=(i:Int):=by omega
   rw[e1]
   obtain⟨bc,off,rfl,hbc,hld⟩:=hrow (by omega)
   have hldW:=hld wr (hbp.block bc hbc) i hi
   obtain⟨yfn,ytmps,yassign,ybody,hy,hRd⟩:=hY cz ⟨i,hi⟩ wr hJp (by omega)
   have hw1:IntKind.i64.wrap ((i:Int)-1)=(i:Int)-1:=by rw[IntKind.wrap_i64];omega
   have hge:(0:Int)<=(i:Int):=by omega
   have hlt:(i:Int)<(n:Int):=by omega
   have hpre2:(cz++[(⟨i,hi⟩:Fin n)]).map (·.val)++(List.range i).reverse=(List.range n).reverse:=by
    rw[<-hpre,IX];simp
   clear hrow hld hY hpre hJp
   gi_wp2
   refine⟨fun h=>by simp[Fence.wide]at h,hRd.mono ?_⟩
   rintro e W3 (⟨rfl,hJ3,hk3⟩|⟨rfl,hx3⟩)
   ·gi_wp2
    go_roundw
    ·exact⟨i,cz++[⟨i,hi⟩],by omega,rfl,hpre2,hJ3,hbp.trans hk3⟩
    ·simp only[intOf];omega
   ·gi_wp2
    exact⟨rfl,_,results_none (by kernel_rfl) _ _ _,⟨_,rfl⟩,.inr ⟨cz++[⟨i,hi⟩],⟨_,hpre2⟩,hx3⟩⟩
end Go.Proofs.YtehbbcdhahnkgaaGreat.Vm
