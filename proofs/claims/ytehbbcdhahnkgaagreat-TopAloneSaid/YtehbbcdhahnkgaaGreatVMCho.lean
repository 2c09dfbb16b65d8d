/- dataplane.Choose. The chain of contracts: every function makes of data what its plain twin makes. Plain functions: what happens does happen; the whole claim. -/
import Derived.Test.YtehbbcdhahnkgaaGreatVMChI
import Derived.KernelRfl
set_option linter.all false
set_option maxRecDepth 100000
set_option maxHeartbeats 0
namespace Go.Proofs.YtehbbcdhahnkgaaGreat.Vm
open Go Go.RowKit
set_option linter.unusedVariables false
theorem B3{W:World}{D:Nat}{o:Obj}{X:Nat}{ob:Obj}(h:W.heap[X]?=some ob)(hne:X≠D):(W.putObj D o).heap[X]?=some ob:=(World.putObj_heap_other hne).trans h
theorem HO{tmps:Array Value}{X:Nat}{w:World}{z:Int}(h6:tmps.getD 6 undef=.pointer (some ⟨X,0,none⟩))(hc:w.cell? ⟨X,0,none⟩=some (.int .i64 z)):(results Tryz.f142 tmps).run Tryz.prog w=.ok (.int .i64 z) w:=by
 have ha:(isAgg 3).run Tryz.prog w=.ok false w:=by simp[isAgg,go_sem]
 have h6':tmps[6]?.getD undef=.pointer (some ⟨X,0,none⟩):=by simpa using h6
 simp[results,h6',asAddr,loadVar,Sem.run_bind,ha,Go.run_load,hc]
theorem a2A(t:Array Value)(x y:Value):(Array.zip #[12,13] #[x,y]).foldl (fun t (p,v)=>t.setIfInBounds p v) t=(t.setIfInBounds 12 x).setIfInBounds 13 y:=by simp
theorem Gq{L:Nat}{g:aa}(hg:g.u4.length<L)(hM:L<=4611686018427387904)(r:Int)(p:a05)(c:a00):∃o,p9 L g r p c=some o:=by
 unfold p9
 cases aH (a00.state c) 1 with
 |false=>exact⟨_,rfl⟩
 |true=>
  cases aH (a00.dm c) r with
  |false=>exact⟨_,rfl⟩
  |true=>
   simp only[cond_true,uW,Option.bind_some]
   cases a3G (a00.box c) p true with
   |false=>exact⟨_,rfl⟩
   |true=>
    obtain⟨i,hi,_⟩:=GQ (L:=L) (own:=a00.sa c) hg hM
    simp only[cond_true,hi,Option.bind_some]
    cases !(aF i 0)with
    |false=>exact⟨_,rfl⟩
    |true=>cases aF (a00.sent c) 200<;>exact⟨_,rfl⟩
theorem vJ{L:Nat}{g:aa}{r:Int}{p:a05}{c:a00}{l:List a00}{o:Option Int}(h:p9 L g r p c=some o):chooseL L g r p (c::l)=match o with
 |some v=>some v
 |none=>chooseL L g r p l:=by
 unfold p9 at h
 show(bif aH (a00.state c) 1&&aH (a00.dm c) r then
  Option.bind (cS L (a00.box c) p true) fun h=>
  bif h then
   Option.bind (bz L g (a00.sa c)) fun i=>
   bif !(aF i 0)&&aF (a00.sent c) 200 then some (a00.eI c)else chooseL L g r p l
  else chooseL L g r p l
  else chooseL L g r p l)=_
 cases h1:aH (a00.state c) 1 with
 |false=>rw[h1]at h;cases h;rfl
 |true=>
  rw[h1]at h
  cases h2:aH (a00.dm c) r with
  |false=>rw[h2]at h;cases h;rfl
  |true=>
   rw[h2]at h
   have h:(Option.bind (cS L (a00.box c) p true) fun h=>bif h then Option.bind (bz L g (a00.sa c)) fun i=>bif !(aF i 0)then bif aF (a00.sent c) 200 then some (some (a00.eI c))else some none else some none else some none)=some o:=h
   show(Option.bind (cS L (a00.box c) p true) fun h=>bif h then Option.bind (bz L g (a00.sa c)) fun i=>bif !(aF i 0)&&aF (a00.sent c) 200 then some (a00.eI c)else chooseL L g r p l else chooseL L g r p l)=_
   rw[uW,Option.bind_some]at h⊢
   cases h3:a3G (a00.box c) p true with
   |false=>rw[h3]at h;cases h;rfl
   |true=>
    rw[h3]at h
    simp only[cond_true]at h⊢
    cases h4:bz L g (a00.sa c)with
    |none=>rw[h4]at h;cases h
    |some i=>
     rw[h4,Option.bind_some]at h
     rw[Option.bind_some]
     cases h5: !(aF i 0)with
     |false=>rw[h5]at h;cases h;rfl
     |true=>
      rw[h5]at h
      cases h6:aF (a00.sent c) 200 with
      |false=>rw[h6]at h;cases h;rfl
      |true=>rw[h6]at h;cases h;rfl
theorem sM{L:Nat}{g:aa}{r:Int}{p:a05}:∀{l m:List a00},(∀c∈l,p9 L g r p c=some none)->chooseL L g r p (l++m)=chooseL L g r p m
 |[],m,_=>rfl
 |c::l,m,h=>by
  rw[List.cons_append,vJ (h c (by simp))]
  exact sM fun c hc=>h c (by simp[hc])
theorem IZ(l:List a00):l.reverse=(List.range l.length).reverse.map fun i=>l.getD i a00.az:=by
 rw[List.map_reverse]
 congr 1
 apply List.ext_getElem
 ·simp
 ·intro i h1 h2
  simp[List.getD,h1]
theorem jx{A B:World}{row:Option Nat}{k:Nat}{cs:Array Value}{e:TypeId}{fz:Nat×Nat}(h:A.heap[k]?=some (.cells cs e fz))(hg:A.grownBy B row)(hr:∀r,row=some r->∃o:Obj,A.heap[r]?=some o/\o.isCells=false):B.heap[k]?=some (.cells cs e fz):=
 (hg.block k (Array.getElem?_eq_some_iff.1 h).1 (fun e=>by obtain⟨o,h1,h2⟩:=hr k e.symm;rw[h]at h1;cases h1;cases h2)).trans h
theorem CF.own{s:CS}{A B:World}(h:CF s A){row:Option Nat}(hg:A.grownBy B row)(hr:∀r,row=some r->∃o:Obj,A.heap[r]?=some o/\o.isCells=false):CF s B:=
 ⟨fun b arr e=>by obtain⟨el,fr,q⟩:=h.fz b arr e;exact⟨el,fr,jx q hg hr⟩,jx h.hg hg hr,jx h.hr hg hr,jx h.hp hg hr,jx h.ht hg hr⟩
theorem Aw.below{X:Nat->Prop}{W W':World}{B:Nat}(h:Aw X W W')(hB:B<=W.heap.size)(hX:∀b,X b->B<=b):Below B W W':=⟨h.os,h.tape,h.output,h.size,fun k hk=>h.blk k (by omega) fun hx=>by have:=hX k hx;omega⟩
theorem Aw.L2{X:Nat->Prop}{W W':World}(h:Aw X W W')(hX:∀b,X b->∃o:Obj,W.heap[b]?=some o/\o.isCells=true)(B:Nat):KeepsFrom B W W':=⟨h.size,fun k o _ hk ho=>by
 rw[h.blk k (Array.getElem?_eq_some_iff.1 hk).1 (fun hx=>by obtain⟨o',h1,h2⟩:=hX k hx;rw[hk]at h1;cases h1;rw[ho]at h2;cases h2)]
 exact hk⟩
theorem FX{P:Program}{W:World}{b off i:Nat}{uss:List (List Value)}{arr:Array Value}{el:TypeId}{fr:Nat×Nat}(hg:W.heap[b]?=some (.cells arr el fr))(hat:Wy arr off uss.flatten)(hl:∀v∈uss,v.length=42)(hi:i<uss.length):
 (loadCellsFrom ⟨b,off+i*42,none⟩ 0 42 #[]).run P W=.ok (uss.getD i []).toArray W:=by
 obtain⟨us,hus⟩:∃us,us=uss.getD i []:=⟨_,rfl⟩
 have hu:uss[i]?=some us:=by rw[hus];simp[List.getD,hi]
 rw[<-hus]
 clear hus
 have hul:=hl _ (List.mem_of_getElem? hu)
 have h:=run_loadCells_list (P:=P) (w:=W) ⟨b,off+i*42,none⟩ us (fun j v hj=>by
  rw[Addr.add_lit,cell_of_row W b _ _ el fr hg]
  have hjl:=(List.getElem?_eq_some_iff.1 hj).1
  have hf:=zx hl i j _ hu (by omega)
  rw[hj]at hf
  rw[Nat.add_assoc]
  exact hat _ _ hf)
 rw[hul]at h
 exact h
theorem NZ{nf:Nat}(h1:1<=nf){s:CS}(hs:s.ok){w W2:World}(hb:Below w.heap.size w W2)(hnew:∀b∈[s.bg,s.br,s.bp,s.bt],w.heap.size<=b)(h:CF s W2){b4 cap:Nat}{A:Option Addr}(h4:W2.heap[b4]?=some (.cells #[.slice A s.g.af.length cap] 31 (0,0)))
 (hlist:DR s.F (.a01 a0l) s.g.af [.slice A s.g.af.length cap]) (hsas:s.g.u4.length<LL) {y:Int} (hy:gw LL s.g s.r s.p=some y) {a:Act} (ha:CT s a) (t11:a.tmps.getD 11 undef=.func (.func 318) #[] #[.pointer (some ⟨b4,0,none⟩)]):
 (Code.block 0 (.rangeFunc (.tmp 11) #[12,13] MS PO)).wpIn Fence.wide nf Tryz.prog (Exit.then ((Code.seq PN .ret).wpIn Fence.wide nf Tryz.prog (bodyPostM Fence.wide nf Tryz.prog Tryz.f142 fun e w'=>e=.returned (.int .i64 y)/\a0p .i64 y=true/\Below w.heap.size w w')) (bodyPostM Fence.wide nf Tryz.prog Tryz.f142 fun e w'=>e=.returned (.int .i64 y)/\a0p .i64 y=true/\Below w.heap.size w w')) a W2:=by
 obtain⟨sv,esv,A',c',e1,e2,⟨e3,_⟩,e4,e5,us,⟨uss,e6,e7⟩,e8⟩:=hlist
 cases esv
 cases e1
 subst e6
 have hul:∀v∈uss,v.length=42:=fun v hv=>by
  obtain⟨c,_,hc⟩:=e7.Li v hv
  exact DR.len hc
 have hun:uss.length=s.g.af.length:=e7.length.symm
 have hchild:∀i,i<s.g.af.length->DR s.F a0l (s.g.af.getD i a00.az) (uss.getD i []):=fun i hi=>by
  obtain⟨v,h1,h2⟩:=e7.get i (s.g.af.getD i a00.az) (by simp[List.getD,hi])
  have:uss.getD i []=v:=by simp[List.getD,h1]
  rw[this];exact h2
 have hstep:∀i:Nat,∃o,p9 LL s.g s.r s.p (s.g.af.getD i a00.az)=some o:=fun i=>Gq hsas (by decide) _ _ _
 have hbs:=Fb (nf-1) b4 s.g.af.length cap 42 A (fun i=>(uss.getD i []).toArray) W2 h4 (Nat.le_trans e2 e3) (fun W=>by kernel_rfl) (fun W=>by kernel_rfl) (fun hp=>by
  obtain⟨b,o,arr,f1,f2,f3⟩:=e8 hp
  obtain⟨el,fr,hg⟩:=h.fz b arr f2
  exact⟨b,o,f1,(Array.getElem?_eq_some_iff.1 hg).1,fun W hW i hi=>FX (hW.trans hg) f3 hul (by omega)⟩)
 have hcs:=h.lt
 have hseq:s.g.af.reverse=(List.range s.g.af.length).reverse.map fun i=>s.g.af.getD i a00.az:=IZ _
 have hy:chooseL LL s.g s.r s.p s.g.af.reverse=some y:=hy
 refine wpIn_block (wpIn_rangeFunc_ownH rfl h1 (gf:=318) (lb:= #[.pointer (some ⟨b4,0,none⟩)]) t11 trivial (Go.Proofs.enters_of Tryz.func318 (by kernel_rfl) rfl) hbs Below.trans (fun W l o o' h1 h2 h3 _=>belowK_b (Nat.le_refl _) W l o o' h1 h2 h3 ‹_›) (Below.refl _ _) (fun _=>rfl)
  (fun cz W=>CF s W/\Below W2.heap.size W2 W/\∀x∈cz,p9 LL s.g s.r s.p (s.g.af.getD x.val a00.az)=some none)
  (fun cd cz W=>cd=.ret/\∃q x v,cz=q++[x]/\(∀z∈q,p9 LL s.g s.r s.p (s.g.af.getD z.val a00.az)=some none)/\p9 LL s.g s.r s.p (s.g.af.getD x.val a00.az)=some (some v)/\a0p .i64 v=true/\W.heap[s.bt]?=some (.cells #[.int .i64 v] 3 (0,0))/\Below w.heap.size w W)
  (fun cz A B row hs hg hr=>⟨hs.1.own hg (fun r e=>(hr r e).2),hs.2.1.grown hg hs.2.1.size (fun k e=>(hr k e).1),hs.2.2⟩)
  (fun cd cz A B row hs hg hr=>⟨hs.1,by
    obtain⟨_,q,x,v,q1,q2,q3,q4,q5,q6⟩:=hs
    exact⟨q,x,v,q1,q2,q3,q4,jx q5 hg (fun r e=>(hr r e).2),q6.grown hg q6.size (fun k e=>by have:=(hr k e).1;have:=hb.size;omega)⟩⟩)
  ⟨h,Below.refl _ _,fun x hx=>by simp at hx⟩
  (fun x a' W=>CT s a'/\∃bc,a'.tmps.getD 8 undef=.pointer (some ⟨bc,0,none⟩)/\W.heap[bc]?=some (.cells (uss.getD x.val []).toArray 81 (0,0))/\bc∉[s.bg,s.br,s.bp,s.bt]/\s.F bc=none/\W2.heap.size<=bc)
  (fun x a' cz A B row hs hg hr=>by obtain⟨q1,bc,q2,q3,q4⟩:=hs;exact⟨q1,bc,q2,jx q3 hg (fun r e=>(hr r e).2),q4⟩) ?assign ?body ?done ?stop)
 case assign=>
  rintro l cz x W K ⟨hcf,hb2,hno⟩ hK
  obtain⟨aB,haB⟩:∃aB:Act,aB={tmps:=(a.tmps.setIfInBounds 12 (.int .i64 x.val)).setIfInBounds 13 (.agg (uss.getD x.val []).toArray),defers:=[]}:=⟨_,rfl⟩
  refine(congrArg (fun t=>MS.wpIn (Fence.wide.inRound l) (nf-1-1) Tryz.prog (Exit.then K fun _ _ _=>False) {tmps:=t,defers:=[]} W) (a2A a.tmps (.int .i64 x.val) (.agg (uss.getD x.val []).toArray))).mpr ?_
  show MS.wpIn (Fence.wide.inRound l) (nf-1-1) Tryz.prog _ {tmps:=(a.tmps.setIfInBounds 12 (.int .i64 x.val)).setIfInBounds 13 (.agg (uss.getD x.val []).toArray),defers:=[]} W
  rw[<-haB]
  have old:∀j,j<12->aB.tmps.getD j undef=a.tmps.getD j undef:=fun j hj=>by
   rw[haB]
   simp only[Array.getD_eq_getD_getElem?]
   rw[Array.getElem?_setIfInBounds_ne (by omega),Array.getElem?_setIfInBounds_ne (by omega)]
  have hct:CT s aB:=⟨by rw[haB],by rw[haB];simp[ha.sz],by rw[old 3 (by omega)];exact ha.t3,by rw[old 4 (by omega)];exact ha.t4,by rw[old 5 (by omega)];exact ha.t5,by rw[old 6 (by omega)];exact ha.t6⟩
  refine PL (ro:=some l) hs hcf (hchild x.val x.isLt) hct (by
   rw[haB]
   simp only[Array.getD_eq_getD_getElem?]
   rw[Array.getElem?_setIfInBounds_self_of_lt (by simp[ha.sz])]
   rfl) (fun a' W' bc q1 q2 q3 q4 q5 q6 q7 q8=> ?_)
  exact hK a' W' (q8.L2 (fun b hb=>hb.elim) _) (q8.below hb2.size (fun b hb=>hb.elim)) ⟨q3,hb2.trans (q8.below hb2.size (fun b hb=>hb.elim)),hno⟩ ⟨q1,bc,q2,q4,q5,q6,Nat.le_trans hb2.size q7⟩
 case body=>
  rintro l cz x a' W hlw hloop ⟨hcf,hb2,hno⟩ ⟨hct,bc,t8,hbc,hbn,hbF,hbs2⟩ hlt
  obtain⟨o,ho⟩:=hstep x.val
  have hbw:Below w.heap.size w W:=hb.trans (hb2.mono hb.size)
  refine MQ (ro:=some l) hs hcf (hchild x.val x.isLt) hbc hbn hbF hct t8 ho (fun e a2 W' q1 q2=> ?_) (fun v e a2 W' q0 qk q1 q2=> ?_)
  ·subst e
   refine⟨q2.L2 (fun b hb=>by subst hb;exact⟨_,hbc,rfl⟩) _,q2.below hb2.size (fun b hb=>by subst hb;exact hbs2),q1,hb2.trans (q2.below hb2.size (fun b hb=>by subst hb;exact hbs2)),fun z hz=> ?_⟩
   rcases List.mem_append.1 hz with hz|hz
   ·exact hno z hz
   ·obtain rfl:=List.mem_singleton.1 hz
    exact ho
  ·subst e
   refine⟨q2.L2 (fun b hb=> ?_) _,rfl,cz,x,v,rfl,hno,ho,qk,q1,hbw.trans (q2.below hbw.size (fun b hb=> ?_))⟩
   ·simp only[List.mem_cons,List.not_mem_nil,or_false]at hb
    rcases hb with rfl|rfl|rfl|rfl|rfl
    ·exact⟨_,hcf.hg,rfl⟩
    ·exact⟨_,hcf.hr,rfl⟩
    ·exact⟨_,hcf.hp,rfl⟩
    ·exact⟨_,hcf.ht,rfl⟩
    ·exact⟨_,hbc,rfl⟩
   ·have hsz:= ‹Below w.heap.size w W2›.size
    simp only[List.mem_cons,List.not_mem_nil,or_false]at hb
    rcases hb with rfl|rfl|rfl|rfl|rfl
    ·exact hnew _ (by simp)
    ·exact hnew _ (by simp)
    ·exact hnew _ (by simp)
    ·exact hnew _ (by simp)
    ·omega
 case done=>
  rintro D zs W hD hzs ⟨hcf,hb2,hno⟩ hK
  have hbw:Below w.heap.size w W:=hb.trans (hb2.mono hb.size)
  have hy0:y=0:=by
   have e:s.g.af.reverse=zs.map (fun x=>s.g.af.getD x.val a00.az)++[]:=by
    rw[hseq,<-hzs,List.append_nil,List.map_map];rfl
   rw[e,sM (fun c hc=>by obtain⟨x,hx,rfl⟩:=List.mem_map.1 hc;exact hno x hx)]at hy
   exact(Option.some.inj hy).symm
  have hbtl:s.bt<W2.heap.size:=hcs s.bt (by simp)
  have hbtn:=hnew s.bt (by simp)
  refine wpIn_seq (PZ (ro:=none) (ds:={target:=.collected D,args:= #[]}::a.defers) hs hcf ha.df ha.sz ha.t6 (fun a2 W' q6 q3 qo=> ?_))
  have hDl:=(Array.getElem?_eq_some_iff.1 hK).1
  have hK2:W'.heap[D]?=some (.deferred (some [])):=(qo.blk D hDl (fun e=>by have e:D=s.bt:=e;omega)).trans hK
  have hbw2:Below w.heap.size w W':=hbw.trans (qo.below hbw.size (fun b hb=>by have hb:b=s.bt:=hb;omega))
  refine wpIn_ret ?_
  refine⟨by simp,.inl ⟨_,_,rfl,run_takeDeferred hK2,?_⟩⟩
  show LeavesInM _ _ _ _ _ _ a.defers _ _
  rw[ha.df,hy0]
  exact⟨_,HO q6 ((rm (B3 q3 (by omega))).1),rfl,by decide,hbw2.grown (grownBy_putObj' _ _ _) hbw2.size (fun k e=>by cases e;have:=hb.size;omega)⟩
 case stop=>
  rintro D cd cz W hD hpre ⟨rfl,q,x,v,rfl,hq,hx,hk,hbt,hbw⟩ hK
  have hyv:y=v:=by
   obtain⟨t,ht⟩:=hpre
   have e:s.g.af.reverse=q.map (fun x=>s.g.af.getD x.val a00.az)++(s.g.af.getD x.val a00.az::t.map fun i=>s.g.af.getD i a00.az):=by
    rw[hseq,<-ht];simp
   rw[e,sM (fun c hc=>by obtain⟨z,hz,rfl⟩:=List.mem_map.1 hc;exact hq z hz),vJ hx]at hy
   exact(Option.some.inj hy).symm
  have hbtl:s.bt<W2.heap.size:=hcs s.bt (by simp)
  refine wpIn_ret ?_
  refine⟨by simp,.inl ⟨_,_,rfl,run_takeDeferred hK,?_⟩⟩
  show LeavesInM _ _ _ _ _ _ a.defers _ _
  rw[ha.df,hyv]
  exact⟨_,HO ha.t6 ((rm (B3 hbt (by omega))).1),rfl,hk,hbw.grown (grownBy_putObj' _ _ _) hbw.size (fun k e=>by cases e;have:=hb.size;omega)⟩
theorem J4{F:Fz}{g:aa}{vs:List Value}(h:DR F aq g vs):∃v,True/\True/\EW F (LC F (.a01 sq) g.u4) (lim (.a01 sq)) g.u4.length v:=by
 obtain⟨_,_,_,_,h⟩:=h
 obtain⟨_,_,_,_,h⟩:=h
 obtain⟨_,_,_,_,h⟩:=h
 obtain⟨_,_,_,_,h⟩:=h
 obtain⟨_,_,_,_,h⟩:=h
 obtain⟨_,_,_,_,h⟩:=h
 obtain⟨_,_,_,_,h⟩:=h
 obtain⟨_,_,_,_,h⟩:=h
 obtain⟨_,_,_,_,h⟩:=h
 obtain⟨_,_,_,_,h⟩:=h
 obtain⟨_,_,_,_,h⟩:=h
 obtain⟨_,_,_,_,h⟩:=h
 obtain⟨_,_,_,⟨v,_,hv⟩,_⟩:=h
 exact⟨v,trivial,trivial,hv⟩
theorem Ch{e:XE}{G:GS}{S:Sl}{H:Hp}{r:(Nat×Nat×Nat×Nat×Nat)×List (Option (Nat×List HV))}(h:(kPre e G).run S H=some r):e=.normal/\G.bk.get 3=some (.p r.1.1 0)/\G.bk.get 4=some (.p r.1.2.1 0)/\G.bk.get 5=some (.p r.1.2.2.1 0)/\G.bk.get 6=some (.p r.1.2.2.2.1 0)/\G.bk.get 11=some (.fn 318 [] [.p r.1.2.2.2.2 0])/\
 r.2=[cellOf (G.st.get r.1.1),cellOf (G.st.get r.1.2.1),cellOf (G.st.get r.1.2.2.1),cellOf (G.st.get r.1.2.2.2.1),cellOf (G.st.get r.1.2.2.2.2)]:=by
 unfold kPre at h
 split at h
 ·rename_i a b c d f h3 h4 h5 h6 h11
  have:=bR h
  subst this
  exact⟨rfl,h3,h4,h5,h6,h11,rfl⟩
 ·exact aA h
set_option maxHeartbeats 1000000 in
theorem a0L:dU false Tryz.prog 142 (V9 LL):=by
 refine⟨Qu,fun F w x vals G y hy hd hn hG hF=> ?_⟩
 obtain⟨(g:aa),(r:Int),(p:a05)⟩:=x
 have hy:gw LL g r p=some y:=hy
 have hd0:=hd
 obtain⟨Iu,rest,G1,G2,e1,e2,d0,vs1,rest1,G3,G4,e3,e4,⟨⟨g1,g2⟩,g3⟩,HI,e5,d2⟩:=hd
 obtain⟨dg,q1⟩:=DD.calm (t:=aq) rfl d0
 obtain⟨dp,q2⟩:=DD.calm (t:=cK) rfl d2
 subst e1 e3 e5 g1 q1 g3 q2 e4 e2
 have g2:a0p .i64 r=true:=g2
 have dg:DR F aq g Iu:=dg
 have dp:DR F cK p HI:=dp
 obtain⟨ρ,hρ⟩:∃ρ:En,ρ=⟨w,fun _=>False,F,false⟩:=⟨_,rfl⟩
 obtain⟨m0,hm0⟩:∃m0:Mp,m0=⟨fun _=>none,fun _=>none,fun _=>none,F⟩:=⟨_,rfl⟩
 have hrep0:a0d ρ (fun _=>none) m0 w:=by
  subst hρ hm0
  exact⟨fun i o h=>(by cases h),fun i j o o' b b' hne hi=>(by cases hi),⟨.rfl,Nat.le_refl _,fun _ _ _=>rfl⟩,fun i o b hi=>(by cases hi),hF,fun i o b hi=>(by cases hi),fun b hb=>.inl hb⟩
 have hno:∀i,¬m0.has i:=by
  subst hm0
  intro i hi
  rcases hi with q|q|q<;>exact q rfl
 obtain⟨m1,l1,f1,hargs,hrep1,hhas,_⟩:=a48 (l:=[aq,.int .i64,cK]) (x:=(g,r,p)) (n:=0) hrep0 (by rw[hm0];exact hd0) mu.nil (fun i _ _=>hno i)
 have hrep1:a0d ρ (fun _=>none) m1 w:=hrep1
 have f1:m1.fz=F:=f1.trans (by rw[hm0])
 have hargs:denL m1 [Bj aq g 0,Bj (.int .i64) r 8,Bj cK p 8]=some [CE aq Iu,CE (.int .i64) [.int .i64 r],CE cK HI]:=hargs
 obtain⟨v0,ys0,a0e,a1e,ea⟩:=di hargs
 obtain⟨v1,ys1,a2e,a3e,eb⟩:=di a1e
 obtain⟨v2,a4e,ec⟩:=ik a3e
 subst ec eb
 simp only[List.cons.injEq,and_true]at ea
 obtain⟨rfl,rfl,rfl⟩:=ea
 have aggc:∀{l:List HV} {vs:List Value},l.all HV.one=true->den m1 (.agg l)=some (.agg vs.toArray)->denL m1 l=some vs:=fun{l vs} h1 h2=>by
  simp only[den,h1]at h2
  cases hq:denL m1 l with
  |none=>rw[hq]at h2;cases h2
  |some us=>
   rw[hq]at h2
   have h2:some (Value.agg us.toArray)=some (Value.agg vs.toArray):=h2
   have:us=vs:=by simpa using h2
   rw[this]
 have cg:denL m1 (exC aq g 0)=some Iu:=aggc mP a0e
 have cp:denL m1 (exC cK p 8)=some HI:=aggc mP a4e
 have cr:denL m1 [.i .i64 r]=some [.int .i64 r]:=by simp[denL,den,g2]
 have key:CallsIn Fence.wide 5 Tryz.prog 142 #[.agg Iu.toArray,.int .i64 r,.agg HI.toArray] w fun e w'=>e=.returned (.int .i64 y)/\a0p .i64 y=true/\Below w.heap.size w w':=by
  refine callsIn_of_wp_marks Tryz.func142 MT trivial ?_ rfl
  obtain⟨Z,hZ⟩:∃Z:Array Value,Z=Array.replicate (Tryz.f142.ntmps-(#[Value.agg Iu.toArray,.int .i64 r,.agg HI.toArray]:Array Value).size) undef:=⟨_,rfl⟩
  rw[<-hZ]
  have hnt:Tryz.f142.ntmps=43:=by kernel_rfl
  have hZs:Z.size=40:=by rw[hZ,hnt];simp
  clear hZ hnt
  obtain⟨a0,ha0⟩:∃a0:Act,a0={tmps:= #[.agg Iu.toArray,.int .i64 r,.agg HI.toArray]++Z,defers:=[]}:=⟨_,rfl⟩
  have ha0d:a0.defers=[]:=by rw[ha0]
  have ha0s:a0.tmps.size=43:=by rw[ha0];simp[hZs]
  have ha00:a0.tmps.getD 0 undef=.agg Iu.toArray:=by rw[ha0];simp[Array.getElem?_append]
  have ha01:a0.tmps.getD 1 undef=.int .i64 r:=by rw[ha0];simp[Array.getElem?_append]
  have ha02:a0.tmps.getD 2 undef=.agg HI.toArray:=by rw[ha0];simp[Array.getElem?_append]
  obtain⟨e1,G1,hr1,hr1'⟩:=eO (N7 g r p)
  cases e1 with
  |exit i=>simp only[yf]at hr1';exact absurd (Ch hr1').1 (by intro h;cases h)
  |ret=>simp only[yf]at hr1';exact absurd (Ch hr1').1 (by intro h;cases h)
  |normal=>
  simp only[yf]at hr1'
  obtain⟨e2,G2,hr2,hK⟩:=eO hr1'
  obtain⟨rfl,s3,s4,s5,s6,s11,hcells⟩:=Ch hK
  simp only at s3 s4 s5 s6 s11 hcells
  simp only[List.cons.injEq,and_true]at hcells
  obtain⟨c0,c1,c2,c3,c4⟩:=hcells
  obtain⟨up1,_⟩:=l5 _ hr2
  have hpl:=JU.1
  have hds:=Fe.1
  simp only[plainC,Bool.and_eq_true]at hpl
  simp only[codeDst,Bool.and_eq_true]at hds
  let B:Bs:={N:=43,U:=fun i=>i<8,n0:=8,mb:=m1,H0:=fun _=>none,mj:=G2.next,Fr:=fun _=>False,a0:=fun _=>undef}
  have hB:BI B:=⟨fun j h1 h2 h3=>by have:j<8:=h3;have:8<=j:=h1;omega⟩
  have st0:lE ρ B {bk:=numbered 0 (O1 [aq,.int .i64,cK] (g,r,p) 0) .lf,st:=.lf,ca:=.lf,next:=8} a0 w:=by
   refine⟨fun k hk=>hk.elim,⟨m1,Mp.le_refl m1,⟨by rw[rR];exact hrep1,fun k v hk=> ?_,ha0d,ha0s⟩,fun id hid=>.inl ?_⟩,Nat.le_refl _⟩
   ·have hk:(numbered 0 [Bj aq g 0,Bj (.int .i64) r 8,Bj cK p 8] .lf).get k=some v:=hk
    rw[rO]at hk
    split at hk
    ·rename_i hk2
     obtain⟨x,hx1,hx2⟩:=vM hargs k v (by simpa using hk)
     rw[hx2]
     congr 1
     have hlt:k<3:=by simpa using hk2.2
     have h3:k=0∨k=1∨k=2:=by omega
     rcases h3 with rfl|rfl|rfl
     ·rw[ha00];exact(by simpa using hx1.symm:x=CE aq Iu)
     ·rw[ha01];exact(by simpa using hx1.symm:x=CE (.int .i64) [.int .i64 r])
     ·rw[ha02];exact(by simpa using hx1.symm:x=CE cK HI)
    ·cases hk
   ·rcases hhas id hid with q|q
    ·exact absurd q (hno id)
    ·exact q.2
  have hcl:nT Tryz.prog ρ Ih:=a47 (ρ:=ρ) (by rw[hρ];exact BR) 5
  rw[<-ha0,<-BM (ds:=[]) ha0d]
  refine wpIn_seq (qL (ro:=none) (ds:=[]) nJ fu hcl Ug hpl.1 hB hds.1 (fun d _ hd=>hd) st0 hr1 up1 (fun a1 w1 hst=> ?_))
  refine wpIn_seq (wpIn_seq (qL (ro:=none) (ds:=[]) nJ fu hcl Uh hpl.2 hB hds.2 (fun d _ hd=>hd) hst hr2 (Nat.le_refl _) (fun a2 w2 hst2=> ?_)))
  obtain⟨_,⟨m2,eY,hr',hU'⟩,_⟩:=hst2
  have eY:m1.le m2:=eY
  have hov:∀{i el:Nat} {cs:List HV},some (el,cs)=cellOf (G2.st.get i)->G2.da (fun _=>none) i=some (.cells el cs):=fun h=>yG h.symm
  obtain⟨bg,gv,o81,o82,_,WX⟩:=hr'.heap.fe 8 _ (hov c0)
  obtain⟨br,rv,T1,o92,_,o94⟩:=hr'.heap.fe 9 _ (hov c1)
  obtain⟨bp,pv,oa1,oa2,_,oa4⟩:=hr'.heap.fe 10 _ (hov c2)
  obtain⟨bt,tv,ob1,ob2,_,ob4⟩:=hr'.heap.fe 11 _ (hov c3)
  obtain⟨b4,lv,oc1,oc2,_,oc4⟩:=hr'.heap.fe 12 _ (hov c4)
  rw[fc eY cg]at o82;cases o82
  rw[fc eY cr]at o92;cases o92
  rw[fc eY cp]at oa2;cases oa2
  have ob2:some [Value.int .i64 0]=some tv:=(show denL m2 [.i .i64 0]=some [.int .i64 0]from rfl).symm.trans ob2
  cases ob2
  obtain⟨sv,hsv,rfl⟩:=ik oc2
  simp only[den]at hsv
  obtain⟨_,_,hsv⟩:=iY.1 hsv
  have hkp:=hr'.heap.ff
  have hFm:F.le m2.fz:=by rw[<-f1];exact eY.fz
  have hmine:∀{i:Nat} {o:Ob} {b:Nat},G2.da (fun _=>none) i=some o->o.eJ=true->m2.ad i=some b->w.heap.size<=b:=fun{i o b} h1 h2 h3=>by
   rcases hr'.heap.off i o b h1 h2 h3 with q|q
   ·rw[hρ]at q;exact q
   ·rw[hρ]at q;exact q.elim
  have hb:Below w.heap.size w w2:=by
   rw[hρ]at hkp
   exact⟨hkp.wo.1,hkp.wo.2.1,hkp.wo.2.2.1,hkp.size,fun k hk=>hkp.blk k hk (fun h=>h)⟩
  obtain⟨s,hs⟩:∃s:CS,s=⟨m2.fz,g,r,p,bg,br,bp,bt,Iu,HI⟩:=⟨_,rfl⟩
  have hsok:s.ok:=by
   subst hs
   refine⟨DR.mono hFm dg,DR.mono hFm dp,g2,fun b hb=> ?_,?_⟩
   ·simp only[List.mem_cons,List.not_mem_nil,or_false]at hb
    rcases hb with rfl|rfl|rfl|rfl
    ·exact hr'.heap.vy 8 _ _ (hov c0) rfl o81
    ·exact hr'.heap.vy 9 _ _ (hov c1) rfl T1
    ·exact hr'.heap.vy 10 _ _ (hov c2) rfl oa1
    ·exact hr'.heap.vy 11 _ _ (hov c3) rfl ob1
   ·have n1:=hr'.heap.inj 8 9 _ _ bg br (by omega) (hov c0) (hov c1) rfl rfl o81 T1
    have n2:=hr'.heap.inj 8 10 _ _ bg bp (by omega) (hov c0) (hov c2) rfl rfl o81 oa1
    have n3:=hr'.heap.inj 8 11 _ _ bg bt (by omega) (hov c0) (hov c3) rfl rfl o81 ob1
    have n4:=hr'.heap.inj 9 10 _ _ br bp (by omega) (hov c1) (hov c2) rfl rfl T1 oa1
    have n5:=hr'.heap.inj 9 11 _ _ br bt (by omega) (hov c1) (hov c3) rfl rfl T1 ob1
    have n6:=hr'.heap.inj 10 11 _ _ bp bt (by omega) (hov c2) (hov c3) rfl rfl oa1 ob1
    simp[n1,n2,n3,n4,n5,n6]
  have hcf:CF s w2:=by
   subst hs
   exact⟨fun b arr e=>hr'.heap.fz b arr e,WX,o94,oa4,ob4⟩
  have hptr:∀{n id b:Nat},G2.bk.get n=some (.p id 0)->m2.ad id=some b->a2.tmps.getD n undef=.pointer (some ⟨b,0,none⟩):=fun{n id b} h1 h2=>by
   have:=hr'.bk n _ h1
   simp only[den,h2]at this
   exact(Option.some.inj this).symm
  have hct:CT s (TD [] a2):=by
   subst hs
   exact⟨rfl,hr'.size,hptr s3 o81,hptr s4 T1,hptr s5 oa1,hptr s6 ob1⟩
  have t11:a2.tmps.getD 11 undef=.func (.func 318) #[] #[.pointer (some ⟨b4,0,none⟩)]:=by
   have:=hr'.bk 11 _ s11
   have e:den m2 (.fn 318 [] [.p 12 0])=some (.func (.func 318) #[] #[.pointer (some ⟨b4,0,none⟩)]):=by
    simp only[den,denL,oc1]
   rw[e]at this
   exact(Option.some.inj this).symm
  have hsl:=hsv
  obtain⟨sv',esv,A,c,e1',_,_⟩:=hsl
  cases esv
  subst e1'
  have hsas:g.u4.length<LL:=by
   obtain⟨gs,_,_,hsl⟩:=J4 dg
   obtain⟨_,_,_,_,⟨_,hlim⟩,_⟩:=hsl
   have h1:g.u4.length*1<=g.u4.length*lim (.a01 sq):=Nat.mul_le_mul_left _ (by decide)
   show g.u4.length<4611686018427387904
   omega
  have hgs:s.g=g/\s.r=r/\s.p=p/\s.F=m2.fz:=by subst hs;exact⟨rfl,rfl,rfl,rfl⟩
  obtain⟨hg1,hg2,hg3,hg4⟩:=hgs
  exact NZ (by omega) hsok hb (fun b hb=>by
   subst hs
   simp only[List.mem_cons,List.not_mem_nil,or_false]at hb
   rcases hb with rfl|rfl|rfl|rfl
   ·exact hmine (hov c0) rfl o81
   ·exact hmine (hov c1) rfl T1
   ·exact hmine (hov c2) rfl oa1
   ·exact hmine (hov c3) rfl ob1) hcf (by rw[hg1];exact oc4) (by rw[hg1,hg4];exact hsv) (by rw[hg1];exact hsas) (by rw[hg1,hg2,hg3];exact hy) hct t11
 refine(callsIn_wide.1 key).mono fun e w' ⟨h1,hk,h2⟩=>⟨[.int .i64 y],F,[],h1,⟨⟨[.int .i64 y],rfl,⟨rfl,hk⟩,rfl⟩,Fz.le_refl F,List.nodup_nil,fun b h=>by simp at h,fun b h1 h2=>absurd h2 h1,fun b arr h=>L1 hF h2 h,⟨h2.os,h2.tape,h2.output,fun e=>by cases e⟩,h2.size,fun b hb _=>h2.block b hb⟩⟩
theorem o94:O 94 k94:=oF (e94 LL) ⟨SP,a0L,a0M,a0N⟩
theorem o41:O 41 k41:=oF (e41 LL) ⟨o70,o93,o94,o95,o96,o99,a0A,a0B,Vs,Vt,Cx,a0C,a0D,a0T⟩
theorem VY:∀n,dU false Tryz.prog 42 ⟨(Se LL).a,(Se LL).r,fun x=>(cQ LL n).1 x.1 x.2.1 x.2.2⟩/\dU false Tryz.prog 27 ⟨(MB LL).a,(MB LL).r,fun x=>(cQ LL n).2 x.1 x.2.1 x.2.2⟩
 |0=>⟨⟨(has 42 (by kernel_rfl)),fun F w x vals G y hy=>by cases hy⟩,⟨(has 27 (by kernel_rfl)),fun F w x vals G y hy=>by cases hy⟩⟩
 |n+1=>by
  obtain⟨h42,h27⟩:=VY n
  exact⟨xH (c:=⟨(Se LL).a,(Se LL).r,fun x=>(cQ LL (n+1)).1 x.1 x.2.1 x.2.2⟩) (qz (k:=30) (zh (c:=(c42 LL (cQ LL n).2)) (p:=[]) ⟨h27,WW⟩ trivial) (has 42 (by kernel_rfl))) (e42 LL _),xH (c:=⟨(MB LL).a,(MB LL).r,fun x=>(cQ LL (n+1)).2 x.1 x.2.1 x.2.2⟩) (qz (k:=30) (zh (c:=(c27 LL (cQ LL n).1)) (p:=[]) ⟨o41,h42⟩ trivial) (has 27 (by kernel_rfl))) (e27 LL _)⟩
theorem o27:dU false Tryz.prog 27 (MB LL):=(VY 6).2
theorem o25:O 25 k25:=oF (e25 LL) o27
theorem o9:O 9 k9:=oF (e9 LL) ⟨o22,o23,o25,o27⟩
theorem o29:O 29 k29:=oF (e29 LL) o9
theorem o12:O 12 ZW:=oF (TX LL) ⟨o9,o29⟩
theorem o7:O 7 k7:=oF (e7 LL) ⟨o9,o12,o17⟩ o18
theorem o8:O 8 k8:=oF (e8 LL) ⟨o9,o21⟩ ⟨o18,o19,o20⟩
theorem o3:O 3 k3:=oF (e3 LL) ⟨o7,o8,o9,o10,o11⟩
theorem alive:uv LL=some true:=by kernel_rfl
theorem Oe{x0 x1:List Int}(h0:∀v∈x0,0<=v/\v<256)(h1:∀v∈x1,0<=v/\v<256):Ok (u6 LL x0 x1 true) fun y=>∃k,(0<=k/\k<4)/\y.2.2=true/\y.2.1=(kW k 0,kW k 1)/\NE (RK k) 360 90 y.1:=by
 have lm:∀{k:Int},0<=k/\k<4->Lm LL (RK k):=fun{k} hk=>⟨by decide,by decide,fun w hw=>(Dc hk w hw).1.1⟩
 have hP:∀{a b:List Int},yM a->(∀v∈b,0<=v/\v<256)->Ok (si LL a b true) fun y=>∃k,(0<=k/\k<4)/\y.2.2=true/\y.2.1=(kW k 0,kW k 1)/\NE (RK k) 360 90 y.1:=fun{a b} ha hb=>by
  unfold si
  refine(JP ha).bind fun y4 ⟨k,hk,e1,e2,q⟩=>bn (fun h=>by rw[e1]at h;cases h) fun _=> ?_
  have dH:∀{c:List Int},yM c->Ok (a4T LL y4.2.1 y4.2.2.1 c true) fun y=>∃k,(0<=k/\k<4)/\y.2.2=true/\y.2.1=(kW k 0,kW k 1)/\NE (RK k) 360 90 y.1:=fun hc=>(O0 (lm hk) q hc).mono fun y ⟨f1,f2,f3⟩=>⟨k,hk,f1,f2.trans e2,f3⟩
  refine aM (fun h=>bD (jU (by omega)) (dH ⟨?_,fun v hv=>hb v (List.mem_of_mem_take hv)⟩)) fun h=>dH ⟨by omega,hb⟩
  rw[List.drop_zero,List.length_take];omega
 unfold u6
 refine aM (fun h=>bD (jU (by omega)) (hP ⟨?_,fun v hv=>h0 v (List.mem_of_mem_take hv)⟩ h1)) fun h=>hP ⟨by omega,h0⟩ h1
 rw[List.drop_zero,List.length_take];omega
theorem Dh{x0 x1:List Int}(h0:∀v∈x0,0<=v/\v<256)(h1:∀v∈x1,0<=v/\v<256):a3m LL x0 x1=some true:=by
 obtain⟨y,e,k,hk,e1,e2,q⟩:=Oe h0 h1
 obtain⟨n,rr,b⟩:=y
 have e1:b=true:=e1
 have e2:rr=(kW k 0,kW k 1):=e2
 subst e1 e2
 exact JL ⟨by decide,by decide,fun w hw=>(Dc hk w hw).1.1⟩ (fun w hw=>(Dc hk w hw).1) (Tq hk) rfl rfl alive e q
end Go.Proofs.YtehbbcdhahnkgaaGreat.Vm
