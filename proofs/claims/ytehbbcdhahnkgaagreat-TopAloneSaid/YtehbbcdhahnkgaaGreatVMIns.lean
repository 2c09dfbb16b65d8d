/- The value machine and the machine: slices.Insert of one term. -/
import Derived.Test.YtehbbcdhahnkgaaGreatVVtA
import Derived.Test.YtehbbcdhahnkgaaGreatProg
import Derived.Shelf.Spec.SlicesInsert
import Derived.Lib.AppendZerosOnto
import Derived.Lib.Overlaps
set_option linter.all false
set_option maxRecDepth 100000
set_option maxHeartbeats 0
namespace Go.Proofs.YtehbbcdhahnkgaaGreat.Vm
open Go Go.RowKit
theorem qs{P:Program}{size:Nat}(w:World)(dT sT ty elem t0:TypeId)(g o dLen dCap:Nat)(a:Addr)(sLen sCap:Nat)(cur cs:List Value)
 (hu:P.underlying dT=some (.slice elem)) (hs:(P.info? elem).map (·.size)=some size) (hn:cs.length=Nat.min sLen dLen*size)
 (hsrc:∀j v,cs[j]?=some v->w.cell? (a.add j)=some v) (hg:w.heap[g]?=some (.cells cur.toArray t0 (0,0))) (hl:o+cs.length<=cur.length) (h1:∀v∈cs,v.oneCell'=true):
 (Builtin.copy_ #[dT,sT] ty #[.slice (some ⟨g,o,none⟩) dLen dCap,.slice (some a) sLen sCap]).run P w=.ok (goInt (Nat.min sLen dLen)) (w.setRow g (dO cur o cs).toArray):=by
 have hl':=run_loadCells_list (P:=P) w a cs hsrc
 have hst:=run_storeCells_at P g o t0 cs 0 cur.toArray w hg (by simpa using hl) h1
 cases hq:P.info? elem with
 |none=>simp[hq]at hs
 |some i=>
  have hi:i.size=size:=by simpa [hq]using hs
  simp only[Nat.add_zero]at hst
  simp[Builtin.copy_,run_underlying hu,Builtin.lenOf,Builtin.firstCells,sizeOf,typeInfo,hq,hi,<-hn,hl',hst,dO]
theorem Gw:Tryz.prog.underlying 136=some (.slice 28):=by kernel_rfl
theorem u26:Tryz.prog.underlying 26=some (.slice 28):=by kernel_rfl
theorem u3:Tryz.prog.underlying 3=some (.int .i64):=by kernel_rfl
theorem WY:(Tryz.prog.info? 28).map (·.size)=some 3:=by kernel_rfl
def GV:Value:=.agg #[.int .i64 0,.int .i64 0,.slice none 0 0]
theorem ZS:∃i,Tryz.prog.info? 28=some i/\i.size=3/\i.bytes=40/\i.zero=some GV:=by
 have h:(Tryz.prog.info? 28).map (fun i=>(i.size,i.bytes))=some (3,40):=by kernel_rfl
 have h2:(Tryz.prog.info? 28).bind (fun i=>i.zero)=some GV:=by kernel_rfl
 cases hi:Tryz.prog.info? 28 with
 |none=>rw[hi]at h;cases h
 |some i=>
  rw[hi]at h h2
  simp only[Option.map_some,Option.some.injEq,Prod.mk.injEq]at h
  exact⟨i,rfl,h.1,h.2,h2⟩
theorem G5:Tryz.prog.follows .mixedOrders=true:=by kernel_rfl
theorem a4d{us cs:List Value}{a:Nat}:dO us a cs=us.take a++cs++us.drop (a+cs.length):=rfl
set_option maxHeartbeats 4000000 in
set_option maxRecDepth 100000 in
theorem KH(b o n c i:Nat)(va:Addr)(vc:Nat)(us vs:List Value)(w:World)(hi:i<n)(hnc:n<=c)(hroom:c<n+1)(hbig:(n+1)*40<=140737488355328)(hul:us.length=n*3)(hbw:b<w.heap.size)
 (hus:∀j u,us[j]?=some u->w.cell? ⟨b,o+j,none⟩=some u) (hvl:vs.length=3) (hvs:∀j v,vs[j]?=some v->w.cell? (va.add j)=some v) (h1u:∀v∈us,v.oneCell'=true) (h1v:∀v∈vs,v.oneCell'=true):
 Calls Tryz.prog 190 #[.slice (some ⟨b,o,none⟩) n c,.int .i64 i,.slice (some va) 1 vc] w fun e w'=>∃G post,e=.returned (.slice (some ⟨w.heap.size,0,none⟩) (n+1) G)/\n+1<=G/\G<=maxLen/\w'.heap[w.heap.size]?=some (.cells (us.take (i*3)++vs++us.drop (i*3)++post).toArray 28 (0,0))/\(n+1)*3+post.length=G*3/\
  (∀k,k<w.heap.size->w'.heap[k]?=w.heap[k]?)/\w.heap.size<=w'.heap.size/\Wo w w':=by
 have mixed:=G5
 have hz2:¬((i:Int)=(n:Int)):=by omega
 have hz3:(c:Int)<(n:Int)+(1:Int):=by omega
 obtain⟨i0,hi0,hzs,hzb,hz0⟩:=ZS
 have hkk:(n:Int)+1-(i:Int)=((n+1-i:Nat):Int):=by omega
 have hik:i+(n+1-i)=n+1:=by omega
 have hold:(Builtin.firstCells i0.size i (.slice (some ⟨b,o,none⟩) i c)).run Tryz.prog w.drew=.ok (us.take (i*3)).toArray w.drew:=by
  rw[hzs]
  refine run_firstCells_some w.drew 3 i ⟨b,o,none⟩ i c (us.take (i*3)) (by rw[List.length_take,hul];omega) (fun j v hj=> ?_)
  rw[Addr.add_lit]
  rw[List.getElem?_take]at hj
  split at hj
  ·exact hus j v hj
  ·cases hj
 have hrz:∀ty,(Builtin.append_ #[136,3] ty #[.slice (some ⟨b,o,none⟩) i c,.int .i64 ((n:Int)+1-(i:Int))]).run Tryz.prog w=
  .ok (.slice (some ⟨w.heap.size,0,none⟩) (n+1) (grownCap w (n+1) c 28)) (w.drew.alloc (.cells ((us.take (i*3)).toArray++Builtin.zeroCells GV.cells (n+1-i)++Builtin.zeroCells GV.cells (grownCap w (n+1) c 28-(n+1))) 28)):=fun ty=>by
  have h:=Lib.run_append_grow_zeros w 136 3 ty 28 i0 _ .i64 .i64 Gw u3 hi0 hz0 (some ⟨b,o,none⟩) i c (us.take (i*3)) hold (n+1-i) (by omega) (by omega) (by omega) (by omega) (by rw[hzb];omega) (by rw[hzb,hik];exact growslice_fits hroom hbig)
  rw[hik]at h
  rw[hkk]
  exact h
 obtain⟨G,hG⟩:∃G,G=grownCap w (n+1) c 28:=⟨_,rfl⟩
 have hGn:n+1<=G:=by rw[hG];exact grownCap_ge w _ _ _
 have hGm:G<=maxLen:=by rw[hG];exact grownCap_le_maxLen w (n+1) c 28 (by unfold maxLen;omega)
 rw[<-hG]at hrz
 obtain⟨Z,hZ⟩:∃Z:List Value,Z=(Builtin.zeroCells GV.cells (n+1-i)).toList++(Builtin.zeroCells GV.cells (G-(n+1))).toList:=⟨_,rfl⟩
 have hZl:Z.length=(G-i)*3:=by
  rw[hZ]
  simp only[List.length_append,Array.length_toList,size_zeroCells]
  have:GV.cells.size=3:=rfl
  rw[this];omega
 obtain⟨R1,hR1⟩:∃R1:List Value,R1=us.take (i*3)++Z:=⟨_,rfl⟩
 have hROW:(us.take (i*3)).toArray++Builtin.zeroCells GV.cells (n+1-i)++Builtin.zeroCells GV.cells (G-(n+1))=R1.toArray:=by
  rw[hR1,hZ];apply Array.toList_inj.1;simp
 rw[hROW]at hrz
 have htk:(us.take (i*3)).length=i*3:=by rw[List.length_take,hul];omega
 have hR1l:R1.length=G*3:=by rw[hR1,List.length_append,htk,hZl];omega
 obtain⟨W1,hW1⟩:∃W1,W1=w.drew.alloc (.cells R1.toArray 28):=⟨_,rfl⟩
 have hnew:W1.heap[w.heap.size]?=some (.cells R1.toArray 28 (0,0)):=by rw[hW1];exact Go.heap_alloc_new w.drew _
 have hold1:∀k,k<w.heap.size->W1.heap[k]?=w.heap[k]?:=fun k hk=>by rw[hW1];exact Go.heap_alloc_old w.drew _ hk
 have hcell:∀{W:World} {A:Addr} {u:Value},(∀k,k<w.heap.size->W.heap[k]?=w.heap[k]?)->w.cell? A=some u->W.cell? A=some u:=fun{W A u} h hc=>by
  have hb:A.block<w.heap.size:=by
   cases hq:w.heap[A.block]? with
   |none=>simp[World.cell?,hq]at hc
   |some ob=>exact(Array.getElem?_eq_some_iff.1 hq).1
  simp only[World.cell?,h _ hb]at hc⊢
  exact hc
 have hcpA:∀(W:World) ty dc,W.heap=W1.heap->(Builtin.copy_ #[136,26] ty #[.slice (some ⟨w.heap.size,i*3,none⟩) (n+1-i) dc,.slice (some va) 1 vc]).run Tryz.prog W=.ok (goInt 1) (W.setRow w.heap.size (dO R1 (i*3) vs).toArray):=fun W ty dc hW=>by
  have hm:Nat.min 1 (n+1-i)=1:=Nat.min_eq_left (by omega)
  have:=qs (P:=Tryz.prog) W 136 26 ty 28 28 w.heap.size (i*3) (n+1-i) dc va 1 vc R1 vs Gw WY (by rw[hm];omega)
   (fun j v hj=>hcell (fun k hk=>by rw[hW];exact hold1 k hk) (hvs j v hj)) (by rw[hW];exact hnew) (by omega) h1v
  rw[hm]at this
  exact this
 obtain⟨R2,hR2⟩:∃R2,R2=dO R1 (i*3) vs:=⟨_,rfl⟩
 have hR2l:R2=us.take (i*3)++vs++Z.drop 3:=by
  rw[hR2,a4d,hR1,hvl]
  have e1:(us.take (i*3)++Z).take (i*3)=us.take (i*3):=List.take_left' htk
  have e2:(us.take (i*3)++Z).drop (i*3+3)=Z.drop 3:=by
   rw[<-List.drop_drop,List.drop_left' htk]
  rw[e1,e2]
 have hR2s:R2.length=G*3:=by
  rw[hR2l]
  simp only[List.length_append,List.length_drop,htk,hvl,hZl];omega
 obtain⟨cs,hcsd⟩:∃cs,cs=us.drop (i*3):=⟨_,rfl⟩
 have hcsl:cs.length=(n-i)*3:=by rw[hcsd,List.length_drop,hul];omega
 have hcs1:∀v∈cs,v.oneCell'=true:=fun v hv=>h1u v (List.mem_of_mem_drop (hcsd▸hv))
 have hcpB:∀(W:World) ty dc sc,W.heap=(W1.setRow w.heap.size R2.toArray).heap->(Builtin.copy_ #[136,136] ty #[.slice (some ⟨w.heap.size,(i+1)*3,none⟩) (n+1-(i+1)) dc,.slice (some ⟨b,o+i*3,none⟩) (n-i) sc]).run Tryz.prog W=.ok (goInt ((n-i:Nat):Int)) (W.setRow w.heap.size (dO R2 ((i+1)*3) cs).toArray):=fun W ty dc sc hW=>by
  have hm:Nat.min (n-i) (n+1-(i+1))=n-i:=Nat.min_eq_left (by omega)
  have:=qs (P:=Tryz.prog) W 136 136 ty 28 28 w.heap.size ((i+1)*3) (n+1-(i+1)) dc ⟨b,o+i*3,none⟩ (n-i) sc R2 cs Gw WY (by rw[hm];exact hcsl)
   (fun j v hj=>by
     rw[Addr.add_lit]
     refine hcell (fun k hk=> ?_) (by
      rw[hcsd,List.getElem?_drop]at hj
      rw[Nat.add_assoc]
      exact hus _ v hj)
     rw[hW,Go.setRow_other W1 _ k _ (by omega)]
     exact hold1 k hk)
   (by rw[hW];exact setRow_heap _ _ _ _ _ _ hnew) (by omega) hcs1
  rw[hm]at this
  exact this
 obtain⟨R3,hR3⟩:∃R3,R3=dO R2 ((i+1)*3) cs:=⟨_,rfl⟩
 have hR3l:R3=us.take (i*3)++vs++cs++(Z.drop 3).drop ((n-i)*3):=by
  rw[hR3,a4d,hcsl,hR2l]
  have el:(us.take (i*3)++vs).length=(i+1)*3:=by rw[List.length_append,htk,hvl];omega
  rw[List.take_left' el,<-List.drop_drop,List.drop_left' el]
 rw[<-hR2]at hcpA
 rw[<-hR3]at hcpB
 have hfin:∀W:World,W=((W1.setRow w.heap.size R2.toArray).drew.setRow w.heap.size R3.toArray)->W.heap[w.heap.size]?=some (.cells (us.take (i*3)++vs++us.drop (i*3)++(Z.drop 3).drop ((n-i)*3)).toArray 28 (0,0))/\(∀k,k<w.heap.size->W.heap[k]?=w.heap[k]?)/\w.heap.size<=W.heap.size/\Wo w W:=by
  rintro W rfl
  have h1:(W1.setRow w.heap.size R2.toArray).drew.heap[w.heap.size]?=some (.cells R2.toArray 28 (0,0)):=setRow_heap _ _ _ _ _ _ hnew
  refine⟨?_,fun k hk=> ?_,?_,?_⟩
  ·rw[<-hcsd,<-hR3l];exact setRow_heap _ _ _ _ _ _ h1
  ·rw[Go.setRow_other _ _ k _ (by omega)]
   show(W1.setRow w.heap.size R2.toArray).heap[k]?=_
   rw[Go.setRow_other _ _ k _ (by omega)]
   exact hold1 k hk
  ·rw[fS]
   show _<=(W1.setRow w.heap.size R2.toArray).heap.size
   rw[fS]
   have:=(Array.getElem?_eq_some_iff.1 hnew).1
   omega
  ·rw[hW1];exact⟨rfl,rfl,rfl,Nat.le_trans (Nat.le_succ _) (Nat.le_succ _)⟩
 have hpost:(n+1)*3+((Z.drop 3).drop ((n-i)*3)).length=G*3:=by
  rw[List.length_drop,List.length_drop,hZl];omega
 obtain⟨pst,hpst⟩:∃p,p=(Z.drop 3).drop ((n-i)*3):=⟨_,rfl⟩
 rw[<-hpst]at hfin hpost
 clear hpst hR1 hZ hcsd
 subst hW1
 have hw1:IntKind.i64.wrap ((i:Int)+1)=(i:Int)+1:=by rw[IntKind.wrap_i64];omega
 have hb1:(0:Int)<=(i:Int)+1:=by omega
 have htn:((i:Int)+1).toNat=i+1:=by omega
 have hin:i<=n:=by omega
 have hGi:¬(G=i):=by omega
 have hGim:¬(G=i+1):=by omega
 have hci:¬(c=i):=by omega
 have hb3:(i:Int)<=(n:Int):=by omega
 clear hkk hik hold hG hus hvs h1u h1v hnew hold1 hcell hR2 hR2l hR2s hcsl hcs1 hR3 hR3l hvl hZl htk hR1l hul hROW
 go_enter Tryz.func190,Tryz.ntmps190
 go_wp2_with (at_builtin;refine Lib.wpList_append_run _ rfl _ _ _ _ rfl _ _ rfl rfl _ _ (hrz _) ?_)
 rw[hcpA ((w.alloc (.cells R1.toArray 28)).drew) 3 (G-i) rfl]
 simp only[Result.andThen_ok]
 go_wp2
 go_region_law_o (refine step_copy_runI rfl _ _ 136 136 rfl (.slice (some ⟨w.heap.size,(i+1)*3,none⟩) (n+1-(i+1)) (G-(i+1))) (.slice (some ⟨b,o+i*3,none⟩) (n-i) (c-i)) (by simp[Act.eval,Act.put]) (by simp[Act.eval,Act.put]) (hcpB _ 3 (G-(i+1)) (c-i) rfl) ?_)
 go_wp2
 go_ret
 obtain⟨q1,q2,q3,q4⟩:=hfin _ rfl
 exact⟨_,_,rfl,hGn,hGm,q1,hpost,q2,q3,q4⟩
theorem Bg{w:World}{b k:Nat}{cur:Array Value}{e:Nat}(hb:w.heap[b]?=some (.cells cur e (0,0))):w.frozen? ⟨b,k,none⟩=false:=by
 simp[World.frozen?,hb]
set_option maxHeartbeats 4000000 in
set_option maxRecDepth 100000 in
theorem Iw(b n c i vb vo vc el vel:Nat)(cz us post vpre vs vpost:List Value)(w:World)(hi:i<n)(hroom:n+1<=c)(hc63:c<=maxLen)(hb:w.heap[b]?=some (.cells (cz++us++post).toArray el (0,0)))(hul:us.length=n*3)(hcl:us.length+post.length=c*3)
 (hvb:vb≠b) (hv:w.heap[vb]?=some (.cells (vpre++vs++vpost).toArray vel (0,0))) (hvo:vpre.length=vo) (hvl:vs.length=3) (h1u:∀v∈us,v.oneCell'=true) (h1v:∀v∈vs,v.oneCell'=true):
 Calls Tryz.prog 190 #[.slice (some ⟨b,cz.length,none⟩) n c,.int .i64 i,.slice (some ⟨vb,vo,none⟩) 1 vc] w fun e w'=>∃pst,e=.returned (.slice (some ⟨b,cz.length,none⟩) (n+1) c)/\w'.heap[b]?=some (.cells (cz++(us.take (i*3)++vs++us.drop (i*3))++pst).toArray el (0,0))/\(n+1)*3+pst.length=c*3/\
  (∀k,k≠b->w'.heap[k]?=w.heap[k]?)/\w.heap.size<=w'.heap.size/\Wo w w':=by
 have mixed:=G5
 have hz2:¬((i:Int)=(n:Int)):=by omega
 subst hvo
 obtain⟨o,ho⟩:∃o,o=cz.length:=⟨_,rfl⟩
 have hov:∀lb cb,(callFunc 256 #[.slice (some ⟨vb,vpre.length,none⟩) 1 vc,.slice (some ⟨b,o+(i+1)*3,none⟩) lb cb]).run Tryz.prog w=.ok (.value (.bool false)) w:=fun lb cb=>by
  rw[run_callFunc_extern Tryz.func256 (by kernel_rfl) (by kernel_rfl) (by kernel_rfl) (e:=Extern.SlicesOverlaps.overlaps #[26,26] #[4]) (by kernel_rfl),
   Lib.run_overlaps_apart w 26 4 28 u26 3 (fun w=>by have:=ZS;obtain⟨i0,h1,h2,_⟩:=this;simp[sizeOf,typeInfo,h1,h2]) ⟨vb,vpre.length,none⟩ ⟨b,o+(i+1)*3,none⟩ 1 vc lb cb hvb vel el (vpre++vs++vpost).toArray.size (cz++us++post).toArray.size (by simp[World.shape?,hv]) (by simp[World.shape?,hb]) (by rw[List.size_toArray,List.length_append,List.length_append];omega) (Bg hv) (Bg hv)]
  rfl
 obtain⟨X,hX⟩:∃X,X=us++post:=⟨_,rfl⟩
 have hXl:X.length=c*3:=by rw[hX,List.length_append];exact hcl
 have hb0:w.heap[b]?=some (.cells (cz++X).toArray el (0,0)):=by rw[hX,<-List.append_assoc];exact hb
 have hcell:∀{W:World} {l:List Value} {t:TypeId} {g:Nat},W.heap[g]?=some (.cells l.toArray t (0,0))->∀k u,l[k]?=some u->W.cell? ⟨g,k,none⟩=some u:=fun{W l t g} h k u hk=>qQ h (by rw[List.getElem?_toArray];exact hk)
 obtain⟨cs,hcsd⟩:∃cs,cs=us.drop (i*3):=⟨_,rfl⟩
 have hcsl:cs.length=(n-i)*3:=by rw[hcsd,List.length_drop,hul];omega
 have hcs1:∀v∈cs,v.oneCell'=true:=fun v hv=>h1u v (List.mem_of_mem_drop (hcsd▸hv))
 have hcsg:∀j v,cs[j]?=some v->w.cell? ⟨b,o+i*3+j,none⟩=some v:=fun j v hj=>by
  rw[hcsd,List.getElem?_drop]at hj
  refine hcell hb0 _ v ?_
  rw[ho,Nat.add_assoc,List.getElem?_append_right (by omega),Nat.add_sub_cancel_left,hX,List.getElem?_append_left (List.getElem?_eq_some_iff.1 hj).1]
  exact hj
 have hcpA:∀ty dc sc,(Builtin.copy_ #[136,136] ty #[.slice (some ⟨b,o+(i+1)*3,none⟩) (n+1-(i+1)) dc,.slice (some ⟨b,o+i*3,none⟩) (n+1-i) sc]).run Tryz.prog w.drew=.ok (goInt ((n-i:Nat):Int)) (w.drew.setRow b (dO (cz++X) (o+(i+1)*3) cs).toArray):=fun ty dc sc=>by
  have hm:Nat.min (n+1-i) (n+1-(i+1))=n-i:=by rw[show n+1-(i+1)=n-i by omega];exact Nat.min_eq_right (by omega)
  have:=qs (P:=Tryz.prog) w.drew 136 136 ty 28 el b (o+(i+1)*3) (n+1-(i+1)) dc ⟨b,o+i*3,none⟩ (n+1-i) sc (cz++X) cs Gw WY (by rw[hm];exact hcsl)
   (fun j v hj=>by rw[Addr.add_lit];exact hcsg j v hj) hb0 (by rw[List.length_append,hXl,hcsl];omega) hcs1
  rw[hm]at this
  exact this
 obtain⟨R2,hR2⟩:∃R2,R2=dO (cz++X) (o+(i+1)*3) cs:=⟨_,rfl⟩
 have hR2l:R2=cz++(X.take ((i+1)*3)++cs++X.drop ((n+1)*3)):=by
  rw[hR2,ho,iz,a4d,hcsl]
  congr 3
  omega
 have hb2:(w.drew.setRow b R2.toArray).heap[b]?=some (.cells R2.toArray el (0,0)):=setRow_heap _ _ _ _ _ _ hb0
 have hcpB:∀(W:World) ty dc,W.heap=(w.drew.setRow b R2.toArray).heap->(Builtin.copy_ #[136,26] ty #[.slice (some ⟨b,o+i*3,none⟩) (n+1-i) dc,.slice (some ⟨vb,vpre.length,none⟩) 1 vc]).run Tryz.prog W=.ok (goInt 1) (W.setRow b (dO R2 (o+i*3) vs).toArray):=fun W ty dc hW=>by
  have hm:Nat.min 1 (n+1-i)=1:=Nat.min_eq_left (by omega)
  have:=qs (P:=Tryz.prog) W 136 26 ty 28 el b (o+i*3) (n+1-i) dc ⟨vb,vpre.length,none⟩ 1 vc R2 vs Gw WY (by rw[hm];omega)
   (fun j v hj=>by
     rw[Addr.add_lit]
     have hvb':W.heap[vb]?=some (.cells (vpre++vs++vpost).toArray vel (0,0)):=by rw[hW,Go.setRow_other w.drew b vb _ hvb];exact hv
     refine hcell hvb' _ v ?_
     rw[List.append_assoc,List.getElem?_append_right (by omega),Nat.add_sub_cancel_left,List.getElem?_append_left (List.getElem?_eq_some_iff.1 hj).1]
     exact hj)
   (by rw[hW];exact hb2) (by rw[hR2l,List.length_append,List.length_append,List.length_append,List.length_take,List.length_drop,hXl,hcsl,hvl];omega) h1v
  rw[hm]at this
  exact this
 obtain⟨R3,hR3⟩:∃R3,R3=dO R2 (o+i*3) vs:=⟨_,rfl⟩
 have hR3l:R3=cz++(us.take (i*3)++vs++us.drop (i*3))++X.drop ((n+1)*3):=by
  have htl:(X.take ((i+1)*3)).length=(i+1)*3:=by rw[List.length_take,hXl];omega
  rw[hR3,hR2l,ho,iz,a4d,hvl]
  have e1:(X.take ((i+1)*3)++cs++X.drop ((n+1)*3)).take (i*3)=us.take (i*3):=by
   rw[List.append_assoc,List.take_append_of_le_length (by omega),List.take_take,Nat.min_eq_left (by omega),hX,List.take_append_of_le_length (by omega)]
  have e2:(X.take ((i+1)*3)++cs++X.drop ((n+1)*3)).drop (i*3+3)=cs++X.drop ((n+1)*3):=by
   rw[List.append_assoc,show i*3+3=(i+1)*3 by omega]
   exact List.drop_left' htl
  rw[e1,e2,hcsd]
  simp only[List.append_assoc]
 have hpl:(n+1)*3+(X.drop ((n+1)*3)).length=c*3:=by rw[List.length_drop,hXl];omega
 rw[<-hR2]at hcpA
 rw[<-hR3]at hcpB
 have hfin:∀W:World,W=((w.drew.setRow b R2.toArray).setRow b R3.toArray)->W.heap[b]?=some (.cells (cz++(us.take (i*3)++vs++us.drop (i*3))++X.drop ((n+1)*3)).toArray el (0,0))/\(∀k,k≠b->W.heap[k]?=w.heap[k]?)/\w.heap.size<=W.heap.size/\Wo w W:=by
  rintro W rfl
  refine⟨by rw[<-hR3l];exact setRow_heap _ _ _ _ _ _ hb2,fun k hk=> ?_,?_,⟨rfl,rfl,rfl,Nat.le_succ _⟩⟩
  ·rw[Go.setRow_other _ _ k _ hk,Go.setRow_other _ _ k _ hk];rfl
  ·rw[fS,fS];exact Nat.le_refl _
 obtain⟨pst,hpst⟩:∃p,p=X.drop ((n+1)*3):=⟨_,rfl⟩
 rw[<-hpst]at hfin hpl
 have hw1:IntKind.i64.wrap ((i:Int)+1)=(i:Int)+1:=by rw[IntKind.wrap_i64];unfold maxLen at hc63;omega
 have hw2:IntKind.i64.wrap ((n:Int)+1)=(n:Int)+1:=by rw[IntKind.wrap_i64];unfold maxLen at hc63;omega
 have hb1:(0:Int)<=(i:Int)+1:=by omega
 have htn:((i:Int)+1).toNat=i+1:=by omega
 have hin:i<=n:=by omega
 have hci:¬(c=i):=by omega
 have hcim:¬(c=i+1):=by omega
 have hb3:(i:Int)<=(n:Int):=by omega
 have hb4:(i:Int)<=(n:Int)+1:=by omega
 have hz3:¬((c:Int)<(n:Int)+1):=by omega
 rw[<-ho]
 clear hb hb0 hv hvl h1u h1v hul hcl hcsl hcsg hcs1 hR2 hR2l hb2 hR3 hR3l hcsd hc63 hX hXl hpst hcell ho
 go_enter Tryz.func190,Tryz.ntmps190
 go_wp2_with (simp only[hov])
 go_region_law_o (refine step_copy_runI rfl _ _ 136 136 rfl (.slice (some ⟨b,o+(i+1)*3,none⟩) (n+1-(i+1)) (c-(i+1))) (.slice (some ⟨b,o+i*3,none⟩) (n+1-i) (c-i)) (by simp[Act.eval,Act.put]) (by simp[Act.eval,Act.put]) (hcpA 3 (c-(i+1)) (c-i)) ?_)
 go_wp2
 go_ret
 obtain⟨q1,q2,q3,q4⟩:=hfin _ rfl
 exact⟨_,rfl,q1,hpl,q2,q3,q4⟩
set_option maxHeartbeats 4000000 in
set_option maxRecDepth 100000 in
theorem Hq(A:Option Addr)(n c vc:Nat)(va:Addr)(w w':World)(v':Value)(hA:A=none->c=0)(hnc:n<=c)(hr:∀ty,(Builtin.append_ #[136,26] ty #[.slice A n c,.slice (some va) 1 vc]).run Tryz.prog w=.ok v' w'):
 Calls Tryz.prog 190 #[.slice A n c,.int .i64 n,.slice (some va) 1 vc] w fun e w''=>e=.returned v'/\w''=w':=by
 have mixed:=G5
 cases A with
 |none=>
  obtain rfl:=hA rfl
  obtain rfl:n=0:=by omega
  go_enter Tryz.func190,Tryz.ntmps190
  go_wp2_with (at_builtin;refine Lib.wpList_append_run _ rfl _ _ _ _ rfl _ _ rfl rfl _ _ (hr _) ?_)
  go_ret
  exact⟨rfl,rfl⟩
 |some p=>
  go_enter Tryz.func190,Tryz.ntmps190
  go_wp2_with (at_builtin;refine Lib.wpList_append_run _ rfl _ _ _ _ rfl _ _ rfl rfl _ _ (hr _) ?_)
  all_goals (go_ret;exact⟨rfl,rfl⟩)
theorem FM{d:Bool}{F:Fz}{w:World}{s v:TL}{n:Nat}{G:List Nat}{sv:Value}{B:Option Nat}{vb vo vel vc:Nat}{vpre vcs vpost:List Value}(hi1:n<=s.len)(hv1:v.len=1)(hroom:(s.len+1)*40<=140737488355328)(e2:G=B.toList++[vb])(hn:G.Nodup)(hG:∀b∈G,F b=none)(hF:∀b arr,F b=some arr->∃el fr,w.heap[b]?=some (.cells arr el fr))
 (row1:kL F w .otrees s sv B) (k3:w.heap[vb]?=some (.cells (vpre++vcs++vpost).toArray vel (0,0))) (k4:vpre.length=vo) (k5:TLR F v vcs) (k6:1<=vc) (k7:vc<=maxLen) (k8:vcs.length+vpost.length=vc*3):
 Calls Tryz.prog 190 #[sv,.int .i64 n,.slice (some ⟨vb,vo,none⟩) 1 vc] w fun e w'=>∃rv F' G',e=.returned (tupVal rv)/\Au d F w G [.otrees] (TL.app (TL.take n s) (TL.app v (TL.drop n s))) w' rv F' G':=by
 have hvl:vcs.length=3:=by have:=TLR.len k5;rw[this,hv1]
 have h1v:=TLR.one k5
 have hvbG:vb∈G:=by rw[e2];simp
 have hvcell:∀j u,vcs[j]?=some u->w.cell? ((⟨vb,vo,none⟩:Addr).add j)=some u:=fun j u hj=>by
  rw[Addr.add_lit,<-k4]
  exact qQ k3 (pP vpre vcs vpost j u hj)
 have hYl:(TL.app (TL.take n s) (TL.app v (TL.drop n s))).len=s.len+1:=by
  rw[TL.Cj,TL.Cj,TL.Ea,TL.E9,hv1];omega
 have hLC:∀{us:List Value},TLR F s us->TLR F (TL.app (TL.take n s) (TL.app v (TL.drop n s))) (us.take (n*3)++vcs++us.drop (n*3)):=fun{us} h=>by
  rw[List.append_assoc]
  exact(TLR.take n h).app (TLR.app k5 (TLR.drop n h))
 have dH:∀(v':Value) (w':World) (B2:Option Nat),kL F w' .otrees (TL.app (TL.take n s) (TL.app v (TL.drop n s))) v' B2->(∀b,B2=some b->F b=none/\(w.heap.size<=b∨b∈G))->(∀k,k<w.heap.size->k∉G->w'.heap[k]?=w.heap[k]?)->w.heap.size<=w'.heap.size->Wo w w'->
  ∃rv F' G',Ending.returned v'=.returned (tupVal rv)/\Au d F w G [.otrees] (TL.app (TL.take n s) (TL.app v (TL.drop n s))) w' rv F' G':=by
  intro v' w' B2 hr hB hk hs hw
  refine⟨[v'],F,B2.toList,rfl,⟨⟨[v'],rfl,v',B2,rfl,hr,rfl⟩,Fz.le_refl F,by cases B2<;>simp,fun b hb=>hB b (by cases B2<;>simp_all),fun b h1 h2=>absurd h2 h1,fun b arr h=> ?_,hw.D,hs,fun b hb hg=>hk b hb hg⟩⟩
  obtain⟨el,fr,hg⟩:=hF b arr h
  exact⟨el,fr,by rw[hk b (Array.getElem?_eq_some_iff.1 hg).1 (fun hm=>by rw[hG b hm]at h;cases h)];exact hg⟩
 have hFnew:F w.heap.size=none:=by
  cases e:F w.heap.size with
  |none=>rfl
  |some arr=>obtain⟨el,fr,hg⟩:=hF _ _ e;exact absurd (Array.getElem?_eq_some_iff.1 hg).1 (Nat.lt_irrefl _)
 obtain⟨i0,hi,hzs,hzb,hz0⟩:=ZS
 obtain⟨us',hus',hsrc⟩:=(F7 (F:=F) (w:=w) (t:=.otrees) (x:=v) (B:=some vb) (.inr ⟨vb,vo,vel,vc,vpre,vcs,vpost,rfl,by show _=Value.slice _ v.len vc;rw[hv1],k3,k4,k5,by show v.len<=vc;omega,⟨k7,by show v.len*40<=_;omega⟩,k8⟩)).src (P:=Tryz.prog) (tx:=26) u26
 have hsrc:Src Tryz.prog i0.size 26 (.slice (some ⟨vb,vo,none⟩) 1 vc) 1 us' w:=by rw[hzs];have:=hsrc;rw[show lenL .otrees v=v.len from rfl,hv1]at this;exact this
 have grow:∀{A:Option Addr} {c:Nat} {us:List Value},TLR F s us->(A=none->c=0)->s.len<=c->c<s.len+1->n=s.len->(Builtin.firstCells i0.size s.len (.slice A s.len c)).run Tryz.prog w.drew=.ok us.toArray w.drew->
  Calls Tryz.prog 190 #[.slice A s.len c,.int .i64 n,.slice (some ⟨vb,vo,none⟩) 1 vc] w fun e w'=>∃rv F' G',e=.returned (tupVal rv)/\Au d F w G [.otrees] (TL.app (TL.take n s) (TL.app v (TL.drop n s))) w' rv F' G':=by
  intro A c us hus hA hsc hcs hns hold
  subst hns
  have hul:=TLR.len hus
  have hfit:=growslice_fits (need:=s.len+1) (old:=c) (bytes:=40) hcs hroom
  rw[<-hzb]at hfit
  have hrun:=fun ty=>run_append_grow_src w 136 26 ty 28 i0 _ Gw hi hz0 A s.len c us hold (.slice (some ⟨vb,vo,none⟩) 1 vc) 1 us' hsrc hcs (by omega) hfit
  have hge:=grownCap_ge w (s.len+1) c 28
  have hcm:=grownCap_le_maxLen w (s.len+1) c 28 (by unfold maxLen;omega)
  refine(Hq A s.len c vc ⟨vb,vo,none⟩ w _ _ hA hsc hrun).mono fun e w' ⟨q1,q2⟩=> ?_
  subst q1 q2
  have hul':us'.length=3:=by have:=hus'.len;rw[this];show v.len*3=3;rw[hv1]
  have hY:TLR F (TL.app (TL.take s.len s) (TL.app v (TL.drop s.len s))) (us++us'):=by
   have:=(TLR.take s.len hus).app (TLR.app hus' (TLR.drop s.len hus))
   rw[List.take_of_length_le (by omega),List.drop_of_length_le (by omega),List.append_nil]at this
   exact this
  refine dH _ _ (some w.heap.size) (.inr ⟨w.heap.size,0,28,_,[],us++us',(Builtin.zeroCells GV.cells (grownCap w (s.len+1) c 28-(s.len+1))).toList,rfl,by show Value.slice _ _ _=Value.slice _ (TL.len _) _;rw[hYl],?_,rfl,hY,by show TL.len _<=_;rw[hYl];exact hge,⟨hcm,by show TL.len _*40<=_;rw[hYl];exact hroom⟩,?_⟩) (fun b e=>by cases e;exact⟨hFnew,.inl (Nat.le_refl _)⟩) (fun k hk _=>Go.heap_alloc_old w.drew _ hk) (by show w.heap.size<=(World.alloc w.drew _).heap.size;exact CV (fun k hk=>Go.heap_alloc_old w.drew _ hk)) ⟨rfl,rfl,rfl,Nat.le_succ _⟩
  ·have:=Go.heap_alloc_new w.drew (.cells ((us++us').toArray++Builtin.zeroCells GV.cells (grownCap w (s.len+1) c 28-(s.len+1))) 28)
   refine this.trans ?_
   rw[show(us++us').toArray++Builtin.zeroCells GV.cells (grownCap w (s.len+1) c 28-(s.len+1))=([]++(us++us')++(Builtin.zeroCells GV.cells (grownCap w (s.len+1) c 28-(s.len+1))).toList).toArray from by apply Array.toList_inj.1;simp only[Array.toList_append,List.nil_append]]
  ·have hz:(Builtin.zeroCells GV.cells (grownCap w (s.len+1) c 28-(s.len+1))).toList.length=(grownCap w (s.len+1) c 28-(s.len+1))*3:=by rw[Array.length_toList,size_zeroCells];rfl
   show(us++us').length+_=_*3
   rw[hz,List.length_append,hul,hul']
   omega
 rcases row1 with⟨A,q1,q2,q3,q4,q5⟩|⟨b,o',el,c,cz,us,post,q1,q2,q3,q4,q5,q6,q7,q8⟩
 ·have q4:s.len=0:=q4
  subst q1
  have hn0:n=s.len:=by omega
  show Calls Tryz.prog 190 #[.slice A 0 0,.int .i64 n,.slice (some ⟨vb,vo,none⟩) 1 vc] w _
  have:=grow (A:=A) (c:=0) (us:=[]) q3 (fun _=>rfl) (by omega) (by omega) hn0 (by
   rw[q4]
   cases A with
   |none=>exact run_firstCells_none w.drew _ 0 0 0
   |some p=>exact run_firstCells_some w.drew _ 0 _ 0 _ [] (by simp) (fun j u hu=>by simp at hu))
  rw[q4]at this
  exact this
 ·subst q1 q4
  have hbG:b∈G:=by rw[e2];simp
  have hne:vb≠b:=fun e=>by
   subst e
   rw[e2]at hn
   simp at hn
  subst q2
  have hul:us.length=s.len*3:=TLR.len q5
  have h1u:=TLR.one q5
  have hbl:=(Array.getElem?_eq_some_iff.1 q3).1
  have q6:s.len<=c:=q6
  have q8:us.length+post.length=c*3:=q8
  have hold:∀j u,us[j]?=some u->w.cell? ⟨b,cz.length+j,none⟩=some u:=fun j u hj=>qQ q3 (pP cz us post j u hj)
  show Calls Tryz.prog 190 #[.slice (some ⟨b,cz.length,none⟩) s.len c,.int .i64 n,.slice (some ⟨vb,vo,none⟩) 1 vc] w _
  rcases Nat.lt_or_ge n s.len with hlt|hge
  ·rcases Nat.lt_or_ge c (s.len+1)with hfull|hspare
   ·refine(KH b cz.length s.len c n ⟨vb,vo,none⟩ vc us vcs w hlt q6 hfull hroom hul hbl hold hvl hvcell h1u h1v).mono ?_
    rintro e w' ⟨GG,pst,rfl,p2,p3,p4,p5,p6,p7,p8⟩
    exact dH _ w' (some w.heap.size) (.inr ⟨w.heap.size,0,28,GG,[],_,pst,rfl,by show Value.slice _ _ _=Value.slice _ (TL.len _) _;rw[hYl],p4,rfl,hLC q5,by show TL.len _<=_;rw[hYl];exact p2,⟨p3,by show TL.len _*40<=_;rw[hYl];exact hroom⟩,by have hq:=TLR.len (hLC q5);rw[hYl]at hq;show(us.take (n*3)++vcs++us.drop (n*3)).length+pst.length=_*3;omega⟩) (fun b e=>by cases e;exact⟨hFnew,.inl (Nat.le_refl _)⟩) (fun k hk _=>p6 k hk) p7 p8
   ·refine(Iw b s.len c n vb vo vc el vel cz us post vpre vcs vpost w hlt hspare q7.1 q3 hul q8 hne k3 k4 hvl h1u h1v).mono ?_
    rintro e w' ⟨pst,rfl,p4,p5,p6,p7,p8⟩
    exact dH _ w' (some b) (.inr ⟨b,cz.length,el,c,cz,_,pst,rfl,by show Value.slice _ _ _=Value.slice _ (TL.len _) _;rw[hYl],p4,rfl,hLC q5,by show TL.len _<=_;rw[hYl];exact hspare,⟨q7.1,by show TL.len _*40<=_;rw[hYl];exact hroom⟩,by have hq:=TLR.len (hLC q5);rw[hYl]at hq;show(us.take (n*3)++vcs++us.drop (n*3)).length+pst.length=_*3;omega⟩) (fun b' e=>by cases e;exact⟨hG b hbG,.inr hbG⟩) (fun k hk hg=>p6 k (fun e=>hg (e▸hbG))) p7 p8
  ·have hns:n=s.len:=by omega
   rcases Nat.lt_or_ge c (s.len+1)with hfull|hspare
   ·exact grow q5 (fun e=>by cases e) q6 hfull hns (run_firstCells_some w.drew _ _ _ _ _ us (by rw[hzs,hul]) (fun j u hj=>by rw[Addr.add_lit];exact hold j u hj))
   ·subst hns
    have hul':us'.length=3:=by have:=hus'.len;rw[this];show v.len*3=3;rw[hv1]
    have hrun:=fun ty=>oc 136 26 ty 28 i0 Gw hi (off:=cz.length) (sLen:=s.len) (sCap:=c) hsrc hspare q3 (by rw[hzs,hul',List.length_append,List.length_append];omega)
    refine(Hq (some ⟨b,cz.length,none⟩) s.len c vc ⟨vb,vo,none⟩ w _ _ (fun e=>by cases e) q6 hrun).mono fun e w' ⟨p1,p2⟩=> ?_
    subst p1 p2
    have hput:dO (cz++us++post) (cz.length+s.len*i0.size) us'=cz++(us++us')++post.drop 3:=by
     rw[hzs,<-hul,List.append_assoc,iz,a4d,hul']
     rw[List.take_left' rfl,<-List.drop_drop,List.drop_left' rfl]
     simp only[List.append_assoc]
    have hY:TLR F (TL.app (TL.take s.len s) (TL.app v (TL.drop s.len s))) (us++us'):=by
     have:=(TLR.take s.len q5).app (TLR.app hus' (TLR.drop s.len q5))
     rw[List.take_of_length_le (by omega),List.drop_of_length_le (by omega),List.append_nil]at this
     exact this
    rw[hput]
    exact dH _ _ (some b) (.inr ⟨b,cz.length,el,c,cz,us++us',post.drop 3,rfl,by show Value.slice _ _ _=Value.slice _ (TL.len _) _;rw[hYl],Go.setRow_heap w b _ _ el (0,0) q3,rfl,hY,by show TL.len _<=_;rw[hYl];exact hspare,⟨q7.1,by show TL.len _*40<=_;rw[hYl];exact hroom⟩,by rw[List.length_append,List.length_drop,hul'];show _=c*3;omega⟩) (fun b' e=>by cases e;exact⟨hG b hbG,.inr hbG⟩) (fun k hk hg=>Go.setRow_other w b k _ (fun e=>hg (e▸hbG))) (by rw[fS];exact Nat.le_refl _) ⟨rfl,rfl,rfl,Nat.le_refl _⟩
theorem FL{d:Bool}(L:Nat):dU d Tryz.prog 190 (QW L):=by
 refine⟨⟨Tryz.f190,Tryz.func190,by kernel_rfl,by kernel_rfl⟩,fun F w x vals G y hy hd hn hG hF=> ?_⟩
 obtain⟨(s:TL),(i:Int),(v:TL)⟩:=x
 have hy:ja L s i v=some y:=hy
 unfold ja at hy
 have hc:(!(aF i 0)&&Nat.ble (Int.toNat i) s.len&&Nat.beq v.len 1&&room (s.len+1) 40)=true:=by
  cases e:(!(aF i 0)&&Nat.ble (Int.toNat i) s.len&&Nat.beq v.len 1&&room (s.len+1) 40)with
  |true=>rfl
  |false=>rw[e]at hy;cases hy
 rw[hc]at hy
 have hy:TL.app (TL.take i.toNat s) (TL.app v (TL.drop i.toNat s))=y:=Option.some.inj hy
 subst hy
 simp only[Bool.and_eq_true,Bool.not_eq_true',aF,decide_eq_false_iff_not]at hc
 obtain⟨⟨⟨hi0,hi1⟩,hv1⟩,hroom⟩:=hc
 have hi1:=Nat.le_of_ble_eq_true hi1
 have hv1:=Nat.eq_of_beq_eq_true hv1
 have hroom:(s.len+1)*40<=140737488355328:=of_decide_eq_true hroom
 obtain⟨n,rfl⟩:∃n:Nat,i=(n:Int):=⟨i.toNat,by omega⟩
 rw[Int.toNat_natCast]at hi1⊢
 obtain⟨vs0,rest,G1,G2,e1,e2,⟨sv,B,f1,row1,f2⟩,vs1,rest1,G3,G4,e3,e4,⟨⟨g1,g2⟩,g3⟩,vs2,e5,⟨vv,B',h1,row2,h2⟩⟩:=hd
 subst f1 g1 h1 e1 e3 e5 f2 g3 h2 e4
 rcases row2 with⟨A,_,_,_,k4,_⟩|⟨vb,vo,vel,vc,vpre,vcs,vpost,k1,k2,k3,k4,k5,k6,k7,k8⟩
 ·have k4:v.len=0:=k4
  omega
 subst k1
 have k2:vv=.slice (some ⟨vb,vo,none⟩) v.len vc:=k2
 rw[hv1]at k2
 subst k2
 have k6:v.len<=vc:=k6
 exact FM hi1 hv1 hroom e2 hn hG hF row1 k3 k4 k5 (by omega) k7.1 k8
end Go.Proofs.YtehbbcdhahnkgaaGreat.Vm
