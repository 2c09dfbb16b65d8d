/- The value machine and the machine: slices.Delete. Fields of changed structs. Plain functions: what holds of an answer; numbers; loops. Plain functions: terms are compared; parts of messages. -/
import Derived.Test.YtehbbcdhahnkgaaGreatVMNat
import Derived.Shelf.SlLaysE0
import Derived.Shelf.RegionOpenPlain
import Derived.WalkKit
import Derived.Deep.LoopGhost
import Derived.Deep.RegionLaw
import Derived.Lib.Walk
import Derived.Lib.AppendZeros
import Derived.Lib.SliceRun
import Derived.Test.YtehbbcdhahnkgaaGreatVMFh
set_option linter.all false
set_option maxRecDepth 100000
set_option maxHeartbeats 0
namespace Go.Proofs.YtehbbcdhahnkgaaGreat.Vm
open Go Go.Shelf Go.RowKit Go.Lib
section
variable {P:Program}
theorem ye{w:World}{t e ty:TypeId}{te:TI}(ht:P.underlying t=some (.slice e))(he:xB P e te){b el k c off:Nat}{arr:List Value}(hg:w.heap[b]?=some (.cells arr.toArray el (0,0)))(hl:off+k*te.ty.size<=arr.length):
 (Builtin.clear_ #[t] ty #[.slice (some ⟨b,off,none⟩) k c]).run P w=.ok (.tuple #[]) (w.setRow b (dO arr off (List.replicate k (zc te.ty)).flatten).toArray):=by
 obtain⟨it,hi1,hz1,hsz,_⟩:=he.parts
 have hfl:(List.replicate k (zc te.ty)).flatten.length=k*te.ty.size:=by rw[po,xy]
 have hst:=run_storeCells_at P b off el (List.replicate k (zc te.ty)).flatten 0 arr.toArray w hg (by simp only[List.size_toArray,hfl];omega) (fun v hv=>by
  simp only[List.mem_flatten,List.mem_replicate]at hv
  obtain⟨l,⟨_,rfl⟩,hv⟩:=hv
  exact Mw te.ty v hv)
 simp only[Nat.add_zero]at hst
 have hst':(storeCells ⟨b,off,none⟩ (Builtin.zeroCells (pk te.ty (zc te.ty)).cells k).toList).run P w=.ok () (w.setRow b (dO arr off (List.replicate k (zc te.ty)).flatten).toArray):=by rw[uF];exact hst
 cases k with
 |zero=>
  have e:dO arr off ((List.replicate 0 (zc te.ty)).flatten)=arr:=by simp[dO]
  rw[e,setRow_self w b _ _ _ hg]
  simp[Builtin.clear_,run_underlying ht]
 |succ k=>simp[Builtin.clear_,run_underlying ht,zeroValue,typeInfo,hi1,hz1,hst']
theorem yh{ops:Array Oper}{o:Oper}{a:Act}{w:World}{K:Act->World->Prop}{Q:Exit->Act->World->Prop}{E:Prop}(hg:o.guard=none)(s x:Operand)(t:TypeId)
 (hop:o.op=Op.call {callee:=Callee.builtin Builtin.append,args:= #[s,x],argTypes:= #[t,t]}) (v u:Value) (hs:a.eval s=v) (hx:a.eval x=u) {v':Value} {w':World} (hr:(Builtin.append_ #[t,t] o.type #[v,u]).run P w=.ok v' w') (hK:K (a.put o.dst v') w'):
 if Region.wanted o (yielded ops a.tmps)=true then Oper.wp P o a w K Q else E:=by
 have hw:Region.wanted o (yielded ops a.tmps)=true:=by simp[Region.wanted,hg]
 rw[if_pos hw]
 exact Lib.wp_append_run w s x t t hop v u hs hx _ _ hr hK
set_option maxHeartbeats 4000000 in
set_option maxRecDepth 1000000 in
theorem Fo{ρ:Ren}(L:SlLaysE0.n45 P ρ){te:TI}(he:xB P (ρ.t 23) te){w:World}{b el c i j n:Nat}{cz vs post:List Value}(hg:w.heap[b]?=some (.cells (cz++vs++post).toArray el (0,0)))(hl:vs.length=n*te.ty.size)(hp:vs.length+post.length=c*te.ty.size)(h1:∀u∈vs,u.oneCell'=true)(hij:i<=j)(hj:j<=n)(hnc:n<=c)(hc:c<=maxLen):
 Calls P (ρ.f 45) #[.slice (some ⟨b,cz.length,none⟩) n c,.int .i64 i,.int .i64 j] w fun e w'=>e=.returned (.slice (some ⟨b,cz.length,none⟩) (n-(j-i)) c)/\
  w'.heap[b]?=some (.cells (cz++(vs.take (i*te.ty.size)++vs.drop (j*te.ty.size))++((List.replicate (j-i) (zc te.ty)).flatten++post)).toArray el (0,0))/\(∀k,k≠b->w'.heap[k]?=w.heap[k]?)/\w'.heap.size=w.heap.size/\Wo w w':=by
 have mixed:=L.mixed;have t0:=L.t0;have a0:=L.a0;have z0:=L.z0;have v0:=L.v0;have t3:=L.t3;have a3:=L.a3;have z3:=L.z3;have v3:=L.v3;have t4:=L.t4;have a4:=L.a4;have z4:=L.z4;have v4:=L.v4;have t22:=L.t22;have a22:=L.a22;have z22:=L.z22;have v22:=L.v22
 have z23:∀w,(Go.sizeOf (ρ.t 23)).run P w=.ok te.ty.size w:=fun w=>gH he.Is
 unfold maxLen at hc
 by_cases FI:i=j
 ·subst FI
  have h0:Calls P (ρ.f 45) #[.slice (some ⟨b,cz.length,none⟩) n c,.int .i64 i,.int .i64 i] w fun e w'=>e=.returned (.slice (some ⟨b,cz.length,none⟩) n c)/\w'=w:=by
   clear hg h1 hl hp
   obtain⟨_,_,FG⟩:=L.f45
   go_enter FG,SlBodyN.n45_ntmps ρ
   go_wp2
   all_goals (go_ret;exact⟨rfl,rfl⟩)
  refine h0.mono ?_
  rintro e w' ⟨rfl,rfl⟩
  refine⟨by rw[Nat.sub_self,Nat.sub_zero],?_,fun _ _=>rfl,rfl,Wo.rfl⟩
  rw[hg,Nat.sub_self,List.take_append_drop];simp
 ·have hlt:i<j:=by omega
  obtain⟨it,hi0,hz0,hsz,hby⟩:=he.parts
  obtain⟨sz,hsz'⟩:∃sz,te.ty.size=sz:=⟨_,rfl⟩
  rw[hsz']at hl hp z23 hsz⊢
  have hmi:=Nat.mul_le_mul_right sz hij
  have hmj:=Nat.mul_le_mul_right sz hj
  have hmc:=Nat.mul_le_mul_right sz hnc
  obtain⟨news,hnews⟩:∃news,news=vs.drop (j*sz):=⟨_,rfl⟩
  have hlen:news.length=(n-j)*sz:=by rw[hnews,List.length_drop,hl,Nat.sub_mul]
  have hone:∀u∈news,u.oneCell'=true:=fun u hu=>h1 u (List.mem_of_mem_drop (hnews▸hu))
  obtain⟨A,hA,hsrc⟩:∃A:Addr,(if c=j then some (⟨b,cz.length,none⟩:Addr)else some ⟨b,cz.length+j*sz,none⟩)=some A/\(∀t u,news[t]?=some u->w.drew.cell? (A.add t)=some u):=by
   by_cases h:c=j
   ·refine⟨⟨b,cz.length,none⟩,by simp[h],fun t u hu=> ?_⟩
    have h0:news.length=0:=by rw[hlen,show n-j=0 by omega,Nat.zero_mul]
    rw[List.length_eq_zero_iff.1 h0]at hu
    simp at hu
   ·refine⟨⟨b,cz.length+j*sz,none⟩,by simp[h],fun t u hu=> ?_⟩
    rw[hnews,List.getElem?_drop]at hu
    rw[Addr.add_lit,show cz.length+j*sz+t=cz.length+(j*sz+t) by omega]
    exact qQ (w:=w.drew) hg (pP cz vs post _ u hu)
  have hs0:Src P it.size (ρ.t 22) (.slice (some A) (n-j) (c-j)) (n-j) news w.drew:=Src.ofSlice w.drew t22 _ _ _ _ (by rw[hsz];exact hlen) hsrc hone
  have hrun:∀ty,(Builtin.append_ #[ρ.t 22,ρ.t 22] ty #[.slice (some ⟨b,cz.length,none⟩) i c,.slice (some A) (n-j) (c-j)]).run P w.drew=.ok (.slice (some ⟨b,cz.length,none⟩) (i+(n-j)) c) (w.drew.setRow b (dO (cz++vs++post) (cz.length+i*it.size) news).toArray):=
   fun ty=>oc (ρ.t 22) (ρ.t 22) ty (ρ.t 23) it t22 hi0 hs0 (by omega) (w:=w.drew) hg (by rw[hsz,hlen,List.length_append,List.length_append,hl,Nat.sub_mul];omega)
  obtain⟨W1,hW1⟩:∃W1,W1=w.drew.setRow b (dO (cz++vs++post) (cz.length+i*it.size) news).toArray:=⟨_,rfl⟩
  rw[<-hW1]at hrun
  have hg1:W1.heap[b]?=some (.cells (dO (cz++vs++post) (cz.length+i*it.size) news).toArray el (0,0)):=by rw[hW1];exact Go.setRow_heap w.drew b _ _ el (0,0) hg
  obtain⟨l1,hl1⟩:∃l1,l1=dO (cz++vs++post) (cz.length+i*it.size) news:=⟨_,rfl⟩
  rw[<-hl1]at hg1 hW1
  have hl1':l1=cz++(vs.take (i*sz)++vs.drop (j*sz))++((vs++post).drop ((i+(n-j))*sz)):=by
   rw[hl1,hsz,List.append_assoc,iz]
   unfold dO
   rw[hlen,<-hnews,<-Nat.add_mul,List.take_append_of_le_length (by rw[hl];omega)]
   simp only[List.append_assoc]
  have hlen1:l1.length=cz.length+c*sz:=by
   rw[hl1',<-hnews]
   simp only[List.length_append,List.length_take,List.length_drop,hlen,hl]
   have e1:(i+(n-j))*sz=i*sz+(n*sz-j*sz):=by rw[Nat.add_mul,Nat.sub_mul]
   rw[e1,Nat.sub_mul];omega
  obtain⟨W2,hW2⟩:∃W2,W2=W1.setRow b (dO l1 (cz.length+(i+(n-j))*sz) (List.replicate (n-(i+(n-j))) (zc te.ty)).flatten).toArray:=⟨_,rfl⟩
  have hcl:∀ty,(Builtin.clear_ #[ρ.t 22] ty #[.slice (some ⟨b,cz.length+(i+(n-j))*sz,none⟩) (n-(i+(n-j))) (c-(i+(n-j)))]).run P W1=.ok (.tuple #[]) W2:=fun ty=>by
   rw[hW2]
   refine ye t22 he hg1 ?_
   rw[hsz',hlen1]
   have:(i+(n-j))*sz+(n-(i+(n-j)))*sz=n*sz:=by rw[<-Nat.add_mul];congr 1;omega
   omega
  have hW2':W2.heap[b]?=some (.cells (cz++(vs.take (i*sz)++vs.drop (j*sz))++((List.replicate (j-i) (zc te.ty)).flatten++post)).toArray el (0,0))/\(∀k,k≠b->W2.heap[k]?=w.heap[k]?)/\W2.heap.size=w.heap.size/\Wo w W2:=by
   have hk:n-(i+(n-j))=j-i:=by omega
   have hXl:(vs.take (i*sz)++vs.drop (j*sz)).length=(i+(n-j))*sz:=by
    rw[List.length_append,<-hnews,hlen,List.length_take,hl,Nat.add_mul];omega
   have hzl:(List.replicate (j-i) (zc te.ty)).flatten.length=(j-i)*sz:=by rw[po,xy,hsz']
   have hput:dO l1 (cz.length+(i+(n-j))*sz) (List.replicate (n-(i+(n-j))) (zc te.ty)).flatten=cz++(vs.take (i*sz)++vs.drop (j*sz))++((List.replicate (j-i) (zc te.ty)).flatten++post):=by
    rw[hk,hl1',List.append_assoc,iz,<-hXl]
    have:=iz (us:=vs.take (i*sz)++vs.drop (j*sz)) (rs:=(vs++post).drop ((vs.take (i*sz)++vs.drop (j*sz)).length)) (o:=0) (ys:=(List.replicate (j-i) (zc te.ty)).flatten)
    rw[Nat.add_zero]at this
    rw[this]
    unfold dO
    rw[List.take_zero,List.nil_append,Nat.zero_add,List.drop_drop,hzl,hXl,<-Nat.add_mul,show i+(n-j)+(j-i)=n by omega,<-hl,List.drop_left]
    simp only[List.append_assoc]
   rw[hput]at hW2
   refine⟨by rw[hW2];exact Go.setRow_heap W1 b _ _ el (0,0) hg1,fun k hk=> ?_,?_,?_⟩
   ·rw[hW2,Go.setRow_other W1 b k _ hk,hW1,Go.setRow_other w.drew b k _ hk];rfl
   ·rw[hW2,fS,hW1,fS];rfl
   ·rw[hW2,hW1];exact⟨rfl,rfl,rfl,by first|exact Nat.le_refl _|exact Nat.le_succ _⟩
  have hic:i<=c:=by omega
  have hjc:j<=c:=by omega
  have Z:Aside (W2.heap[b]?=some (.cells (cz++(vs.take (i*sz)++vs.drop (j*sz))++((List.replicate (j-i) (zc te.ty)).flatten++post)).toArray el (0,0))/\(∀k,k≠b->W2.heap[k]?=w.heap[k]?)/\W2.heap.size=w.heap.size/\Wo w W2):=hW2'
  clear hW2' hW2 hW1 hlen1 hl1' hg1 hl1 hs0 hsrc hone hlen hnews hg hl hp h1 hmi hmj hmc
  obtain⟨_,_,FG⟩:=L.f45
  go_enter FG,SlBodyN.n45_ntmps ρ
  go_wp2_with fail
  go_region_law_o (refine yh rfl (.tmp 22) (.tmp 25) (ρ.t 22) rfl (.slice (some ⟨b,cz.length,none⟩) i c) (.slice (some A) (n-j) (c-j)) (by simp[Act.eval,Act.put]) (by simp[Act.eval,Act.put]) (hrun _) ?_)
  go_wp2
  go_ret
  refine⟨by rw[show n-(j-i)=i+(n-j) by omega];rfl,Z.out⟩
set_option maxHeartbeats 1000000 in
theorem DC{ρ:Ren}(L:SlLaysE0.n45 P ρ){te:TI}(he:xB P (ρ.t 23) te){w:World}{A:Option Addr}:
 Calls P (ρ.f 45) #[.slice A 0 0,.int .i64 0,.int .i64 0] w fun e w'=>e=.returned (.slice A 0 0)/\w'=w:=by
 have mixed:=L.mixed;have t0:=L.t0;have a0:=L.a0;have z0:=L.z0;have v0:=L.v0;have t3:=L.t3;have a3:=L.a3;have z3:=L.z3;have v3:=L.v3;have t4:=L.t4;have a4:=L.a4;have z4:=L.z4;have v4:=L.v4;have t22:=L.t22;have a22:=L.a22;have z22:=L.z22;have v22:=L.v22
 have z23:∀w,(Go.sizeOf (ρ.t 23)).run P w=.ok te.ty.size w:=fun w=>gH he.Is
 obtain⟨_,_,FG⟩:=L.f45
 go_enter FG,SlBodyN.n45_ntmps ρ
 cases A<;>(go_wp2;go_ret;exact⟨rfl,rfl⟩)
end
open Go
theorem Lt{ws:List Wr}(h:ws.all Wr.zF=true):oa ws:=fun x hx=>by
 have:=List.all_eq_true.1 h x hx
 cases x with
 |ej id o=>exact⟨id,o,rfl⟩
 |jQ n v=>cases this
theorem LJ{t:DT}{v:HV}{k:t.den->List Wr->ST}{S:Sl}{H:Hp}{r:Ws}(h:(rdO t v k).run S H=some r):(rdO t v fun x ws=>bif ws.all Wr.zF then k x ws else .fail 0).run S H=some r:=by
 unfold rdO at h⊢
 split at h
 ·obtain⟨x,h1,h2⟩:=a07 h
  rw[h1];exact h2
 ·rename_i id
  obtain⟨ob,ho,h⟩:=dR h
  obtain⟨d,h1,h⟩:=a07 h
  obtain⟨x,h2,h⟩:=a07 h
  simp only[RT.run,ho]
  rw[h1]
  show(er 305 (gk d.1 t d.2) fun y=>bif List.all [Wr.ej id none] Wr.zF then k y [.ej id none]else RT.fail 0).run S H=some r
  rw[h2];exact h
 ·rename_i id lo hi sz j
  cases hsz:Nat.beq sz (u5 t)with
  |false=>rw[hsz]at h;exact aA h
  |true=>
   rw[hsz]at h
   obtain⟨ob,ho,h⟩:=dR (show(RT.ej id _).run S H=some r from h)
   obtain⟨d,h1,h⟩:=a07 h
   obtain⟨x,h2,h⟩:=a07 h
   show(RT.ej id _).run S H=some r
   simp only[RT.run,ho]
   rw[h1]
   show(er 305 (gk d.1 t d.2) fun y=>bif List.all [Wr.ej id none] Wr.zF then k (a3z t y lo hi) [.ej id none]else RT.fail 0).run S H=some r
   rw[h2];exact h
 ·exact aA h
theorem IK{t:DT}{args:List HV}{n:Nat}{K:HV->List Wr->Nat->ST}{S:Sl}{H:Hp}{r:Ws}(h:(HA {kind:=2,t:=t} args n K).run S H=some r):
 ∃v i j,args=[v,.i .i64 i,.i .i64 j]/\(a3X (.i .i64 i) fun i=>a3X (.i .i64 j) fun j=>ownR (cT t) v fun x ws=>yn (Nat.ble i j&&Nat.ble j (lenL (cT t) x)) 412 (K (.li n) (ws++[.ej n (some (.row (cT t) (zI (cT t) x i j)))]) (n+1))).run S H=some r:=by
 rcases args with _|⟨v,_|⟨a1,_|⟨a2,_|⟨v4,l⟩⟩⟩⟩
 ·exact aA h
 ·exact aA h
 ·cases v<;>cases a1<;>exact aA h
 ·cases a1 with
  |i k1 i=>
   cases a2 with
   |i k2 j=>
    obtain⟨hb,h⟩:=cE (show(bif nI k1 .i64&&nI k2 .i64 then _ else RT.fail 413).run S H=some r from h)
    simp only[Bool.and_eq_true]at hb
    cases iX hb.1
    cases iX hb.2
    exact⟨v,i,j,rfl,h⟩
   |_=>exact aA h
  |_=>exact aA h
 ·cases a1<;>cases a2<;>exact aA h
theorem KK{u:DT}(x:List u.den)(i j:Nat):zI (.bH u) x i j=xM (.bH u) (a3z (.bH u) x 0 i) (a3z (.bH u) x j (lenL (.bH u) x)):=by
 have e:∀x:List u.den,List.take i x++List.drop j x=List.drop 0 (List.take i x)++List.drop j (List.take x.length x):=fun x=>by rw[List.drop_zero,List.take_length]
 exact e x
theorem qM{d:Bool}{P:Program}{σ:Shelf.Ren}(L:SlLaysE0.n45 P σ){te:TI}(he:xB P (σ.t 23) te){u:DT}(hs:te.ty.size=u.size):jS d P (σ.f 45) {kind:=2,t:=.a01 u}:=by
 have ht:(cT (.a01 u)).isL=true:=rfl
 have hs:te.ty.size=u5 (cT (.a01 u)):=hs
 intro ρ args n K S H r _ h
 obtain⟨v,i,j,ea,h1⟩:=IK h
 subst ea
 obtain⟨_,_,e,hi0,h2⟩:=lZ h1
 cases e
 obtain⟨_,_,e,hj0,h3⟩:=lZ h2
 cases e
 obtain⟨x,ws,h4,hrd⟩:=yI ht (LJ (Er h3))
 obtain⟨hall,h5⟩:=cE h4
 obtain⟨hc,h⟩:=gV h5
 have hobj:=Lt hall
 simp only[Bool.and_eq_true]at hc
 have hij:=Nat.le_of_ble_eq_true hc.1
 have hjn:=Nat.le_of_ble_eq_true hc.2
 refine⟨_,_,_,h,Nat.le_succ n,a3f hobj (fQ _ _),pX.El L.f45 rfl,fun m w U vals hrep hU hfree hargs=> ?_⟩
 obtain⟨val,ys1,hv,ha1,e1⟩:=di hargs
 obtain⟨vi,ys2,hvi,ha2,e2⟩:=di ha1
 obtain⟨vj,hvj,e3⟩:=ik ha2
 obtain⟨e4,_⟩:=eB hvi
 obtain⟨e5,_⟩:=eB hvj
 subst e3 e2 e1 e4 e5
 obtain⟨m1,B,hrn,hrow⟩:=hrd (.start hrep) rfl hv
 have hrs:RS ρ H m w ws m1:=by simpa using hrn.rs
 have hgok:mu ρ (cw H ws) m1 B.toList:=by simpa using hrn.AH
 have hn:¬U n:=hfree n (Nat.le_refl _) (Nat.lt_succ_self _)
 have hU1:∀id,m1.has id->U id:=fun id hid=>hU id (by
  rcases hid with q|q|q
  ·exact .inl (by rwa[hrs.ad]at q)
  ·exact .inr (.inl (by rwa[hrs.pl]at q))
  ·exact .inr (.inr (by rwa[hrs.px]at q)))
 obtain⟨a,ha⟩:∃a:Nat,i=(a:Int):=⟨i.toNat,by omega⟩
 obtain⟨b,hb⟩:∃b:Nat,j=(b:Int):=⟨j.toNat,by omega⟩
 subst ha hb
 have hij:a<=b:=hij
 have hjn:b<=lenL (cT (.a01 u)) x:=hjn
 have hjt:zI (cT (.a01 u)) x a b=xM (cT (.a01 u)) (a3z (cT (.a01 u)) x 0 a) (a3z (cT (.a01 u)) x b (lenL (cT (.a01 u)) x)):=KK x a b
 have hjl:lenL (cT (.a01 u)) (zI (cT (.a01 u)) x a b)=lenL (cT (.a01 u)) x-(b-a):=by
  rw[hjt,iw ht,pC ht,pC ht];omega
 have hjl':lenL (cT (.a01 u)) (zI (cT (.a01 u)) x (a:Int).toNat (b:Int).toNat)=lenL (cT (.a01 u)) x-(b-a):=hjl
 have hlc:∀{vs:List Value},LC m1.fz (cT (.a01 u)) x vs->LC m1.fz (cT (.a01 u)) (zI (cT (.a01 u)) x a b) (vs.take (a*te.ty.size)++vs.drop (b*te.ty.size)):=fun{vs} h=>by
  have:=(h.cut 0 a).E4 (h.cut b (lenL (cT (.a01 u)) x))
  rw[<-hjt,Nat.zero_mul,List.drop_zero,<-h.len,List.take_length,<-hs]at this
  exact this
 rcases hrow with⟨A,k1,k2,k3,k4,k5⟩|⟨b',o',el,c2,cz,vs,post,k1,k2,k3,k4,k5,k6,k7,k8⟩
 ·subst k1 k5
  obtain rfl:b=0:=by omega
  obtain rfl:a=0:=by omega
  refine(DC L he (A:=A) (w:=w)).mono fun e w' ⟨q1,q2⟩=> ?_
  subst q1 q2
  exact a4b hrs.le hU1 hn ht hrs.rep (.inl ⟨A,rfl,k2,by simpa using hlc k3,by rw[hjl'];omega,rfl⟩) hgok
 ·subst k1 k2 k4
  have hvl:=k5.len
  rw[<-hs]at hvl k8
  refine(Fo L he (i:=a) (j:=b) k3 hvl k8 (LC.one k5) hij hjn k6 k7.1).mono fun e w' ⟨q1,q2,q3,q4,q5⟩=> ?_
  subst q1
  have hfree:=hrs.rep.jI (w':=w') hgok q3 (by rw[q4];exact Nat.le_refl _) q5
  refine a4b hrs.le hU1 hn ht hfree (.inr ⟨b',cz.length,el,c2,cz,vs.take (a*te.ty.size)++vs.drop (b*te.ty.size),(List.replicate (b-a) (zc te.ty)).flatten++post,rfl,by rw[hjl'],q2,rfl,hlc k5,by rw[hjl'];omega,⟨k7.1,Nat.le_trans (Nat.mul_le_mul_right _ (by rw[hjl'];omega)) k7.2⟩,?_⟩) hgok
  rw[<-hs,<-k8,List.length_append,List.length_append,List.length_take,List.length_drop,po,xy,hvl]
  have h1:=Nat.mul_le_mul_right te.ty.size hij
  have h2:=Nat.mul_le_mul_right te.ty.size hjn
  rw[Nat.sub_mul];omega
@[simp] theorem aa.JV(x:aa)(v):(aa.bI x v).af=x.af:=rfl
def Ok{α:Type}(o:Option α)(Q:α->Prop):Prop:=∃a,o=some a/\Q a
section
variable {α β:Type}{Q R:α->Prop}
theorem ae{a:α}(h:Q a):Ok (some a) Q:=⟨a,rfl,h⟩
theorem Ok.mono{o:Option α}(h:Ok o R)(k:∀a,R a->Q a):Ok o Q:=by
 obtain⟨a,h1,h2⟩:=h;exact⟨a,h1,k a h2⟩
theorem Ok.bind{o:Option β}{f:β->Option α}{P:β->Prop}(h:Ok o P)(k:∀b,P b->Ok (f b) Q):Ok (Option.bind o f) Q:=by
 obtain⟨b,h1,h2⟩:=h;obtain⟨a,h3,h4⟩:=k b h2;exact⟨a,by rw[h1];exact h3,h4⟩
theorem aD{o:Option β}{f:β->Option α}(h:Ok o fun b=>Ok (f b) Q):Ok (Option.bind o f) Q:=h.bind fun _ k=>k
theorem bJ{c:Bool}{x y:Option α}(h:c=true->Ok x Q)(k:c=false->Ok y Q):Ok (bif c then x else y) Q:=by
 cases c
 ·exact k rfl
 ·exact h rfl
theorem bD{b:Bool}{x:Option α}(hb:b=true)(h:Ok x Q):Ok (aJ b x) Q:=by subst hb;exact h
theorem tH{o:Option α}{a:α}(h:o=some a)(k:Q a):Ok o Q:=⟨a,h,k⟩
theorem Ok.and{o:Option α}(h:Ok o Q)(k:Ok o R):Ok o fun a=>Q a/\R a:=by
 obtain⟨a,h1,h2⟩:=h;obtain⟨b,h3,h4⟩:=k
 rw[h1]at h3;cases h3;exact⟨a,h1,h2,h4⟩
end
@[simp] theorem eW{α:Type}(x:Option α):aJ true x=x:=rfl
@[simp] theorem U0{α:Type}(x:Option α):aJ false x=none:=rfl
theorem a2a{a b:Int}(h:a<b):aF a b=true:=decide_eq_true h
theorem a0k{a b:Int}(h:¬a<b):aF a b=false:=decide_eq_false h
theorem a3b{a b:Int}(h:a=b):aH a b=true:=decide_eq_true h
theorem l7{a b:Int}(h:¬a=b):aH a b=false:=decide_eq_false h
theorem lK{a b:Int}:aH a b=true↔a=b:=by simp[aH]
theorem zn{a b:Int}:aH a b=false↔a≠b:=by simp[aH]
theorem yC{a b:Int}:aF a b=true↔a<b:=by simp[aF]
theorem Lf{a b:Int}:aF a b=false↔¬a<b:=by simp[aF]
@[simp] theorem yu(a:Int):aH a a=true:=by simp[aH]
theorem u7{a:Int}(h1: -9223372036854775808<=a)(h2:a<9223372036854775808):IntKind.i64.wrap a=a:=by
 have h:IntKind.i64.wrap a=(a+9223372036854775808)%18446744073709551616-9223372036854775808:=by
  unfold IntKind.wrap;simp[IntKind.signed,IntKind.bits];omega
 rw[h];omega
theorem fK{a b:Int}(h1: -9223372036854775808<=a+b)(h2:a+b<9223372036854775808):add a b=a+b:=u7 h1 h2
theorem uT{a b:Int}(h1: -9223372036854775808<=a-b)(h2:a-b<9223372036854775808):sub a b=a-b:=u7 h1 h2
theorem Lj{a b:Int}(h1: -9223372036854775808<=a*b)(h2:a*b<9223372036854775808):mul a b=a*b:=u7 h1 h2
theorem cG(i:Nat)(h:i<9223372036854775807):add (i:Int) 1=((i+1:Nat):Int):=by rw[fK (by omega) (by omega)];rfl
theorem jg(i:Nat):aF (i:Int) 0=false:=a0k (by omega)
theorem iF{a b:Nat}(h:a<b):Nat.blt a b=true:=Nat.ble_eq_true_of_le h
theorem AY{a b:Nat}(h:¬a<b):Nat.blt a b=false:=by
 cases e:Nat.blt a b with
 |false=>rfl
 |true=>exact absurd (Nat.le_of_ble_eq_true e) h
theorem jU{a b:Nat}(h:a<=b):Nat.ble a b=true:=Nat.ble_eq_true_of_le h
@[simp] theorem a08(i:Nat):Int.toNat (i:Int)=i:=rfl
theorem cF{n b:Nat}(h:n*b<=140737488355328):room n b=true:=decide_eq_true h
theorem a3Z{X Y:Type}{key:Nat}{f:X->Option (X⊕Y)}{n:Nat}{x:X}:iter key f (n+1) x=match f x with
 |none=>none
 |some (.inl x')=>iter key f n x'
 |some (.inr y)=>some y:=by
 show(@Option.rec (X⊕Y) (fun _=>Option Y) none (fun r=>@Sum.rec X Y (fun _=>Option Y) (iter key f n) some r) (f x))=_
 cases f x with
 |none=>rfl
 |some r=>cases r<;>rfl
theorem a0i{X Y:Type}{key L:Nat}{f:X->Option (X⊕Y)}{Q:Y->Prop}(n:Nat)(J:Nat->X->Prop)(hn:n<L){x:X}(h0:J 0 x)
 (step:∀i x,i<n->J i x->Ok (f x) (Sum.elim (J (i+1)) Q)) (stop:∀x,J n x->Ok (f x) (Sum.elim (fun _=>False) Q)):Ok (iter key f L x) Q:=by
 have main:∀k i x,i+k=n->J i x->∀M,k<M->Ok (iter key f M x) Q:=by
  intro k
  induction k with
  |zero=>
   intro i x hi hJ M hM
   obtain⟨M,rfl⟩:∃M',M=M'+1:=⟨M-1,by omega⟩
   obtain rfl:i=n:=by omega
   obtain⟨r,h1,h2⟩:=stop x hJ
   cases r with
   |inl x'=>exact h2.elim
   |inr y=>exact⟨y,by rw[a3Z,h1],h2⟩
  |succ k ih=>
   intro i x hi hJ M hM
   obtain⟨M,rfl⟩:∃M',M=M'+1:=⟨M-1,by omega⟩
   obtain⟨r,h1,h2⟩:=step i x (by omega) hJ
   cases r with
   |inl x'=>
    obtain⟨y,h3,h4⟩:=ih (i+1) x' (by omega) h2 M (by omega)
    exact⟨y,by rw[a3Z,h1];exact h3,h4⟩
   |inr y=>exact⟨y,by rw[a3Z,h1],h2⟩
 exact main n 0 x (by omega) h0 L hn
theorem fq{Y:Type}{key L:Nat}{f:Int->Option (Int⊕Y)}{Q:Y->Prop}(n:Nat)(J:Nat->Prop)(hn:n<L)(h0:J 0)
 (step:∀i:Nat,i<n->J i->Ok (f i) (Sum.elim (fun x=>x=((i+1:Nat):Int)/\J (i+1)) Q)) (stop:J n->Ok (f n) (Sum.elim (fun _=>False) Q)):Ok (iter key f L 0) Q:=
 a0i n (fun i x=>x=(i:Int)/\J i) hn ⟨rfl,h0⟩ (fun i x hi ⟨hx,hJ⟩=>by subst hx;exact step i hi hJ) (fun x ⟨hx,hJ⟩=>by subst hx;exact stop hJ)
theorem a2Z{α:Type}{key L:Nat}{l:List α}{z:α}{p:α->Bool}(hl:l.length<L)(hL:L<=4611686018427387904):
 Ok (iter (Y:=Unit⊕Int) key (fun r:Int=>bif aF r (l.length:Int)then aJ (!(aF r 0))<|aJ (Nat.blt (Int.toNat r) l.length)<|bif p (l.getD (Int.toNat r) z)then some (.inr (.inr r))else some (.inl (add r 1))else some (.inr (.inl ()))) L 0)
  (Sum.elim (fun _=>∀x∈l,p x=false) fun y=>∃i:Nat,y=(i:Int)/\∃h:i<l.length,p l[i]=true/\∀j (hj:j<i),p l[j]=false):=by
 refine fq l.length (fun i=>∀j (hj:j<i) (h:j<l.length),p l[j]=false) hl (fun j hj=>by omega) (fun i hi hJ=> ?_) (fun hJ=> ?_)
 ·rw[a2a (by omega),cond_true,jg,a08,iF hi]
  have e:l.getD i z=l[i]:=by simp[List.getD,hi]
  rw[e]
  refine bD rfl (bD rfl (bJ (fun h=>ae ⟨i,rfl,hi,h,fun j hj=>hJ j hj (by omega)⟩) fun h=>ae ⟨cG i (by omega),fun j hj hjl=> ?_⟩))
  by_cases e:j=i
  ·subst e;exact h
  ·exact hJ j (by omega) hjl
 ·rw[a0k (by omega),cond_false]
  refine ae fun x hx=> ?_
  obtain⟨j,hj,rfl⟩:=List.getElem_of_mem hx
  exact hJ j hj hj
theorem TL.eD(l:List Tm):(TL.of l).len=l.length:=by
 induction l with
 |nil=>rfl
 |cons t l ih=>simp[TL.of,TL.len,ih]
theorem TL.Sv(l:TL):l.ls.length=l.len:=by
 induction l with
 |nil=>rfl
 |cons o v a r _ ih=>simp[TL.ls,TL.len,ih]
theorem TL.Le(a b:TL):(a.app b).ls=a.ls++b.ls:=by
 induction a with
 |nil=>rfl
 |cons o v x r _ ih=>simp[TL.app,TL.ls,ih]
theorem TL.Pb(l:List Tm):(TL.of l).ls=l:=by
 induction l with
 |nil=>rfl
 |cons t l ih=>simp[TL.of,TL.ls,ih]
theorem TL.Pf(l:TL):TL.of l.ls=l:=by
 induction l with
 |nil=>rfl
 |cons o v a r _ ih=>simp[TL.of,TL.ls,ih]
theorem TL.a4u(l:TL):l.take l.len=l:=by
 induction l with
 |nil=>rfl
 |cons o v a r _ ih=>simp[TL.take,TL.len,ih]
def sumL{α:Type}(f:α->Nat):List α->Nat
 |[]=>0
 |x::l=>f x+sumL f l
section
variable {α:Type}(f:α->Nat)
theorem iB(l m:List α):sumL f (l++m)=sumL f l+sumL f m:=by
 induction l with
 |nil=>simp[sumL]
 |cons x l ih=>simp[sumL,ih];omega
theorem jC(x:α):sumL f [x]=f x:=by simp[sumL]
theorem EP:∀(l:List α) (i:Nat) (h:i<l.length) (y:α),sumL f (l.set i y)+f l[i]=sumL f l+f y
 |x::l,0,h,y=>by simp[sumL];omega
 |x::l,i+1,h,y=>by
  have:=EP l i (by simpa using h) y
  simp only[List.set_cons_succ,sumL,List.getElem_cons_succ];omega
theorem Md(l:List α)(i:Nat)(h:i<l.length):sumL f (l.take i++l.drop (i+1))+f l[i]=sumL f l:=by
 have:l=l.take i++l[i]::l.drop (i+1):=by
  conv=>lhs;rw[<-List.take_append_drop i l]
  rw[List.drop_eq_getElem_cons h]
 conv=>rhs;rw[this]
 rw[iB,iB];simp[sumL];omega
theorem qt{g:α->Nat}{l:List α}(h:∀x∈l,f x<=g x):sumL f l<=sumL g l:=by
 induction l with
 |nil=>exact Nat.le_refl _
 |cons x l ih=>
  have h1:=h x (by simp)
  have h2:=ih fun y hy=>h y (by simp[hy])
  simp only[sumL];omega
theorem kX{g:α->Nat}{l:List α}(h:∀x∈l,f x=g x):sumL f l=sumL g l:=by
 induction l with
 |nil=>rfl
 |cons x l ih=>simp only[sumL,h x (by simp),ih fun y hy=>h y (by simp[hy])]
theorem a4g(l:List α):sumL (fun _=>1) l=l.length:=by
 induction l with
 |nil=>rfl
 |cons x l ih=>simp[sumL,ih];omega
theorem iC{l:List α}{x:α}(h:x∈l):f x<=sumL f l:=by
 induction l with
 |nil=>simp at h
 |cons y l ih=>
  simp only[sumL]
  rcases List.mem_cons.1 h with rfl|h
  ·omega
  ·have:=ih h;omega
theorem Me{β:Type}(g:β->α)(l:List β):sumL f (l.map g)=sumL (fun x=>f (g x)) l:=by
 induction l with
 |nil=>rfl
 |cons x l ih=>simp[sumL,ih]
end
section
variable {α:Type}{Q:α->Prop}{x y:Option α}{a b:Int}{m n:Nat}{c:Bool}
theorem aM(h:a<b->Ok x Q)(k:¬a<b->Ok y Q):Ok (bif aF a b then x else y) Q:=bJ (fun e=>h (yC.1 e)) fun e=>k (Lf.1 e)
theorem bX(h:¬a<b->Ok x Q)(k:a<b->Ok y Q):Ok (bif !(aF a b)then x else y) Q:=bJ (fun e=>h (Lf.1 (by simpa using e))) fun e=>k (yC.1 (by simpa using e))
theorem aC(h:a=b->Ok x Q)(k:¬a=b->Ok y Q):Ok (bif aH a b then x else y) Q:=bJ (fun e=>h (lK.1 e)) fun e=>k (zn.1 e)
theorem aP(h:¬a=b->Ok x Q)(k:a=b->Ok y Q):Ok (bif !(aH a b)then x else y) Q:=bJ (fun e=>h (zn.1 (by simpa using e))) fun e=>k (lK.1 (by simpa using e))
theorem bn(h:c=false->Ok x Q)(k:c=true->Ok y Q):Ok (bif !c then x else y) Q:=bJ (fun e=>h (by simpa using e)) fun e=>k (by simpa using e)
theorem a03(h:m<n)(k:Ok x Q):Ok (aJ (Nat.blt m n) x) Q:=bD (iF h) k
theorem ay(h:¬a<b)(k:Ok x Q):Ok (aJ (!(aF a b)) x) Q:=bD (by simp[a0k h]) k
theorem a0r(h:a=b)(k:Ok x Q):Ok (aJ (aH a b) x) Q:=bD (a3b h) k
theorem eK(h:¬a=b)(k:Ok x Q):Ok (aJ (!(aH a b)) x) Q:=bD (by simp[l7 h]) k
end
def TL.cP:TL->Prop
 | .nil=>True
 | .cons _ _ a r=>a.len<=5000/\a.cP/\r.cP
def Tm.cP(t:Tm):Prop:=t.2.2.len<=5000/\t.2.2.cP
theorem TL.a2C:∀{l:TL},l.cP->∀i,(l.get i).cP
 | .nil,_,i=>by cases i<;>exact⟨Nat.zero_le _,trivial⟩
 | .cons o v a r,h,0=>⟨h.1,h.2.1⟩
 | .cons o v a r,h,i+1=>TL.a2C (l:=r) h.2.2 i
theorem TL.tw:∀{l:List Tm},(∀t∈l,t.cP)->(TL.of l).cP
 |[],_=>trivial
 |t::l,h=>⟨(h t (by simp)).1,(h t (by simp)).2,TL.tw fun u hu=>h u (by simp[hu])⟩
theorem TL.Hz:∀{l:TL},l.cP->∀t∈l.ls,t.cP
 | .nil,_,t,ht=>by simp[TL.ls]at ht
 | .cons o v a r,h,t,ht=>by
   rcases List.mem_cons.1 ht with rfl|ht
   ·exact⟨h.1,h.2.1⟩
   ·exact TL.Hz (l:=r) h.2.2 t ht
theorem TL.qg:∀{a b:TL},a.cP->b.cP->(a.app b).cP
 | .nil,b,_,h=>h
 | .cons o v x r,b,h,k=>⟨h.1,h.2.1,TL.qg (a:=r) h.2.2 k⟩
theorem TL.tu:∀(n:Nat) {a:TL},a.cP->(a.drop n).cP
 |0,a,h=>by cases a<;>exact h
 |n+1,.nil,h=>h
 |n+1,.cons o v x r,h=>TL.tu n (a:=r) h.2.2
theorem Tm.O2(n:Int):Tm.cP (T.aG n):=⟨Nat.zero_le _,trivial⟩
theorem TL.vK:∀l:TL,l.cmp l=0
 | .nil=>rfl
 | .cons o v a r=>by
   simp only[TL.cmp,a0k (show¬o<o by omega),a0k (show¬v<v by omega),TL.vK a,TL.vK r,yu,cond_false,cond_true]
   rw[AY (by omega)];rfl
theorem TL.zb:∀{l m:TL},l.len=m.len->l.cmp m=0->l=m
 | .nil,.nil,_,_=>rfl
 | .nil,.cons ..,h,_=>by simp[TL.len]at h
 | .cons ..,.nil,h,_=>by simp[TL.len]at h
 | .cons o v a r,.cons o' v' a' r',hl,h=>by
   simp only[TL.cmp]at h
   by_cases h1:o<o'
   ·rw[a2a h1,cond_true]at h;omega
   rw[a0k h1,cond_false]at h
   by_cases h2:o'<o
   ·rw[a2a h2,cond_true]at h;omega
   rw[a0k h2,cond_false]at h
   by_cases h3:v<v'
   ·rw[a2a h3,cond_true]at h;omega
   rw[a0k h3,cond_false]at h
   by_cases h4:v'<v
   ·rw[a2a h4,cond_true]at h;omega
   rw[a0k h4,cond_false]at h
   by_cases h5:a.len<a'.len
   ·rw[iF h5,cond_true]at h;omega
   rw[AY h5,cond_false]at h
   by_cases h6:a'.len<a.len
   ·rw[iF h6,cond_true]at h;omega
   rw[AY h6,cond_false]at h
   by_cases h7:a.cmp a'=0
   ·rw[a3b h7,cond_true]at h
    obtain rfl:o=o':=by omega
    obtain rfl:v=v':=by omega
    obtain rfl:=TL.zb (by omega) h7
    obtain rfl:=TL.zb (by simpa [TL.len]using hl) h
    rfl
   ·rw[l7 h7,cond_false]at h
    exact absurd h h7
theorem qK{t u:Tm}:nW t u=0↔t=u:=by
 obtain⟨o,v,a⟩:=t
 obtain⟨o',v',a'⟩:=u
 constructor
 ·intro h
  have:=TL.zb (l:=.cons o v a .nil) (m:=.cons o' v' a' .nil) rfl h
  cases this;rfl
 ·intro h;rw[h];exact TL.vK _
section
variable {L:Nat}
theorem Dy(hL:5000<L)(hM:L<=4611686018427387904):∀(n:Nat) (t u:Tm),t.cP->t.dep<=n->a2o L n t u=some (nW t u):=by
 intro n
 induction n with
 |zero=>intro t u _ h;simp[Tm.dep]at h
 |succ n ih=>
  rintro⟨o,v,a⟩ ⟨o',v',a'⟩ hn hd
  show nu L (fun _=>a2o L n) (o,v,a) (o',v',a')=_
  unfold nu nW
  simp only[TL.cmp,Tm.op,Tm.val,Tm.args]
  by_cases h1:o<o'
  ·rw[a2a h1];rfl
  rw[a0k h1,cond_false,cond_false]
  by_cases h2:o'<o
  ·rw[a2a h2];rfl
  rw[a0k h2,cond_false,cond_false]
  by_cases h3:v<v'
  ·rw[a2a h3];rfl
  rw[a0k h3,cond_false,cond_false]
  by_cases h4:v'<v
  ·rw[a2a h4];rfl
  rw[a0k h4,cond_false,cond_false]
  by_cases h5:a.len<a'.len
  ·rw[a2a (show(a.len:Int)<a'.len by omega),iF h5];rfl
  rw[a0k (show¬(a.len:Int)<a'.len by omega),AY h5,cond_false,cond_false]
  by_cases h6:a'.len<a.len
  ·rw[a2a (show(a'.len:Int)<a.len by omega),iF h6];rfl
  rw[a0k (show¬(a'.len:Int)<a.len by omega),AY h6,cond_false,cond_false]
  have hlen:a.len=a'.len:=by omega
  have hr:(bif aH (a.cmp a') 0 then(0:Int)else a.cmp a')=a.cmp a':=by
   by_cases h:a.cmp a'=0
   ·rw[a3b h,h];rfl
   ·rw[l7 h];rfl
  rw[hr]
  have hdep:∀i,i<a.len->(a.get i).dep<=n:=by
   have:∀(l:TL) (i:Nat),i<l.len->(l.get i).dep<=l.dep:=by
    intro l
    induction l with
    |nil=>intro i h;simp[TL.len]at h
    |cons o v x r _ ihr=>
     intro i h
     cases i with
     |zero=>simp only[TL.get,Tm.dep,TL.dep];omega
     |succ i=>have:=ihr i (by simpa [TL.len]using h);simp only[TL.get,TL.dep];omega
   intro i hi
   have:=this a i hi
   simp only[Tm.dep]at hd;omega
  have hnar:∀i,(a.get i).cP:=TL.a2C hn.2
  have step:∀i,i<a.len->a2o L n (a.get i) (a'.get i)=some (nW (a.get i) (a'.get i)):=fun i hi=>ih _ _ (hnar i) (hdep i hi)
  have hrest:∀(l m:TL),l.len=m.len->∀i,i<=l.len->(∀j,j<i->nW (l.get j) (m.get j)=0)->l.cmp m=(l.drop i).cmp (m.drop i):=by
   intro l
   induction l with
   |nil=>intro m hm i hi _;cases m<;>simp[TL.len]at hm hi;subst hi;rfl
   |cons o v x r _ ihr=>
    intro m hm i hi hj
    cases m with
    |nil=>simp[TL.len]at hm
    |cons o' v' x' r'=>
     cases i with
     |zero=>rfl
     |succ i=>
      have h0:=qK.1 (hj 0 (by omega))
      simp only[TL.get]at h0
      cases h0
      have:=ihr r' (by simpa [TL.len]using hm) i (by simpa [TL.len]using hi) (fun j hji=>hj (j+1) (by omega))
      simp only[TL.drop]
      rw[<-this]
      simp only[TL.cmp,a0k (show¬o<o by omega),a0k (show¬v<v by omega),TL.vK x,yu,cond_false,cond_true]
      rw[AY (by omega)];rfl
  have hfirst:∀(l m:TL),l.len=m.len->∀i,i<l.len->nW (l.get i) (m.get i)≠0->(l.drop i).cmp (m.drop i)=nW (l.get i) (m.get i):=by
   intro l
   induction l with
   |nil=>intro m hm i hi;simp[TL.len]at hi
   |cons o v x r _ ihr=>
    intro m hm i hi hc
    cases m with
    |nil=>simp[TL.len]at hm
    |cons o' v' x' r'=>
     cases i with
     |zero=>
      simp only[TL.get]at hc⊢
      simp only[TL.drop]
      unfold nW at hc⊢
      simp only[TL.cmp]at hc⊢
      by_cases q:x.cmp x'=0
      ·rw[a3b q]at hc⊢
       revert hc
       cases aF o o'<;>cases aF o' o<;>cases aF v v'<;>cases aF v' v<;>cases Nat.blt x.len x'.len<;>cases Nat.blt x'.len x.len<;>simp
      ·rw[l7 q];rfl
     |succ i=>exact ihr r' (by simpa [TL.len]using hm) i (by simpa [TL.len]using hi) hc
  have key:Ok (iter (Y:=(Unit⊕Int)) 179010 (fun r3:Int=>
  bif aF r3 (TL.len a:Int)then
   aJ (!(aF r3 0))<|
   aJ (Nat.blt (Int.toNat r3) (TL.len a))<|
   aJ (!(aF r3 0))<|
   aJ (Nat.blt (Int.toNat r3) (TL.len a'))<|
   Option.bind (a2o L n (TL.get a (Int.toNat r3)) (TL.get a' (Int.toNat r3))) fun y4=>
   bif !(aH y4 0)then some (.inr (.inr y4))else
   some (.inl (add r3 1))
  else
  some (.inr (.inl ()))) L 0) (fun y=>(match y with
   | .inl _=>(0:Int)
   | .inr z=>z)=a.cmp a'):=by
   refine fq a.len (fun i=>∀j,j<i->nW (a.get j) (a'.get j)=0) (by have:=hn.1;simp only at this;omega) (fun j hj=>by omega) (fun i hi hJ=> ?_) fun hJ=> ?_
   ·refine aM (fun _=> ?_) fun h=>absurd (show(i:Int)<a.len by omega) h
    refine ay (by omega) (a03 hi (ay (by omega) (a03 (by rw[a08];omega) ?_)))
    rw[a08,step i hi]
    refine aP (fun hc=>ae ?_) fun hc=>ae ⟨cG i (by have:=hn.1;simp only at this;omega),fun j hj=> ?_⟩
    ·show nW (a.get i) (a'.get i)=a.cmp a'
     rw[hrest a a' hlen i (by omega) hJ,hfirst a a' hlen i hi hc]
    ·by_cases e:j=i
     ·subst e;exact hc
     ·exact hJ j (by omega)
   ·refine aM (fun h=>absurd h (by omega)) fun _=>ae ?_
    show(0:Int)=a.cmp a'
    rw[hrest a a' hlen a.len (Nat.le_refl _) hJ]
    have:∀l:TL,l.drop l.len=.nil:=by
     intro l
     induction l with
     |nil=>rfl
     |cons o v x r _ ih=>exact ih
    rw[this a];rfl
  obtain⟨y,e1,e2⟩:=key
  have e1':=congrArg (fun o=>Option.bind o fun y3:Unit⊕Int=>match y3 with
   | .inl y4=>some (0:Int)
   | .inr y4=>some y4) e1
  refine Eq.trans e1' ?_
  cases y with
  |inl _=>exact congrArg some e2
  |inr z=>exact congrArg some e2
theorem mz(hL:5000<L)(hM:L<=4611686018427387904){t u:Tm}(h:t.cP):bq L t u=some (nW t u):=Dy hL hM _ t u h (Nat.le_refl _)
theorem a2P{α:Type}{Q:α->Prop}(hL:5000<L)(hM:L<=4611686018427387904){t u:Tm}{f:Int->Option α}(h:t.cP)(k:Ok (f (nW t u)) Q):Ok (Option.bind (bq L t u) f) Q:=by
 rw[mz hL hM h];exact k
end
end Go.Proofs.YtehbbcdhahnkgaaGreat.Vm
