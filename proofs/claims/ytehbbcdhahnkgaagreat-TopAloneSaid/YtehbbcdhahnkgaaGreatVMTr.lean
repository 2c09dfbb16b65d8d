/- The value machine and the machine: the nodes of a term, one after the other. -/
import Derived.Test.YtehbbcdhahnkgaaGreatVMSort
import Derived.Test.YtehbbcdhahnkgaaGreatProg
import Derived.RangeFuncKeeps
import Derived.RangeFuncBound
import Derived.RangeFuncLeaves
import Derived.RangeFuncWrites
import Derived.RangeFuncNested
import Derived.WalkKit
import Derived.OwnWalkIn
import Derived.TacticsInMore
import Derived.RegionIn
import Derived.LoopNIn
import Derived.LoopIn
import Derived.KernelRfl
import Derived.Shelf.Abstract
set_option linter.all false
set_option maxRecDepth 100000
set_option maxHeartbeats 0
namespace Go.Proofs.YtehbbcdhahnkgaaGreat.Vm
open Go Go.RowKit
set_option linter.unusedVariables false
attribute [local go_sem] Oper.semAt_some
inductive sJ where
 |mk (op val:Int) (args:List sJ)
theorem a3M{W:World}{a:Addr}{v:Value}(h:W.cell? a=some v):a.block<W.heap.size:=by
 cases hh:W.heap[a.block]? with
 |none=>simp[World.cell?,hh]at h
 |some o=>exact(Array.getElem?_eq_some_iff.1 hh).1
theorem a3u{W:World}{b k:Nat}{cs:List Value}{e:TypeId}{fz:Nat×Nat}{u:Value}(h:W.heap[b]?=some (.cells cs.toArray e fz))(hu:cs[k]?=some u):W.cell? ⟨b,k,none⟩=some u:=by
 rw[cell_of_row W b _ _ e fz h];simpa using hu
theorem zx{k:Nat}:∀{uss:List (List Value)},(∀v∈uss,v.length=k)->∀i j c,uss[i]?=some c->j<k->uss.flatten[i*k+j]?=c[j]?:=fun{uss} h i j c hc hj=>by
 have:=ta h i c hc
 rw[<-this,List.getElem?_take,if_pos hj,List.getElem?_drop]
structure KC(X:Nat)(W W':World):Prop where
 os:W'.os=W.os
 tape:W'.tape=W.tape
 output:W'.output=W.output
 size:W.heap.size<=W'.heap.size
 block:∀k cs e fz,k≠X->W.heap[k]?=some (.cells cs e fz)->W'.heap[k]?=some (.cells cs e fz)
theorem KC.trans{X:Nat}{A B C:World}(h:KC X A B)(k:KC X B C):KC X A C:=⟨k.os.trans h.os,k.tape.trans h.tape,k.output.trans h.output,Nat.le_trans h.size k.size,fun b cs e fz hb hc=>k.block b cs e fz hb (h.block b cs e fz hb hc)⟩
theorem KC.alloc{X:Nat}(W:World)(o:Obj):KC X W (W.alloc o):=⟨rfl,rfl,rfl,by simp,fun k cs e fz _ h=>by rw[Go.heap_alloc_old W o (Array.getElem?_eq_some_iff.1 h).1];exact h⟩
theorem KC.cell{X:Nat}{W W':World}(h:KC X W W'){b o:Nat}{u:Value}(hb:b≠X)(hc:W.cell? ⟨b,o,none⟩=some u):W'.cell? ⟨b,o,none⟩=some u:=by
 cases hh:W.heap[b]? with
 |none=>simp[World.cell?,hh]at hc
 |some x=>
  cases x with
  |cells cs e fz=>
   have:=h.block b cs e fz hb hh
   simp only[World.cell?,hh]at hc
   simp only[World.cell?,this]
   exact hc
  |_=>simp[World.cell?,hh]at hc
abbrev Nd:Type:=sJ×List Value×Int
mutual
def Pre(X:Nat)(W:World):sJ->List Value->Int->List Nd->Prop
 | .mk o v l,cs,d,ys=>∃A c zs,l.length<=maxLen/\cs=[.int .i64 o,.int .i64 v,.slice A l.length c]/\ys=(.mk o v l,cs,d)::zs/\((l=[]/\zs=[])∨∃b k uss,A=some ⟨b,k,none⟩/\b≠X/\PreL X W l uss (IntKind.i64.wrap (d+1)) zs/\∀j u,uss.flatten[j]?=some u->W.cell? ⟨b,k+j,none⟩=some u)
def PreL(X:Nat)(W:World):List sJ->List (List Value)->Int->List Nd->Prop
 |[],[],_,zs=>zs=[]
 |t::l,us::uss,d,zs=>∃y z,zs=y++z/\Pre X W t us d y/\PreL X W l uss d z
 |_,_,_,_=>False
end
mutual
theorem Pre.ff{X:Nat}{W W':World}(h:KC X W W'):∀{t:sJ} {cs:List Value} {d:Int} {ys:List Nd},Pre X W t cs d ys->Pre X W' t cs d ys
 | .mk o v l,cs,d,ys,hp=>by
   unfold Pre at hp⊢
   obtain⟨A,c,zs,h0,h1,h2,h3⟩:=hp
   refine⟨A,c,zs,h0,h1,h2,h3.imp id ?_⟩
   rintro⟨b,k,uss,q1,q2,q3,q4⟩
   exact⟨b,k,uss,q1,q2,PreL.ff h q3,fun j u hu=>h.cell q2 (q4 j u hu)⟩
theorem PreL.ff{X:Nat}{W W':World}(h:KC X W W'):∀{l:List sJ} {uss:List (List Value)} {d:Int} {zs:List Nd},PreL X W l uss d zs->PreL X W' l uss d zs
 |[],[],_,_,hp=>by unfold PreL at hp⊢;exact hp
 |[],_::_,_,_,hp=>by unfold PreL at hp;exact hp.elim
 |_::_,[],_,_,hp=>by unfold PreL at hp;exact hp.elim
 |t::l,us::uss,d,zs,hp=>by
  unfold PreL at hp⊢
  obtain⟨y,z,h1,h2,h3⟩:=hp
  exact⟨y,z,h1,Pre.ff h h2,PreL.ff h h3⟩
end
theorem Pre.pos{X:Nat}{W:World}{t:sJ}{cs:List Value}{d:Int}{ys:List Nd}(h:Pre X W t cs d ys):1<=ys.length/\cs.length=3:=by
 obtain⟨o,v,l⟩:=t
 unfold Pre at h
 obtain⟨A,c,zs,_,rfl,rfl,_⟩:=h
 exact⟨by simp,rfl⟩
theorem PreL.at{X:Nat}{W:World}:∀{l:List sJ} {uss:List (List Value)} {d:Int} {zs:List Nd},PreL X W l uss d zs->uss.length=l.length/\(∀v∈uss,v.length=3)/\∃yss:List (List Nd),yss.length=l.length/\zs=yss.flatten/\∀(k:Nat) t,l[k]?=some t->Pre X W t (uss.getD k []) d (yss.getD k [])
 |[],[],_,_,hp=>by unfold PreL at hp;exact⟨rfl,by simp,[],rfl,by simp[hp],fun k t h=>by simp at h⟩
 |[],_::_,_,_,hp=>by unfold PreL at hp;exact hp.elim
 |_::_,[],_,_,hp=>by unfold PreL at hp;exact hp.elim
 |t::l,us::uss,d,zs,hp=>by
  unfold PreL at hp
  obtain⟨y,z,h1,h2,h3⟩:=hp
  obtain⟨q1,q2,yss,q3,q4,q5⟩:=PreL.at h3
  refine⟨by simp[q1],fun v hv=> ?_,y::yss,by simp[q3],by rw[h1,q4];rfl,fun k t' hk=> ?_⟩
  ·rcases List.mem_cons.1 hv with rfl|hv
   ·exact h2.pos.2
   ·exact q2 v hv
  ·cases k with
   |zero=>simp at hk;subst hk;exact h2
   |succ k=>exact q5 k t' (by simpa using hk)
def PF(l X N:Nat)(Y:Nd->Prop)(J Jx:List Nd->World->Prop):Prop:=∀m cz t cs d W,Y (t,cs,d)->J cz W->cz.length<N->YieldAt Fence.wide m Tryz.prog l #[.agg (List.toArray cs),.int .i64 d] W fun e W'=>
 (e=.returned (.bool true)/\J (cz++[(t,cs,d)]) W'/\KC X W W')∨(e=.returned (.bool false)/\Jx (cz++[(t,cs,d)]) W')
theorem xZ{X:Nat}{W:World}{ch:List sJ}{A:Option Addr}{zs:List Nd}{d:Int}(h:(ch=[]/\zs=[])∨∃b k uss,A=some ⟨b,k,none⟩/\b≠X/\PreL X W ch uss d zs/\∀(j:Nat) (u:Value),uss.flatten[j]?=some u->W.cell? ⟨b,k+j,none⟩=some u):
 ∃(b k0:Nat) (uss:List (List Value)) (yss:List (List Nd)),(0<ch.length->A=some ⟨b,k0,none⟩/\b≠X)/\yss.length=ch.length/\zs=yss.flatten/\(∀(k:Nat) t,ch[k]?=some t->Pre X W t (uss.getD k []) d (yss.getD k []))/\
  ∀k,k<ch.length->∀(j:Nat) (u:Value),(uss.getD k [])[j]?=some u->W.cell? ⟨b,k0+k*3+j,none⟩=some u:=by
 rcases h with⟨rfl,rfl⟩|⟨b,k0,uss,h1,h2,h3,h4⟩
 ·exact⟨0,0,[],[],fun h=>absurd h (by simp),rfl,rfl,fun k t h=>by simp at h,fun k hk=>absurd hk (by simp)⟩
 ·obtain⟨q1,q2,yss,q3,q4,q5⟩:=h3.at
  refine⟨b,k0,uss,yss,fun _=>⟨h1,h2⟩,q3,q4,q5,fun k hk j u hu=> ?_⟩
  have hkl:k<uss.length:=by rw[q1];exact hk
  have hck:uss[k]?=some (uss.getD k []):=by simp[List.getD,hkl]
  have hj:j<3:=by
   have:=(List.getElem?_eq_some_iff.1 hu).1
   rw[q2 _ (List.mem_of_getElem? hck)]at this
   exact this
  have:=zx (k:=3) q2 k j _ hck hj
  rw[Nat.add_assoc]
  exact h4 _ _ (this.trans hu)
theorem Kv(yss:List (List Nd)):∀{k:Nat},k<yss.length->(yss.take k).flatten.length+(yss.getD k []).length<=yss.flatten.length:=by
 induction yss with
 |nil=>intro k h;simp at h
 |cons y l ih=>
  intro k h
  cases k with
  |zero=>simp[List.getD]
  |succ k=>
   have:=ih (k:=k) (by simpa using h)
   simp only[List.take_succ_cons,List.flatten_cons,List.length_append,List.getD_cons_succ]
   omega
theorem x8(yss:List (List Nd)){k:Nat}(h:k<yss.length):(yss.take (k+1)).flatten=(yss.take k).flatten++yss.getD k []:=by
 rw[List.take_succ_eq_append_getElem h,List.flatten_append]
 simp[List.getD,h]
theorem Pre.Ng{X:Nat}{W:World}{t:sJ}{cs:List Value}{d:Int}{ys:List Nd}(h:Pre X W t cs d ys):∃o v A n c,cs=[.int .i64 o,.int .i64 v,.slice A n c]:=by
 obtain⟨o,v,l⟩:=t
 unfold Pre at h
 obtain⟨A,c,zs,_,rfl,rfl,_⟩:=h
 exact⟨_,_,_,_,_,rfl⟩
theorem Nf(yss:List (List Nd))(h:∀k,k<yss.length->1<=(yss.getD k []).length):∀k,k<=yss.length->k<=(yss.take k).flatten.length:=by
 intro k
 induction k with
 |zero=>intro _;exact Nat.zero_le _
 |succ k ih=>
  intro hk
  have:=ih (by omega)
  have h1:=h k (by omega)
  rw[x8 yss (by omega),List.length_append]
  omega
set_option maxHeartbeats 4000000 in
theorem TK{l X N:Nat}{Y:Nd->Prop}{J Jx:List Nd->World->Prop}(hY:PF l X N Y J Jx)(hJa:∀cz o W,J cz W->J cz (World.alloc W o)):
 ∀(s:Nat) (T:sJ),SizeOf.sizeOf T<=s->∀(n:Nat) (cs:List Value) (d:Int) (ys cz:List Nd) (W:World),Pre X W T cs d ys->(∀x∈ys,Y x)->J cz W->cz.length+ys.length<=N->X<W.heap.size->
  CallsIn Fence.wide n Tryz.prog 123 #[.agg cs.toArray,.int .i64 d,.func (.yield l) #[] #[]] W fun e W'=>(e=.returned (.bool true)/\J (cz++ys) W'/\KC X W W')∨(e=.returned (.bool false)/\∃q,q<+:ys/\Jx (cz++q) W'):=by
 intro s
 induction s with
 |zero=>
  intro T hT
  obtain⟨o,v,ch⟩:=T
  simp at hT
 |succ s ih=>
  intro T hT n cs d ys cz W hp hYs hJ hN hX
  obtain⟨o,v,ch⟩:=T
  unfold Pre at hp
  obtain⟨A,c,zs,hchl,rfl,rfl,hch⟩:=hp
  have hmaxl:maxLen=9223372036854775807:=rfl
  obtain⟨d',hw⟩:∃d',IntKind.i64.wrap (d+1)=d':=⟨_,rfl⟩
  rw[hw]at hch
  have hb3:W.heap.size≠X:=by omega
  obtain⟨W1,hW1⟩:∃W1,W1=W.alloc (.cells #[.int .i64 o,.int .i64 v,.slice A ch.length c] 28):=⟨_,rfl⟩
  have hk1:KC X W W1:=by rw[hW1];exact KC.alloc _ _
  have hJ1:J cz W1:=by rw[hW1];exact hJa _ _ _ hJ
  have hnew:W1.heap[W.heap.size]?=some (.cells #[.int .i64 o,.int .i64 v,.slice A ch.length c] 28 (0,0)):=by rw[hW1];exact World.alloc_heap_new W _
  simp only[List.length_cons]at hN
  obtain⟨yfn,ytmps,yassign,ybody,hy,hRd⟩:=hY (n-1) cz (.mk o v ch) [.int .i64 o,.int .i64 v,.slice A ch.length c] d W1 (hYs _ (List.mem_cons_self ..)) hJ1 (by omega)
  replace hRd:=hRd.mono (R':=fun e W'=>(e=.returned (.bool true)/\W'.cell? ⟨W.heap.size,2,none⟩=some (.slice A ch.length c)/\J (cz++[(.mk o v ch,[.int .i64 o,.int .i64 v,.slice A ch.length c],d)]) W'/\KC X W1 W')∨(e=.returned (.bool false)/\Jx (cz++[(.mk o v ch,[.int .i64 o,.int .i64 v,.slice A ch.length c],d)]) W'))
   (fun e W' h=>h.elim (fun h=>.inl ⟨h.1,by
     have:=h.2.2.block _ _ _ _ hb3 hnew
     exact a3u this rfl,h.2.1,h.2.2⟩) .inr)
  obtain⟨b,k0,uss,yss,hA,hyl,rfl,hkid,hcell⟩:=xZ hch
  clear hch
  have hkw:∀{W2:World},KC X W1 W2->KC X W W2:=fun h=>hk1.trans h
  subst hW1
  refine callsIn_of_wp Tryz.func123 rfl trivial ?_ rfl
  simp only[Tryz.ntmps123,List.size_toArray,List.length_cons,List.length_nil,Nat.reduceAdd,Nat.reduceSub,Array.replicate_succ,Array.replicate_zero,List.push_toArray,List.append_toArray,List.nil_append,List.cons_append]
  clear hY hnew
  gi_wp2
  refine⟨fun h=>by simp[Fence.wide]at h,hRd.mono ?_⟩
  rintro e W2 (⟨rfl,hc2,hJ2,hk2⟩|⟨rfl,hx2⟩)
  ·have hkk:=hkw hk2
   clear hkw hk1 hk2 hJ1 hRd hy
   gi_wp2
   gi_loopw [17] (fun iv wr=>∃k:Nat,k<=ch.length/\iv=.int .i64 k/\J (cz++(.mk o v ch,[.int .i64 o,.int .i64 v,.slice A ch.length c],d)::(yss.take k).flatten) wr/\KC X W wr) (fun iv _=>ch.length-(intOf iv).toNat)
   case atStart=>exact⟨0,Nat.zero_le _,rfl,by simpa using hJ2,hkk⟩
   case round=>
    obtain⟨k,hk,rfl,hJk,hkc⟩:=hrel
    by_cases hlt:k<ch.length
    ·obtain⟨rfl,hbX⟩:=hA (by omega)
     have hlt':(k:Int)<(ch.length:Int):=by omega
     obtain⟨t,ht⟩:∃t,ch[k]?=some t:=⟨ch[k],by simp[hlt]⟩
     have hpk:=(hkid k t ht).ff hkc
     obtain⟨q0,q1,q2,q3,q4,hq⟩:=hpk.Ng
     have hc:=hcell k hlt
     rw[hq]at hpk hc
     have c0:wr.cell? ⟨b,k0+k*3,none⟩=some (.int .i64 q0):=hkc.cell hbX (hc 0 (.int .i64 q0) rfl)
     have c1:wr.cell? ⟨b,k0+k*3+1,none⟩=some (.int .i64 q1):=hkc.cell hbX (hc 1 (.int .i64 q1) rfl)
     have c2:wr.cell? ⟨b,k0+k*3+2,none⟩=some (.slice q2 q3 q4):=hkc.cell hbX (hc 2 (.slice q2 q3 q4) rfl)
     have hfl:=Kv yss (k:=k) (by omega)
     have hge:=Nf yss (fun j hj=>(hkid j _ (List.getElem?_eq_getElem (by omega:j<ch.length))).pos.1) k (by omega)
     have hw2:IntKind.i64.wrap ((k:Int)+1)=(k:Int)+1:=by rw[IntKind.wrap_i64];omega
     have ihk:=ih t (by
      have:=List.sizeOf_lt_of_mem (List.mem_of_getElem? ht)
      simp only[sJ.mk.sizeOf_spec]at hT
      omega) (n-1) [.int .i64 q0,.int .i64 q1,.slice q2 q3 q4] d' (yss.getD k []) (cz++(.mk o v ch,[.int .i64 o,.int .i64 v,.slice (some ⟨b,k0,none⟩) ch.length c],d)::(yss.take k).flatten) (wr.alloc (.cells #[.int .i64 q0,.int .i64 q1,.slice q2 q3 q4] 28)) (hpk.ff (KC.alloc _ _)) (fun x hx=>hYs _ (List.mem_cons_of_mem _ (List.mem_flatten.2 ⟨_,List.mem_of_getElem? (List.getElem?_eq_getElem (by omega:k<yss.length)),by simpa [List.getD,show k<yss.length by omega]using hx⟩))) (hJa _ _ _ hJk)
      (by simp only[List.length_append,List.length_cons];omega) (by have:=hkc.size;simp;omega)
     clear hkid hcell hq hpk hc ih hJk
     gi_wp2
     refine⟨trivial,fun h=>by simp[Fence.wide]at h,ihk.mono ?_⟩
     rintro e W3 (⟨rfl,hJ3,hk3⟩|⟨rfl,q,hq,hx⟩)
     ·gi_wp2
      go_roundw
      ·refine⟨k+1,by omega,rfl,?_,hkc.trans ((KC.alloc _ _).trans hk3)⟩
       rw[x8 yss (by omega)]
       simpa using hJ3
      ·simp only[intOf];omega
     ·gi_wp2
      go_ret
      obtain⟨r,hr⟩:=hq
      have h5:=x8 yss (k:=k) (by omega)
      refine .inr ⟨rfl,(.mk o v ch,[.int .i64 o,.int .i64 v,.slice (some ⟨b,k0,none⟩) ch.length c],d)::((yss.take k).flatten++q),⟨r++(yss.drop (k+1)).flatten,?_⟩,?_⟩
      ·conv=>rhs;rw[<-List.take_append_drop (k+1) yss,List.flatten_append,h5,<-hr]
       simp
      ·simpa using hx
    ·obtain rfl:k=ch.length:=by omega
     gi_wp2
     go_ret
     rw[show yss.take ch.length=yss by rw[<-hyl,List.take_length]]at hJk
     exact .inl ⟨rfl,hJk,hkc⟩
  ·gi_wp2
   go_ret
   exact .inr ⟨rfl,_,⟨yss.flatten,rfl⟩,hx2⟩
theorem Jg{m:Nat}(m':Nat){P:Program}{l:Nat}{args:Array Value}{W:World}{R:Ending->World->Prop}(h:YieldAt Fence.wide m P l args W R):YieldAt Fence.wide m' P l args W R:=by
 obtain⟨fn,tmps,assign,body,hy,hR⟩:=h
 exact⟨fn,tmps,assign,body,hy,hR.1,fun c cs _=>hR.2 c cs (fun d h=>by simp[Fence.wide]at h)⟩
theorem KC.below{X:Nat}{w W:World}(h:Below w.heap.size w W):KC X w W:=⟨h.os,h.tape,h.output,h.size,fun k cs e fz _ hk=>(h.block k (Array.getElem?_eq_some_iff.1 hk).1).trans hk⟩
abbrev PE(ys:List Nd):Type:={x:Nd//x∈ys}
def Kj(ys:List Nd)(x:PE ys):Array Value:= #[.agg x.1.2.1.toArray,.int .i64 x.1.2.2]
set_option maxHeartbeats 4000000 in
theorem w8(n X B:Nat)(T:sJ)(cs:List Value)(ys:List Nd)(w:World)(hB:∀j u,cs[j]?=some u->w.cell? ⟨B,j,none⟩=some u)(hX:X<w.heap.size)(hp:Pre X w T cs 1 ys):
 SeqStopsK Fence.wide n Tryz.prog 122 #[.pointer (some ⟨B,0,none⟩)] (Kj ys) (KC X) (fun zs=>zs.map Subtype.val=ys) (fun cz=>cz.map Subtype.val<+:ys) ys.length w:=by
 intro l J Jx W hb hJ hJx hY h0
 obtain⟨o,v,A,q,c,rfl⟩:=hp.Ng
 have hB0:=hB 0 _ rfl
 have hB1:=hB 1 _ rfl
 have hB2:=hB 2 _ rfl
 have hBl:B<w.heap.size:=a3M hB0
 replace hB0:=(hb.cell (p:=⟨B,0,none⟩) hBl).trans hB0
 replace hB1:=(hb.cell (p:=⟨B,1,none⟩) hBl).trans hB1
 replace hB2:=(hb.cell (p:=⟨B,2,none⟩) hBl).trans hB2
 have hw:=TK (l:=l) (X:=X) (N:=ys.length) (Y:=fun x=>x∈ys) (J:=fun cz W=>∃p:List (PE ys),p.map Subtype.val=cz/\J p W) (Jx:=fun cz W=>∃p:List (PE ys),p.map Subtype.val=cz/\Jx p W)
  (fun m cz t cs d W hy ⟨p,hp1,h1⟩ h2=>Jg m ((hY p ⟨(t,cs,d),hy⟩ W h1 (by rw[<-hp1,List.length_map]at h2;exact h2)).mono fun e W' h=>h.imp (fun h=>⟨h.1,⟨_,by rw[List.map_append,hp1];rfl,h.2.1⟩,h.2.2⟩) (fun h=>⟨h.1,_,by rw[List.map_append,hp1];rfl,h.2⟩)))
  (fun cz o W ⟨p,hp1,h⟩=>⟨p,hp1,hJ _ _ _ none h (World.grownBy_alloc W o none) (fun r e=>by cases e)⟩)
  _ T (Nat.le_refl _) (n-1) _ 1 ys [] W (hp.ff (KC.below hb)) (fun x hx=>hx) ⟨[],rfl,h0⟩ (by simp) (Nat.lt_of_lt_of_le hX hb.size)
 clear hY h0 hJ hJx
 refine callsIn_of_wp Tryz.func122 rfl trivial ?_ rfl
 simp only[Tryz.ntmps122,List.size_toArray,List.length_cons,List.length_nil,Nat.reduceAdd,Nat.reduceSub,Array.replicate_succ,Array.replicate_zero,List.push_toArray,List.append_toArray,List.nil_append,List.cons_append]
 gi_wp2
 refine⟨trivial,fun h=>by simp[Fence.wide]at h,hw.mono ?_⟩
 rintro e W3 (⟨rfl,hJ3,hk3⟩|⟨rfl,q,hq,hx⟩)
 ·gi_wp2
  go_end0
  obtain⟨p,hp1,hJ4⟩:=hJ3
  exact⟨⟨_,rfl⟩,.inl ⟨p,by simpa using hp1,hJ4⟩⟩
 ·gi_wp2
  go_end0
  obtain⟨p,hp1,hJ4⟩:=hx
  exact⟨⟨_,rfl⟩,.inr ⟨p,by rw[hp1];simpa using hq,hJ4⟩⟩
set_option maxHeartbeats 1000000 in
theorem Ei(n:Nat)(o v:Int)(A:Option Addr)(k c:Nat)(w:World):
 CallsIn Fence.wide n Tryz.prog 80 #[.agg #[.int .i64 o,.int .i64 v,.slice A k c]] w fun e w'=>e=.returned (.func (.func 122) #[] #[.pointer (some ⟨w.heap.size,0,none⟩)])/\w'=w.alloc (.cells #[.int .i64 o,.int .i64 v,.slice A k c] 28):=by
 refine callsIn_of_wp Tryz.func80 rfl trivial ?_ rfl
 simp only[Tryz.ntmps80,List.size_toArray,List.length_cons,List.length_nil,Nat.reduceAdd,Nat.reduceSub,Array.replicate_succ,Array.replicate_zero,List.push_toArray,List.append_toArray,List.nil_append,List.cons_append]
 gi_wp2
 go_ret
 exact⟨rfl,rfl⟩
theorem rm{W:World}{B:Nat}{v:Value}{t:TypeId}(h:W.heap[B]?=some (.cells #[v] t (0,0))):W.cell? ⟨B,0,none⟩=some v/\W.frozen? ⟨B,0,none⟩=false:=by
 constructor<;>simp[World.cell?,World.frozen?,h]
theorem yV(W:World)(v:Value)(t:TypeId):(W.alloc (.cells #[v] t)).cell? ⟨W.heap.size,0,none⟩=some v/\(W.alloc (.cells #[v] t)).frozen? ⟨W.heap.size,0,none⟩=false:=
 rm (World.alloc_heap_new W _)
theorem rj{W:World}{a:Addr}{v:Value}(o:Obj)(h:W.cell? a=some v):(W.alloc o).cell? a=some v:=cell_kept h (World.grownBy_alloc W o none) (fun r e=>by cases e)
theorem pq{W:World}{a:Addr}{v:Value}(o:Obj)(h:W.cell? a=some v)(hf:W.frozen? a=false):(W.alloc o).frozen? a=false:=(frozen_kept h (World.grownBy_alloc W o none) (fun r e=>by cases e)).trans hf
theorem KC.setCell(W:World)(X o:Nat)(v:Value):KC X W (W.setCell ⟨X,o,none⟩ v):=by
 have hb:=(Below.refl X W).setCell (p:=⟨X,o,none⟩) (Nat.le_refl _) v
 refine⟨hb.os,hb.tape,hb.output,hb.size,fun k cs e fz hk h=> ?_⟩
 exact(Below.heap_setCell W _ v k (by simpa using hk)).trans h
set_option maxHeartbeats 4000000 in
theorem JD(n:Nat)(hn:3<=n)(T:sJ)(cs:List Value)(ys:List Nd)(w:World)(hp:Pre (w.heap.size+1) w T cs 1 ys)(r:Int)(hr:r=if ys.length<=600 then(ys.length:Int)else 601):
 CallsIn Fence.wide n Tryz.prog 79 #[.agg cs.toArray] w fun e w'=>e=.returned (.int .i64 r)/\Below w.heap.size w w':=by
 have h1:1<=n:=by omega
 obtain⟨o,v,A,k,c,rfl⟩:=hp.Ng
 refine callsIn_of_wp_marks Tryz.func79 rfl trivial ?_ rfl
 simp only[Tryz.ntmps79,List.size_toArray,List.length_cons,List.length_nil,Nat.reduceAdd,Nat.reduceSub,Array.replicate_succ,Array.replicate_zero,List.push_toArray,List.append_toArray,List.nil_append,List.cons_append]
 gi_wp2
 refine⟨trivial,(Ei (n-1) o v A k c _).mono ?_⟩
 rintro e w' ⟨rfl,rfl⟩
 gi_wp2
 obtain⟨WA,hWA⟩:∃WA,WA=w.alloc (.cells #[.int .i64 o,.int .i64 v,.slice A k c] 28):=⟨_,rfl⟩
 have hsA:WA.heap.size=w.heap.size+1:=by rw[hWA];simp
 have hkA:KC (w.heap.size+1) w WA:=by rw[hWA];exact KC.alloc _ _
 have hbA:Below w.heap.size w WA:=by rw[hWA];exact(Below.refl _ w).alloc (Nat.le_refl _) _
 have hs:=yV WA (.int .i64 0) 3
 obtain⟨WB,hWB⟩:∃WB,WB=WA.alloc (.cells #[.int .i64 0] 3):=⟨_,rfl⟩
 have hsB:WB.heap.size=w.heap.size+2:=by rw[hWB];simp[hsA]
 have hkB:KC (w.heap.size+1) w WB:=by rw[hWB];exact hkA.trans (KC.alloc _ _)
 have hbB:Below w.heap.size w WB:=by rw[hWB];exact hbA.alloc hbA.size _
 rw[<-hWB,hsA]at hs
 obtain⟨WC,hWC⟩:∃WC,WC=WB.alloc (.cells #[.int .i64 o,.int .i64 v,.slice A k c] 28):=⟨_,rfl⟩
 have hsC:WC.heap.size=w.heap.size+3:=by rw[hWC];simp[hsB]
 have hkC:KC (w.heap.size+1) w WC:=by rw[hWC];exact hkB.trans (KC.alloc _ _)
 have hbC:Below w.heap.size w WC:=by rw[hWC];exact hbB.alloc hbB.size _
 have hcC:=rj (.cells #[.int .i64 o,.int .i64 v,.slice A k c] 28) hs.1
 have hfC:=pq (.cells #[.int .i64 o,.int .i64 v,.slice A k c] 28) hs.1 hs.2
 have hnC:WC.heap[w.heap.size+2]?=some (.cells #[.int .i64 o,.int .i64 v,.slice A k c] 28 (0,0)):=by rw[hWC,<-hsB];exact World.alloc_heap_new WB _
 rw[<-hWC]at hcC hfC
 rw[<-hWA,<-hWB,<-hWC]
 clear hWA hWB hWC
 refine wpIn_rangeFunc_ownG rfl h1 (gf:=122) (lb:= #[.pointer (some ⟨w.heap.size+2,0,none⟩)]) rfl trivial (Go.Proofs.enters_of Tryz.func122 (by kernel_rfl) rfl)
  (w8 (n-1) (w.heap.size+1) (w.heap.size+2) T [.int .i64 o,.int .i64 v,.slice A k c] ys WC (fun j u hj=>a3u hnC (by simpa using hj)) (by omega) (hp.ff hkC)) KC.trans
  (fun W l o o' h1 h2 h3 h4=>⟨rfl,rfl,rfl,by simp,fun k cs e fz hk hc=>(World.putObj_heap_other (fun e=>by subst e;rw[h2]at hc;cases hc;cases h3)).trans hc⟩) (Below.refl _ _) (fun _=>rfl)
  (fun cz W=>W.cell? ⟨w.heap.size+1,0,none⟩=some (.int .i64 cz.length)/\W.frozen? ⟨w.heap.size+1,0,none⟩=false/\Below w.heap.size w W/\cz.length<=600)
  (fun c cz W=>c=.exit 0/\W.cell? ⟨w.heap.size+1,0,none⟩=some (.int .i64 cz.length)/\Below w.heap.size w W/\cz.length=601)
  (fun s A B row hs hg hr=>⟨cell_kept hs.1 hg (fun r e=>(hr r e).2),(frozen_kept hs.1 hg (fun r e=>(hr r e).2)).trans hs.2.1,hs.2.2.1.grown hg hs.2.2.1.size (fun k e=>by have:=(hr k e).1;omega),hs.2.2.2⟩)
  (fun c s A B row hs hg hr=>⟨hs.1,cell_kept hs.2.1 hg (fun r e=>(hr r e).2),hs.2.2.1.grown hg hs.2.2.1.size (fun k e=>by have:=(hr k e).1;omega),hs.2.2.2⟩)
  ⟨hcC,hfC,hbC,by simp⟩
  (fun x=>{tmps:= #[.agg #[.int .i64 o,.int .i64 v,.slice A k c],.pointer (some ⟨w.heap.size,0,none⟩),.int .i64 0,.pointer (some ⟨w.heap.size+1,0,none⟩),.agg #[.int .i64 o,.int .i64 v,.slice A k c],.func (.func 122) #[] #[.pointer (some ⟨w.heap.size+1+1,0,none⟩)],.agg x.1.2.1.toArray,.int .i64 x.1.2.2,undef,undef,undef,undef,undef],defers:=[]}) ?assign ?body ?done ?stop
 case assign=>
  intro l x W K hK
  gi_wp2
  simpa [Kj]using hK
 case body=>
  rintro l cz x W ⟨hc,hf,hb,hp6⟩ hlt
  have hw:IntKind.i64.wrap ((cz.length:Int)+1)=(cz.length:Int)+1:=by rw[IntKind.wrap_i64];omega
  have hcl:w.heap.size+1<W.heap.size:=a3M hc
  have hc2:(W.setCell ⟨w.heap.size+1,0,none⟩ (.int .i64 ((cz.length:Int)+1))).cell? ⟨w.heap.size+1,0,none⟩=some (.int .i64 ((cz++[x]).length:Int)):=by
   rw[World.cell?_setCell_same' _ _ _ (by rw[hc];rfl)];simp
  have hb2:=hb.setCell (p:=⟨w.heap.size+1,0,none⟩) (Nat.le_succ _) (.int .i64 ((cz.length:Int)+1))
  by_cases h6:(cz.length:Int)+1>600
  ·gi_wp2
   exact⟨(KeepsOthers.setCell _ _ _).from _,rfl,hc2,hb2,by simp;omega⟩
  ·gi_wp2
   exact⟨(KeepsOthers.setCell _ _ _).from _,KC.setCell _ _ _ _,hc2,by rw[World.frozen?_setCell];exact hf,hb2,by simp;omega⟩
 case done=>
  rintro D zs W hD hzs ⟨hc,_,hb,h6⟩ hK
  have hzl:zs.length=ys.length:=by have:=congrArg List.length hzs;rwa[List.length_map]at this
  rw[hzl]at hc h6
  clear hzs
  rw[if_pos h6]at hr
  subst hr
  gi_wp2
  refine⟨by simp,.inl ⟨_,_,rfl,run_takeDeferred hK,?_⟩⟩
  exact⟨_,results_tmp rfl _ _ _,rfl,hb.grown (grownBy_putObj' _ _ _) hb.size (fun k e=>by cases e;omega)⟩
 case stop=>
  rintro D c cz W hD hpre ⟨rfl,hc,hb,h6⟩ hK
  rw[h6]at hc
  rw[if_neg (by have:=hpre.length_le;rw[List.length_map]at this;omega)]at hr
  subst hr
  gi_wp2
  refine⟨by simp,.inl ⟨_,_,rfl,run_takeDeferred hK,?_⟩⟩
  exact⟨_,results_tmp rfl _ _ _,rfl,hb.grown (grownBy_putObj' _ _ _) hb.size (fun k e=>by cases e;omega)⟩
noncomputable section
def sd(L:Nat)(x0:Tm):Option Bool:=
 bif aH (Tm.op x0) 1 then some (aH (TL.len (Tm.args x0):Int) 0)else
 bif aH (Tm.op x0) 2 then(bif aH (TL.len (Tm.args x0):Int) 0 then some (!(aF (Tm.val x0) 0))else some false)else
 bif aH (Tm.op x0) 9 then(bif aH (TL.len (Tm.args x0):Int) 0 then some (!(aF (Tm.val x0) 0))else some false)else
 bif aH (Tm.op x0) 10 then(bif aH (TL.len (Tm.args x0):Int) 0 then some (!(aF (Tm.val x0) 0))else some false)else
 bif aH (Tm.op x0) 3 then some (aH (Tm.val x0) 0)else
 bif aH (Tm.op x0) 6 then some (!(aF (Tm.val x0) 0))else
 bif aH (Tm.op x0) 4 then(bif aH (TL.len (Tm.args x0):Int) 1 then some (aH (Tm.val x0) 0)else some false)else
 bif aH (Tm.op x0) 8 then(bif aH (TL.len (Tm.args x0):Int) 1 then some (!(aF (Tm.val x0) 0))else some false)else
 bif aH (Tm.op x0) 5 then
  (bif aH (TL.len (Tm.args x0):Int) 2 then
    (bif aH (Tm.val x0) 0 then
      aJ (Nat.blt 1 (TL.len (Tm.args x0)))<|
      aJ (Nat.blt 0 (TL.len (Tm.args x0)))<|
      Option.bind (bq L (TL.get (Tm.args x0) 1) (TL.get (Tm.args x0) 0)) fun y=>
      some (!(aF y 0))
    else some false)
  else some false)else
 bif aH (Tm.op x0) 7 then(bif aH (TL.len (Tm.args x0):Int) 2 then some (aH (Tm.val x0) 0)else some false)else
 some false
def P7(L:Nat):cN:=⟨[TT],[.bool],fun x=>sd L x⟩
end
def own(t:Tm):Int:=t.2.1/1048576
def fnd:TL->Int->TL×Bool
 | .nil,_=>(.nil,false)
 | .cons o _ a r,n=>if o=3/\0<a.len/\(a.get 0).1=1/\(a.get 0).2.1=n then(a.drop 1,true)else fnd r n
def Ja(l:TL)(n:Int):Int×Bool:=if(fnd l n).1.len=1/\((fnd l n).1.get 0).1=1 then(((fnd l n).1.get 0).2.1,true)else(0,false)
def fI(l:TL):Option Tm:=if(fnd l 3).1.len=1/\((fnd l 3).1.get 0).1=2 then some ((fnd l 3).1.get 0)else none
def kR(t:Tm):Option Tm:=fI (t.2.2.get 5).2.2
def zT:Tm:=(0,0,.nil)
def W9(s:Tm):Tm:=if s.1=6/\s.2.1=1/\s.2.2.len=3 then s.2.2.get 0 else if s.1=6/\(s.2.1=1∨s.2.1=9)then s.2.2.get 1 else zT
def Wa(s:Tm):Tm:=if s.1=6/\s.2.1=1/\s.2.2.len=3 then s.2.2.get 1 else if s.1=6/\(s.2.1=1∨s.2.1=9)then s.2.2.get 2 else zT
def a4n(k:Tm):Tm:=if k.2.1=3 then W9 (k.2.2.get 0)else Wa (k.2.2.get 0)
def Km(k:Tm):Tm:=if k.2.1=5 then k.2.2.get 1 else k.2.2.get 2
def Jl(k:Tm):Prop:=k.1=6/\(k.2.1=3∨k.2.1=4)
def WJ(k:Tm):Prop:=k.1=6/\(k.2.1=5∨k.2.1=6)
abbrev jn:=Int×Int×Int×Clear
def T7(c:Clear):Tm:=
 T.a01 (TL.of [T.aG c.bf.bZ.bx,T.aG (aY .i64 c.bf.bZ.hi),T.aG (aY .i64 c.bf.bZ.lo),T.aG c.bf.target.bx,T.aG (aY .i64 c.bf.target.hi),T.aG (aY .i64 c.bf.target.lo),T.aG c.bf.aR,T.aG c.bf.aK,T.aG c.bf.aO,T.aG c.iD])
def Ah(S:List jn)(k b:Tm):Prop:=
 (Jl k->∀x,kR b=some x->own x=own (a4n k))/\
 (WJ k->∀v a n p,b=(3,v,TL.of [T.aG a,T.aG n,p])->∃c,(own (Km k),a,n,c)∈S/\p=T7 c)
def M9(v:Int)(m:Tm):Prop:=∀msg n p,m=T.a01 (TL.of [msg,n,p])->∀x,kR msg=some x->own x=v
def U2(S:List jn)(o v:Int)(a:TL):Prop:=(o=7->a.len=2->Ah S (a.get 0) (a.get 1))/\(o=8->a.len=1->M9 v (a.get 0))
def TL.gd(S:List jn):TL->Prop
 | .nil=>True
 | .cons o v a r=>U2 S o v a/\(o=3∨o=7->a.gd S)/\r.gd S
def Tm.gd(S:List jn)(t:Tm):Prop:=U2 S t.1 t.2.1 t.2.2/\(t.1=3∨t.1=7->t.2.2.gd S)
def aZ(S:List jn)(t:Tm):Prop:=t.cP/\t.gd S
def GL(S:List jn)(l:TL):Prop:=l.len<=5000/\l.cP/\l.gd S
section
variable {S S':List jn}{L:Nat}
theorem Ah.mono(h:∀e∈S,e∈S'){k b:Tm}(q:Ah S k b):Ah S' k b:=⟨q.1,fun e v a n p hb=>by
 obtain⟨c,h1,h2⟩:=q.2 e v a n p hb;exact⟨c,h _ h1,h2⟩⟩
theorem U2.mono(h:∀e∈S,e∈S'){o v:Int}{a:TL}(q:U2 S o v a):U2 S' o v a:=⟨fun e1 e2=>(q.1 e1 e2).mono h,q.2⟩
theorem TL.yy(h:∀e∈S,e∈S'):∀{l:TL},l.gd S->l.gd S'
 | .nil,_=>trivial
 | .cons _ _ a r,q=>⟨q.1.mono h,fun e=>TL.yy h (l:=a) (q.2.1 e),TL.yy h (l:=r) q.2.2⟩
theorem aZ.mono(h:∀e∈S,e∈S'){t:Tm}(q:aZ S t):aZ S' t:=⟨q.1,q.2.1.mono h,fun e=>TL.yy h (q.2.2 e)⟩
theorem FY{o v:Int}{a:TL}(h7:o≠7)(h8:o≠8):U2 S o v a:=⟨fun e=>absurd e h7,fun e=>absurd e h8⟩
theorem Tm.DV{t:Tm}(h3:t.1≠3)(h7:t.1≠7)(h8:t.1≠8):t.gd S:=⟨FY h7 h8,fun e=>by rcases e with e|e;exact absurd e h3;exact absurd e h7⟩
theorem TL.C8:∀{l:TL},l.gd S->∀i,(l.get i).gd S
 | .nil,_,i=>by cases i<;>exact Tm.DV (by show(0:Int)≠3;decide) (by show(0:Int)≠7;decide) (by show(0:Int)≠8;decide)
 | .cons o v a r,h,0=>⟨h.1,h.2.1⟩
 | .cons o v a r,h,i+1=>TL.C8 (l:=r) h.2.2 i
theorem TL.FA:∀{l:List Tm},(∀t∈l,t.gd S)->(TL.of l).gd S
 |[],_=>trivial
 |t::l,h=>⟨(h t (by simp)).1,(h t (by simp)).2,TL.FA fun u hu=>h u (by simp[hu])⟩
theorem TL.Fy:∀{a b:TL},a.gd S->b.gd S->(a.app b).gd S
 | .nil,b,_,h=>h
 | .cons o v x r,b,h,k=>⟨h.1,h.2.1,TL.Fy (a:=r) h.2.2 k⟩
theorem TL.Hl:∀(n:Nat) {a:TL},a.gd S->(a.drop n).gd S
 |0,a,h=>by cases a<;>exact h
 |n+1,.nil,h=>h
 |n+1,.cons o v x r,h=>TL.Hl n (a:=r) h.2.2
theorem TL.lj:∀(n:Nat) (a:TL),(a.drop n).len=a.len-n
 |0,a=>by cases a<;>rfl
 |n+1,.nil=>by simp[TL.drop,TL.len]
 |n+1,.cons o v x r=>by simp only[TL.drop,TL.len,TL.lj n r];omega
theorem TL.fC(a b:TL):(a.app b).len=a.len+b.len:=by
 induction a with
 |nil=>simp[TL.app,TL.len]
 |cons o v x r _ ih=>simp only[TL.app,TL.len,ih];omega
theorem GL.get{l:TL}(h:GL S l)(i:Nat):aZ S (l.get i):=⟨TL.a2C h.2.1 i,TL.C8 h.2.2 i⟩
theorem GL.of{l:List Tm}(hl:l.length<=5000)(h:∀t∈l,aZ S t):GL S (TL.of l):=⟨by rw[TL.eD];exact hl,TL.tw fun t ht=>(h t ht).1,TL.FA fun t ht=>(h t ht).2⟩
theorem GL.nil:GL S .nil:=⟨Nat.zero_le _,trivial,trivial⟩
theorem GL.app{a b:TL}(ha:GL S a)(hb:GL S b)(hl:a.len+b.len<=5000):GL S (a.app b):=⟨by rw[TL.fC];exact hl,TL.qg ha.2.1 hb.2.1,TL.Fy ha.2.2 hb.2.2⟩
theorem GL.drop(n:Nat){a:TL}(h:GL S a):GL S (a.drop n):=⟨by rw[TL.lj];have:=h.1;omega,TL.tu n h.2.1,TL.Hl n h.2.2⟩
theorem aZ.a01{l:TL}(h:GL S l):aZ S (T.a01 l):=⟨⟨h.1,h.2.1⟩,FY (by show(3:Int)≠7;decide) (by show(3:Int)≠8;decide),fun _=>h.2.2⟩
theorem aZ.args{t:Tm}(h:aZ S t)(e:t.1=3∨t.1=7):GL S t.2.2:=⟨h.1.1,h.1.2,h.2.2 e⟩
theorem aZ.aG(n:Int):aZ S (T.aG n):=⟨Tm.O2 n,Tm.DV (by show(1:Int)≠3;decide) (by show(1:Int)≠7;decide) (by show(1:Int)≠8;decide)⟩
theorem aZ.zero:aZ S (0,0,.nil):=⟨⟨Nat.zero_le _,trivial⟩,Tm.DV (by show(0:Int)≠3;decide) (by show(0:Int)≠7;decide) (by show(0:Int)≠8;decide)⟩
theorem aZ.vR{t:Tm}(h:t.cP)(e:t.1=1∨t.1=2∨t.1=4∨t.1=5∨t.1=6∨t.1=10):aZ S t:=⟨h,Tm.DV (by omega) (by omega) (by omega)⟩
theorem aZ.gq{k b:Tm}(h:Ah S k b)(hk:aZ S k)(hb:aZ S b):aZ S (T.gq k b):=
 ⟨⟨(by decide:2<=5000),hk.1.1,hk.1.2,hb.1.1,hb.1.2,trivial⟩,⟨fun _ _=>h,fun e=>absurd e (by show¬(7:Int)=8;decide)⟩,fun _=>⟨hk.2.1,hk.2.2,hb.2.1,hb.2.2,trivial⟩⟩
theorem aZ.EI{v:Int}{m:Tm}(h:M9 v m)(hm:m.cP):aZ S (T.EI v m):=
 ⟨⟨(by decide:1<=5000),hm.1,hm.2,trivial⟩,⟨fun e=>absurd e (by show¬(8:Int)=7;decide),fun _ _=>h⟩,fun e=>by
   rcases e with e|e
   ·exact absurd e (by show¬(8:Int)=3;decide)
   ·exact absurd e (by show¬(8:Int)=7;decide)⟩
theorem jW{l:TL}{n:Int}(h:GL S l):GL S (fnd l n).1:=by
 obtain⟨h1,h2,h3⟩:=h
 have:∀l:TL,l.cP->l.gd S->GL S (fnd l n).1:=by
  intro l
  induction l with
  |nil=>intro _ _;exact GL.nil
  |cons o v a r _ ih=>
   intro hn hg
   unfold fnd
   split
   ·rename_i hc
    exact GL.drop 1 ⟨hn.1,hn.2.1,hg.2.1 (.inl hc.1)⟩
   ·exact ih hn.2.2 hg.2.2
 exact this l h2 h3
theorem DW:∀(i:Nat) (l:TL),i<l.len->l.drop i=.cons (l.get i).1 (l.get i).2.1 (l.get i).2.2 (l.drop (i+1))
 |0,.nil,h=>by simp[TL.len]at h
 |0,.cons o v a r,_=>by cases r<;>rfl
 |i+1,.nil,h=>by simp[TL.len]at h
 |i+1,.cons o v a r,h=>by
  have:=DW i r (by simpa [TL.len]using h)
  simpa [TL.drop,TL.get]using this
theorem Ke(l:TL):l.drop l.len=.nil:=by
 induction l with
 |nil=>rfl
 |cons o v x r _ ih=>exact ih
variable (hL:5000<L)(hM:L<=4611686018427387904)
include hL hM
theorem fH{l:TL}{n:Int}(h:l.len<=5000):cj L l n=some (fnd l n):=by
 unfold cj
 have key:∀f,f=(fun r3:Int=>(cj L l n,r3))->True:=fun _ _=>trivial
 have:Ok (iter (Y:=(Unit⊕(TL×Bool))) 292002 (fun r3:Int=>
  bif aF r3 (TL.len l:Int)then
   aJ (!(aF r3 0))<|
   aJ (Nat.blt (Int.toNat r3) (TL.len l))<|
   bif aH (Tm.op (TL.get l (Int.toNat r3))) 3 then
    bif aF 0 (TL.len (Tm.args (TL.get l (Int.toNat r3))):Int)then
     aJ (Nat.blt 0 (TL.len (Tm.args (TL.get l (Int.toNat r3)))))<|
     bif aH (Tm.op (TL.get (Tm.args (TL.get l (Int.toNat r3))) 0)) 1 then
      aJ (Nat.blt 0 (TL.len (Tm.args (TL.get l (Int.toNat r3)))))<|
      bif aH (Tm.val (TL.get (Tm.args (TL.get l (Int.toNat r3))) 0)) n then
       aJ ((Nat.ble 1 (TL.len (Tm.args (TL.get l (Int.toNat r3)))))&&(Nat.ble (TL.len (Tm.args (TL.get l (Int.toNat r3)))) (TL.len (Tm.args (TL.get l (Int.toNat r3))))))<|
       some (.inr (.inr (TL.drop 1 (TL.take (TL.len (Tm.args (TL.get l (Int.toNat r3)))) (Tm.args (TL.get l (Int.toNat r3)))),true)))
      else
      some (.inl (add r3 1))
     else
     some (.inl (add r3 1))
    else
    some (.inl (add r3 1))
   else
   some (.inl (add r3 1))
  else
  some (.inr (.inl ()))) L 0) (fun y=>(match y with
   | .inl _=>(TL.nil,false)
   | .inr z=>z)=fnd l n):=by
  refine fq l.len (fun i=>fnd l n=fnd (l.drop i) n) (by omega) (by rw[show l.drop 0=l by cases l<;>rfl]) (fun i hi hJ=> ?_) fun hJ=> ?_
  ·refine aM (fun _=> ?_) fun h=>absurd (show(i:Int)<l.len by omega) h
   refine ay (by omega) (a03 hi ?_)
   rw[a08]
   have hd:=DW i l hi
   have next:¬((l.get i).1=3/\0<(l.get i).2.2.len/\((l.get i).2.2.get 0).1=1/\((l.get i).2.2.get 0).2.1=n)->Ok (some (Sum.inl (add (i:Int) 1):Int⊕(Unit⊕(TL×Bool)))) (Sum.elim (fun x=>x=((i+1:Nat):Int)/\fnd l n=fnd (l.drop (i+1)) n) fun y=>(match y with
   | .inl _=>(TL.nil,false)
   | .inr z=>z)=fnd l n):=fun hne=>ae ⟨cG i (by omega),by rw[hJ,hd];simp only[fnd];rw[if_neg hne]⟩
   refine aC (fun h1=> ?_) fun h1=>next fun h=>h1 h.1
   refine aM (fun h2=>a03 (by omega) ?_) fun h2=>next fun h=>h2 (by have:=h.2.1;show(0:Int)<((l.get i).2.2.len:Int);omega)
   refine aC (fun h3=>a03 (by omega) ?_) fun h3=>next fun h=>h3 h.2.2.1
   refine aC (fun h4=> ?_) fun h4=>next fun h=>h4 h.2.2.2
   refine bD ?_ (ae ?_)
   ·rw[jU (show 1<=(Tm.args (TL.get l i)).len by omega),jU (Nat.le_refl _)];rfl
   ·rw[TL.a4u]
    show(TL.drop 1 (l.get i).2.2,true)=fnd l n
    rw[hJ,hd];simp only[fnd]
    rw[if_pos ⟨h1,by show 0<(l.get i).2.2.len;have:(0:Int)<((l.get i).2.2.len:Int):=h2;omega,h3,h4⟩]
  ·refine aM (fun h=>absurd h (by omega)) fun _=>ae ?_
   show(TL.nil,false)=fnd l n
   rw[hJ,Ke];rfl
 obtain⟨y,e1,e2⟩:=this
 rw[e1]
 cases y with
 |inl _=>exact congrArg some e2
 |inr z=>exact congrArg some e2
theorem lF{l:TL}{n:Int}(h:l.len<=5000):eG L l n=some (Ja l n):=by
 unfold eG Ja
 rw[fH hL hM h]
 show(bif !(aH ((fnd l n).1.len:Int) 1)then _ else _)=_
 by_cases h1:(fnd l n).1.len=1
 ·rw[a3b (by omega),iF (by omega)]
  by_cases h2:((fnd l n).1.get 0).1=1
  ·rw[if_pos ⟨h1,h2⟩,a3b (show Tm.op _=1 from h2)];rfl
  ·rw[if_neg (fun h=>h2 h.2),l7 (show¬Tm.op _=1 from h2)];rfl
 ·rw[l7 (by omega),if_neg (fun h=>h1 h.1)];rfl
theorem pc{l:TL}(h:l.len<=5000):nC L l=some ((fI l).getD (0,0,.nil),(fI l).isSome):=by
 unfold nC fI
 rw[fH hL hM h]
 show(bif !(aH ((fnd l 3).1.len:Int) 1)then _ else _)=_
 by_cases h1:(fnd l 3).1.len=1
 ·rw[a3b (by omega),iF (by omega)]
  by_cases h2:((fnd l 3).1.get 0).1=2
  ·rw[if_pos ⟨h1,h2⟩,a3b (show Tm.op _=2 from h2)];rfl
  ·rw[if_neg (fun h=>h2 h.2),l7 (show¬Tm.op _=2 from h2)];rfl
 ·rw[l7 (by omega),if_neg (fun h=>h1 h.1)];rfl
theorem tV{l:TL}(h:l.len<=5000):jA L l=some ((fI l).getD (0,0,.nil),(fI l).isSome):=pc hL hM h
theorem G6{l:TL}{n:Int}(h:l.len<=5000):nH L l n=some (if(fnd l n).1.len=1 then((fnd l n).1.get 0,true)else((0,0,.nil),false)):=by
 unfold nH
 rw[fH hL hM h]
 show(bif !(aH ((fnd l n).1.len:Int) 1)then _ else _)=_
 by_cases h1:(fnd l n).1.len=1
 ·rw[a3b (by omega),iF (by omega),if_pos h1];rfl
 ·rw[l7 (by omega),if_neg h1];rfl
theorem AS{l:TL}{n:Int}(h:l.len<=5000):rV L l n=some (if(fnd l n).1.len=1 then((fnd l n).1.get 0,true)else((0,0,.nil),false)):=G6 hL hM h
theorem mD{l:TL}(h:l.len<=5000):∃t,kj L l=some (t,(fI l).isSome)/\((fI l).isSome=true->fI l=some t):=by
 unfold kj fI
 rw[G6 hL hM h]
 by_cases h1:(fnd l 3).1.len=1
 ·rw[if_pos h1]
  by_cases h2:((fnd l 3).1.get 0).1=2
  ·rw[if_pos ⟨h1,h2⟩]
   refine⟨(fnd l 3).1.get 0,?_,fun _=>rfl⟩
   show some (_,aH (Tm.op _) 2)=_
   rw[a3b (show Tm.op _=2 from h2)];rfl
  ·rw[if_neg (fun h=>h2 h.2)]
   refine⟨(fnd l 3).1.get 0,?_,fun h=>by cases h⟩
   show some (_,aH (Tm.op _) 2)=_
   rw[l7 (show¬Tm.op _=2 from h2)];rfl
 ·rw[if_neg h1,if_neg (fun h=>h1 h.1)]
  exact⟨_,rfl,fun h=>by cases h⟩
theorem sA{l:TL}(h:l.len<=5000):∃t,oM L l=some (t,(fI l).isSome)/\((fI l).isSome=true->fI l=some t):=mD hL hM h
omit hL hM
theorem mF{l:TL}(h:GL S l){x:Tm}(hx:fI l=some x):aZ S x/\x.1=2:=by
 unfold fI at hx
 split at hx
 ·rename_i hc;cases hx;exact⟨(jW h).get 0,hc.2⟩
 ·cases hx
end
abbrev Hd:=Int×Int×Int×Int×Int
def Cp(h:Hd)(r:Tm):Tm:=T.a01 (TL.of [T.aG h.1,T.aG h.2.1,T.aG h.2.2.1,T.aG h.2.2.2.1,T.aG h.2.2.2.2,r])
def mH(h:Hd)(l:TL):Tm:=Cp h (T.a01 l)
def Ol(k:Tm)(h:Hd)(l:TL):Tm:=Cp h (T.gq k (mH h l))
def FF(m:bW):Hd:=(m.kind,m.eV,m.ia,bif m.bY then(bif m.aV then 3 else 1)else(bif m.aV then 2 else 0),m.iD)
section
variable {S:List jn}{L:Nat}
theorem rN(h:Hd)(l:TL):kR (mH h l)=fI l:=rfl
theorem aZ.msg{h:Hd}{r:Tm}(g:aZ S r):aZ S (Cp h r):=aZ.a01 (GL.of (by simp) fun t ht=>by
 simp only[List.mem_cons,List.mem_nil_iff,or_false]at ht
 rcases ht with rfl|rfl|rfl|rfl|rfl|rfl
 all_goals first|exact g|exact aZ.aG _)
theorem aZ.plain{h:Hd}{l:TL}(g:GL S l):aZ S (mH h l):=aZ.msg (aZ.a01 g)
theorem aZ.a0b{k:Tm}{h:Hd}{l:TL}(hk:k.cP)(sh:Jl k)(g:GL S l)(hn:∀x,fI l=some x->own x=own (a4n k)):aZ S (Ol k h l):=
 aZ.msg (aZ.gq ⟨fun _ x hx=>hn x (by rw[<-hx];exact(rN h l).symm),fun e=>by have:=sh.2;have:=e.2;omega⟩ (aZ.vR hk (.inr (.inr (.inr (.inr (.inl sh.1)))))) (aZ.plain g))
theorem iP(m:bW):cJ L m=some (FF m):=by
 unfold cJ FF
 cases m.bY<;>cases m.aV<;>rfl
variable (hL:5000<L)(hM:L<=4611686018427387904)
include hL hM
theorem A5{t:Tm}(h:t.cP):Ok (kz L t) fun y=>y.2=true->y.1=t.args/\t.1=3:=by
 unfold kz
 refine aP (fun _=>ae fun h=>by cases h) fun h3=> ?_
 have:Ok (iter (Y:=(Unit⊕(TL×Bool))) 196004 (fun r2:Int=>
  bif aF r2 (TL.len (Tm.args t):Int)then
   aJ (!(aF r2 0))<|
   aJ (Nat.blt (Int.toNat r2) (TL.len (Tm.args t)))<|
   bif !(aH (Tm.op (TL.get (Tm.args t) (Int.toNat r2))) 3)then some (.inr (.inr (TL.nil,false)))else
   bif aH (TL.len (Tm.args (TL.get (Tm.args t) (Int.toNat r2))):Int) 0 then some (.inr (.inr (TL.nil,false)))else
   aJ (Nat.blt 0 (TL.len (Tm.args (TL.get (Tm.args t) (Int.toNat r2)))))<|
   bif !(aH (Tm.op (TL.get (Tm.args (TL.get (Tm.args t) (Int.toNat r2))) 0)) 1)then some (.inr (.inr (TL.nil,false)))else
   some (.inl (add r2 1))
  else
  some (.inr (.inl ()))) L 0) (Sum.elim (fun _=>True) fun z=>z.2=false):=by
  have hl:t.args.len<=5000:=h.1
  refine fq t.args.len (fun _=>True) (by omega) trivial (fun i hi _=> ?_) fun _=> ?_
  ·(repeat' with_reducible first|refine bX (fun _=> ?_) (fun _=> ?_)|refine aM (fun _=> ?_) (fun _=> ?_)|refine aP (fun _=> ?_) (fun _=> ?_)|refine aC (fun _=> ?_) (fun _=> ?_)|refine ay (by omega) ?_|refine a03 (by omega) ?_|refine eK (by omega) ?_|refine a0r (by omega) ?_|refine ok_glt (by omega) ?_|refine bn (fun _=> ?_) (fun _=> ?_)|refine bJ (fun _=> ?_) (fun _=> ?_))
   all_goals first|exact ae ⟨cG i (by omega),trivial⟩|exact ae rfl|omega
  ·(repeat' with_reducible first|refine bX (fun _=> ?_) (fun _=> ?_)|refine aM (fun _=> ?_) (fun _=> ?_)|refine aP (fun _=> ?_) (fun _=> ?_)|refine aC (fun _=> ?_) (fun _=> ?_)|refine ay (by omega) ?_|refine a03 (by omega) ?_|refine eK (by omega) ?_|refine a0r (by omega) ?_|refine ok_glt (by omega) ?_|refine bn (fun _=> ?_) (fun _=> ?_)|refine bJ (fun _=> ?_) (fun _=> ?_))
   all_goals first|exact ae trivial|omega
 refine this.bind fun y hy=> ?_
 cases y with
 |inl _=>exact ae fun _=>⟨rfl,h3⟩
 |inr z=>exact ae fun e=>by rw[show z.2=false from hy]at e;cases e
theorem Dg{t:Tm}(h:aZ S t):Ok (fJ L t) fun y=>y.2.2=true->t.1=3/\t.args.len=6/\
 (y.2.1=false->y.1.parts=(t.args.get 5).args/\GL S y.1.parts/\fI y.1.parts=kR t)/\(y.2.1=true->(t.args.get 5).1=7/\(t.args.get 5).args.len=2):=by
 unfold fJ
 (repeat' with_reducible first|refine bX (fun _=> ?_) (fun _=> ?_)|refine aM (fun _=> ?_) (fun _=> ?_)|refine aP (fun _=> ?_) (fun _=> ?_)|refine aC (fun _=> ?_) (fun _=> ?_)|refine ay (by omega) ?_|refine a03 (by omega) ?_|refine eK (by omega) ?_|refine a0r (by omega) ?_|refine ok_glt (by omega) ?_|refine bn (fun _=> ?_) (fun _=> ?_)|refine bJ (fun _=> ?_) (fun _=> ?_))
 all_goals first|(refine ae fun e=> ?_;cases e;done)|(exfalso;omega)|skip
 refine(A5 hL hM (TL.a2C h.1.2 5)).bind fun y hy=> ?_
 have hg:aZ S (t.args.get 5):=(h.args (.inl (by assumption))).get 5
 (repeat' with_reducible first|refine bX (fun _=> ?_) (fun _=> ?_)|refine aM (fun _=> ?_) (fun _=> ?_)|refine aP (fun _=> ?_) (fun _=> ?_)|refine aC (fun _=> ?_) (fun _=> ?_)|refine ay (by omega) ?_|refine a03 (by omega) ?_|refine eK (by omega) ?_|refine a0r (by omega) ?_|refine ok_glt (by omega) ?_|refine bn (fun _=> ?_) (fun _=> ?_)|refine bJ (fun _=> ?_) (fun _=> ?_))
 ·rename_i e
  obtain⟨h1,h2⟩:=hy e
  refine ae fun _=>⟨by assumption,by omega,fun _=>⟨h1,?_,by show fI y.1=_;rw[h1];rfl⟩,fun e=>by cases e⟩
  show GL S y.1
  rw[h1];exact hg.args (.inl h2)
 ·exact ae fun _=>⟨by assumption,by omega,fun e=>(by cases e),fun _=>⟨by assumption,by omega⟩⟩
 all_goals exact ae fun e=>by cases e
theorem wL{k t:Tm}(h:aZ S t):Ok (a38 L k t) fun y=>y.2=true->aZ S y.1/\Ah S k y.1:=by
 unfold a38
 refine aP (fun _=>ae fun e=>by cases e) fun h1=>aP (fun _=>ae fun e=>by cases e) fun h2=>a03 (by omega) ?_
 refine a2P hL hM (TL.a2C h.1.2 0) (aP (fun _=>ae fun e=>by cases e) fun h3=>a03 (by omega) (ae fun _=> ?_))
 have h2:t.2.2.len=2:=by have:((t.2.2.len:Nat):Int)=2:=h2;omega
 have h3:=qK.1 h3
 have:=h.2.1.1 h1 h2
 rw[show t.2.2.get 0=k from h3]at this
 exact⟨(h.args (.inr h1)).get 1,this⟩
theorem GO{k t:Tm}(h:aZ S t)(hk:k.cP):Ok (a3l L k t) fun y=>y.2=true->GL S y.1.parts/\(Jl k->∀x,fI y.1.parts=some x->own x=own (a4n k)):=by
 unfold a3l
 refine(Dg hL hM h).bind fun y hy=> ?_
 refine bn (fun _=>ae fun e=>by cases e) fun e1=>bn (fun _=>ae fun e=>by cases e) fun e2=> ?_
 obtain⟨g1,g2,_,g4⟩:=hy e1
 obtain⟨g5,g6⟩:=g4 e2
 have hg:aZ S (t.args.get 5):=(h.args (.inl g1)).get 5
 refine a03 (by omega) ((wL hL hM hg).bind fun z hz=>bn (fun _=>ae fun e=>by cases e) fun e3=> ?_)
 obtain⟨q1,q2⟩:=hz e3
 refine aP (fun _=>ae fun e=>by cases e) fun e4=>aP (fun _=>ae fun e=>by cases e) fun e5=> ?_
 have hb:GL S z.1.args:=q1.args (.inl e4)
 have hlen:z.1.args.len=6:=by omega
 have cmp:∀{i:Nat} {f:Int->Option (bW×Bool)} {Q:bW×Bool->Prop},(∀c,Ok (f c) Q)->Ok (Option.bind (bq L (TL.get z.1.args i) (TL.get t.args i)) f) Q:=fun{i f Q} hf=>a2P hL hM (TL.a2C hb.2.1 i) (hf _)
 refine a03 (by omega) (a03 (by omega) (cmp fun c=>aP (fun _=>ae fun e=>by cases e) fun _=> ?_))
 refine a03 (by omega) (a03 (by omega) (cmp fun c=>aP (fun _=>ae fun e=>by cases e) fun _=> ?_))
 refine a03 (by omega) (a03 (by omega) (cmp fun c=>aP (fun _=>ae fun e=>by cases e) fun _=> ?_))
 refine a03 (by omega) (a03 (by omega) (cmp fun c=>aP (fun _=>ae fun e=>by cases e) fun _=> ?_))
 refine a03 (by omega) (a03 (by omega) (cmp fun c=>aP (fun _=>ae fun e=>by cases e) fun _=> ?_))
 refine a03 (by omega) ((A5 hL hM (TL.a2C hb.2.1 5)).bind fun p hp=>bn (fun _=>ae fun e=>by cases e) fun e6=>ae fun _=> ?_)
 obtain⟨p1,p2⟩:=hp e6
 have hgp:GL S p.1:=by rw[p1];exact(hb.get 5).args (.inl p2)
 refine⟨hgp,fun sh x hx=>q2.1 sh x ?_⟩
 have hx:fI p.1=some x:=hx
 rw[p1]at hx;exact hx
theorem Bz{l:TL}{id:Int}{m n:Tm}(h:GL S l)(hid:0<=id):Ok (nB L l id m n) fun b=>b=true->∀x,kR m=some x->own x=id:=by
 unfold nB
 rw[lF hL hM h.1,fH hL hM h.1]
 refine aD (ae (aD (ae ?_)))
 have hf:=jW (n:=9) h
 (repeat' with_reducible first|refine bX (fun _=> ?_) (fun _=> ?_)|refine aM (fun _=> ?_) (fun _=> ?_)|refine aP (fun _=> ?_) (fun _=> ?_)|refine aC (fun _=> ?_) (fun _=> ?_)|refine ay (by omega) ?_|refine a03 (by omega) ?_|refine eK (by omega) ?_|refine a0r (by omega) ?_|refine ok_glt (by omega) ?_|refine bn (fun _=> ?_) (fun _=> ?_)|refine bJ (fun _=> ?_) (fun _=> ?_))
 all_goals first|(refine ae fun e=> ?_;cases e;done)|skip
 rename_i h1 h2 h3
 have h3:(fnd l 9).1.len=1:=by have:(((fnd l 9).1.len:Nat):Int)=1:=h3;omega
 unfold jq
 refine aD (ae ?_)
 refine a2P hL hM (hf.get 0).1 (ae fun e=> ?_)
 have e:=qK.1 (lK.1 e)
 intro x hx
 have hg:=(hf.get 0).2.1.2
 rw[e]at hg
 exact hg rfl rfl m n (T.aG id) rfl x hx
theorem vz{a b:Tm}(ha:a.cP)(hb:b.cP):Ok (mJ L a b) fun y=>y.1.cP:=by
 unfold mJ
 have hz:Tm.cP (0,0,TL.nil):=⟨Nat.zero_le _,trivial⟩
 have hg:(a.args.get 0).cP:=TL.a2C ha.2 0
 have hs:∀{t u:Tm},t.cP->u.cP->(T.Gk t u).cP:=fun ht hu=>⟨(by decide:2<=5000),ht.1,ht.2,hu.1,hu.2,trivial⟩
 refine aP (fun _=>ae hz) fun h1=>aP (fun _=>ae hz) fun h2=>a03 (by omega) ?_
 exact a2P hL hM hb (aM (fun _=>ae (hs hb hg)) fun _=>ae (hs hg hb))
theorem a3Y{l:TL}{a b:Int}(h:GL S l):Ok (kQ L l a b) fun _=>True:=by
 unfold kQ tC
 rw[fH hL hM h.1]
 refine aD (ae (aC (fun h1=>a03 (by omega) (aD (ae ?_))) fun _=>ae trivial))
 exact a2P hL hM ((jW h).get 1).1 (ae trivial)
omit hL hM
theorem aZ.derive{v:Int}{l:TL}(h1:l.len<=5000)(h2:l.cP):aZ S (T.derive v l):=aZ.vR ⟨h1,h2⟩ (.inr (.inr (.inr (.inr (.inl rfl)))))
def a3W(dZ a b:Int):Tm:=T.a01 (TL.of [T.aG 7,T.derive 8 (TL.of [T.aG dZ,T.aG a]),T.derive 8 (TL.of [T.aG dZ,T.aG b])])
theorem vF(dZ a b:Int):pE L dZ a b=some (a3W dZ a b):=rfl
theorem aZ.mark(dZ a b:Int):aZ S (a3W dZ a b):=by
 have d:∀x y:Int,aZ S (T.derive 8 (TL.of [T.aG x,T.aG y])):=fun x y=>aZ.derive (Nat.le_of_ble_eq_true rfl) ⟨Nat.zero_le _,trivial,Nat.zero_le _,trivial,trivial⟩
 exact aZ.a01 (GL.of (by simp) fun t ht=>by
  simp only[List.mem_cons,List.mem_nil_iff,or_false]at ht
  rcases ht with rfl|rfl|rfl
  ·exact aZ.aG _
  ·exact d _ _
  ·exact d _ _)
end
def Nm(w:Int)(t:Tm):Prop:=t.1=2/\own t=w/\t.cP
def base(w:Int):Int:=1000*(w+1)
def MJ(x:cC):Prop:=x.size=6/\(∃b:Int,x.bits=[b]/\0<=b/\b<64)/\0<=x.mj/\x.mj<=300
def seen(x:cC)(n:Int):Prop:=n<=x.mj/\(6<=x.mj-n∨(x.bits.getD 0 0).toNat.testBit (x.mj-n).toNat=true)
def I9(bA:Int)(p:a04):Prop:=p.ax≠0->(p.sent=1/\p.sx<=bA+2)∨(p.sent=2/\p.sx<=bA+4)∨(p.sent=3/\p.sx<=bA+8)
structure pV(w:Int)(S:List jn)(bA:Int)(ex:Int)(s:Sa):Prop where
 ours:Nm w s.ours
 thn:s.bO.cP
 st:s.state=1∨s.state=2∨s.state=3∨s.state=4
 key:s.state≠1->Jl s.out/\Jl s.eI/\a4n s.out=s.ours/\a4n s.eI=s.bO
 on:s.out.cP
 Bk:s.eI.cP
 dn:s.d.cP
 fn:s.first.cP
 first:s.state<=2->∀x,kR s.first=some x->own x=w
 rn:s.bY.cP
 bY:s.state=2->kR s.bY=some s.bO
 up:3<=s.state->Nm (1-w) s.bO
 body:aZ S s.pending.body
 sE:aZ S s.sE
 Jm:s.pending.ax=3∨s.pending.ax=4∨s.pending.ax=5->Nm w s.pending.dx
 sD:s.pending.eE.cP
 MD:s.pending.probe.cP
 p1:s.state=1->s.pending.ax=1
 p2:s.state=2->s.pending.ax=2
 p4:ex≠s.own->s.state=4->s.pending.ax=7
 J6:I9 bA s.pending
 eC:0<=s.eC/\s.eC<=bA
structure xz(w:Int)(S:List jn)(bA:Int)(h:bN):Prop where
 ours:Nm w h.ours
 key:Jl h.out/\Jl h.eI/\a4n h.out=h.ours/\a4n h.eI=h.bO
 on:h.out.cP
 Bk:h.eI.cP
 dn:h.d.cP
 d6:h.d.1=6
 thn:h.bO.cP
 fn:h.first.cP
 first:kR h.first=some h.bO
 bY:aZ S h.bY
 rn:∀x,kR h.bY=some x->own x=w
 born:0<=h.born/\h.born<=bA
structure uU(w:Int)(c:a00):Prop where
 ours:Nm w c.ours
 bO:Nm (1-w) c.bO
 ki:WJ c.sy/\Km c.sy=c.bO
 ko:WJ c.o6/\Km c.o6=c.ours
 kin:c.sy.cP
 kon:c.o6.cP
 X1:MJ c.iS
 s0:0<=c.sent
 s1:c.sent<=200
def fZ(x:Int)(s:Sa):Nat:=if(s.pending.ax=2∨s.pending.ax=3∨s.pending.ax=4∨s.pending.ax=5)/\s.pending.dZ=x then 1 else 0
def dD(x:Int)(s:Sa):Nat:=(if s.own=x then 1 else 0)+fZ x s
def eU(x:Int)(h:bN):Nat:=if h.own=x then 1 else 0
def gK(x:Int)(c:a00):Nat:=if c.eI=x then 1 else 0
def occ(x:Int)(g:aa):Nat:=sumL (dD x) g.u4+sumL (eU x) g.aW+sumL (gK x) g.af
def pSa(s:Sa):Nat:=if s.pending.ax=5 then 1 else 0
def nj(s:Sa):Nat:=if s.pending.ax=3∨s.pending.ax=4 then 1 else 0
def iR(s:Sa):Nat:=if s.state=4 then 0 else 1
def lone(s:Sa):Nat:=if s.state<=2 then 1 else 0
structure Cr where
 ex:Int:=0
 zr:Nat:=0
 zl:Int:=0
 zs:Nat:=0
 ze:Nat:=0
def a2E(cn:Int->Int)(k:Int)(s:Sa):Nat:=if cn s.own=k then lone s else 0
def ud(cn:Int->Int)(au:Int->Bool)(k:Int)(c:a00):Nat:=if au c.eI=true/\cn c.sa=k then 1 else 0
def oD(au:Int->Bool)(c:a00):Nat:=if au c.eI=true then 0 else 1
theorem Ed{cn cn':Int->Int}{k:Int}{s:Sa}(h:cn s.own=cn' s.own):a2E cn k s=a2E cn' k s:=by unfold a2E;simp only[h]
theorem JN{cn cn':Int->Int}{au:Int->Bool}{k:Int}{c:a00}(h:cn c.sa=cn' c.sa):ud cn au k c=ud cn' au k c:=by unfold ud;simp only[h]
structure Cn(X:Cr)(cn:Int->Int)(au:Int->Bool)(g:aa):Prop where
 Bf:∀s∈g.u4,s.follows≠0->cn s.follows=cn s.own
 one:∀k,sumL (a2E cn k) g.u4+sumL (ud cn au k) g.af+(if X.zl≠0/\cn X.zl=k then 1 else 0)<=1
 EY:∃C:List Int,C.length<=8/\∀s∈g.u4,cn s.own∈C
 rest:sumL (oD au) g.af+sumL nj g.u4+X.zr<=20
structure Dl where
 l:List (Int×Int)
 k:Nat
structure GI(w:Int)(S:List jn)(D:Dl)(R:List aQ)(X:Cr)(g:aa):Prop where
 ww:w=0∨w=1
 id:g.av=w
 kS:g.kS=1-w
 dh:g.dh=R
 MA:0<g.dB.length/\g.dB.length<=4
 lG:0<=g.count
 bA:0<=g.bA
 gn:g.guard.cP
 vn:g.mm.cP/\g.mm.1=2
 u4:∀s∈g.u4,pV w S g.bA X.ex s
 aW:∀h∈g.aW,xz w S g.bA h
 dF:∀c∈g.af,uU w c
 a4l:∀t∈g.cu,aZ S t.body/\t.d.cP
 nh:g.aW.length<=4
 nt:g.cu.length<=2
 lD:∀x,occ x g<=1
 kr:∀x,0<occ x g->base w<x/\x<=base w+g.count
 nY:∀c∈g.af,∃s∈g.u4,s.own=c.sa/\3<=s.state
 fh:∀s∈g.u4,s.follows=0∨∃t∈g.u4,t.own=s.follows/\3<=t.state
 a3V:g.u4.length+sumL pSa g.u4+X.zs<=15
 tq:sumL iR g.u4<=8+X.ze
 jE:∃cn au,Cn X cn au g
 gone:∀s∈g.u4,s.pending.gone.length<=D.k
 uL:∀d∈D.l,base w<d.1/\d.1<=base w+g.count/\sumL (fZ d.1) g.u4=0/\∀c∈g.af,c.eI=d.1->seen c.iS d.2
def cA(k:Int)(g g':aa):Prop:=g'.bA=g.bA/\g.count<=g'.count/\g'.count<=g.count+k
theorem cA.rfl{g:aa}:cA 0 g g:=⟨Eq.refl _,Int.le_refl _,by omega⟩
theorem cA.trans{j k:Int}{g g' g'':aa}(h:cA j g g')(h':cA k g' g''):cA (j+k) g g'':=⟨h'.1.trans h.1,by have:=h.2.1;have:=h'.2.1;omega,by have:=h.2.2;have:=h'.2.2;omega⟩
theorem cA.le{j k:Int}{g g':aa}(h:cA j g g')(hk:j<=k):cA k g g':=⟨h.1,h.2.1,by have:=h.2.2;omega⟩
structure kY(v:Int)(w:Int)(D:Dl)(g:aa):Prop where
 no:occ v g=0
 lo:base w<v
 hi:v<=base w+g.count
 uL:∀d∈D.l,d.1≠v
section
variable {α:Type}{l:List α}{i:Nat}{x y:α}
theorem bB{z:α}(h:l[i]?=some x):l.getD i z=x:=by simp[List.getD,h]
theorem bL(h:l[i]?=some x):i<l.length:=(List.getElem?_eq_some_iff.1 h).1
theorem bC(h:l[i]?=some x):x∈l:=List.mem_of_getElem? h
theorem nr{f:α->Nat}(h:l[i]?=some x)(y:α):sumL f (l.set i y)+f x=sumL f l+f y:=by
 obtain⟨h1,h2⟩:=List.getElem?_eq_some_iff.1 h
 have:=EP f l i h1 y
 rw[h2]at this;exact this
theorem wA{f:α->Nat}(h:l[i]?=some x):sumL f (l.take i++l.drop (i+1))+f x=sumL f l:=by
 obtain⟨h1,h2⟩:=List.getElem?_eq_some_iff.1 h
 have:=Md f l i h1
 rw[h2]at this;exact this
theorem kH(h:x∈l.set i y):x=y∨x∈l:=by
 rcases List.mem_or_eq_of_mem_set h with h|h
 ·exact .inr h
 ·exact .inl h
theorem vX(h:x∈l.take i++l.drop (i+1)):x∈l:=by
 rcases List.mem_append.1 h with h|h
 ·exact List.mem_of_mem_take h
 ·exact List.mem_of_mem_drop h
theorem HU{f:α->Nat}(h:0<sumL f l):∃x∈l,0<f x:=by
 induction l with
 |nil=>simp[sumL]at h
 |cons a l ih=>
  by_cases h0:0<f a
  ·exact⟨a,by simp,h0⟩
  ·obtain⟨x,hx,hf⟩:=ih (by simp only[sumL]at h;omega)
   exact⟨x,by simp[hx],hf⟩
theorem Mf{f:α->Nat}(h:sumL f l=0)(hx:x∈l):f x=0:=by have:=iC f hx;omega
end
theorem GQ{L:Nat}{g:aa}{own:Int}(h:g.u4.length<L)(hM:L<=4611686018427387904):
 Ok (bz L g own) fun y=>(y= -1/\∀s∈g.u4,s.own≠own)∨∃(i:Nat) (s:Sa),y=(i:Int)/\g.u4[i]?=some s/\s.own=own:=by
 unfold bz
 refine(a2Z (p:=fun s:Sa=>aH s.own own) h hM).bind fun y hy=> ?_
 cases y with
 |inl _=>exact ae (.inl ⟨rfl,fun s hs=>zn.1 (hy s hs)⟩)
 |inr z=>
  obtain⟨i,e,hi,hp,_⟩:=hy
  exact ae (.inr ⟨i,g.u4[i],e,by simp[hi],lK.1 hp⟩)
theorem F1{L:Nat}{g:aa}{x:Int}(h:g.af.length<L)(hM:L<=4611686018427387904):
 Ok (a0f L g x) fun y=>(y= -1/\∀c∈g.af,c.eI≠x)∨∃(i:Nat) (c:a00),y=(i:Int)/\g.af[i]?=some c/\c.eI=x:=by
 unfold a0f
 refine(a2Z (p:=fun c:a00=>aH c.eI x) h hM).bind fun y hy=> ?_
 cases y with
 |inl _=>exact ae (.inl ⟨rfl,fun s hs=>zn.1 (hy s hs)⟩)
 |inr z=>
  obtain⟨i,e,hi,hp,_⟩:=hy
  exact ae (.inr ⟨i,g.af[i],e,by simp[hi],lK.1 hp⟩)
section
variable {w:Int}{S S':List jn}{D:Dl}{R:List aQ}{X:Cr}{bA:Int}{g:aa}
theorem pV.mono{ex:Int}(h:∀e∈S,e∈S'){s:Sa}(q:pV w S bA ex s):pV w S' bA ex s:={q with body:=q.body.mono h,sE:=q.sE.mono h}
theorem xz.mono(h:∀e∈S,e∈S'){s:bN}(q:xz w S bA s):xz w S' bA s:={q with bY:=q.bY.mono h}
theorem GI.mono(h:∀e∈S,e∈S')(q:GI w S D R X g):GI w S' D R X g:=
 {q with u4:=fun s hs=>(q.u4 s hs).mono h,aW:=fun s hs=>(q.aW s hs).mono h,a4l:=fun t ht=>⟨(q.a4l t ht).1.mono h,(q.a4l t ht).2⟩}
theorem GI.len(q:GI w S D R X g):g.u4.length<=15:=by have:=q.a3V;omega
theorem GI.bp(q:GI w S D R X g):0<base w:=by have:=q.ww;unfold base;omega
theorem GI.a2c(q:GI w S D R X g){s:Sa}(hs:s∈g.u4):base w<s.own/\s.own<=base w+g.count:=by
 refine q.kr s.own ?_
 have:=iC (dD s.own) hs
 unfold occ
 have h1:1<=dD s.own s:=by unfold dD;simp
 omega
theorem GI.Ep(q:GI w S D R X g){s:Sa}(hs:s∈g.u4):s.own≠0:=by have:=(q.a2c hs).1;have:=q.bp;omega
theorem GI.tK(q:GI w S D R X g){i j:Nat}{s t:Sa}(hi:g.u4[i]?=some s)(hj:g.u4[j]?=some t)(h:s.own=t.own):i=j:=by
 by_cases e:i=j
 ·exact e
 ·exfalso
  have h1:=q.lD s.own
  have hc:=wA (f:=dD s.own) hi
  have hm:t∈g.u4.take i++g.u4.drop (i+1):=by
   rcases Nat.lt_or_gt_of_ne e with h|h
   ·refine List.mem_append.2 (.inr (List.mem_of_getElem? (i:=j-(i+1)) ?_))
    rw[List.getElem?_drop,show i+1+(j-(i+1))=j by omega];exact hj
   ·refine List.mem_append.2 (.inl (List.mem_of_getElem? (i:=j) ?_))
    rw[List.getElem?_take];simp[h,hj]
  have hm':=iC (dD s.own) hm
  have a1:1<=dD s.own s:=by unfold dD;simp
  have a2:1<=dD s.own t:=by unfold dD;simp[h]
  unfold occ at h1
  omega
theorem GI.CD(q:GI w S D R X g){s t:Sa}(hs:s∈g.u4)(ht:t∈g.u4)(h:s.own=t.own):s=t:=by
 obtain⟨i,hi⟩:=List.mem_iff_getElem?.1 hs
 obtain⟨j,hj⟩:=List.mem_iff_getElem?.1 ht
 have:=q.tK hi hj h
 subst this
 rw[hi]at hj;cases hj;rfl
theorem GI.sP(q:GI w S D R X g){n:Int}(hn:n=g.count+1):GI w S D R X (aa.dj g n)/\kY (base w+n) w D (aa.dj g n):=by
 subst hn
 have hno:occ (base w+(g.count+1)) g=0:=by
  rcases Nat.eq_zero_or_pos (occ (base w+(g.count+1)) g)with h|h
  ·exact h
  ·have:=(q.kr _ h).2;omega
 refine⟨{q with lG:= ?_,kr:=fun x hx=> ?_,uL:=fun d hd=> ?_,jE:= ?_},⟨hno,?_,?_,fun d hd=> ?_⟩⟩
 ·show 0<=g.count+1;have:=q.lG;omega
 ·have:=q.kr x hx;exact⟨this.1,by show x<=base w+(g.count+1);omega⟩
 ·obtain⟨cn,au,h⟩:=q.jE;exact⟨cn,au,h.Bf,h.one,h.EY,h.rest⟩
 ·obtain⟨h1,h2,h3,h4⟩:=q.uL d hd
  exact⟨h1,by show d.1<=base w+(g.count+1);omega,h3,h4⟩
 ·have:=q.lG;omega
 ·show base w+(g.count+1)<=base w+(g.count+1);omega
 ·have:=(q.uL d hd).2.1;omega
theorem kY.count{v n:Int}(f:kY v w D g)(hn:g.count<=n):kY v w D (aa.dj g n):=⟨f.no,f.lo,by have:=f.hi;show v<=base w+n;omega,f.uL⟩
theorem GI.Ku(q:GI w S D R X g)(h0:X.ex=0)(x:Int):GI w S D R {X with ex:=x} g:=
 {q with u4:=fun s hs=>{q.u4 s hs with p4:=fun _=>(q.u4 s hs).p4 (fun h=>q.Ep hs (by rw[<-h,h0]))},jE:=by obtain⟨cn,au,h⟩:=q.jE;exact⟨cn,au,h.Bf,h.one,h.EY,h.rest⟩}
theorem GI.a4o{X':Cr}(q:GI w S D R X g)(hx:X'.ex=X.ex∨∀s∈g.u4,s.own=X.ex->s.state=4->s.pending.ax=7)(hr:X'.zr<=X.zr)(hl:X'.zl=X.zl∨X'.zl=0)(hs:X'.zs<=X.zs)(he:X.ze<=X'.ze):GI w S D R X' g:=by
 have hc:∃cn au,Cn X' cn au g:=by
  obtain⟨cn,au,h⟩:=q.jE
  refine⟨cn,au,h.Bf,fun k=> ?_,h.EY,?_⟩
  ·have:=h.one k
   rcases hl with e|e<;>rw[e]
   ·exact this
   ·simp;omega
  ·have:=h.rest;omega
 refine{q with u4:=fun s hs=>{q.u4 s hs with p4:=fun hx' h4=> ?_},a3V:=by have:=q.a3V;omega,tq:=by have:=q.tq;omega,jE:=hc}
 by_cases e:X.ex=s.own
 ·rcases hx with hx|hx
  ·exact absurd (hx.trans e) hx'
  ·exact hx s hs e.symm h4
 ·exact(q.u4 s hs).p4 e h4
theorem pV.nc{s:Sa}(q:pV w S bA 0 s)(h0:s.own≠0):nj s<=iR s:=by
 unfold nj iR
 have:=q.p4 (fun h=>h0 h.symm)
 split<;>split<;>omega
theorem GI.pM(q:GI w S D R X g){i:Nat}{s s':Sa}(hi:g.u4[i]?=some s){X':Cr}(hex':X'.ex=X.ex)(hs':pV w S g.bA X'.ex s')
 (e1:s'.own=s.own) (e2:s'.follows=s.follows) (e3:∀x,fZ x s'<=fZ x s∨fZ x s'<=1/\kY x w D g) (e4:pSa s'+X'.zs<=pSa s+X.zs∨X'.zs=0/\g.u4.length<=7) (e5:nj s'+X'.zr<=nj s+X.zr∨X'.ex=0/\X'.zr=0/\X'.ze=0/\g.af.length<=11) (e6:iR s'+X.ze<=iR s+X'.ze) (e7:lone s'<=lone s)
 (e8:X'.zl=X.zl∨X'.zl=0∨X.zl=0/\X'.zl=s.own/\lone s'+1<=lone s) (e9:s'.pending.gone.length<=D.k):
 GI w S D R X' (aa.bI g (g.u4.set i s')):=by
 have hm:=bC hi
 have eU:∀x,occ x (aa.bI g (g.u4.set i s'))+dD x s=occ x g+dD x s':=fun x=>by
  have:=nr (f:=dD x) hi s'
  show sumL (dD x) (g.u4.set i s')+sumL (eU x) g.aW+sumL (gK x) g.af+dD x s=sumL (dD x) g.u4+sumL (eU x) g.aW+sumL (gK x) g.af+dD x s'
  omega
 have hso:∀x,dD x s'+fZ x s=dD x s+fZ x s':=fun x=>by unfold dD;rw[e1];omega
 have hmem:∀t,t∈g.u4.set i s'->t=s'∨t∈g.u4:=fun t=>kH
 have hst:3<=s.state->3<=s'.state:=fun h=>by
  unfold lone at e7
  have:=hs'.st
  split at e7<;>split at e7<;>omega
 have hex:∀(x:Int),(∃t∈g.u4,t.own=x/\3<=t.state)->∃t∈g.u4.set i s',t.own=x/\3<=t.state:=fun x ⟨t,h1,h2,h3⟩=>by
  by_cases e:t.own=s.own
  ·obtain rfl:=q.CD h1 hm e
   exact⟨s',List.mem_of_getElem? (i:=i) (List.getElem?_set_self (bL hi)),by rw[e1];exact h2,hst h3⟩
  ·obtain⟨j,hj⟩:=List.mem_iff_getElem?.1 h1
   refine⟨t,List.mem_of_getElem? (i:=j) ?_,h2,h3⟩
   rw[List.getElem?_set_ne (by intro h;subst h;rw[hi]at hj;cases hj;exact e rfl)]
   exact hj
 have hlim2:sumL iR (g.u4.set i s')<=8+X'.ze:=by
  have h1:=nr (f:=iR) hi s'
  have:=q.tq;omega
 refine{q with u4:=fun t ht=> ?_,lD:=fun x=> ?_,kr:=fun x hx=> ?_,nY:=fun c hc=>hex _ (q.nY c hc),fh:=fun t ht=> ?_,a3V:= ?_,tq:= ?_,jE:= ?_,gone:=fun t ht=>(hmem t ht).elim (fun h=>by rw[h];exact e9) (q.gone t),uL:=fun d hd=> ?_}
 ·rcases hmem t ht with rfl|ht
  ·exact hs'
  ·rw[hex'];exact q.u4 t ht
 ·have h1:=eU x;have h2:=hso x;have h3:=q.lD x
  rcases e3 x with h|⟨h,hf⟩
  ·omega
  ·have:=hf.no
   have:dD x s<=occ x g:=by have:=iC (dD x) hm;unfold occ;omega
   have:fZ x s<=dD x s:=by unfold dD;omega
   omega
 ·rcases e3 x with h|⟨h,hf⟩
  ·have h1:=eU x;have h2:=hso x
   exact q.kr x (by omega)
  ·exact⟨hf.lo,hf.hi⟩
 ·rcases hmem t ht with rfl|ht
  ·rw[e2]
   rcases q.fh s hm with h|h
   ·exact .inl h
   ·exact .inr (hex _ h)
  ·rcases q.fh t ht with h|h
   ·exact .inl h
   ·exact .inr (hex _ h)
 ·show(g.u4.set i s').length+sumL pSa (g.u4.set i s')+X'.zs<=15
  rw[List.length_set]
  have h1:=nr (f:=pSa) hi s'
  have h2:=q.a3V
  have h3:sumL pSa g.u4<=g.u4.length:=by
   rw[<-a4g g.u4]
   exact qt _ fun x _=>by unfold pSa;split<;>omega
  have h4:pSa s'<=1:=by unfold pSa;split<;>omega
  rcases e4 with h|h<;>omega
 ·exact hlim2
 ·obtain⟨cn,au,h⟩:=q.jE
  refine⟨cn,au,fun t ht=> ?_,fun k=> ?_,?_,?_⟩
  ·rcases hmem t ht with rfl|ht
   ·rw[e1,e2];exact h.Bf s hm
   ·exact h.Bf t ht
  ·have h1:=nr (f:=a2E cn k) hi s'
   have h2:a2E cn k s'<=a2E cn k s:=by unfold a2E;rw[e1];split<;>omega
   have h3:=h.one k
   show sumL (a2E cn k) (g.u4.set i s')+sumL (ud cn au k) g.af+_<=1
   rcases e8 with e8|e8|⟨e8,e9,OW⟩
   ·rw[e8];omega
   ·rw[if_neg (fun h=>h.1 e8)];omega
   ·rw[e9]
    rw[if_neg (fun h=>h.1 e8)]at h3
    by_cases hk:cn s.own=k
    ·have a1:a2E cn k s=lone s:=by unfold a2E;rw[if_pos hk]
     have a2:a2E cn k s'=lone s':=by unfold a2E;rw[e1,if_pos hk]
     split<;>omega
    ·rw[if_neg (fun h=>hk h.2)];omega
  ·obtain⟨C,c1,c2⟩:=h.EY
   exact⟨C,c1,fun t ht=>by
    rcases hmem t ht with rfl|ht
    ·rw[e1];exact c2 s hm
    ·exact c2 t ht⟩
  ·have h1:=nr (f:=nj) hi s'
   have h2:=h.rest
   show sumL (oD au) g.af+sumL nj (g.u4.set i s')+X'.zr<=20
   rcases e5 with h5|⟨h5,h6,h6',h7⟩
   ·omega
   ·have h8:sumL (oD au) g.af<=g.af.length:=by
     rw[<-a4g g.af]
     exact qt _ fun x _=>by unfold oD;split<;>omega
    have h9:sumL nj (g.u4.set i s')<=sumL iR (g.u4.set i s'):=qt _ fun t ht=>by
     rcases hmem t ht with rfl|ht
     ·have hh:=hs';rw[h5]at hh;exact hh.nc (by rw[e1];exact q.Ep hm)
     ·have hh:=q.u4 t ht;rw[<-hex',h5]at hh;exact hh.nc (q.Ep ht)
    omega
 ·obtain⟨h1,h2,h3,h4⟩:=q.uL d hd
  refine⟨h1,h2,?_,h4⟩
  have h5:=nr (f:=fZ d.1) hi s'
  show sumL (fZ d.1) (g.u4.set i s')=0
  rcases e3 d.1 with h|⟨_,hf⟩
  ·omega
  ·exact absurd rfl (hf.uL d hd)
end
theorem SI(l:List Int):∃k,k∉l:=by
 have:∀l:List Int,∃b,∀x∈l,x<b:=by
  intro l
  induction l with
  |nil=>exact⟨0,fun x hx=>by simp at hx⟩
  |cons a l ih=>
   obtain⟨b,hb⟩:=ih
   refine⟨max (a+1) b,fun x hx=> ?_⟩
   rcases List.mem_cons.1 hx with rfl|hx
   ·omega
   ·have:=hb x hx;omega
 obtain⟨b,hb⟩:=this l
 exact⟨b,fun h=>by have:=hb b h;omega⟩
theorem kJ{α:Type}{f:α->Nat}{l m:List α}(h:l.Sublist m):sumL f l<=sumL f m:=by
 induction h with
 |slnil=>exact Nat.le_refl _
 |cons a _ ih=>simp only[sumL];omega
 |cons_cons a _ ih=>simp only[sumL];omega
theorem pZ{α:Type}(l:List α)(i:Nat):(l.take i++l.drop (i+1)).Sublist l:=by
 conv=>rhs;rw[<-List.take_append_drop i l]
 exact List.Sublist.append (List.Sublist.refl _) (by rw[show l.drop (i+1)=(l.drop i).drop 1 by rw[List.drop_drop]];exact List.drop_sublist 1 _)
section
variable {w:Int}{S S':List jn}{D:Dl}{R:List aQ}{X X':Cr}{bA:Int}{g g':aa}
theorem GI.yF(q:GI w S D R X g){v:Int}(h:occ v g=0){s:Sa}(hs:s∈g.u4):s.own≠v:=fun e=>by
 have:=iC (dD v) hs
 have h1:1<=dD v s:=by unfold dD;simp[e]
 unfold occ at h;omega
theorem GI.Fw(q:GI w S D R X g){v:Int}(h:occ v g=0)(hv:base w<v){s:Sa}(hs:s∈g.u4):s.follows≠v:=fun e=>by
 rcases q.fh s hs with h0|⟨t,h1,h2,_⟩
 ·have:=q.bp;omega
 ·exact q.yF h h1 (by rw[h2,e])
theorem GI.a4Q(q:GI w S D R X g){v:Int}(h:occ v g=0){c:a00}(hc:c∈g.af):c.sa≠v:=fun e=>by
 obtain⟨t,h1,h2,_⟩:=q.nY c hc
 exact q.yF h h1 (by rw[h2,e])
theorem GI.same(q:GI w S D R X g)(e1:g'.av=g.av)(e2:g'.kS=g.kS)(e3:g'.dh=g.dh)(e4:g'.dB=g.dB)(e5:g'.count=g.count)(e6:g'.bA=g.bA)(e7:g'.guard=g.guard)(e8:g'.mm=g.mm)
 (e9:g'.u4=g.u4) (OW:g'.aW=g.aW) (He:g'.af=g.af) (TX:g'.cu=g.cu):GI w S D R X g':=by
 have ho:∀x,occ x g'=occ x g:=fun x=>by unfold occ;rw[e9,OW,He]
 refine⟨q.ww,e1.trans q.id,e2.trans q.kS,e3.trans q.dh,by rw[e4];exact q.MA,by rw[e5];exact q.lG,by rw[e6];exact q.bA,by rw[e7];exact q.gn,by rw[e8];exact q.vn,by rw[e9,e6];exact q.u4,by rw[OW,e6];exact q.aW,by rw[He];exact q.dF,by rw[TX];exact q.a4l,by rw[OW];exact q.nh,by rw[TX];exact q.nt,
  fun x=>by rw[ho];exact q.lD x,fun x hx=>by rw[ho]at hx;rw[e5];exact q.kr x hx,by rw[e9,He];exact q.nY,by rw[e9];exact q.fh,by rw[e9];exact q.a3V,by rw[e9];exact q.tq,?_,by rw[e9];exact q.gone,by rw[e5,e9,He];exact q.uL⟩
 obtain⟨cn,au,h⟩:=q.jE
 exact⟨cn,au,by rw[e9];exact h.Bf,by rw[e9,He];exact h.one,by rw[e9];exact h.EY,by rw[e9,He];exact h.rest⟩
theorem wz{f:Sa->Nat}{l:List Sa}(h:∀s,f s<=1):sumL f l<=l.length:=by
 rw[<-a4g l];exact qt _ fun x _=>h x
theorem LK(s:Sa):pSa s<=1:=by unfold pSa;split<;>omega
theorem Cs(s:Sa):iR s<=1:=by unfold iR;split<;>omega
theorem NY(s:Sa):lone s<=1:=by unfold lone;split<;>omega
theorem GI.OS(q:GI w S D R {} g){s:Sa}(hs:pV w S g.bA 0 s)(ho:occ s.own g=0)(hb:base w<s.own)(hb':s.own<=base w+g.count)(hf:s.follows=0)(hp:∀x,fZ x s=0)(h1:pSa s=0)(h2:nj s=0)(hl:g.u4.length<=7)(hg:s.pending.gone.length<=D.k):
 GI w S D R {} (aa.bI g (g.u4++[s])):=by
 have hso:∀x,dD x s=if s.own=x then 1 else 0:=fun x=>by unfold dD;rw[hp x];omega
 have eU:∀x,occ x (aa.bI g (g.u4++[s]))=occ x g+dD x s:=fun x=>by
  show sumL (dD x) (g.u4++[s])+sumL (eU x) g.aW+sumL (gK x) g.af=sumL (dD x) g.u4+sumL (eU x) g.aW+sumL (gK x) g.af+dD x s
  rw[iB,jC];omega
 have hmem:∀t,t∈g.u4++[s]->t∈g.u4∨t=s:=fun t ht=>by simpa using ht
 have hex:∀(x:Int),(∃t∈g.u4,t.own=x/\3<=t.state)->∃t∈g.u4++[s],t.own=x/\3<=t.state:=fun x ⟨t,a,b⟩=>⟨t,by simp[a],b⟩
 refine{q with u4:=fun t ht=> ?_,lD:=fun x=> ?_,kr:=fun x hx=> ?_,nY:=fun c hc=>hex _ (q.nY c hc),fh:=fun t ht=> ?_,a3V:= ?_,tq:= ?_,jE:= ?_,gone:=fun t ht=>(hmem t ht).elim (q.gone t) (fun h=>by rw[h];exact hg),uL:=fun d hd=> ?_}
 ·rcases hmem t ht with ht|rfl
  ·exact q.u4 t ht
  ·exact hs
 ·rw[eU,hso]
  have:=q.lD x
  split
  ·rename_i e;subst e;omega
  ·omega
 ·rw[eU,hso]at hx
  by_cases e:s.own=x
  ·subst e;exact⟨hb,hb'⟩
  ·rw[if_neg e]at hx;exact q.kr x (by omega)
 ·rcases hmem t ht with ht|rfl
  ·rcases q.fh t ht with h|h
   ·exact .inl h
   ·exact .inr (hex _ h)
  ·exact .inl hf
 ·show(g.u4++[s]).length+sumL pSa (g.u4++[s])+0<=15
  have:sumL pSa g.u4<=g.u4.length:=wz LK
  rw[iB,jC,List.length_append,h1];simp;omega
 ·show sumL iR (g.u4++[s])<=8+0
  have:sumL iR g.u4<=g.u4.length:=wz Cs
  have:=Cs s
  rw[iB,jC];omega
 ·obtain⟨cn,au,h⟩:=q.jE
  obtain⟨k0,hk0⟩:=SI (g.u4.map fun t=>cn t.own)
  have hk0:∀t∈g.u4,cn t.own≠k0:=fun t ht e=>hk0 (List.mem_map.2 ⟨t,ht,e⟩)
  have c1:∀t∈g.u4,(if t.own=s.own then k0 else cn t.own)=cn t.own:=fun t ht=>if_neg (q.yF ho ht)
  have c2:∀c∈g.af,(if c.sa=s.own then k0 else cn c.sa)=cn c.sa:=fun c hc=>if_neg (q.a4Q ho hc)
  refine⟨fun x=>if x=s.own then k0 else cn x,au,fun t ht h0=> ?_,fun k=> ?_,?_,?_⟩
  ·rcases hmem t ht with ht|rfl
   ·rw[c1 t ht,if_neg (q.Fw ho hb ht)];exact h.Bf t ht h0
   ·exact absurd hf h0
  ·show sumL _ (g.u4++[s])+sumL _ g.af+0<=1
   rw[iB,jC]
   have e1:sumL (a2E (fun x=>if x=s.own then k0 else cn x) k) g.u4=sumL (a2E cn k) g.u4:=kX _ fun t ht=>Ed (c1 t ht)
   have e2:sumL (ud (fun x=>if x=s.own then k0 else cn x) au k) g.af=sumL (ud cn au k) g.af:=kX _ fun c hc=>JN (c2 c hc)
   have e3:a2E (fun x=>if x=s.own then k0 else cn x) k s=if k0=k then lone s else 0:=by unfold a2E;simp
   have h3:=h.one k
   have h4:(if({}:Cr).zl≠0/\cn ({}:Cr).zl=k then 1 else 0)=0:=if_neg fun h=>h.1 rfl
   rw[e1,e2,e3]
   by_cases e:k0=k
   ·subst e
    have z1:sumL (a2E cn k0) g.u4=0:=by
     rcases Nat.eq_zero_or_pos (sumL (a2E cn k0) g.u4)with h|h
     ·exact h
     ·obtain⟨t,ht,hf⟩:=HU h
      unfold a2E at hf;rw[if_neg (hk0 t ht)]at hf;omega
    have z2:sumL (ud cn au k0) g.af=0:=by
     rcases Nat.eq_zero_or_pos (sumL (ud cn au k0) g.af)with h|h
     ·exact h
     ·obtain⟨c,hc,hf⟩:=HU h
      obtain⟨t,t1,t2,_⟩:=q.nY c hc
      unfold ud at hf;rw[if_neg (fun h=>hk0 t t1 (by rw[t2];exact h.2))]at hf;omega
    have:=NY s
    rw[z1,z2,if_pos rfl];omega
   ·rw[if_neg e];omega
  ·refine⟨(g.u4++[s]).map fun t=>if t.own=s.own then k0 else cn t.own,by simp;omega,fun t ht=>List.mem_map.2 ⟨t,ht,rfl⟩⟩
  ·have:=h.rest
   show sumL (oD au) g.af+sumL nj (g.u4++[s])+0<=20
   rw[iB,jC,h2];omega
 ·obtain⟨h1,h2,h3,h4⟩:=q.uL d hd
  refine⟨h1,h2,?_,h4⟩
  show sumL (fZ d.1) (g.u4++[s])=0
  rw[iB,jC,hp,h3]
theorem GI.JI(q:GI w S D R X g){i:Nat}{s s' n:Sa}(hi:g.u4[i]?=some s)(h3:s.state=3)(hs':pV w S g.bA X.ex s')(hn:pV w S g.bA X.ex n)(e1:s'.own=s.own)(e0:s'.state=3)(e2:s'.follows=s.follows∨s'.follows=n.own)
 (ho:occ n.own g=0) (hb:base w<n.own) (hb':n.own<=base w+g.count) (hf:n.follows=0) (hn3:n.state=3) (hp:∀x,fZ x n=0) (p1:pSa n=0) (p2:nj n=0) (e3:∀x,fZ x s'=fZ x s) (e4:pSa s'=pSa s) (e5:nj s'=nj s)
 (x1:X'.ex=X.ex) (x2:X'.zr=X.zr) (x3:X.zl=0) (x3':X'.zl=0) (x4:X'.zs+1<=X.zs∨X'.zs=0/\g.u4.length<=7) (x5:X'.ze=X.ze+1∨X'.ze=X.ze/\g.u4.length<=7) (hg:s'.pending.gone.length<=D.k) (hg':n.pending.gone.length<=D.k):
 GI w S D R X' (aa.bI g ((g.u4++[n]).set i s')):=by
 have hm:=bC hi
 have hi':(g.u4++[n])[i]?=some s:=by rw[List.getElem?_append_left (bL hi)];exact hi
 have hsum:∀f:Sa->Nat,sumL f ((g.u4++[n]).set i s')+f s=sumL f g.u4+f n+f s':=fun f=>by
  have:=nr (f:=f) hi' s'
  rw[iB,jC]at this;omega
 have hso:∀x,dD x s'=dD x s:=fun x=>by unfold dD;rw[e1,e3]
 have hno:∀x,dD x n=if n.own=x then 1 else 0:=fun x=>by unfold dD;rw[hp x];omega
 have eU:∀x,occ x (aa.bI g ((g.u4++[n]).set i s'))=occ x g+dD x n:=fun x=>by
  have:=hsum (dD x)
  have:=hso x
  show sumL (dD x) ((g.u4++[n]).set i s')+sumL (eU x) g.aW+sumL (gK x) g.af=sumL (dD x) g.u4+sumL (eU x) g.aW+sumL (gK x) g.af+dD x n
  omega
 have hmem:∀t,t∈(g.u4++[n]).set i s'->t=s'∨t∈g.u4∨t=n:=fun t ht=>by
  rcases kH ht with h|h
  ·exact .inl h
  ·exact .inr (by simpa using h)
 have hs'm:s'∈(g.u4++[n]).set i s':=List.mem_of_getElem? (i:=i) (List.getElem?_set_self (bL hi'))
 have hnm:n∈(g.u4++[n]).set i s':=List.mem_of_getElem? (i:=g.u4.length) (by
  rw[List.getElem?_set_ne (by have:=bL hi;omega)];simp)
 have hex:∀(x:Int),(∃t∈g.u4,t.own=x/\3<=t.state)->∃t∈(g.u4++[n]).set i s',t.own=x/\3<=t.state:=fun x ⟨t,a,b,c⟩=>by
  by_cases e:t.own=s.own
  ·obtain rfl:=q.CD a hm e
   exact⟨s',hs'm,by rw[e1];exact b,by omega⟩
  ·obtain⟨j,hj⟩:=List.mem_iff_getElem?.1 a
   refine⟨t,List.mem_of_getElem? (i:=j) ?_,b,c⟩
   rw[List.getElem?_set_ne (by intro h;subst h;rw[hi]at hj;cases hj;exact e rfl),List.getElem?_append_left (bL hj)]
   exact hj
 have nEs:iR s'=1:=by unfold iR;rw[if_neg (by omega)]
 have nEo:iR s=1:=by unfold iR;rw[if_neg (by omega)]
 have nEn:iR n=1:=by unfold iR;rw[if_neg (by omega)]
 have ls:lone s=0:=by unfold lone;rw[if_neg (by omega)]
 have ls':lone s'=0:=by unfold lone;rw[if_neg (by omega)]
 have ln:lone n=0:=by unfold lone;rw[if_neg (by omega)]
 refine{q with u4:=fun t ht=> ?_,lD:=fun x=> ?_,kr:=fun x hx=> ?_,nY:=fun c hc=>hex _ (q.nY c hc),fh:=fun t ht=> ?_,a3V:= ?_,tq:= ?_,jE:= ?_,gone:=fun t ht=>(hmem t ht).elim (fun h=>by rw[h];exact hg) fun h=>h.elim (q.gone t) (fun h=>by rw[h];exact hg'),uL:=fun d hd=> ?_}
 ·rw[x1]
  rcases hmem t ht with rfl|ht|rfl
  ·exact hs'
  ·exact q.u4 t ht
  ·exact hn
 ·rw[eU,hno]
  have:=q.lD x
  split
  ·rename_i e;subst e;omega
  ·omega
 ·rw[eU,hno]at hx
  by_cases e:n.own=x
  ·subst e;exact⟨hb,hb'⟩
  ·rw[if_neg e]at hx;exact q.kr x (by omega)
 ·rcases hmem t ht with rfl|ht|rfl
  ·rcases e2 with e2|e2
   ·rw[e2]
    rcases q.fh s hm with h|h
    ·exact .inl h
    ·exact .inr (hex _ h)
   ·exact .inr ⟨n,hnm,e2.symm,by omega⟩
  ·rcases q.fh t ht with h|h
   ·exact .inl h
   ·exact .inr (hex _ h)
  ·exact .inl hf
 ·show((g.u4++[n]).set i s').length+sumL pSa ((g.u4++[n]).set i s')+X'.zs<=15
  have h1:=hsum pSa
  have h2:=q.a3V
  have h4:sumL pSa g.u4<=g.u4.length:=wz LK
  rw[List.length_set,List.length_append]
  simp only[List.length_cons,List.length_nil]
  rcases x4 with h|⟨h,h'⟩<;>omega
 ·show sumL iR ((g.u4++[n]).set i s')<=8+X'.ze
  have h1:=hsum iR
  have h2:=q.tq
  have h4:sumL iR g.u4<=g.u4.length:=wz Cs
  rcases x5 with h|⟨h,h'⟩<;>omega
 ·obtain⟨cn,au,h⟩:=q.jE
  have c1:∀t∈g.u4,(if t.own=n.own then cn s.own else cn t.own)=cn t.own:=fun t ht=>if_neg (q.yF ho ht)
  have c2:∀c∈g.af,(if c.sa=n.own then cn s.own else cn c.sa)=cn c.sa:=fun c hc=>if_neg (q.a4Q ho hc)
  have c3:(if s'.own=n.own then cn s.own else cn s'.own)=cn s.own:=by rw[e1];split<;>rfl
  refine⟨fun x=>if x=n.own then cn s.own else cn x,au,fun t ht h0=> ?_,fun k=> ?_,?_,?_⟩
  ·rcases hmem t ht with rfl|ht|rfl
   ·rw[c3]
    rcases e2 with e2|e2
    ·rw[e2]at h0⊢
     rw[if_neg (q.Fw ho hb hm)];exact h.Bf s hm h0
    ·rw[e2,if_pos rfl]
   ·rw[c1 t ht,if_neg (q.Fw ho hb ht)];exact h.Bf t ht h0
   ·exact absurd hf h0
  ·show sumL _ ((g.u4++[n]).set i s')+sumL _ g.af+_<=1
   rw[if_neg (fun h=>h.1 x3')]
   have h1:=hsum (a2E (fun x=>if x=n.own then cn s.own else cn x) k)
   have z:∀t:Sa,lone t=0->a2E (fun x=>if x=n.own then cn s.own else cn x) k t=0:=fun t ht=>by unfold a2E;rw[ht];split<;>rfl
   rw[z s ls,z s' ls',z n ln]at h1
   have e6:sumL (a2E (fun x=>if x=n.own then cn s.own else cn x) k) g.u4=sumL (a2E cn k) g.u4:=kX _ fun t ht=>Ed (c1 t ht)
   have e7:sumL (ud (fun x=>if x=n.own then cn s.own else cn x) au k) g.af=sumL (ud cn au k) g.af:=kX _ fun c hc=>JN (c2 c hc)
   have h8:=h.one k
   rw[if_neg (fun h=>h.1 x3)]at h8
   omega
  ·obtain⟨C,k1,k2⟩:=h.EY
   refine⟨C,k1,fun t ht=> ?_⟩
   rcases hmem t ht with rfl|ht|rfl
   ·rw[c3];exact k2 s hm
   ·rw[c1 t ht];exact k2 t ht
   ·rw[if_pos rfl];exact k2 s hm
  ·have h1:=hsum nj
   have:=h.rest
   show sumL (oD au) g.af+sumL nj ((g.u4++[n]).set i s')+X'.zr<=20
   omega
 ·obtain⟨h1,h2,h3,h4⟩:=q.uL d hd
  refine⟨h1,h2,?_,h4⟩
  have h5:=hsum (fZ d.1)
  have:=hp d.1;have:=e3 d.1
  show sumL (fZ d.1) ((g.u4++[n]).set i s')=0
  omega
theorem GI.Ur(q:GI w S D R X g){i:Nat}{s:Sa}(hi:g.u4[i]?=some s)(h2:s.state<=2):GI w S D R X (aa.bI g (g.u4.take i++g.u4.drop (i+1))):=by
 have hsub:=pZ g.u4 i
 have hmem:∀t,t∈g.u4.take i++g.u4.drop (i+1)->t∈g.u4:=fun t=>vX
 have hex:∀(x:Int),(∃t∈g.u4,t.own=x/\3<=t.state)->∃t∈g.u4.take i++g.u4.drop (i+1),t.own=x/\3<=t.state:=fun x ⟨t,a,b,c⟩=>by
  obtain⟨j,hj⟩:=List.mem_iff_getElem?.1 a
  have hne:j≠i:=by intro e;subst e;rw[hi]at hj;cases hj;omega
  refine⟨t,?_,b,c⟩
  rcases Nat.lt_or_gt_of_ne hne with h|h
  ·exact List.mem_append.2 (.inl (List.mem_of_getElem? (i:=j) (by rw[List.getElem?_take];simp[h,hj])))
  ·exact List.mem_append.2 (.inr (List.mem_of_getElem? (i:=j-(i+1)) (by rw[List.getElem?_drop,show i+1+(j-(i+1))=j by omega];exact hj)))
 have eU:∀x,occ x (aa.bI g (g.u4.take i++g.u4.drop (i+1)))<=occ x g:=fun x=>by
  have:=kJ (f:=dD x) hsub
  show sumL (dD x) (g.u4.take i++g.u4.drop (i+1))+sumL (eU x) g.aW+sumL (gK x) g.af<=sumL (dD x) g.u4+sumL (eU x) g.aW+sumL (gK x) g.af
  omega
 refine{q with u4:=fun t ht=>q.u4 t (hmem t ht),lD:=fun x=>by have:=eU x;have:=q.lD x;omega,kr:=fun x hx=>q.kr x (by have:=eU x;omega),nY:=fun c hc=>hex _ (q.nY c hc),fh:=fun t ht=>(q.fh t (hmem t ht)).imp (fun h=>h) (hex _),a3V:= ?_,tq:= ?_,jE:= ?_,gone:=fun t ht=>q.gone t (hmem t ht),uL:=fun d hd=> ?_}
 ·have:=kJ (f:=pSa) hsub;have:=hsub.length_le;have:=q.a3V
  show(g.u4.take i++g.u4.drop (i+1)).length+sumL pSa (g.u4.take i++g.u4.drop (i+1))+X.zs<=15
  omega
 ·have:=kJ (f:=iR) hsub;have:=q.tq
  show sumL iR (g.u4.take i++g.u4.drop (i+1))<=8+X.ze
  omega
 ·obtain⟨cn,au,h⟩:=q.jE
  refine⟨cn,au,fun t ht=>h.Bf t (hmem t ht),fun k=> ?_,?_,?_⟩
  ·have:=kJ (f:=a2E cn k) hsub;have:=h.one k
   show sumL (a2E cn k) (g.u4.take i++g.u4.drop (i+1))+sumL (ud cn au k) g.af+_<=1
   omega
  ·obtain⟨C,k1,k2⟩:=h.EY
   exact⟨C,k1,fun t ht=>k2 t (hmem t ht)⟩
  ·have:=kJ (f:=nj) hsub;have:=h.rest
   show sumL (oD au) g.af+sumL nj (g.u4.take i++g.u4.drop (i+1))+X.zr<=20
   omega
 ·obtain⟨h1,h2,h3,h4⟩:=q.uL d hd
  refine⟨h1,h2,?_,h4⟩
  have:=kJ (f:=fZ d.1) hsub
  show sumL (fZ d.1) (g.u4.take i++g.u4.drop (i+1))=0
  omega
end
end Go.Proofs.YtehbbcdhahnkgaaGreat.Vm
