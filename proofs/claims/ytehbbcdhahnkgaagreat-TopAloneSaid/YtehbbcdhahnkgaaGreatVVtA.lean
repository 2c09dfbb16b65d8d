/- Terms are in a total order: what is sorted is told. -/
import Derived.Test.YtehbbcdhahnkgaaGreatVMDel
import Derived.Shelf.SlSortCmp.Insertion
import Derived.Sort.LotA
set_option linter.all false
set_option maxRecDepth 100000
set_option maxHeartbeats 0
namespace Go.Proofs.YtehbbcdhahnkgaaGreat.Vm
open Go
theorem a3y(o v:Int)(a r:TL)(o' v':Int)(a' r':TL):TL.cmp (.cons o v a r) (.cons o' v' a' r')=bif aF o o' then-1 else bif aF o' o then 1 else bif aF v v' then-1 else bif aF v' v then 1 else bif Nat.blt a.len a'.len then-1 else bif Nat.blt a'.len a.len then 1 else bif aH (a.cmp a') 0 then r.cmp r' else a.cmp a':=rfl
theorem JQ{a b:Nat}(h:¬a<b):Nat.blt a b=false:=by
 cases e:Nat.blt a b with
 |false=>rfl
 |true=>exact absurd (Nat.le_of_ble_eq_true e) h
theorem Ud{a b:Nat}(h:a<b):Nat.blt a b=true:=Nat.ble_eq_true_of_le h
theorem Pc{a b:Int}(h:a<b):aF a b=true:=decide_eq_true h
theorem zP{a b:Int}(h:¬a<b):aF a b=false:=decide_eq_false h
section
variable {o v:Int}{a r:TL}{o' v':Int}{a' r':TL}
theorem a4z(h:o<o'):TL.cmp (.cons o v a r) (.cons o' v' a' r')= -1/\TL.cmp (.cons o' v' a' r') (.cons o v a r)=1:=by
 rw[a3y,a3y,Pc h,zP (by omega)];exact⟨rfl,rfl⟩
theorem H6(h:v<v'):TL.cmp (.cons o v a r) (.cons o v' a' r')= -1/\TL.cmp (.cons o v' a' r') (.cons o v a r)=1:=by
 rw[a3y,a3y,zP (a:=o) (by omega),Pc h,zP (by omega)];exact⟨rfl,rfl⟩
theorem a4y(h:a.len<a'.len):TL.cmp (.cons o v a r) (.cons o v a' r')= -1/\TL.cmp (.cons o v a' r') (.cons o v a r)=1:=by
 rw[a3y,a3y,zP (a:=o) (by omega),zP (a:=v) (by omega),Ud h,JQ (by omega)];exact⟨rfl,rfl⟩
theorem JX(h:a.len=a'.len):TL.cmp (.cons o v a r) (.cons o v a' r')=bif aH (a.cmp a') 0 then r.cmp r' else a.cmp a':=by
 rw[a3y,zP (a:=o) (by omega),zP (a:=v) (by omega),JQ (by omega),JQ (by omega)];rfl
end
theorem yp:∀(x y:TL),x.len=y.len->(x.cmp y= -1/\y.cmp x=1)∨(x=y/\x.cmp y=0/\y.cmp x=0)∨(x.cmp y=1/\y.cmp x= -1)
 | .nil,.nil,_=>.inr (.inl ⟨rfl,rfl,rfl⟩)
 | .nil,.cons ..,h=>by simp[TL.len]at h
 | .cons ..,.nil,h=>by simp[TL.len]at h
 | .cons o v a r,.cons o' v' a' r',h=>by
   have hr:=yp r r' (by simpa [TL.len]using h)
   by_cases h1:o<o'
   ·exact .inl (a4z h1)
   by_cases h2:o'<o
   ·exact .inr (.inr (a4z h2).symm)
   obtain rfl:o=o':=by omega
   by_cases h3:v<v'
   ·exact .inl (H6 h3)
   by_cases h4:v'<v
   ·exact .inr (.inr (H6 h4).symm)
   obtain rfl:v=v':=by omega
   by_cases h5:a.len<a'.len
   ·exact .inl (a4y h5)
   by_cases h6:a'.len<a.len
   ·exact .inr (.inr (a4y h6).symm)
   have h7:a.len=a'.len:=by omega
   rw[JX h7,JX h7.symm]
   rcases yp a a' h7 with⟨q1,q2⟩|⟨rfl,q1,q2⟩|⟨q1,q2⟩
   ·rw[q1,q2];exact .inl ⟨rfl,rfl⟩
   ·rw[q1]
    rcases hr with⟨p1,p2⟩|⟨rfl,p1,p2⟩|⟨p1,p2⟩
    ·exact .inl ⟨p1,p2⟩
    ·exact .inr (.inl ⟨rfl,p1,p2⟩)
    ·exact .inr (.inr ⟨p1,p2⟩)
   ·rw[q1,q2];exact .inr (.inr ⟨rfl,rfl⟩)
theorem PR{o v:Int}{a r:TL}{o' v':Int}{a' r':TL}:TL.cmp (.cons o v a r) (.cons o' v' a' r')= -1↔o<o'∨(o=o'/\(v<v'∨(v=v'/\(a.len<a'.len∨(a.len=a'.len/\(a.cmp a'= -1∨(a=a'/\r.cmp r'= -1))))))):=by
 by_cases h1:o<o'
 ·exact⟨fun _=>.inl h1,fun _=>(a4z h1).1⟩
 by_cases h2:o'<o
 ·rw[(a4z h2).2];exact⟨fun h=>(by cases h),fun h=>by omega⟩
 obtain rfl:o=o':=by omega
 by_cases h3:v<v'
 ·exact⟨fun _=>.inr ⟨rfl,.inl h3⟩,fun _=>(H6 h3).1⟩
 by_cases h4:v'<v
 ·rw[(H6 h4).2];exact⟨fun h=>(by cases h),fun h=>by omega⟩
 obtain rfl:v=v':=by omega
 by_cases h5:a.len<a'.len
 ·exact⟨fun _=>.inr ⟨rfl,.inr ⟨rfl,.inl h5⟩⟩,fun _=>(a4y h5).1⟩
 by_cases h6:a'.len<a.len
 ·rw[(a4y h6).2];exact⟨fun h=>(by cases h),fun h=>by omega⟩
 have h7:a.len=a'.len:=by omega
 rw[JX h7]
 have hs:∀p:Prop,(o<o∨(o=o/\(v<v∨(v=v/\(a.len<a'.len∨(a.len=a'.len/\p))))))↔p:=fun p=>⟨fun h=>by
  rcases h with h|⟨_,h|⟨_,h|⟨_,h⟩⟩⟩
  ·omega
  ·omega
  ·omega
  ·exact h,fun h=>.inr ⟨rfl,.inr ⟨rfl,.inr ⟨h7,h⟩⟩⟩⟩
 rw[hs]
 rcases yp a a' h7 with⟨q1,q2⟩|⟨rfl,q1,q2⟩|⟨q1,q2⟩
 ·rw[q1];exact⟨fun _=>.inl rfl,fun _=>rfl⟩
 ·rw[q1];exact⟨fun h=>.inr ⟨rfl,h⟩,fun h=>h.elim (fun h=>by cases h) fun h=>h.2⟩
 ·rw[q1]
  refine⟨fun h=>(by cases h),fun h=>h.elim (fun h=>by cases h) fun h=> ?_⟩
  obtain⟨rfl,_⟩:=h
  rw[q1]at q2;cases q2
theorem za:∀(x y z:TL),x.cmp y= -1->y.cmp z= -1->x.cmp z= -1
 | .nil,_,_,h,_=>by cases h
 | .cons ..,.nil,_,h,_=>by cases h
 | .cons ..,.cons ..,.nil,_,h=>by cases h
 | .cons o v a r,.cons o1 v1 a1 r1,.cons o2 v2 a2 r2,h,k=>by
   rw[PR]at h k⊢
   have ha:=za a a1 a2
   have hr:=za r r1 r2
   rcases h with h|⟨rfl,h⟩
   ·rcases k with k|⟨rfl,k⟩
    ·left;omega
    ·exact .inl h
   rcases k with k|⟨rfl,k⟩
   ·exact .inl k
   refine .inr ⟨rfl,?_⟩
   rcases h with h|⟨rfl,h⟩
   ·rcases k with k|⟨rfl,k⟩
    ·left;omega
    ·exact .inl h
   rcases k with k|⟨rfl,k⟩
   ·exact .inl k
   refine .inr ⟨rfl,?_⟩
   rcases h with h|⟨e1,h⟩
   ·rcases k with k|⟨e2,k⟩
    ·left;omega
    ·left;omega
   rcases k with k|⟨e2,k⟩
   ·left;omega
   refine .inr ⟨by omega,?_⟩
   rcases h with h|⟨rfl,h⟩
   ·rcases k with k|⟨rfl,k⟩
    ·exact .inl (ha h k)
    ·exact .inl h
   rcases k with k|⟨rfl,k⟩
   ·exact .inl k
   ·exact .inr ⟨rfl,hr h k⟩
abbrev zZ(t:Tm):TL:=.cons t.1 t.2.1 t.2.2 .nil
theorem yZ(t u:Tm):(nW t u= -1/\nW u t=1)∨(t=u/\nW t u=0/\nW u t=0)∨(nW t u=1/\nW u t= -1):=by
 rcases yp (zZ t) (zZ u) rfl with h|⟨h,k⟩|h
 ·exact .inl h
 ·refine .inr (.inl ⟨?_,k⟩)
  obtain⟨o,v,a⟩:=t
  obtain⟨o',v',a'⟩:=u
  injection h with h1 h2 h3
  simp only at h1 h2 h3
  rw[h1,h2,h3]
 ·exact .inr (.inr h)
theorem zM(t u:Tm):gU t u=true↔nW t u= -1:=by
 unfold gU
 rcases yZ t u with⟨h,_⟩|⟨_,h,_⟩|⟨h,_⟩<;>rw[h]<;>decide
theorem Cm(t u:Tm):gU t u=false↔t=u∨nW u t= -1:=by
 unfold gU
 rcases yZ t u with⟨h,k⟩|⟨e,h,k⟩|⟨h,k⟩
 ·rw[h,k];refine⟨fun h=>(by cases h),fun h1=>h1.elim (fun e=> ?_) fun h=>by cases h⟩
  subst e;rw[h]at k;cases k
 ·rw[h];exact⟨fun _=>.inl e,fun _=>rfl⟩
 ·rw[h,k];exact⟨fun _=>.inr rfl,fun _=>rfl⟩
theorem tY:Sort.SWO gU where
 irrefl x:=(Cm x x).2 (.inl rfl)
 trans x y z h k:=(zM x z).2 (za _ _ _ ((zM x y).1 h) ((zM y z).1 k))
 ntrans x y z h k:=by
  rw[Cm]at h k⊢
  rcases h with rfl|h
  ·exact k
  rcases k with rfl|k
  ·exact .inr h
  ·exact .inr (za _ _ _ k h)
theorem L9(t u:Tm)(h:gU t u=false)(k:gU u t=false):t=u:=by
 rw[Cm]at h k
 rcases h with h|h
 ·exact h
 rcases k with k|k
 ·exact k.symm
 ·have:=za _ _ _ h k
  rcases yZ u u with⟨p,q⟩|⟨_,p,_⟩|⟨p,q⟩
  ·rw[p]at q;cases q
  ·have this:nW u u= -1:=this
   rw[p]at this;cases this
  ·rw[p]at q;cases q
theorem J5{l l':List Tm}(hp:l'.Perm l)(hs:l'.Pairwise fun a b=>gU b a=false):l'=l.mergeSort fun a b=> !(gU b a):=by
 refine List.Perm.eq_of_pairwise (le:=fun x y=>(!gU y x)=true) ?_ ?_ ?_ (hp.trans (List.mergeSort_perm _ _).symm)
 ·intro a b _ _ h1 h2
  simp only[Bool.not_eq_true']at h1 h2
  exact L9 a b h2 h1
 ·exact hs.imp fun h=>by simp[h]
 ·refine List.pairwise_mergeSort ?_ ?_ _
  ·intro a b c h1 h2
   simp only[Bool.not_eq_true']at h1 h2⊢
   exact tY.ntrans c b a h2 h1
  ·intro a b
   cases h:gU b a with
   |false=>simp
   |true=>simp[tY.asymmA h]
def EX(t u:Tm):Int:=bif gU t u then-1 else bif gU u t then 1 else 0
theorem DB{L:Nat}(hL:5000<L)(hM:L<=4611686018427387904){t u:Tm}(ht:t.cP)(hu:u.cP):gC L t u=some (EX t u):=by
 unfold gC EX gU
 rw[mz hL hM ht,Option.bind_some]
 cases aF (nW t u) 0 with
 |true=>rfl
 |false=>
  show Option.bind (bq L u t) _=_
  rw[mz hL hM hu,Option.bind_some]
  cases aF (nW u t) 0<;>rfl
theorem Hv(t u:Tm):ltOf EX t u=gU t u:=by
 unfold ltOf EX
 cases h:gU t u with
 |true=>rfl
 |false=>cases h':gU u t<;>rfl
theorem Tl{α:Type}(f:α->Tm):Sort.SWO (ltOf fun x y=>EX (f x) (f y)):=by
 have e:∀x y,ltOf (fun x y=>EX (f x) (f y)) x y=gU (f x) (f y):=fun x y=>Hv (f x) (f y)
 exact⟨fun x=>by rw[e];exact tY.irrefl _,fun x y z=>by rw[e,e,e];exact tY.trans _ _ _,fun x y z=>by rw[e,e,e];exact tY.ntrans _ _ _⟩
theorem zW:∀{l:TL},l.zV=true->l.cP
 | .nil,_=>trivial
 | .cons o v a r,h=>by
   have h:(Nat.ble a.len 5000&&(a.zV&&r.zV))=true:=h
   simp only[Bool.and_eq_true]at h
   exact⟨Nat.le_of_ble_eq_true h.1,zW h.2.1,zW h.2.2⟩
end Go.Proofs.YtehbbcdhahnkgaaGreat.Vm
