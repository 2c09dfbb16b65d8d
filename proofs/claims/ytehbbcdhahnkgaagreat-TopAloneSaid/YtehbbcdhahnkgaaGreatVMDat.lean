/- The value machine and the machine: data, their parts, and lists. -/
import Derived.Test.YtehbbcdhahnkgaaGreatVMRel
set_option linter.all false
set_option maxRecDepth 100000
set_option maxHeartbeats 0
namespace Go.Proofs.YtehbbcdhahnkgaaGreat.Vm
open Go
theorem xq:∀{a b:DT},a.same b=true->a.size=b.size:=by
 intro a
 induction a with
 |ak a b iha ihb=>intro c h;cases c<;>simp[DT.same]at h;simp[DT.size,iha h.1,ihb h.2]
 |_=>intro b h;cases b<;>simp[DT.same]at h<;>rfl
theorem a4L{a b:DT}(h:a.same b=true):a.agg=b.agg:=by
 cases a<;>cases b<;>simp[DT.same]at h<;>rfl
theorem M3{a b:DT}(h:a.same b=true):u5 a=u5 b:=by
 cases a<;>cases b<;>simp[DT.same]at h<;>first|rfl|exact xq h
theorem dG{a b:DT}{x:a.den}{y:b.den}(h:gk a b x=some y):a.same b=true/\HEq x y:=by
 unfold gk at h
 split at h
 ·rename_i hs;simp only[Option.some.injEq]at h;subst h;exact⟨hs,(cast_heq _ _).symm⟩
 ·cases h
theorem yQ{α β:Type}(e:α=β){R:α->List Value->Prop}{R':β->List Value->Prop}(h:∀x y,HEq x y->∀vs,R x vs->R' y vs){xs:List α}{ys:List β}{uss:List (List Value)}(hx:HEq xs ys)(ha:All2 R xs uss):All2 R' ys uss:=by
 subst e
 cases eq_of_heq hx
 exact ha.mono fun x vs=>h x x HEq.rfl vs
theorem Ck{α β:Type}(e:α=β){xs:List α}{ys:List β}(hx:HEq xs ys):xs.length=ys.length:=by
 subst e;cases eq_of_heq hx;rfl
theorem Nh{α β γ δ:Type}(e:α=γ)(e':β=δ){x:α×β}{y:γ×δ}(h:HEq x y):HEq x.1 y.1/\HEq x.2 y.2:=by
 subst e e';cases eq_of_heq h;exact⟨HEq.rfl,HEq.rfl⟩
theorem DT.uu:∀{a b:DT},a.same b=true->a.by=b.by/\a.u8=b.u8:=by
 intro a
 induction a with
 |ak a b iha ihb=>
  intro c h
  cases c<;>simp[DT.same]at h
  exact⟨by simp only[DT.by,(iha h.1).1,(ihb h.2).1],rfl⟩
 |int k=>intro b h;cases b<;>simp[DT.same]at h;cases iX h;exact⟨rfl,rfl⟩
 |_=>intro b h;cases b<;>simp[DT.same]at h<;>exact⟨rfl,rfl⟩
theorem Eb{a b:DT}(h:a.same b=true):lim a=lim b:=by
 cases a<;>cases b<;>simp[DT.same]at h<;>first
  |rfl
  |(simp only[lim,(DT.uu h).1,(DT.uu h).2])
theorem a2O{F:Fz}:∀{a b:DT},a.same b=true->∀{x:a.den} {y:b.den} {vs:List Value},HEq x y->DR F a x vs->DR F b y vs:=by
 intro a
 induction a with
 |bool=>intro b h x y vs hx hd;cases b<;>simp[DT.same]at h;cases eq_of_heq hx;exact hd
 |str=>intro b h x y vs hx hd;cases b<;>simp[DT.same]at h;cases eq_of_heq hx;exact hd
 |unit=>intro b h x y vs hx hd;cases b<;>simp[DT.same]at h;exact hd
 |int k=>intro b h x y vs hx hd;cases b<;>simp[DT.same]at h;cases iX h;cases eq_of_heq hx;exact hd
 |a01 t ih=>
  intro b h x y vs hx ⟨v,h1,h2⟩
  cases b<;>simp[DT.same]at h<;>
  ·have e:=DT.pK h
   simp only[Ck e hx,lim,(DT.uu h).1,(DT.uu h).2]at h2
   exact⟨v,h1,h2.mono (Fz.le_refl _) fun us ⟨uss,e1,e2⟩=>⟨uss,e1,by refine yQ e ?_ hx e2;intro x y hxy vs hv;exact ih h hxy hv⟩⟩
 |bH t ih=>
  intro b h x y vs hx ⟨v,h1,h2⟩
  cases b<;>simp[DT.same]at h<;>
  ·have e:=DT.pK h
   simp only[Ck e hx,lim,(DT.uu h).1,(DT.uu h).2]at h2
   exact⟨v,h1,h2.mono (Fz.le_refl _) fun us ⟨uss,e1,e2⟩=>⟨uss,e1,by refine yQ e ?_ hx e2;intro x y hxy vs hv;exact ih h hxy hv⟩⟩
 |bS=>intro b h x y vs hx hd;cases b<;>simp[DT.same]at h<;>(cases eq_of_heq hx;exact hd)
 |otrees=>intro b h x y vs hx hd;cases b<;>simp[DT.same]at h<;>(cases eq_of_heq hx;exact hd)
 |ak a b iha ihb=>
  intro c h x y vs hx ⟨us,rs,h1,h2,h3⟩
  cases c<;>simp[DT.same]at h
  obtain⟨e1,e2⟩:=Nh (DT.pK h.1) (DT.pK h.2) hx
  exact⟨us,rs,h1,iha h.1 e1 h2,ihb h.2 e2 h3⟩
theorem F6{F:Fz}{a b:DT}(h:a.same b=true){x:a.den}{y:b.den}{vs:List Value}(hx:HEq x y)(hd:LC F a x vs):LC F b y vs:=by
 cases a<;>(try exact hd.elim)<;>cases b<;>simp[DT.same]at h<;>
  first
  |(cases eq_of_heq hx;exact hd)
  |(obtain⟨uss,e1,e2⟩:=hd;exact⟨uss,e1,by refine yQ (DT.pK h) ?_ hx e2;intro x y hxy vs hv;exact a2O h hxy hv⟩)
theorem E8{a b:DT}(h:a.same b=true){x:a.den}{y:b.den}(hx:HEq x y):lenL a x=lenL b y:=by
 cases a<;>cases b<;>simp[DT.same]at h<;>
  first
  |rfl
  |(cases eq_of_heq hx;rfl)
  |exact Ck (DT.pK h) hx
theorem TL.Cj:∀(a b:TL),(a.app b).len=a.len+b.len:=by
 intro a
 induction a with
 |nil=>intro b;simp[TL.app,TL.len]
 |cons o v x r _ ih=>intro b;simp only[TL.app,TL.len,ih];omega
theorem TL.Ea:∀(n:Nat) (a:TL),(a.take n).len=min n a.len:=by
 intro n
 induction n with
 |zero=>intro a;simp[TL.take,TL.len]
 |succ n ih=>intro a;cases a with
  |nil=>simp[TL.take,TL.len]
  |cons o v x r=>simp only[TL.take,TL.len,ih];omega
theorem TL.E9:∀(n:Nat) (a:TL),(a.drop n).len=a.len-n:=by
 intro n
 induction n with
 |zero=>intro a;simp[TL.drop]
 |succ n ih=>intro a;cases a with
  |nil=>simp[TL.drop,TL.len]
  |cons o v x r=>simp only[TL.drop,TL.len,ih];omega
theorem TL.L8:∀(a:TL) (i:Nat) (t:Tm),(a.set i t).len=a.len:=by
 intro a
 induction a with
 |nil=>intro i t;rfl
 |cons o v x r _ ih=>intro i t;cases i with
  |zero=>rfl
  |succ i=>simp only[TL.set,TL.len,ih]
theorem TL.Hu:∀(n:Nat) (t:Tm),(TL.rep n t).len=n
 |0,_=>rfl
 |n+1,t=>by simp only[TL.rep,TL.len,TL.Hu n]
section
variable {F:Fz}
theorem TLR.app:∀{a b:TL} {us vs:List Value},TLR F a us->TLR F b vs->TLR F (a.app b) (us++vs):=by
 intro a
 induction a with
 |nil=>intro b us vs h1 h2;rw[show us=[]from h1];exact h2
 |cons o v x r _ ih=>
  intro b us vs ⟨sl,rest,e,h1,h2,h3,h4⟩ h5
  subst e
  exact⟨sl,rest++vs,rfl,h1,h2,h3,ih h4 h5⟩
theorem TLR.take:∀(n:Nat) {a:TL} {us:List Value},TLR F a us->TLR F (a.take n) (us.take (n*3)):=by
 intro n
 induction n with
 |zero=>intro a us h;simp[TL.take,TLR]
 |succ n ih=>
  intro a us h
  cases a with
  |nil=>rw[show us=[]from h];simp[TL.take,TLR]
  |cons o v x r=>
   obtain⟨sl,rest,e,h1,h2,h3,h4⟩:=h
   subst e
   refine⟨sl,rest.take (n*3),?_,h1,h2,h3,ih h4⟩
   rw[show(n+1)*3=n*3+1+1+1 by omega]
   rfl
theorem TLR.drop:∀(n:Nat) {a:TL} {us:List Value},TLR F a us->TLR F (a.drop n) (us.drop (n*3)):=by
 intro n
 induction n with
 |zero=>intro a us h;simpa [TL.drop]using h
 |succ n ih=>
  intro a us h
  cases a with
  |nil=>rw[show us=[]from h];simp[TL.drop,TLR]
  |cons o v x r=>
   obtain⟨sl,rest,e,h1,h2,h3,h4⟩:=h
   subst e
   rw[show(n+1)*3=n*3+1+1+1 by omega]
   exact ih h4
theorem a3R{t:Tm}{vs:List Value}:DR F TT t vs↔∃sl,vs=[.int .i64 t.1,.int .i64 t.2.1,sl]/\a0p .i64 t.1=true/\a0p .i64 t.2.1=true/\EW F (TLR F t.2.2) 40 t.2.2.len sl:=by
 constructor
 ·rintro⟨us,rs,e,⟨e1,h1⟩,us',rs',e',⟨e2,h2⟩,sl,e3,h3⟩
  subst e e' e1 e2 e3
  exact⟨sl,rfl,h1,h2,h3⟩
 ·rintro⟨sl,e,h1,h2,h3⟩
  subst e
  exact⟨[_],_,rfl,⟨rfl,h1⟩,[_],_,rfl,⟨rfl,h2⟩,sl,rfl,h3⟩
theorem TLR.get:∀{a:TL} {us:List Value} (i:Nat),TLR F a us->i<a.len->DR F TT (a.get i) ((us.drop (i*3)).take 3):=by
 intro a
 induction a with
 |nil=>intro us i _ h;simp[TL.len]at h
 |cons o v x r _ ih=>
  intro us i ⟨sl,rest,e,h1,h2,h3,h4⟩ hi
  subst e
  cases i with
  |zero=>exact a3R.2 ⟨sl,rfl,h1,h2,h3⟩
  |succ i=>
   rw[show(i+1)*3=i*3+1+1+1 by omega]
   exact ih i h4 (by simp only[TL.len]at hi;omega)
theorem TLR.set:∀{a:TL} {us:List Value} (i:Nat) {t:Tm} {vs:List Value},TLR F a us->i<a.len->DR F TT t vs->TLR F (a.set i t) (dO us (i*3) vs):=by
 intro a
 induction a with
 |nil=>intro us i t vs _ h;simp[TL.len]at h
 |cons o v x r _ ih=>
  intro us i t vs ⟨sl,rest,e,h1,h2,h3,h4⟩ hi ht
  subst e
  have hl:vs.length=3:=ht.len
  cases i with
  |zero=>
   obtain⟨sl',e,q1,q2,q3⟩:=a3R.1 ht
   subst e
   exact⟨sl',rest,rfl,q1,q2,q3,h4⟩
  |succ i=>
   refine⟨sl,dO rest (i*3) vs,?_,h1,h2,h3,ih i h4 (by simp only[TL.len]at hi;omega) ht⟩
   unfold dO
   rw[show(i+1)*3=i*3+1+1+1 by omega,hl,show i*3+1+1+1+3=i*3+3+1+1+1 by omega]
   rfl
theorem TLR.rep{t:Tm}{vs:List Value}(ht:DR F TT t vs):∀n,TLR F (TL.rep n t) (List.replicate n vs).flatten
 |0=>rfl
 |n+1=>by
  obtain⟨sl,e,q1,q2,q3⟩:=a3R.1 ht
  subst e
  exact⟨sl,_,by rw[List.replicate_succ,List.flatten_cons];rfl,q1,q2,q3,TLR.rep ht n⟩
theorem M6{vss:List (List Value)}{k:Nat}(h:∀v∈vss,v.length=k):∀(i:Nat) (v:List Value),i<vss.length->v.length=k->(vss.set i v).flatten=dO vss.flatten (i*k) v:=by
 induction vss with
 |nil=>intro i v hi;simp at hi
 |cons u l ih=>
  intro i v hi hv
  have hu:=h u (by simp)
  cases i with
  |zero=>simp[dO,hv,<-hu]
  |succ i=>
   rw[List.set_cons_succ,List.flatten_cons,List.flatten_cons,ih (fun w hw=>h w (by simp[hw])) i v (by simpa using hi) hv]
   unfold dO
   rw[show(i+1)*k=u.length+i*k by rw[hu,Nat.add_mul];omega,List.take_length_add_append,Nat.add_assoc,List.drop_length_add_append]
   simp
theorem All2.DG{t:DT}{xs:List t.den}{uss:List (List Value)}(h:All2 (DR F t) xs uss):∀v∈uss,v.length=t.size:=All2.PY (fun _ _=>DR.len) h
theorem LC.get{t:DT}{x:t.den}{us:List Value}(h:LC F t x us)(i:Nat)(hi:i<lenL t x):DR F (xK t) (AG t x i) ((us.drop (i*u5 t)).take (u5 t)):=by
 have key:∀{t:DT} {x:List t.den} {us:List Value},(∃uss,us=uss.flatten/\All2 (DR F t) x uss)->∀i,i<x.length->DR F t (x.getD i t.zero) ((us.drop (i*t.size)).take t.size):=by
  rintro t x us ⟨uss,e,h⟩ i hi
  subst e
  obtain⟨b,hb,hr⟩:=All2.get i x[i] h (by simp[hi])
  rw[ta h.DG i b hb]
  simpa [List.getD,hi]using hr
 cases t<;>first
  |exact h.elim
  |exact TLR.get i h hi
  |exact key h i hi
theorem LC.set{t:DT}{x:t.den}{us:List Value}(h:LC F t x us)(i:Nat)(hi:i<lenL t x){y:(xK t).den}{vs:List Value}(hy:DR F (xK t) y vs):LC F t (vp t x i y) (dO us (i*u5 t) vs):=by
 have key:∀{t:DT} {x:List t.den} {us:List Value},(∃uss,us=uss.flatten/\All2 (DR F t) x uss)->∀i,i<x.length->∀{y:t.den} {vs:List Value},DR F t y vs->∃uss,dO us (i*t.size) vs=uss.flatten/\All2 (DR F t) (x.set i y) uss:=by
  rintro t x us ⟨uss,e,h⟩ i hi y vs hy
  subst e
  exact⟨uss.set i vs,(M6 h.DG i vs (by rw[<-All2.length h];exact hi) hy.len).symm,All2.set hy i h⟩
 cases t<;>first
  |exact h.elim
  |exact TLR.set i h hi hy
  |exact key h i hi hy
theorem qR{t:DT}(x:t.den)(i:Nat)(y:(xK t).den):lenL t (vp t x i y)=lenL t x:=by
 cases t<;>first|rfl|exact TL.L8 _ _ _|exact List.length_set
theorem LC.cut{t:DT}{x:t.den}{us:List Value}(h:LC F t x us)(l k:Nat):LC F t (a3z t x l k) ((us.take (k*u5 t)).drop (l*u5 t)):=by
 have key:∀{t:DT} {x:List t.den} {us:List Value},(∃uss,us=uss.flatten/\All2 (DR F t) x uss)->∃uss,((us.take (k*t.size)).drop (l*t.size))=uss.flatten/\All2 (DR F t) ((x.take k).drop l) uss:=by
  rintro t x us ⟨uss,e,h⟩
  subst e
  refine⟨(uss.take k).drop l,?_,All2.drop l (All2.take k h)⟩
  rw[C5 (fun v hv=>h.DG v (List.mem_of_mem_take hv)),C6 h.DG]
 cases t<;>first
  |exact h.elim
  |exact TLR.drop l (TLR.take k h)
  |exact key h
theorem pC{t:DT}(ht:t.isL=true)(x:t.den)(l k:Nat):lenL t (a3z t x l k)=min k (lenL t x)-l:=by
 cases t<;>first
  |(show(TL.drop l (TL.take k x)).len=_;rw[TL.E9,TL.Ea];rfl)
  |(show((List.take k x).drop l).length=_;rw[List.length_drop,List.length_take];rfl)
  |cases ht
theorem LC.E4{t:DT}{x y:t.den}{us vs:List Value}(h:LC F t x us)(k:LC F t y vs):LC F t (xM t x y) (us++vs):=by
 cases t<;>first
  |exact h.elim
  |exact TLR.app h k
  |(obtain⟨uss,e,h⟩:=h;obtain⟨vss,e',k⟩:=k;subst e e';exact⟨uss++vss,by simp,All2.append h k⟩)
theorem iw{t:DT}(ht:t.isL=true)(x y:t.den):lenL t (xM t x y)=lenL t x+lenL t y:=by
 cases t<;>first
  |exact TL.Cj _ _
  |exact List.length_append
  |cases ht
theorem LC.fill{t:DT}(ht:t.isL=true){z:(xK t).den}{vs:List Value}(h:DR F (xK t) z vs)(n:Nat):LC F t (Hj t n z) (List.replicate n vs).flatten:=by
 cases t<;>first
  |exact TLR.rep h n
  |exact⟨List.replicate n vs,rfl,All2.replicate h n⟩
  |cases ht
theorem a4j{t:DT}(ht:t.isL=true)(z:(xK t).den)(n:Nat):lenL t (Hj t n z)=n:=by
 cases t<;>first
  |exact TL.Hu _ _
  |exact List.length_replicate
  |cases ht
theorem LC.Ou{t:DT}(ht:t.isL=true):∀{l:List Dt} {uss:List (List Value)} {x:t.den},xN t l=some x->All2 (fun d us=>DR F d.1 d.2 us) l uss->LC F t x uss.flatten/\lenL t x=l.length/\∀u∈uss,u.length=u5 t:=by
 have key:∀{t:DT} {l:List Dt} {uss:List (List Value)} {x:List t.den},l.foldr (fun y r=>r.bind fun r=>(gk y.1 t y.2).map fun z=>z::r) (some [])=some x->All2 (fun d us=>DR F d.1 d.2 us) l uss->All2 (DR F t) x uss:=by
  intro t l
  induction l with
  |nil=>intro uss x h ha;cases uss with
   |nil=>simp at h;subst h;trivial
   |cons _ _=>exact ha.elim
  |cons d l ih=>
   intro uss x h ha
   cases uss with
   |nil=>exact ha.elim
   |cons us uss=>
    rw[List.foldr_cons]at h
    obtain⟨r,h1,h2⟩:=Option.bind_eq_some_iff.1 h
    obtain⟨z,h3,h4⟩:=Option.map_eq_some_iff.1 h2
    subst h4
    obtain⟨hs,hz⟩:=dG h3
    exact⟨a2O hs hz ha.1,ih h1 ha.2⟩
 have keyT:∀{l:List Dt} {uss:List (List Value)} {x:TL},l.foldr (fun y r=>r.bind fun r=>(gk y.1 TT y.2).map fun z=>TL.cons z.1 z.2.1 z.2.2 r) (some TL.nil)=some x->All2 (fun d us=>DR F d.1 d.2 us) l uss->TLR F x uss.flatten/\x.len=l.length/\∀u∈uss,u.length=3:=by
  intro l
  induction l with
  |nil=>intro uss x h ha;cases uss with
   |nil=>simp at h;subst h;exact⟨rfl,rfl,fun u hu=>by simp at hu⟩
   |cons _ _=>exact ha.elim
  |cons d l ih=>
   intro uss x h ha
   cases uss with
   |nil=>exact ha.elim
   |cons us uss=>
    rw[List.foldr_cons]at h
    obtain⟨r,h1,h2⟩:=Option.bind_eq_some_iff.1 h
    obtain⟨z,h3,h4⟩:=Option.map_eq_some_iff.1 h2
    subst h4
    obtain⟨hs,hz⟩:=dG h3
    have hd:=a2O hs hz ha.1
    obtain⟨q1,q2,q3⟩:=ih h1 ha.2
    obtain⟨sl,e,p1,p2,p3⟩:=a3R.1 hd
    subst e
    refine⟨⟨sl,_,rfl,p1,p2,p3,q1⟩,by simp[TL.len,q2],fun u hu=> ?_⟩
    rcases List.mem_cons.1 hu with rfl|hu
    ·rfl
    ·exact q3 u hu
 have dH:∀{t:DT} {l:List Dt} {uss:List (List Value)} {x:List t.den},All2 (DR F t) x uss->All2 (fun d us=>DR F d.1 d.2 us) l uss->(∃u,uss.flatten=u.flatten/\All2 (DR F t) x u)/\x.length=l.length/\∀u∈uss,u.length=t.size:=by
  intro t l uss x h ha
  exact⟨⟨uss,rfl,h⟩,by rw[All2.length h,All2.length ha],h.DG⟩
 intro l uss x h ha
 cases t<;>first
  |exact keyT h ha
  |exact dH (key h ha) ha
  |cases ht
theorem Tk:∀{e:DT} {x:e.den} {off:Nat} {w:DT} {d:Dt} {vs:List Value},subD e x off w=some d->DR F e x vs->d.1.same w=true/\off+d.1.size<=vs.length/\DR F d.1 d.2 ((vs.drop off).take d.1.size):=by
 intro e
 have base:∀{e:DT} {x:e.den} {off:Nat} {w:DT} {d:Dt} {vs:List Value},(bif Nat.beq off 0&&e.same w then some ⟨e,x⟩else none)=some d->DR F e x vs->d.1.same w=true/\off+d.1.size<=vs.length/\DR F d.1 d.2 ((vs.drop off).take d.1.size):=by
  intro e x off w d vs h hd
  cases hb:Nat.beq off 0&&e.same w with
  |false=>rw[hb]at h;cases h
  |true=>
   rw[hb]at h
   simp only[cond_true,Option.some.injEq]at h
   subst h
   rw[Bool.and_eq_true]at hb
   have h0:=Nat.eq_of_beq_eq_true hb.1
   subst h0
   have hl:=hd.len
   exact⟨hb.2,by simp[hl],by simpa [<-hl]using hd⟩
 induction e with
 |ak a b iha ihb=>
  intro x off w d vs h hd
  unfold subD at h
  cases hb:Nat.beq off 0&&(DT.ak a b).same w with
  |true=>exact base (by rw[hb]at h⊢;exact h) hd
  |false=>
   rw[hb]at h
   simp only[cond_false]at h
   obtain⟨us,rs,e,h1,h2⟩:=hd
   subst e
   have hu:=h1.len
   cases hc:Nat.blt off a.size with
   |true=>
    rw[hc]at h
    obtain⟨q1,q2,q3⟩:=iha h h1
    refine⟨q1,by rw[List.length_append];omega,?_⟩
    rw[List.drop_append_of_le_length (by omega),List.take_append_of_le_length (by rw[List.length_drop];omega)]
    exact q3
   |false=>
    rw[hc]at h
    have hge:a.size<=off:=by
     rcases Nat.lt_or_ge off a.size with hh|hh
     ·rw[show Nat.blt off a.size=true from Nat.ble_eq_true_of_le hh]at hc;cases hc
     ·exact hh
    obtain⟨q1,q2,q3⟩:=ihb h h2
    refine⟨q1,by rw[List.length_append];omega,?_⟩
    rw[show off=us.length+(off-a.size) by omega,List.drop_length_add_append]
    exact q3
 |_=>intro x off w d vs h hd;exact base h hd
theorem wh{us rs ys:List Value}{o:Nat}(h:o+ys.length<=us.length):dO (us++rs) o ys=dO us o ys++rs:=by
 unfold dO
 rw[List.take_append_of_le_length (by omega),List.drop_append_of_le_length (by omega)]
 simp
theorem iz{us rs ys:List Value}{o:Nat}:dO (us++rs) (us.length+o) ys=us++dO rs o ys:=by
 unfold dO
 rw[List.take_length_add_append,Nat.add_assoc,List.drop_length_add_append]
 simp
theorem TA:∀{e:DT} {x:e.den} {off:Nat} {y:Dt} {z:e.den} {vs us:List Value},updD e x off y=some z->DR F e x vs->DR F y.1 y.2 us->off+us.length<=vs.length/\DR F e z (dO vs off us):=by
 intro e
 have base:∀{e:DT} {x:e.den} {off:Nat} {y:Dt} {z:e.den} {vs us:List Value},Nat.beq off 0=true->gk y.1 e y.2=some z->DR F e x vs->DR F y.1 y.2 us->off+us.length<=vs.length/\DR F e z (dO vs off us):=by
  intro e x off y z vs us h0 h hd hy
  have h0:=Nat.eq_of_beq_eq_true h0
  subst h0
  obtain⟨hs,hz⟩:=dG h
  have:=xq hs
  have hl:=hd.len
  have hu:=hy.len
  refine⟨by omega,?_⟩
  have e1:dO vs 0 us=us:=by unfold dO;rw[List.take_zero,List.nil_append,List.drop_eq_nil_of_le (by omega),List.append_nil]
  rw[e1]
  exact a2O hs hz hy
 induction e with
 |ak a b iha ihb=>
  intro x off y z vs us h hd hy
  unfold updD at h
  cases hb:Nat.beq off 0&&(DT.ak a b).same y.1 with
  |true=>
   rw[hb]at h
   rw[Bool.and_eq_true]at hb
   exact base hb.1 h hd hy
  |false=>
   rw[hb]at h
   simp only[cond_false]at h
   obtain⟨us',rs,e,h1,h2⟩:=hd
   subst e
   have hu:=h1.len
   cases hc:Nat.blt off a.size with
   |true=>
    rw[hc]at h
    obtain⟨z',q0,e⟩:=Option.map_eq_some_iff.1 (show Option.map _ _=some z from h)
    subst e
    obtain⟨q1,q2⟩:=iha q0 h1 hy
    refine⟨by rw[List.length_append];omega,?_⟩
    rw[wh q1]
    exact⟨_,_,rfl,q2,h2⟩
   |false=>
    rw[hc]at h
    have hge:a.size<=off:=by
     rcases Nat.lt_or_ge off a.size with hh|hh
     ·rw[show Nat.blt off a.size=true from Nat.ble_eq_true_of_le hh]at hc;cases hc
     ·exact hh
    obtain⟨z',q0,e⟩:=Option.map_eq_some_iff.1 (show Option.map _ _=some z from h)
    subst e
    obtain⟨q1,q2⟩:=ihb q0 h2 hy
    refine⟨by rw[List.length_append];omega,?_⟩
    rw[show off=us'.length+(off-a.size) by omega,iz]
    exact⟨_,_,rfl,h1,q2⟩
 |bool=>intro x off y z vs us h;unfold updD at h;cases hb:Nat.beq off 0<;>rw[hb]at h;cases h;exact base hb h
 |str=>intro x off y z vs us h;unfold updD at h;cases hb:Nat.beq off 0<;>rw[hb]at h;cases h;exact base hb h
 |unit=>intro x off y z vs us h;unfold updD at h;cases hb:Nat.beq off 0<;>rw[hb]at h;cases h;exact base hb h
 |int k=>intro x off y z vs us h;unfold updD at h;cases hb:Nat.beq off 0<;>rw[hb]at h;cases h;exact base hb h
 |a01 t=>intro x off y z vs us h;unfold updD at h;cases hb:Nat.beq off 0<;>rw[hb]at h;cases h;exact base hb h
 |bH t=>intro x off y z vs us h;unfold updD at h;cases hb:Nat.beq off 0<;>rw[hb]at h;cases h;exact base hb h
 |bS=>intro x off y z vs us h;unfold updD at h;cases hb:Nat.beq off 0<;>rw[hb]at h;cases h;exact base hb h
 |otrees=>intro x off y z vs us h;unfold updD at h;cases hb:Nat.beq off 0<;>rw[hb]at h;cases h;exact base hb h
end
def fullF(w:World):Fz:=fun b=>match w.heap[b]? with
 |some (.cells arr _ _)=>some arr
 |_=>none
theorem a3D{w:World}{b:Nat}{arr:Array Value}{el:TypeId}{fr:Nat×Nat}(h:w.heap[b]?=some (.cells arr el fr)):fullF w b=some arr:=by
 unfold fullF;rw[h]
theorem Bh{w:World}{b:Nat}{arr:Array Value}(h:fullF w b=some arr):∃el fr,w.heap[b]?=some (.cells arr el fr):=by
 unfold fullF at h
 split at h
 ·cases h;exact⟨_,_,by assumption⟩
 ·cases h
theorem a0d.a4h{ρ:En}{H:Hp}{m:Mp}{w:World}(h:a0d ρ H m w):m.fz.le (fullF w):=fun b arr hb=>by
 obtain⟨el,fr,e⟩:=h.fz b arr hb
 exact a3D e
theorem pP(cz vs post:List Value)(j:Nat)(u:Value)(h:vs[j]?=some u):(cz++vs++post).toArray[cz.length+j]?=some u:=by
 have hj:=(List.getElem?_eq_some_iff.1 h).1
 rw[List.getElem?_toArray,List.append_assoc,List.getElem?_append_right (by omega),Nat.add_sub_cancel_left,List.getElem?_append_left hj]
 exact h
theorem kL.dr{F F':Fz}{w:World}{t:DT}{x:t.den}{v:Value}{B:Option Nat}(ht:t.isL=true)(h:kL F w t x v B)(hF:F.le F')(hb:∀b arr el fr,B=some b->w.heap[b]?=some (.cells arr el fr)->F' b=some arr):DR F' t x [v]:=by
 refine(Av ht).2 ⟨v,rfl,?_⟩
 rcases h with⟨A,h1,h2,h3,h4,h5⟩|⟨b,o,el,c,cz,vs,post,h1,h2,h3,h4,h5,h6,h7,h8⟩
 ·exact⟨A,0,by rw[h4];exact h1,by omega,⟨by omega,by rw[h4,Nat.zero_mul];omega⟩,fun _=>rfl,h2,[],h3.mono hF,fun hp=>by omega⟩
 ·refine⟨_,c,h2,h6,h7,(fun e=>by cases e),(fun p e=>by cases e;rfl),vs,h5.mono hF,fun _=>⟨b,o,_,rfl,hb b _ el _ h1 h3,fun j u hj=> ?_⟩⟩
  rw[<-h4]
  exact pP cz vs post j u hj
theorem uV{F:Fz}{t:DT}{x:t.den}{A A':Option Addr}{n c n' c' lo hi:Nat}(ht:t.isL=true)(h:DR F t x [.slice A n c])(hr:De A n c A' n' c' lo hi (u5 t)):DR F t (a3z t x lo hi) [.slice A' n' c']:=by
 obtain⟨v,e,A1,c1,e1,h1,h2,h3,h4,us,h5,h6⟩:=(Av ht).1 h
 cases e;cases e1
 have hlen:=pC ht x lo hi
 have hn:=hr.len
 have eY:=hr.le
 have hhn:=hr.hn
 have hcap:=hr.cap
 have hnc:=hr.nc
 refine(Av ht).2 ⟨_,rfl,A',c',by rw[hlen,hn];congr 1;omega,by rw[hlen];omega,⟨by omega,Nat.le_trans (Nat.mul_le_mul_right _ (by rw[hlen];omega)) h2.2⟩,hr.nil,hr.spot,_,h5.cut lo hi,fun hp=> ?_⟩
 rw[hlen]at hp
 obtain⟨b,o,e1,e2⟩:=hr.at_ (by omega)
 obtain⟨b',o',arr,q1,q2,q3⟩:=h6 (by omega)
 rw[e1]at q1;cases q1
 refine⟨b,_,arr,e2,q2,fun j u hj=> ?_⟩
 rw[List.getElem?_drop]at hj
 have hl:=h5.len
 have hj2:us[lo*u5 t+j]?=some u:=by
  have:=(List.getElem?_eq_some_iff.1 hj).1
  rw[List.length_take]at this
  rw[List.getElem?_take_of_lt (by omega)]at hj
  exact hj
 rw[Nat.add_assoc]
 exact q3 _ u hj2
theorem F3{F:Fz}{t:DT}{x:t.den}(ht:t.isL=true)(h:xN t []=some x):DR F t x [.slice none 0 0]:=by
 obtain⟨h1,h2,_⟩:=LC.Ou ht (F:=F) (uss:=[]) h trivial
 exact(Av ht).2 ⟨_,rfl,none,0,by rw[h2];rfl,by simp[h2],⟨by omega,by rw[h2,List.length_nil,Nat.zero_mul];omega⟩,fun _=>rfl,(fun p e=>by cases e),[],h1,fun hp=>by rw[h2]at hp;simp at hp⟩
def DD(F:Fz)(w:World):(t:DT)->t.den->List Value->List Nat->Prop
 | .bH t,x,vs,G=>∃v B,vs=[v]/\kL F w (.bH t) x v B/\G=B.toList
 | .otrees,x,vs,G=>∃v B,vs=[v]/\kL F w .otrees x v B/\G=B.toList
 | .ak a b,x,vs,G=>∃us rs G1 G2,vs=us++rs/\G=G1++G2/\DD F w a x.1 us G1/\DD F w b x.2 rs G2
 | .bool,x,vs,G=>DR F .bool x vs/\G=[]
 | .str,x,vs,G=>DR F .str x vs/\G=[]
 | .unit,x,vs,G=>DR F .unit x vs/\G=[]
 | .int k,x,vs,G=>DR F (.int k) x vs/\G=[]
 | .a01 t,x,vs,G=>DR F (.a01 t) x vs/\G=[]
 | .bS,x,vs,G=>DR F .bS x vs/\G=[]
theorem DD.mono{F F':Fz}{w:World}(hF:F.le F'):∀{t:DT} {x:t.den} {vs:List Value} {G:List Nat},DD F w t x vs G->DD F' w t x vs G:=by
 intro t
 induction t with
 |ak a b iha ihb=>intro x vs G ⟨us,rs,G1,G2,h1,h2,h3,h4⟩;exact⟨us,rs,G1,G2,h1,h2,iha h3,ihb h4⟩
 |bH t _=>intro x vs G ⟨v,B,h1,h2,h3⟩;exact⟨v,B,h1,h2.mono hF fun _ _=>rfl,h3⟩
 |otrees=>intro x vs G ⟨v,B,h1,h2,h3⟩;exact⟨v,B,h1,h2.mono hF fun _ _=>rfl,h3⟩
 |_=>intro x vs G h;exact⟨DR.mono hF h.1,h.2⟩
theorem DD.calm{F:Fz}{w:World}:∀{t:DT} {x:t.den} {vs:List Value} {G:List Nat},t.calm=true->DD F w t x vs G->DR F t x vs/\G=[]:=by
 intro t
 induction t with
 |ak a b iha ihb=>
  intro x vs G hc ⟨us,rs,G1,G2,h1,h2,h3,h4⟩
  simp only[DT.calm,Bool.and_eq_true]at hc
  obtain⟨q1,q2⟩:=iha hc.1 h3
  obtain⟨q3,q4⟩:=ihb hc.2 h4
  subst q2 q4
  exact⟨⟨us,rs,h1,q1,q3⟩,h2⟩
 |bH t _=>intro x vs G hc;cases hc
 |otrees=>intro x vs G hc;cases hc
 |_=>intro x vs G _ h;exact h
theorem DD.one{F:Fz}{w:World}:∀{t:DT} {x:t.den} {vs:List Value} {G:List Nat},DD F w t x vs G->vs.length=t.size/\(∀u∈vs,u.oneCell'=true)/\∀b∈G,b<w.heap.size:=by
 intro t
 induction t with
 |ak a b iha ihb=>
  intro x vs G ⟨us,rs,G1,G2,h1,h2,h3,h4⟩
  subst h1 h2
  obtain⟨p1,p2,p3⟩:=iha h3
  obtain⟨q1,q2,q3⟩:=ihb h4
  refine⟨by simp[DT.size,p1,q1],fun u hu=> ?_,fun u hu=> ?_⟩
  ·rcases List.mem_append.1 hu with hu|hu
   ·exact p2 u hu
   ·exact q2 u hu
  ·rcases List.mem_append.1 hu with hu|hu
   ·exact p3 u hu
   ·exact q3 u hu
 |bH t _=>
  intro x vs G ⟨v,B,h1,h2,h3⟩
  subst h1 h3
  refine⟨rfl,fun u hu=> ?_,fun b hb=> ?_⟩
  ·simp at hu;subst hu
   rcases h2 with⟨A,h,_⟩|⟨b,o,el,c,cz,vs,post,_,h,_⟩<;>(subst h;rfl)
  ·cases B with
   |none=>simp at hb
   |some b'=>simp at hb;subst hb;exact h2.lt
 |otrees=>
  intro x vs G ⟨v,B,h1,h2,h3⟩
  subst h1 h3
  refine⟨rfl,fun u hu=> ?_,fun b hb=> ?_⟩
  ·simp at hu;subst hu
   rcases h2 with⟨A,h,_⟩|⟨b,o,el,c,cz,vs,post,_,h,_⟩<;>(subst h;rfl)
  ·cases B with
   |none=>simp at hb
   |some b'=>simp at hb;subst hb;exact h2.lt
 |_=>intro x vs G h;exact⟨h.1.len,h.1.one,fun b hb=>by rw[h.2]at hb;simp at hb⟩
section
variable {α:Type}{S:Sl}{H:Hp}{r:α}
theorem jO{ρ:En}{H:Hp}{m:Mp}{w:World}{id:Nat}{o:Ob}{d:Dt}(h:a0d ρ H m w)(ho:H id=some o)(hd:o.own=some d):a3x m w id d.1 d.2/\o.eJ=true:=by
 have:=h.fe id o ho
 cases o with
 |row t x=>cases hd;exact⟨this,rfl⟩
 |Jn t x i k e=>cases hd;obtain⟨sz,_,_,h⟩:=this;exact⟨h,rfl⟩
 |_=>cases hd
theorem HJ{t:DT}{v:HV}{k:t.den->List Wr->RT α}(ht:t.isL=true)(hr:(rdF true t v k).run S H=some r):∃x,(k x []).run S H=some r/\
 ∀{ρ:En} {m:Mp} {w:World} {val:Value},a0d ρ H m w->den m v=some val->DR (fullF w) t x [val]:=by
 unfold rdF at hr
 split at hr
 ·obtain⟨x,h1,h2⟩:=a07 hr
  exact⟨x,h2,fun{ρ m w val} h hv=>by simp only[den,Option.some.injEq]at hv;subst hv;exact F3 ht h1⟩
 ·obtain⟨x,h1,h2⟩:=a07 hr
  obtain⟨hs,hx⟩:=dG h1
  refine⟨x,h2,fun{ρ m w val} h hv=> ?_⟩
  simp only[den]at hv
  rw[iY]at hv
  exact a2O hs hx (hv.2.2.mono h.a4h)
 ·rename_i id
  obtain⟨o,ho,hr⟩:=dR hr
  split at hr
  ·rename_i u y
   obtain⟨x,h1,h2⟩:=a07 hr
   obtain⟨hs,hx⟩:=dG h1
   refine⟨x,h2,fun{ρ m w val} h hv=> ?_⟩
   simp only[den]at hv
   obtain⟨A,n,c,hp,e⟩:=fP.1 hv
   obtain⟨ht',v',q1,q2⟩:=h.fe id _ ho
   rw[hp]at q1;cases q1;subst e
   exact a2O hs hx (q2.mono h.a4h)
  ·obtain⟨d,hd,hr⟩:=a07 hr
   obtain⟨x,h1,h2⟩:=a07 hr
   obtain⟨hs,hx⟩:=dG h1
   refine⟨x,h2,fun{ρ m w val} h hv=> ?_⟩
   simp only[den]at hv
   obtain⟨A,n,c,hp,e⟩:=fP.1 hv
   obtain⟨⟨ht',v',q1,q2⟩,_⟩:=jO h ho hd
   rw[hp]at q1;cases q1;subst e
   exact a2O hs hx (q2.dr ht' h.a4h fun b arr el fr _ hb=>a3D hb)
 ·rename_i id lo hi sz j
  cases hsz:Nat.beq sz (u5 t)with
  |false=>rw[hsz]at hr;exact aA hr
  |true=>
   rw[hsz]at hr
   have hsz:=Nat.eq_of_beq_eq_true hsz
   subst hsz
   obtain⟨o,ho,hr⟩:=dR (show(RT.ej id _).run S H=some r from hr)
   split at hr
   ·rename_i u y
    obtain⟨x,h1,h2⟩:=a07 hr
    obtain⟨hs,hx⟩:=dG h1
    refine⟨_,h2,fun{ρ m w val} h hv=> ?_⟩
    simp only[den]at hv
    obtain⟨A,n,c,A',n',c',hp,_,hok,e⟩:=fR.1 hv
    obtain⟨ht',v',q1,q2⟩:=h.fe id _ ho
    rw[hp]at q1;cases q1;subst e
    exact uV ht (a2O hs hx (q2.mono h.a4h)) hok
   ·obtain⟨d,hd,hr⟩:=a07 hr
    obtain⟨x,h1,h2⟩:=a07 hr
    obtain⟨hs,hx⟩:=dG h1
    refine⟨_,h2,fun{ρ m w val} h hv=> ?_⟩
    simp only[den]at hv
    obtain⟨A,n,c,A',n',c',hp,_,hok,e⟩:=fR.1 hv
    obtain⟨⟨ht',v',q1,q2⟩,_⟩:=jO h ho hd
    rw[hp]at q1;cases q1;subst e
    exact uV ht (a2O hs hx (q2.dr ht' h.a4h fun b arr el fr _ hb=>a3D hb)) hok
 ·exact aA hr
theorem oW{ws ws':List Wr}{k:List Wr->RT α}(h:(Bm ws ws' k).run S H=some r):jD ws ws'=true/\(k (ws++ws')).run S H=some r:=cE h
theorem yH:∀{t:DT} {cs:List HV} {k:t.den->List Wr->RT α},(rdD true t cs k).run S H=some r->∃x,(k x []).run S H=some r/\
 ∀{ρ:En} {m:Mp} {w:World} {vs:List Value},a0d ρ H m w->denL m cs=some vs->DD (fullF w) w t x vs []:=by
 intro t
 have a01:∀{t:DT} {v:HV} {k:t.den->List Wr->RT α},t.isL=true->(rdF true t v k).run S H=some r->∃x,(k x []).run S H=some r/\
  ∀{ρ:En} {m:Mp} {w:World} {vs:List Value},a0d ρ H m w->denL m [v]=some vs->DR (fullF w) t x vs:=by
  intro t v k ht hr
  obtain⟨x,h1,h2⟩:=HJ ht hr
  refine⟨x,h1,fun{ρ m w vs} h hv=> ?_⟩
  obtain⟨y,ys,e1,e2,e3⟩:=di hv
  simp only[denL,Option.some.injEq]at e2
  subst e2 e3
  exact h2 h e1
 induction t with
 |bool=>
  intro cs k hr
  unfold rdD at hr
  split at hr
  ·exact⟨_,hr,fun{ρ m w vs} h hv=>by simp only[denL,den]at hv;cases hv;exact⟨rfl,rfl⟩⟩
  ·exact aA hr
 |str=>
  intro cs k hr
  unfold rdD at hr
  split at hr
  ·refine⟨_,hr,fun{ρ m w vs} h hv=> ?_⟩
   obtain⟨y,ys,e1,e2,e3⟩:=di hv
   simp only[denL,Option.some.injEq]at e2
   subst e2 e3
   obtain⟨q1,q2⟩:=qd e1
   subst q1
   exact⟨⟨rfl,q2⟩,rfl⟩
  ·exact aA hr
 |unit=>
  intro cs k hr
  unfold rdD at hr
  split at hr
  ·exact⟨_,hr,fun{ρ m w vs} h hv=>by simp only[denL]at hv;cases hv;exact⟨rfl,rfl⟩⟩
  ·exact aA hr
 |int kd=>
  intro cs k hr
  unfold rdD at hr
  split at hr
  ·rename_i kd' x
   cases hb:nI kd kd' with
   |false=>rw[hb]at hr;exact aA hr
   |true=>
    rw[hb]at hr
    cases iX hb
    refine⟨x,hr,fun{ρ m w vs} h hv=> ?_⟩
    obtain⟨y,ys,e1,e2,e3⟩:=di hv
    simp only[denL,Option.some.injEq]at e2
    subst e2 e3
    obtain⟨q1,q2⟩:=eB e1
    subst q1
    exact⟨⟨rfl,q2⟩,rfl⟩
  ·exact aA hr
 |a01 t ih=>
  intro cs k hr
  unfold rdD at hr
  split at hr
  ·obtain⟨x,h1,h2⟩:=a01 rfl hr
   exact⟨x,h1,fun{ρ m w vs} h hv=>⟨h2 h hv,rfl⟩⟩
  ·exact aA hr
 |bS=>
  intro cs k hr
  unfold rdD at hr
  split at hr
  ·obtain⟨x,h1,h2⟩:=a01 rfl hr
   exact⟨x,h1,fun{ρ m w vs} h hv=>⟨h2 h hv,rfl⟩⟩
  ·exact aA hr
 |bH t ih=>
  intro cs k hr
  unfold rdD at hr
  split at hr
  ·exact aA hr
  ·exact aA hr
 |otrees=>
  intro cs k hr
  unfold rdD at hr
  split at hr
  ·exact aA hr
  ·exact aA hr
 |ak a b iha ihb=>
  intro cs k hr
  unfold rdD at hr
  obtain⟨x,h1,h2⟩:=iha hr
  obtain⟨y,h3,h4⟩:=ihb h1
  obtain⟨_,h5⟩:=oW h3
  refine⟨(x,y),h5,fun{ρ m w vs} h hv=> ?_⟩
  refine⟨vs.take a.size,vs.drop a.size,[],[],(List.take_append_drop _ _).symm,rfl,h2 h (l6 _ hv),h4 h (mB _ hv)⟩
end
def qI(H:Hp)(ws:List Wr):Prop:=∀x∈ws,∃id o d,H id=some o/\o.own=some d/\(x=.ej id none∨x=.ej id (some (.fr d.1 d.2)))
theorem qI.nil{H:Hp}:qI H []:=fun x hx=>by simp at hx
theorem qI.app{H:Hp}{l m:List Wr}(h:qI H l)(k:qI H m):qI H (l++m):=fun x hx=>by rcases List.mem_append.1 hx with hx|hx;exact h x hx;exact k x hx
theorem qI.ej{H:Hp}{ws:List Wr}(h:qI H ws):oa ws:=fun x hx=>by
 obtain⟨id,o,d,_,_,e|e⟩:=h x hx
 ·exact⟨id,_,e⟩
 ·exact⟨id,_,e⟩
theorem a4p{v:Option Ob}{id:Nat}:∀{ws:List Wr} {H:Hp},oa ws->(∀x∈ws,x.aG=id->x=.ej id v)->cw H ws id=H id∨cw H ws id=v
 |[],H,_,_=>.inl rfl
 |x::ws,H,ho,h=>by
  rw[my]
  obtain⟨i,o,e⟩:=ho x List.mem_cons_self
  subst e
  rcases a4p (ws:=ws) (H:=xm H (.ej i o)) (fun y hy=>ho y (List.mem_cons_of_mem _ hy)) (fun y hy=>h y (List.mem_cons_of_mem _ hy))with q|q
  ·rw[q]
   by_cases hi:i=id
   ·have e:=h (.ej i o) List.mem_cons_self hi
    simp only[Wr.ej.injEq]at e
    right
    show gW H i o id=v
    rw[e.1,bQ,e.2]
   ·left;show gW H i o id=H id;exact a0h _ _ (Ne.symm hi)
  ·exact .inr q
theorem C3{ws:List Wr}{x:Wr}(h:jD ws [x]=true):∀y∈ws,y.aG=x.aG->isFr y=true/\isFr x=true:=by
 intro y hy e
 have:=List.all_eq_true.1 h y hy
 simp only[List.all_cons,List.all_nil,Bool.and_true,Bool.or_eq_true,Bool.and_eq_true]at this
 rcases this with this|this
 ·rw[e,Nat.beq_refl]at this;cases this
 ·exact this
theorem yx{a b c:List Wr}:jD a (b++c)=(jD a b&&jD a c):=by
 unfold jD
 simp only[List.all_append]
 induction a with
 |nil=>rfl
 |cons x a ih=>simp only[List.all_cons,ih];cases b.all _<;>cases c.all _<;>simp
theorem yl{a b c:List Wr}:jD (a++b) c=(jD a c&&jD b c):=by unfold jD;simp only[List.all_append]
theorem GZ{H:Hp}{ws:List Wr}{id:Nat}(h:qI H ws)(hf:jD ws [.ej id none]=true):cw H ws id=H id:=by
 rcases a4p (v:=none) (id:=id) (H:=H) h.ej (fun x hx e=>by have:=C3 hf x hx e;exact absurd this.2 (by simp[isFr]))with q|q
 ·exact q
 ·rcases a4p (v:=some (.map [])) (id:=id) (H:=H) h.ej (fun x hx e=>by have:=C3 hf x hx e;exact absurd this.2 (by simp[isFr]))with q'|q'
  ·exact q'
  ·rw[q]at q';cases q'
theorem Uc{H:Hp}{ws:List Wr}{id:Nat}{o:Ob}{d:Dt}(h:qI H ws)(ho:H id=some o)(hd:o.own=some d){f:Ob}(hf:jD ws [.ej id (some f)]=true):cw H ws id=H id∨cw H ws id=some (.fr d.1 d.2):=
 a4p h.ej fun x hx e=>by
  have h1:=(C3 hf x hx e).1
  obtain⟨i,o',d',q1,q2,q3|q3⟩:=h x hx
  ·subst q3;simp[isFr]at h1
  ·subst q3
   have e:i=id:=e
   subst e
   rw[ho]at q1;cases q1
   rw[hd]at q2;cases q2
   rfl
theorem a0d.freeze{ρ:En}{H:Hp}{m:Mp}{w:World}{id:Nat}{o:Ob}{d:Dt}(h:a0d ρ H m w)(ho:H id=some o)(hd:o.own=some d):
 ∃m1,m.le m1/\m1.ad=m.ad/\m1.pl=m.pl/\m1.px=m.px/\a0d ρ (gW H id (some (.fr d.1 d.2))) m1 w/\(∀b,m1.fz b≠none->m.fz b=none->m.ad id=some b):=by
 obtain⟨⟨ht,v,hv,hrow⟩,hmine⟩:=jO h ho hd
 have sub:∀i o',gW H id (some (.fr d.1 d.2)) i=some o'->o'.eJ=true->i≠id/\H i=some o':=by
  intro i o' hi hm
  by_cases e:i=id
  ·subst e;rw[bQ]at hi;cases hi;cases hm
  ·rw[a0h _ _ e]at hi;exact⟨e,hi⟩
 have dH:∀m1:Mp,m.le m1->m1.ad=m.ad->m1.pl=m.pl->m1.px=m.px->(∀b arr,m1.fz b=some arr->m.fz b=none->m.ad id=some b/\∃el fr,w.heap[b]?=some (.cells arr el fr))->DR m1.fz d.1 d.2 [v]->
  a0d ρ (gW H id (some (.fr d.1 d.2))) m1 w:=by
  intro m1 eY had hpl hpx hfz hdr
  refine h.step eY h.ff (fun b arr h1 h2=>(hfz b arr h1 h2).2) (fun b arr _=>rfl) (fun b h1 h2=> ?_) (fun i o' hi=> ?_) (fun i j o1 o2 b1 b2 hne hi hj h1 h2 hb1 hb2=> ?_) (fun i o' b hi hm hb=> ?_) (fun i o' b hi hm hb=> ?_)
  ·cases hq:m1.fz b with
   |none=>exact absurd hq h1
   |some arr=>exact h.off id o b ho hmine (hfz b arr hq h2).1
  ·by_cases e:i=id
   ·subst e;rw[bQ]at hi;cases hi;exact⟨ht,v,by rw[hpl];exact hv,hdr⟩
   ·rw[a0h _ _ e]at hi
    exact(h.fe i o' hi).mono eY (fun e=>by rw[had];exact e) fun _ _ _=>rfl
  ·rw[had]at hb1 hb2
   exact h.inj i j o1 o2 b1 b2 hne (sub i o1 hi h1).2 (sub j o2 hj h2).2 h1 h2 hb1 hb2
  ·rw[had]at hb
   exact h.off i o' b (sub i o' hi hm).2 hm hb
  ·rw[had]at hb
   obtain⟨hne,hi⟩:=sub i o' hi hm
   have hn:=h.vy i o' b hi hm hb
   cases hq:m1.fz b with
   |none=>rfl
   |some arr=>exact absurd rfl (h.inj i id o' o b b hne hi ho hm hmine hb (hfz b arr hq hn).1)
 cases hb:m.ad id with
 |none=>
  rw[hb]at hrow
  exact⟨m,Mp.le_refl m,rfl,rfl,rfl,dH m (Mp.le_refl m) rfl rfl rfl (fun b arr h1 h2=>by rw[h1]at h2;cases h2) (hrow.dr ht (Fz.le_refl _) fun b arr el fr e=>by cases e),fun b h1 h2=>absurd h2 h1⟩
 |some b=>
  rw[hb]at hrow
  have hn:=h.vy id o b ho hmine hb
  obtain⟨arr,el,harr⟩:∃arr el,w.heap[b]?=some (.cells arr el (0,0)):=by
   rcases hrow with⟨A,_,_,_,_,e⟩|⟨b',o',el,c,cz,vs,post,h1,_,h3,_⟩
   ·cases e
   ·cases h1;exact⟨_,_,h3⟩
  have eY:m.fz.le (gW m.fz b (some arr)):=xu hn
  have hle':m.le {m with fz:=gW m.fz b (some arr)}:=⟨fun _ _ h=>h,fun _ _ h=>h,fun _ _ h=>h,eY⟩
  have key:∀b' arr',gW m.fz b (some arr) b'=some arr'->m.fz b'=none->b'=b/\arr'=arr:=by
   intro b' arr' h1 h2
   by_cases e:b'=b
   ·subst e;rw[bQ]at h1;cases h1;exact⟨rfl,rfl⟩
   ·rw[a0h _ _ e,h2]at h1;cases h1
  refine⟨_,hle',rfl,rfl,rfl,dH _ hle' rfl rfl rfl (fun b' arr' h1 h2=> ?_) (hrow.dr ht eY fun b' arr' el' fr e hb'=> ?_),fun b' h1 h2=> ?_⟩
  ·obtain⟨e1,e2⟩:=key b' arr' h1 h2
   subst e1 e2
   exact⟨hb,el,_,harr⟩
  ·cases e
   rw[harr]at hb';cases hb'
   exact bQ _ _ _
  ·cases hq:gW m.fz b (some arr) b' with
   |none=>exact absurd hq h1
   |some arr'=>rw[(key b' arr' hq h2).1]
structure mu(ρ:En)(H:Hp)(m:Mp)(G:List Nat):Prop where
 nK:G.Nodup
 eJ:∀b∈G,ρ.eJ b
 fz:∀b∈G,m.fz b=none
 jI:∀b∈G,∀i o,H i=some o->o.eJ=true->m.ad i≠some b
theorem mu.nil{ρ:En}{H:Hp}{m:Mp}:mu ρ H m []:=⟨List.nodup_nil,fun b hb=>by simp at hb,fun b hb=>by simp at hb,fun b hb=>by simp at hb⟩
structure RS(ρ:En)(H:Hp)(m:Mp)(w:World)(ws:List Wr)(m1:Mp):Prop where
 base:a0d ρ H m w
 rep:a0d ρ (cw H ws) m1 w
 FN:qI H ws
 ad:m1.ad=m.ad
 pl:m1.pl=m.pl
 px:m1.px=m.px
 fz:m.fz.le m1.fz
 sub:∀i o,cw H ws i=some o->o.eJ=true->H i=some o
theorem RS.start{ρ:En}{H:Hp}{m:Mp}{w:World}(h:a0d ρ H m w):RS ρ H m w [] m:=⟨h,h,.nil,rfl,rfl,rfl,Fz.le_refl _,fun _ _ h _=>h⟩
theorem RS.le{ρ:En}{H:Hp}{m m1:Mp}{w:World}{ws:List Wr}(h:RS ρ H m w ws m1):m.le m1:=⟨fun _ _ e=>by rw[h.ad];exact e,fun _ _ e=>by rw[h.pl];exact e,fun _ _ e=>by rw[h.px];exact e,h.fz⟩
structure RN(ρ:En)(H:Hp)(m:Mp)(w:World)(ws0:List Wr)(m0:Mp)(ws:List Wr)(m1:Mp)(G:List Nat):Prop where
 rs:RS ρ H m w (ws0++ws) m1
 fz:m0.fz.le m1.fz
 AH:mu ρ (cw H (ws0++ws)) m1 G
 cq:∀b∈G,∃i o,cw H ws0 i=some o/\o.eJ=true/\m.ad i=some b
 new:∀b,m1.fz b≠none->m0.fz b=none->∃i o,cw H ws0 i=some o/\o.eJ=true/\m.ad i=some b
 sub:∀i o,cw H (ws0++ws) i=some o->o.eJ=true->cw H ws0 i=some o
section
variable {α:Type}{S:Sl}{H:Hp}{r:α}
theorem RN.same{ρ:En}{m m0:Mp}{w:World}{ws0:List Wr}(h:RS ρ H m w ws0 m0):RN ρ H m w ws0 m0 [] m0 []:=
 ⟨by simpa using h,Fz.le_refl _,.nil,fun b hb=>by simp at hb,fun b h1 h2=>absurd h2 h1,fun i o hi _=>by simpa using hi⟩
theorem RN.freeze{ρ:En}{m m0:Mp}{w:World}{ws0:List Wr}{id:Nat}{o:Ob}{d:Dt}(h:RS ρ H m w ws0 m0)(ho:H id=some o)(hd:o.own=some d)(hf:jD ws0 [.ej id (some (.fr d.1 d.2))]=true):
 ∃m1,RN ρ H m w ws0 m0 [.ej id (some (.fr d.1 d.2))] m1 []/\∃v,m.pl id=some v/\d.1.isL=true/\DR m1.fz d.1 d.2 [v]:=by
 have happ:cw H (ws0++[.ej id (some (.fr d.1 d.2))])=gW (cw H ws0) id (some (.fr d.1 d.2)):=by rw[a0o];rfl
 have hinv:qI H (ws0++[.ej id (some (.fr d.1 d.2))]):=h.FN.app fun x hx=>by simp at hx;subst hx;exact⟨id,o,d,ho,hd,.inr rfl⟩
 have hsub:∀i o',gW (cw H ws0) id (some (.fr d.1 d.2)) i=some o'->o'.eJ=true->cw H ws0 i=some o':=by
  intro i o' hi hm
  by_cases e:i=id
  ·subst e;rw[bQ]at hi;cases hi;cases hm
  ·rwa[a0h _ _ e]at hi
 rcases Uc h.FN ho hd hf with q|q
 ·obtain⟨m1,h1,h2,h3,h4,h5,h6⟩:=h.rep.freeze (q.trans ho) hd
  have hmine:=(jO h.base ho hd).2
  refine⟨m1,⟨⟨h.base,by rw[happ];exact h5,hinv,h2.trans h.ad,h3.trans h.pl,h4.trans h.px,Fz.le_trans h.fz h1.fz,fun i o' hi hm=>by rw[happ]at hi;exact h.sub i o' (hsub i o' hi hm) hm⟩,h1.fz,.nil,fun b hb=>by simp at hb,fun b hb hn=>⟨id,o,q.trans ho,hmine,by rw[<-h.ad];exact h6 b hb hn⟩,fun i o' hi hm=>by rw[happ]at hi;exact hsub i o' hi hm⟩,?_⟩
  obtain⟨ht,v,q1,q2⟩:=h5.fe id _ (bQ _ _ _)
  exact⟨v,by rw[<-h.pl,<-h3];exact q1,ht,q2⟩
 ·have e:gW (cw H ws0) id (some (.fr d.1 d.2))=cw H ws0:=Tz q
  refine⟨m0,⟨⟨h.base,by rw[happ,e];exact h.rep,hinv,h.ad,h.pl,h.px,h.fz,fun i o' hi hm=>by rw[happ,e]at hi;exact h.sub i o' hi hm⟩,Fz.le_refl _,.nil,fun b hb=>by simp at hb,fun b hb hn=>absurd hn hb,fun i o' hi hm=>by rw[happ,e]at hi;exact hi⟩,?_⟩
  obtain⟨ht,v,q1,q2⟩:=h.rep.fe id _ q
  exact⟨v,by rw[<-h.pl];exact q1,ht,q2⟩
theorem RN.IE{ρ:En}{m m0:Mp}{w:World}{ws0:List Wr}{id:Nat}{o:Ob}{d:Dt}(h:RS ρ H m w ws0 m0)(ho:H id=some o)(hd:o.own=some d)(hf:jD ws0 [.ej id none]=true):
 RN ρ H m w ws0 m0 [.ej id none] m0 (m.ad id).toList/\a3x m0 w id d.1 d.2:=by
 have happ:cw H (ws0++[.ej id none])=gW (cw H ws0) id none:=by rw[a0o];rfl
 have hinv:qI H (ws0++[.ej id none]):=h.FN.app fun x hx=>by simp at hx;subst hx;exact⟨id,o,d,ho,hd,.inl rfl⟩
 have q:=GZ h.FN hf
 obtain⟨hrow,hmine⟩:=jO h.rep (q.trans ho) hd
 have hsub:∀i o',gW (cw H ws0) id none i=some o'->i≠id/\cw H ws0 i=some o':=by
  intro i o' hi
  by_cases e:i=id
  ·subst e;rw[bQ]at hi;cases hi
  ·exact⟨e,by rwa[a0h _ _ e]at hi⟩
 have hG:∀b,b∈(m.ad id).toList->m0.ad id=some b:=fun b hb=>by rw[h.ad];simpa using hb
 refine⟨⟨⟨h.base,by rw[happ];exact h.rep.IE id,hinv,h.ad,h.pl,h.px,h.fz,fun i o' hi hm=>by rw[happ]at hi;exact h.sub i o' (hsub i o' hi).2 hm⟩,Fz.le_refl _,⟨?_,fun b hb=>h.rep.off id o b (q.trans ho) hmine (hG b hb),fun b hb=>h.rep.vy id o b (q.trans ho) hmine (hG b hb),fun b hb i o' hi hm hb'=> ?_⟩,fun b hb=>⟨id,o,q.trans ho,hmine,by simpa using hb⟩,fun b hb hn=>absurd hn hb,fun i o' hi hm=>by rw[happ]at hi;exact(hsub i o' hi).2⟩,hrow⟩
 ·cases m.ad id<;>simp
 ·rw[happ]at hi
  obtain⟨hne,hi⟩:=hsub i o' hi
  exact h.rep.inj i id o' o b b hne hi (q.trans ho) hm hmine hb' (hG b hb) rfl
theorem RN.trans{ρ:En}{m m0 m1 m2:Mp}{w:World}{ws0 ws ws':List Wr}{G G':List Nat}(h:RN ρ H m w ws0 m0 ws m1 G)(k:RN ρ H m w (ws0++ws) m1 ws' m2 G'):RN ρ H m w ws0 m0 (ws++ws') m2 (G++G'):=by
 have e:ws0++(ws++ws')=ws0++ws++ws':=(List.append_assoc _ _ _).symm
 have ff:∀b∈G,m2.fz b=none:=by
  intro b hb
  cases hq:m2.fz b with
  |none=>rfl
  |some arr=>
   obtain⟨i,o,h1,h2,h3⟩:=k.new b (by rw[hq];simp) (h.AH.fz b hb)
   exact absurd (by rw[h.rs.ad];exact h3) (h.AH.jI b hb i o h1 h2)
 refine⟨by rw[e];exact k.rs,Fz.le_trans h.fz k.fz,⟨?_,?_,?_,?_⟩,?_,?_,?_⟩
 ·refine List.nodup_append.2 ⟨h.AH.nK,k.AH.nK,?_⟩
  intro b hb b' hb' e
  subst e
  obtain⟨i,o,h1,h2,h3⟩:=k.cq b hb'
  exact h.AH.jI b hb i o h1 h2 (by rw[h.rs.ad];exact h3)
 ·intro b hb
  rcases List.mem_append.1 hb with hb|hb
  ·exact h.AH.eJ b hb
  ·exact k.AH.eJ b hb
 ·intro b hb
  rcases List.mem_append.1 hb with hb|hb
  ·exact ff b hb
  ·exact k.AH.fz b hb
 ·intro b hb i o hi hm
  rw[e]at hi
  rcases List.mem_append.1 hb with hb|hb
  ·have:=h.AH.jI b hb i o (k.sub i o hi hm) hm
   rwa[k.rs.ad,<-h.rs.ad]
  ·exact k.AH.jI b hb i o hi hm
 ·intro b hb
  rcases List.mem_append.1 hb with hb|hb
  ·exact h.cq b hb
  ·obtain⟨i,o,h1,h2,h3⟩:=k.cq b hb
   exact⟨i,o,h.sub i o h1 h2,h2,h3⟩
 ·intro b hb hn
  cases hq:m1.fz b with
  |none=>
   obtain⟨i,o,h1,h2,h3⟩:=k.new b hb hq
   exact⟨i,o,h.sub i o h1 h2,h2,h3⟩
  |some arr=>exact h.new b (by rw[hq];simp) hn
 ·intro i o hi hm
  rw[e]at hi
  exact h.sub i o (k.sub i o hi hm) hm
theorem HK{t:DT}{v:HV}{k:t.den->List Wr->RT α}(ht:t.isL=true)(hr:(rdF false t v k).run S H=some r):∃x ws,(k x ws).run S H=some r/\
 ∀{ρ:En} {m m0:Mp} {w:World} {ws0:List Wr} {val:Value},RS ρ H m w ws0 m0->jD ws0 ws=true->den m v=some val->∃m1,RN ρ H m w ws0 m0 ws m1 []/\DR m1.fz t x [val]:=by
 unfold rdF at hr
 split at hr
 ·obtain⟨x,h1,h2⟩:=a07 hr
  refine⟨x,_,h2,fun{ρ m m0 w ws0 val} h hf hv=>⟨m0,.same h,?_⟩⟩
  simp only[den,Option.some.injEq]at hv;subst hv;exact F3 ht h1
 ·obtain⟨x,h1,h2⟩:=a07 hr
  obtain⟨hs,hx⟩:=dG h1
  refine⟨x,_,h2,fun{ρ m m0 w ws0 val} h hf hv=>⟨m0,.same h,?_⟩⟩
  simp only[den]at hv
  rw[iY]at hv
  exact a2O hs hx (hv.2.2.mono h.fz)
 ·rename_i id
  obtain⟨o,ho,hr⟩:=dR hr
  split at hr
  ·rename_i u y
   obtain⟨x,h1,h2⟩:=a07 hr
   obtain⟨hs,hx⟩:=dG h1
   refine⟨x,_,h2,fun{ρ m m0 w ws0 val} h hf hv=>⟨m0,.same h,?_⟩⟩
   simp only[den]at hv
   obtain⟨A,n,c,hp,e⟩:=fP.1 hv
   obtain⟨ht',v',q1,q2⟩:=h.base.fe id _ ho
   rw[hp]at q1;cases q1;subst e
   exact a2O hs hx (q2.mono h.fz)
  ·obtain⟨d,hd,hr⟩:=a07 hr
   obtain⟨x,h1,h2⟩:=a07 hr
   obtain⟨hs,hx⟩:=dG h1
   refine⟨x,_,h2,fun{ρ m m0 w ws0 val} h hf hv=> ?_⟩
   simp only[den]at hv
   obtain⟨A,n,c,hp,e⟩:=fP.1 hv
   obtain⟨m1,q1,v',q2,q3,q4⟩:=RN.freeze h ho hd hf
   rw[hp]at q2;cases q2;subst e
   exact⟨m1,q1,a2O hs hx q4⟩
 ·rename_i id lo hi sz j
  cases hsz:Nat.beq sz (u5 t)with
  |false=>rw[hsz]at hr;exact aA hr
  |true=>
   rw[hsz]at hr
   have hsz:=Nat.eq_of_beq_eq_true hsz
   subst hsz
   obtain⟨o,ho,hr⟩:=dR (show(RT.ej id _).run S H=some r from hr)
   split at hr
   ·rename_i u y
    obtain⟨x,h1,h2⟩:=a07 hr
    obtain⟨hs,hx⟩:=dG h1
    refine⟨_,_,h2,fun{ρ m m0 w ws0 val} h hf hv=>⟨m0,.same h,?_⟩⟩
    simp only[den]at hv
    obtain⟨A,n,c,A',n',c',hp,_,hok,e⟩:=fR.1 hv
    obtain⟨ht',v',q1,q2⟩:=h.base.fe id _ ho
    rw[hp]at q1;cases q1;subst e
    exact uV ht (a2O hs hx (q2.mono h.fz)) hok
   ·obtain⟨d,hd,hr⟩:=a07 hr
    obtain⟨x,h1,h2⟩:=a07 hr
    obtain⟨hs,hx⟩:=dG h1
    refine⟨_,_,h2,fun{ρ m m0 w ws0 val} h hf hv=> ?_⟩
    simp only[den]at hv
    obtain⟨A,n,c,A',n',c',hp,_,hok,e⟩:=fR.1 hv
    obtain⟨m1,q1,v',q2,q3,q4⟩:=RN.freeze h ho hd hf
    rw[hp]at q2;cases q2;subst e
    exact⟨m1,q1,uV ht (a2O hs hx q4) hok⟩
 ·exact aA hr
theorem kL.FI{F:Fz}{w:World}{t u:DT}{x:t.den}{y:u.den}{v:Value}{B:Option Nat}(hs:t.same u=true)(hx:HEq x y)(h:kL F w t x v B):kL F w u y v B:=by
 have hl:=E8 hs hx
 rcases h with⟨A,h1,h2,h3,h4,h5⟩|⟨b,o,el,c,cz,vs,post,h1,h2,h3,h4,h5,h6,h7,h8⟩
 ·exact .inl ⟨A,h1,h2,F6 hs hx h3,by rw[<-hl];exact h4,h5⟩
 ·exact .inr ⟨b,o,el,c,cz,vs,post,h1,by rw[<-hl];exact h2,h3,h4,F6 hs hx h5,by rw[<-hl];exact h6,⟨h7.1,by rw[<-hl,<-Eb hs];exact h7.2⟩,by rw[<-M3 hs];exact h8⟩
theorem kL.cut{F:Fz}{w:World}{t:DT}{x:t.den}{A A':Option Addr}{n c n' c' lo hi:Nat}{B:Option Nat}(ht:t.isL=true)(h:kL F w t x (.slice A n c) B)(hr:De A n c A' n' c' lo hi (u5 t)):
 kL F w t (a3z t x lo hi) (.slice A' n' c') (bif Nat.beq c' 0 then none else B):=by
 have hlen:=pC ht x lo hi
 have hn:=hr.len
 have eY:=hr.le
 have hhn:=hr.hn
 have hcap:=hr.cap
 have hnc:=hr.nc
 rcases h with⟨A1,h1,h2,h3,h4,h5⟩|⟨b,o,el,c1,cz,vs,post,h1,h2,h3,h4,h5,h6,h7,h8⟩
 ·cases h1
  have hc0:c'=0:=by omega
  have hn0:n'=0:=by omega
  subst hc0 hn0
  have:=h3.cut lo hi
  exact .inl ⟨A',rfl,hr.spot,by simpa using this,by rw[hlen,h4];omega,by simp⟩
 ·cases h2
  cases hc:Nat.beq c' 0 with
  |true=>
   have hc0:=Nat.eq_of_beq_eq_true hc
   have hn0:n'=0:=by omega
   subst hc0 hn0
   have hz:(vs.take (hi*u5 t)).drop (lo*u5 t)=[]:=by
    rw[List.drop_eq_nil_iff,List.length_take]
    have:hi<=lo:=by omega
    have:=Nat.mul_le_mul_right (u5 t) this
    omega
   have:=h5.cut lo hi
   rw[hz]at this
   exact .inl ⟨A',rfl,hr.spot,this,by rw[hlen];omega,rfl⟩
  |false=>
   have hc0:0<c':=by
    rcases Nat.eq_zero_or_pos c' with e|e
    ·subst e;cases hc
    ·exact e
   obtain⟨b',o',e1,e2⟩:=hr.at_ hc0
   cases e1
   subst h4
   have hl:=h5.len
   have hle1:=Nat.mul_le_mul_right (u5 t) eY
   have hle2:=Nat.mul_le_mul_right (u5 t) hhn
   have hle3:=Nat.mul_le_mul_right (u5 t) hnc
   have hmul:(c-lo)*u5 t=c*u5 t-lo*u5 t:=Nat.sub_mul _ _ _
   refine .inr ⟨b,cz.length+lo*u5 t,el,c',cz++vs.take (lo*u5 t),(vs.take (hi*u5 t)).drop (lo*u5 t),vs.drop (hi*u5 t)++post,h1,?_,?_,?_,h5.cut lo hi,?_,⟨by omega,Nat.le_trans (Nat.mul_le_mul_right _ (by rw[hlen];omega)) h7.2⟩,?_⟩
   ·rw[e2,hlen];congr 1;omega
   ·rw[h3]
    congr 2
    have e1:vs=vs.take (lo*u5 t)++((vs.take (hi*u5 t)).drop (lo*u5 t)++vs.drop (hi*u5 t)):=by
     have:vs.take (lo*u5 t)=(vs.take (hi*u5 t)).take (lo*u5 t):=by rw[List.take_take];congr 1;omega
     rw[this,<-List.append_assoc,List.take_append_drop,List.take_append_drop]
    conv=>lhs;rw[e1]
    simp only[List.append_assoc]
   ·rw[List.length_append,List.length_take];omega
   ·rw[hlen];omega
   ·rw[List.length_drop,List.length_take,List.length_append,List.length_drop,hcap,hmul]
    omega
theorem Gt{B:Option Nat}{c:Bool}:∀b,b∈(bif c then none else B).toList->b∈B.toList:=by
 intro b hb;cases c
 ·exact hb
 ·simp at hb
theorem RN.a0s{ρ:En}{m m0 m1:Mp}{w:World}{ws0 ws:List Wr}{G G':List Nat}(h:RN ρ H m w ws0 m0 ws m1 G)(hs:∀b∈G',b∈G)(hn:G'.Nodup):RN ρ H m w ws0 m0 ws m1 G':=
 ⟨h.rs,h.fz,⟨hn,fun b hb=>h.AH.eJ b (hs b hb),fun b hb=>h.AH.fz b (hs b hb),fun b hb=>h.AH.jI b (hs b hb)⟩,fun b hb=>h.cq b (hs b hb),h.new,h.sub⟩
theorem yI{t:DT}{v:HV}{k:t.den->List Wr->RT α}(ht:t.isL=true)(hr:(rdO t v k).run S H=some r):∃x ws,(k x ws).run S H=some r/\
 ∀{ρ:En} {m m0:Mp} {w:World} {ws0:List Wr} {val:Value},RS ρ H m w ws0 m0->jD ws0 ws=true->den m v=some val->∃m1 B,RN ρ H m w ws0 m0 ws m1 B.toList/\kL m1.fz w t x val B:=by
 unfold rdO at hr
 split at hr
 ·obtain⟨x,h1,h2⟩:=a07 hr
  refine⟨x,_,h2,fun{ρ m m0 w ws0 val} h hf hv=>⟨m0,none,.same h,?_⟩⟩
  simp only[den,Option.some.injEq]at hv;subst hv
  obtain⟨q1,q2,_⟩:=LC.Ou ht (F:=m0.fz) (uss:=[]) h1 trivial
  exact .inl ⟨none,rfl,(fun p e=>by cases e),q1,by rw[q2];rfl,rfl⟩
 ·rename_i id
  obtain⟨o,ho,hr⟩:=dR hr
  obtain⟨d,hd,hr⟩:=a07 hr
  obtain⟨x,h1,h2⟩:=a07 hr
  obtain⟨hs,hx⟩:=dG h1
  refine⟨x,_,h2,fun{ρ m m0 w ws0 val} h hf hv=> ?_⟩
  simp only[den]at hv
  obtain⟨A,n,c,hp,e⟩:=fP.1 hv
  obtain⟨q1,ht',v',q2,q3⟩:=RN.IE h ho hd hf
  rw[h.pl,hp]at q2;cases q2;subst e
  rw[h.ad]at q3
  exact⟨m0,m.ad id,q1,q3.FI hs hx⟩
 ·rename_i id lo hi sz j
  cases hsz:Nat.beq sz (u5 t)with
  |false=>rw[hsz]at hr;exact aA hr
  |true=>
   rw[hsz]at hr
   have hsz:=Nat.eq_of_beq_eq_true hsz
   subst hsz
   obtain⟨o,ho,hr⟩:=dR (show(RT.ej id _).run S H=some r from hr)
   obtain⟨d,hd,hr⟩:=a07 hr
   obtain⟨x,h1,h2⟩:=a07 hr
   obtain⟨hs,hx⟩:=dG h1
   refine⟨_,_,h2,fun{ρ m m0 w ws0 val} h hf hv=> ?_⟩
   simp only[den]at hv
   obtain⟨A,n,c,A',n',c',hp,_,hok,e⟩:=fR.1 hv
   obtain⟨q1,ht',v',q2,q3⟩:=RN.IE h ho hd hf
   rw[h.pl,hp]at q2;cases q2;subst e
   rw[h.ad]at q3
   refine⟨m0,_,q1.a0s Gt ?_,(q3.FI hs hx).cut ht hok⟩
   cases(bif Nat.beq c' 0 then none else m.ad id)<;>simp
 ·exact aA hr
def X6(t:DT)(cs:List HV)(S:Sl)(H:Hp)(x:t.den)(ws:List Wr):Prop:=
    ∀{ρ:En} {m m0:Mp} {w:World} {ws0:List Wr} {vs:List Value},RS ρ H m w ws0 m0->jD ws0 ws=true->denL m cs=some vs->∃m1 G,RN ρ H m w ws0 m0 ws m1 G/\DD m1.fz w t x vs G
theorem ik{m:Mp}{v:HV}{vs:List Value}(h:denL m [v]=some vs):∃y,den m v=some y/\vs=[y]:=by
 obtain⟨y,ys,e1,e2,e3⟩:=di h
 simp only[denL,Option.some.injEq]at e2
 subst e2 e3
 exact⟨y,e1,rfl⟩
theorem um:∀{t:DT} {cs:List HV} {k:t.den->List Wr->RT α},(rdD false t cs k).run S H=some r->∃x ws,(k x ws).run S H=some r/\X6 t cs S H x ws:=by
 intro t
 induction t with
 |bool=>
  intro cs k hr
  unfold rdD at hr
  split at hr
  ·exact⟨_,_,hr,fun{ρ m m0 w ws0 vs} h hf hv=>⟨m0,[],.same h,by simp only[denL,den]at hv;cases hv;exact⟨rfl,rfl⟩⟩⟩
  ·exact aA hr
 |str=>
  intro cs k hr
  unfold rdD at hr
  split at hr
  ·refine⟨_,_,hr,fun{ρ m m0 w ws0 vs} h hf hv=>⟨m0,[],.same h,?_⟩⟩
   obtain⟨y,e1,e2⟩:=ik hv
   subst e2
   obtain⟨q1,q2⟩:=qd e1
   subst q1
   exact⟨⟨rfl,q2⟩,rfl⟩
  ·exact aA hr
 |unit=>
  intro cs k hr
  unfold rdD at hr
  split at hr
  ·exact⟨_,_,hr,fun{ρ m m0 w ws0 vs} h hf hv=>⟨m0,[],.same h,by simp only[denL]at hv;cases hv;exact⟨rfl,rfl⟩⟩⟩
  ·exact aA hr
 |int kd=>
  intro cs k hr
  unfold rdD at hr
  split at hr
  ·rename_i kd' x
   cases hb:nI kd kd' with
   |false=>rw[hb]at hr;exact aA hr
   |true=>
    rw[hb]at hr
    cases iX hb
    refine⟨x,_,hr,fun{ρ m m0 w ws0 vs} h hf hv=>⟨m0,[],.same h,?_⟩⟩
    obtain⟨y,e1,e2⟩:=ik hv
    subst e2
    obtain⟨q1,q2⟩:=eB e1
    subst q1
    exact⟨⟨rfl,q2⟩,rfl⟩
  ·exact aA hr
 |a01 t ih=>
  intro cs k hr
  unfold rdD at hr
  split at hr
  ·obtain⟨x,ws,h1,h2⟩:=HK rfl hr
   refine⟨x,ws,h1,fun{ρ m m0 w ws0 vs} h hf hv=> ?_⟩
   obtain⟨y,e1,e2⟩:=ik hv
   subst e2
   obtain⟨m1,q1,q2⟩:=h2 h hf e1
   exact⟨m1,[],q1,q2,rfl⟩
  ·exact aA hr
 |bS=>
  intro cs k hr
  unfold rdD at hr
  split at hr
  ·obtain⟨x,ws,h1,h2⟩:=HK rfl hr
   refine⟨x,ws,h1,fun{ρ m m0 w ws0 vs} h hf hv=> ?_⟩
   obtain⟨y,e1,e2⟩:=ik hv
   subst e2
   obtain⟨m1,q1,q2⟩:=h2 h hf e1
   exact⟨m1,[],q1,q2,rfl⟩
  ·exact aA hr
 |bH t ih=>
  intro cs k hr
  unfold rdD at hr
  split at hr
  ·obtain⟨x,ws,h1,h2⟩:=yI rfl hr
   refine⟨x,ws,h1,fun{ρ m m0 w ws0 vs} h hf hv=> ?_⟩
   obtain⟨y,e1,e2⟩:=ik hv
   subst e2
   obtain⟨m1,B,q1,q2⟩:=h2 h hf e1
   exact⟨m1,_,q1,y,B,rfl,q2,rfl⟩
  ·exact aA hr
 |otrees=>
  intro cs k hr
  unfold rdD at hr
  split at hr
  ·obtain⟨x,ws,h1,h2⟩:=yI rfl hr
   refine⟨x,ws,h1,fun{ρ m m0 w ws0 vs} h hf hv=> ?_⟩
   obtain⟨y,e1,e2⟩:=ik hv
   subst e2
   obtain⟨m1,B,q1,q2⟩:=h2 h hf e1
   exact⟨m1,_,q1,y,B,rfl,q2,rfl⟩
  ·exact aA hr
 |ak a b iha ihb=>
  intro cs k hr
  unfold rdD at hr
  obtain⟨x,ws,h1,h2⟩:=iha hr
  obtain⟨y,ws',h3,h4⟩:=ihb h1
  obtain⟨hfit,h5⟩:=oW h3
  refine⟨(x,y),ws++ws',h5,fun{ρ m m0 w ws0 vs} h hf hv=> ?_⟩
  rw[yx,Bool.and_eq_true]at hf
  obtain⟨m1,G1,q1,q2⟩:=h2 h hf.1 (l6 a.size hv)
  obtain⟨m2,G2,q3,q4⟩:=h4 q1.rs (by rw[yl,hf.2,hfit];rfl) (mB a.size hv)
  exact⟨m2,G1++G2,q1.trans q3,_,_,G1,G2,(List.take_append_drop _ _).symm,rfl,q2.mono q3.fz,q4⟩
end
theorem uR{m:Mp}{n:Nat}(h:¬m.has n):m.ad n=none:=by
 cases hq:m.ad n with
 |none=>rfl
 |some b=>exact absurd (.inl (by rw[hq];simp)) h
theorem w7{m:Mp}{n:Nat}(h:¬m.has n):m.pl n=none:=by
 cases hq:m.pl n with
 |none=>rfl
 |some b=>exact absurd (.inr (.inl (by rw[hq];simp))) h
theorem Pe{m:Mp}{n:Nat}(h:¬m.has n):m.px n=none:=by
 cases hq:m.px n with
 |none=>rfl
 |some b=>exact absurd (.inr (.inr (by rw[hq];simp))) h
theorem a3O{m:Mp}{n:Nat}{b:Option Nat}{v:Option Value}{i:Nat}(h:(m.set n b v).has i):m.has i∨i=n:=by
 by_cases e:i=n
 ·exact .inr e
 ·left
  rcases h with h|h|h
  ·exact .inl (by simpa [Mp.set,gW,e]using h)
  ·exact .inr (.inl (by simpa [Mp.set,gW,e]using h))
  ·exact .inr (.inr h)
theorem a0d.name{ρ:En}{H:Hp}{m:Mp}{w:World}(h:a0d ρ H m w){n:Nat}(hn:¬m.has n)(v:Value):m.le (m.set n none (some v))/\a0d ρ H (m.set n none (some v)) w:=by
 have eY:=Mp.rK (b:=none) (v:=some v) (uR hn) (w7 hn)
 refine⟨eY,h.Sy eY (fun i=> ?_) rfl⟩
 show gW m.ad n none i=m.ad i
 by_cases e:i=n
 ·subst e;rw[bQ,uR hn]
 ·exact a0h _ _ e
theorem a0d.own{ρ:En}{H:Hp}{m:Mp}{w:World}(h:a0d ρ H m w){n:Nat}(hn:¬m.has n){t:DT}{x:t.den}{v:Value}{B:Option Nat}(ht:t.isL=true)(hr:kL m.fz w t x v B)(hG:mu ρ H m B.toList):
 m.le (m.set n B (some v))/\a0d ρ (gW H n (some (.row t x))) (m.set n B (some v)) w/\∀i o b,gW H n (some (.row t x)) i=some o->o.eJ=true->(m.set n B (some v)).ad i=some b->b∈B.toList∨(H i=some o/\m.ad i=some b):=by
 have eY:=Mp.rK (b:=B) (v:=some v) (uR hn) (w7 hn)
 have at_:∀i o b,gW H n (some (.row t x)) i=some o->(m.set n B (some v)).ad i=some b->(i=n/\b∈B.toList)∨(i≠n/\H i=some o/\m.ad i=some b):=by
  intro i o b h1 h2
  by_cases e:i=n
  ·subst e
   have:gW m.ad i B i=some b:=h2
   rw[bQ]at this
   exact .inl ⟨rfl,by rw[this];simp⟩
  ·rw[a0h _ _ e]at h1
   have:gW m.ad n B i=some b:=h2
   rw[a0h _ _ e]at this
   exact .inr ⟨e,h1,this⟩
 have one:∀b b',b∈B.toList->b'∈B.toList->b=b':=by
  intro b b' h1 h2
  cases B with
  |none=>simp at h1
  |some c=>simp at h1 h2;rw[h1,h2]
 refine⟨eY,?_,fun i o b h1 h2 h3=> ?_⟩
 ·refine h.step eY h.ff (fun b arr h1 h2=>by rw[show m.fz b=some arr from h1]at h2;cases h2) (fun b arr _=>rfl) (fun b h1 h2=>absurd h2 h1) (fun i o hi=> ?_) (fun i j o1 o2 b1 b2 hne hi hj h1 h2 hb1 hb2=> ?_) (fun i o b hi hm hb=> ?_) (fun i o b hi hm hb=> ?_)
  ·by_cases e:i=n
   ·subst e;rw[bQ]at hi;cases hi
    refine⟨ht,v,?_,?_⟩
    ·show gW m.pl i (some v) i=some v;exact bQ _ _ _
    ·show kL m.fz w t x v (gW m.ad i B i);rw[bQ];exact hr
   ·rw[a0h _ _ e]at hi
    exact(h.fe i o hi).mono eY (fun e'=>by show gW m.ad n B i=none;rw[a0h _ _ e];exact e') fun _ _ _=>rfl
  ·rcases at_ i o1 b1 hi hb1 with⟨e1,p1⟩|⟨e1,p1,q1⟩
   ·rcases at_ j o2 b2 hj hb2 with⟨e2,p2⟩|⟨e2,p2,q2⟩
    ·exact absurd (e1.trans e2.symm) hne
    ·intro e;subst e;exact hG.jI b1 p1 j o2 p2 h2 q2
   ·rcases at_ j o2 b2 hj hb2 with⟨e2,p2⟩|⟨e2,p2,q2⟩
    ·intro e;subst e;exact hG.jI b1 p2 i o1 p1 h1 q1
    ·exact h.inj i j o1 o2 b1 b2 hne p1 p2 h1 h2 q1 q2
  ·rcases at_ i o b hi hb with⟨_,p⟩|⟨_,p,q⟩
   ·exact hG.eJ b p
   ·exact h.off i o b p hm q
  ·rcases at_ i o b hi hb with⟨_,p⟩|⟨_,p,q⟩
   ·exact hG.fz b p
   ·exact h.vy i o b p hm q
 ·rcases at_ i o b h1 h3 with⟨_,p⟩|⟨_,p,q⟩
  ·exact .inl p
  ·exact .inr ⟨p,q⟩
theorem ot:∀{t:DT} {x:t.den} {n:Nat},oa (exW t x n):=by
 intro t
 induction t with
 |ak a b iha ihb=>intro x n;exact a3f iha ihb
 |bH t _=>intro x n;exact fQ _ _
 |otrees=>intro x n;exact fQ _ _
 |_=>intro x n;exact jz
theorem mP:∀{t:DT} {x:t.den} {n:Nat},(exC t x n).all HV.one=true:=by
 intro t
 induction t with
 |ak a b iha ihb=>intro x n;simp only[exC,List.all_append,Bool.and_eq_true];exact⟨iha,ihb⟩
 |_=>intro x n;rfl
structure Im(ρ:En)(H:Hp)(m:Mp)(w:World)(t:DT)(x:t.den)(vs:List Value)(G:List Nat)(n:Nat)(m':Mp):Prop where
 le:m.le m'
 fz:m'.fz=m.fz
 cs:denL m' (exC t x n)=some vs
 rep:a0d ρ (cw H (exW t x n)) m' w
 has:∀i,m'.has i->m.has i∨(n<=i/\i<n+t.lists)
 own:∀i o b,cw H (exW t x n) i=some o->o.eJ=true->m'.ad i=some b->b∈G∨(H i=some o/\m.ad i=some b)
theorem mu.app{ρ:En}{H:Hp}{m:Mp}{G G':List Nat}(h:mu ρ H m (G++G')):mu ρ H m G/\mu ρ H m G'/\∀b∈G,b∉G':=by
 obtain⟨h1,h2,h3⟩:=List.nodup_append.1 h.nK
 exact⟨⟨h1,fun b hb=>h.eJ b (by simp[hb]),fun b hb=>h.fz b (by simp[hb]),fun b hb=>h.jI b (by simp[hb])⟩,
  ⟨h2,fun b hb=>h.eJ b (by simp[hb]),fun b hb=>h.fz b (by simp[hb]),fun b hb=>h.jI b (by simp[hb])⟩,fun b hb hb'=>h3 b hb b hb' rfl⟩
theorem a2Y:∀{t:DT} {x:t.den} {vs:List Value} {G:List Nat} {n:Nat} {ρ:En} {H:Hp} {m:Mp} {w:World},a0d ρ H m w->DD m.fz w t x vs G->mu ρ H m G->(∀i,n<=i->i<n+t.lists->¬m.has i)->∃m',Im ρ H m w t x vs G n m':=by
 intro t
 have plain:∀{t:DT} {x:t.den} {vs:List Value} {G:List Nat} {n:Nat} {ρ:En} {H:Hp} {m:Mp} {w:World},a0d ρ H m w->exW t x n=[]->denL m (exC t x n)=some vs->Im ρ H m w t x vs G n m:=by
  intro t x vs G n ρ H m w h hw hd
  exact⟨Mp.le_refl m,rfl,hd,by rw[hw];exact h,fun i hi=>.inl hi,fun i o b hi _ hb=>by rw[hw]at hi;exact .inr ⟨hi,hb⟩⟩
 have a01:∀{t:DT} {x:t.den} {vs:List Value} {G:List Nat} {n:Nat} {ρ:En} {H:Hp} {m:Mp} {w:World},t.isL=true->t.lists=1->exW t x n=[]->exC t x n=[.lv t x n]->a0d ρ H m w->DR m.fz t x vs->(∀i,n<=i->i<n+t.lists->¬m.has i)->∃m',Im ρ H m w t x vs G n m':=by
  intro t x vs G n ρ H m w ht hl hw hc h hd hf
  obtain⟨v,e,_⟩:=(Av ht).1 hd
  subst e
  have hn:¬m.has n:=hf n (Nat.le_refl _) (by omega)
  obtain⟨h1,h2⟩:=h.name hn v
  refine⟨_,h1,rfl,?_,by rw[hw];exact h2,fun i hi=> ?_,fun i o b hi hm hb=> ?_⟩
  ·rw[hc]
   refine cM ?_ rfl
   simp only[den]
   rw[iY]
   exact⟨by show gW m.pl n (some v) n=some v;exact bQ _ _ _,ht,hd⟩
  ·rcases a3O hi with q|q
   ·exact .inl q
   ·exact .inr ⟨by omega,by omega⟩
  ·rw[hw]at hi
   right
   refine⟨hi,?_⟩
   have:gW m.ad n none i=some b:=hb
   by_cases e:i=n
   ·subst e;rw[bQ]at this;cases this
   ·rwa[a0h _ _ e]at this
 have own:∀{t:DT} {x:t.den} {vs:List Value} {G:List Nat} {n:Nat} {ρ:En} {H:Hp} {m:Mp} {w:World},t.isL=true->t.lists=1->exW t x n=[.ej n (some (.row t x))]->exC t x n=[.li n]->a0d ρ H m w->(∃v B,vs=[v]/\kL m.fz w t x v B/\G=B.toList)->mu ρ H m G->(∀i,n<=i->i<n+t.lists->¬m.has i)->∃m',Im ρ H m w t x vs G n m':=by
  rintro t x vs G n ρ H m w ht hl hw hc h ⟨v,B,e1,hr,e2⟩ hG hf
  subst e1 e2
  have hn:¬m.has n:=hf n (Nat.le_refl _) (by omega)
  obtain⟨h1,h2,h3⟩:=h.own hn ht hr hG
  refine⟨_,h1,rfl,?_,by rw[hw];exact h2,fun i hi=> ?_,fun i o b hi hm hb=>by rw[hw]at hi;exact h3 i o b hi hm hb⟩
  ·rw[hc]
   refine cM ?_ rfl
   simp only[den]
   rw[fP]
   rcases hr with⟨A,e,_⟩|⟨b,o,el,c,cz,vs,post,_,e,_⟩
   ·exact⟨A,0,0,by show gW m.pl n (some v) n=_;rw[bQ,e],e⟩
   ·exact⟨_,_,c,by show gW m.pl n (some v) n=_;rw[bQ,e],e⟩
  ·rcases a3O hi with q|q
   ·exact .inl q
   ·exact .inr ⟨by omega,by omega⟩
 induction t with
 |bool=>intro x vs G n ρ H m w h hd hG hf;refine⟨m,plain h rfl ?_⟩;rw[show vs=[.bool x]from hd.1];rfl
 |str=>intro x vs G n ρ H m w h hd hG hf;refine⟨m,plain h rfl ?_⟩;rw[show vs=[.string ⟨x.toArray⟩]from hd.1.1];exact cM (vO hd.1.2) rfl
 |unit=>intro x vs G n ρ H m w h hd hG hf;refine⟨m,plain h rfl ?_⟩;rw[show vs=[]from hd.1];rfl
 |int k=>intro x vs G n ρ H m w h hd hG hf;refine⟨m,plain h rfl ?_⟩;rw[hd.1.1];exact cM (dM hd.1.2) rfl
 |a01 t _=>intro x vs G n ρ H m w h hd hG hf;exact a01 rfl rfl rfl rfl h hd.1 hf
 |bS=>intro x vs G n ρ H m w h hd hG hf;exact a01 rfl rfl rfl rfl h hd.1 hf
 |bH t _=>intro x vs G n ρ H m w h hd hG hf;exact own rfl rfl rfl rfl h hd hG hf
 |otrees=>intro x vs G n ρ H m w h hd hG hf;exact own rfl rfl rfl rfl h hd hG hf
 |ak a b iha ihb=>
  intro x vs G n ρ H m w h ⟨us,rs,G1,G2,e1,e2,h1,h2⟩ hG hf
  subst e1 e2
  obtain⟨g1,g2,g3⟩:=hG.app
  simp only[DT.lists]at hf
  obtain⟨m1,q⟩:=iha (n:=n) h h1 g1 (fun i hi hi'=>hf i hi (by omega))
  have g2':mu ρ (cw H (exW a x.1 n)) m1 G2:=⟨g2.nK,g2.eJ,fun b hb=>by rw[q.fz];exact g2.fz b hb,fun b hb i o hi hm hb'=>by
   rcases q.own i o b hi hm hb' with p|⟨p,p'⟩
   ·exact g3 b p hb
   ·exact g2.jI b hb i o p hm p'⟩
  obtain⟨m2,k⟩:=ihb (n:=n+a.lists) q.rep (by rw[q.fz];exact h2) g2' (fun i hi hi' hh=>by
   rcases q.has i hh with p|p
   ·exact hf i (by omega) (by omega) p
   ·omega)
  have happ:cw H (exW (.ak a b) x n)=cw (cw H (exW a x.1 n)) (exW b x.2 (n+a.lists)):=by
   show cw H (exW a x.1 n++exW b x.2 (n+a.lists))=_
   rw[a0o]
  refine⟨m2,Mp.le_trans q.le k.le,k.fz.trans q.fz,iH (fc k.le q.cs) k.cs,by rw[happ];exact k.rep,fun i hi=> ?_,fun i o b' hi hm hb'=> ?_⟩
  ·rcases k.has i hi with p|p
   ·rcases q.has i p with p|p
    ·exact .inl p
    ·exact .inr ⟨p.1,by simp only[DT.lists];omega⟩
   ·exact .inr ⟨by omega,by simp only[DT.lists];omega⟩
  ·rw[happ]at hi
   rcases k.own i o b' hi hm hb' with p|⟨p,p'⟩
   ·exact .inl (by simp[p])
   ·rcases q.own i o b' p hm p' with p|p
    ·exact .inl (by simp[p])
    ·exact .inr p
def CE(t:DT)(vs:List Value):Value:=if t.agg then .agg vs.toArray else vs.headD undef
theorem yz{m:Mp}{t:DT}{x:t.den}{n:Nat}{vs:List Value}(h:denL m (exC t x n)=some vs):den m (Bj t x n)=some (CE t vs):=by
 have one:∀{v:HV} {vs:List Value},denL m [v]=some vs->den m v=some (vs.headD undef):=by
  intro v vs h
  obtain⟨y,e1,e2⟩:=ik h
  subst e2;exact e1
 cases t<;>first
  |exact one h
  |(simp only[Bj,den];rw[show([]:List HV).all HV.one=true from rfl];simp only[exC,denL]at h⊢;cases h;rfl)
  |(simp only[Bj,den];rw[mP,h];rfl)
def GK(F:Fz)(w:World):(l:List DT)->(tupT l).den->List Value->List Nat->Prop
 |[],_,vals,G=>vals=[]/\G=[]
 |[t],x,vals,G=>∃vs,vals=[CE t vs]/\DD F w t x vs G
 |t::u::l,x,vals,G=>∃vs rest G1 G2,vals=CE t vs::rest/\G=G1++G2/\DD F w t x.1 vs G1/\GK F w (u::l) x.2 rest G2
theorem a48:∀{l:List DT} {x:(tupT l).den} {vals:List Value} {G:List Nat} {n:Nat} {ρ:En} {H:Hp} {m:Mp} {w:World},a0d ρ H m w->GK m.fz w l x vals G->mu ρ H m G->(∀i,n<=i->i<n+(tupT l).lists->¬m.has i)->
 ∃m',m.le m'/\m'.fz=m.fz/\denL m' (O1 l x n)=some vals/\a0d ρ (cw H (exW (tupT l) x n)) m' w/\(∀i,m'.has i->m.has i∨(n<=i/\i<n+(tupT l).lists))/\
  (∀i o b,cw H (exW (tupT l) x n) i=some o->o.eJ=true->m'.ad i=some b->b∈G∨(H i=some o/\m.ad i=some b))
 |[],x,vals,G,n,ρ,H,m,w,h,⟨e1,e2⟩,hG,hf=>by
  subst e1 e2
  exact⟨m,Mp.le_refl m,rfl,rfl,h,fun i hi=>.inl hi,fun i o b hi _ hb=>.inr ⟨hi,hb⟩⟩
 |[t],x,vals,G,n,ρ,H,m,w,h,⟨vs,e1,h1⟩,hG,hf=>by
  subst e1
  obtain⟨m',q⟩:=a2Y h h1 hG hf
  exact⟨m',q.le,q.fz,cM (yz q.cs) rfl,q.rep,q.has,q.own⟩
 |t::u::l,x,vals,G,n,ρ,H,m,w,h,⟨vs,rest,G1,G2,e1,e2,h1,h2⟩,hG,hf=>by
  subst e1 e2
  obtain⟨g1,g2,g3⟩:=hG.app
  simp only[tupT,DT.lists]at hf
  obtain⟨m1,q⟩:=a2Y (n:=n) h h1 g1 (fun i hi hi'=>hf i hi (by omega))
  have g2':mu ρ (cw H (exW t x.1 n)) m1 G2:=⟨g2.nK,g2.eJ,fun b hb=>by rw[q.fz];exact g2.fz b hb,fun b hb i o hi hm hb'=>by
   rcases q.own i o b hi hm hb' with p|⟨p,p'⟩
   ·exact g3 b p hb
   ·exact g2.jI b hb i o p hm p'⟩
  obtain⟨m2,k1,k2,k3,k4,k5,k6⟩:=a48 (l:=u::l) (n:=n+t.lists) q.rep (by rw[q.fz];exact h2) g2' (fun i hi hi' hh=>by
   rcases q.has i hh with p|p
   ·exact hf i (by omega) (by omega) p
   ·omega)
  have happ:cw H (exW (tupT (t::u::l)) x n)=cw (cw H (exW t x.1 n)) (exW (tupT (u::l)) x.2 (n+t.lists)):=by
   show cw H (exW t x.1 n++exW (tupT (u::l)) x.2 (n+t.lists))=_
   rw[a0o]
  refine⟨m2,Mp.le_trans q.le k1,k2.trans q.fz,cM (fO k1 (yz q.cs)) k3,by rw[happ];exact k4,fun i hi=> ?_,fun i o b' hi hm hb'=> ?_⟩
  ·rcases k5 i hi with p|p
   ·rcases q.has i p with p|p
    ·exact .inl p
    ·exact .inr ⟨p.1,by simp only[tupT,DT.lists];omega⟩
   ·exact .inr ⟨by omega,by simp only[tupT,DT.lists];omega⟩
  ·rw[happ]at hi
   rcases k6 i o b' hi hm hb' with p|⟨p,p'⟩
   ·exact .inl (by simp[p])
   ·rcases q.own i o b' p hm p' with p|p
    ·exact .inl (by simp[p])
    ·exact .inr p
theorem tX{m:Mp}{t:DT}{v:HV}{val:Value}(hs:CU t v=true)(h:den m v=some val):denL m v.cells=some val.cells.toList/\val=CE t val.cells.toList:=by
 unfold CU at hs
 unfold CE
 cases v with
 |agg l=>
  simp only at hs
  simp only[den]at h
  split at h
  ·rename_i a ha hb
   cases h
   rw[hs]
   exact⟨by simpa [HV.cells,Value.cells]using hb,by simp[Value.cells]⟩
  ·cases h
 |Ar l=>cases hs
 |_=>
  simp only[Bool.not_eq_true']at hs
  have h1:=A3 h rfl
  rw[hs,h1.2]
  exact⟨cM h rfl,rfl⟩
section
variable {α:Type}{S:Sl}{H:Hp}{r:α}
theorem a4f{ln:Bool}{t:DT}{v:HV}{k:t.den->List Wr->RT α}(h:(W7 ln t v k).run S H=some r):CU t v=true/\(rdD ln t v.cells k).run S H=some r:=cE h
theorem wj:∀{l:List DT} {vs:List HV} {k:(tupT l).den->List Wr->RT α},(rdT false l vs k).run S H=some r->∃x ws,(k x ws).run S H=some r/\
 ∀{ρ:En} {m m0:Mp} {w:World} {ws0:List Wr} {vals:List Value},RS ρ H m w ws0 m0->jD ws0 ws=true->denL m vs=some vals->∃m1 G,RN ρ H m w ws0 m0 ws m1 G/\GK m1.fz w l x vals G
 |[],vs,k,hr=>by
  unfold rdT at hr
  split at hr
  ·exact⟨_,_,hr,fun{ρ m m0 w ws0 vals} h hf hv=>⟨m0,[],.same h,by simp only[denL]at hv;cases hv;exact⟨rfl,rfl⟩⟩⟩
  ·exact aA hr
 |[t],vs,k,hr=>by
  unfold rdT at hr
  split at hr
  ·obtain⟨hs,hr⟩:=a4f hr
   obtain⟨x,ws,h1,h2⟩:=um hr
   refine⟨x,ws,h1,fun{ρ m m0 w ws0 vals} h hf hv=> ?_⟩
   obtain⟨y,e1,e2⟩:=ik hv
   subst e2
   obtain⟨q1,q2⟩:=tX hs e1
   obtain⟨m1,G,p1,p2⟩:=h2 h hf q1
   exact⟨m1,G,p1,_,by rw[<-q2],p2⟩
  ·exact aA hr
 |t::u::l,vs,k,hr=>by
  unfold rdT at hr
  split at hr
  ·obtain⟨hs,hr⟩:=a4f hr
   obtain⟨x,ws,h1,h2⟩:=um hr
   obtain⟨y,ws',h3,h4⟩:=wj h1
   obtain⟨hfit,h5⟩:=oW h3
   refine⟨(x,y),ws++ws',h5,fun{ρ m m0 w ws0 vals} h hf hv=> ?_⟩
   rw[yx,Bool.and_eq_true]at hf
   obtain⟨z,zs,e1,e2,e3⟩:=di hv
   subst e3
   obtain⟨q1,q2⟩:=tX hs e1
   obtain⟨m1,G1,p1,p2⟩:=h2 h hf.1 q1
   obtain⟨m2,G2,p3,p4⟩:=h4 p1.rs (by rw[yl,hf.2,hfit];rfl) e2
   exact⟨m2,G1++G2,p1.trans p3,_,_,G1,G2,by rw[<-q2],rfl,p2.mono p3.fz,p4⟩
  ·exact aA hr
theorem HL:∀{l:List DT} {vs:List HV} {k:(tupT l).den->List Wr->RT α},(rdT true l vs k).run S H=some r->∃x,(k x []).run S H=some r/\
 ∀{ρ:En} {m:Mp} {w:World} {vals:List Value},a0d ρ H m w->denL m vs=some vals->GK (fullF w) w l x vals []
 |[],vs,k,hr=>by
  unfold rdT at hr
  split at hr
  ·exact⟨_,hr,fun{ρ m w vals} h hv=>by simp only[denL]at hv;cases hv;exact⟨rfl,rfl⟩⟩
  ·exact aA hr
 |[t],vs,k,hr=>by
  unfold rdT at hr
  split at hr
  ·obtain⟨hs,hr⟩:=a4f hr
   obtain⟨x,h1,h2⟩:=yH hr
   refine⟨x,h1,fun{ρ m w vals} h hv=> ?_⟩
   obtain⟨y,e1,e2⟩:=ik hv
   subst e2
   obtain⟨q1,q2⟩:=tX hs e1
   exact⟨_,by rw[<-q2],h2 h q1⟩
  ·exact aA hr
 |t::u::l,vs,k,hr=>by
  unfold rdT at hr
  split at hr
  ·obtain⟨hs,hr⟩:=a4f hr
   obtain⟨x,h1,h2⟩:=yH hr
   obtain⟨y,h3,h4⟩:=HL h1
   obtain⟨hfit,h5⟩:=oW h3
   refine⟨(x,y),h5,fun{ρ m w vals} h hv=> ?_⟩
   obtain⟨z,zs,e1,e2,e3⟩:=di hv
   subst e3
   obtain⟨q1,q2⟩:=tX hs e1
   exact⟨_,_,[],[],by rw[<-q2],rfl,h2 h q1,h4 h e2⟩
  ·exact aA hr
end
section
variable {P:Program}{m:Mp}{w:World}
theorem yw{op:BinOp}{e:Option Bool}{g:Bool}{r:HV}(h:eqOp op e=some (g,r)):∃b,e=some b/\((op=.eql/\r=.b b)∨(op=.neq/\r=.b (!b))):=by
 unfold eqOp at h
 split at h
 ·rename_i b;cases h;exact⟨b,rfl,.inl ⟨rfl,rfl⟩⟩
 ·rename_i b;cases h;exact⟨b,rfl,.inr ⟨rfl,rfl⟩⟩
 ·cases h
theorem xG{d:Nat}{i:TypeId}{t:Ty}{vs:List Value}(h:cmpB P d i t=true)(ht:t.isAgg=true)(hl:vs.length=t.size):Value.formed P i (.agg vs.toArray)=true:=by
 cases d with
 |zero=>simp[cmpB]at h
 |succ d=>
  unfold cmpB at h
  split at h<;>simp[Ty.isAgg]at ht<;>rename_i hu
  ·simp only[Bool.and_eq_true]at h
   have h2:=Nat.eq_of_beq_eq_true h.1.1.2
   simp[Value.formed,hu,h2,hl,Ty.size]
  ·simp only[Bool.and_eq_true]at h
   have h2:=Nat.eq_of_beq_eq_true h.1
   simp[Value.formed,hu,h2,hl,Ty.size]
  ·cases h
theorem PK{i:TypeId}{t:Ty}{cs ds:List HV}{vs us:List Value}{xo yo:Operand}(hc:a4x P i t=true)(ht:t.isAgg=true)(h1:fitsT t cs=true)(h2:fitsT t ds=true)(hx:denL m cs=some vs)(hy:denL m ds=some us){b:Bool}(hb:cellsEq cs ds=some b):
 (do eqGuard .eql i xo yo (.agg vs.toArray) (.agg us.toArray);binOp .eql i (.agg vs.toArray) (.agg us.toArray)).run P w=.ok (.bool b) w/\(do eqGuard .neq i xo yo (.agg vs.toArray) (.agg us.toArray);binOp .neq i (.agg vs.toArray) (.agg us.toArray)).run P w=.ok (.bool (!b)) w:=by
 simp only[a4x,Bool.and_eq_true,Bool.not_eq_true']at hc
 obtain⟨⟨c1,c2⟩,c3⟩:=hc
 have k1:=rJ 12 c1 h1 hx
 have k2:=rJ 12 c1 h2 hy
 have l1:vs.length=t.size:=(cH hx).trans (ov h1)
 have l2:us.length=t.size:=(cH hy).trans (ov h2)
 obtain⟨r,hr,hiff⟩:=run_equalIn_deep 9988 12 i c2 w 12 12 (.agg vs.toArray) (.agg us.toArray) _ _ (xG c1 ht l1) (xG c1 ht l2) (by simpa [Value.cells]using k1) (by simpa [Value.cells]using k2)
 have hre:r=b:=by
  rw[Bool.eq_iff_iff,hiff]
  exact(yW hb).symm
 subst hre
 have g:∀op,(eqGuard op i xo yo (.agg vs.toArray) (.agg us.toArray)).run P w=.ok () w:=by
  intro op
  unfold eqGuard
  split<;>simp[c3]
 constructor
 ·rw[Sem.run_bind,g,Result.andThen_ok,run_eql_struct,hr];rfl
 ·rw[Sem.run_bind,g,Result.andThen_ok,run_neq_struct,hr];rfl
theorem DJ(d:Nat){i:TypeId}{ti:TI}{x y:HV}{xv yv:Value}{b:Bool}(hti:xB P i ti)(h:nilEq ti.ty x y=some b)(hx:den m x=some xv)(hy:den m y=some yv):
 (Op.equalIn (d+1) i xv yv).run P w=.ok b w/\(∀op xo yo,(eqGuard op i xo yo xv yv).run P w=.ok () w)/\binOp .eql i xv yv=(do pure (.bool (<-Op.equal i xv yv)))/\binOp .neq i xv yv=(do pure (.bool (!(<-Op.equal i xv yv)))):=by
 have hs:=hti.shape
 unfold nilEq at h
 split at h<;>(first|cases h|skip)<;>rename_i ht<;>rw[ht]at hs<;>simp only[xW]at hs
 all_goals simp only[den]at hx hy
 all_goals (try (split at hx<;>(first|cases hx|skip)))
 all_goals (try (split at hy<;>(first|cases hy|skip)))
 all_goals (try (replace hx:=bif_some hx))
 all_goals (try (replace hy:=bif_some hy))
 all_goals (try cases hx)
 all_goals (try cases hy)
 all_goals
  refine⟨?_,fun op xo yo=> ?_,rfl,rfl⟩
  ·first
    |(simp[Op.equalIn,run_underlying hs];done)
    |(obtain⟨ps,rs,v,hs⟩:=hs;simp[Op.equalIn,run_underlying hs];done)
  ·unfold eqGuard;split<;>simp
theorem IL{i:TypeId}{ti:TI}{x y:HV}{xv yv:Value}{b:Bool}(hti:xB P i ti)(h:nilEq ti.ty x y=some b)(hx:den m x=some xv)(hy:den m y=some yv):
 (Op.equal i xv yv).run P w=.ok b w/\(∀op xo yo,(eqGuard op i xo yo xv yv).run P w=.ok () w)/\binOp .eql i xv yv=(do pure (.bool (<-Op.equal i xv yv)))/\binOp .neq i xv yv=(do pure (.bool (!(<-Op.equal i xv yv)))):=DJ 9999 hti h hx hy
theorem C0{t:TypeId}(d:Nat)(hu:P.underlying t=some .bool)(a b:Bool):(Op.equalIn (d+1) t (.bool a) (.bool b)).run P w=.ok (a==b) w:=by
 simp[Op.equalIn,run_underlying hu]
theorem Fu{t:TypeId}(hu:P.underlying t=some .bool)(a b:Bool):(Op.equal t (.bool a) (.bool b)).run P w=.ok (a==b) w:=C0 9999 hu a b
theorem MO{T:Option TI}{op:BinOp}{t:TypeId}{x y r:HV}{g:Bool}(hgd:g=true){xv yv:Value}{xo yo:Operand}(hT:∀ti,T=some ti->xB P t ti)(hx:den m x=some xv)(hy:den m y=some yv)(h:binH T op x y=some (g,r)):
 Jr P m w r (do eqGuard op t xo yo xv yv;binOp op t xv yv):=by
 unfold binH at h
 split at h
 ·rename_i k a k' b
  obtain⟨rfl,ha⟩:=eB hx
  obtain⟨rfl,hb⟩:=eB hy
  exact MP ha hgd h
 ·rename_i a b
  obtain⟨rfl,_⟩:=qd hx
  obtain⟨rfl,_⟩:=qd hy
  obtain⟨c,h1,h2⟩:=yw h
  simp only[Option.some.injEq]at h1
  subst h1
  have hb:((⟨a.toArray⟩:ByteArray).toList==(⟨b.toArray⟩:ByteArray).toList)=Jk a b:=by
   rw[ByteArray.toList_eq,ByteArray.toList_eq,Bool.eq_iff_iff];simp[Jk]
  rcases h2 with⟨rfl,rfl⟩|⟨rfl,rfl⟩
  ·exact⟨_,by simp only[Sem.run_bind,xL,Result.andThen_ok,binOp,Op.stringOp,hb,Sem.run_pure],rfl⟩
  ·exact⟨_,by simp only[Sem.run_bind,xL,Result.andThen_ok,binOp,Op.stringOp,hb,Sem.run_pure],rfl⟩
 ·split at h
  ·rename_i ti
   have hti:=hT ti rfl
   unfold binT at h
   split at h
   ·rename_i a b _ _
    cases hb:Hs ti.ty<;>rw[hb]at h<;>(try cases h)
    have hs:=hti.shape
    have hty:ti.ty=.bool:=by cases hq:ti.ty<;>rw[hq]at hb<;>first|rfl|cases hb
    rw[hty]at hs
    simp only[xW]at hs
    simp only[den,Option.some.injEq]at hx hy
    subst hx;subst hy
    obtain⟨c,h1,h2⟩:=yw h
    simp only[Option.some.injEq]at h1
    subst h1
    have he:_=Result.ok (UO a b) w:=Fu (w:=w) hs a b
    rcases h2 with⟨rfl,rfl⟩|⟨rfl,rfl⟩
    ·exact⟨_,by simp only[Sem.run_bind,vP,Result.andThen_ok,binOp,he,Sem.run_pure],rfl⟩
    ·exact⟨_,by simp only[Sem.run_bind,vP,Result.andThen_ok,binOp,he,Sem.run_pure],rfl⟩
   ·rename_i a b _ _
    cases hb:(ti.cmp&&ti.ty.isAgg&&fitsT ti.ty a&&fitsT ti.ty b)<;>rw[hb]at h<;>(try cases h)
    simp only[Bool.and_eq_true]at hb
    obtain⟨⟨⟨b1,b2⟩,b3⟩,b4⟩:=hb
    obtain⟨c,h1,h2⟩:=yw h
    simp only[den]at hx hy
    split at hx<;>(try cases hx)
    rename_i vs _ hvs
    split at hy<;>(try cases hy)
    rename_i us _ hus
    obtain⟨e1,e2⟩:=PK (P:=P) (w:=w) (xo:=xo) (yo:=yo) (hti.eqs b1) b2 b3 b4 hvs hus h1
    rcases h2 with⟨rfl,rfl⟩|⟨rfl,rfl⟩
    ·exact⟨_,e1,rfl⟩
    ·exact⟨_,e2,rfl⟩
   ·obtain⟨c,h1,h2⟩:=yw h
    obtain⟨e1,e2,e3,e4⟩:=IL (P:=P) (w:=w) hti h1 hx hy
    rcases h2 with⟨rfl,rfl⟩|⟨rfl,rfl⟩
    ·exact⟨_,by rw[Sem.run_bind,e2,Result.andThen_ok,e3,Sem.run_bind,e1];rfl,rfl⟩
    ·exact⟨_,by rw[Sem.run_bind,e2,Result.andThen_ok,e4,Sem.run_bind,e1];rfl,rfl⟩
  ·cases h
theorem Tx{op:UnOp}{x r:HV}{xv:Value}(hx:den m x=some xv)(h:unH op x=some r):∃z,(Op.unary op xv).run P w=.ok z w/\den m r=some z:=by
 unfold unH at h
 split at h
 ·cases h
  simp only[den,Option.some.injEq]at hx
  subst hx
  exact⟨_,by simp[Op.unary],rfl⟩
 ·rename_i k a
  cases h
  obtain⟨rfl,_⟩:=eB hx
  exact⟨.int k (k.wrap (0-a)),by simp[Op.unary,Op.intArith],dM (kK _ _)⟩
 ·rename_i k a
  cases h
  obtain⟨rfl,_⟩:=eB hx
  refine⟨.int k (Fh k a),?_,dM (kK _ _)⟩
  have e:(bif k.signed then(-1:Int)else k.max)=(if k.signed then-1 else k.max):=by cases k.signed<;>rfl
  unfold Fh
  rw[e]
  simp only[Op.unary]
  rfl
 ·cases h
end
section
variable {P:Program}{Γ:Ctx}{ρ:En}{N:Nat}{S:Sl}{H:Hp}{m:Mp}{a:Act}{w:World}{o:Oper}{U:Nat->Prop}{fresh:Nat}{r:Ws}{Q:Exit->Act->World->Prop}
theorem BB{e:TypeId}{t:Ty}(h:I5 P e t):(isAgg e).run P w=.ok t.isAgg w:=by
 obtain⟨_,_,d,hu,hd⟩:=h
 unfold isAgg
 rw[Sem.run_bind,run_underlying hu w,<-hd]
 cases d<;>simp[TypeDesc.isRow]
theorem gH{e:TypeId}{t:Ty}(h:I5 P e t):(sizeOf e).run P w=.ok t.size w:=by
 obtain⟨h,_⟩:=h
 cases hq:P.info? e with
 |none=>simp[hq]at h
 |some i=>simp[hq]at h;simp[sizeOf,typeInfo,hq,h]
theorem EB{e:TypeId}{t:Ty}{vs:List Value}{off:Nat}(he:I5 P e t)(hl:off+t.size<=vs.length):
 (part e vs.toArray off).run P w=.ok (pk t ((vs.drop off).take t.size)) w:=by
 unfold part
 rw[Sem.run_bind,BB he]
 simp only[Result.andThen_ok]
 unfold pk
 cases ha:t.isAgg with
 |true=>
  simp only[if_true,Sem.run_bind,gH he,Result.andThen_ok,Sem.run_pure]
  congr 2
  apply Array.toList_inj.1
  simp only[Array.toList_extract,List.extract_eq_take_drop]
  rw[Nat.add_sub_cancel_left]
 |false=>
  have hsz:t.size=1:=by cases t<;>first|rfl|cases ha
  simp only[Bool.false_eq_true,if_false]
  have hlt:off<vs.length:=by omega
  rw[List.getElem?_toArray,List.getElem?_eq_getElem hlt]
  simp only[Sem.run_pure,hsz]
  rw[List.drop_eq_getElem_cons hlt]
  rfl
theorem BK.at_{fs:List Field}{off:Nat}{t:Ty}(h:BK P fs off t):∀{k:Nat} {u:Ty},fldTy t k=some u->∃f,fs[k]?=some f/\f.offset=off+jf t k/\I5 P f.type u:=by
 induction h with
 |nil=>intro k u hu;simp[fldTy]at hu
 |cons h1 h2 h3 ih=>
  intro k u hu
  cases k with
  |zero=>simp only[fldTy]at hu;cases hu;exact⟨_,rfl,by simpa [jf]using h1,h2⟩
  |succ k=>
   simp only[fldTy]at hu
   obtain⟨f,h4,h5,h6⟩:=ih hu
   exact⟨f,by simpa using h4,by simp only[jf];omega,h6⟩
theorem zy{t:Ty}{k:Nat}{u:Ty}(h:fldTy t k=some u):∃a b,t=.ak a b:=by
 cases t with
 |ak a b=>exact⟨a,b,rfl⟩
 |_=>simp[fldTy]at h
theorem HE(h:nU ρ N S H m a w)(hU:∀id,m.has id->U id)(hd:∀d,o.dst=some d->d<N){x:Operand}(ho:o.op=.move x∨o.op=.assign x)(hr:(dN x fun v=>eu o v [] fresh).run S H=some r):
 o.wp P a w (a0q ρ N U fresh S H m r) Q:=by
 obtain⟨v,h1,h2⟩:=cU h hr
 exact cV h hU hd (by rcases ho with ho|ho<;>simp[execOp,ho]) h1 h2
theorem O9(h:nU ρ N S H m a w)(hU:∀id,m.has id->U id)(hd:∀d,o.dst=some d->d<N){c x y:Operand}(ho:o.op=.pick c x y)(hr:(dN c (evPick fresh o x y)).run S H=some r):
 o.wp P a w (a0q ρ N U fresh S H m r) Q:=by
 obtain⟨v,h1,h2⟩:=cU h hr
 unfold evPick at h2
 split at h2
 ·rename_i t
  simp only[den,Option.some.injEq]at h1
  rcases vk h2 with⟨e,h2⟩|⟨e,h2⟩
  ·subst e
   obtain⟨v,h3,h4⟩:=cU h h2
   exact cV h hU hd (by simp[execOp,ho,<-h1,asBool]) h3 h4
  ·subst e
   obtain⟨v,h3,h4⟩:=cU h h2
   exact cV h hU hd (by simp[execOp,ho,<-h1,asBool]) h3 h4
 ·exact aA h2
theorem Eo(h:nU ρ N S H m a w)(hU:∀id,m.has id->U id)(hd:∀d,o.dst=some d->d<N){x:Operand}(ho:o.op=.nilCheck x)(hr:(dN x (evNilCheck fresh o)).run S H=some r):
 o.wp P a w (a0q ρ N U fresh S H m r) Q:=by
 obtain⟨v,h1,h2⟩:=cU h hr
 unfold evNilCheck at h2
 split at h2
 ·have h1':=h1
  simp only[den]at h1'
  split at h1'<;>(try cases h1')
  exact cV h hU hd (v:=a.eval x) (by simp only[Option.some.injEq]at h1';simp[execOp,ho,<-h1']) h1 h2
 ·have h1':=h1
  simp only[den]at h1'
  rw[jv]at h1'
  obtain⟨_,b,o',n,c,_,_,e⟩:=h1'
  exact cV h hU hd (v:=a.eval x) (by simp[execOp,ho,e]) h1 h2
 ·have h1':=h1
  simp only[den]at h1'
  split at h1'<;>(try cases h1')
  exact cV h hU hd (v:=a.eval x) (by simp only[Option.some.injEq]at h1';simp[execOp,ho,<-h1']) h1 h2
 ·exact aA h2
theorem Lv(hT:gj P Γ.sj)(h:nU ρ N S H m a w)(hU:∀id,m.has id->U id)(hd:∀d,o.dst=some d->d<N){op:BinOp}{t yt:TypeId}{x y:Operand}(ho:o.op=.binOp op t x y yt)
 (hr:(dN x fun v=>dN y fun u=>er 21 (binH (Γ.sj.get t) op v u) fun r=>yn r.1 21 (eu o r.2 [] fresh)).run S H=some r):o.wp P a w (a0q ρ N U fresh S H m r) Q:=by
 replace hr:=cU h hr
 obtain⟨v,h1,hr⟩:=hr
 replace hr:=cU h hr
 obtain⟨u,h2,hr⟩:=hr
 replace hr:=a07 hr
 obtain⟨⟨g,z⟩,h3,hr⟩:=hr
 obtain⟨hg,hr⟩:=gV hr
 obtain⟨q,h4,h5⟩:=MO (P:=P) (w:=w) (xo:=x) (yo:=y) hg (fun ti hti=>hT t ti hti) h1 h2 h3
 refine cV h hU hd ?_ h5 hr
 simp only[execOp,ho]
 rw[Sem.run_bind,h4]
 rfl
theorem Oa(h:nU ρ N S H m a w)(hU:∀id,m.has id->U id)(hd:∀d,o.dst=some d->d<N){op:UnOp}{t:TypeId}{x:Operand}(ho:o.op=.unOp op t x)
 (hr:(dN x fun v=>er 22 (unH op v) fun r=>eu o r [] fresh).run S H=some r):o.wp P a w (a0q ρ N U fresh S H m r) Q:=by
 replace hr:=cU h hr
 obtain⟨v,h1,hr⟩:=hr
 replace hr:=a07 hr
 obtain⟨z,h3,hr⟩:=hr
 obtain⟨q,h4,h5⟩:=Tx (P:=P) (w:=w) h1 h3
 refine cV h hU hd ?_ h5 hr
 simp only[execOp,ho]
 rw[Sem.run_bind,h4]
 rfl
theorem G8(h:nU ρ N S H m a w)(hU:∀id,m.has id->U id)(hd:∀d,o.dst=some d->d<N){x:Operand}{i:Nat}(ho:o.op=.extract x i)(hr:(dN x (evExtract fresh o i)).run S H=some r):
 o.wp P a w (a0q ρ N U fresh S H m r) Q:=by
 replace hr:=cU h hr
 obtain⟨v,h1,hr⟩:=hr
 unfold evExtract at hr
 split at hr
 ·rename_i l
  replace hr:=a07 hr
  obtain⟨v,h3,hr⟩:=hr
  simp only[den]at h1
  split at h1<;>(try cases h1)
  rename_i vs hvs
  obtain⟨z,h4,h5⟩:=vM hvs i v h3
  simp only[Option.some.injEq]at h1
  refine cV h hU hd ?_ h5 hr
  simp[execOp,ho,<-h1,Instr.extract,h4]
 ·exact aA hr
theorem Em(h:nU ρ N S H m a w)(hU:∀id,m.has id->U id)(hd:∀d,o.dst=some d->d<N){fn:Fn}{fs cs:Array Operand}(ho:o.op=.makeFunc fn fs cs)(hr:(evFunc fresh o fs cs fn).run S H=some r):
 o.wp P a w (a0q ρ N U fresh S H m r) Q:=by
 unfold evFunc at hr
 split at hr
 ·replace hr:=w9 h hr
  obtain⟨vs,h1,hr⟩:=hr
  replace hr:=w9 h hr
  obtain⟨us,h2,hr⟩:=hr
  rename_i f
  have e:∀l:Array Operand,(List.map a.eval l.toList).toArray=l.map a.eval:=fun l=>by apply Array.ext';simp
  refine cV h hU hd (v:=.func (.func f) (fs.map a.eval) (cs.map a.eval)) ?_ (by simp only[den,h1,h2,e]) hr
  simp[execOp,ho,Instr.makeFunc]
 ·exact aA hr
theorem Ly(hT:gj P Γ.sj)(h:nU ρ N S H m a w)(hU:∀id,m.has id->U id)(hd:∀d,o.dst=some d->d<N){t:TypeId}{x:Operand}{f:Nat}(ho:o.op=.field t x f)
 (hr:(oR Γ t fun ti=>dN x (evField fresh o ti f)).run S H=some r):o.wp P a w (a0q ρ N U fresh S H m r) Q:=by
 replace hr:=fB hT hr
 obtain⟨ti,hti,hr⟩:=hr
 replace hr:=cU h hr
 obtain⟨v,h1,hr⟩:=hr
 unfold evField at hr
 split at hr
 ·rename_i cs
  split at hr
  ·rename_i u hu
   replace hr:=cE hr
   obtain⟨hb,hr⟩:=hr
   replace hr:=a07 hr
   obtain⟨z,h3,hr⟩:=hr
   obtain⟨A,B,hty⟩:=zy hu
   have hs:=hti.shape
   rw[hty]at hs
   obtain⟨fs,hfu,hfs⟩:=hs
   rw[<-hty]at hfs
   obtain⟨fl,h4,h5,h6⟩:=hfs.at_ hu
   simp only[den]at h1
   split at h1<;>(try cases h1)
   rename_i vs hall hvs
   simp only[Option.some.injEq]at h1
   have eY:=oV hb
   rw[<-cH hvs]at eY
   refine cV h hU hd ?_ (qO h3 (sV _ _ hvs) (yj _ _ hall)) hr
   have hp:=EB (P:=P) (w:=w) (off:=fl.offset) h6 (by rw[h5,Nat.zero_add];exact eY)
   simp only[execOp,ho,Instr.field,Sem.run_bind,run_underlying hfu,Result.andThen_ok,<-h1,asAgg,Sem.run_pure]
   rw[show fs[f]?=some fl by rw[<-Array.getElem?_toList];exact h4]
   rw[h5,Nat.zero_add]at hp
   simp only[Sem.run_bind,Sem.run_pure,Result.andThen_ok,h5,Nat.zero_add,hp]
  ·exact aA hr
 ·exact aA hr
theorem vU{v:HV}{k:Int->ST}(hr:(intR v k).run S H=some r):∃kd x,v=.i kd x/\(k x).run S H=some r:=by
 unfold intR at hr
 split at hr
 ·exact⟨_,_,rfl,hr⟩
 ·exact aA hr
theorem lZ{v:HV}{k:Nat->ST}(hr:(a3X v k).run S H=some r):∃kd x,v=.i kd x/\0<=x/\(k x.toNat).run S H=some r:=by
 unfold a3X at hr
 split at hr
 ·rename_i kd x
  obtain⟨h1,h2⟩:=gV hr
  simp only[aF,Bool.not_eq_true',decide_eq_false_iff_not]at h1
  exact⟨kd,x,rfl,by omega,h2⟩
 ·exact aA hr
theorem qT{x:Int}{k:Nat->ST}:∀{n i:Nat},(pickN x k n i).run S H=some r->∃j,i<=j/\j<i+n/\x=(j:Int)/\(k j).run S H=some r
 |0,i,hr=>aA hr
 |n+1,i,hr=>by
  unfold pickN at hr
  rcases vk hr with⟨e,hr⟩|⟨e,hr⟩
  ·exact⟨i,Nat.le_refl _,by omega,of_decide_eq_true e,hr⟩
  ·obtain⟨j,h1,h2,h3⟩:=qT hr
   exact⟨j,by omega,by omega,h3⟩
theorem a4K(hT:gj P Γ.sj)(h:nU ρ N S H m a w)(hU:∀id,m.has id->U id)(hd:∀d,o.dst=some d->d<N){t:TypeId}{x i:Operand}(ho:o.op=.index t x i)
 (hr:(oR Γ t fun ti=>dN x fun v=>dN i fun u=>evIndex fresh o ti u v).run S H=some r):o.wp P a w (a0q ρ N U fresh S H m r) Q:=by
 replace hr:=fB hT hr
 obtain⟨ti,hti,hr⟩:=hr
 replace hr:=cU h hr
 obtain⟨v,h1,hr⟩:=hr
 replace hr:=cU h hr
 obtain⟨u,h2,hr⟩:=hr
 have hs:=hti.shape
 unfold evIndex at hr
 split at hr
 ·rename_i cs
  split at hr
  ·rename_i len u hty
   replace hr:=vU hr
   obtain⟨kd,x,e,hr⟩:=hr
   subst e
   replace hr:=qT hr
   obtain⟨n,_,hn,e,hr⟩:=hr
   subst e
   obtain⟨hi,_⟩:=eB h2
   replace hr:=cE hr
   obtain⟨hb,hr⟩:=hr
   replace hr:=a07 hr
   obtain⟨z,h4,hr⟩:=hr
   rw[hty]at hs
   obtain⟨hu,he⟩:=hs
   simp only[den]at h1
   split at h1<;>(try cases h1)
   rename_i vs hall hvs
   simp only[Option.some.injEq]at h1
   have eY:=oV hb
   rw[<-cH hvs]at eY
   refine cV h hU hd ?_ (qO h4 (sV _ _ hvs) (yj _ _ hall)) hr
   have hp:=EB (P:=P) (w:=w) (off:=n*u.size) he eY
   have c:(0:Int)<=(n:Int)/\(n:Int)<(len:Int):=⟨by omega,by omega⟩
   simp only[execOp,ho,<-h1,hi,Instr.index,asIntOf,Sem.run_bind,Sem.run_pure,Result.andThen_ok,run_underlying hu,if_pos c,gH he,Int.toNat_natCast,hp]
  ·exact aA hr
 ·rename_i bs
  replace hr:=lZ hr
  obtain⟨kd,x,e,hx,hr⟩:=hr
  subst e
  obtain⟨hi,_⟩:=eB h2
  replace hr:=gV hr
  obtain⟨hb,hr⟩:=hr
  rw[Bool.and_eq_true]at hb
  have hty':ti.ty=.str:=by have:=hb.1;cases hq:ti.ty<;>rw[hq]at this<;>first|rfl|cases this
  rw[hty']at hs
  simp only[xW]at hs
  obtain⟨h1,_⟩:=qd h1
  have hlt:x.toNat<bs.length:=Nat.le_of_ble_eq_true hb.2
  have e:(⟨bs.toArray⟩:ByteArray)[x.toNat]?=some (bs.getD x.toNat 0):=by
   have hk2:x.toNat<(⟨bs.toArray⟩:ByteArray).size:=by simpa [ByteArray.size]using hlt
   rw[getElem?_pos (⟨bs.toArray⟩:ByteArray) x.toNat hk2]
   exact congrArg some (show bs.toArray[x.toNat]=_ by simp[hlt])
  have hin:a0p .u8 ((bs.getD x.toNat 0).toNat:Int)=true:=by
   rw[pz,show IntKind.u8.min=0 from rfl,show IntKind.u8.max=255 from rfl]
   have:=(bs.getD x.toNat 0).toNat_lt
   omega
  refine cV h hU hd (v:=.int .u8 ((bs.getD x.toNat 0).toNat:Int)) ?_ (dM hin) hr
  simp only[execOp,ho,h1,hi,Instr.index,asIntOf,Sem.run_bind,Sem.run_pure,Result.andThen_ok,run_underlying hs,if_pos hx,e]
 ·exact aA hr
end
end Go.Proofs.YtehbbcdhahnkgaaGreat.Vm
