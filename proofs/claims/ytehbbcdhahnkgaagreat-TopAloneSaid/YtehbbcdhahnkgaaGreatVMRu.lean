/- The contract of top.rules. -/
import Derived.Test.YtehbbcdhahnkgaaGreatVMR1
import Derived.Test.YtehbbcdhahnkgaaGreatVMR2
import Derived.Test.YtehbbcdhahnkgaaGreatVMR3
import Derived.Test.YtehbbcdhahnkgaaGreatVVrF
set_option linter.all false
set_option maxRecDepth 100000
set_option maxHeartbeats 0
namespace Go.Proofs.YtehbbcdhahnkgaaGreat.Vm
open Go
theorem a2d:AE (G0 [(75,MC)]) 60 31 [dI,dI] [.bH fG] ((0:Int),(0:Int))=some qn:=by kernel_rfl
theorem a2f:AE (G0 [(75,MC)]) 60 31 [dI,dI] [.bH fG] ((0:Int),(1:Int))=some rW:=by kernel_rfl
theorem a2g:AE (G0 [(75,MC)]) 60 31 [dI,dI] [.bH fG] ((1:Int),(0:Int))=some oN:=by kernel_rfl
theorem a2h:AE (G0 [(75,MC)]) 60 31 [dI,dI] [.bH fG] ((1:Int),(1:Int))=some qp:=by kernel_rfl
theorem a2i:AE (G0 [(75,MC)]) 60 31 [dI,dI] [.bH fG] ((2:Int),(0:Int))=some rX:=by kernel_rfl
theorem a2j:AE (G0 [(75,MC)]) 60 31 [dI,dI] [.bH fG] ((2:Int),(1:Int))=some rY:=by kernel_rfl
theorem a2k:AE (G0 [(75,MC)]) 60 31 [dI,dI] [.bH fG] ((3:Int),(0:Int))=some qq:=by kernel_rfl
theorem a2l:AE (G0 [(75,MC)]) 60 31 [dI,dI] [.bH fG] ((3:Int),(1:Int))=some a3H:=by kernel_rfl
theorem Kn:∀{x:List UInt8} {n:List Nat},TY x n=true->x=n.map UInt8.ofNat
 |[],[],_=>rfl
 |u::l,n::k,h=>by
  have h:(bif Nat.beq u.toNat n then TY l k else false)=true:=h
  cases e:Nat.beq u.toNat n with
  |false=>rw[e]at h;cases h
  |true=>rw[e]at h;rw[List.map_cons,<-Kn (x:=l) (n:=k) h,<-Nat.eq_of_beq_eq_true e,UInt8.ofNat_toNat]
 |[],_::_,h=>by cases h
 |_::_,[],h=>by cases h
theorem Ko:∀{x:List (List UInt8)} {n:List (List Nat)},TZ x n=true->x=toW n
 |[],[],_=>rfl
 |u::l,n::k,h=>by
  have h:(bif TY u n then TZ l k else false)=true:=h
  cases e:TY u n with
  |false=>rw[e]at h;cases h
  |true=>rw[e]at h;rw[Kn e,Ko (x:=l) (n:=k) h];rfl
 |[],_::_,h=>by cases h
 |_::_,[],h=>by cases h
theorem La:∀(l:List (List (List Nat)×aQ)),(∀p∈l,lz p)->∀x y,WT l x=some y->AE (G0 []) 60 75 [.a01 .str] [fG,dI] x=some y
 |[],_,_,_,h=>by cases h
 |p::l,hl,x,y,h=>by
  have h:(bif TZ x p.1 then some (p.2,(0:Int))else WT l x)=some y:=h
  cases e:TZ x p.1 with
  |false=>rw[e]at h;exact La l (fun q hq=>hl q (by simp[hq])) x y h
  |true=>rw[e]at h;cases h;rw[Ko e];exact hl p (by simp)
theorem St:∀p∈D5,lz p:=by
 intro p hp
 simp only[D5,List.mem_cons,List.mem_nil_iff,or_false]at hp
 rcases hp with rfl|rfl|rfl|rfl|rfl|rfl|rfl|rfl|rfl|rfl|rfl|rfl|rfl|rfl
 ·exact ln0
 ·exact ln1
 ·exact ln2
 ·exact ln3
 ·exact ln4
 ·exact ln5
 ·exact ln6
 ·exact ln7
 ·exact ln8
 ·exact ln9
 ·exact a0t
 ·exact a0u
 ·exact a0v
 ·exact a0w
theorem dU.a4o{d:Bool}{P:Program}{f:Nat}{a r:List DT}{g c:(tupT a).den->Option (tupT r).den}(h:dU d P f ⟨a,r,g⟩)(hg:∀x y,c x=some y->g x=some y):dU d P f ⟨a,r,c⟩:=⟨h.1,fun F w x vals G y hy=>h.2 F w x vals G y (hg x y hy)⟩
theorem J0{d:Bool}{P:Program}(hΓ:sH d P (G0 []))(hf:pX P 31)(h75:pX P 75)(L:Nat):dU d P 31 (k31 L):=by
 have c75:dU d P 75 MC:=dU.a4o (qz hΓ (k:=60) h75) (La D5 St)
 have hΓ':sH d P (G0 [(75,MC)]):=⟨hΓ.WU,hΓ.sj,hΓ.OY,fun f x h=>wK.get (Q:=fun f x=>dU d P f x) (l:=[(75,MC)]) c75 h,hΓ.Vj,fun f x h=>(by cases h)⟩
 refine dU.a4o (qz hΓ' (k:=60) hf) fun x y h=> ?_
 obtain⟨(a:Int),(b:Int)⟩:=x
 have h:(bif !(aF a 0)&&aF a 4&& !(aF b 0)&&aF b 2 then some (kW a b)else none)=some y:=h
 cases e:(!(aF a 0)&&aF a 4&& !(aF b 0)&&aF b 2)with
 |false=>rw[e]at h;cases h
 |true=>
  rw[e]at h
  cases h
  simp only[Bool.and_eq_true,Bool.not_eq_true',aF,decide_eq_true_eq,decide_eq_false_iff_not]at e
  obtain⟨⟨⟨e1,e2⟩,e3⟩,e4⟩:=e
  have h1:a=(0:Int)∨a=(1:Int)∨a=(2:Int)∨a=(3:Int):=by omega
  have h2:b=(0:Int)∨b=(1:Int):=by omega
  rcases h1 with rfl|rfl|rfl|rfl<;>rcases h2 with rfl|rfl
  ·exact a2d
  ·exact a2f
  ·exact a2g
  ·exact a2h
  ·exact a2i
  ·exact a2j
  ·exact a2k
  ·exact a2l
theorem Bn:∀(n:Nat) (a:TL),(a.take n).len=min n a.len
 |0,a=>by cases a<;>simp[TL.take,TL.len]
 |n+1,.nil=>by simp[TL.take,TL.len]
 |n+1,.cons o v x r=>by simp only[TL.take,TL.len,Bn n r];omega
theorem Br{l:TL}(h:0<l.len):l.nds=nd (l.get 0)+(l.drop 1).nds/\l.len=1+(l.drop 1).len:=by
 have:=vZ l 0 h
 rw[a3B]at this
 exact⟨this,by rw[TL.lj];omega⟩
structure JH(w:a29):Prop where
 k:w.k.cP
 f:w.fresh.cP
 s:w.a0b.cP
 se:∀t∈w.a0b.ls,t.2.2.len=2
def wI(w:a29):Nat:=w.k.len+(w.fresh.nds-w.fresh.len)+(w.a0b.nds-w.a0b.len)
def sF(l:TL):Nat:=3*l.nds-l.len
section
variable {L:Nat}(hL:1000000<L)(hM:L<=4611686018427387904)
include hL hM
omit hL hM in
theorem Iy{k:TL}{p:Int}{t:Tm}(h0:0<=p)(h1:p<=(k.len:Int))(hk:k.cP)(ht:t.cP)(hl:k.len<=600000):Ok (ja L k p (TL.of [t])) fun y=>y.cP/\y.len=k.len+1:=by
 unfold ja
 have e:(!(aF p 0)&&Nat.ble (Int.toNat p) k.len&&Nat.beq (TL.of [t]).len 1&&room (k.len+1) 40)=true:=by
  rw[a0k (by omega),jU (by omega),cF (by omega)];rfl
 rw[e]
 refine ae ⟨TL.qg (Ll _ hk) (TL.qg (TL.tw fun u hu=>by rw[List.mem_singleton]at hu;rw[hu];exact ht) (TL.tu _ hk)),?_⟩
 rw[TL.fC,TL.fC,Bn,TL.lj,TL.eD]
 show min p.toNat k.len+(1+(k.len-p.toNat))=_
 omega
omit hL hM in
theorem L6{α:Type}{Q:α->Prop}{l:TL}{t:Tm}{f:TL->α}(hl:l.len<=1000000)(h:Q (f (TL.app l (TL.of [t])))):Ok (a3A l t f) Q:=by
 unfold a3A
 have e:(TL.app l (TL.of [(0,0,TL.nil)])).len=l.len+1:=by rw[TL.fC,TL.eD];rfl
 rw[TL.CQ,e]
 exact bD (cF (by omega)) (a03 (by omega) (ae h))
theorem F9{l:TL}{w:a29}(hk:w.k.cP)(hf:w.fresh.cP)(hl:l.cP)(b1:w.k.len+l.len<=500000)(b2:w.fresh.len+l.len<=500000):
 Ok (kN L l w) fun y=>y.2.k.cP/\y.2.fresh.cP/\y.2.a0b=w.a0b/\y.2.fresh.nds<=w.fresh.nds+l.nds/\y.2.k.len+(y.2.fresh.nds-y.2.fresh.len)<=w.k.len+(w.fresh.nds-w.fresh.len)+l.nds/\y.2.k.len<=w.k.len+l.len/\y.2.fresh.len<=w.fresh.len+l.len:=by
 unfold kN
 refine a0i l.len (fun i s=>s.2.1=(i:Int)/\s.2.2.k.cP/\s.2.2.fresh.cP/\s.2.2.a0b=w.a0b/\s.2.2.fresh.nds+(l.drop i).nds<=w.fresh.nds+l.nds/\s.2.2.k.len+(s.2.2.fresh.nds-s.2.2.fresh.len)+(l.drop i).nds<=w.k.len+(w.fresh.nds-w.fresh.len)+l.nds/\s.2.2.k.len<=w.k.len+i/\s.2.2.fresh.len<=w.fresh.len+i) (by omega) ⟨rfl,hk,hf,rfl,by rw[a3B];exact Nat.le_refl _,by rw[a3B];exact Nat.le_refl _,Nat.le_refl _,Nat.le_refl _⟩ (fun i s hi hs=> ?_) fun s hs=> ?_
 ·obtain⟨m,j,v⟩:=s
  obtain⟨rfl,h1,h2,h3,h4,h5,h6,h7⟩:=hs
  dsimp only at h1 h2 h3 h4 h5 h6 h7⊢
  refine aM (fun _=>ay (by omega) (a03 hi ?_)) fun h=>absurd (by omega) h
  rw[a08]
  have ht:=TL.a2C hl i
  have hd:=vZ l i hi
  have hfl:=jM v.fresh
  have e1:(TL.app v.fresh (TL.of [l.get i])).nds=v.fresh.nds+nd (l.get i):=by rw[uk,w6]
  have e2:(TL.app v.fresh (TL.of [l.get i])).len=v.fresh.len+1:=by rw[TL.fC,TL.eD];rfl
  have hn:(TL.app v.fresh (TL.of [l.get i])).cP:=TL.qg h2 (TL.tw fun u hu=>by rw[List.mem_singleton]at hu;rw[hu];exact ht)
  have hg:1<=nd (l.get i):=Nat.succ_le_succ (Nat.zero_le _)
  have T:∀{p:Int} {b:Bool},0<=p->p<=(v.k.len:Int)->Ok (qc L m (i:Int) v (l.get i) p b) (Sum.elim (fun s:Bool×Int×a29=>s.2.1=((i+1:Nat):Int)/\s.2.2.k.cP/\s.2.2.fresh.cP/\s.2.2.a0b=w.a0b/\s.2.2.fresh.nds+(l.drop (i+1)).nds<=w.fresh.nds+l.nds/\s.2.2.k.len+(s.2.2.fresh.nds-s.2.2.fresh.len)+(l.drop (i+1)).nds<=w.k.len+(w.fresh.nds-w.fresh.len)+l.nds/\s.2.2.k.len<=w.k.len+(i+1)/\s.2.2.fresh.len<=w.fresh.len+(i+1)) fun y:Bool×a29=>y.2.k.cP/\y.2.fresh.cP/\y.2.a0b=w.a0b/\y.2.fresh.nds<=w.fresh.nds+l.nds/\y.2.k.len+(y.2.fresh.nds-y.2.fresh.len)<=w.k.len+(w.fresh.nds-w.fresh.len)+l.nds/\y.2.k.len<=w.k.len+l.len/\y.2.fresh.len<=w.fresh.len+l.len):=fun{p b} hp0 hp1=>by
   unfold qc
   cases b with
   |true=>
    refine(Iy hp0 hp1 h1 ht (by omega)).bind fun k ⟨k1,k2⟩=>bJ (fun _=>L6 (by omega) ⟨cG i (by omega),k1,hn,h3,?_,?_,?_,?_⟩) fun h=>absurd h (by decide)
    ·show(TL.app v.fresh (TL.of [l.get i])).nds+_<=_;omega
    ·show k.len+((TL.app v.fresh (TL.of [l.get i])).nds-(TL.app v.fresh (TL.of [l.get i])).len)+_<=_;omega
    ·show k.len<=_;omega
    ·show(TL.app v.fresh (TL.of [l.get i])).len<=_;omega
   |false=>exact ae ⟨cG i (by omega),h1,h2,h3,by show v.fresh.nds+_<=_;omega,by show v.k.len+(v.fresh.nds-v.fresh.len)+_<=_;omega,by show v.k.len<=_;omega,by show v.fresh.len<=_;omega⟩
  exact(OT hL hM h1 ht (by omega)).bind fun p ⟨p0,p1⟩=>aM (fun hp=>Dw hL hM h1 ht p0 hp fun y=>T p0 p1) fun _=>T p0 p1
 ·obtain⟨m,j,v⟩:=s
  obtain⟨rfl,h1,h2,h3,h4,h5,h6,h7⟩:=hs
  dsimp only at h1 h2 h3 h4 h5 h6 h7⊢
  exact aM (fun h=>by omega) fun _=>ae ⟨h1,h2,h3,by show v.fresh.nds<=_;omega,by show v.k.len+(v.fresh.nds-v.fresh.len)<=_;omega,h6,h7⟩
theorem JM{w:a29}(q:JH w)(hp:wI w<=240000)(hw:3*w.fresh.nds+sF w.a0b<=720000):Ok (rB L w) fun y=>JH y/\y.fresh=.nil/\wI y<=wI w/\sF y.a0b<=3*w.fresh.nds+sF w.a0b:=by
 unfold rB
 refine a0i 720001 (fun m s=>JH s/\wI s<=wI w/\3*s.fresh.nds+sF s.a0b+m<=3*w.fresh.nds+sF w.a0b) (by omega) ⟨q,Nat.le_refl _,Nat.le_refl _⟩ (fun m s hm hs=> ?_) fun s hs=>by obtain⟨_,_,h⟩:=hs;omega
 obtain⟨h1,h2,h3⟩:=hs
 have hfl:=jM s.fresh
 have hsl:=jM s.a0b
 have hp2:s.k.len+(s.fresh.nds-s.fresh.len)+(s.a0b.nds-s.a0b.len)<=240000:=Nat.le_trans h2 hp
 have hfn:3*s.fresh.nds<=720000:=by omega
 refine aM (fun hlt=>a03 (by omega) (bD (by rw[jU (by omega),jU (Nat.le_refl _)];rfl) ?_)) fun hlt=>ae ⟨h1,?_,h2,?_⟩
 ·rw[HP]
  obtain⟨d1,d2⟩:=Br (l:=s.fresh) (by omega)
  have ht:=TL.a2C h1.f 0
  obtain⟨t,et⟩:∃t,t=s.fresh.get 0:=⟨_,rfl⟩
  rw[<-et]at d1 ht⊢
  have hnd:nd t=t.2.2.nds+1:=rfl
  have hal:=jM t.2.2
  have hrn:(s.fresh.drop 1).cP:=TL.tu 1 h1.f
  have hrl:=jM (s.fresh.drop 1)
  have A:Ok (Option.bind (kN L (Tm.args t) (a29.a3n s (s.fresh.drop 1))) fun y7=>(some (.inl y7.2):Option (a29⊕a29))) (Sum.elim (fun s=>JH s/\wI s<=wI w/\3*s.fresh.nds+sF s.a0b+(m+1)<=3*w.fresh.nds+sF w.a0b) fun y=>JH y/\y.fresh=.nil/\wI y<=wI w/\sF y.a0b<=3*w.fresh.nds+sF w.a0b):=by
   refine(F9 hL hM (l:=Tm.args t) (w:=a29.a3n s (s.fresh.drop 1)) h1.k hrn ht.2 (by show s.k.len+t.2.2.len<=_;omega) (by show(s.fresh.drop 1).len+t.2.2.len<=_;omega)).bind fun y ⟨a1,a2,a3,a4,a5,a6,a7⟩=>ae ⟨⟨a1,a2,?_,?_⟩,?_,?_⟩
   ·rw[a3];exact h1.s
   ·rw[a3];exact h1.se
   ·have a4:y.2.fresh.nds<=(s.fresh.drop 1).nds+t.2.2.nds:=a4
    have a5:y.2.k.len+(y.2.fresh.nds-y.2.fresh.len)<=s.k.len+((s.fresh.drop 1).nds-(s.fresh.drop 1).len)+t.2.2.nds:=a5
    have h2:s.k.len+(s.fresh.nds-s.fresh.len)+(s.a0b.nds-s.a0b.len)<=wI w:=h2
    have a3:y.2.a0b=s.a0b:=a3
    show y.2.k.len+(y.2.fresh.nds-y.2.fresh.len)+(y.2.a0b.nds-y.2.a0b.len)<=wI w
    rw[a3];omega
   ·have a4:y.2.fresh.nds<=(s.fresh.drop 1).nds+t.2.2.nds:=a4
    have a3:y.2.a0b=s.a0b:=a3
    rw[a3];omega
  have N:JH (a29.a3n s (s.fresh.drop 1))/\wI (a29.a3n s (s.fresh.drop 1))<=wI w/\3*(a29.a3n s (s.fresh.drop 1)).fresh.nds+sF (a29.a3n s (s.fresh.drop 1)).a0b+(m+1)<=3*w.fresh.nds+sF w.a0b:=by
   refine⟨⟨h1.k,hrn,h1.s,h1.se⟩,?_,?_⟩
   ·have h2:s.k.len+(s.fresh.nds-s.fresh.len)+(s.a0b.nds-s.a0b.len)<=wI w:=h2
    show s.k.len+((s.fresh.drop 1).nds-(s.fresh.drop 1).len)+(s.a0b.nds-s.a0b.len)<=wI w
    omega
   ·show 3*(s.fresh.drop 1).nds+sF s.a0b+(m+1)<=_;omega
  refine aC (fun _=>A) fun _=>aC (fun _=>A) fun _=>aC (fun _=>aC (fun h2'=>L6 ?_ ⟨⟨h1.k,hrn,TL.qg h1.s (TL.tw fun u hu=>by rw[List.mem_singleton]at hu;rw[hu];exact ht),fun u hu=> ?_⟩,?_,?_⟩) fun _=>ae N) fun _=>ae N
  ·have:sF s.a0b=3*s.a0b.nds-s.a0b.len:=rfl
   omega
  ·rcases List.mem_append.1 (by rw[<-TL.Le];exact hu)with hu|hu
   ·exact h1.se u hu
   ·rw[TL.Pb,List.mem_singleton]at hu
    rw[hu]
    have h2':(t.2.2.len:Int)=2:=h2'
    omega
  ·have h2:s.k.len+(s.fresh.nds-s.fresh.len)+(s.a0b.nds-s.a0b.len)<=wI w:=h2
   show s.k.len+((s.fresh.drop 1).nds-(s.fresh.drop 1).len)+((TL.app s.a0b (TL.of [t])).nds-(TL.app s.a0b (TL.of [t])).len)<=wI w
   rw[uk,w6,TL.fC,TL.eD]
   show _+_+(_-(_+1))<=_
   omega
  ·show 3*(s.fresh.drop 1).nds+(3*(TL.app s.a0b (TL.of [t])).nds-(TL.app s.a0b (TL.of [t])).len)+(m+1)<=_
   rw[uk,w6,TL.fC,TL.eD]
   have h3:3*s.fresh.nds+(3*s.a0b.nds-s.a0b.len)+m<=3*w.fresh.nds+sF w.a0b:=h3
   show _+(_-(_+1))+_<=_
   omega
 ·cases hs:s.fresh with
  |nil=>rfl
  |cons o v a r=>rw[hs]at hlt;exact absurd (by show(0:Int)<((r.len+1:Nat):Int);omega) hlt
 ·omega
end
def vB(x0:Tm):Bool:=Nat.ble (x0.2.2.nds+1) 600&&Nat.ble 1 60&&a3d x0.1 x0.2.1 x0.2.2&&x0.2.2.AO 2
theorem Ps{t:Tm}(h:vB t=true):nd t<=600:=by
 unfold vB at h
 simp only[Bool.and_eq_true]at h
 exact Nat.le_of_ble_eq_true h.1.1.1
theorem Ln{t:Tm}(h:nd t<=600):t.cP:=by
 have h:t.2.2.nds+1<=600:=h
 have:=jM t.2.2
 exact⟨by omega,yD _ (by omega)⟩
theorem Cw:∀{l:TL},(∀i,i<l.len->nd (l.get i)<=600)->l.nds<=600*l.len/\l.cP
 | .nil,_=>⟨Nat.le_refl _,trivial⟩
 | .cons o v a r,h=>by
   have h0:=h 0 (Nat.succ_pos _)
   have hr:=Cw (l:=r) fun i hi=>h (i+1) (by simp only[TL.len];omega)
   have h1:=Ln h0
   have h0:a.nds+1<=600:=h0
   exact⟨by show a.nds+1+r.nds<=600*(r.len+1);omega,h1.1,h1.2,hr.2⟩
section
variable {L:Nat}(hL:1000000<L)(hM:L<=4611686018427387904)
include hL hM
theorem J9{w:a29}(q:JH w)(hp:wI w<=240000)(hw:3*w.fresh.nds+sF w.a0b<=720000):Ok (sU L w.a0b w) fun y=>JH (a29.wD y.2.2 y.2.1)/\wI (a29.wD y.2.2 y.2.1)<=wI w/\3*y.2.2.fresh.nds+sF y.2.1+(if y.1=true then 1 else 0)<=3*w.fresh.nds+sF w.a0b:=by
 unfold sU
 obtain⟨s,es⟩:∃s,s=w.a0b:=⟨_,rfl⟩
 rw[<-es]at hw⊢
 have hsn:s.cP:=by rw[es];exact q.s
 have hse:∀t∈s.ls,t.2.2.len=2:=by rw[es];exact q.se
 have hpw:wI w=w.k.len+(w.fresh.nds-w.fresh.len)+(s.nds-s.len):=by rw[es];rfl
 have hsl:=jM s
 have hws:sF s=3*s.nds-s.len:=rfl
 refine a0i s.len (fun i r=>r.2.2.1=(i:Int)/\(r.2.2.2.k.cP/\r.2.2.2.fresh.cP)/\(r.2.1.cP/\∀t∈r.2.1.ls,t.2.2.len=2)/\3*r.2.2.2.fresh.nds+sF r.2.1+sF (s.drop i)+(if r.1=true then 1 else 0)<=3*w.fresh.nds+sF s/\r.2.2.2.k.len+(r.2.2.2.fresh.nds-r.2.2.2.fresh.len)+(r.2.1.nds-r.2.1.len)+((s.drop i).nds-(s.drop i).len)<=wI w) (by omega) ⟨rfl,⟨q.k,q.f⟩,⟨trivial,fun t ht=>by simp[TL.ls]at ht⟩,?_,?_⟩ (fun i r hi hr=> ?_) fun r hr=> ?_
 ·rw[a3B];show 3*w.fresh.nds+0+sF s+0<=_;omega
 ·rw[a3B,hpw];show w.k.len+(w.fresh.nds-w.fresh.len)+0+_<=_;omega
 ·obtain⟨b,x,j,v⟩:=r
  obtain⟨rfl,⟨h1,h2⟩,⟨h3,h4⟩,h5,h6⟩:=hr
  dsimp only at h1 h2 h3 h4 h5 h6⊢
  refine aM (fun _=>ay (by omega) (a03 hi ?_)) fun h=>absurd (by omega) h
  rw[a08]
  have hd:=vZ s i hi
  have hl1:(s.drop i).len=1+(s.drop (i+1)).len:=by rw[TL.lj,TL.lj];omega
  have hln:=jM (s.drop (i+1))
  have hxl:=jM x
  have hvl:=jM v.fresh
  have ht:=TL.a2C hsn i
  have ha:=hse _ (a4C s i hi)
  obtain⟨t,et⟩:∃t,t=s.get i:=⟨_,rfl⟩
  rw[<-et]at hd ht ha⊢
  obtain⟨d1,d2⟩:=Br (l:=t.2.2) (by omega)
  have hnd:nd t=t.2.2.nds+1:=rfl
  have ha0:1<=nd (t.2.2.get 0):=Nat.succ_le_succ (Nat.zero_le _)
  have w1:sF (s.drop i)=3*(s.drop i).nds-(s.drop i).len:=rfl
  have w2:sF (s.drop (i+1))=3*(s.drop (i+1)).nds-(s.drop (i+1)).len:=rfl
  have w3:sF x=3*x.nds-x.len:=rfl
  have hk6:v.k.len<=240000:=by omega
  have hf5:v.fresh.nds<=240000:=by omega
  have hx5:2*x.nds<=720000:=by omega
  refine a03 (by show 0<t.2.2.len;omega) ((a4v hL hM h1 (TL.a2C ht.2 0) (by omega)).bind fun y8 _=>bn (fun _=>bD (cF ?_) (ae ⟨cG i (by omega),⟨h1,h2⟩,⟨TL.qg h3 (TL.tw fun u hu=>by rw[List.mem_singleton]at hu;rw[hu];exact ht),fun u hu=> ?_⟩,?_,?_⟩)) fun _=>bD (by rw[jU (by show 1<=t.2.2.len;omega),jU (Nat.le_refl _)];rfl) ?_)
  ·rw[TL.fC,TL.eD];show(x.len+1)*40<=_;omega
  ·rcases List.mem_append.1 (by rw[<-TL.Le];exact hu)with hu|hu
   ·exact h4 u hu
   ·rw[TL.Pb,List.mem_singleton]at hu
    rw[hu];exact ha
  ·show 3*v.fresh.nds+(3*(TL.app x (TL.of [t])).nds-(TL.app x (TL.of [t])).len)+sF (s.drop (i+1))+_<=_
   rw[uk,w6,TL.fC,TL.eD]
   show _+(_-(_+1))+_+(if b=true then 1 else 0)<=_
   omega
  ·show v.k.len+(v.fresh.nds-v.fresh.len)+((TL.app x (TL.of [t])).nds-(TL.app x (TL.of [t])).len)+((s.drop (i+1)).nds-(s.drop (i+1)).len)<=wI w
   rw[uk,w6,TL.fC,TL.eD]
   show _+(_-(_+1))+_<=_
   omega
  ·rw[HP]
   have hrl:((Tm.args t).drop 1).len=1:=by show(t.2.2.drop 1).len=1;omega
   refine(F9 hL hM (l:=(Tm.args t).drop 1) (w:=v) h1 h2 (TL.tu 1 ht.2) (by rw[hrl];omega) (by rw[hrl];omega)).bind fun y ⟨a1,a2,a3,a4,a5,a6,a7⟩=> ?_
   have a4:y.2.fresh.nds<=v.fresh.nds+(t.2.2.drop 1).nds:=a4
   have a5:y.2.k.len+(y.2.fresh.nds-y.2.fresh.len)<=v.k.len+(v.fresh.nds-v.fresh.len)+(t.2.2.drop 1).nds:=a5
   have g:∀c:Bool,3*y.2.fresh.nds+sF x+sF (s.drop (i+1))+(if c=true then 1 else 0)<=3*w.fresh.nds+sF s:=fun c=>by
    have:(if c=true then 1 else 0)<=1:=by split<;>omega
    have h5:3*v.fresh.nds+sF x+sF (s.drop i)<=3*w.fresh.nds+sF s:=by omega
    omega
   have g2:y.2.k.len+(y.2.fresh.nds-y.2.fresh.len)+(x.nds-x.len)+((s.drop (i+1)).nds-(s.drop (i+1)).len)<=wI w:=by omega
   exact bJ (fun _=>ae ⟨cG i (by omega),⟨a1,a2⟩,⟨h3,h4⟩,g true,g2⟩) fun _=>ae ⟨cG i (by omega),⟨a1,a2⟩,⟨h3,h4⟩,g b,g2⟩
 ·obtain⟨b,x,j,v⟩:=r
  obtain⟨rfl,⟨h1,h2⟩,⟨h3,h4⟩,h5,h6⟩:=hr
  dsimp only at h1 h2 h3 h4 h5 h6⊢
  refine aM (fun h=>by omega) fun _=>ae ⟨⟨h1,h2,h3,h4⟩,?_,?_⟩
  ·show v.k.len+(v.fresh.nds-v.fresh.len)+(x.nds-x.len)<=_;omega
  ·show 3*v.fresh.nds+sF x+(if b=true then 1 else 0)<=_
   omega
omit hL hM in
theorem Ak{Y:Type}{key:Nat}{l:TL}{f:Int->Y}{Q:Y->Prop}(hl:l.len<L)(hl2:l.len<=400)(hQ:∀i:Nat,Q (f i)):Ok (iter (Y:=(Unit⊕Y)) key (fun r2:Int=>
 bif aF r2 (TL.len l:Int)then
  aJ (!(aF r2 0))<|
  aJ (Nat.blt (Int.toNat r2) (TL.len l))<|
  Option.bind (a2M L (TL.get l (Int.toNat r2))) fun y3=>
  bif !y3 then some (.inr (.inr (f r2)))else
  some (.inl (add r2 1))
 else
 some (.inr (.inl ()))) L 0) (Sum.elim (fun _=>∀i,i<l.len->nd (l.get i)<=600) Q):=by
 refine fq l.len (fun i=>∀j,j<i->nd (l.get j)<=600) hl (fun j hj=>absurd hj (Nat.not_lt_zero _)) (fun i hi hJ=> ?_) fun hJ=>aM (fun h=>absurd h (by omega)) fun _=>ae hJ
 refine aM (fun _=>ay (by omega) (a03 hi ?_)) fun h=>absurd (by omega) h
 rw[a08]
 show Ok (Option.bind (some (vB (l.get i))) _) _
 refine aD (ae (bn (fun _=>ae (hQ i)) fun e=>ae ⟨cG i (by omega),fun j hj=> ?_⟩))
 by_cases e':j=i
 ·rw[e'];exact Ps e
 ·exact hJ j (by omega)
theorem Js{l:TL}(hl:l.len<=400):Ok (oo L l) fun y=>y.2=0->y.1.cP/\y.1.len<=600000:=by
 unfold oo
 refine aM (fun h=>absurd h (by omega)) fun _=> ?_
 refine(Ak (Q:=fun y:TL×Int=>y.2=26) (f:=fun _=>(TL.nil,26)) (by omega) hl fun _=>rfl).bind fun y2 hy=> ?_
 cases y2 with
 |inr y=>exact ae fun e=>by have hy:y.2=26:=hy;omega
 |inl _=>
  obtain⟨n1,n2⟩:=Cw hy
  have hln:=jM l
  refine(F9 hL hM (l:=l) (w:=(TL.nil,TL.nil,TL.nil)) trivial trivial n2 (by show 0+l.len<=_;omega) (by show 0+l.len<=_;omega)).bind fun y4 ⟨a1,a2,a3,a4,a5,a6,a7⟩=> ?_
  have a3:y4.2.a0b=.nil:=a3
  have a4:y4.2.fresh.nds<=0+l.nds:=a4
  have a5:y4.2.k.len+(y4.2.fresh.nds-y4.2.fresh.len)<=0+(0-0)+l.nds:=a5
  have q0:JH y4.2:=⟨a1,a2,by rw[a3];trivial,fun t ht=>by rw[a3]at ht;simp[TL.ls]at ht⟩
  have p0:wI y4.2<=240000:=by unfold wI;rw[a3];show _+(0-0)<=_;omega
  have g0:3*y4.2.fresh.nds+sF y4.2.a0b<=720000:=by rw[a3];show _+(3*0-0)<=_;omega
  refine Ok.bind (P:=fun w:a29=>JH w/\wI w<=240000) ?_ fun w ⟨h1,h2⟩=>ae fun _=>⟨h1.k,by have h2:w.k.len+(w.fresh.nds-w.fresh.len)+(w.a0b.nds-w.a0b.len)<=240000:=h2;show w.k.len<=_;omega⟩
  refine a0i 720001 (fun m s=>JH s/\wI s<=240000/\3*s.fresh.nds+sF s.a0b+m<=720000) (by omega) ⟨q0,p0,g0⟩ (fun m s hm hs=> ?_) fun s hs=>by obtain⟨_,_,h⟩:=hs;omega
  obtain⟨h1,h2,h3⟩:=hs
  refine(JM hL hM h1 h2 (by omega)).bind fun y6 ⟨b1,b2,b3,b4⟩=> ?_
  have e0:y6.fresh.nds=0:=by rw[b2];rfl
  refine(J9 hL hM b1 (by omega) (by rw[e0];omega)).bind fun y7 ⟨c1,c2,c3⟩=>bJ (fun e=>ae ⟨c1,by omega,?_⟩) fun e=>ae ⟨c1,by omega⟩
  rw[if_pos e,e0]at c3
  show 3*y7.2.2.fresh.nds+sF y7.2.1+(m+1)<=_
  omega
theorem Py{l:TL}{t:Tm}:Ok (rz L l t) fun _=>True:=by
 unfold rz
 refine aM (fun _=>ae trivial) fun hl=> ?_
 show Ok (Option.bind (some (vB t)) _) _
 refine aD (ae (bn (fun _=>ae trivial) fun ht=> ?_))
 have ht:=Ln (Ps ht)
 refine(Ak (Q:=fun y:Int=>0<=y) (f:=fun y=>y) (by omega) (by omega) fun i=>by omega).bind fun y4 hy=> ?_
 cases y4 with
 |inr y=>exact bX (fun _=>ae trivial) fun h=>absurd h (by have hy:0<=y:=hy;omega)
 |inl _=>
  obtain⟨n1,n2⟩:=Cw hy
  show Ok (qb L l t) _
  unfold qb
  refine(PC hL hM n2 ht (by omega)).bind fun y6 _=>bJ (fun _=>ae trivial) fun _=>(Js hL hM (by omega)).bind fun y7 h7=>aC (fun e=> ?_) fun _=>ae trivial
  obtain⟨k1,k2⟩:=h7 e
  exact(a4v hL hM k1 ht k2).bind fun y _=>ae trivial
end
structure Px(S:List jn)(a:a0g):Prop where
 FN:a.kind=6->aZ S a.fm.body
 evt:a.kind=7->a.nD.kind=2->pW a.nD.clear/\jT a.nD.clear.bf
structure xC(n:ai)(a:a0g):Prop where
 V2:a.kind=1∨a.kind=2∨a.kind=3∨a.kind=4∨a.kind=5->0<=a.place/\a.place<(n.a06.length:Int)
 gB:a.kind=7->(a.gB=0∨a.gB=1)/\a.nD.kind≠1
 a4h:a.kind=3∨a.kind=6->(n.a06.length:Int)<60
section
variable {RR:Int->List aQ}{m k:Nat}{S S':List jn}{DD:Int->Dl}{G:List (aS×Int×Int)}{n:ai}{L:Nat}
theorem It{x:Int}:Ok (iy L x) fun y=>y=true↔(x=1∨x=2∨x=3∨x=4∨x=5):=by
 unfold iy
 (repeat' with_reducible first|refine bX (fun _=> ?_) (fun _=> ?_)|refine aM (fun _=> ?_) (fun _=> ?_)|refine aP (fun _=> ?_) (fun _=> ?_)|refine aC (fun _=> ?_) (fun _=> ?_)|refine ay (by omega) ?_|refine a03 (by omega) ?_|refine eK (by omega) ?_|refine a0r (by omega) ?_|refine ok_glt (by omega) ?_|refine bn (fun _=> ?_) (fun _=> ?_)|refine bJ (fun _=> ?_) (fun _=> ?_))
 all_goals (refine ae ?_;simp[aH];omega)
theorem Gi(hL:1000000<L)(hM:L<=4611686018427387904){a:a0g}:Ok (a2B L n a) fun y=>y=0->xC n a:=by
 have no:∀{x:Int},x≠0->Ok (some x) fun y=>y=0->xC n a:=fun h=>ae fun e=>absurd e h
 have hE:(a.kind=1∨a.kind=2∨a.kind=3∨a.kind=4∨a.kind=5->0<=a.place/\a.place<(n.a06.length:Int))->(a.kind=7->(a.gB=0∨a.gB=1)/\a.nD.kind≠1)->Ok (gA n a) fun y=>y=0->xC n a:=fun h1 h2=>by
  unfold gA
  exact bX (fun h=>aC (fun _=>no (by decide)) fun h3=>aC (fun _=>no (by decide)) fun h6=>ae fun _=>⟨h1,h2,fun h=>by omega⟩) fun h=>ae fun _=>⟨h1,h2,fun _=>h⟩
 have hD:(a.kind=1∨a.kind=2∨a.kind=3∨a.kind=4∨a.kind=5->0<=a.place/\a.place<(n.a06.length:Int))->(a.kind=7->(a.gB=0∨a.gB=1)/\a.nD.kind≠1)->Ok (gz L n a) fun y=>y=0->xC n a:=fun h1 h2=>by
  unfold gz
  exact aC (fun _=>(Py hL hM).bind fun y _=>bn (fun _=>no (by decide)) fun _=>hE h1 h2) fun _=>hE h1 h2
 have hC:(a.kind=1∨a.kind=2∨a.kind=3∨a.kind=4∨a.kind=5->0<=a.place/\a.place<(n.a06.length:Int))->(a.kind=7->(a.gB=0∨a.gB=1))->Ok (gy L n a) fun y=>y=0->xC n a:=fun h1 h2=>by
  unfold gy
  exact aC (fun h7=>aC (fun _=>no (by decide)) fun n1=>aC (fun _=>no (by decide)) fun _=>hD h1 fun h=>⟨h2 h,n1⟩) fun h7=>hD h1 fun h=>absurd h h7
 have hB:(a.kind=7->(a.gB=0∨a.gB=1))->Ok (gx L n a) fun y=>y=0->xC n a:=fun h2=>by
  unfold gx
  refine It.bind fun y hy=>bJ (fun e=>aM (fun _=>no (by decide)) fun h0=>bX (fun _=>no (by decide)) fun h1=>hC (fun _=>⟨by omega,h1⟩) h2) fun e=>hC (fun h=> ?_) h2
  rw[hy.2 h]at e;cases e
 have hA:(a.kind=7->(a.gB=0∨a.gB=1))->Ok (fF L n a) fun y=>y=0->xC n a:=fun h2=>by
  unfold fF
  exact aC (fun _=>aM (fun _=>no (by decide)) fun _=>hB h2) fun _=>hB h2
 unfold a2B
 exact aM (fun _=>no (by decide)) fun _=>aM (fun _=>no (by decide)) fun _=>aC (fun _=>aP (fun h0=>aP (fun _=>no (by decide)) fun h1=>hA fun _=>.inr h1) fun h0=>hA fun _=>.inl h0) fun h7=>hA fun h=>absurd h h7
theorem NI.a06(q:NI RR m k S DD G n){l:List aj}(h1:∀d∈l,aZ S d.body)(h2:l.length<=60):NI RR m k S DD G (ai.nS n l):=
 ⟨q.gi,q.lG,h1,h2,q.sn,q.Pp,q.Su,q.ED,q.EE,q.Iq,q.Ir,q.N1,q.Pg,q.l1,q.l2,q.l3⟩
theorem NI.trans(q:NI RR m k S DD G n){t:Int}:NI RR m k S DD G (ai.xR n t):=
 ⟨q.gi,q.lG,q.fl,q.C4,q.sn,q.Pp,q.Su,q.ED,q.EE,q.Iq,q.Ir,q.N1,q.Pg,q.l1,q.l2,q.l3⟩
theorem Ic(h:Lm L RR)(q:NI RR m k S DD G n)(hm:m<=999)(hk:k<=179){d:aj}(hd:aZ S d.body):Ok (a3c L n d) fun y=>NE RR (m+2) (k+1) y:=by
 have go:∀{w:Int} {d':aj},w=0∨w=1->d'.body=d.body->Ok (Option.bind (cR L n w (1,d',(a05.az,0),0)) fun y3=>some y3.1) fun y=>NE RR (m+2) (k+1) y:=fun{w d'} hw e=>
  (yK h q hm hk hw (e:=(1,d',(a05.az,0),0)) ⟨fun _=>by show aZ S d'.body;rw[e];exact hd,fun h=>absurd h (by show¬(1:Int)=2;decide)⟩).bind fun y hy=>ae (by
    rw[if_pos (show cL.kind (1,d',(a05.az,0),0)=1 from rfl)]at hy;exact hy)
 have no:Ok (some n) fun y=>NE RR (m+2) (k+1) y:=ae ⟨S,DD,G,q.up (by omega) (by omega)⟩
 unfold a3c
 exact aC (fun _=>go (.inl rfl) rfl) fun _=>aP (fun _=>aC (fun _=>go (.inl rfl) rfl) fun _=>aC (fun _=>go (.inr rfl) rfl) fun _=>no) fun _=>aC (fun _=>go (.inr rfl) rfl) fun _=>no
theorem Aj(h:Lm L RR)(q:NI RR m k S DD G n)(hm:m<=999)(hk:k<=179){a:a0g}(h0:0<=a.place)(h1:a.place<(n.a06.length:Int))(ha:a.kind=1∨a.kind=2):
 Ok (ng L a n) fun y=>y.2=0/\(a.kind=1->NE RR (m+2) (k+1) y.1)/\(a.kind=2->NE RR m k y.1/\y.1.a06.length+1=n.a06.length/\y.1.bG=n.bG):=by
 unfold ng
 have:=q.C4
 have e1:add a.place 1=a.place+1:=fK (by omega) (by omega)
 rw[e1]
 obtain⟨i,hi⟩:∃i:Nat,a.place=(i:Int):=⟨a.place.toNat,by omega⟩
 rw[hi,a08,show((i:Int)+1).toNat=i+1 by omega]
 have hlt:i<n.a06.length:=by omega
 have hd:n.a06[i]?=some n.a06[i]:=List.getElem?_eq_getElem hlt
 have hc:=pZ n.a06 i
 have q1:=q.a06 (l:=n.a06.take i++n.a06.drop (i+1)) (fun d hd=>q.fl d (vX hd)) (by have:=hc.length_le;omega)
 have hlen:(n.a06.take i++n.a06.drop (i+1)).length+1=n.a06.length:=by rw[List.length_append,List.length_take,List.length_drop];omega
 refine ay (by omega) (a03 hlt (ay (by omega) (ay (by omega) (bD (by simp[Nat.ble_eq];omega) (aC (fun k1=> ?_) fun k1=>ae ⟨rfl,fun e=>absurd e k1,fun _=>⟨⟨S,DD,G,q1⟩,hlen,rfl⟩⟩)))))
 rw[bB hd]
 exact(Ic h q1 hm hk (q.fl _ (bC hd))).bind fun y hy=>ae ⟨rfl,fun _=>hy,fun e=>by omega⟩
theorem PJ(h:Lm L RR)(q:NI RR m k S DD G n)(hm:m<=990)(hk:k<=179){a:a0g}(ha:Px S a):
 Ok (eS L n a) fun y=>(y.2=0->NE RR (m+4) (if a.kind=1 then k+1 else k) y.1)/\(y.2=0->xC n a):=by
 unfold eS kk
 refine(Gi h.lo h.hi).bind fun y3 h3=>aP (fun hne=>ae ⟨fun e=>absurd e hne,fun e=>absurd e hne⟩) fun e=>aD (ae ?_)
 have ht:=h3 e
 have up:∀{y:ai},NE RR m k y->NE RR (m+4) (if a.kind=1 then k+1 else k) y:=fun h=>h.up (by omega) (by split<;>omega)
 have hfl:=q.C4
 refine Ok.mono (R:=fun y=>y.2=0->NE RR (m+4) (if a.kind=1 then k+1 else k) y.1) ?_ fun y hy=>⟨hy,fun _=>ht⟩
 refine aC (fun k1=> ?_) fun n1=>aC (fun k2=> ?_) fun n2=>aC (fun k3=> ?_) fun n3=>aC (fun k4=> ?_) fun n4=>aC (fun k5=> ?_) fun n5=>aC (fun k6=> ?_) fun n6=>aC (fun k7=> ?_) fun n7=>aC (fun k8=> ?_) fun n8=>aC (fun _=>ae fun _=>up ⟨S,DD,G,q.trans⟩) fun _=>ae fun _=>up ⟨S,DD,G,q⟩
 ·obtain⟨f1,f2⟩:=ht.V2 (.inl k1)
  exact(Aj h q (by omega) hk f1 f2 (.inl k1)).mono fun y hy _=>by rw[if_pos k1];exact(hy.2.1 k1).up (by omega) (Nat.le_refl _)
 ·obtain⟨f1,f2⟩:=ht.V2 (.inr (.inl k2))
  exact(Aj h q (by omega) hk f1 f2 (.inr k2)).mono fun y hy _=>up (hy.2.2 k2).1
 ·obtain⟨f1,f2⟩:=ht.V2 (.inr (.inr (.inl k3)))
  have f3:=ht.a4h (.inl k3)
  have hlt:a.place.toNat<n.a06.length:=by omega
  have hd:n.a06[a.place.toNat]?=some n.a06[a.place.toNat]:=List.getElem?_eq_getElem hlt
  rw[bB hd]
  refine ay (by omega) (a03 hlt (bD (cF (by rw[List.length_append];show(_+1)*56<=_;omega)) (ae fun _=>up ⟨S,DD,G,q.a06 (fun d hd'=> ?_) (by rw[List.length_append];show n.a06.length+1<=60;omega)⟩)))
  rcases List.mem_append.1 hd' with hd'|hd'
  ·exact q.fl d hd'
  ·rw[List.mem_singleton]at hd';rw[hd'];exact q.fl _ (bC hd)
 ·obtain⟨f1,f2⟩:=ht.V2 (.inr (.inr (.inr (.inl k4))))
  have hlt:a.place.toNat<n.a06.length:=by omega
  refine ay (by omega) (a03 hlt (ae fun _=>up ⟨S,DD,G,q.a06 (fun d hd'=> ?_) (by rw[List.length_set];exact hfl)⟩))
  rcases kH hd' with e|hd'
  ·rw[e];exact aZ.vR (t:=T.V3 0) ⟨Nat.zero_le _,trivial⟩ (by decide)
  ·exact q.fl d hd'
 ·obtain⟨f1,f2⟩:=ht.V2 (.inr (.inr (.inr (.inr k5))))
  have hlt:a.place.toNat<n.a06.length:=by omega
  have hd:n.a06[a.place.toNat]?=some n.a06[a.place.toNat]:=List.getElem?_eq_getElem hlt
  rw[bB hd]
  refine ay (by omega) (a03 hlt (ae fun _=>up ⟨S,DD,G,q.a06 (fun d hd'=> ?_) (by rw[List.length_set];exact hfl)⟩))
  rcases kH hd' with e|hd'
  ·rw[e];exact q.fl n.a06[a.place.toNat] (bC hd)
  ·exact q.fl d hd'
 ·have f3:=ht.a4h (.inr k6)
  refine bD (cF (by rw[List.length_append];show(_+1)*56<=_;omega)) (ae fun _=>up ⟨S,DD,G,q.a06 (fun d hd'=> ?_) (by rw[List.length_append];show n.a06.length+1<=60;omega)⟩)
  rcases List.mem_append.1 hd' with hd'|hd'
  ·exact q.fl d hd'
  ·rw[List.mem_singleton]at hd';rw[hd'];exact ha.FN k6
 ·obtain⟨w1,w2⟩:=ht.gB k7
  refine(yK h q (by omega) hk w1 (e:=a.nD) ⟨fun e=>absurd e w2,ha.evt k7⟩).bind fun y hy=>aP (fun hne=>ae fun e=>absurd e hne) fun _=>ae fun _=> ?_
  rw[if_neg w2]at hy
  exact hy.up (by omega) (by split<;>omega)
 ·have ev:∀S,F5 S (4,(0,0,(0,0,TL.nil)),(a05.az,0),0):=fun S=>⟨fun h=>absurd h (by show¬(4:Int)=1;decide),fun h=>absurd h (by show¬(4:Int)=2;decide)⟩
  refine(yK h q (by omega) hk (.inl rfl) (ev S)).bind fun y hy=> ?_
  rw[if_neg (show¬cL.kind (4,(0,0,(0,0,TL.nil)),(a05.az,0),0)=1 by show¬(4:Int)=1;decide)]at hy
  obtain⟨S1,DD1,G1,q1⟩:=hy
  refine(yK h q1 (by omega) hk (.inr rfl) (ev S1)).bind fun z hz=>ae fun _=> ?_
  rw[if_neg (show¬cL.kind (4,(0,0,(0,0,TL.nil)),(a05.az,0),0)=1 by show¬(4:Int)=1;decide)]at hz
  rw[if_neg n1];exact hz
end
def yM(l:List Int):Prop:=l.length<=1000/\∀v∈l,0<=v/\v<256
def At(l:List Int)(n:Int):Prop:=0<=n/\n<=(l.length:Int)
theorem wG{a:Int}:0<=IntKind.u64.wrap a/\IntKind.u64.wrap a<18446744073709551616:=by
 have:IntKind.u64.wrap a=a%18446744073709551616:=by unfold IntKind.wrap;simp[IntKind.signed,IntKind.bits]
 rw[this];omega
theorem CX{a x:Int}(h0:0<=a)(hx:0<x):0<=a.tmod x/\a.tmod x<x:=by
 rw[Int.tmod_eq_emod_of_nonneg h0]
 exact⟨Int.emod_nonneg _ (by omega),Int.emod_lt_of_pos _ hx⟩
section
variable {L:Nat}{l:List Int}{n:Int}
theorem dy(hl:yM l)(h:At l n){x:Int}(hx:0<x):Ok (bj L l n x) fun y=>At l y.1/\0<=y.2/\y.2<x:=by
 unfold bj gN
 have h1:=hl.1
 have h2:=h.1
 have h3:=h.2
 refine aD (ae (bX (fun _=>ae ⟨h,Int.le_refl _,hx⟩) fun hlt=> ?_))
 have e:sub (add n 1) 1=n:=by
  rw[show add n 1=n+1 from fK (by omega) (by omega),uT (by omega) (by omega)];omega
 show Ok (aJ (!(aF (sub (add n 1) 1) 0)) _) _
 rw[e]
 have hn:n.toNat<l.length:=by omega
 refine ay (by omega) (a03 hn (eK (by omega) (ae ?_)))
 have ev:l.getD n.toNat 0=l[n.toNat]:=by simp[List.getD,hn]
 obtain⟨v1,v2⟩:=hl.2 _ (List.getElem_mem hn)
 have ew:aY .i64 (l.getD n.toNat 0)=l[n.toNat]:=by rw[ev];exact u7 (by omega) (by omega)
 have ea:add n 1=n+1:=fK (by omega) (by omega)
 show At l (add n 1)/\0<=(aY .i64 (l.getD n.toNat 0)).tmod x/\(aY .i64 (l.getD n.toNat 0)).tmod x<x
 rw[ew,ea]
 exact⟨⟨by omega,by omega⟩,CX v1 hx⟩
theorem vg(hl:yM l)(h:At l n){w s t pr sp tp:Int}(h1:0<=s/\s<18446744073709551616)(h2:0<=t/\t<18446744073709551616)(h3:0<=pr/\pr<=255)(h4: -1<=sp/\sp<=65535)(h5: -1<=tp/\tp<=65535):
 Ok (nR L l n w s t pr sp tp) fun y=>At l y.1/\pW y.2/\jT y.2.bf:=by
 unfold nR
 have z:(0:Int)<=0/\(0:Int)<18446744073709551616:=by decide
 exact aC (fun _=>(dy hl h (by decide)).bind fun y hy=>ae ⟨hy.1,⟨z,h2,z,h1⟩,h3,h5,h4⟩) fun _=>(dy hl h (by decide)).bind fun y hy=>ae ⟨hy.1,⟨z,h1,z,h2⟩,h3,h4,h5⟩
theorem Bw(hl:yM l)(h:At l n){w:Int}:Ok (pS L l n w) fun y=>At l y.1/\pW y.2/\jT y.2.bf:=by
 have hB:∀{n s t pr:Int},At l n->(0<=s/\s<18446744073709551616)->(0<=t/\t<18446744073709551616)->(0<=pr/\pr<=255)->Ok (a5a L l n w s t pr) fun y=>At l y.1/\pW y.2/\jT y.2.bf:=fun{n s t pr} h h1 h2 h3=>by
  have hP:Ok (qv L l n w s t pr) fun y=>At l y.1/\pW y.2/\jT y.2.bf:=by
   unfold qv
   refine(dy hl h (by decide)).bind fun y8 ⟨a1,a2,a3⟩=>(dy hl a1 (by decide)).bind fun y9 ⟨b1,b2,b3⟩=>(dy hl b1 (by decide)).bind fun y10 ⟨c1,_,_⟩=>aC (fun _=>vg hl c1 h1 h2 h3 (by decide) (by decide)) fun _=> ?_
   have e1:add 1024 y8.2=1024+y8.2:=fK (by omega) (by omega)
   have e2:mul y9.2 8=y9.2*8:=Lj (by omega) (by omega)
   have e3:add 80 (y9.2*8)=80+y9.2*8:=fK (by omega) (by omega)
   rw[e1,e2,e3]
   exact vg hl c1 h1 h2 h3 (by omega) (by omega)
  unfold a5a
  exact aC (fun _=>hP) fun _=>aC (fun _=>hP) fun _=>vg hl h h1 h2 h3 (by decide) (by decide)
 have hA:∀{n s t:Int},At l n->(0<=s/\s<18446744073709551616)->(0<=t/\t<18446744073709551616)->Ok (qu L l n w s t) fun y=>At l y.1/\pW y.2/\jT y.2.bf:=fun{n s t} h h1 h2=>by
  unfold qu
  refine(dy hl h (by decide)).bind fun y7 ⟨a1,a2,a3⟩=>ay (by omega) (a03 (by omega) (hB a1 h1 h2 ?_))
  have:y7.2=0∨y7.2=1∨y7.2=2∨y7.2=3:=by omega
  rcases this with e|e|e|e<;>rw[e]<;>decide
 unfold pS
 exact(dy hl h (by decide)).bind fun y4 ⟨a1,_,_⟩=>(dy hl a1 (by decide)).bind fun y5 ⟨b1,_,_⟩=>(dy hl b1 (by decide)).bind fun y6 ⟨c1,_,_⟩=>aC (fun _=>hA c1 wG wG) fun _=>hA c1 wG wG
theorem Kr(hl:yM l)(h:At l n){w:Int}{mild:Bool}:Ok (ux L l n w mild) fun y=>At l y.1/\(y.2.kind=2->pW y.2.clear/\jT y.2.clear.bf):=by
 have hA:∀{n x k:Int},At l n->Ok (pQ L l n w x k) fun y=>At l y.1/\(y.2.kind=2->pW y.2.clear/\jT y.2.clear.bf):=fun{n x k} h=>by
  unfold pQ
  have no:∀{j:Int} {c:Clear},j≠2->Ok (some (n,(j,(0,0,(0,0,TL.nil)),c,x)):Option (Int×cL)) fun y=>At l y.1/\(cL.kind y.2=2->pW (cL.clear y.2)/\jT (cL.clear y.2).bf):=fun hj=>ae ⟨h,fun e=>absurd e hj⟩
  refine aM (fun _=>(Bw hl h).bind fun y ⟨a1,a2,a3⟩=>ae ⟨a1,fun _=>⟨a2,a3⟩⟩) fun _=>aM (fun _=>no (by decide)) fun _=>aM (fun _=>no (by decide)) fun _=>aC (fun _=>no (by decide)) fun _=>aC (fun _=>no (by decide)) fun _=>aC (fun _=>no (by decide)) fun _=>aC (fun _=> ?_) fun _=>aC (fun _=> ?_) fun _=> ?_
  ·refine(dy hl h (by decide)).bind fun y7 ⟨a1,a2,a3⟩=>ay (by omega) (a03 (by omega) (ae ⟨a1,fun e=> ?_⟩))
   have e:[(9:Int),13].getD y7.2.toNat 0=2:=e
   have:y7.2=0∨y7.2=1:=by omega
   rcases this with e1|e1<;>rw[e1]at e<;>exact absurd e (by decide)
  ·refine(dy hl h (by decide)).bind fun y7 ⟨a1,a2,a3⟩=>ay (by omega) (a03 (by omega) (ae ⟨a1,fun e=>absurd e (by show¬(11:Int)=2;decide)⟩))
  ·refine(Bw hl h).bind fun y7 ⟨a1,_,_⟩=>(dy hl a1 (by decide)).bind fun y8 ⟨b1,_,_⟩=>aC (fun _=> ?_) fun _=>ae ⟨b1,fun e=>absurd e (by show¬(3:Int)=2;decide)⟩
   exact(dy hl b1 (by decide)).bind fun y9 ⟨c1,c2,c3⟩=>ay (by omega) (a03 (by omega) (ae ⟨c1,fun e=>absurd e (by show¬(12:Int)=2;decide)⟩))
 unfold ux
 exact(dy hl h (by decide)).bind fun y5 ⟨a1,_,_⟩=>(dy hl a1 (by decide)).bind fun y6 ⟨b1,_,_⟩=>bJ (fun _=>bX (fun _=>hA b1) fun _=>hA b1) fun _=>hA b1
theorem TL.Cu:∀{a:TL} {i:Nat} {t:Tm},a.cP->t.cP->(a.set i t).cP
 | .nil,_,_,h,_=>h
 | .cons o v x r,0,t,h,k=>⟨k.1,k.2,h.2.2⟩
 | .cons o v x r,i+1,t,h,k=>⟨h.1,h.2.1,TL.Cu (a:=r) h.2.2 k⟩
theorem TL.FB{S:List jn}:∀{a:TL} {i:Nat} {t:Tm},a.gd S->t.gd S->(a.set i t).gd S
 | .nil,_,_,h,_=>h
 | .cons o v x r,0,t,h,k=>⟨k.1,k.2,h.2.2⟩
 | .cons o v x r,i+1,t,h,k=>⟨h.1,h.2.1,TL.FB (a:=r) h.2.2 k⟩
theorem TL.Cl:∀(a:TL) (i:Nat) (t:Tm),(a.set i t).len=a.len
 | .nil,_,_=>rfl
 | .cons o v x r,0,t=>rfl
 | .cons o v x r,i+1,t=>by
   show(TL.cons o v x (r.set i t)).len=_
   simp only[TL.len,TL.Cl r i t]
theorem aZ.a4O{S:List jn}{o v:Int}{a:TL}(e:o=3)(h:GL S a):aZ S (o,v,a):=by
 subst e
 exact⟨⟨h.1,h.2.1⟩,FY (by show(3:Int)≠7;decide) (by show(3:Int)≠8;decide),fun _=>h.2.2⟩
theorem Iz{S:List jn}(hl:yM l)(h:At l n){f t:Int}{x o:Tm}(hx:aZ S x)(ho:aZ S o):Ok (vr L l n f t x o) fun y=>At l y.1/\aZ S y.2.body:=by
 unfold vr
 refine(dy hl h (by decide)).bind fun y10 ⟨a1,_,_⟩=> ?_
 have no:∀{n:Int},At l n->Ok (some (n,(f,t,x)):Option (Int×aj)) fun y=>At l y.1/\aZ S (aj.body y.2):=fun h=>ae ⟨h,hx⟩
 refine aM (fun _=>aC (fun h3=>aM (fun hlen=> ?_) fun _=>no a1) fun _=>no a1) fun _=>no a1
 have ha:=hx.args (.inl h3)
 have eY:=ha.1
 refine bD (cF (by show x.2.2.len*40<=_;omega)) ((dy hl a1 hlen).bind fun y11 ⟨b1,b2,b3⟩=>ay (by omega) (a03 (by omega) (aC (fun h1=> ?_) fun _=>aC (fun k3=>aM (fun k4=> ?_) fun _=>no b1) fun _=>no b1)))
 ·refine ay (by omega) (a03 (by omega) ((dy hl b1 (by decide)).bind fun y12 ⟨c1,_,_⟩=>ay (by omega) (a03 (by omega) (ae ⟨c1,aZ.a4O h3 ⟨by rw[TL.Cl];exact eY,TL.Cu ha.2.1 ?_,TL.FB ha.2.2 ?_⟩⟩))))
  ·exact(TL.a2C ha.2.1 y11.2.toNat:(x.2.2.get y11.2.toNat).cP)
  ·exact Tm.DV (by show¬Tm.op _=3;rw[h1];show¬(1:Int)=3;decide) (by show¬Tm.op _=7;rw[h1];show¬(1:Int)=7;decide) (by show¬Tm.op _=8;rw[h1];show¬(1:Int)=8;decide)
 ·have hb:=ho.args (.inl k3)
  refine ay (by omega) (a03 (by omega) (ay (by omega) (a03 (by omega) (ae ⟨b1,aZ.a4O h3 ⟨by rw[TL.Cl];exact eY,TL.Cu ha.2.1 (hb.get _).1,TL.FB ha.2.2 (hb.get _).2⟩⟩))))
theorem Ph{a b:Int}(ha:0<=a/\a<256)(hb:0<=b/\b<256):0<=EZ .i64 (shl a 8) b:=by
 have e:shl a 8=a*256:=by
  show IntKind.i64.wrap (a*2^min (Int.toNat 8) 64)=_
  exact u7 (by show _<=a*256;omega) (by show a*256<_;omega)
 rw[e]
 have h1:(BitVec.ofInt 64 (a*256)|||BitVec.ofInt 64 b).toNat<65536:=by
  rw[BitVec.toNat_or,BitVec.toNat_ofInt,BitVec.toNat_ofInt]
  exact Nat.or_lt_two_pow (n:=16) (by omega) (by omega)
 show 0<=IntKind.i64.wrap (((BitVec.ofInt 64 (a*256)|||BitVec.ofInt 64 b).toNat:Nat):Int)
 generalize(BitVec.ofInt 64 (a*256)|||BitVec.ofInt 64 b).toNat=m at h1
 have h2:IntKind.i64.wrap (m:Int)=(m:Int):=u7 (by omega) (by omega)
 rw[h2];omega
theorem Cf{S:List jn}(hl:yM l)(h:At l n){u:ai}(hs:u.seen.cP/\u.seen.gd S):Ok (nv L l n u) fun y=>At l y.1/\aZ S y.2.body:=by
 unfold nv
 refine(dy hl h (by decide)).bind fun y4 ⟨a1,_,_⟩=>(dy hl a1 (by decide)).bind fun y5 ⟨b1,_,_⟩=>aC (fun _=>ae ⟨b1,aZ.zero⟩) fun h0=> ?_
 have hp:(0:Int)<(u.seen.len:Int):=by omega
 refine(dy hl b1 (by decide)).bind fun y6 ⟨c1,c2,c3⟩=>(dy hl c1 (by decide)).bind fun y7 ⟨d1,d2,d3⟩=> ?_
 have m1:=CX (Ph ⟨c2,c3⟩ ⟨d2,d3⟩) hp
 refine eK h0 (ay (by show¬(EZ .i64 (shl y6.2 8) y7.2).tmod _<0;omega) (a03 (by show((EZ .i64 (shl y6.2 8) y7.2).tmod _).toNat<_;omega) ?_))
 refine(dy hl d1 (by decide)).bind fun y8 ⟨e1,e2,e3⟩=>(dy hl e1 (by decide)).bind fun y9 ⟨f1,f2,f3⟩=> ?_
 have m2:=CX (Ph ⟨e2,e3⟩ ⟨f2,f3⟩) hp
 refine eK h0 (ay (by show¬(EZ .i64 (shl y8.2 8) y9.2).tmod _<0;omega) (a03 (by show((EZ .i64 (shl y8.2 8) y9.2).tmod _).toNat<_;omega) ?_))
 exact Iz hl f1 ⟨TL.a2C hs.1 _,TL.C8 hs.2 _⟩ ⟨TL.a2C hs.1 _,TL.C8 hs.2 _⟩
theorem Ib{S:List jn}(hl:yM l)(h:At l n){u:ai}(hs:u.seen.cP/\u.seen.gd S){x:Bool}:Ok (a3P L l n u x) fun y=>At l y.1/\Px S y.2:=by
 unfold a3P
 have hm:¬eN 1 (u.a06.length:Int)=0:=by
  unfold eN
  intro e
  by_cases hh:(1:Int)<(u.a06.length:Int)
  ·rw[a2a hh,cond_true]at e;omega
  ·rw[a0k hh,cond_false]at e;exact absurd e (by decide)
 refine(dy hl h (by decide)).bind fun y5 ⟨a1,_,_⟩=>eK hm ((dy hl a1 (by decide)).bind fun y6 ⟨b1,_,_⟩=>(dy hl b1 (by decide)).bind fun y7 ⟨c1,_,_⟩=> ?_)
 have no:∀{n:Int} {a:a0g},At l n->a.kind≠6->a.kind≠7->Ok (some (n,a)) fun y=>At l y.1/\Px S y.2:=fun h1 h2 h3=>ae ⟨h1,fun e=>absurd e h2,fun e=>absurd e h3⟩
 refine aM (fun _=>no c1 (by show¬(1:Int)=6;decide) (by show¬(1:Int)=7;decide)) fun _=>aM (fun _=>no c1 (by show¬(8:Int)=6;decide) (by show¬(8:Int)=7;decide)) fun _=>aM (fun _=> ?_) fun _=>aC (fun _=>no c1 (by show¬(2:Int)=6;decide) (by show¬(2:Int)=7;decide)) fun _=>aC (fun _=>no c1 (by show¬(3:Int)=6;decide) (by show¬(3:Int)=7;decide)) fun _=>bn (fun _=>no c1 (by show¬(1:Int)=6;decide) (by show¬(1:Int)=7;decide)) fun _=>aC (fun _=> ?_) fun _=>aC (fun _=> ?_) fun _=> ?_
 ·exact(Kr hl c1).bind fun y ⟨d1,d2⟩=>ae ⟨d1,fun e=>absurd e (by show¬(7:Int)=6;decide),fun _=>d2⟩
 ·refine(dy hl c1 (by decide)).bind fun y8 ⟨d1,d2,d3⟩=>ay (by omega) (a03 (by omega) ((dy hl d1 (by decide)).bind fun y9 ⟨e1,_,_⟩=> ?_))
  have:y8.2=0∨y8.2=1:=by omega
  rcases this with e|e<;>rw[e]
  ·exact no e1 (by show¬(4:Int)=6;decide) (by show¬(4:Int)=7;decide)
  ·exact no e1 (by show¬(5:Int)=6;decide) (by show¬(5:Int)=7;decide)
 ·exact(Cf hl c1 hs).bind fun y ⟨d1,d2⟩=>ae ⟨d1,fun _=>d2,fun e=>absurd e (by show¬(6:Int)=7;decide)⟩
 ·exact(dy hl c1 (by decide)).bind fun y8 ⟨d1,d2,d3⟩=>ay (by omega) (a03 (by omega) (no d1 (by show¬(9:Int)=6;decide) (by show¬(9:Int)=7;decide)))
end
section
variable {RR:Int->List aQ}{m k:Nat}{S S':List jn}{DD:Int->Dl}{G:List (aS×Int×Int)}{n:ai}{L:Nat}
theorem Bp(q:NE RR m k n):pR L n=some true:=by
 obtain⟨S,DD,G,q⟩:=q
 unfold pR
 have g0:=q.gi 0 (.inl rfl)
 have g1:=q.gi 1 (.inr rfl)
 have a1:=g0.nh;have a2:=g0.len;have a3:=g0.xZ;have a4:=g0.nt
 have b1:=g1.nh;have b2:=g1.len;have b3:=g1.xZ;have b4:=g1.nt
 have c:=q.C4
 have e0:gt n 0=n.bG.1:=rfl
 have e1:gt n 1=n.bG.2:=rfl
 rw[e0]at a1 a2 a3 a4
 rw[e1]at b1 b2 b3 b4
 rw[a0k (by omega),a0k (by omega),a0k (by omega),a0k (by omega),a0k (by omega),a0k (by omega),a0k (by omega),a0k (by omega),a0k (by omega)];rfl
theorem O0(h:Lm L RR){n:ai}(q:NE RR 0 0 n){rr:(List aQ)×(List aQ)}{l:List Int}(hl:yM l){x:Bool}:Ok (a4T L n rr l x) fun y=>y.2.2=true/\y.2.1=rr/\NE RR 360 90 y.1:=by
 have hlo:=h.lo
 unfold a4T
 refine Ok.bind (P:=fun y=>∃z,y=.inl z/\NE RR 360 90 z.1) ?_ fun y ⟨z,e,hz⟩=>by rw[e];exact ae ⟨rfl,rfl,hz⟩
 refine a0i 90 (fun i s=>s.1=(i:Int)/\NE RR (4*i) i s.2.1/\a2R.a01 s.2.2.2.2=l/\At l (a2R.at_ s.2.2.2.2)) (by omega) ⟨rfl,q,rfl,by show(0:Int)<=0;decide,by show(0:Int)<=_;omega⟩ (fun i s hi hs=> ?_) fun s hs=> ?_
 ·obtain⟨a,u,v,r,c⟩:=s
  obtain⟨rfl,h1,h2,h3⟩:=hs
  dsimp only at h1 h2 h3⊢
  have dH:∀{y:Int},Ok (some (Sum.inr (Sum.inl (u,v,r,a2R.oe c y))):Option ((Int×ai×ai×((List aQ)×(List aQ))×a2R)⊕((ai×ai×((List aQ)×(List aQ))×a2R)⊕(Bool×ai×((List aQ)×(List aQ)))))) (Sum.elim (fun s=>s.1=((i+1:Nat):Int)/\NE RR (4*(i+1)) (i+1) s.2.1/\a2R.a01 s.2.2.2.2=l/\At l (a2R.at_ s.2.2.2.2)) fun y=>∃z,y=.inl z/\NE RR 360 90 z.1):=ae ⟨_,rfl,h1.up (by omega) (by omega)⟩
  unfold gN
  refine aD (ae (bJ (fun _=>aM (fun _=> ?_) fun _=>dH) fun _=>dH))
  rw[h2]
  obtain⟨S,DD,G,q1⟩:=h1
  refine(Ib hl h3 q1.sn).bind fun y7 ⟨a1,a2⟩=> ?_
  refine(PJ h q1 (by omega) (by omega) a2).bind fun y8 ⟨b1,_⟩=>aC (fun e=> ?_) fun _=> ?_
  ·have q2:=(b1 e).up (m':=4*(i+1)) (k':=i+1) (by omega) (by split<;>omega)
   rw[Bp q2]
   exact aD (ae (bn (fun e=>by cases e) fun _=>ae ⟨cG i (by omega),q2,h2,a1⟩))
  ·have q2:NE RR (4*(i+1)) (i+1) u:=NE.up ⟨S,DD,G,q1⟩ (by omega) (by omega)
   rw[Bp q2]
   exact aD (ae (bn (fun e=>by cases e) fun _=>ae ⟨cG i (by omega),q2,h2,a1⟩))
 ·obtain⟨a,u,v,r,c⟩:=s
  obtain⟨rfl,h1,h2,h3⟩:=hs
  dsimp only at h1 h2 h3⊢
  unfold gN
  refine aD (ae (bJ (fun _=>aM (fun h=>by omega) fun _=>ae ⟨_,rfl,h1⟩) fun _=>ae ⟨_,rfl,h1⟩))
end
def AT(b:aU):Prop:=b.a0c.bx=b.cB.bx/\b.bU.bx=b.bT.bx/\(-1<=b.de/\b.de<=1000000)/\(-1<=b.a0m/\b.a0m<=1000000)/\(-1<=b.aL.1/\b.aL.1<=1000000)/\(-1<=b.aL.2/\b.aL.2<=1000000)/\(-1<=b.aI.1/\b.aI.1<=1000000)/\(-1<=b.aI.2/\b.aI.2<=1000000)
def a3s(R:List aQ):Prop:=dQ R/\∀r∈R,∀b∈r.cI,AT b
def vW(a b:Address):Bool:=bif !(aH a.bx b.bx)then aF a.bx b.bx else bif !(aH a.hi b.hi)then aF a.hi b.hi else aF a.lo b.lo
def Dp(a lo hi:Address):Bool:=aH a.bx lo.bx&&(!(vW a lo)&& !(vW hi a))
def uZ(b:aU)(s t:Address)(pr sp tp:Int):Bool:=
 Dp s b.a0c b.cB&&(Dp t b.bU b.bT&&(!(aF pr b.de)&&(!(aF b.a0m pr)&&(!(aF sp b.aL.1)&&(!(aF b.aL.2 sp)&&(!(aF tp b.aI.1)&& !(aF b.aI.2 tp)))))))
theorem qJ{a b:Address}:aF 0 (BT a b)=decide (b.bx<a.bx∨b.bx=a.bx/\(b.hi<a.hi∨b.hi=a.hi/\b.lo<a.lo)):=by
 unfold BT
 by_cases h1:a.bx<b.bx
 ·rw[a2a h1,cond_true]
  exact(decide_eq_false (by omega)).symm
 rw[a0k h1,cond_false]
 by_cases h2:b.bx<a.bx
 ·rw[a2a h2,cond_true]
  exact(decide_eq_true (.inl h2)).symm
 rw[a0k h2,cond_false]
 by_cases h3:a.hi<b.hi
 ·rw[a2a h3,cond_true]
  exact(decide_eq_false (by omega)).symm
 rw[a0k h3,cond_false]
 by_cases h4:b.hi<a.hi
 ·rw[a2a h4,cond_true]
  exact(decide_eq_true (by omega)).symm
 rw[a0k h4,cond_false]
 by_cases h5:a.lo<b.lo
 ·rw[a2a h5,cond_true]
  exact(decide_eq_false (by omega)).symm
 rw[a0k h5,cond_false]
 by_cases h6:b.lo<a.lo
 ·rw[a2a h6,cond_true]
  exact(decide_eq_true (by omega)).symm
 rw[a0k h6,cond_false]
 exact(decide_eq_false (by omega)).symm
theorem Bo{a b:Address}:vW a b=decide (a.bx<b.bx∨a.bx=b.bx/\(a.hi<b.hi∨a.hi=b.hi/\a.lo<b.lo)):=by
 unfold vW aF aH
 by_cases h1:a.bx=b.bx
 ·by_cases h2:a.hi=b.hi
  ·simp[h1,h2]
  ·simp[h1,h2]
 ·simp[h1]
theorem Ho{lo hi a:Address}(h:lo.bx=hi.bx):Iv lo hi a=Dp a lo hi:=by
 unfold Iv Dp
 rw[qJ,qJ,Bo,Bo,Bool.eq_iff_iff]
 simp only[aH,Bool.and_eq_true,Bool.not_eq_true',decide_eq_false_iff_not,decide_eq_true_eq]
 omega
theorem Ce{a b x:Int}(ha: -1<=a/\a<=1000000)(hb: -1<=b/\b<=1000000)(hx: -1<=x/\x<=1000000):Iv (lC a) (lC b) (lC x)=(!(aF x a)&& !(aF b x)):=by
 have e:∀{n:Int},-1<=n->n<=1000000->lC n=(0,0,n+1):=fun{n} h1 h2=>by
  unfold lC
  rw[show add n 1=n+1 from fK (by omega) (by omega),show aY .u64 (n+1)=n+1 from xT (by omega) (by omega)]
 rw[e ha.1 ha.2,e hb.1 hb.2,e hx.1 hx.2]
 unfold Iv
 rw[qJ,qJ,Bool.eq_iff_iff]
 simp only[aF,Bool.and_eq_true,Bool.not_eq_true',decide_eq_false_iff_not]
 show(¬((0:Int)<0∨(0:Int)=0/\((0:Int)<0∨(0:Int)=0/\x+1<a+1))/\¬((0:Int)<0∨(0:Int)=0/\((0:Int)<0∨(0:Int)=0/\b+1<x+1)))↔_
 omega
theorem Cc{b:aU}(h:AT b){s t:Address}{pr sp tp:Int}(h1: -1<=pr/\pr<=1000000)(h2: -1<=sp/\sp<=1000000)(h3: -1<=tp/\tp<=1000000):Cb b s t pr sp tp=uZ b s t pr sp tp:=by
 obtain⟨b1,b2,b3,b4,b5,b6,b7,b8⟩:=h
 unfold Cb uZ
 rw[Ho b1,Ho b2,Ce b3 b4 h1,Ce b5 b6 h2,Ce b7 b8 h3]
 simp only[Bool.and_assoc,Bool.and_true]
theorem a4N{b:aU}{s t:Address}{pr tp:Int}:uZ b s t pr (eN 0 b.aL.2) tp=(!(aF b.aL.2 0)&&uZ b s t pr b.aL.2 tp):=by
 by_cases h:(0:Int)<b.aL.2
 ·rw[show eN 0 b.aL.2=b.aL.2 by unfold eN;rw[a2a h];rfl,a0k (show¬b.aL.2<0 by omega)];rfl
 ·have e:eN 0 b.aL.2=0:=by unfold eN;rw[a0k h];rfl
  rw[e]
  by_cases h0:b.aL.2=0
  ·rw[<-h0,a0k (show¬b.aL.2<b.aL.2 by omega)];rfl
  ·have hz:aF b.aL.2 0=true:=a2a (by omega)
   unfold uZ
   rw[hz];simp
theorem P3{b:aU}{s t:Address}{pr sp:Int}:uZ b s t pr sp (eN 0 b.aI.2)=(!(aF b.aI.2 0)&&uZ b s t pr sp b.aI.2):=by
 by_cases h:(0:Int)<b.aI.2
 ·rw[show eN 0 b.aI.2=b.aI.2 by unfold eN;rw[a2a h];rfl,a0k (show¬b.aI.2<0 by omega)];rfl
 ·have e:eN 0 b.aI.2=0:=by unfold eN;rw[a0k h];rfl
  rw[e]
  by_cases h0:b.aI.2=0
  ·rw[<-h0,a0k (show¬b.aI.2<b.aI.2 by omega)];rfl
  ·have hz:aF b.aI.2 0=true:=a2a (by omega)
   unfold uZ
   rw[hz];simp
section
variable {L:Nat}
theorem GN{a b:Address}:pI L a b=some (vW a b):=by
 unfold pI vW
 cases aH a.bx b.bx<;>cases aH a.hi b.hi<;>rfl
theorem yL{a lo hi:Address}:j8 L a lo hi=some (Dp a lo hi):=by
 unfold j8 Dp
 rw[GN,GN]
 show(bif aH a.bx lo.bx then(bif !(vW a lo)then some !(vW hi a)else some false)else some false)=_
 cases aH a.bx lo.bx<;>cases vW a lo<;>rfl
def ef(p:a05)(o:Bool):a05:=bif o then p else a05.az (bZ:=p.target) (target:=p.bZ) (aR:=p.aR) (aK:=p.aO) (aO:=p.aK)
theorem GU{p:a05}{o:Bool}:kU L p o=some (ef p o):=by
 unfold kU ef
 cases o<;>rfl
theorem D9{b:aU}{p:a05}{o:Bool}:dJ L b p o=some (uZ b (ef p o).bZ (ef p o).target (ef p o).aR (ef p o).aK (ef p o).aO):=by
 unfold dJ uZ
 rw[GU]
 show Option.bind (j8 L (ef p o).bZ b.a0c b.cB) _=_
 rw[yL,yL]
 generalize ef p o=q
 cases Dp q.bZ b.a0c b.cB<;>cases Dp q.target b.bU b.bT<;>cases aF q.aR b.de<;>cases aF b.a0m q.aR<;>cases aF q.aK b.aL.1<;>cases aF b.aL.2 q.aK<;>cases aF q.aO b.aI.1<;>rfl
theorem U7{b:aU}(h:AT b){p:a05}(hp:jT p){o:Bool}:dJ L b p o=some (a3G b p o):=by
 rw[D9]
 obtain⟨h1,h2,h3⟩:=hp
 unfold a3G
 cases o
 ·show some (uZ b p.target p.bZ p.aR p.aO p.aK)=some (Cb b p.target p.bZ p.aR p.aO p.aK)
  rw[Cc h (by omega) (by omega) (by omega)]
 ·show some (uZ b p.bZ p.target p.aR p.aK p.aO)=some (Cb b p.bZ p.target p.aR p.aK p.aO)
  rw[Cc h (by omega) (by omega) (by omega)]
theorem DZ{p:a05}:oJ L p=some ((iE p).1||(iE p).2):=by
 unfold oJ iE
 cases aH (a05.aR p) 6<;>cases aH (a05.aR p) 17<;>cases aH (a05.aR p) 1<;>cases aH (a05.aR p) 58<;>cases aH (a05.aK p) (-1)<;>rfl
theorem Ti{b:aU}(h:AT b){p:a05}(hp:jT p){o:Bool}(hh:((iE p).1||(iE p).2)=true):rU L b p o=some (ry b p o):=by
 obtain⟨h1,h2,h3⟩:=hp
 obtain⟨b1,b2,b3,b4,b5,b6,b7,b8⟩:=id h
 have cl:∀{s t:Address} {sp tp:Int} {a c:Bool},(-1<=sp/\sp<=65535)->(-1<=tp/\tp<=65535)->MW b s t p.aR sp tp a c=((!a|| !(aF b.aL.2 0))&&((!c|| !(aF b.aI.2 0))&&uZ b s t p.aR (bif a then b.aL.2 else sp) (bif c then b.aI.2 else tp))):=fun{s t sp tp a c} k1 k2=>by
  unfold MW
  rw[Cc h (by omega) (by cases a<;>simp<;>omega) (by cases c<;>simp<;>omega)]
 unfold rU ry
 rw[GU]
 have hr:∀{q:a05},dJ L b q true=some (uZ b q.bZ q.target q.aR q.aK q.aO):=D9
 simp only[hr,Option.bind]
 unfold iE at hh⊢
 cases o
 ·rw[cond_false,cl h3 h2]
  show _=some (_&&(_&&uZ b p.target p.bZ p.aR _ _))
  have e1:∀x y:Int,uZ b (a05.bw (ef p false) (aK:=x) (aO:=y)).bZ (a05.bw (ef p false) (aK:=x) (aO:=y)).target (a05.bw (ef p false) (aK:=x) (aO:=y)).aR (a05.bw (ef p false) (aK:=x) (aO:=y)).aK (a05.bw (ef p false) (aK:=x) (aO:=y)).aO=uZ b p.target p.bZ p.aR x y:=fun _ _=>rfl
  have e2:∀x:Int,uZ b (a05.dz (ef p false) x).bZ (a05.dz (ef p false) x).target (a05.dz (ef p false) x).aR (a05.dz (ef p false) x).aK (a05.dz (ef p false) x).aO=uZ b p.target p.bZ p.aR x p.aK:=fun _=>rfl
  have e3:∀x:Int,uZ b (a05.dA (ef p false) x).bZ (a05.dA (ef p false) x).target (a05.dA (ef p false) x).aR (a05.dA (ef p false) x).aK (a05.dA (ef p false) x).aO=uZ b p.target p.bZ p.aR p.aO x:=fun _=>rfl
  have e4:uZ b (ef p false).bZ (ef p false).target (ef p false).aR (ef p false).aK (ef p false).aO=uZ b p.target p.bZ p.aR p.aO p.aK:=rfl
  simp only[e1,e2,e3,e4,a4N,P3]
  revert hh
  cases aH p.aR 6<;>cases aH p.aR 17<;>cases aH p.aR 1<;>cases aH p.aR 58<;>cases aH p.aK (-1)<;>cases aH p.aO (-1)<;>first|(simp;done)|(cases aF b.aL.2 0<;>cases aF b.aI.2 0<;>simp)
 ·rw[cond_true,cl h2 h3]
  have e1:∀x y:Int,uZ b (a05.bw (ef p true) (aK:=x) (aO:=y)).bZ (a05.bw (ef p true) (aK:=x) (aO:=y)).target (a05.bw (ef p true) (aK:=x) (aO:=y)).aR (a05.bw (ef p true) (aK:=x) (aO:=y)).aK (a05.bw (ef p true) (aK:=x) (aO:=y)).aO=uZ b p.bZ p.target p.aR x y:=fun _ _=>rfl
  have e2:∀x:Int,uZ b (a05.dz (ef p true) x).bZ (a05.dz (ef p true) x).target (a05.dz (ef p true) x).aR (a05.dz (ef p true) x).aK (a05.dz (ef p true) x).aO=uZ b p.bZ p.target p.aR x p.aO:=fun _=>rfl
  have e3:∀x:Int,uZ b (a05.dA (ef p true) x).bZ (a05.dA (ef p true) x).target (a05.dA (ef p true) x).aR (a05.dA (ef p true) x).aK (a05.dA (ef p true) x).aO=uZ b p.bZ p.target p.aR p.aK x:=fun _=>rfl
  have e4:uZ b (ef p true).bZ (ef p true).target (ef p true).aR (ef p true).aK (ef p true).aO=uZ b p.bZ p.target p.aR p.aK p.aO:=rfl
  simp only[e1,e2,e3,e4,a4N,P3]
  revert hh
  cases aH p.aR 6<;>cases aH p.aR 17<;>cases aH p.aR 1<;>cases aH p.aR 58<;>cases aH p.aK (-1)<;>cases aH p.aO (-1)<;>first|(simp;done)|(cases aF b.aL.2 0<;>cases aF b.aI.2 0<;>simp)
end
section
variable {L:Nat}(hL:5000<L)(hM:L<=4611686018427387904)
include hL hM
theorem LW{R:List aQ}(hR:a3s R){p:a05}(hp:jT p){o:Bool}:rT L R p o=some (match uS R p o with
 |some k=>((k:Int),true)
 |none=>(0,false)):=by
 unfold rT
 have hR1:=hR.1.1
 rw[jy (γ:=Int×Bool) R (fun i (r:aQ)=>if qy r.cI (fun b=>a3G b p o)=true then some ((i:Int),true)else none) (by omega) hM ?hf ?hs]
 case hf=>
  intro i hi
  have hg:R.getD i aQ.az=R[i]:=by simp[List.getD,hi]
  have hb:=(hR.1.2 _ (List.getElem_mem hi)).1
  rw[a2a (show(i:Int)<(R.length:Int) by omega),cond_true]
  simp only[jg,a08,iF hi,Bool.not_false,eW,hg]
  rw[jy (γ:=Int×Bool) R[i].cI (fun _ b=>if a3G b p o=true then some ((i:Int),true)else none) (by omega) hM ?hf2 ?hs2]
  case hf2=>
   intro j hj
   rw[a2a (show(j:Int)<(R[i].cI.length:Int) by omega),cond_true,jg,a08,iF hj,Bool.not_false,eW,eW,show R[i].cI.getD j aU.az=R[i].cI[j] by simp[List.getD,hj],U7 (hR.2 _ (List.getElem_mem hi) _ (List.getElem_mem hj)) hp,cG j (by omega)]
   show(bif a3G R[i].cI[j] p o then _ else _)=_
   cases a3G R[i].cI[j] p o<;>rfl
  case hs2=>rw[a0k (by omega)];rfl
  rw[pn,cG i (by omega)]
  split<;>rfl
 case hs=>rw[a0k (by omega)];rfl
 have e:∀(R:List aQ) (i:Nat),firstP (fun i (r:aQ)=>if qy r.cI (fun b=>a3G b p o)=true then some ((i:Int),true)else none) i R=Option.map (fun k:Nat=>((k:Int),true)) (firstP (fun i (r:aQ)=>if qy r.cI (fun b=>a3G b p o)=true then some i else none) i R):=by
  intro R
  induction R with
  |nil=>intro i;rfl
  |cons r R ih=>
   intro i
   rw[nE,nE,ih]
   split<;>rfl
 rw[e]
 show Option.bind (some (AL (Option.map _ (uS R p o)))) _=_
 cases uS R p o<;>rfl
theorem BA{R:List aQ}(hR:a3s R){p:a05}(hp:jT p){o:Bool}{m:Nat}(hm:m<=R.length){y:Int×Bool}:a34 L R p o (m:Int) y=match(if((iE p).1||(iE p).2)=true then je (R.take m) p o else none)with
 |some z=>some z
 |none=>bif !y.2 then some (0,(-1))else aJ (!(aF y.1 0))<|aJ (Nat.blt (Int.toNat y.1) R.length)<|some ((aQ.cO (R.getD (Int.toNat y.1) aQ.az)),y.1):=by
 unfold a34
 have hR1:=hR.1.1
 have hml:(R.take m).length=m:=by rw[List.length_take];omega
 by_cases hh:((iE p).1||(iE p).2)=true
 ·rw[if_pos hh]
  rw[jy (γ:=Int×Int) (R.take m) (fun i (r:aQ)=>if r.cO≠1/\qy r.cI (fun b=>ry b p o)=true then some (0,(i:Int))else none) (by omega) hM ?hf ?hs]
  case hf=>
   intro i hi
   have hi':i<R.length:=by omega
   have hg:R.getD i aQ.az=R[i]:=by simp[List.getD,hi']
   have ht:(R.take m)[i]=R[i]:=List.getElem_take
   have hb:=(hR.1.2 _ (List.getElem_mem hi')).1
   rw[a2a (show(i:Int)<(m:Int) by omega),cond_true,DZ,hh,ht]
   show Option.bind (iter _ _ L 0) _=_
   simp only[jg,a08,iF hi',Bool.not_false,eW,hg]
   rw[jy (γ:=Int×Int) R[i].cI (fun _ b=>if(!(aH R[i].cO 1)&&ry b p o)=true then some (0,(i:Int))else none) (by omega) hM ?hf2 ?hs2]
   case hf2=>
    intro j hj
    rw[a2a (show(j:Int)<(R[i].cI.length:Int) by omega),cond_true,jg,a08,iF hj,Bool.not_false,eW,eW,show R[i].cI.getD j aU.az=R[i].cI[j] by simp[List.getD,hj],Ti (hR.2 _ (List.getElem_mem hi') _ (List.getElem_mem hj)) hp hh,cG j (by omega)]
    cases aH R[i].cO 1<;>cases ry R[i].cI[j] p o<;>rfl
   case hs2=>rw[a0k (by omega)];rfl
   rw[pn (f:=fun b=> !(aH R[i].cO 1)&&ry b p o),cG i (by omega)]
   by_cases ha:R[i].cO=1
   ·have:¬qy R[i].cI (fun b=> !true&&ry b p o)=true:=by unfold qy;simp
    rw[a3b ha,if_neg this,if_neg (fun h=>h.1 ha)];rfl
   ·rw[l7 ha]
    show(Option.bind (some (AL (if qy R[i].cI (fun b=>ry b p o)=true then _ else _))) _)=_
    by_cases hc:qy R[i].cI (fun b=>ry b p o)=true
    ·rw[if_pos hc,if_pos ⟨ha,hc⟩];rfl
    ·rw[if_neg hc,if_neg (fun h=>hc h.2)];rfl
  case hs=>rw[hml,a0k (by omega)];rfl
  show Option.bind (some (AL (je (R.take m) p o))) _=_
  cases je (R.take m) p o<;>rfl
 ·rw[if_neg hh]
  have hf:((iE p).1||(iE p).2)=false:=by simpa using hh
  obtain⟨N,rfl⟩:∃N,L=N+1:=⟨L-1,by omega⟩
  rw[a3Z,DZ,hf]
  cases aF 0 (m:Int)<;>rfl
theorem qF{R:List aQ}(hR:a3s R){p:a05}(hp:jT p){o:Bool}:eL L R p o=some (actP R p o):=by
 unfold eL qE actP
 rw[LW hL hM hR hp]
 cases e:uS R p o with
 |some k=>
  have hk:=(Ag e).1
  show(aJ (!(aF (k:Int) 0))<|aJ (Nat.blt k R.length)<|bif !(aH (R.getD k aQ.az).cO 1)then aJ (!(aF (k:Int) 0))<|aJ (Nat.blt k R.length)<|some ((R.getD k aQ.az).cO,(k:Int))else a34 L R p o (k:Int) ((k:Int),true))=some (if(R.getD k aQ.az).cO≠1 then((R.getD k aQ.az).cO,(k:Int))else(if((iE p).1||(iE p).2)=true then je (R.take k) p o else none).getD (1,(k:Int)))
  rw[jg,iF hk,BA hL hM hR hp (by omega)]
  by_cases ha:(R.getD k aQ.az).cO=1
  ·rw[a3b ha,if_neg (show¬(R.getD k aQ.az).cO≠1 from fun h=>h ha)]
   have e2:(aJ (!(aF (k:Int) 0))<|aJ (Nat.blt k R.length)<|some ((R.getD k aQ.az).cO,(k:Int)))=some (1,(k:Int)):=by rw[jg,iF hk,ha];rfl
   cases(if((iE p).1||(iE p).2)=true then je (R.take k) p o else none)with
   |some z=>rfl
   |none=>
    exact e2
  ·rw[l7 ha,if_pos (show(R.getD k aQ.az).cO≠1 from ha)];rfl
 |none=>
  show a34 L R p o (R.length:Int) (0,false)=_
  rw[BA hL hM hR hp (Nat.le_refl _),List.take_length]
  show _=some ((if((iE p).1||(iE p).2)=true then je R p o else none).getD (0,-1))
  cases(if((iE p).1||(iE p).2)=true then je R p o else none)<;>rfl
end
theorem B8{a b:Clear}:sX a b=true↔a=b:=by
 unfold sX
 constructor
 ·intro h
  simp only[Bool.and_eq_true,lK]at h
  obtain⟨h1,h2,h3,h4,h5,h6,h7,h8,h9,h10,_⟩:=h
  obtain⟨⟨⟨a1,a2,a3⟩,⟨a4,a5,a6⟩,a7,a8,a9⟩,a10⟩:=a
  obtain⟨⟨⟨b1,b2,b3⟩,⟨b4,b5,b6⟩,b7,b8,b9⟩,b10⟩:=b
  have h1:a1=b1:=h1
  have h2:a2=b2:=h2
  have h3:a3=b3:=h3
  have h4:a4=b4:=h4
  have h5:a5=b5:=h5
  have h6:a6=b6:=h6
  have h7:a7=b7:=h7
  have h8:a8=b8:=h8
  have h9:a9=b9:=h9
  have h10:a10=b10:=h10
  subst h1 h2 h3 h4 h5 h6 h7 h8 h9 h10
  rfl
 ·intro h
  subst h
  simp
def uY(l:List aS)(w:Int)(c:Clear):Nat:=l.countP fun r=>aH r.gB w&&sX r.clear c
theorem Ej{α:Type}:∀{l m:List α},l.Nodup->(∀x∈l,x∈m)->l.length<=m.length
 |[],m,_,_=>Nat.zero_le _
 |x::l,m,h,hs=>by
  classical
  have hx:=hs x (by simp)
  have h1:=List.nodup_cons.1 h
  have h2:=Ej (l:=l) (m:=m.erase x) h1.2 fun y hy=>by
   have hne:y≠x:=fun e=>h1.1 (by rw[<-e];exact hy)
   exact(List.mem_erase_of_ne hne).2 (hs y (by simp[hy]))
  have h3:=List.length_erase_of_mem hx
  have h4:0<m.length:=List.length_pos_of_mem hx
  simp only[List.length_cons];omega
theorem Bu{α β:Type}{f:α->β}:∀{l:List α},(l.map f).Nodup->l.Nodup
 |[],_=>List.nodup_nil
 |x::l,h=>by
  rw[List.map_cons,List.nodup_cons]at h
  exact List.nodup_cons.2 ⟨fun hx=>h.1 (List.mem_map.2 ⟨x,hx,rfl⟩),Bu h.2⟩
def GR(RR:Int->List aQ):Prop:=∀w,w=0∨w=1->∀p:a05,∀i j:Int,actP (RR w) p false=(2,i)->actP (RR (1-w)) p true=(2,j)->((RR w).getD i.toNat aQ.az).a0n=((RR (1-w)).getD j.toNat aQ.az).a0n
section
variable {RR:Int->List aQ}{m k:Nat}{S S':List jn}{DD:Int->Dl}{G:List (aS×Int×Int)}{n:ai}{L:Nat}
theorem NI.T9(q:NI RR m k S DD G n){w:Int}{a b:Int}{c:Clear}(h:(w,a,b,c)∈S):∃r∈n.sent,r.gB=w/\r.clear=c:=by
 have h1:(w,c)∈S.map fun e=>(e.1,e.2.2.2):=List.mem_map.2 ⟨_,h,rfl⟩
 rw[<-q.ED]at h1
 obtain⟨r,hr,e⟩:=List.mem_map.1 h1
 exact⟨r,hr,(Prod.mk.inj e).1,(Prod.mk.inj e).2⟩
theorem NI.a2b(q:NI RR m k S DD G n){w:Int}{c:Clear}:uY n.aN w c<=uY n.sent (1-w) c:=by
 have e1:uY n.sent (1-w) c=(S.filter fun e=>aH e.1 (1-w)&&sX e.2.2.2 c).length:=by
  have a1:uY n.sent (1-w) c=(n.sent.map fun r=>(r.gB,r.clear)).countP fun z:Int×Clear=>aH z.1 (1-w)&&sX z.2 c:=by rw[List.countP_map];rfl
  rw[a1,q.ED,List.countP_map,List.countP_eq_length_filter];rfl
 have e2:uY n.aN w c=((G.filter fun x=>aH x.1.gB w&&sX x.1.clear c).map fun x=>((1-w,x.2.1,x.2.2,c):jn)).length:=by
  unfold uY
  rw[q.Iq,List.countP_map,List.countP_eq_length_filter,List.length_map];rfl
 rw[e1,e2]
 refine Ej ?_ fun y hy=> ?_
 ·refine Bu (f:=fun e:jn=>(1-e.1,e.2.1,e.2.2.1)) ?_
  have h1:((G.filter fun x=>aH x.1.gB w&&sX x.1.clear c).map fun x=>((1-w,x.2.1,x.2.2,c):jn)).map (fun e:jn=>(1-e.1,e.2.1,e.2.2.1))=(G.filter fun x=>aH x.1.gB w&&sX x.1.clear c).map fun x=>(x.1.gB,x.2.1,x.2.2):=by
   rw[List.map_map]
   refine List.map_congr_left fun x hx=> ?_
   have hx:=(List.mem_filter.1 hx).2
   rw[Bool.and_eq_true,lK]at hx
   show(1-(1-w),x.2.1,x.2.2)=(x.1.gB,x.2.1,x.2.2)
   rw[hx.1,show 1-(1-w)=w by omega]
  rw[h1]
  exact List.Nodup.sublist (List.Sublist.map _ List.filter_sublist) q.N1
 ·obtain⟨x,hx,rfl⟩:=List.mem_map.1 hy
  obtain⟨h1,h2⟩:=List.mem_filter.1 hx
  rw[Bool.and_eq_true,lK,B8]at h2
  obtain⟨_,_,h3,_⟩:=q.Ir x h1
  rw[h2.1,h2.2]at h3
  exact List.mem_filter.2 ⟨h3,by
   rw[Bool.and_eq_true,lK,B8];exact⟨rfl,rfl⟩⟩
variable (hL:1000000<L)(hM:L<=4611686018427387904)
include hL hM
theorem DA{l:List aS}{w:Int}{c:Clear}(hl:l.length<=100000):r9 L l w c=some (uY l w c:Int):=by
 unfold r9
 have:Ok (iter (Y:=Int) 16003 (fun r4:(Int×Int)=>
  bif aF r4.2 (l.length:Int)then
   aJ (!(aF r4.2 0))<|
   aJ (Nat.blt (Int.toNat r4.2) l.length)<|
   bif aH (aS.gB (l.getD (Int.toNat r4.2) aS.az)) w then
    aJ (!(aF r4.2 0))<|
    aJ (Nat.blt (Int.toNat r4.2) l.length)<|
    bif sX (aS.clear (l.getD (Int.toNat r4.2) aS.az)) c then some (.inl (add r4.1 1,add r4.2 1))else
    some (.inl (r4.1,add r4.2 1))
   else
   some (.inl (r4.1,add r4.2 1))
  else
  some (.inr r4.1)) L (0,0)) fun y=>y=(uY l w c:Int):=by
  refine a0i l.length (fun i s=>s=((uY (l.take i) w c:Int),(i:Int))) (by omega) rfl (fun i s hi hs=> ?_) fun s hs=> ?_
  ·subst hs
   dsimp only
   have hx:l[i]?=some l[i]:=List.getElem?_eq_getElem hi
   have ht:uY (l.take (i+1)) w c=uY (l.take i) w c+if(aH l[i].gB w&&sX l[i].clear c)=true then 1 else 0:=by
    unfold uY
    rw[List.take_add_one,hx,List.countP_append]
    congr 1
    show List.countP _ [l[i]]=_
    rw[List.countP_singleton]
   have eY:uY (l.take i) w c<=i:=by unfold uY;exact Nat.le_trans List.countP_le_length (by rw[List.length_take];omega)
   refine aM (fun _=>ay (by omega) (a03 hi ?_)) fun h=>absurd (by omega) h
   rw[a08,bB hx,cG i (by omega)]
   refine bJ (fun e=>ay (by omega) (a03 hi (bJ (fun e'=>ae ?_) fun e'=>ae ?_))) fun e=>ae ?_
   ·rw[e,e']at ht
    show(_,_)=(_,_)
    rw[ht,cG _ (by omega)];rfl
   ·rw[e,e']at ht
    show(_,_)=(_,_)
    rw[ht];rfl
   ·rw[e]at ht
    show(_,_)=(_,_)
    rw[ht];rfl
  ·subst hs
   dsimp only
   refine aM (fun h=>by omega) fun _=>ae ?_
   show(uY (l.take l.length) w c:Int)=_
   rw[List.take_length]
 obtain⟨y,h1,h2⟩:=this
 rw[h1,h2];rfl
omit hL hM in
theorem CP{α:Type}{Q:α->Prop}{rr:(List aQ)×(List aQ)}(h0:RR 0=rr.1)(h1:RR 1=rr.2){w:Int}(hw:w=0∨w=1){f:List aQ->Option α}(hf:Ok (f (RR w)) Q):Ok (uy rr w f) Q:=by
 unfold uy
 rcases hw with rfl|rfl
 ·exact aC (fun _=>by rw[<-h0];exact hf) fun h=>absurd rfl h
 ·exact aC (fun h=>absurd h (by decide)) fun _=>a0r rfl (by rw[<-h1];exact hf)
theorem FC(q:NI RR m k S DD G n)(hm:m<=10000)(hR:∀w,w=0∨w=1->a3s (RR w))(hT:GR RR){rr:(List aQ)×(List aQ)}(h0:RR 0=rr.1)(h1:RR 1=rr.2):nP L n rr=some true:=by
 unfold nP
 have hl:=q.l2
 have hl1:=q.l1
 have:Ok (iter (Y:=(Unit⊕Bool)) 10002 (fun r3:Int=>
  bif aF r3 ((ai.aN n).length:Int)then
   aJ (!(aF r3 0))<|
   aJ (Nat.blt (Int.toNat r3) ((ai.aN n).length))<|
   bif !(aH (aS.gB ((ai.aN n).getD (Int.toNat r3) aS.az)) 0)then
    bif !(aH (aS.gB ((ai.aN n).getD (Int.toNat r3) aS.az)) 1)then some (.inr (.inr false))else
    jR L n rr r3 ((ai.aN n).getD (Int.toNat r3) aS.az)
   else
   jR L n rr r3 ((ai.aN n).getD (Int.toNat r3) aS.az)
  else
  some (.inr (.inl ()))) L 0) fun y=>y=.inl ():=by
  refine fq n.aN.length (fun _=>True) (by omega) trivial (fun i hi _=> ?_) fun _=> ?_
  ·refine aM (fun _=>ay (by omega) (a03 hi ?_)) fun h=>absurd (by omega) h
   have hx:n.aN[i]?=some n.aN[i]:=List.getElem?_eq_getElem hi
   rw[a08,bB hx]
   have hmem:=bC hx
   generalize n.aN[i]=d at hmem
   rw[q.Iq]at hmem
   obtain⟨x,hxG,rfl⟩:=List.mem_map.1 hmem
   obtain⟨w1,w2,w3,_⟩:=q.Ir x hxG
   obtain⟨r,hr,r1,r2⟩:=q.T9 w3
   obtain⟨_,s2,s3⟩:=q.EE r hr
   rw[r2]at s3
   rw[r1,r2]at s2
   have hsub:sub 1 x.1.gB=1-x.1.gB:=uT (by omega) (by omega)
   have w1':1-x.1.gB=0∨1-x.1.gB=1:=by omega
   have hA:Ok (jR L n rr (i:Int) x.1) (Sum.elim (fun x=>x=((i+1:Nat):Int)/\True) fun y=>y=.inl ()):=by
    unfold jR
    rw[DA hL hM (by omega),DA hL hM (by omega),hsub]
    refine aD (ae (aD (ae (aM (fun h=> ?_) fun _=> ?_))))
    ·have:=q.a2b (w:=x.1.gB) (c:=x.1.clear);omega
    refine CP h0 h1 w1 ?_
    rw[qF (by omega) hM (hR _ w1) s3,w2]
    refine aD (ae (CP h0 h1 w1' ?_))
    rw[qF (by omega) hM (hR _ w1') s3,s2]
    refine aD (ae (aP (fun h=>absurd rfl h) fun _=>aP (fun h=>absurd rfl h) fun _=>aP (fun h=>absurd rfl h) fun _=> ?_))
    obtain⟨a,a1,a2,_⟩:=uc w2
    obtain⟨b,b1,b2,_⟩:=uc s2
    have ht:=hT _ w1 _ _ _ w2 s2
    refine CP h0 h1 w1 (ay (by show¬x.1.dm<0;omega) (a03 (by show x.1.dm.toNat<_;omega) (CP h0 h1 w1' (ay (by show¬r.dm<0;omega) (a03 (by show r.dm.toNat<_;omega) (bn (fun e=> ?_) fun _=>ae ⟨cG i (by omega),trivial⟩))))))
    have:Jk ((RR x.1.gB).getD x.1.dm.toNat aQ.az).a0n ((RR (1-x.1.gB)).getD r.dm.toNat aQ.az).a0n=true:=by rw[ht];simp[Jk]
    have e:Jk ((RR x.1.gB).getD x.1.dm.toNat aQ.az).a0n ((RR (1-x.1.gB)).getD r.dm.toNat aQ.az).a0n=false:=e
    rw[this]at e;cases e
   exact aP (fun hne=>aP (fun hne'=>absurd w1 (by omega)) fun _=>hA) fun _=>hA
  ·exact aM (fun h=>absurd h (by omega)) fun _=>ae rfl
 obtain⟨y,e1,e2⟩:=this
 rw[e1,e2];rfl
theorem Mj(q:NI RR m k S DD G n)(hm:m<=10000)(hR:∀w,w=0∨w=1->a3s (RR w)){rr:(List aQ)×(List aQ)}(h0:RR 0=rr.1)(h1:RR 1=rr.2):a3J L n rr=some true:=by
 unfold a3J
 have hl1:=q.l1
 have hl3:=q.l3
 have a0:nA .i64 0 1=0:=by decide
 have a1:nA .i64 1 1=1:=by decide
 have s1:Ok (iter (Y:=(Unit⊕Bool)) 11002 (fun r3:Int=>
  bif aF r3 ((ai.ct n).length:Int)then
   aJ (!(aF r3 0))<|
   aJ (Nat.blt (Int.toNat r3) ((ai.ct n).length))<|
   bif aH (nA .i64 (aS.gB ((ai.ct n).getD (Int.toNat r3) aS.az)) 1) 0 then
    aJ (!(aF r3 0))<|
    aJ (Nat.blt (Int.toNat r3) ((ai.ct n).length))<|
    Option.bind (eL L rr.1 (Clear.bf (aS.clear ((ai.ct n).getD (Int.toNat r3) aS.az))) true) fun y4=>
    bif !(aH y4.1 1)then some (.inr (.inr false))else
    some (.inl (add r3 1))
   else
   aJ (aH (nA .i64 (aS.gB ((ai.ct n).getD (Int.toNat r3) aS.az)) 1) 1)<|
   aJ (!(aF r3 0))<|
   aJ (Nat.blt (Int.toNat r3) ((ai.ct n).length))<|
   Option.bind (eL L rr.2 (Clear.bf (aS.clear ((ai.ct n).getD (Int.toNat r3) aS.az))) true) fun y4=>
   bif !(aH y4.1 1)then some (.inr (.inr false))else
   some (.inl (add r3 1))
  else
  some (.inr (.inl ()))) L 0) fun y=>y=.inl ():=by
  refine fq n.ct.length (fun _=>True) (by omega) trivial (fun i hi _=> ?_) fun _=> ?_
  ·refine aM (fun _=>ay (by omega) (a03 hi ?_)) fun h=>absurd (by omega) h
   have hx:n.ct[i]?=some n.ct[i]:=List.getElem?_eq_getElem hi
   rw[a08,bB hx]
   have hmem:=bC hx
   generalize n.ct[i]=d at hmem
   obtain⟨w1,w2,w3⟩:=q.Pg d hmem
   rcases w1 with e|e
   ·rw[e]at w2⊢
    rw[<-h0,qF (by omega) hM (hR 0 (.inl rfl)) w3]
    exact aC (fun _=>ay (by omega) (a03 hi (aD (ae (aP (fun h=>absurd w2 h) fun _=>ae ⟨cG i (by omega),trivial⟩))))) fun h=>absurd a0 h
   ·rw[e]at w2⊢
    rw[<-h1,qF (by omega) hM (hR 1 (.inr rfl)) w3]
    exact aC (fun h=>absurd h (by rw[a1];decide)) fun _=>a0r a1 (ay (by omega) (a03 hi (aD (ae (aP (fun h=>absurd w2 h) fun _=>ae ⟨cG i (by omega),trivial⟩)))))
  ·exact aM (fun h=>absurd h (by omega)) fun _=>ae rfl
 have s2:Ok (iter (Y:=(Unit⊕Bool)) 11009 (fun r5:Int=>
  bif aF r5 ((ai.sent n).length:Int)then
   aJ (!(aF r5 0))<|
   aJ (Nat.blt (Int.toNat r5) ((ai.sent n).length))<|
   bif aH (nA .i64 (aS.gB ((ai.sent n).getD (Int.toNat r5) aS.az)) 1) 0 then
    aJ (!(aF r5 0))<|
    aJ (Nat.blt (Int.toNat r5) ((ai.sent n).length))<|
    Option.bind (eL L rr.1 (Clear.bf (aS.clear ((ai.sent n).getD (Int.toNat r5) aS.az))) true) fun y6=>
    bif !(aH y6.1 2)then some (.inr (.inr false))else
    aJ (!(aF r5 0))<|
    aJ (Nat.blt (Int.toNat r5) ((ai.sent n).length))<|
    bif !(aH y6.2 (aS.dm ((ai.sent n).getD (Int.toNat r5) aS.az)))then some (.inr (.inr false))else
    some (.inl (add r5 1))
   else
   aJ (aH (nA .i64 (aS.gB ((ai.sent n).getD (Int.toNat r5) aS.az)) 1) 1)<|
   aJ (!(aF r5 0))<|
   aJ (Nat.blt (Int.toNat r5) ((ai.sent n).length))<|
   Option.bind (eL L rr.2 (Clear.bf (aS.clear ((ai.sent n).getD (Int.toNat r5) aS.az))) true) fun y6=>
   bif !(aH y6.1 2)then some (.inr (.inr false))else
   aJ (!(aF r5 0))<|
   aJ (Nat.blt (Int.toNat r5) ((ai.sent n).length))<|
   bif !(aH y6.2 (aS.dm ((ai.sent n).getD (Int.toNat r5) aS.az)))then some (.inr (.inr false))else
   some (.inl (add r5 1))
  else
  some (.inr (.inl ()))) L 0) fun y=>y=.inl ():=by
  refine fq n.sent.length (fun _=>True) (by omega) trivial (fun i hi _=> ?_) fun _=> ?_
  ·refine aM (fun _=>ay (by omega) (a03 hi ?_)) fun h=>absurd (by omega) h
   have hx:n.sent[i]?=some n.sent[i]:=List.getElem?_eq_getElem hi
   rw[a08,bB hx]
   have hmem:=bC hx
   generalize n.sent[i]=d at hmem
   obtain⟨w1,w2,w3⟩:=q.EE d hmem
   rcases w1 with e|e
   ·rw[e]at w2⊢
    rw[<-h0,qF (by omega) hM (hR 0 (.inl rfl)) w3,w2]
    exact aC (fun _=>ay (by omega) (a03 hi (aD (ae (aP (fun h=>absurd rfl h) fun _=>ay (by omega) (a03 hi (aP (fun h=>absurd rfl h) fun _=>ae ⟨cG i (by omega),trivial⟩))))))) fun h=>absurd a0 h
   ·rw[e]at w2⊢
    rw[<-h1,qF (by omega) hM (hR 1 (.inr rfl)) w3,w2]
    exact aC (fun h=>absurd h (by rw[a1];decide)) fun _=>a0r a1 (ay (by omega) (a03 hi (aD (ae (aP (fun h=>absurd rfl h) fun _=>ay (by omega) (a03 hi (aP (fun h=>absurd rfl h) fun _=>ae ⟨cG i (by omega),trivial⟩)))))))
  ·exact aM (fun h=>absurd h (by omega)) fun _=>ae rfl
 obtain⟨y,e1,e2⟩:=s1
 obtain⟨z,e3,e4⟩:=s2
 rw[e1,e2]
 show Option.bind (iter _ _ L 0) _=_
 rw[e3,e4];rfl
end
def Pd(b bA:Int)(p:a04):Prop:=p.ax≠0/\((p.sent=1/\p.sx<=b+2/\bA<b+2)∨(p.sent=2/\p.sx<=b+6/\bA<b+6)∨(p.sent=3/\p.sx<=b+14/\bA<b+14))
def Pr(b bA:Int)(s:Sa):Prop:=Pd b bA s.pending∨(s.pending.ax=0/\s.state=3/\s.eC<=b-8/\bA<b)
def Pm(b bA:Int)(s:Sa):Prop:=Pd b bA s.pending∨(s.pending.ax=0/\s.state=3/\s.eC<=b-8/\bA<=b)
section
variable {w:Int}{S S':List jn}{D D':Dl}{R:List aQ}{X X':Cr}{g g':aa}{L:Nat}
theorem Pr.begin{bA ex:Int}{s:Sa}(h:pV w S bA ex s)(h0:ex≠s.own):Pr (bA+8) bA s:=by
 by_cases e:s.pending.ax=0
 ·refine .inr ⟨e,?_,by have:=h.eC;omega,by omega⟩
  rcases h.st with h1|h1|h1|h1
  ·have:=h.p1 h1;omega
  ·have:=h.p2 h1;omega
  ·exact h1
  ·have:=h.p4 h0 h1;omega
 ·refine .inl ⟨e,?_⟩
  rcases h.J6 e with⟨a,c⟩|⟨a,c⟩|⟨a,c⟩
  ·exact .inl ⟨a,by omega,by omega⟩
  ·exact .inr (.inl ⟨a,by omega,by omega⟩)
  ·exact .inr (.inr ⟨a,by omega,by omega⟩)
theorem Kh{b bA:Int}(h0:0<=bA)(h1:bA<=99999){l:List Int}{s t:Sa}(h:Pr b bA s)(r:TS (bA+1) l s t):Pm b (bA+1) t∨t.own∈l:=by
 rcases r with⟨rfl,r⟩|⟨r0,r1,r2,r3,r4,r5⟩
 ·rcases h with⟨p0,p⟩|⟨p0,p1,p2,p3⟩
  ·rcases r with r|r|⟨r,r'⟩
   ·exact absurd r p0
   ·left;left
    refine⟨p0,?_⟩
    rcases p with⟨a,c,d⟩|⟨a,c,d⟩|⟨a,c,d⟩
    ·exact .inl ⟨a,c,by omega⟩
    ·exact .inr (.inl ⟨a,c,by omega⟩)
    ·exact .inr (.inr ⟨a,c,by omega⟩)
   ·exact .inr r'
  ·exact .inl (.inr ⟨p0,p1,p2,by omega⟩)
 ·rcases h with⟨p0,p⟩|⟨p0,_⟩
  ·left;left
   rw[show Pd b (bA+1) t.pending↔_ from Iff.rfl]
   refine⟨by rw[r3];exact p0,?_⟩
   rcases p with⟨a,c,d⟩|⟨a,c,d⟩|⟨a,c,d⟩
   ·rw[a]at r4 r5
    rw[show shl 2 (eN 1 0)=4 by decide,fK (by omega) (by omega)]at r5
    exact .inr (.inl ⟨r4,by omega,by omega⟩)
   ·rw[a]at r4 r5
    rw[show shl 2 (eN 2 0)=8 by decide,fK (by omega) (by omega)]at r5
    exact .inr (.inr ⟨r4,by omega,by omega⟩)
   ·omega
  ·exact absurd p0 r0
theorem Pm.ky{b bA:Int}{s t:Sa}(e:ky t=ky s)(h:Pm b bA s):Pm b bA t:=by
 obtain⟨_,e2,e3,e4⟩:=Ci e
 unfold Pm
 rw[e2,e3,e4];exact h
theorem Pr.ky{b bA:Int}{s t:Sa}(e:ky t=ky s)(h:Pr b bA s):Pr b bA t:=by
 obtain⟨_,e2,e3,e4⟩:=Ci e
 unfold Pr
 rw[e2,e3,e4];exact h
theorem II{b bA:Int}(h0:0<=bA)(h1:bA<=100000){s t:Sa}(hh:0<=s.eC/\s.eC<=bA)(h:Pm b bA s)(r:TU bA s t):Pr b bA t:=by
 rcases r with⟨rfl,r⟩|⟨r1,r2,r3,r4,r5⟩
 ·rcases h with h|⟨p0,p1,p2,p3⟩
  ·exact .inl h
  ·rcases r with r|r|r
   ·exact absurd p1 r
   ·exact absurd p0 r
   ·rw[uT (by omega) (by omega)]at r
    exact .inr ⟨p0,p1,p2,by omega⟩
 ·rcases h with⟨p,_⟩|⟨_,_,_,p3⟩
  ·exact absurd r5 p
  ·exact .inl ⟨r1,.inl ⟨r2,by omega,by omega⟩⟩
theorem Nc{b bA:Int}{s t:Sa}(h:Pr b bA s)(r:PB bA s t):Pr b bA t:=by
 rcases r with rfl|⟨r1,r2,r3,r4,r5⟩
 ·exact h
 ·rcases h with⟨p,_⟩|⟨_,_,_,p3⟩
  ·exact absurd r2 p
  ·exact .inl ⟨r3,.inl ⟨r4,by omega,by omega⟩⟩
structure Dd(b c:Int)(g:aa):Prop where
 u4:∀s∈g.u4,Pr b g.bA s
 aW:∀h∈g.aW,h.born<=c
theorem Dd.begin(q:GI w S D R {} g):Dd (g.bA+8) g.bA g:=⟨fun s hs=>Pr.begin (q.u4 s hs) (fun h=>q.Ep hs h.symm),fun h hh=>(q.aW h hh).born.2⟩
variable (hL:5000<L)(hM:L<=4611686018427387904)
include hL hM
theorem Pq(q:GI w S D R {} g)(b:Bd g)(b':g.bA<=99999)(b2:g.count<=380000){x c:Int}(r:Dd x c g){e:cL}(he:e.kind=4):Ok (a2F L g e) fun y=>y.2.2=0/\y.1.bA=g.bA+1/\Dd x c y.1/\∀h∈y.1.aW,y.1.bA<h.born+10:=by
 have h0:=q.bA
 unfold a2F
 rw[he]
 refine aC (fun h=>absurd h (by decide)) fun _=>aC (fun h=>absurd h (by decide)) fun _=>aC (fun h=>absurd h (by decide)) fun _=>aC (fun _=> ?_) fun h=>absurd rfl h
 refine Ok.bind (P:=fun y=>GI w S D R {} y.1/\y.1.bA=g.bA+1/\y.1.count=g.count/\bE S y.2/\y.2.length<=45/\Dd x c y.1/\∀h∈y.1.aW,y.1.bA<h.born+10) ?_ fun y ⟨a1,a2,a3,a4,a5,a6,a7⟩=> ?_
 ·unfold lN
  have en:add g.bA 1=g.bA+1:=fK (by omega) (by omega)
  rw[en]
  have q1:=q.Mi (n:=g.bA+1) rfl
  refine(OO hL hM q1).bind fun y2 ⟨a1,a2,a3,_,a5,a6⟩=> ?_
  have n2:y2.bA=g.bA+1:=a2.1
  have c2:y2.count<=g.count+0:=a2.2.2
  have c2':g.count<=y2.count:=a2.2.1
  have b1:Bd y2:=⟨by have:=b.lG;omega,by omega⟩
  refine(OL hL hM a1 b1).bind fun y3 ⟨k1,k2,k3,k4,k5,k6,k7⟩=> ?_
  refine(D8 hL hM k1 (by omega)).bind fun y4 ⟨d1,d2,d3,d4⟩=> ?_
  have n3:y3.1.bA=g.bA+1:=k2.1.trans n2
  have n4:y4.bA=g.bA+1:=d2.1.trans n3
  have c3:=k2.2;have c4:=d2.2
  have b2:Bd y4:=⟨by have:=b.lG;omega,by omega⟩
  refine(zN hL hM d1 b2).bind fun y5 ⟨e1,e2,e3,e4,e5,e6⟩=>bD (cF (by rw[List.length_append];omega)) ?_
  refine(Bq hL hM e1).bind fun y6 ⟨f1,f2,f3,f4,_,f6,f7⟩=>bD (cF (by rw[List.length_append,List.length_append];omega)) ?_
  have n5:y5.1.bA=g.bA+1:=e2.1.trans n4
  have n6:y6.1.bA=g.bA+1:=f2.1.trans n5
  have c5:=e2.2;have c6:=f2.2
  have hhalf:y6.1.aW=y2.aW:=by rw[f7,e6,d3,k7]
  refine ae ⟨f1,n6,by show y6.1.count=g.count;omega,(k3.app e3 (by omega)).app f3 (by rw[List.length_append];omega),by show((y3.2.1++y5.2)++y6.2).length<=45;rw[List.length_append,List.length_append];omega,⟨fun s hs=> ?_,fun h hh=> ?_⟩,fun h hh=> ?_⟩
  ·show Pr x y6.1.bA s
   rw[n6]
   obtain⟨s5,s51,s52⟩:=f6 s hs
   refine Pr.ky s52 ?_
   obtain⟨s4,s41,s42⟩:=e5 s5 s51
   rw[n4]at s42
   have hh:=(d1.u4 s4 s41).eC
   rw[n4]at hh
   refine II (by omega) (by omega) hh ?_ s42
   obtain⟨hno,s3,s31,s32⟩:=d4 s4 s41
   refine Pm.ky s32 ?_
   obtain⟨s2,s21,s22⟩:=k6 s3 s31
   rw[n2]at s22
   rw[a3]at s21
   rcases Kh h0 b' (r.u4 s2 s21) s22 with h|h
   ·exact h
   ·exact absurd (by rw[(Ci s32).1];exact h) hno
  ·have hh:h∈y6.1.aW:=hh
   rw[hhalf]at hh
   exact r.aW h (a6 h hh)
  ·have hh:h∈y6.1.aW:=hh
   rw[hhalf]at hh
   have h5:=yC.1 (a5 h hh)
   have hb:=(q1.aW h (a6 h hh)).born
   have hb1:h.born<=g.bA+1:=hb.2
   have h5:sub (g.bA+1) h.born<10:=h5
   rw[uT (by omega) (by omega)]at h5
   show y6.1.bA<_
   omega
 ·refine bD (cF (by omega)) ?_
  unfold a2p
  refine(GM hL hM (g:=y.1) a1 ⟨by have:=b.lG;omega,by omega⟩ (by omega)).bind fun z ⟨z1,z2,z3,z4,z5,z6⟩=>bD (cF (by show(y.2++z.2).length*56<=_;rw[List.length_append];omega)) (ae ⟨rfl,?_,⟨fun s hs=> ?_,fun h hh=> ?_⟩,fun h hh=> ?_⟩)
  ·show z.1.bA=_;rw[z2.1];exact a2
  ·obtain⟨s',s1,s2⟩:=z5 s hs
   show Pr x z.1.bA s
   rw[z2.1]
   exact Nc (a6.u4 s' s1) s2
  ·have hh:h∈z.1.aW:=hh
   rw[z6]at hh;exact a6.aW h hh
  ·have hh:h∈z.1.aW:=hh
   rw[z6]at hh
   show z.1.bA<_
   rw[z2.1];exact a7 h hh
omit hL hM in
theorem Dd.gone(q:GI w S D R {} g){x c:Int}(r:Dd x c g)(h1:x+14<=g.bA)(h2:∀h∈g.aW,g.bA<h.born+10)(h3:c+10<=g.bA):g.u4=[]/\g.af=[]/\g.aW=[]:=by
 have e:g.u4=[]:=by
  cases hs:g.u4 with
  |nil=>rfl
  |cons s l=>
   exfalso
   rcases r.u4 s (by rw[hs];simp)with⟨_,h⟩|⟨_,_,_,h⟩
   ·rcases h with h|h|h<;>omega
   ·omega
 refine⟨e,?_,?_⟩
 ·cases hc:g.af with
  |nil=>rfl
  |cons a l=>
   exfalso
   obtain⟨s,hs,_⟩:=q.nY a (by rw[hc];simp)
   rw[e]at hs;simp at hs
 ·cases hh:g.aW with
  |nil=>rfl
  |cons a l=>
   exfalso
   have k1:=h2 a (by rw[hh];simp)
   have k2:=r.aW a (by rw[hh];simp)
   omega
end
end Go.Proofs.YtehbbcdhahnkgaaGreat.Vm
