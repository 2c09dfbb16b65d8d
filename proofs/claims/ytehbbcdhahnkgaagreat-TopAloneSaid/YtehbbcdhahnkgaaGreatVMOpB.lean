/- The value machine and the machine: loads, stores, new objects, addresses. The value machine and the machine: literals, cuts, lengths, conversions. -/
import Derived.Test.YtehbbcdhahnkgaaGreatVMDat
import Derived.Laws.IdiomStrings
import Derived.Lib.ConvBytes
import Derived.Great.BuildSlice
import Derived.Laws.MakeOwn
set_option linter.all false
set_option maxRecDepth 100000
set_option maxHeartbeats 0
namespace Go.Proofs.YtehbbcdhahnkgaaGreat.Vm
open Go
theorem MG{F:Fz}{w:World}:∀{t:DT} {x:t.den} {vs:List Value},t.calm=true->DR F t x vs->DD F w t x vs []:=by
 intro t
 induction t with
 |ak a b iha ihb=>
  intro x vs hc ⟨us,rs,h1,h2,h3⟩
  simp only[DT.calm,Bool.and_eq_true]at hc
  exact⟨us,rs,[],[],h1,rfl,iha hc.1 h2,ihb hc.2 h3⟩
 |bH t _=>intro x vs hc;cases hc
 |otrees=>intro x vs hc;cases hc
 |_=>intro x vs _ h;exact⟨h,rfl⟩
theorem a3w{m:Mp}:∀{l:List HV} {xs:List Value},denL m l=some xs->l.all HV.one=true->∀u∈xs,u.oneCell'=true
 |[],xs,h,_,u,hu=>by simp only[denL]at h;cases h;simp at hu
 |v::l,xs,h,ho,u,hu=>by
  obtain⟨x,ys,h1,h2,rfl⟩:=di h
  simp only[List.all_cons,Bool.and_eq_true]at ho
  rcases List.mem_cons.1 hu with rfl|hu
  ·exact(A3 h1 ho.1).1
  ·exact a3w h2 ho.2 u hu
theorem N4{F:Fz}{t:DT}{x:t.den}{us L:List Value}{o i off s:Nat}(hc:LC F t x us)(hL:∀j u,us[j]?=some u->L[o+j]?=some u)(hi:i<lenL t x)(hs:off+s<=u5 t):
 (L.drop (o+i*u5 t+off)).take s=(((us.drop (i*u5 t)).take (u5 t)).drop off).take s/\(0<s->o+i*u5 t+off+s<=L.length):=by
 have hl:=hc.len
 have hb:i*u5 t+u5 t<=us.length:=by
  rw[hl]
  have:=Nat.mul_le_mul_right (u5 t) (show i+1<=lenL t x from hi)
  rw[Nat.add_mul,Nat.one_mul]at this
  exact this
 have at_:∀j,j<s->L[o+i*u5 t+off+j]?=us[i*u5 t+off+j]?:=by
  intro j hj
  have:i*u5 t+off+j<us.length:=by omega
  rw[List.getElem?_eq_getElem this]
  have:=hL (i*u5 t+off+j) _ (List.getElem?_eq_getElem this)
  rw[<-this];congr 1;omega
 constructor
 ·apply List.ext_getElem?
  intro j
  rw[List.getElem?_take,List.getElem?_take]
  split
  ·rename_i hj
   rw[List.getElem?_drop,List.getElem?_drop,List.getElem?_take,List.getElem?_drop,at_ j hj,if_pos (by omega)]
   congr 1;omega
  ·rfl
 ·intro hp
  have:=at_ (s-1) (by omega)
  rw[List.getElem?_eq_getElem (show i*u5 t+off+(s-1)<us.length by omega)]at this
  have:=(List.getElem?_eq_some_iff.1 this).1
  omega
theorem LS{vs us:List Value}{a off n:Nat}(h1:a+n<=vs.length)(h2:off+us.length<=n):dO vs a (dO ((vs.drop a).take n) off us)=dO vs (a+off) us:=by
 have e:vs=vs.take a++((vs.drop a).take n++vs.drop (a+n)):=by
  rw[show vs.drop (a+n)=(vs.drop a).drop n by rw[List.drop_drop],List.take_append_drop,List.take_append_drop]
 have hla:(vs.take a).length=a:=by rw[List.length_take];omega
 have hln:((vs.drop a).take n).length=n:=by rw[List.length_take,List.length_drop];omega
 conv=>rhs;rw[e,show a+off=(vs.take a).length+off by rw[hla],iz,wh (by omega)]
 have hpl:(dO ((vs.drop a).take n) off us).length=n:=by rw[tQ (by omega)];exact hln
 unfold dO
 rw[show(List.take off (List.take n (List.drop a vs))++us++List.drop (off+us.length) (List.take n (List.drop a vs))).length=n from hpl]
 simp only[List.append_assoc]
section
variable {P:Program}{Γ:Ctx}{ρ:En}{N:Nat}{S:Sl}{H:Hp}{m:Mp}{a:Act}{w:World}{o:Oper}{U:Nat->Prop}{fresh:Nat}{r:Ws}{Q:Exit->Act->World->Prop}
theorem Aa{l new:List HV}{o:Nat}(h:o+new.length<=l.length):(putAt l o new).length=l.length:=by
 rw[wg l o new (by omega)];simp only[List.length_append,List.length_take,List.length_drop];omega
theorem fS(w:World)(b:Nat)(arr:Array Value):(w.setRow b arr).heap.size=w.heap.size:=by
 simp[World.setRow]
theorem a0d.put(h:a0d ρ H m w){id el:Nat}{cs:List HV}(hi:H id=some (.cells el cs)){k:Nat}{new:List HV}{ys:List Value}(hd:denL m new=some ys)(h1:new.all HV.one=true)(hk:k+new.length<=cs.length):
 ∃b vs,m.ad id=some b/\denL m cs=some vs/\w.heap[b]?=some (.cells vs.toArray el (0,0))/\a0d ρ (gW H id (some (.cells el (putAt cs k new)))) m (w.setRow b (dO vs k ys).toArray):=by
 obtain⟨b,vs,q1,q2,q3,q4⟩:=h.fe id _ hi
 refine⟨b,vs,q1,q2,q4,h.xU hi rfl q1 (fun j hj=>Go.setRow_other w b j _ hj) (by rw[fS];omega) ?_ ⟨rfl,rfl,rfl,by first|exact Nat.le_refl _|exact Nat.le_succ _⟩⟩
 have hyl:=cH hd
 have hvl:=cH q2
 exact⟨b,dO vs k ys,q1,zj q2 hd (by omega),wO q3 h1 (by omega),Go.setRow_heap w b _ _ el (0,0) q4⟩
theorem a0d.zX(h:a0d ρ H m w){id el:Nat}{cs:List HV}{vs:List Value}(hn:¬m.has id)(hd:denL m cs=some vs)(h1:cs.all HV.one=true):
 a0d ρ (gW H id (some (.cells el cs))) (m.set id (some w.heap.size) none) (w.alloc (.cells vs.toArray el)):=by
 refine h.new (uR hn) (w7 hn) (fun k hk=>Go.heap_alloc_old w _ k hk) (Nat.le_refl _) ?_ ⟨rfl,rfl,rfl,by first|exact Nat.le_refl _|exact Nat.le_succ _⟩
 exact⟨w.heap.size,vs,bQ _ _ _,fc (Mp.rK (uR hn) (w7 hn)) hd,h1,Go.heap_alloc_new w _⟩
theorem rD{id nx:Nat}{b:Option Nat}{v:Option Value}(hU:∀id,m.has id->U id)(h1:fresh<=id)(h2:id<nx):∀k,(m.set id b v).has k->U k∨(fresh<=k/\k<nx):=by
 intro k hk
 rcases a3O hk with e|e
 ·exact .inl (hU k e)
 ·subst e;exact .inr ⟨h1,h2⟩
theorem mC{v:HV}{ws:List Wr}{nx:Nat}(h:(eu o v ws nx).run S H=some r):r.2=nx:=by
 unfold eu at h
 cases hd:o.dst with
 |none=>rw[hd]at h;rw[bR h]
 |some d=>rw[hd]at h;rw[bR h]
theorem a2I(hU:∀id,m.has id->U id){id:Nat}(h:¬U id):¬m.has id:=fun e=>h (hU id e)
theorem vl{e:TypeId}{t:Ty}{b off el:Nat}{fr:Nat×Nat}{arr:List Value}(he:I5 P e t)(hg:w.heap[b]?=some (.cells arr.toArray el fr))(hl:off+t.size<=arr.length):
 (Instr.loadAt e (.pointer (some ⟨b,off,none⟩))).run P w=.ok (pk t ((arr.drop off).take t.size)) w:=by
 have hc:∀j u,((arr.drop off).take t.size)[j]?=some u->w.cell? ⟨b,off+j,none⟩=some u:=by
  intro j u hu
  rw[cell_of_row w b _ _ el fr hg]
  rw[List.getElem?_take]at hu
  split at hu
  ·rw[List.getElem?_drop]at hu;simpa using hu
  ·cases hu
 have hlen:((arr.drop off).take t.size).length=t.size:=by simp only[List.length_take,List.length_drop];omega
 unfold pk
 cases ha:t.isAgg with
 |true=>
  obtain⟨h1,_,d,hu,hdr⟩:=id he
  simp only[if_true]
  exact run_loadAt_mid w b off e _ d hc hu (hdr.trans ha) (by rw[h1,hlen])
 |false=>
  have hsz:t.size=1:=by cases t<;>first|rfl|cases ha
  rw[hsz]at hlen hc
  obtain⟨v,hv⟩:=List.length_eq_one_iff.1 hlen
  have:=hc 0 v (by rw[hv];rfl)
  rw[Nat.add_zero]at this
  rw[hsz,hv]
  simp only[Instr.loadAt,Instr.sureAddr,loadVar,Sem.run_bind,Sem.run_pure,Result.andThen_ok,BB he,ha,Bool.false_eq_true,if_false,Go.run_load,this]
  rfl
theorem xQ{e:TypeId}{t:Ty}{b off el:Nat}{arr us:List Value}{x:Value}(he:I5 P e t)(hg:w.heap[b]?=some (.cells arr.toArray el (0,0)))(hx:x.cells.toList=us)(hu:us.length=t.size)(h1:∀u∈us,u.oneCell'=true)(hl:off+us.length<=arr.length):
 (Instr.storeAt e (.pointer (some ⟨b,off,none⟩)) x).run P w=.ok () (w.setRow b (dO arr off us).toArray):=by
 have hst:=run_storeCells_at P b off el us 0 arr.toArray w hg (by simpa using hl) (fun v hv=>h1 v hv)
 simp only[Nat.add_zero]at hst
 have hsz:x.cells.size=t.size:=by rw[<-Array.length_toList,hx,hu]
 simp only[Instr.storeAt,Instr.sureAddr,storeVar,Sem.run_bind,Sem.run_pure,Result.andThen_ok,gH he,hsz,ne_eq,not_true_eq_false,if_false,hx]
 exact hst
theorem B7{id off:Nat}{x:Value}(h:den m (.p id off)=some x):∃b,m.ad id=some b/\x=.pointer (some ⟨b,off,none⟩):=by
 simp only[den]at h
 split at h
 ·rename_i q hq;cases h;exact⟨q,hq,rfl⟩
 ·cases h
theorem N9{t:DT}{x:t.den}{vs:List Value}{w':World}{ws0:List Wr}{m1:Mp}(h:nU ρ N S H m a w)(hd:∀d,o.dst=some d->d<N)(hm:m.le m1)(hU:∀id,m1.has id->U id)(hf:∀j,fresh<=j->j<r.2->¬U j)
 (hx:(execOp a.eval o).run P w=.ok (.value (CE t vs)) w') (hh:a0d ρ (cw H ws0) m1 w') (hw:oa ws0) (hdr:DR m1.fz t x vs)
 (hr:(bif !t.calm then .fail 298 else eu o (Bj t x fresh) (ws0++exW t x fresh) (fresh+t.lists)).run S H=some r):o.wp P a w (a0q ρ N U fresh S H m r) Q:=by
 cases hc:t.calm with
 |false=>rw[hc]at hr;exact aA hr
 |true=>
  rw[hc]at hr
  have hr:(eu o (Bj t x fresh) (ws0++exW t x fresh) (fresh+t.lists)).run S H=some r:=hr
  have hnx:=mC hr
  obtain⟨m',q⟩:=a2Y (n:=fresh) hh (MG hc hdr) .nil (fun i hi hi' hh'=>hf i hi (by omega) (hU i hh'))
  refine iN h hd hx (Mp.le_trans hm q.le) (ws0:=ws0++exW t x fresh) (by rw[a0o];exact q.rep) (a3f hw ot) (yz q.cs) (fun i hi=> ?_) hr
  rcases q.has i hi with p|p
  ·exact .inl (hU i p)
  ·exact .inr p
theorem a4A{ti:TI}{t:DT}{vs:List Value}(h:Kg ti t=true):t.size=ti.ty.size/\pk ti.ty vs=CE t vs:=by
 unfold Kg at h
 rw[Bool.and_eq_true]at h
 refine⟨Nat.eq_of_beq_eq_true h.1,?_⟩
 unfold pk CE
 cases ha:ti.ty.isAgg with
 |true=>
  have:=h.2
  rw[ha]at this
  simp only[cond_true]at this
  rw[this]
 |false=>
  have:=h.2
  rw[ha]at this
  simp only[cond_false,Bool.not_eq_true']at this
  rw[this]
theorem LN{t u:DT}{vs:List Value}(h:t.same u=true):CE t vs=CE u vs:=by unfold CE;rw[a4L h]
theorem HF{t0:TypeId}{ti:TI}{sz off i b o' el:Nat}{fr:Nat×Nat}{u:DT}{x:u.den}{us L:List Value}{e:(xK u).den}(hti:xB P t0 ti)(h:nU ρ N S H m a w)(hd:∀d,o.dst=some d->d<N)(hU:∀id,m.has id->U id)(hf:∀j,fresh<=j->j<r.2->¬U j)
 (hx:∀v,(Instr.loadAt t0 (.pointer (some ⟨b,o'+i*sz+off,none⟩))).run P w=.ok v w->(execOp a.eval o).run P w=.ok (.value v) w)
 (hg:w.heap[b]?=some (.cells L.toArray el fr)) (hc:LC m.fz u x us) (hL:∀j v,us[j]?=some v->L[o'+j]?=some v) (hi:i<lenL u x) (he:e=AG u x i)
 (hr:(wV fresh o ti sz off u e).run S H=some r):o.wp P a w (a0q ρ N U fresh S H m r) Q:=by
 subst he
 unfold wV at hr
 replace hr:=a07 hr
 obtain⟨t,ht,hr⟩:=hr
 replace hr:=cE hr
 obtain⟨hb,hr⟩:=hr
 rw[Bool.and_eq_true]at hb
 have hsz:=Nat.eq_of_beq_eq_true hb.1
 subst hsz
 obtain⟨hts,htp⟩:=a4A (vs:=(((us.drop (i*u5 u)).take (u5 u)).drop off).take ti.ty.size) hb.2
 obtain⟨d,hsub,hr⟩:=a07 hr
 have hde:=hc.get i hi
 obtain⟨q1,q2,q3⟩:=Tk hsub hde
 have hds:=xq q1
 have hpos:=hti.pos
 have hel:((us.drop (i*u5 u)).take (u5 u)).length=u5 u:=by rw[hde.len];rfl
 obtain⟨e1,e2⟩:=N4 (s:=ti.ty.size) (off:=off) hc hL hi (by omega)
 have hrun:=vl (P:=P) (off:=o'+i*u5 u+off) hti.Is hg (e2 hpos)
 rw[e1,htp]at hrun
 rw[show d.1.size=ti.ty.size by omega]at q3
 rw[<-LN q1]at hrun
 exact N9 (ws0:=[]) h hd (Mp.le_refl m) hU hf (hx _ hrun) (show a0d ρ (cw H []) m w from h.heap) jz q3 (by unfold UN at hr;simpa using hr)
theorem ur{id:Nat}{t:DT}{x:t.den}(h:a3x m w id t x){b o' n c:Nat}(hp:m.pl id=some (.slice (some ⟨b,o',none⟩) n c))(hi:0<n):
 n=lenL t x/\m.ad id=some b/\∃el cz vs post,w.heap[b]?=some (.cells (cz++vs++post).toArray el (0,0))/\cz.length=o'/\LC m.fz t x vs/\lenL t x<=c/\(c<=maxLen/\lenL t x*lim t<=140737488355328)/\vs.length+post.length=c*u5 t:=by
 obtain⟨ht,v,h1,h2⟩:=h
 rw[hp]at h1;cases h1
 rcases h2 with⟨A,e,_⟩|⟨b1,o1,el,c1,cz,vs,post,e1,e2,h3,h4,h5,h6,h7,h8⟩
 ·cases e;omega
 ·cases e2;exact⟨rfl,e1,el,cz,vs,post,h3,h4,h5,h6,h7,h8⟩
theorem To:∀(a:TL) (i:Nat) (t:Tm),i<a.len->(a.set i t).get i=t:=by
 intro a
 induction a with
 |nil=>intro i t h;simp[TL.len]at h
 |cons o v x r _ ih=>intro i t h;cases i with
  |zero=>rfl
  |succ i=>exact ih i t (by simp only[TL.len]at h;omega)
theorem Tp:∀(a:TL) (i:Nat) (s t:Tm),(a.set i s).set i t=a.set i t:=by
 intro a
 induction a with
 |nil=>intro i s t;rfl
 |cons o v x r _ ih=>intro i s t;cases i with
  |zero=>rfl
  |succ i=>simp only[TL.set,ih]
theorem KA{α:Type}{l:List α}{i:Nat}{e d:α}(h:i<l.length):(l.set i e).getD i d=e:=by simp[List.getD,h]
theorem zB{t:DT}{x:t.den}{i:Nat}{e:(xK t).den}(hi:i<lenL t x):AG t (vp t x i e) i=e:=by
 cases t<;>first
  |exact To _ _ _ hi
  |exact KA hi
  |(simp[lenL]at hi)
theorem EF{t:DT}{x:t.den}{i:Nat}{e z:(xK t).den}:vp t (vp t x i e) i z=vp t x i z:=by
 cases t<;>first
  |exact Tp _ _ _ _
  |exact List.set_set _
  |rfl
theorem O8(hT:gj P Γ.sj)(h:nU ρ N S H m a w)(hU:∀id,m.has id->U id)(hd:∀d,o.dst=some d->d<N)(hf:∀j,fresh<=j->j<r.2->¬U j){t:TypeId}{x:Operand}(ho:o.op=.load t x)
 (hr:(oR Γ t fun ti=>dN x (evLoad fresh o ti)).run S H=some r):o.wp P a w (a0q ρ N U fresh S H m r) Q:=by
 replace hr:=fB hT hr
 obtain⟨ti,hti,hr⟩:=hr
 replace hr:=cU h hr
 obtain⟨v,h1,hr⟩:=hr
 unfold evLoad at hr
 split at hr
 ·rename_i id off
  replace hr:=dR hr
  obtain⟨ob,hob,hr⟩:=hr
  unfold Hi at hr
  replace hr:=a07 hr
  obtain⟨cs,hcs,hr⟩:=hr
  replace hr:=cE hr
  obtain⟨hb,hr⟩:=hr
  replace hr:=a07 hr
  obtain⟨z,h3,hr⟩:=hr
  cases ob with
  |cells el cs'=>
   cases hcs
   obtain⟨b,vs,q1,q2,q3,q4⟩:=h.heap.fe id _ hob
   obtain⟨b',e1,e2⟩:=B7 h1
   rw[q1]at e1;cases e1
   have eY:=oV hb
   rw[<-cH q2]at eY
   have hrun:=vl (P:=P) (off:=off) hti.Is q4 eY
   refine cV h hU hd ?_ (qO h3 (sV _ _ q2) (yj _ _ q3)) hr
   simp only[execOp,ho]
   rw[e2,Sem.run_bind,hrun]
   rfl
  |_=>cases hcs
 ·rename_i id i k sz off
  replace hr:=dR hr
  obtain⟨ob,hob,hr⟩:=hr
  have h1':=h1
  simp only[den]at h1'
  rw[jv]at h1'
  obtain⟨hpx,b,o',n,c,hpl,hin,hval⟩:=h1'
  have hx:∀v,(Instr.loadAt t (.pointer (some ⟨b,o'+i*sz+off,none⟩))).run P w=.ok v w->(execOp a.eval o).run P w=.ok (.value v) w:=by
   intro v hv
   simp only[execOp,ho]
   rw[hval,Sem.run_bind,hv]
   rfl
  have row:∀{u:DT} {y:u.den} {e:(xK u).den},a3x m w id u y->e=AG u y i->(wV fresh o ti sz off u e).run S H=some r->o.wp P a w (a0q ρ N U fresh S H m r) Q:=by
   intro u y e hrow he hr
   obtain⟨e1,_,el,cz,vs,post,q3,q4,q5,_⟩:=ur hrow hpl (by omega)
   subst e1 q4
   exact HF hti h hd hU hf hx q3 q5 (fun j v hj=>by
    have:=pP cz vs post j v hj
    rwa[List.getElem?_toArray]at this) hin he hr
  unfold evLoadE at hr
  split at hr
  ·rename_i u y
   obtain⟨hl,v',q1,q2⟩:=h.heap.fe id _ hob
   rw[hpl]at q1;cases q1
   obtain⟨v'',e,A,c',e',h2,h3,h4,h5,us,h6,h7⟩:=(Av hl).1 q2
   cases e;cases e'
   obtain⟨b',o'',arr,e1,e2,e3⟩:=h7 (by omega)
   cases e1
   obtain⟨el,fr,hg⟩:=h.heap.fz b arr e2
   exact HF (L:=arr.toList) hti h hd hU hf hx (by simpa using hg) h6 (fun j v hj=>by have:=e3 j v hj;rwa[<-Array.getElem?_toList]at this) hin rfl hr
  ·exact row (h.heap.fe id _ hob) rfl hr
  ·rename_i u y j k' e
   obtain⟨sz',q1,q2,q3⟩:=h.heap.fe id _ hob
   cases hk:Nat.beq k k' with
   |true=>
    rw[hk]at hr
    have hk:=Nat.eq_of_beq_eq_true hk
    subst hk
    rw[hpx]at q1
    simp only[Option.some.injEq,Prod.mk.injEq,true_and]at q1
    obtain⟨e1,e2⟩:=q1
    subst e1 e2
    exact row q3 (zB q2).symm hr
   |false=>rw[hk]at hr;exact row q3 rfl hr
  ·exact aA hr
 ·exact aA hr
theorem Gg{t0:TypeId}{ti:TI}{t u:DT}{y:t.den}{x:u.den}{e:(xK u).den}{id i k sz off b o' n c:Nat}{ob:Ob}{ws:List Wr}{us:List Value}{m1:Mp}{X:Operand}(hti:xB P t0 ti)(h:nU ρ N S H m a w)(hU:∀id,m.has id->U id)
 (hx:∀w',(Instr.storeAt t0 (.pointer (some ⟨b,o'+i*sz+off,none⟩)) (a.eval X)).run P w=.ok () w'->(execOp a.eval o).run P w=.ok .skip w')
 (hus:(a.eval X).cells.toList=us) (hsz:us.length=ti.ty.size) (hone:∀v∈us,v.oneCell'=true)
 (hob:H id=some ob) (hmine:ob.eJ=true) (hpx:m.px k=some (id,i,sz)) (hpl:m.pl id=some (.slice (some ⟨b,o',none⟩) n c)) (hin:i<n)
 (hrow:a3x m w id u x∨∃e',a3x m w id u (vp u x i e')/\e=e') (hl:lenL u x=n) (he:e=AG u x i∨∃e',a3x m w id u (vp u x i e')/\e=e')
 (hrs:RS ρ H m w ws m1) (hdr:DR m1.fz t y us)
 (hr:(DL fresh o id i k sz off t y ws u x e).run S H=some r):o.wp P a w (a0q ρ N U fresh S H m r) Q:=by
 unfold DL at hr
 replace hr:=cE hr
 obtain⟨hb,hr⟩:=hr
 rw[Bool.and_eq_true]at hb
 have hsz':=Nat.eq_of_beq_eq_true hb.1
 subst hsz'
 have hat:=GZ hrs.FN hb.2
 obtain⟨z,hz,hr⟩:=a07 hr
 have key:∃x0,a3x m w id u x0/\lenL u x0=n/\AG u x0 i=e/\vp u x0 i z=vp u x i z:=by
  rcases hrow with hrow|⟨e',hrow,rfl⟩
  ·rcases he with he|⟨e',hrow',rfl⟩
   ·exact⟨x,hrow,hl,he.symm,rfl⟩
   ·exact⟨_,hrow',by rw[qR];exact hl,zB (by omega),EF⟩
  ·exact⟨_,hrow,by rw[qR];exact hl,zB (by omega),EF⟩
 obtain⟨x0,hrow0,hl0,hget,hset⟩:=key
 have hrow1:a3x m1 w id u x0:=hrow0.mono hrs.le (fun e=>by rw[hrs.ad];exact e) fun _ _=>rfl
 have hpl1:m1.pl id=some (.slice (some ⟨b,o',none⟩) n c):=by rw[hrs.pl];exact hpl
 obtain⟨e1,had,el,cz,vs,post,q3,q4,q5,q6,q7,q8⟩:=ur hrow1 hpl1 (by omega)
 subst q4
 have hin0:i<lenL u x0:=by omega
 have hde:=q5.get i hin0
 rw[hget]at hde
 obtain⟨p1,p2⟩:=TA hz hde hdr
 have hel:((vs.drop (i*u5 u)).take (u5 u)).length=u5 u:=by rw[hde.len];rfl
 have hvl:=q5.len
 have hbd:i*u5 u+u5 u<=vs.length:=by
  rw[hvl]
  have:=Nat.mul_le_mul_right (u5 u) (show i+1<=lenL u x0 from hin0)
  rw[Nat.add_mul,Nat.one_mul]at this
  exact this
 have hp:=LS (us:=us) (off:=off) hbd (by omega)
 have hLC:=q5.set i hin0 p2
 rw[hp]at hLC
 have hput:dO (cz++vs++post) (cz.length+i*u5 u+off) us=cz++dO vs (i*u5 u+off) us++post:=by
  rw[List.append_assoc,Nat.add_assoc,iz,wh (by omega),List.append_assoc]
 have hrun:=xQ (P:=P) (off:=cz.length+i*u5 u+off) hti.Is q3 (x:=a.eval X) hus hsz hone (by simp only[List.length_append];omega)
 rw[hput]at hrun
 have hplen:(dO vs (i*u5 u+off) us).length=vs.length:=tQ (by omega)
 have hor:OR m1 (w.setRow b (cz++dO vs (i*u5 u+off) us++post).toArray) id (.Jn u x i k z):=by
  refine⟨u5 u,by rw[hrs.px];exact hpx,by omega,hrow1.1,_,hpl1,?_⟩
  rw[<-hset]
  refine .inr ⟨b,cz.length,el,c,cz,dO vs (i*u5 u+off) us,post,had,by rw[qR,<-e1],Go.setRow_heap w b _ _ el (0,0) q3,rfl,hLC,by rw[qR];exact q6,by rw[qR];exact q7,by rw[hplen];exact q8⟩
 have hrep:=hrs.rep.xU (hat.trans hob) hmine had (fun j hj=>Go.setRow_other w b j _ hj) (by rw[fS];omega) hor ⟨rfl,rfl,rfl,by first|exact Nat.le_refl _|exact Nat.le_succ _⟩
 refine a4t h hrs.le (fun id' hid=>hU id' (by
  rcases hid with q|q|q
  ·exact .inl (by rwa[hrs.ad]at q)
  ·exact .inr (.inl (by rwa[hrs.pl]at q))
  ·exact .inr (.inr (by rwa[hrs.px]at q)))) (hx _ hrun) (ws0:=ws++[.ej id (some (.Jn u x i k z))]) (by rw[a0o];exact hrep) (a3f hrs.FN.ej (fQ _ _)) hr
theorem LB(hT:gj P Γ.sj)(h:nU ρ N S H m a w)(hU:∀id,m.has id->U id){t:TypeId}{x y:Operand}(ho:o.op=.store t x y)
 (hr:(oR Γ t fun ti=>dN x fun v=>dN y fun u=>C1 fresh o ti u.cells v).run S H=some r):o.wp P a w (a0q ρ N U fresh S H m r) Q:=by
 replace hr:=fB hT hr
 obtain⟨ti,hti,hr⟩:=hr
 replace hr:=cU h hr
 obtain⟨v,h1,hr⟩:=hr
 replace hr:=cU h hr
 obtain⟨u,h2,hr⟩:=hr
 unfold C1 at hr
 split at hr
 ·rename_i id off
  replace hr:=dR hr
  obtain⟨ob,hob,hr⟩:=hr
  unfold evStoreO at hr
  split at hr
  ·rename_i el cs
   replace hr:=cE hr
   obtain⟨hb,hr⟩:=hr
   simp only[Bool.and_eq_true]at hb
   have eY:=oV hb.1
   have hul:=Nat.eq_of_beq_eq_true hb.2
   have hpos:=hti.pos
   obtain⟨c1,c2⟩:=qN h2 (by omega)
   obtain⟨b,vs,q1,q2,q4,q5⟩:=h.heap.put hob c1 c2 (k:=off) (by omega)
   obtain⟨b',e1,e2⟩:=B7 h1
   rw[q1]at e1;cases e1
   have hvl:=cH q2
   have hcl:=cH c1
   have hrun:=xQ (P:=P) (off:=off) hti.Is q4 (x:=a.eval y) rfl (by rw[hcl,hul]) (a3w c1 c2) (by omega)
   refine a4t h (Mp.le_refl m) hU (ws0:=[.ej id (some (.cells el (putAt cs off u.cells)))]) ?_ q5 (fQ _ _) hr
   simp only[execOp,ho]
   rw[e2,Sem.run_bind,hrun]
   rfl
  ·exact aA hr
 ·rename_i id i k sz off
  have h1':=h1
  simp only[den]at h1'
  rw[jv]at h1'
  obtain⟨hpx,b,o',n,c,hpl,hin,hval⟩:=h1'
  obtain⟨t',ht',hr⟩:=a07 hr
  cases hdt:(Kg ti t'&&t'.calm)with
  |false=>rw[hdt]at hr;exact aA hr
  |true=>
   rw[hdt]at hr
   rw[Bool.and_eq_true]at hdt
   obtain⟨y',ws,hr,hrd⟩:=um (show(rdD false t' u.cells _).run S H=some r from hr)
   obtain⟨ob,hob,hr⟩:=dR hr
   have hpos:=hti.pos
   have hsz:=(a4A (vs:=[]) hdt.1).1
   have hcl:0<u.cells.length:=by
    rcases Nat.eq_zero_or_pos u.cells.length with e|e
    ·have e:=List.eq_nil_of_length_eq_zero e
     obtain⟨m1,G,p1,p2⟩:=hrd (.start h.heap) rfl (vs:=[]) (by rw[e];rfl)
     have:=p2.one.1
     simp at this;omega
    ·exact e
   obtain⟨c1,c2⟩:=qN h2 hcl
   obtain⟨m1,G,p1,p2⟩:=hrd (.start h.heap) rfl c1
   obtain⟨p3,_⟩:=p2.calm hdt.2
   have hrs:RS ρ H m w ws m1:=by simpa using p1.rs
   have hx:∀w',(Instr.storeAt t (.pointer (some ⟨b,o'+i*sz+off,none⟩)) (a.eval y)).run P w=.ok () w'->(execOp a.eval o).run P w=.ok .skip w':=by
    intro w' hw'
    simp only[execOp,ho]
    rw[hval,Sem.run_bind,hw']
    rfl
   have hlen:(a.eval y).cells.toList.length=ti.ty.size:=by rw[p3.len];exact hsz
   unfold evStoreE at hr
   split at hr
   ·rename_i u' x'
    have hrow:=h.heap.fe id _ hob
    have e1:=(ur hrow hpl (by omega)).1
    exact Gg hti h hU hx rfl hlen (a3w c1 c2) hob rfl hpx hpl hin (.inl hrow) e1.symm (.inl rfl) hrs p3 hr
   ·rename_i u' x' j k' e
    obtain⟨sz',q1,q2,q3⟩:=h.heap.fe id _ hob
    have e1:=(ur q3 hpl (by omega)).1
    cases hk:Nat.beq k k' with
    |true=>
     rw[hk]at hr
     have hk:=Nat.eq_of_beq_eq_true hk
     subst hk
     have q1':=q1
     rw[hpx]at q1'
     simp only[Option.some.injEq,Prod.mk.injEq,true_and]at q1'
     obtain⟨e2,e3⟩:=q1'
     subst e2 e3
     exact Gg hti h hU hx rfl hlen (a3w c1 c2) hob rfl hpx hpl hin (.inr ⟨e,q3,rfl⟩) (by rw[qR]at e1;exact e1.symm) (.inr ⟨e,q3,rfl⟩) hrs p3 hr
    |false=>
     rw[hk]at hr
     exact Gg hti h hU hx rfl hlen (a3w c1 c2) hob rfl hpx hpl hin (.inl q3) e1.symm (.inl rfl) hrs p3 hr
   ·exact aA hr
 ·exact aA hr
theorem GH{i:TypeId}{ti:TI}(h:xB P i ti):∃z,(zeroValue i).run P w=.ok z w/\z.cells.toList=zc ti.ty:=by
 obtain⟨x,h1,h2,h3,h4⟩:=h.parts
 refine⟨pk ti.ty (zc ti.ty),by simp[zeroValue,typeInfo,h1,h2],?_⟩
 unfold pk
 cases ha:ti.ty.isAgg with
 |true=>simp[Value.cells]
 |false=>
  simp only[Bool.false_eq_true,if_false]
  cases ht:ti.ty<;>rw[ht]at ha<;>first|rfl|cases ha
theorem Lu(hT:gj P Γ.sj)(h:nU ρ N S H m a w)(hU:∀id,m.has id->U id)(hd:∀d,o.dst=some d->d<N)(hf:∀j,fresh<=j->j<r.2->¬U j){e:TypeId}(ho:o.op=.alloc e)
 (hr:(oR Γ e fun ti=>eu o (.p fresh 0) [.ej fresh (some (.cells e ti.ty.zero))] (fresh+1)).run S H=some r):o.wp P a w (a0q ρ N U fresh S H m r) Q:=by
 replace hr:=fB hT hr
 obtain⟨ti,hti,hr⟩:=hr
 have hnx:=mC hr
 have hn:=a2I hU (hf fresh (Nat.le_refl _) (by omega))
 obtain⟨z,hz,hzc⟩:=GH (w:=w) hti
 have hrep:=h.heap.zX (el:=e) hn (a2G ti.ty) (mq ti.ty)
 have hzc':(zc ti.ty).toArray=z.cells:=by rw[<-hzc]
 rw[hzc']at hrep
 refine iN h hd (v:=.pointer (some ⟨w.heap.size,0,none⟩)) ?_ (Mp.rK (uR hn) (w7 hn)) (ws0:=[.ej fresh (some (.cells e ti.ty.zero))]) hrep (fQ _ _) (by simp only[den,Mp.set,bQ]) (rD hU (Nat.le_refl _) (Nat.lt_succ_self _)) hr
 simp only[execOp,ho,Instr.alloc,Sem.run_bind,hz,Result.andThen_ok,newVar,newRow,run_newObj,Sem.run_pure]
 rfl
theorem T3(hT:gj P Γ.sj)(h:nU ρ N S H m a w)(hU:∀id,m.has id->U id)(hd:∀d,o.dst=some d->d<N)(hf:∀j,fresh<=j->j<r.2->¬U j){e:TypeId}{x:Operand}(ho:o.op=.box e x)
 (hr:(oR Γ e fun ti=>dN x (Kq fresh o e ti)).run S H=some r):o.wp P a w (a0q ρ N U fresh S H m r) Q:=by
 replace hr:=fB hT hr
 obtain⟨ti,hti,hr⟩:=hr
 replace hr:=cU h hr
 obtain⟨v,h1,hr⟩:=hr
 unfold Kq at hr
 replace hr:=cE hr
 obtain⟨hb,hr⟩:=hr
 have hb:=Nat.eq_of_beq_eq_true hb
 have hpos:=hti.pos
 obtain⟨c1,c2⟩:=qN h1 (by omega)
 have hnx:=mC hr
 have hn:=a2I hU (hf fresh (Nat.le_refl _) (by omega))
 have hrep:=h.heap.zX (el:=e) hn c1 c2
 have hzc':(a.eval x).cells.toList.toArray=(a.eval x).cells:=rfl
 rw[hzc']at hrep
 refine iN h hd (v:=.pointer (some ⟨w.heap.size,0,none⟩)) ?_ (Mp.rK (uR hn) (w7 hn)) (ws0:=[.ej fresh (some (.cells e v.cells))]) hrep (fQ _ _) (by simp only[den,Mp.set,bQ]) (rD hU (Nat.le_refl _) (Nat.lt_succ_self _)) hr
 simp only[execOp,ho,Instr.box,Sem.run_bind,Result.andThen_ok,newVar,newRow,run_newObj,Sem.run_pure]
 rfl
theorem EA{t:TypeId}{fs:Array Field}{k:Nat}{fl:Field}{u:Ty}{b off:Nat}(hu:P.underlying t=some (.struct fs))(hf:fs.toList[k]?=some fl)(he:I5 P fl.type u):
 (Instr.fieldAt t (.pointer (some ⟨b,off,none⟩)) k).run P w=.ok (.pointer (some ⟨b,off+fl.offset,none⟩)) w:=by
 have hne:¬u.size=0:=by have:=he.2.1;omega
 simp only[Instr.fieldAt,Sem.run_bind,run_underlying hu,Result.andThen_ok]
 rw[show fs[k]?=some fl by rw[<-Array.getElem?_toList];exact hf]
 simp only[Instr.sureAddr,fieldPlace,Sem.run_bind,Sem.run_pure,Result.andThen_ok,gH he,if_neg hne,Addr.add_mid]
theorem Cz(hT:gj P Γ.sj)(h:nU ρ N S H m a w)(hU:∀id,m.has id->U id)(hd:∀d,o.dst=some d->d<N){t:TypeId}{x:Operand}{f:Nat}(ho:o.op=.fieldAddr t x f)
 (hr:(oR Γ t fun ti=>dN x (sY fresh o ti f)).run S H=some r):o.wp P a w (a0q ρ N U fresh S H m r) Q:=by
 replace hr:=fB hT hr
 obtain⟨ti,hti,hr⟩:=hr
 replace hr:=cU h hr
 obtain⟨v,h1,hr⟩:=hr
 have fld:∀{u:Ty},fldTy ti.ty f=some u->∀b off,a.eval x=.pointer (some ⟨b,off,none⟩)->(execOp a.eval o).run P w=.ok (.value (.pointer (some ⟨b,off+jf ti.ty f,none⟩))) w:=by
  intro u hu b off he
  obtain⟨A,B,hty⟩:=zy hu
  have hs:=hti.shape
  rw[hty]at hs
  obtain⟨fs,hfu,hfs⟩:=hs
  rw[<-hty]at hfs
  obtain⟨fl,h4,h5,h6⟩:=hfs.at_ hu
  simp only[execOp,ho]
  rw[he,Sem.run_bind,EA hfu h4 h6,h5,Nat.zero_add]
  rfl
 unfold sY at hr
 split at hr
 ·rename_i id off
  split at hr
  ·rename_i u hu
   obtain⟨b,e1,e2⟩:=B7 h1
   exact cV h hU hd (fld hu b off e2) (by simp only[den,e1]) hr
  ·exact aA hr
 ·rename_i id i k sz off
  split at hr
  ·rename_i u hu
   simp only[den]at h1
   rw[jv]at h1
   obtain⟨hpx,b,o',n,c,hpl,hin,hval⟩:=h1
   exact cV h hU hd (fld hu b _ hval) (by simp only[den];rw[jv];exact⟨hpx,b,o',n,c,hpl,hin,by rw[Nat.add_assoc]⟩) hr
  ·exact aA hr
 ·exact aA hr
end
section
variable {P:Program}{Γ:Ctx}{ρ:En}{N:Nat}{S:Sl}{H:Hp}{m:Mp}{a:Act}{w:World}{o:Oper}{U:Nat->Prop}{fresh:Nat}{r:Ws}{Q:Exit->Act->World->Prop}
theorem LQ{vs us:List Value}{o:Nat}(h:o+us.length<=vs.length)(j:Nat):(dO vs o us)[j]?=if j<o then vs[j]? else if j<o+us.length then us[j-o]? else vs[j]?:=by
 unfold dO
 simp only[List.getElem?_append,List.length_append,List.length_take,List.getElem?_take,List.getElem?_drop]
 have hm:min o vs.length=o:=by omega
 simp only[hm]
 by_cases c1:j<o
 ·simp[c1,show j<o+us.length by omega]
 ·by_cases c2:j<o+us.length
  ·simp[c1,c2]
  ·simp[c1,c2,show o+us.length+(j-(o+us.length))=j by omega]
theorem Ba{place:Nat->Option (Nat×Nat)}{xs:List Value}{i off:Nat}{v:Value}{rest:List (Nat×Value)}(hp:place i=some (off,v.cells.size))(hl:off+v.cells.size<=xs.length):
 Instr.fill place xs.toArray ((i,v)::rest)=Instr.fill place (dO xs off v.cells.toList).toArray rest:=by
 obtain⟨g1,g2⟩:=Great.foldl_set off v.cells.toList 0 xs.toArray
 have e:(v.cells.toList.zipIdx 0).foldl (fun cs (x:Value×Nat)=>cs.setIfInBounds (off+x.2) x.1) xs.toArray=(dO xs off v.cells.toList).toArray:=by
  apply Array.toList_inj.1
  apply List.ext_getElem?
  intro k
  rw[Array.getElem?_toList,g2 k]
  rw[LQ (by rw[Array.length_toList];exact hl)]
  simp only[Nat.add_zero,Array.length_toList,List.size_toArray]
  by_cases c1:k<off
  ·rw[if_neg (by omega),if_pos c1];simp
  ·by_cases c2:k<off+v.cells.size
   ·rw[if_pos (by omega),if_neg c1,if_pos c2]
   ·rw[if_neg (by omega),if_neg c1,if_neg c2];simp
 conv=>lhs;unfold Instr.fill
 simp only[hp]
 rw[if_neg (by simp;omega)]
 congr 1
 rw[<-e,<-Array.foldl_toList,Array.toList_zipIdx]
theorem a4k(h:nU ρ N S H m a w):∀{ps:List (Nat×Operand)} {k:List (Nat×HV)->ST},(partsR ps k).run S H=some r->
 ∃vs,All2 (fun(p:Nat×Operand) (q:Nat×HV)=>q.1=p.1/\den m q.2=some (a.eval p.2)) ps vs/\(k vs).run S H=some r
 |[],k,hr=>⟨[],trivial,hr⟩
 |p::l,k,hr=>by
  simp only[partsR]at hr
  replace hr:=cU h hr
  obtain⟨v,h1,hr⟩:=hr
  obtain⟨vs,h3,hr⟩:=a4k h hr
  exact⟨(p.1,v)::vs,⟨⟨rfl,h1⟩,h3⟩,hr⟩
theorem Be:∀{t:Ty} {k:Nat} {u:Ty},fldTy t k=some u->jf t k+u.size<=t.size
 | .ak a b,0,u,h=>by simp only[fldTy]at h;cases h;simp only[jf,Ty.size];omega
 | .ak a b,k+1,u,h=>by
   simp only[fldTy]at h
   have:=Be h
   simp only[jf,Ty.size];omega
 | .bool,_,_,h| .int _,_,_,h| .str,_,_,h| .sl,_,_,h| .ptr,_,_,h| .fn,_,_,h| .mp,_,_,h| .unit,_,_,h| .arr _ _,_,_,h=>by simp[fldTy]at h
theorem DN{t:Ty}{place:Nat->Option (Nat×Nat)}(hp:∀k u,fldTy t k=some u->place k=some (jf t k,u.size)):∀{ps:List (Nat×Operand)} {vs:List (Nat×HV)} {cs cs':List HV} {xs:List Value},
 All2 (fun(p:Nat×Operand) (q:Nat×HV)=>q.1=p.1/\den m q.2=some (a.eval p.2)) ps vs->fillStruct t vs cs=some cs'->denL m cs=some xs->cs.all HV.one=true->cs.length=t.size->(∀k u,fldTy t k=some u->0<u.size)->
 ∃xs',Instr.fill place xs.toArray (ps.map fun p=>(p.1,a.eval p.2))=some xs'.toArray/\denL m cs'=some xs'/\cs'.all HV.one=true/\cs'.length=t.size:=by
 intro ps
 induction ps with
 |nil=>intro vs cs cs' xs h hf hd h1 hl _;cases vs with
  |cons _ _=>exact h.elim
  |nil=>simp only[fillStruct]at hf;cases hf;exact⟨xs,rfl,hd,h1,hl⟩
 |cons p ps ih=>
  intro vs cs cs' xs h hf hd h1 hl hpos
  cases vs with
  |nil=>exact h.elim
  |cons q vs'=>
   obtain⟨hq,hrest⟩:=h
   obtain⟨i,v⟩:=q
   obtain⟨hi,hv⟩:=hq
   simp only at hi hv
   simp only[fillStruct]at hf
   split at hf
   ·rename_i u hu
    cases hb:Nat.beq v.cells.length u.size<;>rw[hb]at hf<;>(try cases hf)
    have hb:=Nat.eq_of_beq_eq_true hb
    have hup:=hpos _ _ hu
    obtain⟨c1,c2⟩:=qN hv (by omega)
    have hoff:=Be hu
    have hvl:=cH c1
    have hxl:=cH hd
    obtain⟨xs',r1,r2,r3,r4⟩:=ih hrest hf (zj hd c1 (by omega)) (wO h1 c2 (by omega)) (by rw[Aa (by omega),hl]) hpos
    refine⟨xs',?_,r2,r3,r4⟩
    rw[Array.length_toList]at hvl
    rw[List.map_cons,Ba (off:=jf t i) (by rw[hvl,hb,<-hi];exact hp i u hu) (by rw[hvl];omega)]
    exact r1
   ·cases hf
theorem DM{n sz:Nat}(hsz:0<sz):∀{ps:List (Nat×Operand)} {vs:List (Nat×HV)} {cs cs':List HV} {xs:List Value},
 All2 (fun(p:Nat×Operand) (q:Nat×HV)=>q.1=p.1/\den m q.2=some (a.eval p.2)) ps vs->rG n sz vs cs=some cs'->denL m cs=some xs->cs.all HV.one=true->cs.length=n*sz->
 ∃xs',Instr.fill (fun i=>some (i*sz,sz)) xs.toArray (ps.map fun p=>(p.1,a.eval p.2))=some xs'.toArray/\denL m cs'=some xs'/\cs'.all HV.one=true/\cs'.length=n*sz:=by
 intro ps
 induction ps with
 |nil=>intro vs cs cs' xs h hf hd h1 hl;cases vs with
  |cons _ _=>exact h.elim
  |nil=>simp only[rG]at hf;cases hf;exact⟨xs,rfl,hd,h1,hl⟩
 |cons p ps ih=>
  intro vs cs cs' xs h hf hd h1 hl
  cases vs with
  |nil=>exact h.elim
  |cons q vs'=>
   obtain⟨hq,hrest⟩:=h
   obtain⟨i,v⟩:=q
   obtain⟨hi,hv⟩:=hq
   simp only at hi hv
   simp only[rG]at hf
   cases hb:(Nat.blt i n&&Nat.beq v.cells.length sz)<;>rw[hb]at hf<;>(try cases hf)
   simp only[Bool.and_eq_true]at hb
   have hin:i<n:=Nat.le_of_ble_eq_true hb.1
   have hb:=Nat.eq_of_beq_eq_true hb.2
   obtain⟨c1,c2⟩:=qN hv (by omega)
   have hoff:i*sz+sz<=n*sz:=by
    calc i*sz+sz=(i+1)*sz:=by rw[Nat.add_mul,Nat.one_mul]
     _<=n*sz:=Nat.mul_le_mul_right _ hin
   have hvl:=cH c1
   have hxl:=cH hd
   obtain⟨xs',r1,r2,r3,r4⟩:=ih hrest hf (zj hd c1 (by omega)) (wO h1 c2 (by omega)) (by rw[Aa (by omega),hl])
   refine⟨xs',?_,r2,r3,r4⟩
   rw[Array.length_toList]at hvl
   rw[List.map_cons,Ba (off:=i*sz) (by rw[hvl,hb,<-hi]) (by rw[hvl];omega)]
   exact r1
theorem BK.tL:∀{fs:List Field} {off:Nat} {t:Ty},BK P fs off t->∃tL,fs.mapM (fun f=>(P.info? f.type).map fun i=>(f.offset,i.size))=some tL/\(∀k u,fldTy t k=some u->tL[k]?=some (off+jf t k,u.size))/\∀k u,fldTy t k=some u->0<u.size:=by
 intro fs off t h
 induction h with
 |nil=>exact⟨[],rfl,fun k u hu=>by simp[fldTy]at hu,fun k u hu=>by simp[fldTy]at hu⟩
 | @cons f fs off a b h1 h2 h3 ih=>
   obtain⟨tL,q1,q2,q3⟩:=ih
   have hs:(P.info? f.type).map (fun i=>(f.offset,i.size))=some (f.offset,a.size):=by
    have:=h2.1
    cases hq:P.info? f.type with
    |none=>simp[hq]at this
    |some i=>simp[hq]at this;simp[this]
   refine⟨(f.offset,a.size)::tL,by rw[List.mapM_cons,hs,q1];rfl,fun k u hu=> ?_,fun k u hu=> ?_⟩
   ·cases k with
    |zero=>simp only[fldTy]at hu;cases hu;simp[jf,h1]
    |succ k=>simp only[fldTy]at hu;simp only[List.getElem?_cons_succ,q2 k u hu,jf];congr 2;omega
   ·cases k with
    |zero=>simp only[fldTy]at hu;cases hu;exact h2.2.1
    |succ k=>exact q3 k u hu
theorem EV(t:Ty)(ha:t.isAgg=true):(pk t (zc t)).cells=(zc t).toArray:=by unfold pk;rw[if_pos ha];rfl
theorem Lw(hT:gj P Γ.sj)(h:nU ρ N S H m a w)(hU:∀id,m.has id->U id)(hd:∀d,o.dst=some d->d<N){t:TypeId}{ps:Array (Nat×Operand)}(ho:o.op=.build t ps)
 (hr:(oR Γ t fun ti=>partsR ps.toList fun vs=>evBuild fresh o vs ti.ty).run S H=some r):o.wp P a w (a0q ρ N U fresh S H m r) Q:=by
 replace hr:=fB hT hr
 obtain⟨ti,hti,hr⟩:=hr
 have hsh:=hti.shape
 replace hr:=a4k h hr
 obtain⟨vs,hall,hr⟩:=hr
 obtain⟨it,hi,hz,_,_⟩:=hti.parts
 have hps:(ps.map fun(i,x)=>(i,a.eval x)).toList=ps.toList.map fun p=>(p.1,a.eval p.2):=by rw[Array.toList_map]
 unfold evBuild at hr
 split at hr
 ·rename_i n u hty
  replace hr:=a07 hr
  obtain⟨cs,hcs,hr⟩:=hr
  rw[hty]at hsh
  obtain⟨hu,he⟩:=hsh
  obtain⟨xs',r1,r2,r3,r4⟩:=DM (m:=m) (a:=a) he.2.1 hall hcs (a2G (.arr n u)) (mq (.arr n u)) (gY (.arr n u))
  have hsz:=he.1
  cases hq:P.info? ti.el with
  |none=>rw[hq]at hsz;simp at hsz
  |some ie=>
   rw[hq]at hsz;simp at hsz
   have hb:P.built t (ps.map fun(i,x)=>(i,a.eval x)).toList=some xs'.toArray:=by
    rw[hps]
    rw[hty]at hz
    simp only[Program.built,hi,hu,hz,hq,hsz,EV (.arr n u) rfl]
    exact r1
   have hrun:=run_build (P:=P) w t (ps.map fun(i,x)=>(i,a.eval x)) xs'.toArray hb
   refine cV h hU hd (v:=.agg xs'.toArray) ?_ (by simp only[den,r3,r2]) hr
   simp only[execOp,ho,Sem.run_bind,hrun,Result.andThen_ok,Sem.run_pure]
 ·rename_i A B hty
  replace hr:=a07 hr
  obtain⟨cs,hcs,hr⟩:=hr
  rw[hty]at hsh
  obtain⟨fs,hu,hfs⟩:=hsh
  obtain⟨tL,q1,q2,q3⟩:=hfs.tL
  obtain⟨xs',r1,r2,r3,r4⟩:=DN (m:=m) (a:=a) (place:=(tL.toArray[·]?)) (fun k u hk=>by simpa using q2 k u hk) hall hcs (a2G (.ak A B)) (mq (.ak A B)) (gY (.ak A B)) q3
  have hb:P.built t (ps.map fun(i,x)=>(i,a.eval x)).toList=some xs'.toArray:=by
   rw[hps]
   rw[hty]at hz
   simp only[Program.built,hi,hu,hz,q1,EV (.ak A B) rfl]
   exact r1
  have hrun:=run_build (P:=P) w t (ps.map fun(i,x)=>(i,a.eval x)) xs'.toArray hb
  refine cV h hU hd (v:=.agg xs'.toArray) ?_ (by simp only[den,r3,r2]) hr
  simp only[execOp,ho,Sem.run_bind,hrun,Result.andThen_ok,Sem.run_pure]
 ·exact aA hr
theorem th{t:Ty}(h:vV t=true):t=.sl:=by cases t<;>first|rfl|cases h
theorem FO{t:Ty}(h:zG t=true):t=.str:=by cases t<;>first|rfl|cases h
theorem Gh(zs:List Value)(k:Nat)(f:Nat->Value)(hf:∀i,i<zs.length->f i=zs.getD i undef)(hm:∀i,f i=f (i%zs.length)):(List.range (k*zs.length)).map f=(List.replicate k zs).flatten:=by
 induction k with
 |zero=>simp
 |succ k ih=>
  rw[Nat.add_mul,Nat.one_mul,List.range_add,List.map_append,ih,List.replicate_succ',List.flatten_append]
  congr 1
  apply List.ext_getElem?
  intro j
  simp only[List.map_map,List.getElem?_map,List.getElem?_range',List.flatten_cons,List.flatten_nil,List.append_nil]
  by_cases hj:j<zs.length
  ·rw[List.getElem?_range hj]
   simp only[Option.map_some,Function.comp]
   rw[hm,Nat.add_comm,Nat.add_mul_mod_self_right,Nat.mod_eq_of_lt hj,hf j hj]
   simp[List.getD,List.getElem?_eq_getElem hj]
  ·rw[List.getElem?_eq_none (by simpa using hj),List.getElem?_eq_none (by simpa using hj)];rfl
theorem zS(z:Array Value)(k:Nat):((Array.range (k*z.size)).map (fun i=>z[i%z.size]!)).toList=(List.replicate k z.toList).flatten:=by
 rw[Array.toList_map,Array.toList_range]
 have:=Gh z.toList k (fun i=>z[i%z.size]!) (fun i hi=>by
  rw[Array.length_toList]at hi
  rw[Nat.mod_eq_of_lt hi]
  simp[List.getD,hi]) (fun i=>by simp)
 simpa using this
theorem nk(t:Ty):(pk t (zc t)).cells.toList=zc t:=by
 have hl:(zc t).length=t.size:=by rw[cH (a2G (m:=⟨fun _=>none,fun _=>none,fun _=>none,fun _=>none⟩) t),gY]
 unfold pk
 cases ha:t.isAgg with
 |true=>simp[Value.cells]
 |false=>
  simp only[Bool.false_eq_true,if_false]
  cases ht:t<;>rw[ht]at ha<;>first|rfl|cases ha
theorem wc(t:Ty):(pk t (zc t)).cells.size=t.size:=by
 rw[<-Array.length_toList,nk,cH (a2G (m:=⟨fun _=>none,fun _=>none,fun _=>none,fun _=>none⟩) t),gY]
def flatC:Value->Bool
 | .slice none 0 0=>true
 | .slice .. =>false
 |_=>true
theorem wH:∀t:Ty,∀u∈zc t,flatC u=true
 | .arr n t=>fun u hu=>by
   simp only[zc,List.mem_flatten,List.mem_replicate]at hu
   obtain⟨l,⟨_,rfl⟩,hu⟩:=hu
   exact wH t u hu
 | .ak a b=>fun u hu=>by
   simp only[zc,List.mem_append]at hu
   rcases hu with hu|hu
   ·exact wH a u hu
   ·exact wH b u hu
 | .bool| .int _| .str| .sl| .ptr| .fn| .mp| .unit=>fun u hu=>by simp[zc]at hu<;>(subst hu;rfl)
theorem I1{F F':Fz}{w:World}:∀{t:DT} {x:t.den} {vs:List Value},DD F w t x vs []->(∀u∈vs,flatC u=true)->DR F' t x vs:=by
 intro t
 have sl:∀{C C':List Value->Prop} {k n:Nat} {v:Value},(n=0->(∃us,C us)->C' [])->EW F C k n v->flatC v=true->EW F' C' k n v:=by
  rintro C C' k n v hC ⟨A,c,rfl,h1,h2,h3,h4,us,h5,h6⟩ hv
  have:A=none/\n=0/\c=0:=by
   unfold flatC at hv
   split at hv
   ·rename_i e;cases e;exact⟨rfl,rfl,rfl⟩
   ·cases hv
   ·rename_i hne;exact absurd rfl (hne _ _ _)
  obtain⟨rfl,rfl,rfl⟩:=this
  exact⟨none,0,rfl,h1,h2,h3,h4,[],hC rfl ⟨us,h5⟩,fun hp=>by omega⟩
 have row:∀{t:DT} {x:t.den} {v:Value} {B:Option Nat},t.isL=true->kL F w t x v B->flatC v=true->DR F' t x [v]:=by
  intro t x v B ht hr hv
  rcases hr with⟨A,rfl,h2,h3,h4,h5⟩|⟨b,o,el,c,cz,vs,post,h1,rfl,_⟩
  ·refine(Av ht).2 ⟨_,rfl,A,0,by rw[h4],by omega,⟨by omega,by rw[h4,Nat.zero_mul];omega⟩,fun _=>rfl,h2,[],?_,fun hp=>by omega⟩
   cases t<;>first
    |(cases ht;done)
    |(have:x.len=0:=h4;cases x with
       |nil=>rfl
       |cons _ _ _ _=>simp[TL.len]at this)
    |(have:x.length=0:=h4;rw[List.eq_nil_of_length_eq_zero this];exact⟨[],rfl,trivial⟩)
  ·cases hv
 induction t with
 |ak a b iha ihb=>
  intro x vs ⟨us,rs,G1,G2,h1,h2,h3,h4⟩ hf
  have h2:G1++G2=[]:=h2.symm
  rw[List.append_eq_nil_iff]at h2
  obtain⟨rfl,rfl⟩:=h2
  subst h1
  exact⟨us,rs,rfl,iha h3 fun u hu=>hf u (by simp[hu]),ihb h4 fun u hu=>hf u (by simp[hu])⟩
 |a01 t ih=>
  intro x vs ⟨⟨v,e,h⟩,_⟩ hf
  subst e
  refine⟨v,rfl,sl (fun hn _=> ?_) h (hf v (by simp))⟩
  rw[List.eq_nil_of_length_eq_zero hn];exact⟨[],rfl,trivial⟩
 |bS=>
  intro x vs ⟨⟨v,e,h⟩,_⟩ hf
  subst e
  refine⟨v,rfl,sl (fun hn _=> ?_) h (hf v (by simp))⟩
  cases x with
  |nil=>rfl
  |cons _ _ _ _=>simp[TL.len]at hn
 |bH t ih=>intro x vs ⟨v,B,e,h,hB⟩ hf;subst e;exact row rfl h (hf v (by simp))
 |otrees=>intro x vs ⟨v,B,e,h,hB⟩ hf;subst e;exact row rfl h (hf v (by simp))
 |_=>intro x vs h _;exact h.1
theorem rE{ti:TI}{t:DT}{k:TI->ST}(hT:gj P Γ.sj)(hr:(Fq Γ ti t k).run S H=some r):∃te,xB P ti.el te/\ti.ty=.sl/\t.isL=true/\te.ty.size=u5 t/\(k te).run S H=some r:=by
 unfold Fq at hr
 obtain⟨te,hte,hr⟩:=fB hT hr
 obtain⟨hb,hr⟩:=cE hr
 simp only[Bool.and_eq_true]at hb
 exact⟨te,hte,th hb.1,hb.2.1,Nat.eq_of_beq_eq_true hb.2.2,hr⟩
theorem vQ{t:DT}{x:t.den}{v:Value}{w':World}{ws0:List Wr}{m1:Mp}{G:List Nat}{B:Option Nat}(h:nU ρ N S H m a w)(hd:∀d,o.dst=some d->d<N)(hm:m.le m1)(hU:∀id,m1.has id->U id)(hf:∀j,fresh<=j->j<r.2->¬U j)
 (hx:(execOp a.eval o).run P w=.ok (.value v) w') (hh:a0d ρ (cw H ws0) m1 w') (hw:oa ws0) (ht:t.isL=true) (hv:kL m1.fz w' t x v B) (hG:mu ρ (cw H ws0) m1 B.toList)
 (hr:(M1 o t x ws0 fresh).run S H=some r):o.wp P a w (a0q ρ N U fresh S H m r) Q:=by
 unfold M1 at hr
 have hnx:=mC hr
 have hn:¬m1.has fresh:=fun e=>hf fresh (Nat.le_refl _) (by omega) (hU _ e)
 obtain⟨h1,h2,_⟩:=hh.own hn ht hv hG
 refine iN h hd hx (Mp.le_trans hm h1) (ws0:=ws0++[.ej fresh (some (.row t x))]) (by rw[a0o];exact h2) (a3f hw (fQ _ _)) ?_ (fun i hi=> ?_) hr
 ·simp only[den]
  rw[fP]
  rcases hv with⟨A,e,_⟩|⟨b,o',el,c,cz,vs,post,_,e,_⟩
  ·exact⟨A,0,0,by show gW m1.pl fresh (some v) fresh=_;rw[bQ,e],e⟩
  ·exact⟨_,_,c,by show gW m1.pl fresh (some v) fresh=_;rw[bQ,e],e⟩
 ·rcases a3O hi with q|q
  ·exact .inl (hU i q)
  ·exact .inr ⟨by omega,by omega⟩
theorem mu.new{b:Nat}{w':World}(hh:a0d ρ H m w)(hb:w.heap.size<=b)(hk:uH ρ w'):mu ρ H m [b]:=
 ⟨by simp,fun b' hb'=>by simp at hb';subst hb';exact .inl (Nat.le_trans hh.ff.size hb),fun b' hb'=>by
  simp at hb';subst hb'
  cases hq:m.fz b' with
  |none=>rfl
  |some arr=>have:=hh.zA hq;omega,fun b' hb' i o hi hm he=>by
  simp at hb';subst hb'
  have:=hh.lt hi hm he;omega⟩
theorem LX{e:DT}{sz:Nat}{cs:List HV}:∀{n o:Nat} {k:List Dt->List Wr->ST},(rdN (fun cs k=>rdD false e cs fun x ws=>k ⟨e,x⟩ ws) sz cs n o k).run S H=some r->e.calm=true->∃l ws,(k l ws).run S H=some r/\l.length=n/\
 ∀{ρ:En} {m m0:Mp} {w:World} {ws0:List Wr} {vs:List Value},RS ρ H m w ws0 m0->jD ws0 ws=true->denL m cs=some vs->∃m1 uss,RN ρ H m w ws0 m0 ws m1 []/\All2 (fun(d:Dt) us=>DR m1.fz d.1 d.2 us) l uss/\uss.flatten=(vs.drop o).take (n*sz)/\∀u∈uss,u.length=sz
 |0,o,k,hr,hc=>⟨[],[],hr,rfl,fun{ρ m m0 w ws0 vs} h hf hv=>⟨m0,[],.same h,trivial,by simp,fun u hu=>by simp at hu⟩⟩
 |n+1,o,k,hr,hc=>by
  unfold rdN at hr
  obtain⟨hb,hr⟩:=cE hr
  have eY:=oV hb
  obtain⟨x,ws,h1,h2⟩:=um hr
  obtain⟨l,ws',h3,hlen,h4⟩:=LX h1 hc
  obtain⟨hfit,h5⟩:=oW h3
  refine⟨⟨e,x⟩::l,ws++ws',h5,by simp[hlen],fun{ρ m m0 w ws0 vs} h hf hv=> ?_⟩
  rw[yx,Bool.and_eq_true]at hf
  have hcut:=sV o sz hv
  obtain⟨m1,G1,p1,p2⟩:=h2 h hf.1 hcut
  obtain⟨q1,q2⟩:=p2.calm hc
  subst q2
  obtain⟨m2,uss,p3,p4,p5,p6⟩:=h4 p1.rs (by rw[yl,hf.2,hfit];rfl) hv
  refine⟨m2,_::uss,by simpa using p1.trans p3,⟨q1.mono p3.fz,p4⟩,?_,fun u hu=> ?_⟩
  ·rw[List.flatten_cons,p5,Nat.add_mul,Nat.one_mul,Nat.add_comm (n*sz) sz,List.take_add,List.drop_drop]
  ·rcases List.mem_cons.1 hu with rfl|hu
   ·rw[List.length_take,List.length_drop]
    have:=cH hv
    omega
   ·exact p6 u hu
theorem AP(hT:gj P Γ.sj)(h:nU ρ N S H m a w)(hU:∀id,m.has id->U id)(hd:∀d,o.dst=some d->d<N)(hf:∀j,fresh<=j->j<r.2->¬U j){t:TypeId}{n:Nat}{ps:Array (Nat×Operand)}(ho:o.op=.buildSlice t n ps)
 (hr:(oR Γ t fun ti=>oR Γ ti.el fun te=>partsR ps.toList fun vs=>bif vV ti.ty&&Nat.ble (n*te.ty.size) 16777216 then er 5 (rG n te.ty.size vs (rep n te.ty.zero)) fun cs=>evBuildSlice Γ fresh o ti te n cs else .fail 248).run S H=some r):
 o.wp P a w (a0q ρ N U fresh S H m r) Q:=by
 replace hr:=fB hT hr
 obtain⟨ti,hti,hr⟩:=hr
 have hsh:=hti.shape
 replace hr:=fB hT hr
 obtain⟨te,hte,hr⟩:=hr
 replace hr:=a4k h hr
 obtain⟨vs,hall,hr⟩:=hr
 replace hr:=cE hr
 obtain⟨hb,hr⟩:=hr
 simp only[Bool.and_eq_true]at hb
 rw[th hb.1]at hsh
 simp only[xW]at hsh
 have h24:=Nat.le_of_ble_eq_true hb.2
 replace hr:=a07 hr
 obtain⟨cs,hcs,hr⟩:=hr
 obtain⟨ie,hi,hz,hs,_⟩:=hte.parts
 have hz0:denL m (rep n te.ty.zero)=some (List.replicate n (zc te.ty)).flatten:=zk (a2G te.ty) n
 obtain⟨xs',r1,r2,r3,r4⟩:=DM (m:=m) (a:=a) hte.pos hall hcs hz0 (mq (.arr n te.ty)) (gY (.arr n te.ty))
 have hps:(ps.map fun(i,x)=>(i,a.eval x)).toList=ps.toList.map fun p=>(p.1,a.eval p.2):=by rw[Array.toList_map]
 have hcells:(Array.range (n*ie.size)).map ((pk te.ty (zc te.ty)).cells[·% (pk te.ty (zc te.ty)).cells.size]!)=(List.replicate n (zc te.ty)).flatten.toArray:=by
  apply Array.toList_inj.1
  rw[hs,<-wc te.ty,zS,nk]
 have hxl:xs'.length=n*te.ty.size:=(cH r2).trans r4
 have hexec:(execOp a.eval o).run P w=.ok (.value (.slice (some ⟨w.heap.size,0,none⟩) n n)) (w.alloc (.cells xs'.toArray ti.el)):=by
  rcases Nat.eq_zero_or_pos n with h0|h0
  ·subst h0
   have hx0:xs'=[]:=List.eq_nil_of_length_eq_zero (by omega)
   subst hx0
   have r5:Instr.fill (fun i=>some (i*te.ty.size,te.ty.size)) #[] (ps.toList.map fun p=>(p.1,a.eval p.2))=some #[]:=r1
   have hpar:(ps.map fun(i,x)=>(i,a.eval x)).toList=ps.toList.map fun p=>(p.1,a.eval p.2):=hps
   simp only[execOp,ho,Instr.buildSlice,Sem.run_bind,run_underlying hsh,Result.andThen_ok,gH hte.Is,Nat.zero_mul,if_true,Sem.run_pure,hpar]
   simp[r5,newRow,show(Array.range 0:Array Nat)= #[]from rfl]
  ·have hsz:¬(n*ie.size>2^24):=by rw[hs];omega
   have hsz0:¬(n*ie.size=0):=by rw[hs];exact Nat.mul_ne_zero (by omega) (by have:=hte.pos;omega)
   have hrun:=run_buildSlice (P:=P) w t ti.el n (ps.map fun(i,x)=>(i,a.eval x)) xs'.toArray ie _ hsh hi hz hsz hsz0 (by rw[hcells,hps,hs];exact r1)
   simp only[execOp,ho,Sem.run_bind,hrun,Result.andThen_ok,Sem.run_pure]
 unfold evBuildSlice at hr
 split at hr
 ·rename_i t' ht'
  replace hr:=rE hT hr
  obtain⟨te',hte',_,hl,hesz,hr⟩:=hr
  split at hr
  ·rename_i e he
   cases hcalm:e.calm with
   |false=>rw[hcalm]at hr;exact aA hr
   |true=>
    rw[hcalm]at hr
    replace hr:=LX (show(rdN _ te.ty.size cs n 0 _).run S H=some r from hr) hcalm
    obtain⟨l,ws,hr,hlen,hrd⟩:=hr
    replace hr:=a07 hr
    obtain⟨x,hx,hr⟩:=hr
    replace hr:=gV hr
    obtain⟨hroom,hr⟩:=hr
    simp only[room,decide_eq_true_eq]at hroom
    obtain⟨m1,uss,p1,p2,p3,p4⟩:=hrd (.start h.heap) rfl r2
    have hrs:RS ρ H m w ws m1:=by simpa using p1.rs
    obtain⟨q1,q2,q3⟩:=LC.Ou hl hx p2
    rw[List.drop_zero,<-hxl,List.take_length]at p3
    rw[p3]at q1
    have hnb:∀k,k<w.heap.size->(w.alloc (.cells xs'.toArray ti.el)).heap[k]?=w.heap[k]?:=fun k hk=>Go.heap_alloc_old w _ k hk
    have hgrow:=hrs.rep.grow (w':=w.alloc (.cells xs'.toArray ti.el)) hnb ⟨rfl,rfl,rfl,by first|exact Nat.le_refl _|exact Nat.le_succ _⟩
    have hU':∀id,m1.has id->U id:=fun id hid=>hU id (by
     rcases hid with q|q|q
     ·exact .inl (by rwa[hrs.ad]at q)
     ·exact .inr (.inl (by rwa[hrs.pl]at q))
     ·exact .inr (.inr (by rwa[hrs.px]at q)))
    have hn63:n<=maxLen:=by
     have:=Nat.mul_le_mul_left n hte.pos
     unfold maxLen;omega
    refine vQ (G:=[]) (B:=some w.heap.size) h hd hrs.le hU' hf hexec hgrow hrs.FN.ej hl (.inr ⟨w.heap.size,0,ti.el,n,[],xs',[],rfl,by rw[q2,hlen],by rw[List.nil_append,List.append_nil];exact Go.heap_alloc_new w _,rfl,q1,by rw[q2,hlen];exact Nat.le_refl _,⟨hn63,by rw[q2,hlen];exact hroom⟩,?_⟩) (mu.new hrs.rep (Nat.le_refl _) hgrow.ff) hr
    have:=q1.len
    rw[q2,hlen]at this
    simp[this]
  ·exact aA hr
 ·have hnx:=mC hr
  have hn:=a2I hU (hf fresh (Nat.le_refl _) (by omega))
  have hrep:=h.heap.zX (el:=ti.el) hn r2 r3
  exact iN h hd hexec (Mp.rK (uR hn) (w7 hn)) (ws0:=[.ej fresh (some (.cells ti.el cs))]) hrep (fQ _ _) (by simp only[den,Mp.set,bQ]) (rD hU (Nat.le_refl _) (Nat.lt_succ_self _)) hr
theorem CB(hT:gj P Γ.sj)(h:nU ρ N S H m a w)(hU:∀id,m.has id->U id)(hd:∀d,o.dst=some d->d<N)(hf:∀j,fresh<=j->j<r.2->¬U j){t:TypeId}{x y:Operand}(ho:o.op=.makeSlice t x y)
 (hr:(oR Γ t fun ti=>oR Γ ti.el fun te=>dN x fun v=>dN y fun u=>a3X v fun n=>a3X u fun c=>sZ Γ fresh o ti te n c).run S H=some r):
 o.wp P a w (a0q ρ N U fresh S H m r) Q:=by
 replace hr:=fB hT hr
 obtain⟨ti,hti,hr⟩:=hr
 have hsh:=hti.shape
 replace hr:=fB hT hr
 obtain⟨te,hte,hr⟩:=hr
 replace hr:=cU h hr
 obtain⟨v,h1,hr⟩:=hr
 replace hr:=cU h hr
 obtain⟨u,h2,hr⟩:=hr
 replace hr:=lZ hr
 obtain⟨k1,n,e,hn0,hr⟩:=hr
 subst e
 replace hr:=lZ hr
 obtain⟨k2,c,e,hc0,hr⟩:=hr
 subst e
 obtain⟨e1,_⟩:=eB h1
 obtain⟨e2,_⟩:=eB h2
 unfold sZ at hr
 replace hr:=a07 hr
 obtain⟨t',ht',hr⟩:=hr
 replace hr:=rE hT hr
 obtain⟨te',hte',hsl,hl,hesz,hr⟩:=hr
 replace hr:=gV hr
 obtain⟨hb,hr⟩:=hr
 simp only[Bool.and_eq_true,room,decide_eq_true_eq]at hb
 obtain⟨⟨b2,b3⟩,b4⟩:=hb
 have b2:=Nat.le_of_ble_eq_true b2
 have b4:=Nat.le_of_ble_eq_true b4
 replace hr:=yH hr
 obtain⟨z,hr,hrd⟩:=hr
 rw[hsl]at hsh
 simp only[xW]at hsh
 obtain⟨i,hi,hz,hs,hby⟩:=hte.parts
 have hc48:(i.bytes:Int)*c<=281474976710656:=by
  have:((c.toNat*te.bytes:Nat):Int)<=140737488355328:=by have b3:=Int.ofNat_le.2 (Cq b3).1;omega
  rw[Int.natCast_mul,Int.toNat_of_nonneg hc0]at this
  rw[hby,Int.mul_comm];omega
 have hmk:=run_make (P:=P) w t ti.el i _ hsh hi hz k1 k2 n c (by omega) (by omega) hc48 (by omega)
 have hcells:(madeCells (pk te.ty (zc te.ty)).cells (c.toNat*i.size)).toList=(List.replicate c.toNat (zc te.ty)).flatten:=by
  unfold madeCells;rw[hs,<-wc te.ty,zS,nk]
 have hexec:(execOp a.eval o).run P w=.ok (.value (.slice (some ⟨w.heap.size,0,none⟩) n.toNat c.toNat)) (w.alloc (.cells (madeCells (pk te.ty (zc te.ty)).cells (c.toNat*i.size)) ti.el)):=by
  simp only[execOp,ho,Sem.run_bind,e1,e2,hmk,Result.andThen_ok,Sem.run_pure]
 have hgrow:=h.heap.grow (w':=w.alloc (.cells (madeCells (pk te.ty (zc te.ty)).cells (c.toNat*i.size)) ti.el)) (fun k hk=>Go.heap_alloc_old w _ k hk) ⟨rfl,rfl,rfl,by first|exact Nat.le_refl _|exact Nat.le_succ _⟩
 have hzd:DR m.fz (xK (cT t')) z (zc te.ty):=by
  have hd:=hrd h.heap (a2G (m:=m) te.ty)
  exact I1 hd (wH te.ty)
 have hLC:=LC.fill hl hzd c.toNat
 have hLCn:=LC.fill hl hzd n.toNat
 have hnl:=a4j hl z n.toNat
 refine vQ (G:=[]) (B:=some w.heap.size) (ws0:=[]) h hd (Mp.le_refl m) hU hf hexec (show a0d ρ (cw H []) m _ from hgrow) jz hl (.inr ⟨w.heap.size,0,ti.el,c.toNat,[],(List.replicate n.toNat (zc te.ty)).flatten,(List.replicate (c.toNat-n.toNat) (zc te.ty)).flatten,rfl,by rw[hnl],?_,rfl,hLCn,by rw[hnl];exact b2,⟨by unfold maxLen;exact b4,by rw[hnl];exact Nat.le_trans (Nat.mul_le_mul_right _ b2) (Cq b3).2⟩,?_⟩) (mu.new h.heap (Nat.le_refl _) hgrow.ff) hr
 ·have e:(madeCells (pk te.ty (zc te.ty)).cells (c.toNat*i.size))=([]++(List.replicate n.toNat (zc te.ty)).flatten++(List.replicate (c.toNat-n.toNat) (zc te.ty)).flatten).toArray:=by
   apply Array.toList_inj.1
   rw[hcells,List.nil_append,<-List.flatten_append,List.replicate_append_replicate]
   congr 2;omega
  rw[<-e]
  exact Go.heap_alloc_new w _
 ·have l1:=hLCn.len
  rw[hnl]at l1
  have l2:=(LC.fill hl hzd (c.toNat-n.toNat)).len
  rw[a4j hl z]at l2
  rw[l1,l2,<-Nat.add_mul]
  congr 1;omega
end
end Go.Proofs.YtehbbcdhahnkgaaGreat.Vm
