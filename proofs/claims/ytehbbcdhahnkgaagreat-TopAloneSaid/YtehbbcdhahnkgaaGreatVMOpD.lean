/- The value machine and the machine: places of elements, lengths, parts of lists. -/
import Derived.Test.YtehbbcdhahnkgaaGreatVMOpB
import Derived.Deep.AppendSrc
import Derived.MapKept
import Derived.Tactics
set_option linter.all false
set_option maxRecDepth 100000
set_option maxHeartbeats 0
namespace Go.Proofs.YtehbbcdhahnkgaaGreat.Vm
open Go
section
variable {P:Program}{Γ:Ctx}{ρ:En}{N:Nat}{S:Sl}{H:Hp}{m:Mp}{a:Act}{w:World}{o:Oper}{U:Nat->Prop}{fresh:Nat}{r:Ws}{Q:Exit->Act->World->Prop}
theorem pJ{t e:TypeId}{u:Ty}{b off n c:Nat}{kd:IntKind}{i:Nat}(hu:P.underlying t=some (.slice e))(he:I5 P e u)(hi:i<n):
 (Instr.indexAt t (.slice (some ⟨b,off,none⟩) n c) (.int kd (i:Int))).run P w=.ok (.pointer (some ⟨b,off+i*u.size,none⟩)) w:=by
 have c1:(0:Int)<=(i:Int)/\(i:Int)<(n:Int):=⟨by omega,by omega⟩
 simp only[Instr.indexAt,asIntOf,Sem.run_bind,Sem.run_pure,Result.andThen_ok,run_underlying hu,if_pos c1,gH he,Int.toNat_natCast,Addr.add_mid]
theorem sC{t e:TypeId}{u:Ty}{b off n:Nat}{kd:IntKind}{i:Nat}(hu:P.underlying t=some (.array n e))(he:I5 P e u)(hi:i<n):
 (Instr.indexAt t (.pointer (some ⟨b,off,none⟩)) (.int kd (i:Int))).run P w=.ok (.pointer (some ⟨b,off+i*u.size,none⟩)) w:=by
 have c1:(0:Int)<=(i:Int)/\(i:Int)<(n:Int):=⟨by omega,by omega⟩
 simp only[Instr.indexAt,asIntOf,Instr.sureAddr,Sem.run_bind,Sem.run_pure,Result.andThen_ok,run_underlying hu,if_pos c1,gH he,Int.toNat_natCast,Addr.add_mid]
theorem a4J{id off n c:Nat}{x:Value}(h:den m (.sl id off n c)=some x):∃b,m.ad id=some b/\x=.slice (some ⟨b,off,none⟩) n c:=by
 simp only[den]at h
 split at h
 ·rename_i q hq;cases h;exact⟨q,hq,rfl⟩
 ·cases h
def Mp.ptr(m:Mp)(n id i sz:Nat):Mp:={m with px:=gW m.px n (some (id,i,sz))}
theorem a0d.ptr(h:a0d ρ H m w){n:Nat}(hn:¬m.has n)(id i sz:Nat):m.le (m.ptr n id i sz)/\a0d ρ H (m.ptr n id i sz) w:=by
 have eY:m.le (m.ptr n id i sz):=⟨fun _ _ h=>h,fun _ _ h=>h,xu (Pe hn),Fz.le_refl _⟩
 exact⟨eY,h.Sy eY (fun _=>rfl) rfl⟩
theorem HG{n id i sz k:Nat}(h:(m.ptr n id i sz).has k):m.has k∨k=n:=by
 by_cases e:k=n
 ·exact .inr e
 ·left
  rcases h with h|h|h
  ·exact .inl h
  ·exact .inr (.inl h)
  ·exact .inr (.inr (by simpa [Mp.ptr,gW,e]using h))
theorem a0d.Ub(h:a0d ρ H m w){n:Nat}{t:DT}{x:t.den}(ho:OR m w n (.fr t x)):a0d ρ (gW H n (some (.fr t x))) m w:=by
 have sub:∀i o',gW H n (some (.fr t x)) i=some o'->o'.eJ=true->H i=some o':=by
  intro i o' hi hm
  by_cases e:i=n
  ·subst e;rw[bQ]at hi;cases hi;cases hm
  ·rwa[a0h _ _ e]at hi
 refine⟨fun i o' hi=> ?_,fun i j o1 o2 b1 b2 hne hi hj h1 h2=>h.inj i j o1 o2 b1 b2 hne (sub i o1 hi h1) (sub j o2 hj h2) h1 h2,h.ff,fun i o' b hi hm=>h.off i o' b (sub i o' hi hm) hm,h.fz,fun i o' b hi hm=>h.vy i o' b (sub i o' hi hm) hm,h.P0⟩
 by_cases e:i=n
 ·subst e;rw[bQ]at hi;cases hi;exact ho
 ·rw[a0h _ _ e]at hi;exact h.fe i o' hi
theorem kL.shape{F:Fz}{t:DT}{x:t.den}{v:Value}{B:Option Nat}(h:kL F w t x v B):∃A c,v=.slice A (lenL t x) c/\lenL t x<=c/\c<=maxLen/\(A=none->c=0)/\(0<lenL t x->∃b o,A=some ⟨b,o,none⟩)/\∀p,A=some p->p.spot=none:=by
 rcases h with⟨A,h1,h2,h3,h4,h5⟩|⟨b,o',el,c,cz,vs,post,h1,h2,h3,h4,h5,h6,h7,h8⟩
 ·exact⟨A,0,by rw[h4];exact h1,by omega,by omega,fun _=>rfl,fun hp=>by omega,h2⟩
 ·exact⟨_,c,h2,h6,h7.1,(fun e=>by cases e),fun _=>⟨b,o',rfl⟩,fun p e=>by cases e;rfl⟩
theorem vD{F:Fz}{t:DT}{x:t.den}{v:Value}(ht:t.isL=true)(h:DR F t x [v]):∃A c,v=.slice A (lenL t x) c/\lenL t x<=c/\c<=maxLen/\(A=none->c=0)/\(0<lenL t x->∃b o,A=some ⟨b,o,none⟩)/\∀p,A=some p->p.spot=none:=by
 obtain⟨v',e,A,c,h1,h2,h3,h4,h5,us,h6,h7⟩:=(Av ht).1 h
 cases e
 exact⟨A,c,h1,h2,h3.1,h4,(fun hp=>by obtain⟨b,o',arr,e1,_⟩:=h7 hp;exact⟨b,o',e1⟩),h5⟩
theorem CA(hT:gj P Γ.sj)(h:nU ρ N S H m a w)(hU:∀id,m.has id->U id)(hd:∀d,o.dst=some d->d<N)(hf:∀j,fresh<=j->j<r.2->¬U j){t:TypeId}{x i:Operand}(ho:o.op=.indexAddr t x i)
 (hr:(oR Γ t fun ti=>dN x fun v=>dN i fun u=>evIndexAddr Γ fresh o ti u v).run S H=some r):o.wp P a w (a0q ρ N U fresh S H m r) Q:=by
 replace hr:=fB hT hr
 obtain⟨ti,hti,hr⟩:=hr
 have hsh:=hti.shape
 replace hr:=cU h hr
 obtain⟨v,h1,hr⟩:=hr
 replace hr:=cU h hr
 obtain⟨u,h2,hr⟩:=hr
 have exec:∀{xv iv pv:Value},a.eval x=xv->a.eval i=iv->(Instr.indexAt t xv iv).run P w=.ok pv w->(execOp a.eval o).run P w=.ok (.value pv) w:=by
  intro xv iv pv e1 e2 e3
  simp only[execOp,ho]
  rw[e1,e2,Sem.run_bind,e3]
  rfl
 have a01:∀{id j n c sz:Nat} {A:Option Addr} {A':Option Addr} {n' c' off:Nat} {te:TI} {kd:IntKind} {xi:Int},xB P ti.el te->ti.ty=.sl->m.pl id=some (.slice A n c)->a.eval x=.slice A' n' c'->u=.i kd xi->0<=xi->xi.toNat<n'->te.ty.size=sz->
  (0<n'->∃b o',A=some ⟨b,o',none⟩/\A'=some ⟨b,o'+off*sz,none⟩)->j=off+xi.toNat->j<n->
  (eu o (.ep id j fresh sz 0) [] (fresh+1)).run S H=some r->o.wp P a w (a0q ρ N U fresh S H m r) Q:=by
  intro id j n c sz A A' n' c' off te kd xi hte hsl hpl hx hu h0 hlt hsz hA hj hjn hr
  rw[hu]at h2
  obtain⟨b,o',e1,e2⟩:=hA (by omega)
  rw[e1]at hpl
  rw[e2]at hx
  obtain⟨hi,_⟩:=eB h2
  rw[hsl]at hsh
  simp only[xW]at hsh
  have hnx:=mC hr
  have hn:=a2I hU (hf fresh (Nat.le_refl _) (by omega))
  obtain⟨g1,g2⟩:=h.heap.ptr hn id j sz
  have hrun:=pJ (P:=P) (w:=w) (b:=b) (off:=o'+off*sz) (n:=n') (c:=c') (kd:=kd) (i:=xi.toNat) hsh hte.Is hlt
  rw[Int.toNat_of_nonneg h0]at hrun
  refine iN h hd (exec hx hi hrun) g1 (ws0:=[]) g2 jz ?_ (fun k hk=> ?_) hr
  ·simp only[den]
   rw[jv]
   refine⟨by show gW m.px fresh _ fresh=_;exact bQ _ _ _,b,o',n,c,hpl,hjn,?_⟩
   rw[hj,hsz,Nat.add_mul,Nat.add_zero,Nat.add_assoc]
  ·rcases HG hk with q|q
   ·exact .inl (hU k q)
   ·exact .inr ⟨by omega,by omega⟩
 unfold evIndexAddr at hr
 split at hr
 ·rename_i id off n c
  replace hr:=cE hr
  obtain⟨hsl,hr⟩:=hr
  replace hr:=fB hT hr
  obtain⟨te,hte,hr⟩:=hr
  replace hr:=vU hr
  obtain⟨kd,xi,e,hr⟩:=hr
  subst e
  replace hr:=qT hr
  obtain⟨j,_,hj,e,hr⟩:=hr
  subst e
  rw[th hsl]at hsh
  simp only[xW]at hsh
  obtain⟨b,e1,e2⟩:=a4J h1
  obtain⟨hi,_⟩:=eB h2
  exact cV h hU hd (exec e2 hi (pJ hsh hte.Is (by omega))) (by simp only[den,e1]) hr
 ·rename_i id off
  split at hr
  ·rename_i n u' hty
   replace hr:=vU hr
   obtain⟨kd,xi,e,hr⟩:=hr
   subst e
   replace hr:=qT hr
   obtain⟨j,_,hj,e,hr⟩:=hr
   subst e
   rw[hty]at hsh
   obtain⟨hu,he⟩:=hsh
   obtain⟨b,e1,e2⟩:=B7 h1
   obtain⟨hi,_⟩:=eB h2
   exact cV h hU hd (exec e2 hi (sC hu he (by omega))) (by simp only[den,e1]) hr
  ·exact aA hr
 ·rename_i id j k sz off
  split at hr
  ·rename_i n u' hty
   replace hr:=vU hr
   obtain⟨kd,xi,e,hr⟩:=hr
   subst e
   replace hr:=qT hr
   obtain⟨i',_,hj,e,hr⟩:=hr
   subst e
   rw[hty]at hsh
   obtain⟨hu,he⟩:=hsh
   simp only[den]at h1
   rw[jv]at h1
   obtain⟨hpx,b,o',n',c,hpl,hin,hval⟩:=h1
   obtain⟨hi,_⟩:=eB h2
   refine cV h hU hd (exec hval hi (sC hu he (by omega))) ?_ hr
   simp only[den]
   rw[jv]
   exact⟨hpx,b,o',n',c,hpl,hin,by rw[Nat.add_assoc (o'+j*sz)]⟩
  ·exact aA hr
 ·rename_i id
  replace hr:=dR hr
  obtain⟨ob,hob,hr⟩:=hr
  simp only[den]at h1
  obtain⟨A,n,c,hp,e⟩:=fP.1 h1
  have dH:∀{t':DT} {l:t'.den},(∃c',(Value.slice A n c)=.slice A (lenL t' l) c')->(0<lenL t' l->∃b o,A=some ⟨b,o,none⟩)->((Fq Γ ti t' fun _=>a3X u fun i=>yn (Nat.blt i (lenL t' l)) 41 (eu o (.ep id i fresh (u5 t') 0) [] (fresh+1))).run S H=some r)->o.wp P a w (a0q ρ N U fresh S H m r) Q:=by
   intro t' l hc hA hr
   obtain⟨c',hc⟩:=hc
   simp only[Value.slice.injEq]at hc
   obtain⟨_,hn',_⟩:=hc
   replace hr:=rE hT hr
   obtain⟨te,hte,hsl,hl,hsz,hr⟩:=hr
   replace hr:=lZ hr
   obtain⟨kd,xi,e',h0,hr⟩:=hr
   replace hr:=gV hr
   obtain⟨hb,hr⟩:=hr
   have hlt:xi.toNat<lenL t' l:=Nat.le_of_ble_eq_true hb
   refine a01 (off:=0) hte hsl hp e e' h0 (by omega) hsz (fun _=> ?_) (by omega) (by omega) hr
   obtain⟨b,o',q⟩:=hA (by omega)
   exact⟨b,o',q,by rw[q,Nat.zero_mul,Nat.add_zero]⟩
  split at hr
  ·rename_i t' l
   obtain⟨ht',v',q1,q2⟩:=h.heap.fe id _ hob
   rw[hp]at q1;cases q1
   obtain⟨A2,c2,g1,g2,g3,g4,g5,g6⟩:=vD ht' q2
   simp only[Value.slice.injEq]at g1
   obtain⟨f1,f2,f3⟩:=g1
   subst f1 f2 f3
   exact dH ⟨_,rfl⟩ g5 hr
  ·replace hr:=a07 hr
   obtain⟨d,hd',hr⟩:=hr
   obtain⟨⟨ht',v',q1,q2⟩,_⟩:=jO h.heap hob hd'
   rw[hp]at q1;cases q1
   obtain⟨A2,c2,g1,g2,g3,g4,g5,g6⟩:=q2.shape
   simp only[Value.slice.injEq]at g1
   obtain⟨f1,f2,f3⟩:=g1
   subst f1 f2 f3
   exact dH ⟨_,rfl⟩ g5 hr
 ·rename_i id lo hi sz j
  replace hr:=fB hT hr
  obtain⟨te,hte,hr⟩:=hr
  replace hr:=cE hr
  obtain⟨hb,hr⟩:=hr
  simp only[Bool.and_eq_true]at hb
  replace hr:=lZ hr
  obtain⟨kd,xi,e',h0,hr⟩:=hr
  replace hr:=gV hr
  obtain⟨hb',hr⟩:=hr
  have hlt:xi.toNat<hi-lo:=Nat.le_of_ble_eq_true hb'
  simp only[den]at h1
  obtain⟨A,n,c,A',n',c',hp,_,hok,e⟩:=fR.1 h1
  have hn':=hok.len
  have hc':=hok.cap
  have:=hok.hn
  have:=hok.nc
  refine a01 (off:=lo) hte (th hb.1) hp e e' h0 (by omega) (Nat.eq_of_beq_eq_true hb.2) (fun _=>hok.at_ (by omega)) rfl (by omega) hr
 ·rename_i t' l j
  replace hr:=rE hT hr
  obtain⟨te,hte,hsl,hl,hsz,hr⟩:=hr
  replace hr:=lZ hr
  obtain⟨kd,xi,e',h0,hr⟩:=hr
  subst e'
  replace hr:=gV hr
  obtain⟨hb,hr⟩:=hr
  have hlt:xi.toNat<lenL t' l:=Nat.le_of_ble_eq_true hb
  simp only[den]at h1
  rw[iY]at h1
  obtain⟨hpl,_,hdr⟩:=h1
  obtain⟨A,c,g1,g2,g3,g4,g5,g6⟩:=vD hl hdr
  obtain⟨b,o',rfl⟩:=g5 (by omega)
  obtain⟨hi,_⟩:=eB h2
  rw[hsl]at hsh
  simp only[xW]at hsh
  have hnx:=mC hr
  have hn:=a2I hU (hf fresh (Nat.le_refl _) (by omega))
  obtain⟨n1,n2⟩:=h.heap.name hn (a.eval x)
  have hpx:(m.set fresh none (some (a.eval x))).px fresh=none:=show m.px fresh=none from Pe hn
  have eY:(m.set fresh none (some (a.eval x))).le ((m.set fresh none (some (a.eval x))).ptr fresh fresh xi.toNat (u5 t')):=⟨fun _ _ h=>h,fun _ _ h=>h,xu hpx,Fz.le_refl _⟩
  have n3:=n2.Sy eY (fun _=>rfl) rfl
  have hpl':((m.set fresh none (some (a.eval x))).ptr fresh fresh xi.toNat (u5 t')).pl fresh=some (a.eval x):=bQ _ _ _
  have n4:=n3.Ub (n:=fresh) (t:=t') (x:=l) ⟨hl,a.eval x,hpl',hdr⟩
  have hrun:=pJ (P:=P) (w:=w) (b:=b) (off:=o') (n:=lenL t' l) (c:=c) (kd:=kd) (i:=xi.toNat) hsh hte.Is hlt
  rw[Int.toNat_of_nonneg h0]at hrun
  refine iN h hd (exec g1 hi hrun) (Mp.le_trans n1 eY) (ws0:=[.ej fresh (some (.fr t' l))]) n4 (fQ _ _) ?_ (fun k hk=> ?_) hr
  ·simp only[den]
   rw[jv]
   refine⟨bQ _ _ _,b,o',lenL t' l,c,by rw[hpl',g1],hlt,?_⟩
   rw[hsz,Nat.add_zero]
  ·rcases HG hk with q|q
   ·rcases a3O q with q|q
    ·exact .inl (hU k q)
    ·exact .inr ⟨by omega,by omega⟩
   ·exact .inr ⟨by omega,by omega⟩
 ·exact aA hr
theorem Cv{n:Nat}(h:n<=9223372036854775807):a0p .i64 (n:Int)=true:=by
 unfold a0p
 rw[show IntKind.i64.min= -9223372036854775808 from rfl,show IntKind.i64.max=9223372036854775807 from rfl]
 simp only[Bool.and_eq_true,decide_eq_true_eq]
 omega
theorem a4H{t:DT}{v:HV}{k:t.den->ST}(ht:t.isL=true)(hr:(listR t v k).run S H=some r):∃x,(k x).run S H=some r/\
 ∀{ρ:En} {m:Mp} {w:World} {val:Value},a0d ρ H m w->den m v=some val->DR (fullF w) t x [val]:=by
 unfold listR at hr
 split at hr
 ·obtain⟨x,h1,h2⟩:=a07 hr
  exact⟨x,h2,fun{ρ m w val} h hv=>by simp only[den,Option.some.injEq]at hv;subst hv;exact F3 ht h1⟩
 ·obtain⟨x,h1,h2⟩:=a07 hr
  obtain⟨hs,hx⟩:=dG h1
  refine⟨x,h2,fun{ρ m w val} h hv=> ?_⟩
  simp only[den]at hv
  rw[iY]at hv
  exact a2O hs hx (hv.2.2.mono h.a4h)
 ·rename_i id
  obtain⟨o,ho,hr⟩:=dR hr
  split at hr
  ·rename_i u y
   obtain⟨x,h1,h2⟩:=a07 hr
   obtain⟨hs,hx⟩:=dG h1
   refine⟨x,h2,fun{ρ m w val} h hv=> ?_⟩
   simp only[den]at hv
   obtain⟨A,n,c,hp,e⟩:=fP.1 hv
   obtain⟨ht',v',q1,q2⟩:=h.fe id _ ho
   rw[hp]at q1;cases q1;subst e
   exact a2O hs hx (q2.mono h.a4h)
  ·obtain⟨d,hd,hr⟩:=a07 hr
   obtain⟨x,h1,h2⟩:=a07 hr
   obtain⟨hs,hx⟩:=dG h1
   refine⟨x,h2,fun{ρ m w val} h hv=> ?_⟩
   simp only[den]at hv
   obtain⟨A,n,c,hp,e⟩:=fP.1 hv
   obtain⟨⟨ht',v',q1,q2⟩,_⟩:=jO h ho hd
   rw[hp]at q1;cases q1;subst e
   exact a2O hs hx (q2.dr ht' h.a4h fun b arr el fr _ hb=>a3D hb)
 ·rename_i id lo hi sz j
  cases hsz:Nat.beq sz (u5 t)with
  |false=>rw[hsz]at hr;exact aA hr
  |true=>
   rw[hsz]at hr
   have hsz:=Nat.eq_of_beq_eq_true hsz
   subst hsz
   obtain⟨o,ho,hr⟩:=dR (show(RT.ej id _).run S H=some r from hr)
   split at hr
   ·rename_i u y
    obtain⟨x,h1,h2⟩:=a07 hr
    obtain⟨hs,hx⟩:=dG h1
    refine⟨_,h2,fun{ρ m w val} h hv=> ?_⟩
    simp only[den]at hv
    obtain⟨A,n,c,A',n',c',hp,_,hok,e⟩:=fR.1 hv
    obtain⟨ht',v',q1,q2⟩:=h.fe id _ ho
    rw[hp]at q1;cases q1;subst e
    exact uV ht (a2O hs hx (q2.mono h.a4h)) hok
   ·obtain⟨d,hd,hr⟩:=a07 hr
    obtain⟨x,h1,h2⟩:=a07 hr
    obtain⟨hs,hx⟩:=dG h1
    refine⟨_,h2,fun{ρ m w val} h hv=> ?_⟩
    simp only[den]at hv
    obtain⟨A,n,c,A',n',c',hp,_,hok,e⟩:=fR.1 hv
    obtain⟨⟨ht',v',q1,q2⟩,_⟩:=jO h ho hd
    rw[hp]at q1;cases q1;subst e
    exact uV ht (a2O hs hx (q2.dr ht' h.a4h fun b arr el fr _ hb=>a3D hb)) hok
 ·exact aA hr
end
section
variable {P:Program}{Γ:Ctx}{ρ:En}{N:Nat}{S:Sl}{H:Hp}{m:Mp}{a:Act}{w:World}{o:Oper}{U:Nat->Prop}{fresh:Nat}{r:Ws}{Q:Exit->Act->World->Prop}
theorem T4(hT:gj P Γ.sj)(h:nU ρ N S H m a w)(hU:∀id,m.has id->U id)(hd:∀d,o.dst=some d->d<N){c:Call}{x:Operand}(ho:o.op=.call c)(hc:c.callee=.builtin .len)(ha:c.args= #[x]){t:TypeId}(hty:c.argTypes.toList=[t])
 (hr:(oR Γ t fun ti=>dN x (evLen fresh o ti)).run S H=some r):o.wp P a w (a0q ρ N U fresh S H m r) Q:=by
 replace hr:=fB hT hr
 obtain⟨ti,hti,hr⟩:=hr
 have hsh:=hti.shape
 replace hr:=cU h hr
 obtain⟨v,h1,hr⟩:=hr
 have hat:c.argTypes= #[t]:=by apply Array.toList_inj.1;rw[hty]
 have key:∀n:Nat,(Builtin.len_ #[t] o.type #[a.eval x]).run P w=.ok (goInt n) w->(execOp a.eval o).run P w=.ok (.value (goInt n)) w:=by
  intro n hn
  simp only[execOp,ho,resolve,hc,ha,hat,Sem.run_bind,Sem.run_pure,Result.andThen_ok,invoke,builtin,List.map_toArray,List.map_cons,List.map_nil,hn]
 have slice:∀{A:Option Addr} {n c2:Nat},ti.ty=.sl->a.eval x=.slice A n c2->n<=9223372036854775807->(eu o (.i .i64 (n:Int)) [] fresh).run S H=some r->o.wp P a w (a0q ρ N U fresh S H m r) Q:=by
  intro A n c2 hsl e hn hr
  rw[hsl]at hsh
  simp only[xW]at hsh
  exact cV h hU hd (key n (by rw[e];cases A<;>simp[Builtin.len_,run_underlying hsh])) (dM (Cv hn)) hr
 have a01:∀{v:HV},den m v=some (a.eval x)->(bif vV ti.ty then er 217 ti.dt fun t=>bif t.isL then(listR t v fun x=>eu o (.i .i64 (lenL t x:Int)) [] fresh)else .fail 217 else .fail 216).run S H=some r->o.wp P a w (a0q ρ N U fresh S H m r) Q:=by
  intro v h1 hr
  replace hr:=cE hr
  obtain⟨hb,hr⟩:=hr
  replace hr:=a07 hr
  obtain⟨t',ht',hr⟩:=hr
  replace hr:=cE hr
  obtain⟨hl,hr⟩:=hr
  replace hr:=a4H hl hr
  obtain⟨x',hr,hdr⟩:=hr
  obtain⟨A,c2,g1,g2,g3,_⟩:=vD hl (hdr h.heap h1)
  exact slice (th hb) g1 (by unfold maxLen at g3;omega) hr
 unfold evLen at hr
 split at hr
 ·replace hr:=cE hr
  obtain⟨hb,hr⟩:=hr
  simp only[den,Option.some.injEq]at h1
  exact slice (n:=0) (th hb) h1.symm (by omega) hr
 ·rename_i id off n c2
  replace hr:=cE hr
  obtain⟨hb,hr⟩:=hr
  simp only[Bool.and_eq_true]at hb
  obtain⟨b,e1,e2⟩:=a4J h1
  exact slice (th hb.1) e2 (Nat.le_of_ble_eq_true hb.2) hr
 ·rename_i id lo hi sz j
  replace hr:=cE hr
  obtain⟨hb,hr⟩:=hr
  simp only[den]at h1
  obtain⟨A,n,c2,A',n',c',hp,_,hok,e⟩:=fR.1 h1
  have q1:=hok.len
  have q2:=hok.hn
  have q3:=hok.nc
  have q4:=hok.cm
  unfold maxLen at q4
  exact slice (th hb) (by rw[e,q1]) (by omega) hr
 ·exact a01 h1 hr
 ·exact a01 h1 hr
 ·rename_i bs
  replace hr:=cE hr
  obtain⟨hb,hr⟩:=hr
  rw[FO hb]at hsh
  simp only[xW]at hsh
  obtain⟨e,eY⟩:=qd h1
  have hsz:(⟨bs.toArray⟩:ByteArray).size=List.length bs:=by show bs.toArray.size=_;simp
  exact cV h hU hd (key bs.length (by rw[e];simp[Builtin.len_,run_underlying hsh,hsz])) (dM (Cv eY)) hr
 ·split at hr
  ·rename_i n u hty
   replace hr:=cE hr
   obtain⟨hb,hr⟩:=hr
   rw[hty]at hsh
   simp only[xW]at hsh
   exact cV h hU hd (key n (by simp[Builtin.len_,run_underlying hsh.1])) (dM (Cv (Nat.le_of_ble_eq_true hb))) hr
  ·exact aA hr
 ·exact aA hr
theorem UQ{f:Int->Int->Int}{v u:HV}(hr:(evMinMax fresh o f v u).run S H=some r):∃k p q,v=.i k p/\u=.i k q/\(eu o (.i k (f p q)) [] fresh).run S H=some r:=by
 unfold evMinMax at hr
 split at hr
 ·rename_i k p k' q
  replace hr:=cE hr
  obtain⟨hb,hr⟩:=hr
  have:=iX hb
  subst this
  exact⟨k,p,q,rfl,rfl,hr⟩
 ·exact aA hr
theorem T6(h:nU ρ N S H m a w)(hU:∀id,m.has id->U id)(hd:∀d,o.dst=some d->d<N){c:Call}{x y:Operand}(ho:o.op=.call c)(hc:c.callee=.builtin .min)(ha:c.args= #[x,y])
 (hr:(dN x fun v=>dN y (evMinMax fresh o Eg v)).run S H=some r):o.wp P a w (a0q ρ N U fresh S H m r) Q:=by
 replace hr:=cU h hr
 obtain⟨v,h1,hr⟩:=hr
 replace hr:=cU h hr
 obtain⟨u,h2,hr⟩:=hr
 replace hr:=UQ hr
 obtain⟨k,p,q,rfl,rfl,hr⟩:=hr
 obtain⟨e1,b1⟩:=eB h1
 obtain⟨e2,b2⟩:=eB h2
 refine cV h hU hd (v:=.int k (if q<p then q else p)) ?_ ?_ hr
 ·simp[execOp,ho,resolve,hc,ha,invoke,builtin,Builtin.min_,e1,e2,Builtin.min2]
 ·unfold Eg aF
  by_cases hq:q<p
  ·simp only[hq,decide_true,cond_true,if_true];exact dM b2
  ·simp only[hq,decide_false,cond_false,if_false];exact dM b1
theorem a56(h:nU ρ N S H m a w)(hU:∀id,m.has id->U id)(hd:∀d,o.dst=some d->d<N){c:Call}{x y:Operand}(ho:o.op=.call c)(hc:c.callee=.builtin .max)(ha:c.args= #[x,y])
 (hr:(dN x fun v=>dN y (evMinMax fresh o eN v)).run S H=some r):o.wp P a w (a0q ρ N U fresh S H m r) Q:=by
 replace hr:=cU h hr
 obtain⟨v,h1,hr⟩:=hr
 replace hr:=cU h hr
 obtain⟨u,h2,hr⟩:=hr
 replace hr:=UQ hr
 obtain⟨k,p,q,rfl,rfl,hr⟩:=hr
 obtain⟨e1,b1⟩:=eB h1
 obtain⟨e2,b2⟩:=eB h2
 refine cV h hU hd (v:=.int k (if p<q then q else p)) ?_ ?_ hr
 ·simp[execOp,ho,resolve,hc,ha,invoke,builtin,Builtin.max_,e1,e2,Builtin.max2]
 ·unfold eN aF
  by_cases hq:p<q
  ·simp only[hq,decide_true,cond_true,if_true];exact dM b2
  ·simp only[hq,decide_false,cond_false,if_false];exact dM b1
def U9(m:Mp)(a:Act):Option Operand->Option HV->Prop
 |none,none=>True
 |some x,some v=>den m v=some (a.eval x)
 |_,_=>False
theorem xk(h:nU ρ N S H m a w){x:Option Operand}{k:Option HV->ST}(hr:(tI x k).run S H=some r):∃v:Option HV,U9 m a x v/\(k v).run S H=some r:=by
 cases x with
 |none=>exact⟨none,trivial,hr⟩
 |some x=>
  simp only[tI]at hr
  replace hr:=cU h hr
  obtain⟨v,h1,hr⟩:=hr
  exact⟨some v,h1,hr⟩
theorem ni{d:Nat}{x:Option Operand}{v:Option HV}{k:Nat->ST}(hv:U9 m a x v)(hr:(uI d v k).run S H=some r):∃(q:Option Nat) (κ:IntKind),x.map a.eval=q.map (fun i:Nat=>Value.int κ (i:Int))/\(k (q.getD d)).run S H=some r:=by
 cases x with
 |none=>
  cases v with
  |none=>exact⟨none,.i64,rfl,hr⟩
  |some v=>exact hv.elim
 |some x=>
  cases v with
  |none=>exact hv.elim
  |some v=>
   simp only[uI]at hr
   replace hr:=lZ hr
   obtain⟨κ,y,e,h0,hr⟩:=hr
   subst e
   obtain⟨e,_⟩:=eB hv
   exact⟨some y.toNat,κ,by simp only[Option.map_some,e,Int.toNat_of_nonneg h0],hr⟩
theorem AZ{b:Bool}{n c:Nat}{lo hi:Option Nat}{κ1 κ2:IntKind}(h1:lo.getD 0<=hi.getD n)(h2:hi.getD n<=c):
 (Instr.sliceBounds b n c (lo.map (fun i:Nat=>.int κ1 (i:Int))) (hi.map (fun i:Nat=>.int κ2 (i:Int))) none).run P w=.ok (lo.getD 0,hi.getD n,c) w:=by
 have key:∀(κ:IntKind) (v:Nat) (y:Nat) (code:BoundsCode),v<=y->(Instr.sliceBound (.int κ (v:Int)) y code).run P w=.ok v w:=by
  intro κ v y code q
  simp only[Instr.sliceBound,asIntOf,Sem.run_bind,Sem.run_pure,Result.andThen_ok,if_pos (⟨by omega,by omega⟩:(0:Int)<=(v:Int)/\(v:Int)<=(y:Int)),Int.toNat_natCast]
 cases lo<;>cases hi<;>simp only[Option.getD_some,Option.getD_none]at h1 h2<;>
  simp only[Instr.sliceBounds,Option.map_some,Option.map_none,Sem.run_bind,Sem.run_pure,Result.andThen_ok,Option.getD_some,Option.getD_none]
 case none.some=>rw[key _ _ _ _ (by omega)];rfl
 case some.none=>rw[key _ _ _ _ (by omega)];rfl
 case some.some=>rw[key _ _ _ _ (by omega)];simp only[Result.andThen_ok];rw[key _ _ _ _ (by omega)];rfl
def K3(A:Option Addr)(c l h sz:Nat):Value:=.slice (if c=l then A else A.map (·.add (l*sz))) (h-l) (c-l)
theorem Fi{A A0:Option Addr}{n c n0 c0 l0 h0 l h sz:Nat}(hr:De A0 n0 c0 A n c l0 h0 sz)(h1:l<=h)(h2:h<=n):
 De A0 n0 c0 (if c=l then A else A.map (·.add (l*sz))) (h-l) (c-l) (l0+l) (l0+h) sz:=by
 have k1:=hr.le
 have k2:=hr.hn
 have k3:=hr.nc
 have k4:=hr.cm
 have k5:=hr.len
 have k6:=hr.cap
 refine⟨by omega,by omega,k3,k4,by omega,by omega,fun hp=> ?_,fun e=> ?_,fun p hp=> ?_⟩
 ·obtain⟨b,o,e1,e2⟩:=hr.at_ (by omega)
  refine⟨b,o,e1,?_⟩
  rw[if_neg (by omega),e2,Option.map_some,Addr.add_mid,Nat.add_mul,Nat.add_assoc]
 ·have:A=none:=by
   split at e
   ·exact e
   ·cases A with
    |none=>rfl
    |some p=>cases e
  have:=hr.nil this
  omega
 ·split at hp
  ·exact hr.spot p hp
  ·cases hA:A with
   |none=>rw[hA]at hp;cases hp
   |some q=>
    rw[hA,Option.map_some]at hp
    cases hp
    have:=hr.spot q hA
    obtain⟨b,o,s⟩:=q
    simp only at this
    subst this
    rw[Addr.add_mid]
theorem HR{A:Option Addr}{n c sz:Nat}(h1:n<=c)(h2:c<=maxLen)(h3:A=none->c=0)(h4:∀p,A=some p->p.spot=none):De A n c A n c 0 n sz:=by
 refine⟨by omega,by omega,h1,h2,by omega,by omega,fun hp=> ?_,h3,h4⟩
 cases hA:A with
 |none=>have:=h3 hA;omega
 |some p=>
  have:=h4 p hA
  obtain⟨b,o,s⟩:=p
  simp only at this
  subst this
  exact⟨b,o,rfl,by rw[Nat.zero_mul,Nat.add_zero]⟩
theorem LA(hT:gj P Γ.sj)(h:nU ρ N S H m a w)(hU:∀id,m.has id->U id)(hd:∀d,o.dst=some d->d<N)(hf:∀j,fresh<=j->j<r.2->¬U j){t:TypeId}{x:Operand}{lo hi mx:Option Operand}(ho:o.op=.slice t x lo hi mx)
 (hr:(oR Γ t fun ti=>dN x fun v=>tI lo fun lo=>tI hi fun hi=>tI mx fun mx=>evSlice Γ fresh o ti v lo hi mx).run S H=some r):o.wp P a w (a0q ρ N U fresh S H m r) Q:=by
 replace hr:=fB hT hr
 obtain⟨ti,hti,hr⟩:=hr
 have hsh:=hti.shape
 replace hr:=cU h hr
 obtain⟨v,h1,hr⟩:=hr
 replace hr:=xk h hr
 obtain⟨lo1,g1,hr⟩:=hr
 replace hr:=xk h hr
 obtain⟨hi1,g2,hr⟩:=hr
 replace hr:=xk h hr
 obtain⟨mx1,g3,hr⟩:=hr
 unfold evSlice at hr
 cases mx1 with
 |some y=>exact aA hr
 |none=>
  have hmx:mx=none:=by
   cases mx with
   |none=>rfl
   |some y=>exact g3.elim
  subst hmx
  simp only at hr
  have exec:∀{A:Option Addr} {n c:Nat} {te:TI} {q1 q2:Option Nat} {κ1 κ2:IntKind},ti.ty=.sl->xB P ti.el te->a.eval x=.slice A n c->lo.map a.eval=q1.map (fun i:Nat=>Value.int κ1 (i:Int))->hi.map a.eval=q2.map (fun i:Nat=>Value.int κ2 (i:Int))->q1.getD 0<=q2.getD n->q2.getD n<=c->
   (execOp a.eval o).run P w=.ok (.value (K3 A c (q1.getD 0) (q2.getD n) te.ty.size)) w:=by
   intro A n c te q1 q2 κ1 κ2 hsl hte e0 e1 e2 hb1 hb2
   rw[hsl]at hsh
   simp only[xW]at hsh
   have hrun:=AZ (P:=P) (w:=w) (b:=true) (κ1:=κ1) (κ2:=κ2) hb1 hb2
   simp only[execOp,ho,Instr.sliceAt,Sem.run_bind,run_underlying hsh,Result.andThen_ok,e0,Instr.slice,e1,e2,Option.map_none,hrun,gH hte.Is,Sem.run_pure]
   rfl
  have lent:∀{t':DT} {l:t'.den},DR m.fz t' l [a.eval x]->(Fq Γ ti t' fun _=>uI 0 lo1 fun lq=>uI (lenL t' l) hi1 fun hq=>yn (Nat.ble lq hq&&Nat.ble hq (lenL t' l)) 233 (eu o (.lv t' (a3z t' l lq hq) fresh) [] (fresh+1))).run S H=some r->o.wp P a w (a0q ρ N U fresh S H m r) Q:=by
   intro t' l hdr hr
   replace hr:=rE hT hr
   obtain⟨te,hte,hsl,hl,hsz,hr⟩:=hr
   replace hr:=ni g1 hr
   obtain⟨q1,κ1,e1,hr⟩:=hr
   replace hr:=ni g2 hr
   obtain⟨q2,κ2,e2,hr⟩:=hr
   replace hr:=gV hr
   obtain⟨hb,hr⟩:=hr
   simp only[Bool.and_eq_true]at hb
   have b1:=Nat.le_of_ble_eq_true hb.1
   have b2:=Nat.le_of_ble_eq_true hb.2
   obtain⟨A,c,k1,k2,k3,k4,_,k6⟩:=vD hl hdr
   have hok:=Fi (HR (sz:=u5 t') k2 k3 k4 k6) b1 b2
   rw[Nat.zero_add,Nat.zero_add]at hok
   have hx:=exec hsl hte k1 e1 e2 b1 (by omega)
   rw[hsz]at hx
   have hnx:=mC hr
   have hn:=a2I hU (hf fresh (Nat.le_refl _) (by omega))
   obtain⟨n1,n2⟩:=h.heap.name hn (K3 A c (q1.getD 0) (q2.getD (lenL t' l)) (u5 t'))
   refine iN h hd hx n1 (ws0:=[]) n2 jz ?_ (rD hU (Nat.le_refl _) (Nat.lt_succ_self _)) hr
   simp only[den]
   rw[iY]
   refine⟨bQ _ _ _,hl,?_⟩
   rw[k1]at hdr
   exact uV hl hdr hok
  split at hr
  ·rename_i bs
   replace hr:=ni g1 hr
   obtain⟨q1,κ1,e1,hr⟩:=hr
   replace hr:=ni g2 hr
   obtain⟨q2,κ2,e2,hr⟩:=hr
   replace hr:=gV hr
   obtain⟨hb,hr⟩:=hr
   simp only[Bool.and_eq_true]at hb
   obtain⟨⟨b1,b2⟩,b3⟩:=hb
   have b2:=Nat.le_of_ble_eq_true b2
   have b3:=Nat.le_of_ble_eq_true b3
   rw[FO b1]at hsh
   simp only[xW]at hsh
   obtain⟨h1,eY⟩:=qd h1
   have hsz:(⟨bs.toArray⟩:ByteArray).size=bs.length:=by show bs.toArray.size=_;simp
   have hex:(⟨bs.toArray⟩:ByteArray).extract (q1.getD 0) (q2.getD bs.length)=⟨((bs.take (q2.getD bs.length)).drop (q1.getD 0)).toArray⟩:=by
    apply ByteArray.ext
    rw[ByteArray.data_extract]
    apply Array.toList_inj.1
    simp only[Array.toList_extract,List.extract_eq_take_drop,List.take_drop]
    congr 2
    omega
   have hrun:=AZ (P:=P) (w:=w) (b:=false) (n:=bs.length) (c:=bs.length) (lo:=q1) (hi:=q2) (κ1:=κ1) (κ2:=κ2) b2 b3
   refine cV h hU hd (v:=.string ⟨((bs.take (q2.getD bs.length)).drop (q1.getD 0)).toArray⟩) ?_ (vO ?_) hr
   ·simp only[execOp,ho,Instr.sliceAt,Sem.run_bind,run_underlying hsh,Result.andThen_ok,h1,Instr.slice,e1,e2,Option.map_none,Option.isSome_none,Bool.false_eq_true,if_false,hsz,hrun,Sem.run_pure,hex]
   ·simp only[List.length_drop,List.length_take];omega
  ·replace hr:=ni g1 hr
   obtain⟨q1,κ1,e1,hr⟩:=hr
   replace hr:=ni g2 hr
   obtain⟨q2,κ2,e2,hr⟩:=hr
   replace hr:=gV hr
   obtain⟨hb,hr⟩:=hr
   simp only[Bool.and_eq_true]at hb
   obtain⟨⟨b1,b2⟩,b3⟩:=hb
   have b2:=Nat.le_of_ble_eq_true b2
   have b3:=Nat.le_of_ble_eq_true b3
   replace hr:=fB hT hr
   obtain⟨te,hte,hr⟩:=hr
   simp only[den,Option.some.injEq]at h1
   have hx:=exec (th b1) hte h1.symm e1 e2 b2 b3
   refine cV h hU hd hx ?_ hr
   have z1:q1.getD 0=0:=by omega
   have z2:q2.getD 0=0:=by omega
   simp only[den,K3,z1,z2,if_true,Nat.sub_self]
  ·rename_i t' l j
   simp only[den]at h1
   rw[iY]at h1
   exact lent h1.2.2 hr
  ·rename_i id l0 h0 sz j
   replace hr:=fB hT hr
   obtain⟨te,hte,hr⟩:=hr
   replace hr:=cE hr
   obtain⟨hsl,hr⟩:=hr
   simp only[Bool.and_eq_true]at hsl
   have hsz:=Nat.eq_of_beq_eq_true hsl.2
   replace hr:=ni g1 hr
   obtain⟨q1,κ1,e1,hr⟩:=hr
   replace hr:=ni g2 hr
   obtain⟨q2,κ2,e2,hr⟩:=hr
   replace hr:=gV hr
   obtain⟨hb,hr⟩:=hr
   simp only[Bool.and_eq_true]at hb
   have b1:=Nat.le_of_ble_eq_true hb.1
   have b2:=Nat.le_of_ble_eq_true hb.2
   simp only[den]at h1
   obtain⟨A,n,c,A',n',c',hp,_,hok,e⟩:=fR.1 h1
   have k5:=hok.len
   have k6:=hok.cap
   have k2:=hok.hn
   have k3:=hok.nc
   rw[<-k5]at b1 b2 hr
   have hok':=Fi hok b1 b2
   have hx:=exec (th hsl.1) hte e e1 e2 b1 (by omega)
   rw[hsz]at hx
   have hnx:=mC hr
   have hn:=a2I hU (hf fresh (Nat.le_refl _) (by omega))
   obtain⟨n1,n2⟩:=h.heap.name hn (K3 A' c' (q1.getD 0) (q2.getD n') sz)
   refine iN h hd hx n1 (ws0:=[]) n2 jz ?_ (rD hU (Nat.le_refl _) (Nat.lt_succ_self _)) hr
   simp only[den]
   rw[fR]
   exact⟨A,n,c,_,_,_,n1.pl _ _ hp,bQ _ _ _,hok',rfl⟩
  ·rename_i id
   replace hr:=dR hr
   obtain⟨ob,hob,hr⟩:=hr
   simp only[den]at h1
   obtain⟨A,n,c,hp,e⟩:=fP.1 h1
   split at hr
   ·rename_i t' l
    obtain⟨ht',v',p1,p2⟩:=h.heap.fe id _ hob
    rw[hp]at p1;cases p1
    exact lent (by rw[e];exact p2) hr
   ·replace hr:=a07 hr
    obtain⟨d,hd',hr⟩:=hr
    replace hr:=rE hT hr
    obtain⟨te,hte,hsl,hl,hsz,hr⟩:=hr
    replace hr:=ni g1 hr
    obtain⟨q1,κ1,e1,hr⟩:=hr
    replace hr:=ni g2 hr
    obtain⟨q2,κ2,e2,hr⟩:=hr
    replace hr:=gV hr
    obtain⟨hb,hr⟩:=hr
    simp only[Bool.and_eq_true]at hb
    have b1:=Nat.le_of_ble_eq_true hb.1
    have b2:=Nat.le_of_ble_eq_true hb.2
    obtain⟨⟨ht',v',p1,p2⟩,_⟩:=jO h.heap hob hd'
    rw[hp]at p1;cases p1
    obtain⟨A2,c2,k1,k2,k3,k4,_,k6⟩:=p2.shape
    simp only[Value.slice.injEq]at k1
    obtain⟨f1,f2,f3⟩:=k1
    subst f1 f2 f3
    have hok:=Fi (HR (sz:=u5 d.1) k2 k3 k4 k6) b1 b2
    rw[Nat.zero_add,Nat.zero_add]at hok
    have hx:=exec hsl hte e e1 e2 b1 (by omega)
    rw[hsz]at hx
    have hnx:=mC hr
    have hn:=a2I hU (hf fresh (Nat.le_refl _) (by omega))
    obtain⟨n1,n2⟩:=h.heap.name hn (K3 A c (q1.getD 0) (q2.getD (lenL d.1 d.2)) (u5 d.1))
    refine iN h hd hx n1 (ws0:=[]) n2 jz ?_ (rD hU (Nat.le_refl _) (Nat.lt_succ_self _)) hr
    simp only[den]
    rw[fR]
    exact⟨A,_,c,_,_,_,n1.pl _ _ hp,bQ _ _ _,hok,rfl⟩
  ·exact aA hr
end
section
variable {P:Program}{Γ:Ctx}{ρ:En}{N:Nat}{S:Sl}{H:Hp}{m:Mp}{a:Act}{w:World}{o:Oper}{U:Nat->Prop}{fresh:Nat}{r:Ws}{Q:Exit->Act->World->Prop}
theorem a0d.jI(h:a0d ρ H m w){w':World}{b:Nat}(hG:mu ρ H m [b])(hw:∀k,k≠b->w'.heap[k]?=w.heap[k]?)(hs:w.heap.size<=w'.heap.size)(hx:Wo w w'):a0d ρ H m w':=by
 have hb:b∈[b]:=by simp
 refine h.step (Mp.le_refl m) (h.ff.xU (hG.eJ b hb) hw hs hx) (fun b arr h1 h2=>by rw[h2]at h1;cases h1) (fun k arr h1=>hw k fun e=> ?_) (fun b h1 h2=>absurd h2 h1) (fun i o hi=>(h.fe i o hi).mono (Mp.le_refl m) (fun e=>e) fun ho b' hb'=>hw b' fun e=> ?_) h.inj h.off h.vy
 ·subst e;rw[hG.fz k hb]at h1;cases h1
 ·subst e;exact hG.jI b' hb i o hi ho hb'
theorem uF(t:Ty)(n:Nat):(Builtin.zeroCells (pk t (zc t)).cells n).toList=(List.replicate n (zc t)).flatten:=by
 unfold Builtin.zeroCells;rw[zS,nk]
theorem xy(t:Ty):(zc t).length=t.size:=by rw[cH (a2G (m:=⟨fun _=>none,fun _=>none,fun _=>none,fun _=>none⟩) t),gY]
theorem po{zs:List Value}:∀n:Nat,(List.replicate n zs).flatten.length=n*zs.length
 |0=>by simp
 |n+1=>by rw[List.replicate_succ,List.flatten_cons,List.length_append,po n,Nat.add_mul,Nat.one_mul,Nat.add_comm]
theorem Mw(t:Ty):∀u∈zc t,u.oneCell'=true:=a3w (a2G (m:=⟨fun _=>none,fun _=>none,fun _=>none,fun _=>none⟩) t) (mq t)
theorem Lx(hT:gj P Γ.sj)(h:nU ρ N S H m a w)(hU:∀id,m.has id->U id)(hd:∀d,o.dst=some d->d<N){c:Call}{x:Operand}(ho:o.op=.call c)(hc:c.callee=.builtin .clear)(ha:c.args= #[x]){t:TypeId}(hty:c.argTypes.toList=[t])
 (hr:(oR Γ t fun ti=>dN x (evClear Γ fresh o ti)).run S H=some r):o.wp P a w (a0q ρ N U fresh S H m r) Q:=by
 have hat:c.argTypes= #[t]:=by apply Array.toList_inj.1;rw[hty]
 have hx:∀r w',(Builtin.clear_ #[t] o.type #[a.eval x]).run P w=.ok r w'->(execOp a.eval o).run P w=.ok (.value r) w':=by
  intro r w' hrun
  simp only[execOp,ho,resolve,hc,ha,hat,Sem.run_bind,Sem.run_pure,Result.andThen_ok,invoke,builtin,List.map_toArray,List.map_cons,List.map_nil,hrun]
 replace hr:=fB hT hr
 obtain⟨ti,hti,hr⟩:=hr
 replace hr:=cU h hr
 obtain⟨v,h1,hr⟩:=hr
 obtain⟨du,hu,_⟩:=hti.row
 have none_:∀A c,(Builtin.clear_ #[t] o.type #[.slice A 0 c]).run P w=.ok (.tuple #[]) w:=by
  intro A c
  cases A<;>simp[Builtin.clear_,run_underlying hu]
 unfold evClear at hr
 split at hr
 ·simp only[den,Option.some.injEq]at h1
  rw[<-h1]at hx
  exact cV h hU hd (hx _ _ (none_ _ _)) rfl hr
 ·rename_i id lo hi sz j
  replace hr:=dR hr
  obtain⟨ob,hob,hr⟩:=hr
  replace hr:=a07 hr
  obtain⟨d,hd',hr⟩:=hr
  replace hr:=rE hT hr
  obtain⟨te,hte,hsl,hl,hesz,hr⟩:=hr
  replace hr:=cE hr
  obtain⟨hb,hr⟩:=hr
  have hsz:=Nat.eq_of_beq_eq_true hb
  rw[hesz]at hsz
  subst hsz
  replace hr:=yH hr
  obtain⟨z,hr,hrd⟩:=hr
  have hsh:=hti.shape
  rw[hsl]at hsh
  simp only[xW]at hsh
  simp only[den]at h1
  obtain⟨A,n,c2,A',n',c',hp,hp',hok,e⟩:=fR.1 h1
  have hzd:DR m.fz (xK d.1) z (zc te.ty):=I1 (hrd h.heap (a2G (m:=m) te.ty)) (wH te.ty)
  obtain⟨⟨ht',v',p1,p2⟩,hmine⟩:=jO h.heap hob hd'
  rw[hp]at p1;cases p1
  obtain⟨A2,c3,k1,k2,k3,k4,k5,k6⟩:=p2.shape
  simp only[Value.slice.injEq]at k1
  obtain⟨f1,f2,f3⟩:=k1
  subst f1 f2 f3
  have hLCf:=LC.fill ht' hzd (hi-lo)
  have hn':=hok.len
  have hlh:=hok.le
  have hhn:=hok.hn
  have hcap:=hok.cap
  have hzl:lenL d.1 (ua d.1 d.2 lo hi z)=lenL d.1 d.2:=by
   unfold ua
   rw[iw ht',iw ht',pC ht',pC ht',a4j ht']
   omega
  rw[e]at hx
  rcases p2 with⟨A1,h1,h2,h3,h4,h5⟩|⟨b,o',el,c1,cz,vs,post,h1,h2,h3,h4,h5,h6,h7,h8⟩
  ·
   have hn0:n'=0:=by omega
   subst hn0
   have hor:OR m w id (.row d.1 (ua d.1 d.2 lo hi z)):=by
    refine⟨ht',_,hp,.inl ⟨A1,h1,h2,?_,by rw[hzl,h4],h5⟩⟩
    have q1:=h3.cut 0 lo
    have q2:=h3.cut hi (lenL d.1 d.2)
    have q3:hi-lo=0:=by omega
    rw[q3]at hLCf
    unfold ua
    rw[q3]
    have:=(q1.E4 hLCf).E4 q2
    simpa using this
   cases hbk:m.ad id with
   |none=>
    have hrep:a0d ρ (gW H id (some (.row d.1 (ua d.1 d.2 lo hi z)))) m w:=by
     refine h.heap.step (Mp.le_refl m) h.heap.ff (fun b arr h1 h2=>by rw[h2]at h1;cases h1) (fun b arr _=>rfl) (fun b h1 h2=>absurd h2 h1) (fun i o1 hi1=> ?_) (fun i j o1 o2 b1 b2 hne hi1 hj1 g1 g2 hb1 hb2=> ?_) (fun i o1 b1 hi1 g1 hb1=> ?_) (fun i o1 b1 hi1 g1 hb1=> ?_)
     ·by_cases e:i=id
      ·subst e;rw[bQ]at hi1;cases hi1;exact hor
      ·rw[a0h _ _ e]at hi1;exact h.heap.fe i o1 hi1
     ·have e1:i≠id:=fun e=>by subst e;rw[hbk]at hb1;cases hb1
      have e2:j≠id:=fun e=>by subst e;rw[hbk]at hb2;cases hb2
      rw[a0h _ _ e1]at hi1;rw[a0h _ _ e2]at hj1
      exact h.heap.inj i j o1 o2 b1 b2 hne hi1 hj1 g1 g2 hb1 hb2
     ·have e1:i≠id:=fun e=>by subst e;rw[hbk]at hb1;cases hb1
      rw[a0h _ _ e1]at hi1
      exact h.heap.off i o1 b1 hi1 g1 hb1
     ·have e1:i≠id:=fun e=>by subst e;rw[hbk]at hb1;cases hb1
      rw[a0h _ _ e1]at hi1
      exact h.heap.vy i o1 b1 hi1 g1 hb1
    exact iN h hd (hx _ _ (none_ _ _)) (Mp.le_refl m) (ws0:=[.ej id (some (.row d.1 (ua d.1 d.2 lo hi z)))]) hrep (fQ _ _) rfl (fun id hi=>.inl (hU id hi)) hr
   |some b=>rw[hbk]at h5;cases h5
  ·cases h2
   subst h4
   have hvl:=h5.len
   have hzn:=xy te.ty
   have hlo:lo*u5 d.1+(hi-lo)*u5 d.1<=vs.length:=by
    rw[<-Nat.add_mul,hvl];exact Nat.mul_le_mul_right _ (by omega)
   have hfl:(List.replicate (hi-lo) (zc te.ty)).flatten.length=(hi-lo)*u5 d.1:=by rw[po,hzn,hesz]
   have hLC:LC m.fz d.1 (ua d.1 d.2 lo hi z) (dO vs (lo*u5 d.1) (List.replicate (hi-lo) (zc te.ty)).flatten):=by
    have:=((h5.cut 0 lo).E4 hLCf).E4 (h5.cut hi (lenL d.1 d.2))
    unfold ua dO
    rw[hfl]
    rw[Nat.zero_mul,List.drop_zero,<-hvl,List.take_length]at this
    rw[show lo*u5 d.1+(hi-lo)*u5 d.1=hi*u5 d.1 by rw[<-Nat.add_mul];congr 1;omega]
    exact this
   have hrun:(Builtin.clear_ #[t] o.type #[.slice A' n' c']).run P w=.ok (.tuple #[]) (w.setRow b (cz++dO vs (lo*u5 d.1) (List.replicate (hi-lo) (zc te.ty)).flatten++post).toArray):=by
    by_cases hn0:n'=0
    ·subst hn0
     have:hi-lo=0:=by omega
     rw[this,none_]
     have e0:dO vs (lo*u5 d.1) ((List.replicate 0 (zc te.ty)).flatten)=vs:=by simp[dO]
     rw[e0]
     congr 1
     exact(setRow_self w b _ _ _ h3).symm
    ·obtain⟨b',o',e1,e2⟩:=hok.at_ (by have:=hok.nc;omega)
     cases e1
     subst e2
     obtain⟨it,hi1,hz1,_⟩:=hte.parts
     have hst:=run_storeCells_at P b (cz.length+lo*u5 d.1) el (List.replicate (hi-lo) (zc te.ty)).flatten 0 (cz++vs++post).toArray w h3 (by simp only[List.size_toArray,List.length_append,hfl];omega) (fun v hv=>by
      simp only[List.mem_flatten,List.mem_replicate]at hv
      obtain⟨l,⟨_,rfl⟩,hv⟩:=hv
      exact Mw te.ty v hv)
     simp only[Nat.add_zero]at hst
     have hput:dO (cz++vs++post) (cz.length+lo*u5 d.1) (List.replicate (hi-lo) (zc te.ty)).flatten=cz++dO vs (lo*u5 d.1) (List.replicate (hi-lo) (zc te.ty)).flatten++post:=by
      rw[List.append_assoc,iz,wh (by rw[hfl];omega),List.append_assoc]
     have hst':(storeCells ⟨b,cz.length+lo*u5 d.1,none⟩ (Builtin.zeroCells (pk te.ty (zc te.ty)).cells (hi-lo)).toList).run P w=.ok () (w.setRow b (cz++dO vs (lo*u5 d.1) (List.replicate (hi-lo) (zc te.ty)).flatten++post).toArray):=by rw[uF,<-hput];exact hst
     rw[hn']
     obtain⟨k,hk⟩:∃k,hi-lo=k+1:=⟨hi-lo-1,by omega⟩
     rw[hk]at hst'⊢
     simp[Builtin.clear_,run_underlying hsh,zeroValue,typeInfo,hi1,hz1,hst']
   have hplen:(dO vs (lo*u5 d.1) (List.replicate (hi-lo) (zc te.ty)).flatten).length=vs.length:=tQ (by rw[hfl];omega)
   have hor:OR m (w.setRow b (cz++dO vs (lo*u5 d.1) (List.replicate (hi-lo) (zc te.ty)).flatten++post).toArray) id (.row d.1 (ua d.1 d.2 lo hi z)):=
    ⟨ht',_,hp,.inr ⟨b,cz.length,el,_,cz,_,post,h1,by rw[hzl],Go.setRow_heap w b _ _ el (0,0) h3,rfl,hLC,by rw[hzl];exact h6,by rw[hzl];exact h7,by rw[hplen];exact h8⟩⟩
   have hrep:=h.heap.xU hob hmine h1 (fun j hj=>Go.setRow_other w b j _ hj) (by rw[fS];omega) hor ⟨rfl,rfl,rfl,by first|exact Nat.le_refl _|exact Nat.le_succ _⟩
   exact iN h hd (hx _ _ hrun) (Mp.le_refl m) (ws0:=[.ej id (some (.row d.1 (ua d.1 d.2 lo hi z)))]) hrep (fQ _ _) rfl (fun id hi=>.inl (hU id hi)) hr
 ·exact aA hr
end
section
variable {P:Program}{Γ:Ctx}{ρ:En}{N:Nat}{S:Sl}{H:Hp}{m:Mp}{a:Act}{w:World}{o:Oper}{U:Nat->Prop}{fresh:Nat}{r:Ws}{Q:Exit->Act->World->Prop}
def LR(F:Fz)(w:World)(t:DT)(x:t.den)(v:Value):Prop:=∃A c us,v=.slice A (lenL t x) c/\LC F t x us/\(0<lenL t x->∃b o arr el fr,A=some ⟨b,o,none⟩/\w.heap[b]?=some (.cells arr el fr)/\Wy arr o us)/\(A=none->c=0)/\(∀p,A=some p->p.spot=none)/\lenL t x*lim t<=140737488355328
theorem Jt{t:DT}{x:t.den}{v:Value}(ht:t.isL=true)(hh:a0d ρ H m w)(h:DR m.fz t x [v]):LR m.fz w t x v:=by
 obtain⟨v',e,A,c,h1,h2,h3,h4,h5,us,h6,h7⟩:=(Av ht).1 h
 cases e
 refine⟨A,c,us,h1,h6,fun hp=> ?_,h4,h5,h3.2⟩
 obtain⟨b,o',arr,e1,e2,e3⟩:=h7 hp
 obtain⟨el,fr,hg⟩:=hh.fz b arr e2
 exact⟨b,o',arr,el,fr,e1,hg,e3⟩
theorem F7{F:Fz}{t:DT}{x:t.den}{v:Value}{B:Option Nat}(h:kL F w t x v B):LR F w t x v:=by
 rcases h with⟨A,h1,h2,h3,h4,h5⟩|⟨b,o',el,c,cz,vs,post,h1,h2,h3,h4,h5,h6,h7,h8⟩
 ·exact⟨A,0,[],by rw[h4];exact h1,h3,fun hp=>by omega,fun _=>rfl,h2,by rw[h4,Nat.zero_mul];omega⟩
 ·subst h4
  exact⟨_,c,vs,h2,h5,fun _=>⟨b,_,_,el,_,rfl,h3,pP cz vs post⟩,(fun e=>by cases e),(fun p e=>by cases e;rfl),h7.2⟩
theorem LR.FI{F:Fz}{t u:DT}{x:t.den}{y:u.den}{v:Value}(hs:t.same u=true)(hx:HEq x y)(h:LR F w t x v):LR F w u y v:=by
 have hl:=E8 hs hx
 obtain⟨A,c,us,h1,h2,h3,h4,h5,h6⟩:=h
 exact⟨A,c,us,by rw[<-hl];exact h1,F6 hs hx h2,by rw[<-hl];exact h3,h4,h5,by rw[<-hl,<-Eb hs];exact h6⟩
theorem LR.cut{F:Fz}{t:DT}{x:t.den}{A A':Option Addr}{n c n' c' lo hi:Nat}(ht:t.isL=true)(h:LR F w t x (.slice A n c))(hr:De A n c A' n' c' lo hi (u5 t)):LR F w t (a3z t x lo hi) (.slice A' n' c'):=by
 obtain⟨A1,c1,us,h1,h2,h3,h4,h5,h6⟩:=h
 simp only[Value.slice.injEq]at h1
 obtain⟨e1,e2,e3⟩:=h1
 subst e1 e2 e3
 have hlen:=pC ht x lo hi
 have hn:=hr.len
 have eY:=hr.le
 have hhn:=hr.hn
 have hcap:=hr.cap
 have hnc:=hr.nc
 have hn':n'=lenL t (a3z t x lo hi):=by rw[hlen];omega
 refine⟨A',c',_,by rw[hn'],h2.cut lo hi,fun hp=> ?_,hr.nil,hr.spot,Nat.le_trans (Nat.mul_le_mul_right _ (by rw[hlen];omega)) h6⟩
 obtain⟨b,o',e1,e2⟩:=hr.at_ (by omega)
 obtain⟨b2,o2,arr,el,fr,g1,g2,g3⟩:=h3 (by omega)
 rw[g1]at e1;cases e1
 refine⟨b,o'+lo*u5 t,arr,el,fr,e2,g2,fun j u hj=> ?_⟩
 have:=List.getElem?_drop (xs:=us.take (hi*u5 t)) (i:=lo*u5 t) (j:=j)
 rw[this,List.getElem?_take]at hj
 split at hj
 ·rw[Nat.add_assoc];exact g3 _ u hj
 ·cases hj
theorem SJ{F:Fz}{t:DT}{x:t.den}(ht:t.isL=true)(h:xN t []=some x):LR F w t x (.slice none 0 0):=by
 obtain⟨q1,q2,_⟩:=LC.Ou ht (F:=F) (uss:=[]) h trivial
 have q2:lenL t x=0:=q2
 exact⟨none,0,[],by rw[q2],q1,fun hp=>by omega,fun _=>rfl,(fun p e=>by cases e),by rw[q2,Nat.zero_mul];omega⟩
theorem Ec{t:DT}{v:HV}{k:t.den->ST}(ht:t.isL=true)(hr:(listR t v k).run S H=some r):∃x,(k x).run S H=some r/\
 ∀{ρ:En} {m:Mp} {w:World} {val:Value},a0d ρ H m w->den m v=some val->LR m.fz w t x val:=by
 unfold listR at hr
 split at hr
 ·obtain⟨x,h1,h2⟩:=a07 hr
  exact⟨x,h2,fun{ρ m w val} h hv=>by simp only[den,Option.some.injEq]at hv;subst hv;exact SJ ht h1⟩
 ·obtain⟨x,h1,h2⟩:=a07 hr
  obtain⟨hs,hx⟩:=dG h1
  refine⟨x,h2,fun{ρ m w val} h hv=> ?_⟩
  simp only[den]at hv
  rw[iY]at hv
  exact(Jt hv.2.1 h hv.2.2).FI hs hx
 ·rename_i id
  obtain⟨o,ho,hr⟩:=dR hr
  split at hr
  ·rename_i u y
   obtain⟨x,h1,h2⟩:=a07 hr
   obtain⟨hs,hx⟩:=dG h1
   refine⟨x,h2,fun{ρ m w val} h hv=> ?_⟩
   simp only[den]at hv
   obtain⟨A,n,c,hp,e⟩:=fP.1 hv
   obtain⟨ht',v',q1,q2⟩:=h.fe id _ ho
   rw[hp]at q1;cases q1;subst e
   exact(Jt ht' h q2).FI hs hx
  ·obtain⟨d,hd,hr⟩:=a07 hr
   obtain⟨x,h1,h2⟩:=a07 hr
   obtain⟨hs,hx⟩:=dG h1
   refine⟨x,h2,fun{ρ m w val} h hv=> ?_⟩
   simp only[den]at hv
   obtain⟨A,n,c,hp,e⟩:=fP.1 hv
   obtain⟨⟨ht',v',q1,q2⟩,_⟩:=jO h ho hd
   rw[hp]at q1;cases q1;subst e
   exact(F7 q2).FI hs hx
 ·rename_i id lo hi sz j
  cases hsz:Nat.beq sz (u5 t)with
  |false=>rw[hsz]at hr;exact aA hr
  |true=>
   rw[hsz]at hr
   have hsz:=Nat.eq_of_beq_eq_true hsz
   subst hsz
   obtain⟨o,ho,hr⟩:=dR (show(RT.ej id _).run S H=some r from hr)
   split at hr
   ·rename_i u y
    obtain⟨x,h1,h2⟩:=a07 hr
    obtain⟨hs,hx⟩:=dG h1
    refine⟨_,h2,fun{ρ m w val} h hv=> ?_⟩
    simp only[den]at hv
    obtain⟨A,n,c,A',n',c',hp,_,hok,e⟩:=fR.1 hv
    obtain⟨ht',v',q1,q2⟩:=h.fe id _ ho
    rw[hp]at q1;cases q1;subst e
    exact((Jt ht' h q2).FI hs hx).cut ht hok
   ·obtain⟨d,hd,hr⟩:=a07 hr
    obtain⟨x,h1,h2⟩:=a07 hr
    obtain⟨hs,hx⟩:=dG h1
    refine⟨_,h2,fun{ρ m w val} h hv=> ?_⟩
    simp only[den]at hv
    obtain⟨A,n,c,A',n',c',hp,_,hok,e⟩:=fR.1 hv
    obtain⟨⟨ht',v',q1,q2⟩,_⟩:=jO h ho hd
    rw[hp]at q1;cases q1;subst e
    exact((F7 q2).FI hs hx).cut ht hok
 ·exact aA hr
theorem Er{t:DT}{v:HV}{k:t.den->List Wr->ST}(h:(ownR t v k).run S H=some r):(rdO t v k).run S H=some r:=by
 unfold ownR at h
 unfold rdO
 split at h
 ·obtain⟨x,h1,h2⟩:=a07 h
  rw[h1];exact h2
 ·rename_i id
  obtain⟨ob,ho,h⟩:=dR h
  obtain⟨d,h1,h⟩:=a07 h
  obtain⟨x,h2,h⟩:=a07 h
  simp only[RT.run,ho]
  rw[h1]
  show(er 305 (gk d.1 t d.2) fun y=>k y [.ej id none]).run S H=some r
  rw[h2];exact h
 ·rename_i id lo hi sz j
  cases hsz:Nat.beq sz (u5 t)with
  |false=>rw[hsz]at h;exact aA h
  |true=>
   rw[hsz]at h
   obtain⟨ob,ho,h⟩:=dR (show(RT.ej id _).run S H=some r from h)
   obtain⟨d,h1,h⟩:=a07 h
   obtain⟨x,h2,h⟩:=a07 h
   first|(show(bif !sz.beq (u5 t)then RT.fail 307 else RT.ej id _).run S H=some r;rw[hsz])|skip
   show(RT.ej id _).run S H=some r
   simp only[RT.run,ho]
   rw[h1]
   show(er 305 (gk d.1 t d.2) fun y=>k (a3z t y lo hi) [.ej id none]).run S H=some r
   rw[h2];exact h
 ·exact aA h
theorem oc(t tx ty e:TypeId)(i:TypeInfo)(ht:P.underlying t=some (.slice e))(hi:P.info? e=some i){b off sLen sCap el:Nat}{x:Value}{n:Nat}{news arr:List Value}(hs:Src P i.size tx x n news w)
 (hroom:sLen+n<=sCap) (hg:w.heap[b]?=some (.cells arr.toArray el (0,0))) (hl:off+sLen*i.size+news.length<=arr.length):
 (Builtin.append_ #[t,tx] ty #[.slice (some ⟨b,off,none⟩) sLen sCap,x]).run P w=.ok (.slice (some ⟨b,off,none⟩) (sLen+n) sCap) (w.setRow b (dO arr (off+sLen*i.size) news).toArray):=by
 have hst:=run_storeCells_at P b (off+sLen*i.size) el news 0 arr.toArray w hg (by simpa using hl) (fun v hv=>hs.one v hv)
 simp only[Nat.add_zero]at hst
 have hst':(storeCells ⟨b,off+sLen*i.size,none⟩ news).run P w=.ok () (w.setRow b (dO arr (off+sLen*i.size) news).toArray):=hst
 rcases hs.kind with⟨e',hk⟩|hk<;>simp[Builtin.append_,run_underlying ht,run_underlying hk,sizeOf,typeInfo,hi,hs.len,hroom,hs.cells,Addr.add_lit,hst']
theorem sB(t tx ty e:TypeId)(i:TypeInfo)(ht:P.underlying t=some (.slice e))(hi:P.info? e=some i){A:Option Addr}{sLen sCap:Nat}{x:Value}{news:List Value}(hs:Src P i.size tx x 0 news w)
 (hroom:sLen<=sCap):(Builtin.append_ #[t,tx] ty #[.slice A sLen sCap,x]).run P w=.ok (.slice A sLen sCap) w:=by
 have hn:news=[]:=List.eq_nil_of_length_eq_zero (by rw[hs.newsLen];omega)
 have hc:=hs.cells
 rw[hn]at hc
 cases A<;>(rcases hs.kind with⟨e',hk⟩|hk<;>simp[Builtin.append_,run_underlying ht,run_underlying hk,sizeOf,typeInfo,hi,hs.len,hroom,hc,storeCells])
theorem LC.one{F:Fz}{t:DT}{x:t.den}{us:List Value}(h:LC F t x us):∀u∈us,u.oneCell'=true:=by
 have key:∀(t:DT) {xs:List t.den} {uss:List (List Value)},All2 (DR F t) xs uss->∀u∈uss.flatten,u.oneCell'=true:=by
  intro t xs uss h u hu
  obtain⟨l,hl,hu⟩:=List.mem_flatten.1 hu
  obtain⟨i,hi⟩:=List.getElem?_of_mem hl
  have hlt:=(List.getElem?_eq_some_iff.1 hi).1
  rw[<-h.length]at hlt
  obtain⟨v,q1,q2⟩:=All2.get i _ h (List.getElem?_eq_getElem hlt)
  rw[hi]at q1;cases q1
  exact q2.one u hu
 cases t<;>first
  |exact h.elim
  |exact TLR.one h
  |(obtain⟨uss,e,h⟩:=h;subst e;exact key _ h)
theorem LR.src{F:Fz}{t:DT}{x:t.den}{v:Value}{tx e':TypeId}(h:LR F w t x v)(he:P.underlying tx=some (.slice e')):∃us,LC F t x us/\Src P (u5 t) tx v (lenL t x) us w:=by
 obtain⟨A,c,us,h1,h2,h3,h4,h5⟩:=h
 subst h1
 refine⟨us,h2,?_⟩
 have hl:=h2.len
 rcases Nat.eq_zero_or_pos (lenL t x)with h0|h0
 ·have hus:us=[]:=List.eq_nil_of_length_eq_zero (by rw[hl,h0,Nat.zero_mul])
  subst hus
  rw[h0]
  cases A with
  |none=>exact Src.ofNil w he c
  |some p=>exact Src.ofSlice w he _ 0 _ [] (by simp) (fun j u hu=>by simp at hu) (fun u hu=>by simp at hu)
 ·obtain⟨b,o',arr,el,fr,g1,g2,g3⟩:=h3 h0
  subst g1
  refine Src.ofSlice w he _ _ _ _ hl (fun j u hu=> ?_) h2.one
  rw[Addr.add_mid,cell_of_row w b _ _ el fr g2]
  exact g3 j u hu
theorem IQ(hT:gj P Γ.sj)(h:nU ρ N S H m a w)(hU:∀id,m.has id->U id)(hd:∀d,o.dst=some d->d<N)(hf:∀j,fresh<=j->j<r.2->¬U j){c:Call}{x y:Operand}(ho:o.op=.call c)(hc:c.callee=.builtin .append)(ha:c.args= #[x,y]){tx ty:TypeId}(hty:c.argTypes.toList=[tx,ty])
 (hr:(dN x fun v=>dN y (a4s Γ fresh o tx ty v)).run S H=some r):o.wp P a w (a0q ρ N U fresh S H m r) Q:=by
 have hat:c.argTypes= #[tx,ty]:=by apply Array.toList_inj.1;rw[hty]
 have hx:∀r w',(Builtin.append_ #[tx,ty] o.type #[a.eval x,a.eval y]).run P w=.ok r w'->(execOp a.eval o).run P w=.ok (.value r) w':=by
  intro r w' hrun
  simp only[execOp,ho,resolve,hc,ha,hat,Sem.run_bind,Sem.run_pure,Result.andThen_ok,invoke,builtin,List.map_toArray,List.map_cons,List.map_nil,hrun]
 replace hr:=cU h hr
 obtain⟨v,h1,hr⟩:=hr
 replace hr:=cU h hr
 obtain⟨u,h2,hr⟩:=hr
 unfold a4s at hr
 replace hr:=a07 hr
 obtain⟨ti,hti',hr⟩:=hr
 have hti:=hT tx ti hti'
 replace hr:=a07 hr
 obtain⟨t0,ht0,hr⟩:=hr
 replace hr:=rE hT hr
 obtain⟨te,hte,hsl,hl,hesz,hr⟩:=hr
 replace hr:=cE hr
 obtain⟨hb,hr⟩:=hr
 have hb:=Nat.eq_of_beq_eq_true hb
 subst hb
 have hsh:=hti.shape
 rw[hsl]at hsh
 simp only[xW]at hsh
 replace hr:=yI hl (Er hr)
 obtain⟨xd,ws,hr,hrd⟩:=hr
 replace hr:=Ec hl hr
 obtain⟨yd,hr,hlr⟩:=hr
 replace hr:=gV hr
 obtain⟨hroom,hr⟩:=hr
 have hroom:=of_decide_eq_true hroom
 rw[iw hl]at hroom
 obtain⟨hroom,hlim⟩:=Cq hroom
 obtain⟨m1,B,hrn,hrow⟩:=hrd (.start h.heap) rfl h1
 have hrs:RS ρ H m w ws m1:=by simpa using hrn.rs
 have hgok:mu ρ (cw H ws) m1 B.toList:=by simpa using hrn.AH
 obtain⟨us,hus,hsrc⟩:=(hlr h.heap h2).src (P:=P) (tx:=tx) hsh
 have hus1:=hus.mono hrs.fz
 obtain⟨it,hi,hz,hsz,hby⟩:=hte.parts
 have hs':=hsrc
 rw[<-hesz,<-hsz]at hs'
 have hul:=hus.len
 have hU1:∀id,m1.has id->U id:=fun id hid=>hU id (by
  rcases hid with q|q|q
  ·exact .inl (by rwa[hrs.ad]at q)
  ·exact .inr (.inl (by rwa[hrs.pl]at q))
  ·exact .inr (.inr (by rwa[hrs.px]at q)))
 have hwide:=hte.wide
 have h63:lenL (cT t0) xd+lenL (cT t0) yd<=9223372036854775807:=by
  have:=Nat.mul_le_mul_left (lenL (cT t0) xd+lenL (cT t0) yd) hwide
  omega
 have grow:∀{A:Option Addr} {c:Nat} {vs:List Value},a.eval x=.slice A (lenL (cT t0) xd) c->LC m1.fz (cT t0) xd vs->c<lenL (cT t0) xd+lenL (cT t0) yd->(Builtin.firstCells it.size (lenL (cT t0) xd) (.slice A (lenL (cT t0) xd) c)).run P w.drew=.ok vs.toArray w.drew->
  o.wp P a w (a0q ρ N U fresh S H m r) Q:=by
  intro A c vs e hvs hg hold
  have hfit:=growslice_fits (need:=lenL (cT t0) xd+lenL (cT t0) yd) (old:=c) (bytes:=te.bytes) hg hroom
  rw[<-hby]at hfit
  have hrun:=run_append_grow_src w tx tx o.type ti.el it _ hsh hi hz A (lenL (cT t0) xd) c vs hold (a.eval y) _ us hs' hg (by omega) hfit
  have hge:=grownCap_ge w (lenL (cT t0) xd+lenL (cT t0) yd) c ti.el
  have hcm:=grownCap_le_maxLen w (lenL (cT t0) xd+lenL (cT t0) yd) c ti.el (by unfold maxLen;omega)
  obtain⟨w',hw'⟩:∃w',w'=w.drew.alloc (.cells ((vs++us).toArray++Builtin.zeroCells (pk te.ty (zc te.ty)).cells (grownCap w (lenL (cT t0) xd+lenL (cT t0) yd) c ti.el-(lenL (cT t0) xd+lenL (cT t0) yd))) ti.el):=⟨_,rfl⟩
  rw[<-hw']at hrun
  have hnew:w'.heap[w.heap.size]?=some (.cells ((vs++us).toArray++Builtin.zeroCells (pk te.ty (zc te.ty)).cells (grownCap w (lenL (cT t0) xd+lenL (cT t0) yd) c ti.el-(lenL (cT t0) xd+lenL (cT t0) yd))) ti.el (0,0)):=by rw[hw'];exact Go.heap_alloc_new w.drew _
  have hgrow:=hrs.rep.grow (w':=w') (fun k hk=>by rw[hw'];exact Go.heap_alloc_old w.drew _ k hk) (by rw[hw'];exact⟨rfl,rfl,rfl,by first|exact Nat.le_refl _|exact Nat.le_succ _⟩)
  rw[<-e]at hrun
  refine vQ (G:=[]) (B:=some w.heap.size) h hd hrs.le hU1 hf (hx _ _ hrun) hgrow hrs.FN.ej hl (.inr ⟨w.heap.size,0,ti.el,_,[],vs++us,(Builtin.zeroCells (pk te.ty (zc te.ty)).cells (grownCap w (lenL (cT t0) xd+lenL (cT t0) yd) c ti.el-(lenL (cT t0) xd+lenL (cT t0) yd))).toList,rfl,by rw[iw hl],?_,rfl,hvs.E4 hus1,by rw[iw hl];exact hge,⟨hcm,by rw[iw hl];exact hlim⟩,?_⟩) (mu.new hrs.rep (Nat.le_refl _) hgrow.ff) hr
  ·rw[hnew];congr 2;apply Array.toList_inj.1;simp
  ·rw[uF,po,xy,hesz,List.length_append,hvs.len,hul,<-Nat.add_mul,<-Nat.add_mul]
   congr 1;omega
 rcases hrow with⟨A,k1,k2,k3,k4,k5⟩|⟨b,o',el,c2,cz,vs,post,k1,k2,k3,k4,k5,k6,k7,k8⟩
 ·subst k5
  rcases Nat.eq_zero_or_pos (lenL (cT t0) yd)with h0|h0
  ·have hus0:us=[]:=List.eq_nil_of_length_eq_zero (by rw[hul,h0,Nat.zero_mul])
   subst hus0
   rw[h0]at hs'
   have hrun:=sB tx tx o.type ti.el it hsh hi (A:=A) (sLen:=0) (sCap:=0) hs' (Nat.le_refl 0)
   rw[<-k1]at hrun
   have:=k3.E4 hus1
   exact vQ (G:=[]) (B:=none) h hd hrs.le hU1 hf (hx _ _ hrun) hrs.rep hrs.FN.ej hl (.inl ⟨A,k1,k2,by simpa using this,by rw[iw hl,k4,h0],rfl⟩) hgok hr
  ·refine grow (A:=A) (c:=0) (vs:=[]) (by rw[k4];exact k1) k3 (by omega) ?_
   rw[k4]
   cases A with
   |none=>exact run_firstCells_none w.drew _ 0 0 0
   |some p=>exact run_firstCells_some w.drew _ 0 _ 0 _ [] (by simp) (fun j u hu=>by simp at hu)
 ·subst k1 k4
  have hvl:=k5.len
  by_cases hroom2:lenL (cT t0) xd+lenL (cT t0) yd<=c2
  ·have hpl:us.length<=post.length:=by
    have:=Nat.mul_le_mul_right (u5 (cT t0)) hroom2
    rw[Nat.add_mul,<-hvl,<-hul,<-k8]at this
    omega
   have hrun:=oc tx tx o.type ti.el it hsh hi (off:=cz.length) (sLen:=lenL (cT t0) xd) (sCap:=c2) hs' hroom2 k3 (by rw[hsz,hesz,<-hvl];simp only[List.length_append];omega)
   have hput:dO (cz++vs++post) (cz.length+lenL (cT t0) xd*it.size) us=cz++(vs++us)++post.drop us.length:=by
    rw[hsz,hesz,<-hvl,List.append_assoc,iz]
    unfold dO
    rw[List.take_left' rfl,List.drop_append,List.drop_of_length_le (by omega),List.nil_append,Nat.add_sub_cancel_left]
    simp only[List.append_assoc]
   rw[hput]at hrun
   rw[<-k2]at hrun
   have hfree:=hrs.rep.jI (w':=w.setRow b (cz++(vs++us)++post.drop us.length).toArray) hgok (fun j hj=>Go.setRow_other w b j _ hj) (by rw[fS];omega) ⟨rfl,rfl,rfl,by first|exact Nat.le_refl _|exact Nat.le_succ _⟩
   refine vQ (G:=[]) (B:=some b) h hd hrs.le hU1 hf (hx _ _ hrun) hfree hrs.FN.ej hl (.inr ⟨b,cz.length,el,c2,cz,vs++us,post.drop us.length,rfl,by rw[iw hl],Go.setRow_heap w b _ _ el (0,0) k3,rfl,k5.E4 hus1,by rw[iw hl];exact hroom2,⟨k7.1,by rw[iw hl];exact hlim⟩,?_⟩) hgok hr
   rw[List.length_append,List.length_drop];omega
  ·refine grow k2 k5 (by omega) ?_
   refine run_firstCells_some w.drew _ _ _ _ _ _ (by rw[hvl,hsz,hesz]) fun j u hu=> ?_
   rw[Addr.add_mid]
   show w.cell? _=_
   rw[cell_of_row w b _ _ el (0,0) k3]
   exact pP cz vs post j u hu
end
section
variable {P:Program}{Γ:Ctx}{ρ:En}{N:Nat}{S:Sl}{H:Hp}{m:Mp}{a:Act}{w:World}{o:Oper}{U:Nat->Prop}{fresh:Nat}{r:Ws}{Q:Exit->Act->World->Prop}
theorem run_convert_int{src dst:TypeId}{d:TypeDesc}{kd kx:IntKind}{n:Int}(hs:P.underlying src=some d)(hd:P.underlying dst=some (.int kd)):(convert src dst (.int kx n)).run P w=.ok (.int kd (kd.wrap n)) w:=by
 simp only[convert,Sem.run_bind,run_underlying hs,run_underlying hd,Result.andThen_ok,Conv.intToInt,Sem.run_pure]
theorem P6{t:Ty}(h:Qw t=true):t=.int .u8:=by
 cases t<;>(try cases h)
 rename_i k
 cases k<;>first|rfl|cases h
theorem ES{F:Fz}:∀{x:List Int} {uss:List (List Value)},All2 (DR F (.int .u8)) x uss->uss.flatten=(wu x).map fun b=>Value.int .u8 (b.toNat:Int)
 |[],[],_=>rfl
 |y::x,u::uss,⟨⟨h1,h2⟩,h3⟩=>by
  rw[List.flatten_cons,h1,ES h3]
  unfold a0p at h2
  rw[show IntKind.u8.min=0 from rfl,show IntKind.u8.max=255 from rfl]at h2
  simp only[Bool.and_eq_true,decide_eq_true_eq]at h2
  have:((UInt8.ofNat y.toNat).toNat:Int)=y:=by rw[UInt8.toNat_ofNat'];omega
  simp only[wu,List.map_cons,this,List.singleton_append]
theorem Oy(bs:List UInt8):All2 (DR (fun _=>none) (.int .u8)) (ey bs) (bs.map fun b=>[Value.int .u8 (b.toNat:Int)]):=by
 induction bs with
 |nil=>trivial
 |cons b bs ih=>
  refine⟨⟨rfl,?_⟩,ih⟩
  unfold a0p
  rw[show IntKind.u8.min=0 from rfl,show IntKind.u8.max=255 from rfl]
  have:=b.toNat_lt
  simp only[Bool.and_eq_true,decide_eq_true_eq]
  omega
theorem Kw(bs:List UInt8):(bs.map fun b=>[Value.int .u8 (b.toNat:Int)]).flatten=bs.map fun b=>Value.int .u8 (b.toNat:Int):=by
 induction bs with
 |nil=>rfl
 |cons b bs ih=>simp[ih]
theorem G7(hT:gj P Γ.sj)(h:nU ρ N S H m a w)(hU:∀id,m.has id->U id)(hd:∀d,o.dst=some d->d<N)(hf:∀j,fresh<=j->j<r.2->¬U j){s d:TypeId}{x:Operand}(ho:o.op=.convert s d x)
 (hr:(oR Γ s fun tj=>oR Γ d fun ti=>dN x (evConv Γ fresh o tj ti)).run S H=some r):o.wp P a w (a0q ρ N U fresh S H m r) Q:=by
 replace hr:=fB hT hr
 obtain⟨tj,htj,hr⟩:=hr
 replace hr:=fB hT hr
 obtain⟨ti,hti,hr⟩:=hr
 have hsh:=hti.shape
 replace hr:=cU h hr
 obtain⟨v,h1,hr⟩:=hr
 have exec:∀z w',(convert s d (a.eval x)).run P w=.ok z w'->(execOp a.eval o).run P w=.ok (.value z) w':=by
  intro z w' hz
  simp only[execOp,ho,Sem.run_bind,hz,Result.andThen_ok,Sem.run_pure]
 unfold evConv at hr
 split at hr
 ·rename_i k k' y hty
  rw[hty]at hsh
  simp only[xW]at hsh
  obtain⟨ds,hds,_⟩:=htj.row
  obtain⟨e1,e2⟩:=eB h1
  exact cV h hU hd (exec _ _ (by rw[e1,run_convert_int hds hsh])) (dM (kK k y)) hr
 ·rename_i v hty
  rw[hty]at hsh
  simp only[xW]at hsh
  replace hr:=cE hr
  obtain⟨hsl,hr⟩:=hr
  have hsj:=htj.shape
  rw[th hsl]at hsj
  simp only[xW]at hsj
  replace hr:=fB hT hr
  obtain⟨te,hte,hr⟩:=hr
  replace hr:=cE hr
  obtain⟨hu8,hr⟩:=hr
  have hse:=hte.shape
  rw[P6 hu8]at hse
  simp only[xW]at hse
  replace hr:=HJ (by rfl) hr
  obtain⟨xd,hr,hdr⟩:=hr
  replace hr:=gV hr
  obtain⟨hb,hr⟩:=hr
  have hb:=Nat.le_of_ble_eq_true hb
  obtain⟨v',e,A,c,g1,g2,g3,g4,g5,us,⟨uss,g6,g6'⟩,g7⟩:=hdr h.heap h1
  cases e
  have hbs:us=(wu xd).map fun b=>Value.int .u8 (b.toNat:Int):=by rw[g6];exact ES g6'
  have hlen:(wu xd).length=List.length xd:=List.length_map ..
  refine cV h hU hd (v:=.string ⟨(wu xd).toArray⟩) (exec _ _ ?_) (vO (by rw[hlen];exact hb)) hr
  rw[g1]
  cases A with
  |none=>
   have hc:=g4 rfl
   have h0:List.length xd=0:=by omega
   have hx0:wu xd=[]:=List.eq_nil_of_length_eq_zero (by omega)
   rw[hx0]
   simp only[convert,Sem.run_bind,run_underlying hsj,run_underlying hsh,run_underlying hse,Result.andThen_ok,Conv.bytesToString,Sem.run_pure,h0]
   rfl
  |some p=>
   rw[<-hlen]
   refine run_convert_bytes_back w s d tj.el _ _ (wu xd) hsj hse hsh fun j hj=> ?_
   obtain⟨b,o',arr,e1,e2,e3⟩:=g7 (by omega)
   cases e1
   obtain⟨el,fr,hg⟩:=Bh e2
   rw[Addr.add_mid,cell_of_row w b _ _ el fr hg]
   refine e3 j _ ?_
   rw[hbs];simp[hj]
 ·rename_i bs hty
  replace hr:=rE hT hr
  obtain⟨te,hte,hsl,_,_,hr⟩:=hr
  rw[hsl]at hsh
  simp only[xW]at hsh
  replace hr:=cE hr
  obtain⟨hb,hr⟩:=hr
  simp only[Bool.and_eq_true]at hb
  have hsj:=htj.shape
  rw[FO hb.1]at hsj
  simp only[xW]at hsj
  have hse:=hte.shape
  rw[P6 hb.2]at hse
  simp only[xW]at hse
  obtain⟨e1,eY⟩:=qd h1
  have hsz:(ByteArray.mk bs.toArray).size=bs.length:=by simp[ByteArray.size]
  have hge:=grownCap_ge w bs.length 0 ti.el
  have hcm:=grownCap_le_maxLen w bs.length 0 ti.el (by unfold maxLen;omega)
  have hrun:=Lib.run_convert_string_bytes (P:=P) w s d ti.el ⟨bs.toArray⟩ hsj hsh hse
  rw[hsz,<-e1]at hrun
  have hnx:=mC hr
  have hn:=a2I hU (hf fresh (Nat.le_refl _) (by omega))
  have hnew:=Lib.bytesWorld_at_new w ti.el ⟨bs.toArray⟩
  have hold:=fun k hk=>Lib.bytesWorld_at_old w ti.el ⟨bs.toArray⟩ k hk
  obtain⟨n1,n2⟩:=h.heap.name hn (.slice (some ⟨w.heap.size,0,none⟩) bs.length (grownCap w bs.length 0 ti.el))
  obtain⟨m1,hm1⟩:∃m1:Mp,m1={m.set fresh none (some (.slice (some ⟨w.heap.size,0,none⟩) bs.length (grownCap w bs.length 0 ti.el)))with fz:=gW m.fz w.heap.size (some (Lib.bytesCells w ti.el ⟨bs.toArray⟩))}:=⟨_,rfl⟩
  have hfn:m.fz w.heap.size=none:=by
   cases hq:m.fz w.heap.size with
   |none=>rfl
   |some arr=>have:=h.heap.zA hq;omega
  have hle1:(m.set fresh none (some (.slice (some ⟨w.heap.size,0,none⟩) bs.length (grownCap w bs.length 0 ti.el)))).le m1:=by
   rw[hm1];exact⟨fun _ _ h=>h,fun _ _ h=>h,fun _ _ h=>h,xu hfn⟩
  have had:m1.ad=(m.set fresh none (some (.slice (some ⟨w.heap.size,0,none⟩) bs.length (grownCap w bs.length 0 ti.el)))).ad:=by rw[hm1]
  have hfz:∀b arr,m1.fz b=some arr->m.fz b=none->b=w.heap.size/\arr=Lib.bytesCells w ti.el ⟨bs.toArray⟩:=by
   intro b arr g1 g2
   rw[hm1]at g1
   by_cases e:b=w.heap.size
   ·subst e
    have:gW m.fz w.heap.size (some (Lib.bytesCells w ti.el ⟨bs.toArray⟩)) w.heap.size=some arr:=g1
    rw[bQ]at this;cases this;exact⟨rfl,rfl⟩
   ·have:gW m.fz w.heap.size (some (Lib.bytesCells w ti.el ⟨bs.toArray⟩)) b=some arr:=g1
    rw[a0h _ _ e,g2]at this;cases this
  have hwo:Wo w (Lib.bytesWorld w ti.el ⟨bs.toArray⟩):=by unfold Lib.bytesWorld World.freeze;split<;>exact⟨rfl,rfl,rfl,by first|exact Nat.le_refl _|exact Nat.le_succ _⟩
  have hrep:a0d ρ H m1 (Lib.bytesWorld w ti.el ⟨bs.toArray⟩):=by
   refine n2.step hle1 (h.heap.ff.grow hold hwo) (fun b arr g1 g2=> ?_) (fun b arr g1=>hold b (h.heap.zA g1)) (fun b g1 g2=> ?_) (fun i o1 hi=>(n2.fe i o1 hi).mono hle1 (fun e=>by rw[had];exact e) fun ho b hb=>hold b (n2.lt hi ho hb)) (fun i j o1 o2 b1 b2 hne hi hj q1 q2 hb1 hb2=> ?_) (fun i o1 b1 hi q1 hb1=> ?_) (fun i o1 b1 hi q1 hb1=> ?_)
   ·obtain⟨q1,q2⟩:=hfz b arr g1 g2
    subst q1 q2
    exact⟨_,_,hnew⟩
   ·cases hq:m1.fz b with
    |none=>exact absurd hq g1
    |some arr=>
     obtain⟨q1,q2⟩:=hfz b arr hq g2
     subst q1
     exact .inl h.heap.ff.size
   ·rw[had]at hb1 hb2;exact n2.inj i j o1 o2 b1 b2 hne hi hj q1 q2 hb1 hb2
   ·rw[had]at hb1;exact n2.off i o1 b1 hi q1 hb1
   ·rw[had]at hb1
    have hlt:=n2.lt hi q1 hb1
    have:=n2.vy i o1 b1 hi q1 hb1
    cases hq:m1.fz b1 with
    |none=>rfl
    |some arr=>have:=(hfz b1 arr hq this).1;omega
  refine iN h hd (exec _ _ hrun) (Mp.le_trans n1 hle1) (ws0:=[]) hrep jz ?_ (fun k hk=> ?_) hr
  ·simp only[den]
   rw[iY]
   refine⟨hle1.pl _ _ (bQ _ _ _),rfl,?_⟩
   refine⟨_,rfl,_,_,by rw[show List.length (ey bs)=bs.length from List.length_map ..],by rw[show List.length (ey bs)=bs.length from List.length_map ..];exact hge,⟨hcm,by show _*0<=_;omega⟩,(fun e=>by cases e),(fun p e=>by cases e;rfl),bs.map (fun b=>Value.int .u8 (b.toNat:Int)),⟨_,(Kw bs).symm,All2.mono (fun _ _ q=>DR.mono (fun _ _ e=>by cases e) q) (Oy bs)⟩,fun hp=>⟨w.heap.size,0,Lib.bytesCells w ti.el ⟨bs.toArray⟩,rfl,?_,fun j u hj=> ?_⟩⟩
   ·rw[hm1];exact bQ _ _ _
   ·have hcl:(Lib.bytesCells w ti.el ⟨bs.toArray⟩).toList=(bs.map fun b=>Value.int .u8 (b.toNat:Int))++List.replicate (grownCap w bs.length 0 ti.el-bs.length) (.int .u8 0):=by
     unfold Lib.bytesCells;rw[hsz];simp
    rw[<-Array.getElem?_toList,hcl,Nat.zero_add]
    rw[List.getElem?_append_left (List.getElem?_eq_some_iff.1 hj).1]
    exact hj
  ·have:(m.set fresh none (some (.slice (some ⟨w.heap.size,0,none⟩) bs.length (grownCap w bs.length 0 ti.el)))).has k:=by
    rcases hk with q|q|q
    ·exact .inl (by rwa[had]at q)
    ·exact .inr (.inl (by rw[hm1]at q;exact q))
    ·exact .inr (.inr (by rw[hm1]at q;exact q))
   rcases a3O this with q|q
   ·exact .inl (hU k q)
   ·exact .inr ⟨by omega,by omega⟩
 ·exact aA hr
theorem vI{kt:TypeId}{kd:IntKind}(hd:P.underlying kt=some (.int kd))(e:Bool)(n:Nat)(k:Value):(Instr.checkKey e (n+1) kt k).run P w=.ok () w:=by
 unfold Instr.checkKey
 simp only[Sem.run_bind,run_underlying hd,Result.andThen_ok]
 cases k<;>rfl
theorem E7{kd κ:IntKind}{x:Int}{k':HV}{e:MapEntry}{b:Bool}(h:den m k'=some e.key)(hc:cellEq (.i κ x) k'=some b):Instr.sameNow (.int kd) (.int κ x) e.key=some b:=by
 obtain⟨κ',y,rfl⟩:∃κ' y,k'=.i κ' y:=by
  cases k'<;>simp[cellEq]at hc
  exact⟨_,_,rfl⟩
 simp only[cellEq]at hc
 cases hs:nI κ κ'<;>rw[hs]at hc<;>(try cases hc)
 have:=iX hs
 subst this
 obtain⟨e1,_⟩:=eB h
 rw[e1];simp only[Instr.sameNow,aH];rw[show(x==y)=decide (x=y)from by rw[Bool.eq_iff_iff];simp];simp
theorem Bt{kd κ:IntKind}{x:Int}:∀{ents:List (HV×HV)} {es:List MapEntry} {i:Nat},All2 (I6 m) ents es->newKey (.i κ x) ents=some true->Instr.findNow (.int kd) (.int κ x) es i=some none
 |[],[],_,_,_=>rfl
 |(k',v')::ents,e::es,i,⟨⟨h1,h2⟩,h3⟩,hn=>by
  simp only[newKey]at hn
  split at hn
  ·rename_i b c hb hc
   simp only[Option.some.injEq,Bool.and_eq_true,Bool.not_eq_true']at hn
   obtain⟨e1,e2⟩:=hn
   subst e1 e2
   have:=E7 (kd:=kd) h1 hb
   simp[Instr.findNow,this,Bt h3 hc]
  ·cases hn
theorem zu{kd κ:IntKind}{x:Int}{none_:ST}{f:HV->ST}:∀{ents:List (HV×HV)} {es:List MapEntry} {i:Nat},All2 (I6 m) ents es->(findKey (.i κ x) none_ f ents).run S H=some r->
 (Instr.findNow (.int kd) (.int κ x) es i=some none/\none_.run S H=some r)∨∃v j val,Instr.findNow (.int kd) (.int κ x) es i=some (some (j,val))/\den m v=some val/\(f v).run S H=some r
 |[],[],_,_,hr=>.inl ⟨rfl,hr⟩
 |(k',v')::ents,e::es,i,⟨⟨h1,h2⟩,h3⟩,hr=>by
  simp only[findKey]at hr
  obtain⟨b,hb,hr⟩:=a07 hr
  have:=E7 (kd:=kd) h1 hb
  rcases vk hr with⟨e1,hr⟩|⟨e1,hr⟩
  ·subst e1
   exact .inr ⟨v',i,e.val,by simp[Instr.findNow,this],h2,hr⟩
  ·subst e1
   rcases zu (kd:=kd) (i:=i+1) h3 hr with⟨g1,g2⟩|⟨v,j,val,g1,g2,g3⟩
   ·exact .inl ⟨by simp[Instr.findNow,this,g1],g2⟩
   ·exact .inr ⟨v,j,val,by simp[Instr.findNow,this,g1],g2,g3⟩
theorem Kc{id:Nat}{x:Value}(h:den m (.mp id)=some x):∃b,m.ad id=some b/\x=.map (some b):=by
 simp only[den]at h
 split at h
 ·rename_i q hq;cases h;exact⟨q,hq,rfl⟩
 ·cases h
theorem P5{t:Ty}(h:KJ t=true):t=.mp:=by cases t<;>first|rfl|cases h
theorem V8{v:HV}(h:V6 v=true):∃k x,v=.i k x:=by cases v<;>first|exact⟨_,_,rfl⟩|cases h
theorem G9(h:nU ρ N S H m a w)(hU:∀id,m.has id->U id)(hd:∀d,o.dst=some d->d<N)(hf:∀j,fresh<=j->j<r.2->¬U j){t:TypeId}{x:Option Operand}(ho:o.op=.makeMap t x)
 (hr:(evMakeMap fresh o x).run S H=some r):o.wp P a w (a0q ρ N U fresh S H m r) Q:=by
 unfold evMakeMap at hr
 split at hr
 ·have hnx:=mC hr
  have hn:=a2I hU (hf fresh (Nat.le_refl _) (by omega))
  have had:(m.set fresh (some w.heap.size) none).ad fresh=some w.heap.size:=bQ _ _ _
  have hrep:a0d ρ (cw H [.ej fresh (some (.map []))]) (m.set fresh (some w.heap.size) none) (w.alloc (.map #[] 0)):=
   h.heap.new (uR hn) (w7 hn) (fun k hk=>Go.heap_alloc_old w _ k hk) (Nat.le_refl _) ⟨w.heap.size, #[],0,had,Go.heap_alloc_new w _,trivial⟩ ⟨rfl,rfl,rfl,by first|exact Nat.le_refl _|exact Nat.le_succ _⟩
  refine iN h hd (v:=.map (some w.heap.size)) ?_ (Mp.rK (uR hn) (w7 hn)) hrep (fQ _ _) (by simp only[den,had]) (rD hU (Nat.le_refl _) (Nat.lt_succ_self _)) hr
  simp[execOp,ho,Instr.makeMap,run_newObj]
 ·exact aA hr
theorem IS(hT:gj P Γ.sj)(h:nU ρ N S H m a w)(hU:∀id,m.has id->U id){t:TypeId}{x k v:Operand}(ho:o.op=.insert t x k v)
 (hr:(oR Γ t fun ti=>dN x fun m=>dN k fun k=>dN v fun v=>evInsert fresh o ti k v m).run S H=some r):o.wp P a w (a0q ρ N U fresh S H m r) Q:=by
 replace hr:=fB hT hr
 obtain⟨ti,hti,hr⟩:=hr
 replace hr:=cU h hr
 obtain⟨mv,h1,hr⟩:=hr
 replace hr:=cU h hr
 obtain⟨kv,h2,hr⟩:=hr
 replace hr:=cU h hr
 obtain⟨vv,h3,hr⟩:=hr
 unfold evInsert at hr
 split at hr
 ·rename_i id
  cases hb:(V6 kv&&KJ ti.ty)
  ·rw[hb]at hr;exact aA hr
  ·rw[hb]at hr
   simp only[Bool.not_true,cond_false]at hr
   simp only[Bool.and_eq_true]at hb
   obtain⟨κ,y,rfl⟩:=V8 hb.1
   have hsh:=hti.shape
   rw[P5 hb.2]at hsh
   obtain⟨kt,kd,hu,hk⟩:=hsh
   replace hr:=dR hr
   obtain⟨ob,hob,hr⟩:=hr
   split at hr
   ·rename_i ents
    replace hr:=a07 hr
    obtain⟨bb,hnk,hr⟩:=hr
    replace hr:=gV hr
    obtain⟨hbb,hr⟩:=hr
    subst hbb
    obtain⟨b,es,clock,q1,q2,q3⟩:=h.heap.fe id _ hob
    obtain⟨b',e1,e2⟩:=Kc h1
    rw[q1]at e1;cases e1
    obtain⟨e3,_⟩:=eB h2
    have hfn:=Bt (kd:=kd) (i:=0) q3 hnk
    have hset:=MapKept.heap_set (o':=.map (es.push {key:=a.eval k,val:=a.eval v,born:=clock}) (clock+1)) q2
    have hrun:(Instr.mapUpdate t (a.eval x) (a.eval k) (a.eval v)).run P w=.ok () {w with heap:=w.heap.setIfInBounds b (.map (es.push {key:=a.eval k,val:=a.eval v,born:=clock}) (clock+1))}:=by
     rw[e2]
     have hck:=vI (w:=w) hk false 9999 (a.eval k)
     rw[e3]at hck⊢
     simp only[Instr.mapUpdate,Sem.run_bind,run_underlying hu,Result.andThen_ok,MapKept.run_getObj_map q2,hck,MapKept.run_findKey hk hfn,MapKept.run_setObj_map _ q2]
    have hrep:a0d ρ (cw H [.ej id (some (.map (ents++[(.i κ y,vv)])))]) m {w with heap:=w.heap.setIfInBounds b (.map (es.push {key:=a.eval k,val:=a.eval v,born:=clock}) (clock+1))}:=by
     refine h.heap.xU hob rfl q1 (fun j hj=>hset.2 j hj) (by simp) ⟨b,_,_,q1,hset.1,?_⟩ ⟨rfl,rfl,rfl,by first|exact Nat.le_refl _|exact Nat.le_succ _⟩
     rw[Array.toList_push]
     exact q3.append ⟨⟨h2,h3⟩,trivial⟩
    refine a4t h (Mp.le_refl m) hU ?_ hrep (fQ _ _) hr
    simp only[execOp,ho,Sem.run_bind,hrun,Result.andThen_ok,Sem.run_pure]
   ·exact aA hr
 ·exact aA hr
theorem IT(hT:gj P Γ.sj)(h:nU ρ N S H m a w)(hU:∀id,m.has id->U id)(hd:∀d,o.dst=some d->d<N){t:TypeId}{x i:Operand}{ok:Bool}(ho:o.op=.lookup t x i ok)
 (hr:(oR Γ t fun ti=>dN x fun v=>dN i fun u=>zq Γ fresh o ti u ok v).run S H=some r):o.wp P a w (a0q ρ N U fresh S H m r) Q:=by
 replace hr:=fB hT hr
 obtain⟨ti,hti,hr⟩:=hr
 replace hr:=cU h hr
 obtain⟨mv,h1,hr⟩:=hr
 replace hr:=cU h hr
 obtain⟨kv,h2,hr⟩:=hr
 unfold zq at hr
 split at hr
 ·rename_i id
  cases hb:(V6 kv&&KJ ti.ty)
  ·rw[hb]at hr;exact aA hr
  ·rw[hb]at hr
   simp only[Bool.not_true,cond_false]at hr
   simp only[Bool.and_eq_true]at hb
   obtain⟨κ,y,rfl⟩:=V8 hb.1
   have hsh:=hti.shape
   rw[P5 hb.2]at hsh
   obtain⟨kt,kd,hu,hk⟩:=hsh
   replace hr:=dR hr
   obtain⟨ob,hob,hr⟩:=hr
   split at hr
   ·rename_i ents
    obtain⟨b,es,clock,q1,q2,q3⟩:=h.heap.fe id _ hob
    obtain⟨b',e1,e2⟩:=Kc h1
    rw[q1]at e1;cases e1
    obtain⟨e3,_⟩:=eB h2
    have hck:=fun e=>vI (w:=w) hk e 9999 (a.eval i)
    rcases zu (kd:=kd) (i:=0) q3 hr with⟨z1,hr⟩|⟨v,j,val,z1,z2,hr⟩
    ·rw[<-e3]at z1
     replace hr:=fB hT hr
     obtain⟨te,hte,hr⟩:=hr
     replace hr:=a07 hr
     obtain⟨z,hz,hr⟩:=hr
     have hzd:=qO hz (a2G (m:=m) te.ty) (mq te.ty)
     obtain⟨it,g1,g2,_,_⟩:=hte.parts
     refine cV h hU hd (v:=if ok then .tuple #[pk te.ty (zc te.ty),.bool false]else pk te.ty (zc te.ty)) ?_ ?_ hr
     ·simp only[execOp,ho,e2,Instr.lookup,Sem.run_bind,run_underlying hu,Result.andThen_ok,MapKept.run_getObj_map q2,hck,MapKept.run_findKey hk z1,Sem.run_pure,zeroValue,typeInfo,run_program,g1,g2]
     ·cases ok
      ·exact hzd
      ·have:=cM hzd (cM (show den m (.b false)=some (.bool false)from rfl) (show denL m []=some []from rfl))
       simp only[cond_true,if_true,den,this]
    ·rw[<-e3]at z1
     refine cV h hU hd (v:=if ok then .tuple #[val,.bool true]else val) ?_ ?_ hr
     ·simp only[execOp,ho,e2,Instr.lookup,Sem.run_bind,run_underlying hu,Result.andThen_ok,MapKept.run_getObj_map q2,hck,MapKept.run_findKey hk z1,Sem.run_pure]
     ·cases ok
      ·exact z2
      ·have:=cM z2 (cM (show den m (.b true)=some (.bool true)from rfl) (show denL m []=some []from rfl))
       simp only[cond_true,if_true,den,this]
   ·exact aA hr
 ·exact aA hr
end
def nT(P:Program)(ρ:En)(cl:a2D):Prop:=∀{f:Nat} {args:List HV} {n:Nat} {K:HV->List Wr->Nat->ST} {S:Sl} {H:Hp} {r:Ws},(cl f args n K).run S H=some r->
 ∃jm ws nx,(K jm ws nx).run S H=some r/\n<=nx/\oa ws/\(∃fb,P.funcs[f]?=some fb/\fb.body.isNone=false/\(fb.name== "runtime.NumGoroutine")=false)/\
  ∀(m:Mp) (w:World) (U:Nat->Prop) (vals:List Value),a0d ρ H m w->(∀id,m.has id->U id)->(∀j,n<=j->j<nx->¬U j)->denL m args=some vals->
   Calls P f vals.toArray w fun e w'=>∃m' v,e=.returned v/\m.le m'/\den m' jm=some v/\a0d ρ (cw H ws) m' w'/\∀id,m'.has id->U id∨(n<=id/\id<nx)
section
variable {P:Program}{Γ:Ctx}{ρ:En}{N:Nat}{S:Sl}{H:Hp}{m:Mp}{a:Act}{w:World}{o:Oper}{U:Nat->Prop}{fresh:Nat}{r:Ws}{Q:Exit->Act->World->Prop}{cl:a2D}
theorem O6(hcl:nT P ρ cl)(h:nU ρ N S H m a w)(hU:∀id,m.has id->U id)(hd:∀d,o.dst=some d->d<N)(hf:∀j,fresh<=j->j<r.2->¬U j){c:Call}(ho:o.op=.call c){x:Operand}(hc:c.callee=.value x)
 (hr:(dN x (evCall cl fresh o c.args)).run S H=some r):o.wp P a w (a0q ρ N U fresh S H m r) Q:=by
 replace hr:=cU h hr
 obtain⟨v,h1,hr⟩:=hr
 unfold evCall at hr
 split at hr
 ·rename_i f fs cs
  replace hr:=w9 h hr
  obtain⟨vs,h2,hr⟩:=hr
  simp only[den]at h1
  split at h1<;>(try cases h1)
  rename_i as bs hfs hcs
  simp only[Option.some.injEq]at h1
  obtain⟨jm,ws,nx,g1,g2,g3,⟨fb,hb1,hb2,hb3⟩,g4⟩:=hcl hr
  have hnx:=mC g1
  have hargs:denL m (fs++vs++cs)=some (as++c.args.toList.map a.eval++bs):=iH (iH hfs h2) hcs
  have hcall:=g4 m w U _ h.heap hU (fun j h1 h2=>hf j h1 (by omega)) hargs
  have hb4:¬fb.body=none:=fun e=>by rw[e]at hb2;cases hb2
  have hb5:¬fb.name= "runtime.NumGoroutine" :=by simpa using hb3
  have hb6:as.toArray++Array.map a.eval c.args++bs.toArray=(as++List.map a.eval c.args.toList++bs).toArray:=by apply Array.ext';simp
  have hexec:(execOp a.eval o).run P w=.ok (.enter f (as++List.map a.eval c.args.toList++bs).toArray) w:=by
   rw[<-hb6]
   simp[execOp,ho,resolve,hc,<-h1,Deferred.ofValue,invoke,callFunc,hb1,hb4,hb5]
  unfold Oper.wp
  rw[hexec,Oper.upon_enter]
  refine hcall.mono fun e w' ⟨m',v,e1,e2,e3,e4,e5⟩=> ?_
  subst e1
  exact wN h hd e2 e4 g3 e3 e5 g1
 ·exact aA hr
theorem B9(hT:gj P Γ.sj)(hcl:nT P ρ cl)(h:nU ρ N S H m a w)(hU:∀id,m.has id->U id)(hd:∀d,o.dst=some d->d<N)(hf:∀j,fresh<=j->j<r.2->¬U j)
 (hr:(wW Γ cl fresh o).run S H=some r):o.wp P a w (a0q ρ N U fresh S H m r) Q:=by
 unfold wW at hr
 cases ho:o.op<;>rw[ho]at hr<;>simp only at hr
 case move x=>exact HE h hU hd (.inl ho) hr
 case assign x=>exact HE h hU hd (.inr ho) hr
 case pick c x y=>exact O9 h hU hd ho hr
 case alloc e=>exact Lu hT h hU hd hf ho hr
 case box e x=>exact T3 hT h hU hd hf ho hr
 case build t ps=>exact Lw hT h hU hd ho hr
 case buildSlice t n ps=>exact AP hT h hU hd hf ho hr
 case makeMap t x=>exact G9 h hU hd hf ho hr
 case insert t x k v=>exact IS hT h hU ho hr
 case lookup t x i ok=>exact IT hT h hU hd ho hr
 case load t x=>exact O8 hT h hU hd hf ho hr
 case store t x y=>exact LB hT h hU ho hr
 case nilCheck x=>exact Eo h hU hd ho hr
 case binOp op t x y yt=>exact Lv hT h hU hd ho hr
 case unOp op t x=>exact Oa h hU hd ho hr
 case convert s d x=>exact G7 hT h hU hd hf ho hr
 case makeFunc fn fs cs=>exact Em h hU hd ho hr
 case makeSlice t x y=>exact CB hT h hU hd hf ho hr
 case slice t x lo hi mx=>exact LA hT h hU hd hf ho hr
 case fieldAddr t x f=>exact Cz hT h hU hd ho hr
 case field t x f=>exact Ly hT h hU hd ho hr
 case indexAddr t x i=>exact CA hT h hU hd hf ho hr
 case index t x i=>exact a4K hT h hU hd ho hr
 case extract x i=>exact G8 h hU hd ho hr
 case call c=>
  have harr:∀l,c.args.toList=l->c.args=l.toArray:=fun l e=>by apply Array.toList_inj.1;simpa using e
  unfold DK at hr
  cases hc:c.callee<;>rw[hc]at hr<;>simp only at hr
  case value x=>exact O6 hcl h hU hd hf ho hc hr
  case invoke x name=>exact aA hr
  case builtin b=>
   unfold builtinR at hr
   split at hr
   ·rename_i x t hx hty
    exact Lx hT h hU hd ho hc (harr _ hx) hty hr
   ·rename_i x t hx hty
    exact T4 hT h hU hd ho hc (harr _ hx) hty hr
   ·rename_i x y hx
    exact T6 h hU hd ho hc (harr _ hx) hr
   ·rename_i x y hx
    exact a56 h hU hd ho hc (harr _ hx) hr
   ·rename_i x y tx ty hx hty
    exact IQ hT h hU hd hf ho hc (harr _ hx) hty hr
   ·exact aA hr
 all_goals exact aA hr
end
end Go.Proofs.YtehbbcdhahnkgaaGreat.Vm
