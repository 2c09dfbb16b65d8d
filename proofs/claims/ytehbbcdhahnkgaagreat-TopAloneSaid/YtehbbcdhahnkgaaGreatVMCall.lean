/- The value machine and the machine: loops that are noted, code. The value machine and the machine: functions. The value machine and the machine: contracts, calls, functions of data. The value machine: the tables of types and functions, checked. -/
import Derived.Test.YtehbbcdhahnkgaaGreatVMReg
set_option linter.all false
set_option maxRecDepth 100000
set_option maxHeartbeats 0
namespace Go.Proofs.YtehbbcdhahnkgaaGreat.Vm
open Go
section
variable {P:Program}{Γ:vC}{ρ:En}{B:Bs}{cl:a2D}{S0:Sl}{fn:Nat}
theorem sL{G G':GS}(h:G.bk.get=G'.bk.get):∀l:SL,boxesOf G l=boxesOf G' l
 |[]=>rfl
 |p::l=>by
  have:xX G p.1 p.2=xX G' p.1 p.2:=by
   cases p.2 with
   |d t=>rfl
   |box e t=>simp only[xX,A7,h]
  simp only[boxesOf,this,sL h l]
theorem lE.congr{G G':GS}{a:Act}{w:World}(h:lE ρ B G a w)(hs:G'.sg B.H0=G.sg B.H0)(hn:G'.next=G.next):lE ρ B G' a w:=by
 obtain⟨f,⟨m,m1,m2,m3⟩,low⟩:=h
 have e1:G'.bk.get=G.bk.get:=congrArg Sg.S hs
 have e2:G'.da B.H0=G.da B.H0:=congrArg Sg.H hs
 exact⟨f,⟨m,m1,by rw[e1,e2];exact m2,by rw[hn];exact m3⟩,by rw[hn];exact low⟩
theorem Ie{G1:GS}{ls bs:List Nat}{room:Nat}{m0:Mp}(hc:Lc B G1 ls bs room m0){s:SL}{ids:List Nat}{x:(pN s).den}{a:Act}{w:World}{F:Fz}(h:LI ρ B G1 ls bs m0 s ids x a w F)(htop:G1.next+room+(pN s).lists<=B.mj):
 lE ρ B (dK G1 ls bs room s x) a w:=by
 obtain⟨m',f1,f2,f3,_⟩:=C2 hc h (by omega)
 refine⟨h.fr,⟨m',Mp.le_trans hc.mb (Mp.le_trans (Mp.uO h.eY) f1),f2,fun id hi=> ?_⟩,?_⟩
 ·show B.U id∨(B.n0<=id/\id<G1.next+room+(pN s).lists)
  have:=hc.low
  rcases f3 id hi with p|p
  ·rcases hc.dom id p with q|q
   ·exact .inl q
   ·exact .inr ⟨q.1,by omega⟩
  ·exact .inr ⟨by omega,by omega⟩
 ·show B.n0<=G1.next+room+(pN s).lists
  have:=hc.low;omega
theorem IB{X Y:Type}{k:Nat}{f:X->Option (X⊕Y)}{x:X}:iter k f 0 x=none:=rfl
theorem IA{X Y:Type}{k n:Nat}{f:X->Option (X⊕Y)}{x:X}{y:Y}(h:iter k f (n+1) x=some y):(∃x',f x=some (.inl x')/\iter k f n x'=some y)∨f x=some (.inr y):=by
 have h': @Option.rec (X⊕Y) (fun _=>Option Y) none (fun r=>@Sum.rec X Y (fun _=>Option Y) (iter k f n) some r) (f x)=some y:=h
 cases hf:f x with
 |none=>rw[hf]at h';cases h'
 |some r=>
  rw[hf]at h'
  cases r with
  |inl x'=>exact .inl ⟨x',rfl,h'⟩
  |inr y'=>
   have:some y'=some y:=h'
   cases this;exact .inr rfl
theorem Lb{c:Code}(hB:BI B)(hfr:∀k,B.Fr k->k∉asg c)(hdst:codeDst B.N c=true)
 (hc:∀{B':Bs} {Q:Exit->Act->World->Prop} {G:GS} {a:Act} {w:World} {e:XE} {G':GS},BI B'->codeDst B'.N c=true->(∀d∈asg c,¬B'.Fr d)->lE ρ B' G a w->
   (codeRT Γ cl fn c G fun e G=>.dH (e,G)).run S0 B'.H0=some (e,G')->G'.next<=B'.mj->(∀a w,lE ρ B' G' a w->Q e.out a w)->c.wp P Q a w)
 {L:Nat} {an:Jh} {Q:Exit->Act->World->Prop} {G:GS} {a:Act} {w:World} {e:XE} {G':GS} (h:lE ρ B G a w)
 (hr:(zO L an (asg c) (codeRT Γ cl fn c) (fun e G=>.dH (e,G)) G).run S0 B.H0=some (e,G')) (htop:G'.next<=B.mj) (hQ:∀a w,lE ρ B G' a w->Q e.out a w):(Code.loop c).wp P Q a w:=by
 unfold zO at hr
 obtain⟨G1,hr,s1,n1,_⟩:=tO hr
 have h1:=h.congr s1 n1
 obtain⟨p,rd,G2,s2,n2,hr,_,r5,_,_⟩:=ql hr
 obtain⟨bs,hbs,hr⟩:=a07 hr
 obtain⟨hnd,hr⟩:=cE hr
 have hnd:=xj hnd
 obtain⟨y,hy,hr⟩:=run_bind hr
 have hrun:(U3 an.uN fun x ws=>RT.dH (x,ws)).run G1.bk.get (G1.da B.H0)=some p:=r5 (G1.sg B.H0) (fun l _=>by rcases l with⟨_|_,n⟩<;>rfl)
 have es:G2.bk.get=G1.bk.get:=congrArg Sg.S s2
 have eo:G2.da B.H0=G1.da B.H0:=congrArg Sg.H s2
 obtain⟨q1,q2,q3⟩:=nL B.H0 p.2 G2
 obtain⟨f0,⟨m,m1,m2,m3⟩,low⟩:=h1
 obtain⟨p1,p2⟩:=p
 have hb1:boxesOf G1 an.uN=some bs:=by rw[<-sL es];exact hbs
 obtain⟨x,ws,k1,k2,k3⟩:=CH hb1 hrun
 have hpe:=bR k1
 simp only[Prod.mk.injEq]at hpe
 obtain⟨e1,e2⟩:=hpe
 subst e1 e2
 obtain⟨mx,Gd,Gp,g1,g2,g3⟩:=k3 (.start m2.heap) rfl m2.bk
 have hrs:RS ρ (G1.da B.H0) m w p2 mx:=by simpa using g1.rs
 have hgk:mu ρ (cw (G1.da B.H0) p2) mx Gd:=by simpa using g1.AH
 have hsl:(G2.app p2).bk.get=G1.bk.get:=by rw[q2,gO hrs.FN.ej,es]
 have hbs:boxesOf (G2.app p2) an.uN=some bs:=by rw[sL hsl];exact hb1
 have hov:(G2.app p2).da B.H0=cw (G1.da B.H0) p2:=by rw[q1,eo]
 have hnx:(G2.app p2).next=G1.next:=q3.trans n2
 obtain⟨Gx,hGx⟩:∃Gx,Gx=G2.app p2:=⟨_,rfl⟩
 have hr:(leave (G2.app p2) (asg c) bs an.room (fun e G=>RT.dH (e,G)) an.tJ y).run S0 B.H0=some (e,G'):=hr
 have hy:iter (1000*an.fn+an.key) (fun x=>(codeRT Γ cl fn c (enter (G2.app p2) (asg c) bs an.uN x) (FW an (G2.app p2) bs)).out) L p1=some y:=hy
 rw[<-hGx]at hr hy hov hnx hsl hbs
 have htop2:Gx.next+an.room<=B.mj:=by
  obtain⟨e',s',x',hl⟩:=xe hr
  have:=bR hl;cases this
  have:Gx.next+an.room+(pN s').lists<=B.mj:=htop
  omega
 have hcl:∀id∈bs,∃b,m.ad id=some b:=fun id hi=>by
  obtain⟨e',cs,h2⟩:=k2 id hi
  obtain⟨b,_,h3,_⟩:=yX m2.heap h2
  exact⟨b,h3⟩
 have hLc:Lc B Gx (asg c) bs an.room mx:=⟨hB,by rw[hnx];exact low,Mp.le_trans m1 hrs.le,fun id hi=>by
  rw[hnx]
  refine m3 id ?_
  rcases hi with q|q|q
  ·exact .inl (by rwa[hrs.ad]at q)
  ·exact .inr (.inl (by rwa[hrs.pl]at q))
  ·exact .inr (.inr (by rwa[hrs.px]at q)),htop2,fun id hi=>by
  obtain⟨b,hb⟩:=hcl id hi
  exact⟨b,hrs.le.ad _ _ hb⟩,hfr⟩
 have hboxws:∀id∈bs,cw (G1.da B.H0) p2 id=G1.da B.H0 id:=fun id hi=>BP fun z hz ez=>by
  obtain⟨i,o,d,w1,w2,w3⟩:=hrs.FN z hz
  have:i=id:=by rcases w3 with e|e<;>(rw[e]at ez;exact ez)
  subst this
  obtain⟨e',cs,h2⟩:=k2 i hi
  rw[h2]at w1;cases w1;cases w2
 have hLI:LI ρ B Gx (asg c) bs mx an.uN bs p1 a w mx.fz:=by
  refine⟨Fz.le_refl _,?_,fun k v hk=> ?_,f0,m2.defers,m2.size,hbs,fun id hi=>hi,Gp,I8.mono (Fz.le_refl _) (fun id b _ hb=>hrs.le.ad _ _ hb) g2,?_⟩
  ·rw[hov];exact hrs.rep.pB
  ·obtain⟨_,hk⟩:=wT hk
   rw[hsl]at hk
   exact fO hrs.le (m2.bk k v hk)
  ·have hG:=Bi (Hk:=cw (Gx.da B.H0) (pB bs)) (mk:=mx.on mx.fz) (ids:=bs) hrs.rep hgk hnd (fun id hi=>by
    obtain⟨e',cs,h2⟩:=k2 id hi
    exact⟨e',cs,by rw[hboxws id hi];exact h2⟩) (fun i o hi=>by
    rw[a3U,hov]at hi
    split at hi
    ·cases hi
    ·rename_i hnb;exact⟨hi,hnb⟩) (fun i b hb=>hb) rfl
   rw[hrs.ad]at hG
   exact hG.W5 g3
 refine wp_loop_ghost (fun n a w=>∃x ids F,LI ρ B Gx (asg c) bs mx an.uN ids x a w F/\iter (1000*an.fn+an.key) (fun x=>(codeRT Γ cl fn c (enter Gx (asg c) bs an.uN x) (FW an Gx bs)).out) n x=some y) L ⟨p1,bs,mx.fz,hLI,hy⟩ ?_
 rintro n a w ⟨x,ids,F,hL,hit⟩
 cases n with
 |zero=>rw[IB]at hit;cases hit
 |succ n=>
  have body:∀jm,(codeRT Γ cl fn c (enter Gx (asg c) bs an.uN x) (FW an Gx bs)).out=some jm->(∀x',jm=.inl x'->iter (1000*an.fn+an.key) (fun x=>(codeRT Γ cl fn c (enter Gx (asg c) bs an.uN x) (FW an Gx bs)).out) n x'=some y)->(∀y',jm=.inr y'->y'=y)->
   c.wp P (Exit.then (fun a' w'=>∃n',n'<n+1/\∃x ids F,LI ρ B Gx (asg c) bs mx an.uN ids x a' w' F/\iter (1000*an.fn+an.key) (fun x=>(codeRT Γ cl fn c (enter Gx (asg c) bs an.uN x) (FW an Gx bs)).out) n' x=some y) Q) a w:=by
   intro jm hres hl hrr
   have hres:=CC (S:=S0) (H:=(iu Gx (asg c) bs an.uN x).da B.H0) hres
   obtain⟨e1,Ge,h1,h2⟩:=eO hres
   obtain⟨u1,u2⟩:=l5 c h1
   unfold FW at h2
   obtain⟨hb,h2⟩:=cE h2
   simp only[Bool.and_eq_true]at hb
   have hble:=Nat.le_of_ble_eq_true hb.2
   have hlists:Gx.next+(pN an.uN).lists<=Gx.next+an.room:=Nat.le_trans u1 hble
   obtain⟨st,ca⟩:=Kl hLc hL hlists
   have ca:=u2 ca
   refine hc (B':=B.round Gx (asg c) an.room mx F ((iu Gx (asg c) bs an.uN x).da B.H0) a) (M0 (bs:=bs) hLc) hdst (fun d hd hn=>hn hd) st h1 hble fun a' w' st'=> ?_
   have hend:∀{α:Type} {s:SL} {k:(pN s).den->RT α} {r:α},(Fs Gx bs (Gx.next+an.room) s Ge k).run S0 ((iu Gx (asg c) bs an.uN x).da B.H0)=some r->∃x2 ids F',(k x2).run S0 ((iu Gx (asg c) bs an.uN x).da B.H0)=some r/\LI ρ B Gx (asg c) bs mx s ids x2 a' w' F':=
    fun hr=>N5 hLc hL hlists st' ca hb.1 hr
   have out:∀e1:XE,(pickX Gx bs (Gx.next+an.room) Ge an.tJ e1 fun y=>RT.dH (.inr y:(pN an.uN).den⊕uJ an.tJ)).run S0 ((iu Gx (asg c) bs an.uN x).da B.H0)=some jm->Q e1.out a' w':=by
    intro e1 h2
    obtain⟨y2,s2,ids2,x2,F2,z1,z2,z3⟩:=A6 (room:=an.room) (ls:=asg c) hend h2
    have z1:=bR z1
    have:=hrr y2 z1
    subst this
    have z4:=z3 (fun e G=>.dH (e,G)) S0 B.H0
    rw[hr]at z4
    have z4:some (e,G')=some (e1,dK Gx (asg c) bs an.room s2 x2):=z4
    cases z4
    exact hQ a' w' (Ie hLc z2 htop)
   cases e1 with
   |normal=>
    obtain⟨x2,ids2,F2,z1,z2⟩:=hend (s:=an.uN) (k:=fun x=>RT.dH (Sum.inl x:(pN an.uN).den⊕uJ an.tJ)) h2
    have z1:=bR z1
    exact⟨n,Nat.lt_succ_self n,x2,ids2,F2,z2,hl x2 z1⟩
   |exit i=>exact out (.exit i) h2
   |ret=>exact out .ret h2
  rcases IA hit with⟨x',h1,h2⟩|h1
  ·exact body _ h1 (fun x2 e=>by cases e;exact h2) (fun y2 e=>by cases e)
  ·exact body _ h1 (fun x2 e=>by cases e) (fun y2 e=>by cases e;rfl)
theorem Dz{v:Value}{b:Bool}(h:constC v=some (.b b)):v=.bool b:=by
 unfold constC at h
 split at h
 ·cases h;rfl
 ·rename_i k n;cases hf:(decide (k.min<=n)&&decide (n<=k.max))<;>rw[hf]at h<;>cases h
 ·rename_i s;cases hf:Nat.ble s.data.toList.length 9223372036854775807<;>rw[hf]at h<;>cases h
 all_goals cases h
theorem a43{G:GS}{n:Nat}{b:Bool}{a:Act}{w:World}(h:lE ρ B G a w)(hn:G.bk.get n=some (.b b)):lE ρ B (G.refine n b) a w:=by
 obtain⟨q1,q2⟩:=xp hn B.H0
 exact h.congr q1 q2
theorem DF{ops:List Oper}{o:Oper}{d:Nat}(ho:o∈ops)(hd:o.dst=some d):d∈PX ops:=by
 unfold PX
 exact List.mem_filterMap.2 ⟨o,ho,hd⟩
set_option maxHeartbeats 1000000 in
theorem Ij(hm:P.follows .mixedOrders=true)(hT:gj P Γ.sj)(hcl:nT P ρ cl):∀(c:Code) {B:Bs} {Q:Exit->Act->World->Prop} {G:GS} {a:Act} {w:World} {e:XE} {G':GS},BI B->codeDst B.N c=true->(∀d∈asg c,¬B.Fr d)->lE ρ B G a w->
 (codeRT Γ cl fn c G fun e G=>.dH (e,G)).run S0 B.H0=some (e,G')->G'.next<=B.mj->(∀a w,lE ρ B G' a w->Q e.out a w)->c.wp P Q a w:=by
 intro c
 induction c with
 |skip=>intro B Q G a w e G' hB hd hfr h hr htop hQ;have:=bR (show(RT.dH (XE.normal,G):RT (XE×GS)).run S0 B.H0=some (e,G')from hr);cases this;exact wp_skip (hQ a w h)
 |ret=>intro B Q G a w e G' hB hd hfr h hr htop hQ;have:=bR (show(RT.dH (XE.ret,G):RT (XE×GS)).run S0 B.H0=some (e,G')from hr);cases this;exact wp_ret (hQ a w h)
 |exit id=>intro B Q G a w e G' hB hd hfr h hr htop hQ;have:=bR (show(RT.dH (XE.exit id,G):RT (XE×GS)).run S0 B.H0=some (e,G')from hr);cases this;exact wp_exit (hQ a w h)
 |region id ops draw=>
  intro B Q G a w e G' hB hd hfr h hr htop hQ
  have hfr':∀o∈ops.toList,∀d,o.dst=some d->¬B.Fr d:=fun o ho d hd=>hfr d (DF ho hd)
  cases draw with
  |true=>
   have hr:(regD Γ cl ops.toList ops.toList [] G fun G=>.dH (XE.normal,G)).run S0 B.H0=some (e,G'):=hr
   rw[uo]at hr
   cases hq:(regD Γ cl ops.toList ops.toList [] G fun G=>.dH G).run S0 B.H0 with
   |none=>rw[hq]at hr;cases hr
   |some G2=>
    rw[hq]at hr
    have hr:some (XE.normal,G2)=some (e,G'):=hr
    cases hr
    exact wp_region_any hm (HN hT hcl hB hd hfr' htop hQ (DE h) hq)
  |false=>
   have hr:(tT Γ.toCtx cl ops.toList ops.toList G fun G=>.dH (XE.normal,G)).run S0 B.H0=some (e,G'):=hr
   rw[uq]at hr
   cases hq:(tT Γ.toCtx cl ops.toList ops.toList G fun G=>.dH G).run S0 B.H0 with
   |none=>rw[hq]at hr;cases hr
   |some G2=>
    rw[hq]at hr
    have hr:some (XE.normal,G2)=some (e,G'):=hr
    cases hr
    refine wp_region ?_
    have:=CK (Q:=Q) hT hcl hB hd hfr' htop hQ (i:=0) (l:=ops.toList) rfl h hq
    rw[List.range_eq_range']
    simpa using this
 |seq x y ihx ihy=>
  intro B Q G a w e G' hB hd hfr h hr htop hQ
  simp only[codeDst,Bool.and_eq_true]at hd
  have hfx:∀d∈asg x,¬B.Fr d:=fun d hd=>hfr d (by simp[asg,hd])
  have hfy:∀d∈asg y,¬B.Fr d:=fun d hd=>hfr d (by simp[asg,hd])
  obtain⟨e1,G1,h1,h2⟩:=eO (show(codeRT Γ cl fn x G (yf (fun e G=>.dH (e,G)) (codeRT Γ cl fn y))).run S0 B.H0=some (e,G')from hr)
  refine wp_seq ?_
  cases e1 with
  |normal=>
   obtain⟨u1,_⟩:=l5 y h2
   exact ihx hB hd.1 hfx h h1 (by omega) fun a w h=>ihy hB hd.2 hfy h h2 htop hQ
  |exit i=>have:=bR h2;cases this;exact ihx hB hd.1 hfx h h1 htop hQ
  |ret=>have:=bR h2;cases this;exact ihx hB hd.1 hfx h h1 htop hQ
 |cond c x y ihx ihy=>
  intro B Q G a w e G' hB hd hfr h hr htop hQ
  simp only[codeDst,Bool.and_eq_true]at hd
  have hfx:∀d∈asg x,¬B.Fr d:=fun d hd=>hfr d (by simp[asg,hd])
  have hfy:∀d∈asg y,¬B.Fr d:=fun d hd=>hfr d (by simp[asg,hd])
  have hr':(condR (codeRT Γ cl fn x) (codeRT Γ cl fn y) G (fun e G=>.dH (e,G)) c).run S0 B.H0=some (e,G'):=hr
  unfold condR at hr'
  split at hr'
  ·rename_i n
   unfold condV at hr'
   split at hr'
   ·rename_i t ht
    obtain⟨_,⟨m,m1,m2,m3⟩,low⟩:=id h
    have hv:=m2.bk n _ ht
    simp only[den,Option.some.injEq]at hv
    rcases vk hr' with⟨ht',hr'⟩|⟨ht',hr'⟩
    ·subst ht'
     exact wp_cond_true hv.symm (ihx hB hd.1 hfx (a43 h ht) hr' htop hQ)
    ·subst ht'
     exact wp_cond_false hv.symm (ihy hB hd.2 hfy (a43 h ht) hr' htop hQ)
   ·exact aA hr'
  ·rename_i v
   split at hr'
   ·rename_i t ht
    have hv:=Dz ht
    subst hv
    cases t with
    |true=>exact wp_cond_true rfl (ihx hB hd.1 hfx h hr' htop hQ)
    |false=>exact wp_cond_false rfl (ihy hB hd.2 hfy h hr' htop hQ)
   ·exact aA hr'
  ·exact aA hr'
 |block id c ih=>
  intro B Q G a w e G' hB hd hfr h hr htop hQ
  obtain⟨e1,G1,h1,h2⟩:=eO (show(codeRT Γ cl fn c G (nV id fun e G=>.dH (e,G))).run S0 B.H0=some (e,G')from hr)
  refine wp_block ?_
  cases e1 with
  |normal=>have:=bR h2;cases this;exact ih hB hd hfr h h1 htop fun a w h=>hQ a w h
  |ret=>have:=bR h2;cases this;exact ih hB hd hfr h h1 htop fun a w h=>hQ a w h
  |exit j=>
   simp only[nV]at h2
   cases hb:Nat.beq j id with
   |true=>
    rw[hb]at h2
    have:=bR h2;cases this
    refine ih hB hd hfr h h1 htop fun a w h=> ?_
    show if j=id then Q .normal a w else Q (.exit j) a w
    rw[if_pos (Nat.eq_of_beq_eq_true hb)];exact hQ a w h
   |false=>
    rw[hb]at h2
    have:=bR h2;cases this
    refine ih hB hd hfr h h1 htop fun a w h=> ?_
    show if j=id then Q .normal a w else Q (.exit j) a w
    rw[if_neg (fun e=>by rw[e,xh]at hb;cases hb)];exact hQ a w h
 |loop c ih=>
  intro B Q G a w e G' hB hd hfr h hr htop hQ
  have plain:∀n,(qC n (codeRT Γ cl fn c) (fun e G=>.dH (e,G)) G).run S0 B.H0=some (e,G')->(Code.loop c).wp P Q a w:=by
   intro n hr
   refine wp_loop_ghost (fun n a w=>∃G,lE ρ B G a w/\(qC n (codeRT Γ cl fn c) (fun e G=>.dH (e,G)) G).run S0 B.H0=some (e,G')) n ⟨G,h,hr⟩ ?_
   rintro n a w ⟨G,h,hr⟩
   cases n with
   |zero=>exact aA hr
   |succ n=>
    rw[qS]at hr
    obtain⟨e1,G1,h1,h2⟩:=eO hr
    have up:∀(n:Nat) (G:GS),(qC n (codeRT Γ cl fn c) (fun e G=>.dH (e,G)) G).run S0 B.H0=some (e,G')->G.next<=G'.next:=by
     intro n
     induction n with
     |zero=>intro G h;exact aA h
     |succ n ihn=>
      intro G h
      rw[qS]at h
      obtain⟨e1,G1,h1,h2⟩:=eO h
      obtain⟨u1,_⟩:=l5 c h1
      cases e1 with
      |normal=>have:=ihn G1 h2;omega
      |exit i=>have q:=bR h2;cases q;exact u1
      |ret=>have q:=bR h2;cases q;exact u1
    cases e1 with
    |normal=>exact ih hB hd hfr h h1 (by have:=up n G1 h2;omega) fun a w h=>⟨n,Nat.lt_succ_self n,G1,h,h2⟩
    |exit i=>have q:=bR h2;cases q;exact ih hB hd hfr h h1 htop fun a w h=>hQ a w h
    |ret=>have q:=bR h2;cases q;exact ih hB hd hfr h h1 htop fun a w h=>hQ a w h
  simp only[codeRT]at hr
  split at hr
  ·split at hr
   ·obtain⟨G1,hr,s1,n1,_⟩:=tO hr
    exact Lb (c:=c) (L:=Γ.L) (S0:=S0) (fn:=fn) (cl:=cl) hB (fun k hk hm=>hfr k hm hk) hd (fun hB hd hfr h hr ht hq=>ih hB hd hfr h hr ht hq) (h.congr s1 n1) hr htop hQ
   ·exact plain _ hr
  ·exact plain _ hr
 |rangeFunc f ps x y ihx ihy=>intro B Q G a w e G' hB hd hfr h hr htop hQ;exact aA hr
 |scope c ih=>intro B Q G a w e G' hB hd hfr h hr htop hQ;exact aA hr
 |label l=>intro B Q G a w e G' hB hd hfr h hr htop hQ;exact aA hr
 |goto l=>intro B Q G a w e G' hB hd hfr h hr htop hQ;exact aA hr
 |refuse w=>intro B Q G a w e G' hB hd hfr h hr htop hQ;exact aA hr
end
def X4(P:Program)(f:Nat)(g:D7):Prop:=∃fb,P.funcs[f]?=some fb/\fb.body=some g.body/\fb.ntmps=g.ntmps/\fb.results.toList=g.results/\(fb.name== "runtime.NumGoroutine")=false/\codeDst g.ntmps g.body=true
def Jv(P:Program)(T:Tr D7):Prop:=∀f g,T.get f=some g->X4 P f g
theorem Fp{N N':Nat}(h:N<=N'):∀{l:List Oper},dstOk N l=true->dstOk N' l=true:=by
 intro l hl
 unfold dstOk at hl⊢
 rw[List.all_eq_true]at hl⊢
 intro o ho
 have:=hl o ho
 split at this
 ·have:=Nat.le_of_ble_eq_true this
  exact Nat.ble_eq_true_of_le (by omega)
 ·rfl
theorem BU{N N':Nat}(h:N<=N'):∀{c:Code},codeDst N c=true->codeDst N' c=true:=by
 intro c
 induction c with
 |region id ops draw=>exact Fp h
 |seq a b iha ihb=>intro hc;simp only[codeDst,Bool.and_eq_true]at hc⊢;exact⟨iha hc.1,ihb hc.2⟩
 |cond c a b iha ihb=>intro hc;simp only[codeDst,Bool.and_eq_true]at hc⊢;exact⟨iha hc.1,ihb hc.2⟩
 |block id c ih=>exact ih
 |loop c ih=>exact ih
 |_=>intro _;rfl
theorem rO:∀(l:List HV) (n:Nat) (t:Tr HV) (k:Nat),(numbered n l t).get k=if n<=k/\k<n+l.length then l[k-n]? else t.get k
 |[],n,t,k=>by simp[numbered];intro h1 h2;omega
 |v::l,n,t,k=>by
  simp only[numbered]
  rw[rO l,Tr.mW]
  simp only[List.length_cons]
  by_cases e:k=n
  ·subst e
   rw[if_neg (by omega),if_pos rfl,if_pos (by omega)]
   simp
  ·by_cases h:n<=k/\k<n+(l.length+1)
   ·rw[if_pos (by omega),if_pos h]
    rw[show k-n=(k-(n+1))+1 by omega,List.getElem?_cons_succ]
   ·rw[if_neg (by omega),if_neg e,if_neg h]
open Classical in
theorem AX{T:Nat->Option (Option Ob)}(id:Nat):∀{l:List (Nat×Option Ob)} {H:Hp},(∀p,p∈l->T p.1=some p.2)->cw H (l.map fun p=>.ej p.1 p.2) id=if(∃x,(id,x)∈l)then(T id).getD none else H id
 |[],H,h=>by simp[cw]
 |p::l,H,h=>by
  rw[List.map_cons,my,AX id (fun q hq=>h q (by simp[hq]))]
  by_cases hl:∃x,(id,x)∈l
  ·rw[if_pos hl,if_pos (by obtain⟨x,hx⟩:=hl;exact⟨x,by simp[hx]⟩)]
  ·rw[if_neg hl]
   by_cases e:id=p.1
   ·subst e
    rw[if_pos ⟨p.2,by simp⟩,h p (by simp)]
    simp[xm,gW]
   ·rw[if_neg]
    ·simp[xm,gW,e]
    ·rintro⟨x,hx⟩
     rcases List.mem_cons.1 hx with hx|hx
     ·exact e (by rw[<-hx])
     ·exact hl ⟨x,hx⟩
theorem Od(G:GS):oa (a4a G):=by
 intro x hx
 obtain⟨p,_,rfl⟩:=List.mem_map.1 hx
 exact⟨_,_,rfl⟩
theorem LF{H:Hp}{G:GS}(h:iT H G):cw H (a4a G)=G.da H:=by
 funext id
 unfold a4a
 rw[AX (T:=G.st.get) id (fun p hp=>xg.1 hp)]
 unfold GS.da
 rw[find_eq]
 cases hs:G.st.get id with
 |some o=>
  rw[if_pos ⟨o,xg.2 hs⟩];rfl
 |none=>
  rw[if_neg (by rintro⟨x,hx⟩;rw[xg.1 hx]at hs;cases hs)]
  cases hc:G.ca.get id with
  |some o=>exact h id o hc
  |none=>rfl
def Ae(P:Program)(tmps:Array Value)(w:World)(r:ResultVar)(v:Value):Prop:=
 Sem.run P (match r with
  | .tmp t=>pure (tmps.getD t undef)
  | .cell a t=>do loadVar t (<-asAddr (tmps.getD a undef)):Sem Value) w=.ok v w
section
variable {P:Program}{w:World}
theorem Ef{g:ResultVar->Sem Value}:∀{l:List ResultVar} {vs:List Value},All2 (fun r v=>(g r).run P w=.ok v w) l vs->(l.mapM g).run P w=.ok vs w
 |[],[],_=>by simp
 |r::l,v::vs,⟨h1,h2⟩=>by
  rw[List.mapM_cons,Sem.run_bind,h1]
  simp only[Result.andThen_ok]
  rw[Sem.run_bind,Ef h2]
  simp
def tupVal:List Value->Value
 |[v]=>v
 |vs=>.tuple vs.toArray
theorem Ey{fn:Func}{tmps:Array Value}{vs:List Value}(h:All2 (Ae P tmps w) fn.results.toList vs):(results fn tmps).run P w=.ok (tupVal vs) w:=by
 have e:∀g:ResultVar->Sem Value,(∀r v,Ae P tmps w r v->(g r).run P w=.ok v w)->(fn.results.toList.mapM g).run P w=.ok vs w:=fun g hg=>Ef (All2.mono hg h)
 unfold results
 rw[Sem.run_bind,Array.mapM_eq_mapM_toList,Sem.run_map,e]
 ·simp only[Result.andThen_ok,Sem.run_pure]
  match vs with
  |[]=>rfl
  |[v]=>rfl
  |v::u::l=>simp[tupVal]
 ·intro r v hr
  cases r<;>exact hr
theorem yq{m:Mp}{vs:List HV}{xs:List Value}(h:denL m vs=some xs):den m (tupH vs)=some (tupVal xs):=by
 have hl:=cH h
 match vs,xs,h,hl with
 |[],[],h,_=>simp only[tupH,den,denL,tupVal]
 |[v],[x],h,_=>
  obtain⟨y,ys,h1,h2,h3⟩:=di h
  cases h3
  exact h1
 |v::u::l,xs,h,hl=>
  match xs,hl with
  |x::y::zs,_=>simp only[tupH,den,h,tupVal]
theorem H9{m:Mp}{v:HV}{x:Value}(h:den m v=some x):∃xs,denL m (unT v)=some xs/\x=tupVal xs:=by
 unfold unT
 split
 ·exact⟨[x],cM h rfl,rfl⟩
 ·rename_i l hne
  simp only[den]at h
  split at h
  ·rename_i a ha
   cases h
   refine⟨a,ha,?_⟩
   have hl:=cH ha
   match a,l,hl with
   |[],[],_=>rfl
   |[y],[u],_=>exact absurd rfl (hne u)
   |y::z::a,_,_=>rfl
  ·cases h
 ·exact⟨[x],cM h rfl,rfl⟩
end
section
variable {P:Program}{Γ:vC}{ρ:En}{N:Nat}
theorem CO(hT:gj P Γ.sj){S:Sl}{H:Hp}{r:Ws}:∀{rv:List ResultVar} {K:List HV->ST},(resL Γ rv K).run S H=some r->
 ∃vs,(K vs).run S H=some r/\∀{N:Nat} {m:Mp} {a:Act} {w:World},nU ρ N S H m a w->∃xs,denL m vs=some xs/\All2 (Ae P a.tmps w) rv xs
 |[],K,h=>⟨[],h,fun _=>⟨[],rfl,trivial⟩⟩
 | .tmp t::rv,K,h=>by
   simp only[resL]at h
   obtain⟨v,hv,h⟩:=rZ h
   obtain⟨vs,h1,h2⟩:=CO hT (K:=fun vs=>K (v::vs)) h
   refine⟨_,h1,fun{N m a w} hrep=> ?_⟩
   obtain⟨xs,q1,q2⟩:=h2 hrep
   exact⟨_,cM (hrep.bk _ _ hv) q1,⟨by simp[Ae],q2⟩⟩
 | .cell p t::rv,K,h=>by
   simp only[resL]at h
   obtain⟨v,hv,h⟩:=rZ h
   split at h
   ·rename_i id off
    obtain⟨ti,hti,h⟩:=fB hT h
    obtain⟨ob,hob,h⟩:=dR h
    obtain⟨cs,hcs,h⟩:=a07 h
    obtain⟨hb,h⟩:=cE h
    obtain⟨x,hx,h⟩:=a07 h
    obtain⟨vs,h1,h2⟩:=CO hT (K:=fun vs=>K (x::vs)) h
    refine⟨_,h1,fun{N m a w} hrep=> ?_⟩
    obtain⟨xs,q1,q2⟩:=h2 hrep
    cases ob with
    |cells el cs'=>
     cases hcs
     obtain⟨b,us,g1,g2,g3,g4⟩:=hrep.heap.fe id _ hob
     obtain⟨b',e1,e2⟩:=B7 (hrep.bk _ _ hv)
     rw[g1]at e1;cases e1
     have eY:=oV hb
     rw[<-cH g2]at eY
     have hrun:=vl (P:=P) (off:=off) hti.Is g4 eY
     refine⟨_,cM (qO hx (sV _ _ g2) (yj _ _ g3)) q1,⟨?_,q2⟩⟩
     simp only[Ae]
     rw[e2]
     simpa [Instr.loadAt,Instr.sureAddr,asAddr]using hrun
    |_=>cases hcs
   ·exact aA h
def BJ(P:Program)(ρ:En)(f:Nat)(args:List HV)(n:Nat)(K:HV->List Wr->Nat->ST)(S:Sl)(H:Hp)(r:Ws):Prop:=
 ∃jm ws nx,(K jm ws nx).run S H=some r/\n<=nx/\oa ws/\(∃fb,P.funcs[f]?=some fb/\fb.body.isNone=false/\(fb.name== "runtime.NumGoroutine")=false)/\
  ∀(m:Mp) (w:World) (U:Nat->Prop) (vals:List Value),a0d ρ H m w->(∀id,m.has id->U id)->(∀j,n<=j->j<nx->¬U j)->denL m args=some vals->
   Calls P f vals.toArray w fun e w'=>∃m' v,e=.returned v/\m.le m'/\den m' jm=some v/\a0d ρ (cw H ws) m' w'/\∀id,m'.has id->U id∨(n<=id/\id<nx)
set_option maxHeartbeats 1000000 in
theorem yU(hm:P.follows .mixedOrders=true)(hT:gj P Γ.sj)(hF:Jv P Γ.OY){cl:a2D}(hcl:nT P ρ cl){f n:Nat}{args:List HV}{K:HV->List Wr->Nat->ST}{S:Sl}{H:Hp}{r:Ws}
 (h:(bodyF Γ cl f args n K).run S H=some r):BJ P ρ f args n K S H r:=by
 classical
 unfold bodyF at h
 split at h
 ·exact aA h
 rename_i g hg
 obtain⟨fb,f1,f2,f3,f4,f5,f6⟩:=hF f g hg
 obtain⟨e,G',h1,h2⟩:=eO h
 obtain⟨u1,u2⟩:=l5 _ h1
 have hca0:iT H {bk:=numbered 0 args .lf,st:=.lf,ca:=.lf,next:=n}:=fun id o h=>by cases h
 have hca:=u2 hca0
 have hex:∀i,e≠ .exit i:=by
  intro i ei
  subst ei
  exact aA h2
 have h2:((resL Γ g.results fun vs=>.dH ([.jQ 0 (some (tupH vs))],0)).jm [] G' fun a _ G'=>match a.1 with
  |[.jQ _ (some v)]=>K v (a4a G') G'.next
  |_=>.fail 92).run S H=some r:=by
  cases e with
  |exit i=>exact absurd rfl (hex i)
  |normal=>exact h2
  |ret=>exact h2
 obtain⟨p,rd,G2,s1,s2,h3,_,r5,r6,r7⟩:=ql h2
 have hrun:(resL Γ g.results fun vs=>.dH ([.jQ 0 (some (tupH vs))],0)).run G'.bk.get (G'.da H)=some p:=r5 (G'.sg H) (fun l _=>by rcases l with⟨_|_,n⟩<;>rfl)
 obtain⟨vs,k1,k2⟩:=CO (ρ:=ρ) hT hrun
 have:=bR k1
 subst this
 have h3:(K (tupH vs) (a4a G2) G2.next).run S H=some r:=h3
 have hov:cw H (a4a G2)=G'.da H:=by rw[LF (r6 hca)];exact congrArg Sg.H s1
 refine⟨tupH vs,a4a G2,G2.next,h3,by rw[s2];exact u1,Od G2,⟨fb,f1,by rw[f2];rfl,f5⟩,fun m w U vals hrep hU hfree hargs=> ?_⟩
 rw[s2]at hfree⊢
 have hlen:=cH hargs
 refine calls_of_wp f1 f2 ?_
 let B:Bs:={N:=(vals.toArray++Array.replicate (fb.ntmps-vals.toArray.size) undef).size,U:=U,n0:=n,mb:=m,H0:=H,mj:=G'.next,Fr:=fun _=>False,a0:=fun _=>undef}
 refine Ij (B:=B) (S0:=S) hm hT hcl g.body (G:={bk:=numbered 0 args .lf,st:=.lf,ca:=.lf,next:=n}) ⟨hfree⟩ ?_ (fun d _ hd=>hd) ?_ h1 (Nat.le_refl _) (fun a w h=> ?_)
 ·refine BU ?_ f6
  show g.ntmps<=(vals.toArray++Array.replicate (fb.ntmps-vals.toArray.size) undef).size
  rw[f3];simp;omega
 ·refine⟨fun k hk=>hk.elim,⟨m,Mp.le_refl m,⟨hrep,fun k v hk=> ?_,rfl,rfl⟩,fun id hid=>.inl (hU id hid)⟩,Nat.le_refl _⟩
  have hk:(numbered 0 args .lf).get k=some v:=hk
  rw[rO]at hk
  split at hk
  ·rename_i hk2
   obtain⟨x,hx1,hx2⟩:=vM hargs k v (by simpa using hk)
   rw[hx2]
   congr 1
   have hlt:k<vals.length:=by omega
   have:vals[k]=x:=by
    rw[List.getElem?_eq_getElem hlt]at hx1;simpa using hx1
   simp[Array.getElem?_append_left (show k<vals.toArray.size by simpa using hlt),hlt,this]
  ·cases hk
 ·obtain⟨_,⟨m',m1,m2,m3⟩,low⟩:=h
  obtain⟨xs,e1,e2⟩:=k2 m2
  have key:a.defers=[]/\∃v,(results fb a.tmps).run P w=.ok v w/\∃m' v',Ending.returned v=.returned v'/\m.le m'/\den m' (tupH vs)=some v'/\a0d ρ (cw H (a4a G2)) m' w/\∀id,m'.has id->U id∨(n<=id/\id<G'.next):=
   ⟨m2.defers,_,Ey (by rw[f4];exact e2),m',_,rfl,m1,yq e1,by rw[hov];exact m2.heap,fun id hid=>m3 id hid⟩
  cases e with
  |normal=>exact key
  |ret=>exact key
  |exit i=>exact absurd rfl (hex i)
end
def pX(P:Program)(f:Nat):Prop:=∃fb,P.funcs[f]?=some fb/\fb.body.isNone=false/\(fb.name== "runtime.NumGoroutine")=false
structure Au(d:Bool)(F:Fz)(w:World)(G:List Nat)(l:List DT)(y:(tupT l).den)(w':World)(rv:List Value)(F':Fz)(G':List Nat):Prop where
 data:GK F' w' l y rv G'
 fz:F.le F'
 nK:G'.Nodup
 out:∀b∈G',F' b=none/\(w.heap.size<=b∨b∈G)
 new:∀b,F' b≠none->F b=none->w.heap.size<=b∨b∈G
 ok:∀b arr,F' b=some arr->∃el fr,w'.heap[b]?=some (.cells arr el fr)
 wo:Ia d w w'
 size:w.heap.size<=w'.heap.size
 lV:∀b,b<w.heap.size->b∉G->w'.heap[b]?=w.heap[b]?
def dU(d:Bool)(P:Program)(f:Nat)(c:cN):Prop:=pX P f/\
 ∀(F:Fz) (w:World) (x:(tupT c.a).den) (vals:List Value) (G:List Nat) (y:(tupT c.r).den),c.f x=some y->GK F w c.a x vals G->G.Nodup->(∀b∈G,F b=none)->(∀b arr,F b=some arr->∃el fr,w.heap[b]?=some (.cells arr el fr))->
  Calls P f vals.toArray w fun e w'=>∃rv F' G',e=.returned (tupVal rv)/\Au d F w G c.r y w' rv F' G'
def jS(d:Bool)(P:Program)(f:Nat)(c:JB):Prop:=∀{ρ:En} {args:List HV} {n:Nat} {K:HV->List Wr->Nat->ST} {S:Sl} {H:Hp} {r:Ws},ρ.dr=d->(HA c args n K).run S H=some r->BJ P ρ f args n K S H r
def qx(d:Bool)(P:Program)(f:Nat)(c:uG):Prop:=pX P f/\
 ∀(F:Fz) (w:World) (l:List Int) (at_:Int) (x:(tupT c.a).den) (sv:Value) (vals:List Value) (G:List Nat) (b:Nat) (y:Int×(tupT c.r).den),c.f l at_ x=some y->DR F (.a01 (.int .u8)) l [sv]->a0p .i64 at_=true->GK F w c.a x vals G->(b::G).Nodup->(∀b'∈b::G,F b'=none)->(∀b arr,F b=some arr->∃el fr,w.heap[b]?=some (.cells arr el fr))->
  w.heap[b]?=some (.cells #[sv,.int .i64 at_] c.el (0,0))->
  Calls P f (.pointer (some ⟨b,0,none⟩)::vals).toArray w fun e w'=>∃rv F' G',e=.returned (tupVal rv)/\Au d F w (b::G) c.r y.2 w' rv F' G'/\w'.heap[b]?=some (.cells #[sv,.int .i64 y.1] c.el (0,0))/\a0p .i64 y.1=true/\F' b=none/\b∉G'
structure sH(d:Bool)(P:Program)(Γ:vC):Prop where
 WU:P.follows .mixedOrders=true
 sj:gj P Γ.sj
 OY:Jv P Γ.OY
 con:∀f c,Γ.con.get f=some c->dU d P f c
 Vj:∀f c,Γ.Vj.get f=some c->jS d P f c
 WG:∀f c,Γ.WG.get f=some c->qx d P f c
theorem Au.down{d:Bool}{F:Fz}{w:World}{G:List Nat}{l:List DT}{y:(tupT l).den}{w':World}{rv:List Value}{F':Fz}{G':List Nat}(h:Au true F w G l y w' rv F' G'):Au d F w G l y w' rv F' G':=
 ⟨h.data,h.fz,h.nK,h.out,h.new,h.ok,h.wo.wo.D,h.size,h.lV⟩
theorem dU.down{d:Bool}{P:Program}{f:Nat}{c:cN}(h:dU true P f c):dU d P f c:=⟨h.1,fun F w x vals G y hy h1 h2 h3 h4=>(h.2 F w x vals G y hy h1 h2 h3 h4).mono fun _ _ ⟨rv,F',G',e,c⟩=>⟨rv,F',G',e,c.down⟩⟩
section
variable {P:Program}{Γ:vC}{ρ:En}
theorem DD.plain{F F':Fz}{w w':World}:∀{t:DT} {x:t.den} {vs:List Value} {G:List Nat},t.lists=0->DD F w t x vs G->DD F' w' t x vs []:=by
 intro t
 induction t with
 |ak a b iha ihb=>
  intro x vs G hl ⟨us,rs,G1,G2,h1,h2,h3,h4⟩
  simp only[DT.lists]at hl
  exact⟨us,rs,[],[],h1,rfl,iha (by omega) h3,ihb (by omega) h4⟩
 |a01 t ih=>intro x vs G hl h;simp[DT.lists]at hl
 |bH t ih=>intro x vs G hl h;simp[DT.lists]at hl
 |bS=>intro x vs G hl h;simp[DT.lists]at hl
 |otrees=>intro x vs G hl h;simp[DT.lists]at hl
 |_=>intro x vs G hl h;exact⟨h.1,rfl⟩
theorem GK.plain{F F':Fz}{w w':World}:∀{l:List DT} {x:(tupT l).den} {vals:List Value} {G:List Nat},(tupT l).lists=0->GK F w l x vals G->GK F' w' l x vals []
 |[],x,vals,G,hl,⟨h1,h2⟩=>⟨h1,rfl⟩
 |[t],x,vals,G,hl,⟨vs,h1,h2⟩=>⟨vs,h1,h2.plain hl⟩
 |t::u::l,x,vals,G,hl,⟨vs,rest,G1,G2,h1,h2,h3,h4⟩=>by
  simp only[tupT,DT.lists]at hl
  exact⟨vs,rest,[],[],h1,rfl,h3.plain (by omega),GK.plain (l:=u::l) (by omega) h4⟩
theorem a0d.W4{H:Hp}{m:Mp}{w w':World}(h:a0d ρ H m w){G G':List Nat}{l:List DT}{y:(tupT l).den}{rv:List Value}{F':Fz}(hG:mu ρ H m G)(c:Au ρ.dr m.fz w G l y w' rv F' G'):a0d ρ H (m.on F') w'/\mu ρ H (m.on F') G':=by
 have hmine:∀b,w.heap.size<=b∨b∈G->ρ.eJ b:=fun b hb=>by
  rcases hb with hb|hb
  ·exact .inl (Nat.le_trans h.ff.size hb)
  ·exact hG.eJ b hb
 have hown:∀i o b,H i=some o->o.eJ=true->m.ad i=some b->b<w.heap.size/\b∉G:=fun i o b hi ho hb=>⟨h.lt hi ho hb,fun hg=>hG.jI b hg i o hi ho hb⟩
 have hk:uH ρ w':=⟨h.ff.wo.trans c.wo,Nat.le_trans h.ff.size c.size,fun b hb hg=>by
  rw[c.lV b (Nat.lt_of_lt_of_le hb h.ff.size) (fun hm=>by rcases hG.eJ b hm with q|q;omega;exact hg q)]
  exact h.ff.blk b hb hg⟩
 refine⟨h.step (Mp.uO c.fz) hk (fun b arr h1 _=>c.ok b arr h1) (fun b arr h1=>c.lV b (h.zA h1) (fun hm=>by rw[hG.fz b hm]at h1;cases h1)) (fun b h1 h2=>hmine b (c.new b h1 h2)) (fun i o hi=>(h.fe i o hi).mono (Mp.uO c.fz) (fun e=>e) fun ho b hb=>by
  obtain⟨q1,q2⟩:=hown i o b hi ho hb
  exact c.lV b q1 q2) h.inj h.off (fun i o b hi ho hb=> ?_),⟨c.nK,fun b hb=>hmine b (c.out b hb).2,fun b hb=>(c.out b hb).1,fun b hb i o hi ho he=> ?_⟩⟩
 ·obtain⟨q1,q2⟩:=hown i o b hi ho hb
  show F' b=none
  cases hq:F' b with
  |none=>rfl
  |some arr=>
   rcases c.new b (by rw[hq];simp) (h.vy i o b hi ho hb)with q|q
   ·omega
   ·exact absurd q q2
 ·obtain⟨q1,q2⟩:=hown i o b hi ho he
  rcases(c.out b hb).2 with q|q
  ·omega
  ·exact q2 q
theorem MV{f n:Nat}{c:cN}(hc:dU ρ.dr P f c){args:List HV}{K:HV->List Wr->Nat->ST}{S:Sl}{H:Hp}{r:Ws}(h:(PT c args n K).run S H=some r):BJ P ρ f args n K S H r:=by
 unfold PT at h
 cases hl:Nat.beq (tupT c.r).lists 0 with
 |false=>
  rw[hl]at h
  obtain⟨x,ws,h1,h2⟩:=wj h
  obtain⟨hob,h1⟩:=cE h1
  obtain⟨y,hy,h3⟩:=run_bind h1
  have hobj:oa ws:=fun x hx=>by
   have:=List.all_eq_true.1 hob x hx
   cases x with
   |ej id o=>exact⟨id,o,rfl⟩
   |jQ n v=>cases this
  ·refine⟨_,_,_,h3,Nat.le_add_right _ _,a3f hobj ot,hc.1,fun m w U vals hrep hU hfree hargs=> ?_⟩
   obtain⟨m1,G,q1,q2⟩:=h2 (.start hrep) rfl hargs
   have hrs:RS ρ H m w ws m1:=by simpa using q1.rs
   have hgk:mu ρ (cw H ws) m1 G:=by simpa using q1.AH
   refine(hc.2 m1.fz w x vals G y hy q2 hgk.nK hgk.fz hrs.rep.fz).mono fun e w' ⟨rv,F',G',e1,e2⟩=> ?_
   obtain⟨k1,k2⟩:=hrs.rep.W4 hgk e2
   have hhas:∀i,(m1.on F').has i->m.has i:=fun i hi=>by
    rcases hi with q|q|q
    ·exact .inl (by rw[<-hrs.ad];exact q)
    ·exact .inr (.inl (by rw[<-hrs.pl];exact q))
    ·exact .inr (.inr (by rw[<-hrs.px];exact q))
   obtain⟨m2,g1,g2,g3,g4,g5,_⟩:=a48 (n:=n) k1 e2.data k2 (fun i hi hi' hh=>hfree i hi hi' (hU i (hhas i hh)))
   refine⟨m2,_,e1,Mp.le_trans hrs.le (Mp.le_trans (Mp.uO e2.fz) g1),yq g3,by rw[a0o];exact g4,fun id hid=> ?_⟩
   rcases g5 id hid with q|q
   ·exact .inl (hU id (hhas id q))
   ·exact .inr q
 |true=>
  rw[hl]at h
  have hl:=Nat.eq_of_beq_eq_true hl
  obtain⟨x,h1,h2⟩:=HL h
  obtain⟨_,h1⟩:=cE h1
  obtain⟨y,hy,h3⟩:=run_bind h1
  refine⟨_,_,_,h3,Nat.le_add_right _ _,a3f jz ot,hc.1,fun m w U vals hrep hU hfree hargs=> ?_⟩
  have q2:=h2 hrep hargs
  refine(hc.2 (fullF w) w x vals [] y hy q2 List.nodup_nil (fun b hb=>by simp at hb) (fun b arr hb=>Bh hb)).mono fun e w' ⟨rv,F',G',e1,e2⟩=> ?_
  have hg:a0d ρ H m w':=hrep.DY (fun b hb=>e2.lV b hb (by simp)) e2.wo
  obtain⟨m2,g1,g2,g3,g4,g5,_⟩:=a48 (n:=n) hg (GK.plain hl e2.data) mu.nil (fun i hi hi' hh=>hfree i hi hi' (hU i hh))
  refine⟨m2,_,e1,g1,yq g3,g4,fun id hid=> ?_⟩
  rcases g5 id hid with q|q
  ·exact .inl (hU id q)
  ·exact .inr q
theorem a4r{α:Type}{el:Nat}{o:Ob}{k:List Int->HV->Int->RT α}{S:Sl}{H:Hp}{r:α}(h:(codesP el o k).run S H=some r):∃v l n,o=.cells el [v,.i .i64 n]/\codesL v=some l/\(k l v n).run S H=some r:=by
 unfold codesP at h
 split at h
 ·rename_i e v k' n
  obtain⟨hb,h'⟩:=cE h
  simp only[Bool.and_eq_true]at hb
  obtain⟨l,hl,h''⟩:=a07 h'
  exact⟨v,l,n,by rw[Nat.eq_of_beq_eq_true hb.1,iX hb.2],hl,h''⟩
 ·exact aA h
theorem B5{m:Mp}{v:HV}{l:List Int}{n:Int}{vs:List Value}(hl:codesL v=some l)(h:denL m [v,.i .i64 n]=some vs):∃sv,vs=[sv,.int .i64 n]/\a0p .i64 n=true/\den m v=some sv/\DR m.fz (.a01 (.int .u8)) l [sv]:=by
 obtain⟨y,ys,h1,h2,h3⟩:=di h
 obtain⟨z,h4,h5⟩:=ik h2
 subst h3 h5
 have hk:a0p .i64 n=true/\z=.int .i64 n:=by
  simp only[den]at h4
  cases hk:a0p .i64 n with
  |false=>rw[hk]at h4;cases h4
  |true=>rw[hk]at h4;cases h4;exact⟨rfl,rfl⟩
 obtain⟨hk,rfl⟩:=hk
 refine⟨y,rfl,hk,h1,?_⟩
 unfold codesL at hl
 split at hl
 ·rename_i t x j
  obtain⟨q1,q2⟩:=dG hl
  simp only[den,lvV]at h1
  split at h1
  ·split at h1
   ·rename_i hd
    cases h1
    exact a2O q1 q2 hd.2
   ·cases h1
  ·cases h1
 ·cases hl
  simp only[den]at h1
  cases h1
  exact⟨_,rfl,none,0,rfl,Nat.le_refl _,⟨Nat.zero_le _,by show 0*0<=_;omega⟩,fun _=>rfl,(fun p hp=>by cases hp),[],⟨[],rfl,trivial⟩,fun h=>absurd h (by simp)⟩
 ·cases hl
theorem Fg{m:Mp}{v:HV}{n:Int}{sv:Value}(h1:den m v=some sv)(h3:a0p .i64 n=true):denL m [v,.i .i64 n]=some [sv,.int .i64 n]:=by
 refine cM h1 (cM ?_ rfl)
 simp only[den,h3];rfl
theorem Ik{v:HV}{l:List Int}(hl:codesL v=some l):HV.one v=true:=by
 unfold codesL at hl
 split at hl<;>first|rfl|cases hl
theorem Ff{m:Mp}{l:List Int}{j:Nat}{n:Int}{sv:Value}(h1:m.pl j=some sv)(h2:DR m.fz (.a01 (.int .u8)) l [sv])(h3:a0p .i64 n=true):denL m [.lv (.a01 (.int .u8)) l j,.i .i64 n]=some [sv,.int .i64 n]:=by
 refine cM ?_ (cM ?_ rfl)
 ·simp only[den,lvV,h1]
  rw[if_pos ⟨rfl,h2⟩]
 ·simp only[den,h3];rfl
theorem wP{id:Nat}:∀{ws:List Wr} {H:Hp},oa ws->(∀x∈ws,Nat.beq x.aG id=false)->cw H ws id=H id
 |[],H,_,_=>rfl
 |x::ws,H,h,k=>by
  obtain⟨i,o,rfl⟩:=h x (by simp)
  rw[my,wP (fun y hy=>h y (by simp[hy])) (fun y hy=>k y (by simp[hy]))]
  have:=k (.ej i o) (by simp)
  exact a0h _ _ (fun e=>by subst e;simp[Wr.aG]at this)
theorem Oz{α:Type}(f:Nat->Option α)(n:Nat)(u v:Option α):gW (gW f n u) n v=gW f n v:=by funext k;unfold gW;split<;>rfl
theorem K0{f n:Nat}{c:uG}(hc:qx ρ.dr P f c){args:List HV}{K:HV->List Wr->Nat->ST}{S:Sl}{H:Hp}{r:Ws}(h:(conPR c args n K).run S H=some r):BJ P ρ f args n K S H r:=by
 unfold conPR at h
 split at h
 ·rename_i id args
  obtain⟨o,ho,h⟩:=dR h
  obtain⟨v,l,n',eo,hl,h⟩:=a4r h
  obtain⟨x,ws,h1,h2⟩:=wj h
  obtain⟨hob,h1⟩:=cE h1
  obtain⟨y,hy,h3⟩:=run_bind h1
  have hall:∀z∈ws,Wr.zF z=true/\Nat.beq z.aG id=false:=fun z hz=>by
   have:=List.all_eq_true.1 hob z hz
   simpa using this
  have hobj:oa ws:=fun z hz=>by
   have:=(hall z hz).1
   cases z with
   |ej id o=>exact⟨id,o,rfl⟩
   |jQ n v=>cases this
  refine⟨_,_,_,h3,Nat.le_add_right _ _,a3f hobj fun z hz=> ?_,hc.1,fun m w U vals hrep hU hfree hargs=> ?_⟩
  ·rcases List.mem_cons.1 hz with rfl|hz
   ·exact⟨_,_,rfl⟩
   ·exact ot z hz
  obtain⟨v0,vs,e1,e2,rfl⟩:=di hargs
  obtain⟨b,hb,rfl⟩:=B7 e1
  obtain⟨m1,G,q1,q2⟩:=h2 (.start hrep) rfl e2
  have hrs:RS ρ H m w ws m1:=by simpa using q1.rs
  have hgk:mu ρ (cw H ws) m1 G:=by simpa using q1.AH
  have hid:cw H ws id=some o:=(wP hobj fun z hz=>(hall z hz).2).trans ho
  have hb1:m1.ad id=some b:=by rw[hrs.ad];exact hb
  have hOR:=hrs.rep.fe id o hid
  have hmine:o.eJ=true:=by subst eo;rfl
  have hbf:m1.fz b=none:=hrs.rep.vy id o b hid hmine hb1
  have hbm:ρ.eJ b:=hrs.rep.off id o b hid hmine hb1
  have hbG:b∉G:=fun hm=>hgk.jI b hm id o hid hmine hb1
  have hk:=hrs.rep.IE id
  have hgb:mu ρ (gW (cw H ws) id none) m1 (b::G):=by
   refine⟨List.nodup_cons.2 ⟨hbG,hgk.nK⟩,fun b' hb'=> ?_,fun b' hb'=> ?_,fun b' hb' i o' hi hm' he=> ?_⟩
   ·rcases List.mem_cons.1 hb' with rfl|hb'
    ·exact hbm
    ·exact hgk.eJ b' hb'
   ·rcases List.mem_cons.1 hb' with rfl|hb'
    ·exact hbf
    ·exact hgk.fz b' hb'
   ·by_cases e:i=id
    ·subst e;rw[bQ]at hi;cases hi
    ·rw[a0h _ _ e]at hi
     rcases List.mem_cons.1 hb' with rfl|hb'
     ·exact hrs.rep.inj i id o' o b' b' e hi hid hm' hmine he hb1 rfl
     ·exact hgk.jI b' hb' i o' hi hm' he
  subst eo
  obtain⟨b',us,g1,g2,_,g4⟩:=hOR
  rw[hb1]at g1;cases g1
  obtain⟨sv,rfl,hn',hsv,hdr'⟩:=B5 hl g2
  refine(hc.2 m1.fz w l n' x sv vs G b y hy hdr' hn' q2 hgb.nK hgb.fz hrs.rep.fz g4).mono fun e w' ⟨rv,F',G',k1,k2,k3,k4,k5,k6⟩=> ?_
  obtain⟨p1,p2⟩:=hk.W4 hgb k2
  have hden:denL (m1.on F') [v,.i .i64 y.1]=some [sv,.int .i64 y.1]:=Fg (fO (Mp.uO k2.fz) hsv) k4
  have hgo:mu ρ (gW (cw H ws) id none) (m1.on F') [b]:=⟨by simp,fun b' hb'=>by simp at hb';subst hb';exact hbm,fun b' hb'=>by simp at hb';subst hb';exact k5,fun b' hb' i o' hi hm'=>by simp at hb';subst hb';exact hgb.jI b' (by simp) i o' hi hm'⟩
  have p3:=p1.fill (id:=id) (e:=c.el) (cs:=[v,.i .i64 y.1]) (show(m1.on F').ad id=some b from hb1) hden (by show(HV.one v&&(true&&true))=true;rw[Ik hl];rfl) k3 hgo
  rw[Oz]at p3
  have hgg:mu ρ (gW (cw H ws) id (some (BV c.el v y.1))) (m1.on F') G':=⟨p2.nK,p2.eJ,p2.fz,fun b' hb' i o' hi hm'=>by
   by_cases e:i=id
   ·subst e
    intro he
    have:b=b':=by
     have he:m1.ad i=some b':=he
     rw[hb1]at he;cases he;rfl
    subst this;exact k6 hb'
   ·rw[a0h _ _ e]at hi
    exact p2.jI b' hb' i o' (by rw[a0h _ _ e];exact hi) hm'⟩
  have hhas:∀i,(m1.on F').has i->m.has i:=fun i hi=>by
   rcases hi with q|q|q
   ·exact .inl (by rw[<-hrs.ad];exact q)
   ·exact .inr (.inl (by rw[<-hrs.pl];exact q))
   ·exact .inr (.inr (by rw[<-hrs.px];exact q))
  obtain⟨m2,t1,t2,t3,t4,t5,_⟩:=a48 (n:=n) p3 k2.data hgg (fun i hi hi' hh=>hfree i hi hi' (hU i (hhas i hh)))
  refine⟨m2,_,k1,Mp.le_trans hrs.le (Mp.le_trans (Mp.uO k2.fz) t1),yq t3,by rw[a0o,my];exact t4,fun i hi=> ?_⟩
  rcases t5 i hi with q|q
  ·exact .inl (hU i (hhas i q))
  ·exact .inr q
 ·exact aA h
theorem Mb(hΓ:sH ρ.dr P Γ){cl:a2D}(ih:nT P ρ cl):nT P ρ (stepF Γ cl):=by
 intro f args n K S H r h
 unfold stepF at h
 split at h
 ·rename_i c hc;exact MV (hΓ.con f c hc) h
 ·split at h
  ·rename_i c hc;exact hΓ.Vj f c hc rfl h
  ·split at h
   ·rename_i c hc;exact K0 (hΓ.WG f c hc) h
   exact yU hΓ.WU hΓ.sj hΓ.OY ih h
theorem a47(hΓ:sH ρ.dr P Γ):∀n,nT P ρ (Oj Γ n):=by
 intro k
 induction k with
 |zero=>intro f args n K S H r h;exact aA h
 |succ k ih=>exact Mb hΓ ih
theorem qz{d:Bool}(hΓ:sH d P Γ){k f:Nat}{a r:List DT}(hf:pX P f):dU d P f ⟨a,r,AE Γ k f a r⟩:=by
 refine⟨hf,fun F w x vals G y hy hd hn hG hF=> ?_⟩
 have hy:AE Γ k f a r x=some y:=hy
 unfold AE at hy
 have hrun:=CC (S:=fun _=>none) (H:=fun _=>none) hy
 obtain⟨ws,nx,G1,h1,h2,h3,h4,h5,_⟩:=yA hrun
 obtain⟨q1,q2,q3⟩:=nL (fun _=>none) (exW (tupT a) x 0) ({bk:=.lf,st:=.lf,ca:=.lf,next:=(tupT a).lists}:GS)
 rw[q1,q2,gO ot]at h1
 have hH0:({bk:=.lf,st:=.lf,ca:=.lf,next:=(tupT a).lists}:GS).da (fun _=>none)=fun _=>none:=by
  funext id;rfl
 rw[hH0]at h1
 obtain⟨ρ,hρ⟩:∃ρ:En,ρ=⟨w,fun b=>b∈G,F,d⟩:=⟨_,rfl⟩
 have hΓ':sH ρ.dr P Γ:=by rw[hρ];exact hΓ
 obtain⟨m0,hm0⟩:∃m0:Mp,m0=⟨fun _=>none,fun _=>none,fun _=>none,F⟩:=⟨_,rfl⟩
 have hrep0:a0d ρ (fun _=>none) m0 w:=by
  subst hρ hm0
  exact⟨fun i o h=>(by cases h),fun i j o o' b b' hne hi=>(by cases hi),⟨.rfl,Nat.le_refl _,fun _ _ _=>rfl⟩,fun i o b hi=>(by cases hi),hF,fun i o b hi=>(by cases hi),fun b hb=>.inl hb⟩
 have hgok0:mu ρ (fun _=>none) m0 G:=by
  subst hρ hm0
  exact⟨hn,fun b hb=>.inr hb,hG,fun b hb i o hi=>(by cases hi)⟩
 have hno:∀i,¬m0.has i:=by
  subst hm0
  intro i hi
  rcases hi with q|q|q<;>exact q rfl
 obtain⟨m1,g1,g2,g3,g4,g5,_⟩:=a48 (n:=0) hrep0 (by rw[hm0];exact hd) hgok0 (fun i _ _=>hno i)
 obtain⟨jm,ws0,nx0,c1,c2,c3,_,c5⟩:=yU (ρ:=ρ) hΓ.WU hΓ.sj hΓ.OY (a47 hΓ' k) h1
 have c1:=bR c1
 simp only[Prod.mk.injEq]at c1
 obtain⟨e1,e2⟩:=c1
 subst e1 e2
 have hcall:=c5 m1 w (fun i=>i<(tupT a).lists) vals g4 (fun i hi=>by
  rcases g5 i hi with q|q
  ·exact absurd q (hno i)
  ·have:i<0+(tupT a).lists:=q.2
   show i<(tupT a).lists
   omega) (fun j hj _ hlt=>by have hlt:j<(tupT a).lists:=hlt;omega) g3
 refine hcall.mono fun e w' ⟨m2,v,ev,k1,k2,k3,k4⟩=> ?_
 obtain⟨p,rd,G2,s1,s2,r3,_,r5,_,_⟩:=ql h5
 have:=bR r3
 subst this
 have hr2:=r5 (G1.sg fun _=>none) (fun l _=>by rcases l with⟨_|_,n⟩<;>rfl)
 rw[h2]at hr2
 obtain⟨u,hu,hr2⟩:=rZ hr2
 have hS:(Sg.app (GS.sg (({bk:=.lf,st:=.lf,ca:=.lf,next:=(tupT a).lists}:GS).app (exW (tupT a) x 0)) fun _=>none) (ws0++[Wr.jQ 0 (some jm)])).S=gW (fun _=>none) 0 (some jm):=by
  show og (GS.app _ _).bk.get (ws0++[Wr.jQ 0 (some jm)])=_
  rw[q2,gO ot,kZ,gO c3];rfl
 have hH:(Sg.app (GS.sg (({bk:=.lf,st:=.lf,ca:=.lf,next:=(tupT a).lists}:GS).app (exW (tupT a) x 0)) fun _=>none) (ws0++[Wr.jQ 0 (some jm)])).H=cw (cw (fun _=>none) (exW (tupT a) x 0)) ws0:=by
  show cw ((GS.app _ _).da fun _=>none) (ws0++[Wr.jQ 0 (some jm)])=_
  rw[q1,hH0,a0o];rfl
 rw[hS]at hu
 have hu:some jm=some u:=by rw[bQ]at hu;exact hu
 cases hu
 rw[hH]at hr2
 obtain⟨xs,t1,t2⟩:=H9 k2
 obtain⟨y',ws',t3,t4⟩:=wj hr2
 have:=bR t3
 subst this
 obtain⟨m3,G3,t5,t6⟩:=t4 (.start k3) rfl t1
 have hrs:RS ρ (cw (cw (fun _=>none) (exW (tupT a) x 0)) ws0) m2 w' ws' m3:=by simpa using t5.rs
 have hgk:mu ρ (cw (cw (cw (fun _=>none) (exW (tupT a) x 0)) ws0) ws') m3 G3:=by simpa using t5.AH
 have hfz:F.le m3.fz:=by
  have e0:m0.fz=F:=by rw[hm0]
  have e1:m1.fz=F:=g2.trans e0
  exact Fz.le_trans (by rw[<-e1];exact k1.fz) hrs.fz
 have hmine:∀b,ρ.eJ b->w.heap.size<=b∨b∈G:=by
  subst hρ;exact fun b hb=>hb
 have hkeep:=hrs.rep.ff
 refine⟨xs,m3.fz,G3,by rw[ev,t2],⟨t6,hfz,hgk.nK,fun b hb=>⟨hgk.fz b hb,hmine b (hgk.eJ b hb)⟩,fun b h1 h2=> ?_,hrs.rep.fz,?_,?_,fun b hb hg=> ?_⟩⟩
 ·rcases hrs.rep.P0 b h1 with q|q
  ·rw[hρ]at q;exact absurd h2 q
  ·exact hmine b q
 ·have:=hkeep.wo;rw[hρ]at this;exact this
 ·have:=hkeep.size;rw[hρ]at this;exact this
 ·have:=hkeep.blk b (by rw[hρ];exact hb) (by rw[hρ];exact hg)
  rw[hρ]at this;exact this
theorem Q0{d:Bool}(hΓ:sH d P Γ){k f el:Nat}{a r:List DT}(hf:pX P f):qx d P f ⟨el,a,r,WK Γ k f el a r⟩:=by
 refine⟨hf,fun F w l at_ x sv vals G b y hy hdl hat hd hn hG hF hblk=> ?_⟩
 have hy:WK Γ k f el a r l at_ x=some y:=hy
 unfold WK at hy
 obtain⟨Ob0,hOb0⟩:∃o,o=BV el (.lv (.a01 (.int .u8)) l 1) at_:=⟨_,rfl⟩
 rw[<-hOb0]at hy
 have hrun:=CC (S:=fun _=>none) (H:=fun _=>none) hy
 obtain⟨ws,nx,G1,h1,h2,h3,h4,h5,_⟩:=yA hrun
 have hobj0:oa (.ej 0 (some Ob0)::exW (tupT a) x 2):=fun z hz=>by
  rcases List.mem_cons.1 hz with rfl|hz
  ·exact⟨_,_,rfl⟩
  ·exact ot z hz
 obtain⟨q1,q2,q3⟩:=nL (fun _=>none) (.ej 0 (some Ob0)::exW (tupT a) x 2) ({bk:=.lf,st:=.lf,ca:=.lf,next:=2+(tupT a).lists}:GS)
 rw[q1,q2,gO hobj0]at h1
 have hH0:({bk:=.lf,st:=.lf,ca:=.lf,next:=2+(tupT a).lists}:GS).da (fun _=>none)=fun _=>none:=by
  funext id;rfl
 rw[hH0]at h1
 obtain⟨H0,hH1⟩:∃H0:Hp,H0=gW (fun _=>none) 0 (some Ob0):=⟨_,rfl⟩
 have happ:cw (fun _=>none) (.ej 0 (some Ob0)::exW (tupT a) x 2)=cw H0 (exW (tupT a) x 2):=by rw[my,hH1];rfl
 rw[happ]at h1
 obtain⟨ρ,hρ⟩:∃ρ:En,ρ=⟨w,fun b'=>b'∈b::G,F,d⟩:=⟨_,rfl⟩
 have hΓ':sH ρ.dr P Γ:=by rw[hρ];exact hΓ
 obtain⟨m0,hm0⟩:∃m0:Mp,m0=⟨gW (fun _=>none) 0 (some b),gW (fun _=>none) 1 (some sv),fun _=>none,F⟩:=⟨_,rfl⟩
 have hat0:∀i o,H0 i=some o->i=0/\o=Ob0:=fun i o hi=>by
  rw[hH1]at hi
  by_cases e:i=0
  ·subst e;rw[bQ]at hi;cases hi;exact⟨rfl,rfl⟩
  ·rw[a0h _ _ e]at hi;cases hi
 have had0:m0.ad 0=some b:=by rw[hm0];rfl
 have hbG:b∉G:=(List.nodup_cons.1 hn).1
 have hmine0:∀b',ρ.eJ b'↔w.heap.size<=b'∨b'∈b::G:=by subst hρ;exact fun b'=>Iff.rfl
 have hrep0:a0d ρ H0 m0 w:=by
  refine⟨fun i o hi=> ?_,fun i j o o' b1 b2 hne hi hj=> ?_,by subst hρ;exact⟨.rfl,Nat.le_refl _,fun _ _ _=>rfl⟩,fun i o b1 hi hm hb1=> ?_,by rw[hm0];exact hF,fun i o b1 hi hm hb1=> ?_,fun b1 hb1=>.inl (by rw[hρ];rw[hm0]at hb1;exact hb1)⟩
  ·obtain⟨rfl,rfl⟩:=hat0 i o hi
   rw[hOb0]
   exact⟨b,[sv,.int .i64 at_],had0,Ff (by rw[hm0];rfl) (by rw[hm0];exact hdl) hat,rfl,hblk⟩
  ·exact absurd ((hat0 i o hi).1.trans (hat0 j o' hj).1.symm) hne
  ·obtain⟨rfl,_⟩:=hat0 i o hi
   rw[had0]at hb1;cases hb1
   exact(hmine0 b).2 (.inr (by simp))
  ·obtain⟨rfl,_⟩:=hat0 i o hi
   rw[had0]at hb1;cases hb1
   rw[hm0];exact hG b (by simp)
 have hgok0:mu ρ H0 m0 G:=by
  refine⟨(List.nodup_cons.1 hn).2,fun b' hb'=>(hmine0 b').2 (.inr (by simp[hb'])),fun b' hb'=>by rw[hm0];exact hG b' (by simp[hb']),fun b' hb' i o hi hm he=> ?_⟩
  obtain⟨rfl,_⟩:=hat0 i o hi
  rw[had0]at he;cases he
  exact hbG hb'
 have hno:∀i,m0.has i->i<2:=by
  subst hm0
  intro i hi
  rcases Nat.lt_or_ge i 2 with h|h
  ·exact h
  ·rcases hi with q|q|q
   ·exact absurd (a0h (k:=i) (n:=0) (fun _=>none) (some b) (by omega)) q
   ·exact absurd (a0h (k:=i) (n:=1) (fun _=>none) (some sv) (by omega)) q
   ·exact absurd rfl q
 obtain⟨m1,g1,g2,g3,g4,g5,_⟩:=a48 (n:=2) hrep0 (by rw[hm0];exact hd) hgok0 (fun i hi _ hh=>by have:=hno i hh;omega)
 obtain⟨jm,ws0,nx0,c1,c2,c3,_,c5⟩:=yU (ρ:=ρ) hΓ.WU hΓ.sj hΓ.OY (a47 hΓ' k) h1
 have c1:=bR c1
 simp only[Prod.mk.injEq]at c1
 obtain⟨e1,e2⟩:=c1
 subst e1 e2
 have hargs:denL m1 (.p 0 0::O1 a x 2)=some (.pointer (some ⟨b,0,none⟩)::vals):=cM (by simp only[den,g1.ad _ _ had0]) g3
 have hcall:=c5 m1 w (fun i=>i<2+(tupT a).lists) (.pointer (some ⟨b,0,none⟩)::vals) g4 (fun i hi=>by
  rcases g5 i hi with q|q
  ·exact Nat.lt_of_lt_of_le (hno i q) (Nat.le_add_right _ _)
  ·exact q.2) (fun j hj _ hlt=>by have hlt:j<2+(tupT a).lists:=hlt;have hj:2+(tupT a).lists<=j:=hj;omega) hargs
 refine hcall.mono fun e w' ⟨m2,v,ev,k1,k2,k3,k4⟩=> ?_
 obtain⟨p,rd,G2,s1,s2,r3,_,r5,_,_⟩:=ql h5
 have:=bR r3
 subst this
 have hr2:=r5 (G1.sg fun _=>none) (fun l _=>by rcases l with⟨_|_,n⟩<;>rfl)
 rw[h2]at hr2
 obtain⟨u,hu,hr2⟩:=rZ hr2
 have hS:(Sg.app (GS.sg (({bk:=.lf,st:=.lf,ca:=.lf,next:=2+(tupT a).lists}:GS).app (.ej 0 (some Ob0)::exW (tupT a) x 2)) fun _=>none) (ws0++[Wr.jQ 0 (some jm)])).S=gW (fun _=>none) 0 (some jm):=by
  show og (GS.app _ _).bk.get (ws0++[Wr.jQ 0 (some jm)])=_
  rw[q2,gO hobj0,kZ,gO c3];rfl
 have hH:(Sg.app (GS.sg (({bk:=.lf,st:=.lf,ca:=.lf,next:=2+(tupT a).lists}:GS).app (.ej 0 (some Ob0)::exW (tupT a) x 2)) fun _=>none) (ws0++[Wr.jQ 0 (some jm)])).H=cw (cw H0 (exW (tupT a) x 2)) ws0:=by
  show cw ((GS.app _ _).da fun _=>none) (ws0++[Wr.jQ 0 (some jm)])=_
  rw[q1,hH0,a0o,happ];rfl
 rw[hS]at hu
 have hu:some jm=some u:=by rw[bQ]at hu;exact hu
 cases hu
 rw[hH]at hr2
 obtain⟨o,ho,hr2⟩:=dR hr2
 obtain⟨u0,l',n',eo,hl,hr2⟩:=a4r hr2
 obtain⟨hj,hr2⟩:=cE hr2
 obtain⟨xs,t1,t2⟩:=H9 k2
 obtain⟨y',ws',t3,t4⟩:=wj hr2
 obtain⟨hall,t3⟩:=cE t3
 have:=bR t3
 subst this
 obtain⟨m3,G3,t5,t6⟩:=t4 (.start k3) rfl t1
 have hrs:RS ρ (cw (cw H0 (exW (tupT a) x 2)) ws0) m2 w' ws' m3:=by simpa using t5.rs
 have hgk:mu ρ (cw (cw (cw H0 (exW (tupT a) x 2)) ws0) ws') m3 G3:=by simpa using t5.AH
 have hob':oa ws':=hrs.FN.ej
 have ho':cw (cw (cw H0 (exW (tupT a) x 2)) ws0) ws' 0=some o:=(wP hob' fun z hz=>by have:=List.all_eq_true.1 hall z hz;simpa using this).trans ho
 have hmo:o.eJ=true:=by rw[eo];rfl
 have eY:=Mp.le_trans g1 k1
 have hb2:m2.ad 0=some b:=eY.ad _ _ had0
 have hb3:m3.ad 0=some b:=by rw[hrs.ad];exact hb2
 have hOR:=hrs.rep.fe 0 o ho'
 have hbf:m3.fz b=none:=hrs.rep.vy 0 o b ho' hmo hb3
 have hb3G:b∉G3:=fun hm=>hgk.jI b hm 0 o ho' hmo hb3
 subst eo
 obtain⟨b',us,d1,d2,_,d4⟩:=hOR
 rw[hb3]at d1;cases d1
 obtain⟨sv',rfl,hn',hsv,_⟩:=B5 hl d2
 have hsv0:m3.pl 1=some sv:=by rw[hrs.pl];exact eY.pl _ _ (by rw[hm0];rfl)
 have hee:sv'=sv:=by
  unfold V7 at hj
  split at hj
  ·rename_i t x j
   have hj:=Nat.eq_of_beq_eq_true hj
   subst hj
   simp only[den,lvV,hsv0]at hsv
   split at hsv
   ·cases hsv;rfl
   ·cases hsv
  ·cases hj
 subst hee
 have hfz:F.le m3.fz:=by
  have e0:m0.fz=F:=by rw[hm0]
  exact Fz.le_trans (by rw[<-e0];exact eY.fz) hrs.fz
 have hkeep:=hrs.rep.ff
 refine⟨xs,m3.fz,G3,by rw[ev,t2],⟨t6,hfz,hgk.nK,fun b' hb'=>⟨hgk.fz b' hb',(hmine0 b').1 (hgk.eJ b' hb')⟩,fun b' h1 h2=> ?_,hrs.rep.fz,?_,?_,fun b' hb' hg=> ?_⟩,d4,hn',hbf,hb3G⟩
 ·rcases hrs.rep.P0 b' h1 with q|q
  ·rw[hρ]at q;exact absurd h2 q
  ·exact(hmine0 b').1 q
 ·have:=hkeep.wo;rw[hρ]at this;exact this
 ·have:=hkeep.size;rw[hρ]at this;exact this
 ·have:=hkeep.blk b' (by rw[hρ];exact hb') (by rw[hρ];exact hg)
  rw[hρ]at this;exact this
end
def xD{α:Type}(Q:Nat->α->Prop):Nat->Nat->Tr α->Prop
 |_,_,.lf=>True
 |a,m,.nd l v r=>(∀x,v=some x->Q a x)/\xD Q (a+m) (2*m) l/\xD Q (a+2*m) (2*m) r
theorem xD.get{α:Type}{Q:Nat->α->Prop}:∀{t:Tr α} {a m:Nat},xD Q a m t->∀{n:Nat} {x:α},t.get n=some x->Q (a+m*n) x
 | .lf,_,_,_,n,x,h=>by cases h
 | .nd l v r,a,m,⟨h0,h1,h2⟩,n,x,h=>by
   rw[Tr.kO]at h
   split at h
   ·rename_i e;subst e;exact h0 x h
   ·split at h
    ·have:=h1.get h
     have e:a+m+2*m*(n/2)=a+m*n:=by
      have:n=2*(n/2)+1:=by omega
      generalize n/2=q at this
      subst this
      rw[Nat.mul_add,Nat.mul_one,Nat.mul_comm 2 m,Nat.mul_assoc];omega
     rwa[e]at this
    ·have:=h2.get h
     have e:a+2*m+2*m*(n/2-1)=a+m*n:=by
      have:n=2*(n/2-1)+2:=by omega
      generalize n/2-1=q at this
      subst this
      rw[Nat.mul_add,Nat.mul_comm 2 m,Nat.mul_assoc];omega
     rwa[e]at this
def oneB:Value->Value->Bool
 | .bool a,.bool b=>a==b
 | .int k a,.int k' b=>decide (k=k')&&decide (a=b)
 | .string s,.string t=>Nat.beq s.data.size 0&&Nat.beq t.data.size 0
 | .slice none 0 0,.slice none 0 0=>true
 | .pointer none,.pointer none=>true
 | .nilFunc,.nilFunc=>true
 | .map none,.map none=>true
 |_,_=>false
theorem zm{s:ByteArray}(h:Nat.beq s.data.size 0=true):s=ByteArray.empty:=by
 have:=Nat.eq_of_beq_eq_true h
 obtain⟨d⟩:=s
 have:d= #[]:=by simpa using this
 subst this;rfl
theorem HC{x y:Value}(h:oneB x y=true):x=y:=by
 unfold oneB at h
 split at h
 ·rw[eq_of_beq h]
 ·simp only[Bool.and_eq_true,decide_eq_true_eq]at h;rw[h.1,h.2]
 ·simp only[Bool.and_eq_true]at h;rw[zm h.1,zm h.2]
 all_goals first|rfl|cases h
def manyB:List Value->List Value->Bool
 |[],[]=>true
 |x::l,y::k=>oneB x y&&manyB l k
 |_,_=>false
theorem Ee:∀{l k:List Value},manyB l k=true->l=k
 |[],[],_=>rfl
 |x::l,y::k,h=>by
  simp only[manyB,Bool.and_eq_true]at h
  rw[HC h.1,Ee h.2]
 |[],_::_,h=>by simp[manyB]at h
 |_::_,[],h=>by simp[manyB]at h
def zeroB(t:Ty)(z:Value):Bool:=bif t.isAgg then(match z with
 | .agg a=>manyB a.toList (zc t)
 |_=>false)else oneB z ((zc t).headD undef)
theorem Mx{t:Ty}{z:Value}(h:zeroB t z=true):z=pk t (zc t):=by
 unfold zeroB at h
 unfold pk
 cases ht:t.isAgg with
 |true=>
  rw[ht]at h
  simp only[cond_true]at h
  split at h
  ·rename_i a
   rw[if_pos rfl,<-Ee h]
  ·cases h
 |false=>
  rw[ht]at h
  rw[if_neg (by simp)]
  exact HC h
def eokB(P:Program)(e:TypeId)(t:Ty):Bool:=(match P.info? e with
 |some x=>Nat.beq x.size t.size
 |none=>false)&&(Nat.blt 0 t.size&&match P.underlying e with
 |some d=>d.isRow==t.isAgg
 |none=>false)
theorem Hf{P:Program}{e:TypeId}{t:Ty}(h:eokB P e t=true):I5 P e t:=by
 simp only[eokB,Bool.and_eq_true]at h
 obtain⟨h1,h2,h3⟩:=h
 refine⟨?_,Nat.le_of_ble_eq_true h2,?_⟩
 ·split at h1
  ·rename_i x hx;rw[hx,Option.map_some,Nat.eq_of_beq_eq_true h1]
  ·cases h1
 ·split at h3
  ·rename_i d hd;exact⟨d,hd,eq_of_beq h3⟩
  ·cases h3
def fsB(P:Program):List Field->Nat->Ty->Bool
 |[],_,.unit=>true
 |f::fs,off,.ak a b=>Nat.beq f.offset off&&(eokB P f.type a&&fsB P fs (off+a.size) b)
 |_,_,_=>false
theorem Qt{P:Program}:∀{fs:List Field} {off:Nat} {t:Ty},fsB P fs off t=true->BK P fs off t:=by
 intro fs
 induction fs with
 |nil=>
  intro off t h
  cases t<;>first|exact .nil|(simp[fsB]at h)
 |cons f fs ih=>
  intro off t h
  cases t<;>simp only[fsB,Bool.false_eq_true]at h
  simp only[Bool.and_eq_true]at h
  exact .cons (Nat.eq_of_beq_eq_true h.1) (Hf h.2.1) (ih h.2.2)
def shB(P:Program)(i:TypeId)(t:Ty)(e:Nat):Bool:=match P.underlying i,t with
 |some .bool,.bool=>true
 |some (.int k),.int k'=>decide (k=k')
 |some .string,.str=>true
 |some (.slice e'),.sl=>Nat.beq e' e
 |some (.pointer e'),.ptr=>Nat.beq e' e
 |some (.func ..),.fn=>true
 |some (.map k e'),.mp=>Nat.beq e' e&&match P.underlying k with
  |some (.int _)=>true
  |_=>false
 |some (.array n e'),.arr m u=>Nat.beq n m&&(Nat.beq e' e&&eokB P e u)
 |some (.struct fs),.ak a b=>fsB P fs.toList 0 (.ak a b)
 |_,_=>false
theorem Te{P:Program}{i:TypeId}{t:Ty}{e:Nat}(h:shB P i t e=true):xW P i t e:=by
 unfold shB at h
 split at h
 ·rename_i hu;exact hu
 ·rename_i hu;rw[of_decide_eq_true h]at hu;exact hu
 ·rename_i hu;exact hu
 ·rename_i hu;rw[Nat.eq_of_beq_eq_true h]at hu;exact hu
 ·rename_i hu;rw[Nat.eq_of_beq_eq_true h]at hu;exact hu
 ·rename_i hu;exact⟨_,_,_,hu⟩
 ·rename_i k e' hu
  simp only[Bool.and_eq_true]at h
  obtain⟨h1,h2⟩:=h
  have h1:=Nat.eq_of_beq_eq_true h1
  subst h1
  split at h2
  ·rename_i kd hk;exact⟨k,kd,hu,hk⟩
  ·cases h2
 ·rename_i n e' m u hu
  simp only[Bool.and_eq_true]at h
  obtain⟨h1,h2,h3⟩:=h
  have h1:=Nat.eq_of_beq_eq_true h1
  have h2:=Nat.eq_of_beq_eq_true h2
  subst h1;subst h2
  exact⟨hu,Hf h3⟩
 ·rename_i fs a b hu
  exact⟨fs,hu,Qt h⟩
 ·cases h
def tokB(P:Program)(i:Nat)(ti:TI):Bool:=(match P.info? i with
 |some x=>(match x.zero with
  |some z=>zeroB ti.ty z
  |none=>false)&&(Nat.beq x.size ti.ty.size&&Nat.beq x.bytes ti.bytes)
 |none=>false)&&(Nat.blt 0 ti.ty.size&&(Nat.blt 0 ti.bytes&&(shB P i ti.ty ti.el&&(!ti.cmp||a4x P i ti.ty))))
theorem Ot{P:Program}{i:Nat}{ti:TI}(h:tokB P i ti=true):xB P i ti:=by
 simp only[tokB,Bool.and_eq_true]at h
 obtain⟨h1,h2,h3,h4,h5⟩:=h
 refine⟨?_,Nat.le_of_ble_eq_true h2,Nat.le_of_ble_eq_true h3,Te h4,fun hc=>by rw[hc]at h5;simpa using h5⟩
 split at h1
 ·rename_i x hx
  simp only[Bool.and_eq_true]at h1
  obtain⟨k1,k2,k3⟩:=h1
  split at k1
  ·rename_i z hz
   rw[hx,Option.map_some,hz,Mx k1,Nat.eq_of_beq_eq_true k2,Nat.eq_of_beq_eq_true k3]
  ·cases k1
 ·cases h1
theorem Tw{P:Program}{T:Tr TI}(h:(T.toL 0 1 []).all (fun p=>tokB P p.1 p.2)=true):gj P T:=by
 intro i ti hi
 exact Ot (List.all_eq_true.1 h (i,ti) ((Tr.a4D T 0 1 [] i ti).2 (.inr ⟨i,by omega,hi⟩)))
end Go.Proofs.YtehbbcdhahnkgaaGreat.Vm
