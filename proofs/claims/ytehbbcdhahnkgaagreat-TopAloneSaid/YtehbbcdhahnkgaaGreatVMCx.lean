/- The beginning of the chain of contracts: terms are compared, the library's functions, what is shown by hand. The chain of contracts: every function makes of data what its plain twin makes. dataplane.Choose: what the value machine makes of its parts. -/
import Derived.Test.YtehbbcdhahnkgaaGreatVMKa
import Derived.Test.YtehbbcdhahnkgaaGreatVMIns
import Derived.Test.YtehbbcdhahnkgaaGreatVVrR
set_option linter.all false
set_option maxRecDepth 100000
set_option maxHeartbeats 0
namespace Go.Proofs.YtehbbcdhahnkgaaGreat.Vm
open Go
theorem xH{d:Bool}{P:Program}{f:Nat}{c:cN}{g:(tupT c.a).den->Option (tupT c.r).den}(h:dU d P f ⟨c.a,c.r,g⟩)(e:∀x,g x=c.f x):dU d P f c:=⟨h.1,fun F w x vals G y hy=>h.2 F w x vals G y ((e x).trans hy)⟩
theorem PS{d:Bool}{P:Program}{f:Nat}{c:uG}{g:List Int->Int->(tupT c.a).den->Option (Int×(tupT c.r).den)}(h:qx d P f ⟨c.el,c.a,c.r,g⟩)(e:∀l n x,g l n x=c.f l n x):qx d P f c:=⟨h.1,fun F w l n x sv vals G b y hy=>h.2 F w l n x sv vals G b y ((e l n x).trans hy)⟩
theorem JZ{d:Bool}{P:Program}{f:Nat}{a r:List DT}{g:Nat->(tupT a).den->Option (tupT r).den}(m:(tupT a).den->Nat)(h:∀n,dU d P f ⟨a,r,g n⟩):dU d P f ⟨a,r,fun x=>g (m x) x⟩:=⟨(h 0).1,fun F w x vals G y hy=>(h (m x)).2 F w x vals G y hy⟩
noncomputable def Gn(c:KL)(L:Nat):vC:=⟨⟨Ox,AF,Ts c,.lf,.lf⟩,Vg,L,20⟩
theorem a0x(L:Nat)(bq:Tm->Tm->Option Int)(x:(tupT (mE L).a).den):AE (Gn (Uf L bq) L) 30 179 (mE L).a (mE L).r x=nu L (fun _=>bq) x.1 x.2:=by kernel_rfl
theorem n84(L:Nat)(x:(tupT (L0 L).a).den):AE (Gn (WD L) L) 30 84 (L0 L).a (L0 L).r x=(L0 L).f x:=by kernel_rfl
theorem n81(L:Nat)(x:(tupT (P7 L).a).den):AE (Gn (WD L) L) 30 81 (P7 L).a (P7 L).r x=(P7 L).f x:=by kernel_rfl
theorem PV{c:KL}{L:Nat}(hc:wK (fun f c=>dU true Tryz.prog f c) c):sH true Tryz.prog (Gn c L):=
 ⟨nJ,fu,C7,fun f x h=>hc.get h,fun f x h=>(by cases h),fun f x h=>(by cases h)⟩
theorem Uq:∀n,dU true Tryz.prog 179 ⟨(mE LL).a,(mE LL).r,fun x=>a2o LL n x.1 x.2⟩
 |0=>⟨(has 179 (by kernel_rfl)),fun F w x vals G y hy=>by cases hy⟩
 |n+1=>by
  have h:=Uq n
  exact xH (c:=⟨(mE LL).a,(mE LL).r,fun x=>a2o LL (n+1) x.1 x.2⟩) (qz (k:=30) (PV (c:=Uf LL (a2o LL n)) h) (has 179 (by kernel_rfl))) (a0x LL _)
theorem Tn:dU true Tryz.prog 179 (mE LL):=JZ (a:=[TT,TT]) (r:=[.int .i64]) (g:=fun n x=>a2o LL n x.1 x.2) (fun x=>Tm.dep x.1) Uq
theorem t84:dU true Tryz.prog 84 (L0 LL):=xH (qz (k:=30) (PV (c:=WD LL) Tn) (has 84 (by kernel_rfl))) (n84 LL)
theorem t81:dU true Tryz.prog 81 (P7 LL):=xH (qz (k:=30) (PV (c:=WD LL) Tn) (has 81 (by kernel_rfl))) (n81 LL)
theorem tD:dU false Tryz.prog 179 (mE LL):=Tn.down
theorem WX:dU false Tryz.prog 84 (L0 LL):=t84.down
theorem HB:∀f c,O3.get f=some c->jS false Tryz.prog f c:=fun f c h=>by
 have t:wK (fun f c=>jS false Tryz.prog f c) [(24,n1 2 (.a01 aX)),(38,n1 1 (.a01 aX)),(39,n1 1 .bS),(40,n1 1 (.a01 gP)),(48,n1 1 (.a01 (.int .i64))),(49,n1 1 (.a01 gL)),(83,{kind:=3,t:=.otrees,fn:=84,f:=wq}),(111,n1 1 (.a01 sq)),(161,n1 1 (.a01 a0l)),(166,n1 2 (.a01 ji)),(167,n1 1 (.a01 ji)),(259,n1 1 (.a01 (.int .u64))),(290,n1 2 (.a01 a2T)),(291,n1 1 (.a01 a2T)),(299,n1 2 (.a01 sq)),(383,n1 2 (.a01 a0l))]:=⟨Vk,Vl,Vn,Vo,Vp,Vq,(Vr (by decide) (by decide) t84),Sz,SA,SB,SC,SD,SE,SF,SG,SH⟩
 have e:O3=Ts [(24,n1 2 (.a01 aX)),(38,n1 1 (.a01 aX)),(39,n1 1 .bS),(40,n1 1 (.a01 gP)),(48,n1 1 (.a01 (.int .i64))),(49,n1 1 (.a01 gL)),(83,{kind:=3,t:=.otrees,fn:=84,f:=wq}),(111,n1 1 (.a01 sq)),(161,n1 1 (.a01 a0l)),(166,n1 2 (.a01 ji)),(167,n1 1 (.a01 ji)),(259,n1 1 (.a01 (.int .u64))),(290,n1 2 (.a01 a2T)),(291,n1 1 (.a01 a2T)),(299,n1 2 (.a01 sq)),(383,n1 2 (.a01 a0l))]:=by kernel_rfl
 rw[e]at h
 intro ρ args n K S H r hd hr
 exact t.get h hd hr
theorem zh{c:KL}{p:KP}(hc:wK (fun f c=>dU false Tryz.prog f c) c)(hp:wK (fun f c=>qx false Tryz.prog f c) p):sH false Tryz.prog (Gm c p LL):=
 ⟨nJ,fu,C7,fun f x h=>hc.get h,HB,fun f x h=>hp.get h⟩
def O(f:Nat)(k:Nat->cN):Prop:=dU false Tryz.prog f (k LL)
def OP(f:Nat)(k:Nat->uG):Prop:=qx false Tryz.prog f (k LL)
theorem oF{c:KL}{p:KP}{f:Nat}{k:cN}(e:cZ LL c p f k)(hc:wK (fun f c=>dU false Tryz.prog f c) c:=by trivial)(hp:wK (fun f c=>qx false Tryz.prog f c) p:=by trivial)(h:(AF.get f).isSome=true:=by kernel_rfl):dU false Tryz.prog f k:=xH (qz (k:=30) (zh hc hp) (has f h)) e
theorem oP{c:KL}{p:KP}{f:Nat}{k:uG}(e:ON LL c p f k)(hc:wK (fun f c=>dU false Tryz.prog f c) c:=by trivial)(hp:wK (fun f c=>qx false Tryz.prog f c) p:=by trivial)(h:(AF.get f).isSome=true:=by kernel_rfl):qx false Tryz.prog f k:=PS (Q0 (k:=30) (zh hc hp) (has f h)) e
theorem WW:dU false Tryz.prog 51 (U1 LL):=Jb (d:=false) (by decide) (by decide) t81.down
theorem a0Z:dU false Tryz.prog 190 (QW LL):=FL LL
theorem o31:dU false Tryz.prog 31 (k31 LL):=J0 ⟨nJ,fu,C7,fun f x h=>(by cases h),HB,fun f x h=>(by cases h)⟩ (has 31 (by kernel_rfl)) (has 75 (by kernel_rfl)) LL
theorem o36:O 36 k36:=oF (e36 LL)
theorem o87:O 87 WR:=oF (e87 LL) WX
theorem o23:O 23 k23:=oF (e23 LL)
theorem a3p:O 155 lB:=oF (XS LL)
theorem a0U:O 164 a4W:=oF (XW LL)
theorem AN:O 321 xY:=oF (Ze LL)
theorem Cx:O 108 zJ:=oF (Xv LL) ⟨a3p,a0U,AN⟩
theorem a0V:O 171 QS:=oF (XY LL) Cx
theorem a0W:O 173 QT:=oF (XZ LL) ⟨Cx,a3p⟩
theorem o70:O 70 k70:=oF (e70 LL) ⟨a0V,a0W⟩
theorem VK:O 335 NG:=oF (Zj LL)
theorem a1p:O 267 Rn:=oF (YC LL) VK
theorem Lq:O 194 FT:=oF (Y5 LL) a1p
theorem a1i:O 223 Rg:=oF (Yo LL) Lq
theorem Vz:O 224 Nv:=oF (Yp LL)
theorem a1j:O 225 Rh:=oF (Yq LL) ⟨Lq,Vz⟩
theorem SP:O 138 KN:=oF (XI LL) ⟨a1i,Vz,a1j⟩
theorem Cy:O 158 zK:=oF (XV LL)
theorem a1m:O 258 Rk:=oF (Yy LL)
theorem a11:O 191 QX:=oF (Y2 LL) a1m
theorem a1L:O 329 RL:=oF (Zf LL)
theorem a1M:O 330 RM:=oF (Zg LL)
theorem a1n:O 260 Rl:=oF (Yz LL) ⟨a1L,a1M⟩
theorem a5D:O 192 QY:=oF (Y3 LL) a1n
theorem SV:O 262 KT:=oF (YA LL) tD
theorem a1N:O 332 RO:=oF (Zh LL)
theorem a1O:O 333 RP:=oF (Zi LL)
theorem a1o:O 263 Rm:=oF (YB LL) ⟨a1N,a1O⟩
theorem a13:O 193 QZ:=oF (Y4 LL) ⟨tD,SV,a1o⟩
theorem a0H:O 132 QF:=oF (XB LL) ⟨SP,a3p,Cy,tD,a11,a5D,a13,Lq⟩
theorem Vv:O 196 Nr:=oF (Y6 LL)
theorem O4:O 133 IC:=oF (XC LL) Vv
theorem rP:O 292 qB:=oF (YX LL)
theorem VB:O 276 Nx:=oF (YK LL) rP
theorem VL:O 340 NH:=oF (Zo LL) rP
theorem VC:O 279 Ny:=oF (YN LL) VL
theorem a1q:O 269 Ro:=oF (YD LL) ⟨VB,VC,rP⟩
theorem VG:O 286 NC:=oF (YT LL) tD
theorem a1r:O 270 Rp:=oF (YE LL) VG
theorem SY:O 336 KW:=oF (Zk LL) AN
theorem a1s:O 271 Rq:=oF (YF LL) SY
theorem a1P:O 337 RQ:=oF (Zl LL)
theorem a1Q:O 338 RU:=oF (Zm LL)
theorem a1t:O 272 Rr:=oF (YG LL) ⟨tD,SY,a1P,a1Q⟩
theorem a1R:O 339 RV:=oF (Zn LL)
theorem a1u:O 273 Rs:=oF (YH LL) ⟨SY,a1R⟩
theorem a1v:O 274 Rt:=oF (YI LL)
theorem VA:O 246 Nw:=oF (Yx LL)
theorem Lp:O 168 FQ:=oF (XX LL) VA
theorem SS:O 238 KR:=oF (Yu LL)
theorem SU:O 239 KS:=oF (Yv LL)
theorem O5:O 280 ID:=oF (YO LL) ⟨tD,VA,rP⟩
theorem IM:O 281 E5:=oF (YP LL)
theorem SZ:O 343 KX:=oF (Zp LL) tD
theorem VD:O 282 Nz:=oF (YQ LL) SZ
theorem VI:O 289 NF:=oF (YW LL)
theorem a1w:O 275 Ru:=oF (YJ LL) ⟨Lp,SS,SU,O5,IM,VD,VI,AN⟩
theorem a14:O 197 a4X:=oF (Y7 LL) ⟨a1q,a1r,a1s,a1t,a1u,a1v,a1w⟩
theorem Ek:O 278 AM:=oF (YM LL) rP
theorem a1x:O 277 Rv:=oF (YL LL) ⟨tD,Ek,rP,VL⟩
theorem a15:O 198 R4:=oF (Y8 LL) ⟨O4,a3p,Lp,tD,SS,SU,VB,a1x,Ek,VC,O5,IM,VD,AN⟩
theorem VE:O 283 NA:=oF (YR LL) rP
theorem VF:O 284 NB:=oF (YS LL) VE
theorem a1y:O 287 Rw:=oF (YU LL) SV
theorem VH:O 288 ND:=oF (YV LL)
theorem a16:O 199 R5:=oF (Y9 LL) ⟨Lp,O5,IM,VE,VF,VG,a1y,VH,VI,AN⟩
theorem a5E:O 200 R6:=oF (Ya LL) ⟨O4,a3p,tD,O5,IM,VF,VH⟩
theorem SQ:O 214 KO:=oF (Yg LL)
theorem Lr:O 243 FU:=oF (Yw LL)
theorem Ls:O 320 FV:=oF (Zd LL)
theorem a18:O 201 R7:=oF (Yb LL) ⟨a3p,SQ,Lr,Ls,AN⟩
theorem a0I:O 134 QG:=oF (XD LL) ⟨a14,a15,a16,a5E,a18⟩
theorem SO:O 135 KM:=oF (XF LL)
theorem Vw:O 204 Ns:=oF (Yc LL) ⟨O4,tD,Vv,SV⟩
theorem a19:O 205 R8:=oF (Yd LL) SO
theorem Vx:O 208 Nt:=oF (Ye LL) ⟨tD,SQ,Ek,rP⟩
theorem VN:O 346 NK:=oF (Zr LL)
theorem a5J:O 389 Sb:=oF (ZO LL) VK
theorem VO:O 347 NL:=oF (Zs LL) a5J
theorem a1z:O 294 Rx:=oF (YY LL) ⟨VN,VO⟩
theorem a1S:O 348 RW:=oF (Zt LL)
theorem a52:O 296 KU:=oF (YZ LL) a1S
theorem a0F:O 120 QD:=oF (Xz LL)
theorem a0Y:O 178 QV:=oF (Y1 LL)
theorem a0G:O 121 QE:=oF (XA LL) a0Y
theorem o77:O 77 WQ:=oF (e77 LL) ⟨a0F,a0G⟩
theorem VM:O 345 NJ:=oF (Zq LL) o77
theorem Vy:O 210 Nu:=oF (Yf LL) ⟨a3p,Lr,Ek,rP,a1z,a52,Ls,VM⟩
theorem a0J:O 136 QH:=oF (XG LL) ⟨SO,Vw,a19,Vx,Vy,SQ,AN⟩
theorem a1a:O 216 R9:=oF (Yh LL)
theorem a1T:O 349 RX:=oF (Zu LL) VO
theorem SX:O 300 KV:=oF (Z0 LL) ⟨a3p,Ek,rP,a52,VM,VN,a1T⟩
theorem a1b:O 217 Ra:=oF (Yi LL) ⟨a3p,Vx,rP,SX⟩
theorem a1c:O 218 Rb:=oF (Yj LL)
theorem Vu:O 157 Nq:=oF (XU LL)
theorem IN:O 307 E6:=oF (Z4 LL) ⟨a3p,AN⟩
theorem a1U:O 352 RY:=oF (Zv LL)
theorem VP:O 353 NM:=oF (Zw LL) ⟨Ek,rP⟩
theorem VX:O 392 NU:=oF (ZP LL)
theorem a5F:O 380 S6:=oF (ZJ LL) ⟨IM,VX⟩
theorem a5G:O 381 S7:=oF (ZK LL) ⟨IM,VX⟩
theorem VQ:O 354 NN:=oF (Zx LL) ⟨a5F,a5G⟩
theorem a1A:O 304 Rz:=oF (Z1 LL) ⟨a3p,Vu,IN,SZ,a1U,VP,VQ⟩
theorem VR:O 356 NO:=oF (Zy LL)
theorem VS:O 357 NP:=oF (Zz LL) rP
theorem a5H:O 382 S8:=oF (ZL LL) a3p
theorem VT:O 358 NQ:=oF (ZA LL) a5H
theorem a1V:O 359 RZ:=oF (ZB LL)
theorem a1B:O 305 RA:=oF (Z2 LL) ⟨a3p,Cy,Lr,Ek,a52,IN,Ls,VR,VS,VT,a1V⟩
theorem VU:O 360 NR:=oF (ZC LL) rP
theorem a1W:O 361 S2:=oF (ZD LL) rP
theorem a1C:O 306 RB:=oF (Z3 LL) ⟨a3p,Vy,IN,VR,VU,a1W⟩
theorem SR:O 235 KQ:=oF (Yt LL) a3p
theorem a1X:O 363 S3:=oF (ZE LL) a3p
theorem T0:O 364 KY:=oF (ZF LL) Cy
theorem a1D:O 308 RC:=oF (Z5 LL) ⟨Cy,SR,rP,IN,VT,a1X,T0⟩
theorem a1E:O 309 RD:=oF (Z6 LL) ⟨a3p,rP,IN⟩
theorem a1d:O 219 Rc:=oF (Yk LL) ⟨rP,a1A,a1B,a1C,IN,a1D,a1E⟩
theorem a1f:O 220 a4Y:=oF (Yl LL) a3p
theorem a1g:O 221 Re:=oF (Ym LL)
theorem a1F:O 310 RE:=oF (Z7 LL) a3p
theorem a1G:O 313 RF:=oF (Z8 LL) ⟨SR,T0⟩
theorem a1H:O 314 RG:=oF (Z9 LL) ⟨SX,VU⟩
theorem Lo:O 156 FP:=oF (XT LL)
theorem Vs:O 104 No:=oF (Xt LL) ⟨Cx,a3p,Lo,Cy⟩
theorem VV:O 367 NS:=oF (ZG LL) Vs
theorem a5K:O 394 Sd:=oF (ZR LL)
theorem a27:O 393 Sc:=oF (ZQ LL) ⟨tD,a5K⟩
theorem VW:O 385 NT:=oF (ZN LL) a27
theorem a5I:O 384 S9:=oF (ZM LL) VW
theorem a1Y:O 368 S4:=oF (ZH LL) ⟨Cy,tD,VV,a5I⟩
theorem a1I:O 315 RH:=oF (Za LL) ⟨Cy,Ek,SX,VS,T0,VV,a1Y⟩
theorem Vt:O 105 Np:=oF (Xu LL) ⟨Cx,a3p⟩
theorem a1Z:O 369 S5:=oF (ZI LL) ⟨tD,VW⟩
theorem a1J:O 316 RI:=oF (Zb LL) ⟨Vt,a3p,SZ,VP,VQ,a1Z⟩
theorem a1K:O 317 RJ:=oF (Zc LL) ⟨a3p,tD,rP⟩
theorem a1h:O 222 Rf:=oF (Yn LL) ⟨a1F,a1G,a1H,a1I,a1J,a1K⟩
theorem a0K:O 137 QI:=oF (XH LL) ⟨Vw,a1a,a1b,a1c,a1d,a1f,a1g,a1h⟩
theorem o93:O 93 k93:=oF (e93 LL) ⟨WW,a0H,O4,a0I,SO,a0J,a0K,tD⟩
theorem a1k:O 228 Ri:=oF (Yr LL)
theorem a0M:O 143 QJ:=oF (XJ LL) ⟨a3p,Cy,a1k⟩
theorem o99:O 99 WS:=oF (e99 LL) ⟨Lp,SS,SU,AN⟩
theorem a1l:O 231 Rj:=oF (Ys LL) ⟨Cx,a3p,Lo,Lr,Ls⟩
theorem a0N:O 144 QK:=oF (XK LL) ⟨o99,Lo,Lq,a1l⟩
theorem o95:O 95 k95:=oF (e95 LL) SP
theorem a0O:O 145 QL:=oF (XL LL)
theorem a0P:O 146 QM:=oF (XM LL)
theorem a0Q:O 147 QN:=oF (XN LL) SR
theorem a0R:O 148 QO:=oF (XO LL) Cx
theorem a0S:O 149 a4U:=oF (XP LL)
theorem o96:O 96 k96:=oF (e96 LL) ⟨a0O,a0P,a0Q,a0R,a0S⟩
theorem a0A:O 101 Qy:=oF (Xr LL) ⟨Cx,a3p,Lo,Vu⟩
theorem a0B:O 103 Qz:=oF (Xs LL) ⟨Cx,a3p,Lo,Cy,Lr,Ls⟩
theorem a0C:O 109 QA:=oF (Xw LL)
theorem a0D:O 110 QB:=oF (Xx LL) ⟨Lp,AN⟩
theorem a0T:O 154 a4V:=oF (XR LL)
theorem o17:O 17 ZZ:=oF (e17 LL)
theorem o19:OP 19 WM:=oP (e19 LL)
theorem VJ:OP 30 Ry:=oP (e30 LL) trivial o19
theorem o76:O 76 k76:=oF (e76 LL)
theorem o47:O 47 k47:=oF (e47 LL) ⟨o76,o77⟩
theorem o32:O 32 k32:=oF (e32 LL) o47
theorem o33:O 33 k33:=oF (e33 LL)
theorem o18:OP 18 WL:=oP (e18 LL) ⟨o31,o32,o33⟩ VJ
theorem o15:OP 15 ZX:=oP (XQ LL) trivial VJ
theorem o34:OP 34 k34:=oP (e34 LL) trivial ⟨o15,VJ⟩
theorem o35:OP 35 k35:=oP (e35 LL) trivial VJ
theorem o20:OP 20 k20:=oP (e20 LL) trivial ⟨VJ,o34,o35⟩
theorem o21:O 21 k21:=oF (e21 LL)
theorem o16:O 16 ZY:=oF (e16 LL)
theorem o72:O 72 k72:=oF (e72 LL)
theorem a0X:O 174 QU:=oF (Y0 LL)
theorem a0E:O 113 QC:=oF (Xy LL) a0X
theorem o71:O 71 WO:=oF (e71 LL) ⟨o72,a0E⟩
theorem o43:O 43 k43:=oF (e43 LL) o71
theorem o44:O 44 k44:=oF (e44 LL)
theorem o45:O 45 k45:=oF (e45 LL) ⟨o71,o72⟩
theorem o28:O 28 WN:=oF (e28 LL) ⟨o43,o44,o45⟩
theorem o10:O 10 ZU:=oF (OW LL) ⟨o16,o28⟩
theorem o11:O 11 ZV:=oF (He LL) o28
theorem T2:∀n,dU false Tryz.prog 56 ⟨(KZ LL).a,(KZ LL).r,fun x=>(bP LL n).1 x.1 x.2⟩/\dU false Tryz.prog 91 ⟨(P8 LL).a,(P8 LL).r,fun x=>(bP LL n).2 x.1 x.2.1 x.2.2⟩
 |0=>⟨⟨(has 56 (by kernel_rfl)),fun F w x vals G y hy=>by cases hy⟩,⟨(has 91 (by kernel_rfl)),fun F w x vals G y hy=>by cases hy⟩⟩
 |n+1=>by
  obtain⟨h56,h91⟩:=T2 n
  exact⟨xH (c:=⟨(KZ LL).a,(KZ LL).r,fun x=>(bP LL (n+1)).1 x.1 x.2⟩) (qz (k:=30) (zh (c:=(c56 LL (bP LL n).1 (bP LL n).2)) (p:=[]) ⟨h56,o87,h91⟩ trivial) (has 56 (by kernel_rfl))) (e56 LL _ _),xH (c:=⟨(P8 LL).a,(P8 LL).r,fun x=>(bP LL (n+1)).2 x.1 x.2.1 x.2.2⟩) (qz (k:=30) (zh (c:=(c91 LL (bP LL n).1)) (p:=[]) ⟨h56,o87⟩ trivial) (has 91 (by kernel_rfl))) (e91 LL _)⟩
theorem o56:dU false Tryz.prog 56 (KZ LL):=JZ (a:=[.bS,TT]) (r:=[.bool]) (g:=fun n x=>(bP LL n).1 x.1 x.2) (fun x=>2*Tm.dep x.2+2) fun n=>(T2 n).1
theorem T1:dU false Tryz.prog 91 (P8 LL):=JZ (a:=[.bS,TT,TT]) (r:=[.bool]) (g:=fun n x=>(bP LL n).2 x.1 x.2.1 x.2.2) (fun x=>2*Tm.dep x.2.1+2*Tm.dep x.2.2+2) fun n=>(T2 n).2
theorem o54:O 54 k54:=oF (e54 LL) o56
theorem o55:O 55 k55:=oF (e55 LL) ⟨WW,o56,WX,a0Z⟩
theorem o37:O 37 k37:=oF (e37 LL) ⟨WW,o54,o55,o56⟩
theorem o22:O 22 k22:=oF (e22 LL) ⟨o36,o37⟩
noncomputable def M4:Code->Code
 | .seq a _=>a
 |_=>.skip
noncomputable def M5:Code->Code
 | .seq _ b=>b
 |_=>.skip
noncomputable def X8:Code->Code
 | .block _ c=>c
 |_=>.skip
noncomputable def rfA:Code->Code
 | .rangeFunc _ _ a _=>a
 |_=>.skip
noncomputable def rfB:Code->Code
 | .rangeFunc _ _ _ b=>b
 |_=>.skip
noncomputable def WE:Code:=Tryz.f142.body.getD .skip
noncomputable def Ug:Code:=M4 WE
noncomputable def Uh:Code:=M4 (M4 (M5 WE))
noncomputable def chF:Code:=X8 (M5 (M4 (M5 WE)))
noncomputable def MS:Code:=rfA chF
noncomputable def PO:Code:=rfB chF
noncomputable def PN:Code:=M4 (M5 (M5 WE))
theorem MT:Tryz.f142.body=some (.seq Ug (.seq (.seq Uh (.block 0 (.rangeFunc (.tmp 11) #[12,13] MS PO))) (.seq PN .ret))):=by kernel_rfl
structure Bx where
 id:Nat
 el:Nat
 cs:List HV
noncomputable def ue:List Bx->Nat->Option Ob
 |[],_=>none
 |q::l,i=>bif Nat.beq q.id i then some (.cells q.el q.cs)else ue l i
noncomputable def Om:List (Nat×HV)->Tr HV
 |[]=>.lf
 |p::l=>(Om l).set (some p.2) p.1
noncomputable def cellOf:Option (Option Ob)->Option (Nat×List HV)
 |some (some (.cells el cs))=>some (el,cs)
 |_=>none
noncomputable def unB(G:GS)(i:Nat):Bool:=match G.st.get i with
 |none=>true
 |some _=>false
noncomputable def kPre(e:XE)(G:GS):RT ((Nat×Nat×Nat×Nat×Nat)×List (Option (Nat×List HV))):=match e,G.bk.get 3,G.bk.get 4,G.bk.get 5,G.bk.get 6,G.bk.get 11 with
 | .normal,some (.p a 0),some (.p b 0),some (.p c 0),some (.p d 0),some (.fn 318 [] [.p f 0])=>.dH ((a,b,c,d,f),[cellOf (G.st.get a),cellOf (G.st.get b),cellOf (G.st.get c),cellOf (G.st.get d),cellOf (G.st.get f)])
 |_,_,_,_,_,_=>.fail 1
noncomputable def Ue:KL:=[(155,lB LL),(194,FT LL)]
noncomputable def chΓ:vC:=Gm Ue [] LL
noncomputable def Ih:a2D:=Oj chΓ 5
theorem N7(g:aa)(r:Int)(p:a05):(codeRT chΓ Ih 142 Ug {bk:=numbered 0 (O1 [aq,.int .i64,cK] (g,r,p) 0) .lf,st:=.lf,ca:=.lf,next:=8} (yf kPre (codeRT chΓ Ih 142 Uh))).run (fun _=>none) (fun _=>none)=
 some ((8,9,10,11,12),[some (34,exC aq g 0),some (3,[.i .i64 r]),some (52,exC cK p 8),some (3,[.i .i64 0]),some (31,[.lv (.a01 a0l) (aa.af g) 6])]):=by kernel_rfl
noncomputable def kM(g:aa)(r:Int)(p:a05):List Bx:=[⟨200,34,exC aq g 0⟩,⟨201,3,[.i .i64 r]⟩,⟨202,52,exC cK p 8⟩,⟨203,3,[.i .i64 0]⟩]
noncomputable def kAsg(e:XE)(G:GS):RT (Nat×Option (Nat×List HV)):=match e,G.bk.get 3,G.bk.get 4,G.bk.get 5,G.bk.get 6,G.bk.get 8 with
 | .normal,some (.p 200 0),some (.p 201 0),some (.p 202 0),some (.p 203 0),some (.p f 0)=>bif unB G 200&&unB G 201&&unB G 202&&unB G 203 then .dH (f,cellOf (G.st.get f))else .fail 2
 |_,_,_,_,_,_=>.fail 1
noncomputable def TV:List (Nat×HV):=[(3,.p 200 0),(4,.p 201 0),(5,.p 202 0),(6,.p 203 0)]
theorem Q1(g:aa)(r:Int)(p:a05)(c:a00):(codeRT chΓ Ih 142 MS {bk:=Om ((13,.agg (exC a0l c 20))::TV),st:=.lf,ca:=.lf,next:=300} kAsg).run (fun _=>none) (ue (kM g r p))=some (300,some (81,exC a0l c 20)):=by kernel_rfl
noncomputable def kBody(e:XE)(G:GS):RT (Option Int):=match e with
 | .normal=>bif unB G 200&&unB G 201&&unB G 202&&unB G 203 then .dH none else .fail 2
 | .ret=>match G.st.get 203,G.bk.get 3,G.bk.get 4,G.bk.get 5,G.bk.get 6 with
   |some (some (.cells 3 [.i .i64 v])),some (.p 200 0),some (.p 201 0),some (.p 202 0),some (.p 203 0)=>.dH (some v)
   |_,_,_,_,_=>.fail 3
 |_=>.fail 4
noncomputable def p9(L:Nat)(g:aa)(r:Int)(p:a05)(c:a00):Option (Option Int):=
 bif aH (a00.state c) 1 then
  bif aH (a00.dm c) r then
   Option.bind (cS L (a00.box c) p true) fun h=>
   bif h then
    Option.bind (bz L g (a00.sa c)) fun i=>
    bif !(aF i 0)then
     bif aF (a00.sent c) 200 then some (some (a00.eI c))else some none
    else some none
   else some none
  else some none
 else some none
theorem N6(g:aa)(r:Int)(p:a05)(c:a00):(codeRT chΓ Ih 142 PO {bk:=Om ((8,.p 204 0)::TV),st:=.lf,ca:=.lf,next:=300} kBody).run (fun _=>none) (ue (⟨204,81,exC a0l c 20⟩::kM g r p))=p9 LL g r p c:=by kernel_rfl
noncomputable def kEnd(e:XE)(G:GS):RT Unit:=match e,G.st.get 203,G.bk.get 6 with
 | .normal,some (some (.cells 3 [.i .i64 0])),some (.p 203 0)=>.dH ()
 |_,_,_=>.fail 1
theorem Q3:(codeRT chΓ Ih 142 PN {bk:=Om [(6,.p 203 0)],st:=.lf,ca:=.lf,next:=300} kEnd).run (fun _=>none) (ue [⟨203,3,[.i .i64 0]⟩])=some ():=by kernel_rfl
end Go.Proofs.YtehbbcdhahnkgaaGreat.Vm
