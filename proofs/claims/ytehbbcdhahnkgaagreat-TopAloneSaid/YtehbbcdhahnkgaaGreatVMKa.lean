/- Equations. Equations: what an attacker can derive. -/
import Derived.Test.YtehbbcdhahnkgaaGreatVMFh
import Derived.KernelRfl
set_option linter.all false
set_option maxRecDepth 100000
set_option maxHeartbeats 0
namespace Go.Proofs.YtehbbcdhahnkgaaGreat.Vm
open Go
noncomputable section
theorem e36(L):cZ L [] [] 36 (k36 L):=fun x=>by kernel_rfl
theorem e22(L):cZ L [(36,k36 L),(37,k37 L)] [] 22 (k22 L):=fun x=>by kernel_rfl
theorem e23(L):cZ L [] [] 23 (k23 L):=fun x=>by kernel_rfl
def Uf(L:Nat)(bq:Tm->Tm->Option Int):List (Nat×cN):=[(179,⟨[TT,TT],[dI],fun x=>bq x.1 x.2⟩)]
theorem XS(L):cZ L [] [] 155 (lB L):=fun x=>by kernel_rfl
theorem XW(L):cZ L [] [] 164 (a4W L):=fun x=>by kernel_rfl
theorem Ze(L):cZ L [] [] 321 (xY L):=fun x=>by kernel_rfl
theorem Xv(L):cZ L [(155,lB L),(164,a4W L),(321,xY L)] [] 108 (zJ L):=fun x=>by kernel_rfl
theorem XY(L):cZ L [(108,zJ L)] [] 171 (QS L):=fun x=>by kernel_rfl
theorem XZ(L):cZ L [(108,zJ L),(155,lB L)] [] 173 (QT L):=fun x=>by kernel_rfl
theorem e70(L):cZ L [(171,QS L),(173,QT L)] [] 70 (k70 L):=fun x=>by kernel_rfl
theorem Zj(L):cZ L [] [] 335 (NG L):=fun x=>by kernel_rfl
theorem YC(L):cZ L [(335,NG L)] [] 267 (Rn L):=fun x=>by kernel_rfl
theorem Y5(L):cZ L [(267,Rn L)] [] 194 (FT L):=fun x=>by kernel_rfl
theorem Yo(L):cZ L [(194,FT L)] [] 223 (Rg L):=fun x=>by kernel_rfl
theorem Yp(L):cZ L [] [] 224 (Nv L):=fun x=>by kernel_rfl
theorem Yq(L):cZ L [(194,FT L),(224,Nv L)] [] 225 (Rh L):=fun x=>by kernel_rfl
theorem XI(L):cZ L [(223,Rg L),(224,Nv L),(225,Rh L)] [] 138 (KN L):=fun x=>by kernel_rfl
theorem XV(L):cZ L [] [] 158 (zK L):=fun x=>by kernel_rfl
theorem Yy(L):cZ L [] [] 258 (Rk L):=fun x=>by kernel_rfl
theorem Y2(L):cZ L [(258,Rk L)] [] 191 (QX L):=fun x=>by kernel_rfl
theorem Zf(L):cZ L [] [] 329 (RL L):=fun x=>by kernel_rfl
theorem Zg(L):cZ L [] [] 330 (RM L):=fun x=>by kernel_rfl
theorem Yz(L):cZ L [(329,RL L),(330,RM L)] [] 260 (Rl L):=fun x=>by kernel_rfl
theorem Y3(L):cZ L [(260,Rl L)] [] 192 (QY L):=fun x=>by kernel_rfl
theorem YA(L):cZ L [(179,mE L)] [] 262 (KT L):=fun x=>by kernel_rfl
theorem Zh(L):cZ L [] [] 332 (RO L):=fun x=>by kernel_rfl
theorem Zi(L):cZ L [] [] 333 (RP L):=fun x=>by kernel_rfl
theorem YB(L):cZ L [(332,RO L),(333,RP L)] [] 263 (Rm L):=fun x=>by kernel_rfl
theorem Y4(L):cZ L [(179,mE L),(262,KT L),(263,Rm L)] [] 193 (QZ L):=fun x=>by kernel_rfl
theorem XB(L):cZ L [(138,KN L),(155,lB L),(158,zK L),(179,mE L),(191,QX L),(192,QY L),(193,QZ L),(194,FT L)] [] 132 (QF L):=fun x=>by kernel_rfl
theorem Y6(L):cZ L [] [] 196 (Nr L):=fun x=>by kernel_rfl
theorem XC(L):cZ L [(196,Nr L)] [] 133 (IC L):=fun x=>by kernel_rfl
theorem YX(L):cZ L [] [] 292 (qB L):=fun x=>by kernel_rfl
theorem YK(L):cZ L [(292,qB L)] [] 276 (Nx L):=fun x=>by kernel_rfl
theorem Zo(L):cZ L [(292,qB L)] [] 340 (NH L):=fun x=>by kernel_rfl
theorem YN(L):cZ L [(340,NH L)] [] 279 (Ny L):=fun x=>by kernel_rfl
theorem YD(L):cZ L [(276,Nx L),(279,Ny L),(292,qB L)] [] 269 (Ro L):=fun x=>by kernel_rfl
theorem YT(L):cZ L [(179,mE L)] [] 286 (NC L):=fun x=>by kernel_rfl
theorem YE(L):cZ L [(286,NC L)] [] 270 (Rp L):=fun x=>by kernel_rfl
theorem Zk(L):cZ L [(321,xY L)] [] 336 (KW L):=fun x=>by kernel_rfl
theorem YF(L):cZ L [(336,KW L)] [] 271 (Rq L):=fun x=>by kernel_rfl
theorem Zl(L):cZ L [] [] 337 (RQ L):=fun x=>by kernel_rfl
theorem Zm(L):cZ L [] [] 338 (RU L):=fun x=>by kernel_rfl
theorem YG(L):cZ L [(179,mE L),(336,KW L),(337,RQ L),(338,RU L)] [] 272 (Rr L):=fun x=>by kernel_rfl
theorem Zn(L):cZ L [] [] 339 (RV L):=fun x=>by kernel_rfl
theorem YH(L):cZ L [(336,KW L),(339,RV L)] [] 273 (Rs L):=fun x=>by kernel_rfl
theorem YI(L):cZ L [] [] 274 (Rt L):=fun x=>by kernel_rfl
theorem Yx(L):cZ L [] [] 246 (Nw L):=fun x=>by kernel_rfl
theorem XX(L):cZ L [(246,Nw L)] [] 168 (FQ L):=fun x=>by kernel_rfl
theorem Yu(L):cZ L [] [] 238 (KR L):=fun x=>by kernel_rfl
theorem Yv(L):cZ L [] [] 239 (KS L):=fun x=>by kernel_rfl
theorem YO(L):cZ L [(179,mE L),(246,Nw L),(292,qB L)] [] 280 (ID L):=fun x=>by kernel_rfl
theorem YP(L):cZ L [] [] 281 (E5 L):=fun x=>by kernel_rfl
theorem Zp(L):cZ L [(179,mE L)] [] 343 (KX L):=fun x=>by kernel_rfl
theorem YQ(L):cZ L [(343,KX L)] [] 282 (Nz L):=fun x=>by kernel_rfl
theorem YW(L):cZ L [] [] 289 (NF L):=fun x=>by kernel_rfl
theorem YJ(L):cZ L [(168,FQ L),(238,KR L),(239,KS L),(280,ID L),(281,E5 L),(282,Nz L),(289,NF L),(321,xY L)] [] 275 (Ru L):=fun x=>by kernel_rfl
theorem Y7(L):cZ L [(269,Ro L),(270,Rp L),(271,Rq L),(272,Rr L),(273,Rs L),(274,Rt L),(275,Ru L)] [] 197 (a4X L):=fun x=>by kernel_rfl
theorem YM(L):cZ L [(292,qB L)] [] 278 (AM L):=fun x=>by kernel_rfl
theorem YL(L):cZ L [(179,mE L),(278,AM L),(292,qB L),(340,NH L)] [] 277 (Rv L):=fun x=>by kernel_rfl
theorem Y8(L):cZ L [(133,IC L),(155,lB L),(168,FQ L),(179,mE L),(238,KR L),(239,KS L),(276,Nx L),(277,Rv L),(278,AM L),(279,Ny L),(280,ID L),(281,E5 L),(282,Nz L),(321,xY L)] [] 198 (R4 L):=fun x=>by kernel_rfl
theorem YR(L):cZ L [(292,qB L)] [] 283 (NA L):=fun x=>by kernel_rfl
theorem YS(L):cZ L [(283,NA L)] [] 284 (NB L):=fun x=>by kernel_rfl
theorem YU(L):cZ L [(262,KT L)] [] 287 (Rw L):=fun x=>by kernel_rfl
theorem YV(L):cZ L [] [] 288 (ND L):=fun x=>by kernel_rfl
theorem Y9(L):cZ L [(168,FQ L),(280,ID L),(281,E5 L),(283,NA L),(284,NB L),(286,NC L),(287,Rw L),(288,ND L),(289,NF L),(321,xY L)] [] 199 (R5 L):=fun x=>by kernel_rfl
theorem Ya(L):cZ L [(133,IC L),(155,lB L),(179,mE L),(280,ID L),(281,E5 L),(284,NB L),(288,ND L)] [] 200 (R6 L):=fun x=>by kernel_rfl
theorem Yg(L):cZ L [] [] 214 (KO L):=fun x=>by kernel_rfl
theorem Yw(L):cZ L [] [] 243 (FU L):=fun x=>by kernel_rfl
theorem Zd(L):cZ L [] [] 320 (FV L):=fun x=>by kernel_rfl
theorem Yb(L):cZ L [(155,lB L),(214,KO L),(243,FU L),(320,FV L),(321,xY L)] [] 201 (R7 L):=fun x=>by kernel_rfl
theorem XD(L):cZ L [(197,a4X L),(198,R4 L),(199,R5 L),(200,R6 L),(201,R7 L)] [] 134 (QG L):=fun x=>by kernel_rfl
theorem XF(L):cZ L [] [] 135 (KM L):=fun x=>by kernel_rfl
theorem Yc(L):cZ L [(133,IC L),(179,mE L),(196,Nr L),(262,KT L)] [] 204 (Ns L):=fun x=>by kernel_rfl
theorem Yd(L):cZ L [(135,KM L)] [] 205 (R8 L):=fun x=>by kernel_rfl
theorem Ye(L):cZ L [(179,mE L),(214,KO L),(278,AM L),(292,qB L)] [] 208 (Nt L):=fun x=>by kernel_rfl
theorem Zr(L):cZ L [] [] 346 (NK L):=fun x=>by kernel_rfl
theorem ZO(L):cZ L [(335,NG L)] [] 389 (Sb L):=fun x=>by kernel_rfl
theorem Zs(L):cZ L [(389,Sb L)] [] 347 (NL L):=fun x=>by kernel_rfl
theorem YY(L):cZ L [(346,NK L),(347,NL L)] [] 294 (Rx L):=fun x=>by kernel_rfl
theorem Zt(L):cZ L [] [] 348 (RW L):=fun x=>by kernel_rfl
theorem YZ(L):cZ L [(348,RW L)] [] 296 (KU L):=fun x=>by kernel_rfl
theorem Xz(L):cZ L [] [] 120 (QD L):=fun x=>by kernel_rfl
theorem Y1(L):cZ L [] [] 178 (QV L):=fun x=>by kernel_rfl
theorem XA(L):cZ L [(178,QV L)] [] 121 (QE L):=fun x=>by kernel_rfl
theorem e77(L):cZ L [(120,QD L),(121,QE L)] [] 77 (WQ L):=fun x=>by kernel_rfl
theorem Zq(L):cZ L [(77,WQ L)] [] 345 (NJ L):=fun x=>by kernel_rfl
theorem Yf(L):cZ L [(155,lB L),(243,FU L),(278,AM L),(292,qB L),(294,Rx L),(296,KU L),(320,FV L),(345,NJ L)] [] 210 (Nu L):=fun x=>by kernel_rfl
theorem XG(L):cZ L [(135,KM L),(204,Ns L),(205,R8 L),(208,Nt L),(210,Nu L),(214,KO L),(321,xY L)] [] 136 (QH L):=fun x=>by kernel_rfl
theorem Yh(L):cZ L [] [] 216 (R9 L):=fun x=>by kernel_rfl
theorem Zu(L):cZ L [(347,NL L)] [] 349 (RX L):=fun x=>by kernel_rfl
theorem Z0(L):cZ L [(155,lB L),(278,AM L),(292,qB L),(296,KU L),(345,NJ L),(346,NK L),(349,RX L)] [] 300 (KV L):=fun x=>by kernel_rfl
theorem Yi(L):cZ L [(155,lB L),(208,Nt L),(292,qB L),(300,KV L)] [] 217 (Ra L):=fun x=>by kernel_rfl
theorem Yj(L):cZ L [] [] 218 (Rb L):=fun x=>by kernel_rfl
theorem XU(L):cZ L [] [] 157 (Nq L):=fun x=>by kernel_rfl
theorem Z4(L):cZ L [(155,lB L),(321,xY L)] [] 307 (E6 L):=fun x=>by kernel_rfl
theorem Zv(L):cZ L [] [] 352 (RY L):=fun x=>by kernel_rfl
theorem Zw(L):cZ L [(278,AM L),(292,qB L)] [] 353 (NM L):=fun x=>by kernel_rfl
theorem ZP(L):cZ L [] [] 392 (NU L):=fun x=>by kernel_rfl
theorem ZJ(L):cZ L [(281,E5 L),(392,NU L)] [] 380 (S6 L):=fun x=>by kernel_rfl
theorem ZK(L):cZ L [(281,E5 L),(392,NU L)] [] 381 (S7 L):=fun x=>by kernel_rfl
theorem Zx(L):cZ L [(380,S6 L),(381,S7 L)] [] 354 (NN L):=fun x=>by kernel_rfl
theorem Z1(L):cZ L [(155,lB L),(157,Nq L),(307,E6 L),(343,KX L),(352,RY L),(353,NM L),(354,NN L)] [] 304 (Rz L):=fun x=>by kernel_rfl
theorem Zy(L):cZ L [] [] 356 (NO L):=fun x=>by kernel_rfl
theorem Zz(L):cZ L [(292,qB L)] [] 357 (NP L):=fun x=>by kernel_rfl
theorem ZL(L):cZ L [(155,lB L)] [] 382 (S8 L):=fun x=>by kernel_rfl
theorem ZA(L):cZ L [(382,S8 L)] [] 358 (NQ L):=fun x=>by kernel_rfl
theorem ZB(L):cZ L [] [] 359 (RZ L):=fun x=>by kernel_rfl
theorem Z2(L):cZ L [(155,lB L),(158,zK L),(243,FU L),(278,AM L),(296,KU L),(307,E6 L),(320,FV L),(356,NO L),(357,NP L),(358,NQ L),(359,RZ L)] [] 305 (RA L):=fun x=>by kernel_rfl
theorem ZC(L):cZ L [(292,qB L)] [] 360 (NR L):=fun x=>by kernel_rfl
theorem ZD(L):cZ L [(292,qB L)] [] 361 (S2 L):=fun x=>by kernel_rfl
theorem Z3(L):cZ L [(155,lB L),(210,Nu L),(307,E6 L),(356,NO L),(360,NR L),(361,S2 L)] [] 306 (RB L):=fun x=>by kernel_rfl
theorem Yt(L):cZ L [(155,lB L)] [] 235 (KQ L):=fun x=>by kernel_rfl
theorem ZE(L):cZ L [(155,lB L)] [] 363 (S3 L):=fun x=>by kernel_rfl
theorem ZF(L):cZ L [(158,zK L)] [] 364 (KY L):=fun x=>by kernel_rfl
theorem Z5(L):cZ L [(158,zK L),(235,KQ L),(292,qB L),(307,E6 L),(358,NQ L),(363,S3 L),(364,KY L)] [] 308 (RC L):=fun x=>by kernel_rfl
theorem Z6(L):cZ L [(155,lB L),(292,qB L),(307,E6 L)] [] 309 (RD L):=fun x=>by kernel_rfl
theorem Yk(L):cZ L [(292,qB L),(304,Rz L),(305,RA L),(306,RB L),(307,E6 L),(308,RC L),(309,RD L)] [] 219 (Rc L):=fun x=>by kernel_rfl
theorem Yl(L):cZ L [(155,lB L)] [] 220 (a4Y L):=fun x=>by kernel_rfl
theorem Ym(L):cZ L [] [] 221 (Re L):=fun x=>by kernel_rfl
theorem Z7(L):cZ L [(155,lB L)] [] 310 (RE L):=fun x=>by kernel_rfl
theorem Z8(L):cZ L [(235,KQ L),(364,KY L)] [] 313 (RF L):=fun x=>by kernel_rfl
theorem Z9(L):cZ L [(300,KV L),(360,NR L)] [] 314 (RG L):=fun x=>by kernel_rfl
theorem XT(L):cZ L [] [] 156 (FP L):=fun x=>by kernel_rfl
theorem Xt(L):cZ L [(108,zJ L),(155,lB L),(156,FP L),(158,zK L)] [] 104 (No L):=fun x=>by kernel_rfl
theorem ZG(L):cZ L [(104,No L)] [] 367 (NS L):=fun x=>by kernel_rfl
theorem ZR(L):cZ L [] [] 394 (Sd L):=fun x=>by kernel_rfl
theorem ZQ(L):cZ L [(179,mE L),(394,Sd L)] [] 393 (Sc L):=fun x=>by kernel_rfl
theorem ZN(L):cZ L [(393,Sc L)] [] 385 (NT L):=fun x=>by kernel_rfl
theorem ZM(L):cZ L [(385,NT L)] [] 384 (S9 L):=fun x=>by kernel_rfl
theorem ZH(L):cZ L [(158,zK L),(179,mE L),(367,NS L),(384,S9 L)] [] 368 (S4 L):=fun x=>by kernel_rfl
theorem Za(L):cZ L [(158,zK L),(278,AM L),(300,KV L),(357,NP L),(364,KY L),(367,NS L),(368,S4 L)] [] 315 (RH L):=fun x=>by kernel_rfl
theorem Xu(L):cZ L [(108,zJ L),(155,lB L)] [] 105 (Np L):=fun x=>by kernel_rfl
theorem ZI(L):cZ L [(179,mE L),(385,NT L)] [] 369 (S5 L):=fun x=>by kernel_rfl
theorem Zb(L):cZ L [(105,Np L),(155,lB L),(343,KX L),(353,NM L),(354,NN L),(369,S5 L)] [] 316 (RI L):=fun x=>by kernel_rfl
theorem Zc(L):cZ L [(155,lB L),(179,mE L),(292,qB L)] [] 317 (RJ L):=fun x=>by kernel_rfl
theorem Yn(L):cZ L [(310,RE L),(313,RF L),(314,RG L),(315,RH L),(316,RI L),(317,RJ L)] [] 222 (Rf L):=fun x=>by kernel_rfl
theorem XH(L):cZ L [(204,Ns L),(216,R9 L),(217,Ra L),(218,Rb L),(219,Rc L),(220,a4Y L),(221,Re L),(222,Rf L)] [] 137 (QI L):=fun x=>by kernel_rfl
theorem e93(L):cZ L [(51,U1 L),(132,QF L),(133,IC L),(134,QG L),(135,KM L),(136,QH L),(137,QI L),(179,mE L)] [] 93 (k93 L):=fun x=>by kernel_rfl
theorem Yr(L):cZ L [] [] 228 (Ri L):=fun x=>by kernel_rfl
theorem XJ(L):cZ L [(155,lB L),(158,zK L),(228,Ri L)] [] 143 (QJ L):=fun x=>by kernel_rfl
theorem e99(L):cZ L [(168,FQ L),(238,KR L),(239,KS L),(321,xY L)] [] 99 (WS L):=fun x=>by kernel_rfl
theorem Ys(L):cZ L [(108,zJ L),(155,lB L),(156,FP L),(243,FU L),(320,FV L)] [] 231 (Rj L):=fun x=>by kernel_rfl
theorem XK(L):cZ L [(99,WS L),(156,FP L),(194,FT L),(231,Rj L)] [] 144 (QK L):=fun x=>by kernel_rfl
theorem e94(L):cZ L [(138,KN L),(142,V9 L),(143,QJ L),(144,QK L)] [] 94 (k94 L):=fun x=>by kernel_rfl
theorem e95(L):cZ L [(138,KN L)] [] 95 (k95 L):=fun x=>by kernel_rfl
theorem XL(L):cZ L [] [] 145 (QL L):=fun x=>by kernel_rfl
theorem XM(L):cZ L [] [] 146 (QM L):=fun x=>by kernel_rfl
theorem XN(L):cZ L [(235,KQ L)] [] 147 (QN L):=fun x=>by kernel_rfl
theorem XO(L):cZ L [(108,zJ L)] [] 148 (QO L):=fun x=>by kernel_rfl
theorem XP(L):cZ L [] [] 149 (a4U L):=fun x=>by kernel_rfl
theorem e96(L):cZ L [(145,QL L),(146,QM L),(147,QN L),(148,QO L),(149,a4U L)] [] 96 (k96 L):=fun x=>by kernel_rfl
theorem Xr(L):cZ L [(108,zJ L),(155,lB L),(156,FP L),(157,Nq L)] [] 101 (Qy L):=fun x=>by kernel_rfl
theorem Xs(L):cZ L [(108,zJ L),(155,lB L),(156,FP L),(158,zK L),(243,FU L),(320,FV L)] [] 103 (Qz L):=fun x=>by kernel_rfl
theorem Xw(L):cZ L [] [] 109 (QA L):=fun x=>by kernel_rfl
theorem Xx(L):cZ L [(168,FQ L),(321,xY L)] [] 110 (QB L):=fun x=>by kernel_rfl
theorem XR(L):cZ L [] [] 154 (a4V L):=fun x=>by kernel_rfl
theorem e41(L):cZ L [(70,k70 L),(93,k93 L),(94,k94 L),(95,k95 L),(96,k96 L),(99,WS L),(101,Qy L),(103,Qz L),(104,No L),(105,Np L),(108,zJ L),(109,QA L),(110,QB L),(154,a4V L)] [] 41 (k41 L):=fun x=>by kernel_rfl
def c42(L:Nat)(cR:ai->Int->cL->Option (ai×Int)):List (Nat×cN):=[(27,⟨[gG,dI,sQ],[gG,dI],fun x=>cR x.1 x.2.1 x.2.2⟩),(51,U1 L)]
theorem e42(L:Nat)(cR:ai->Int->cL->Option (ai×Int))(x:(tupT (Se L).a).den):AE (Gm (c42 L cR) [] L) 30 42 (Se L).a (Se L).r x=oG L (fun _=>cR) x.1 x.2.1 x.2.2:=by kernel_rfl
def c27(L:Nat)(a2z:ai->Int->fa->Option ai):List (Nat×cN):=[(41,k41 L),(42,⟨[gG,dI,Ip],[gG],fun x=>a2z x.1 x.2.1 x.2.2⟩)]
theorem e27(L:Nat)(a2z:ai->Int->fa->Option ai)(x:(tupT (MB L).a).den):AE (Gm (c27 L a2z) [] L) 30 27 (MB L).a (MB L).r x=j7 L (fun _=>a2z) x.1 x.2.1 x.2.2:=by kernel_rfl
theorem e25(L):cZ L [(27,MB L)] [] 25 (k25 L):=fun x=>by kernel_rfl
theorem e9(L):cZ L [(22,k22 L),(23,k23 L),(25,k25 L),(27,MB L)] [] 9 (k9 L):=fun x=>by kernel_rfl
theorem e29(L):cZ L [(9,k9 L)] [] 29 (k29 L):=fun x=>by kernel_rfl
theorem TX(L):cZ L [(9,k9 L),(29,k29 L)] [] 12 (ZW L):=fun x=>by kernel_rfl
theorem e17(L):cZ L [] [] 17 (ZZ L):=fun x=>by kernel_rfl
theorem e19(L):ON L [] [] 19 (WM L):=fun l n x=>by kernel_rfl
theorem e30(L):ON L [] [(19,WM L)] 30 (Ry L):=fun l n x=>by kernel_rfl
theorem e76(L):cZ L [] [] 76 (k76 L):=fun x=>by kernel_rfl
theorem e47(L):cZ L [(76,k76 L),(77,WQ L)] [] 47 (k47 L):=fun x=>by kernel_rfl
theorem e32(L):cZ L [(47,k47 L)] [] 32 (k32 L):=fun x=>by kernel_rfl
theorem e33(L):cZ L [] [] 33 (k33 L):=fun x=>by kernel_rfl
theorem e18(L):ON L [(31,k31 L),(32,k32 L),(33,k33 L)] [(30,Ry L)] 18 (WL L):=fun l n x=>by kernel_rfl
theorem e7(L):cZ L [(9,k9 L),(12,ZW L),(17,ZZ L)] [(18,WL L)] 7 (k7 L):=fun x=>by kernel_rfl
theorem XQ(L):ON L [] [(30,Ry L)] 15 (ZX L):=fun l n x=>by kernel_rfl
theorem e34(L):ON L [] [(15,ZX L),(30,Ry L)] 34 (k34 L):=fun l n x=>by kernel_rfl
theorem e35(L):ON L [] [(30,Ry L)] 35 (k35 L):=fun l n x=>by kernel_rfl
theorem e20(L):ON L [] [(30,Ry L),(34,k34 L),(35,k35 L)] 20 (k20 L):=fun l n x=>by kernel_rfl
theorem e21(L):cZ L [] [] 21 (k21 L):=fun x=>by kernel_rfl
theorem e8(L):cZ L [(9,k9 L),(21,k21 L)] [(18,WL L),(19,WM L),(20,k20 L)] 8 (k8 L):=fun x=>by kernel_rfl
theorem e16(L):cZ L [] [] 16 (ZY L):=fun x=>by kernel_rfl
theorem e72(L):cZ L [] [] 72 (k72 L):=fun x=>by kernel_rfl
theorem Y0(L):cZ L [] [] 174 (QU L):=fun x=>by kernel_rfl
theorem Xy(L):cZ L [(174,QU L)] [] 113 (QC L):=fun x=>by kernel_rfl
theorem e71(L):cZ L [(72,k72 L),(113,QC L)] [] 71 (WO L):=fun x=>by kernel_rfl
theorem e43(L):cZ L [(71,WO L)] [] 43 (k43 L):=fun x=>by kernel_rfl
theorem e44(L):cZ L [] [] 44 (k44 L):=fun x=>by kernel_rfl
theorem e45(L):cZ L [(71,WO L),(72,k72 L)] [] 45 (k45 L):=fun x=>by kernel_rfl
theorem e28(L):cZ L [(43,k43 L),(44,k44 L),(45,k45 L)] [] 28 (WN L):=fun x=>by kernel_rfl
theorem OW(L):cZ L [(16,ZY L),(28,WN L)] [] 10 (ZU L):=fun x=>by kernel_rfl
theorem He(L):cZ L [(28,WN L)] [] 11 (ZV L):=fun x=>by kernel_rfl
theorem e3(L):cZ L [(7,k7 L),(8,k8 L),(9,k9 L),(10,ZU L),(11,ZV L)] [] 3 (k3 L):=fun x=>by kernel_rfl
def WD(L:Nat):List (Nat×cN):=[(179,mE L)]
theorem e87(L):cZ L [(84,L0 L)] [] 87 (WR L):=fun x=>by kernel_rfl
def c56(L:Nat)(bF:TL->Tm->Option Bool)(dV:TL->Tm->Tm->Option Bool):List (Nat×cN):=[(56,⟨[.bS,TT],[.bool],fun x=>bF x.1 x.2⟩),(87,WR L),(91,⟨[.bS,TT,TT],[.bool],fun x=>dV x.1 x.2.1 x.2.2⟩)]
theorem e56(L:Nat)(bF:TL->Tm->Option Bool)(dV:TL->Tm->Tm->Option Bool)(x:(tupT (KZ L).a).den):AE (Gm (c56 L bF dV) [] L) 30 56 (KZ L).a (KZ L).r x=jl L (fun _=>bF) (fun _=>dV) x.1 x.2:=by kernel_rfl
def c91(L:Nat)(bF:TL->Tm->Option Bool):List (Nat×cN):=[(56,⟨[.bS,TT],[.bool],fun x=>bF x.1 x.2⟩),(87,WR L)]
theorem e91(L:Nat)(bF:TL->Tm->Option Bool)(x:(tupT (P8 L).a).den):AE (Gm (c91 L bF) [] L) 30 91 (P8 L).a (P8 L).r x=gR L (fun _=>bF) x.1 x.2.1 x.2.2:=by kernel_rfl
theorem e54(L):cZ L [(56,KZ L)] [] 54 (k54 L):=fun x=>by kernel_rfl
theorem e55(L):cZ L [(51,U1 L),(56,KZ L),(84,L0 L),(190,QW L)] [] 55 (k55 L):=fun x=>by kernel_rfl
theorem e37(L):cZ L [(51,U1 L),(54,k54 L),(55,k55 L),(56,KZ L)] [] 37 (k37 L):=fun x=>by kernel_rfl
end
end Go.Proofs.YtehbbcdhahnkgaaGreat.Vm
