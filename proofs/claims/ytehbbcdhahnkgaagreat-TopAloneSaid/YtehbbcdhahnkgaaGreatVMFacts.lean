/- The table of types and functions is the program's. -/
import Derived.Test.YtehbbcdhahnkgaaGreatVMFh
import Derived.Test.YtehbbcdhahnkgaaGreatVMCall
import Derived.KernelRfl
set_option linter.all false
set_option maxRecDepth 100000
set_option maxHeartbeats 0
namespace Go.Proofs.YtehbbcdhahnkgaaGreat.Vm
open Go
theorem fu:gj Tryz.prog Ox:=Tw (by kernel_rfl)
theorem nJ:Tryz.prog.follows .mixedOrders=true:=by kernel_rfl
theorem zz{α:Type}(f:Nat->Option α):∀d a m,xD (fun n x=>f n=some x) a m (OZ f d a m)
 |0,_,_=>trivial
 |d+1,a,m=>⟨fun _ h=>h,zz f d (a+m) (2*m),zz f d (a+2*m) (2*m)⟩
theorem a4B:∀(l:List Func) (n:Nat),FD l n=l[n]?
 |[],n=>by simp[FD]
 |f::l,0=>rfl
 |f::l,n+1=>by have h:FD (f::l) (n+1)=FD l n:=rfl;rw[h,a4B l n];rfl
theorem UR:AF=Vh fT:=by kernel_rfl
def okF(f:Func):Bool:= !(f.name== "runtime.NumGoroutine")&&match f.body with
 |some c=>codeDst f.ntmps c
 |none=>true
theorem VZ:Tryz.prog.funcs.toList.all okF=true:=by kernel_rfl
theorem Co:∀(t:Tr Func) (a m:Nat),xD (fun n f=>Tryz.prog.funcs[n]?=some f) a m t->xD (fun n g=>∃f,Tryz.prog.funcs[n]?=some f/\WV f=some g) a m (Vh t)
 | .lf,_,_,_=>trivial
 | .nd l v r,a,m,⟨h0,h1,h2⟩=>⟨fun x h=>by
   cases v with
   |none=>cases h
   |some f=>exact⟨f,h0 f rfl,h⟩,Co l _ _ h1,Co r _ _ h2⟩
theorem Kx{n:Nat}{g:D7}(h:AF.get n=some g):∃f c,Tryz.prog.funcs[n]?=some f/\f.body=some c/\g=⟨f.ntmps,f.results.toList,c⟩/\(f.name== "runtime.NumGoroutine")=false/\codeDst f.ntmps c=true:=by
 have t:xD (fun n f=>Tryz.prog.funcs[n]?=some f) 0 1 fT:=by
  have k:(fun n f=>FD Tryz.prog.funcs.toList n=some f)=fun n f=>Tryz.prog.funcs[n]?=some f:=by
   funext n f
   rw[a4B,Array.getElem?_toList]
  rw[<-k]
  exact zz (FD Tryz.prog.funcs.toList) 9 0 1
 rw[UR]at h
 have t:=(Co fT 0 1 t).get h
 rw[Nat.zero_add,Nat.one_mul]at t
 obtain⟨f,h1,h2⟩:=t
 have o:=List.all_eq_true.1 VZ f (by rw[<-Array.getElem?_toList]at h1;exact List.mem_of_getElem? h1)
 unfold okF at o
 cases e:f.body with
 |none=>
  have h2: @Option.rec Code (fun _=>Option D7) none (fun c=>some ⟨f.ntmps,f.results.toList,c⟩) f.body=some g:=h2
  rw[e]at h2;cases h2
 |some c=>
  have h2: @Option.rec Code (fun _=>Option D7) none (fun c=>some ⟨f.ntmps,f.results.toList,c⟩) f.body=some g:=h2
  rw[e]at h2 o
  simp only[Bool.and_eq_true,Bool.not_eq_true']at o
  exact⟨f,c,h1,e,(Option.some.inj h2).symm,o.1,o.2⟩
theorem C7:Jv Tryz.prog AF:=fun n g h=>by
 obtain⟨f,c,h1,h2,rfl,h3,h4⟩:=Kx h
 exact⟨f,h1,h2,rfl,rfl,h3,h4⟩
theorem has(n:Nat)(h:(AF.get n).isSome=true):pX Tryz.prog n:=by
 cases e:AF.get n with
 |none=>rw[e]at h;cases h
 |some g=>
  obtain⟨f,c,h1,h2,_,h3,_⟩:=Kx e
  exact⟨f,h1,by rw[h2];rfl,h3⟩
theorem V4:pX Tryz.prog 83:=has 83 (by kernel_rfl)
theorem Qu:pX Tryz.prog 142:=has 142 (by kernel_rfl)
def wK{α:Type}(Q:Nat->α->Prop):List (Nat×α)->Prop
 |[]=>True
 |[p]=>Q p.1 p.2
 |p::q::l=>Q p.1 p.2/\wK Q (q::l)
theorem wK.get{α:Type}{Q:Nat->α->Prop}:∀{l:List (Nat×α)},wK Q l->∀{n:Nat} {x:α},(Ts l).get n=some x->Q n x
 |[],_,n,x,h=>by cases h
 |[p],h0,n,x,h=>by
  have h:((Ts []).set (some p.2) p.1).get n=some x:=h
  rw[Tr.mW]at h
  split at h
  ·rename_i e;cases h;subst e;exact h0
  ·cases h
 |p::q::l,⟨h0,h1⟩,n,x,h=>by
  have h:((Ts (q::l)).set (some p.2) p.1).get n=some x:=h
  rw[Tr.mW]at h
  split at h
  ·rename_i e;cases h;subst e;exact h0
  ·exact wK.get h1 h
end Go.Proofs.YtehbbcdhahnkgaaGreat.Vm
