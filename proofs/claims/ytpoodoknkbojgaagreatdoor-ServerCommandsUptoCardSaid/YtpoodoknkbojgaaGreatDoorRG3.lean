/- A part of the proof. -/
import Derived.Test.YtpoodoknkbojgaaGreatDoorRG2
set_option linter.all false
namespace Go.Proofs.YtpoodoknkbojgaaGreatDoor
open Go.Ab Tys
variable [Dr]
def Ug:=And.intro @Tryz.ntmps68<|And.intro @Tryz.underlying9<| @sQ
set_option maxRecDepth 100000 in
set_option maxHeartbeats 4000000 in
theorem Hu (s:abW) (hs:s.size≤4000000):AC Tryz.prog 68 [Str s] [] (fun r st=>r=B (comp s)∧st=[]):=by
 refine AA Tryz.func68 rfl rfl (by simp only[Tryz.ntmps68,List.length];omega) ?_
 intro x hx
 simp only[List.range,List.range.loop,List.length,List.zip,List.zipWith,Nat.reduceAdd,Tryz.ntmps68]
 (repeat (with_reducible first|refine na ?_|refine nb ?_|refine nc ?_|refine nd ?_|refine ne ?_|refine nf ?_|refine ng ?_|refine nh ?_|refine ni ?_|refine nj ?_|refine nk ?_|refine nl ?_|refine nm (by decide) ?_|refine nn ?_))
 refine bu (wr:=false) 400 (by simp only[kB,kG,Ug,Nat.reduceAdd,Nat.reduceLT,Nat.reduceEqDiff, ↓reduceIte,reduceCtorEq];first|done|rfl) (by first|exact trivial|(simp only[kO];omega)|(simp[All,aV];first|done|omega)|(simp+contextual [All,aV];first|done|grind)) ?_
 (repeat (with_reducible first|refine na ?_|refine nb ?_|refine nc ?_|refine nd ?_|refine ne ?_|refine nf ?_|refine ng ?_|refine nh ?_|refine ni ?_|refine nj ?_|refine nk ?_|refine nl ?_|refine nm (by decide) ?_|refine nn ?_))
 refine bu (wr:=false) 400 (by simp only[kB,kG,Ug,Nat.reduceAdd,Nat.reduceLT,Nat.reduceEqDiff, ↓reduceIte,reduceCtorEq];first|done|rfl) ?_ ?_
 ·simp only[All,List.cons_append,List.nil_append,aao,aaS,implies_true,forall_const,aar,aaN,cond_eq_ite]
  repeat' (first|exact trivial|refine And.intro ?_ ?_|intro _|omega|(rename_i h;exact_mod_cast iR (by simpa using h))|(simp_all;done))
 (repeat (with_reducible first|refine na ?_|refine nb ?_|refine nc ?_|refine nd ?_|refine ne ?_|refine nf ?_|refine ng ?_|refine nh ?_|refine ni ?_|refine nj ?_|refine nk ?_|refine nl ?_|refine nm (by decide) ?_|refine nn ?_))
 refine xJ (by simp only[kV, ↓reduceIte,Nat.reduceEqDiff,reduceCtorEq];first|done|rfl) ?_ ?_
 ·intro h
  (repeat (first|(with_reducible first|refine na ?_|refine nb ?_|refine nc ?_|refine nd ?_|refine ne ?_|refine nf ?_|refine ng ?_|refine nh ?_|refine ni ?_|refine nj ?_|refine nk ?_|refine nl ?_|refine nm (by decide) ?_|refine nn ?_)|refine bu (wr:=false) 400 (by simp only[kB,kG,Ug,Nat.reduceAdd,Nat.reduceLT,Nat.reduceEqDiff, ↓reduceIte,reduceCtorEq];first|done|rfl) (by first|exact trivial|(simp only[kO];omega)|(simp[All,aV];first|done|omega)|(simp+contextual [All,aV];first|done|grind)) ?_))
  refine tZ (by simp only[kR,Tryz.results68, ↓reduceIte,Nat.reduceEqDiff,reduceCtorEq];first|done|rfl) (by first|exact trivial|(simp only[kO];omega)|(simp[All,aV];first|done|omega)|(simp+contextual [All,aV];first|done|grind)) [] ⟨by simp[Ab.get,aB],by simp,by simp[aN,aF,aI,aG,aJ,aH,ag,ax,bi,ae,Ab.get],dK hx (by simp[ae,Ab.get])⟩ (by simp[aA,bC,ax,bi,ae,Ab.get]) ⟨?_,rfl⟩
  have h2:(decide (s={data:= #[]})||decide (byteAt s 0=46))=true:=by rw[←h];cases decide (s={data:= #[]})<;>rfl
  simp[comp,h2]
 ·intro h
  have h2:(decide (s={data:= #[]})||decide (byteAt s 0=46))=false:=by rw[←h];cases decide (s={data:= #[]})<;>rfl
  (repeat (first|(with_reducible first|refine na ?_|refine nb ?_|refine nc ?_|refine nd ?_|refine ne ?_|refine nf ?_|refine ng ?_|refine nh ?_|refine ni ?_|refine nj ?_|refine nk ?_|refine nl ?_|refine nm (by decide) ?_|refine nn ?_)|refine bu (wr:=false) 400 (by simp only[kB,kG,Ug,Nat.reduceAdd,Nat.reduceLT,Nat.reduceEqDiff, ↓reduceIte,reduceCtorEq];first|done|rfl) (by first|exact trivial|(simp only[kO];omega)|(simp[All,aV];first|done|omega)|(simp+contextual [All,aV];first|done|grind)) ?_))
  refine aW (ι:=Nat) (I:=fun k=>⟨22,[(0,Str s),(3,I .i64 k)],[]⟩) (Inv:=fun k=>k≤s.size∧∀j,j<k→okB (byteAt s j)=true) (μ:=fun k=>s.size-k) 0 ⟨by omega,by omega⟩ ?_ ?_
  ·(refine aY (fun i=>i) rfl ?_ ⟨?_,?_,?_,dK hx (by simp[ae,Ab.get])⟩<;>first|(simp only[kE,aC, ↓reduceIte,Nat.reduceEqDiff,reduceCtorEq];done)|simp[aO,aB,ag,Ab.get,aA,bi,ax,aN,aF,aI,aG,aJ,aH,ae,List.flatten])
  ·rintro k ⟨hk,hall⟩
   (repeat (first|(with_reducible first|refine na ?_|refine nb ?_|refine nc ?_|refine nd ?_|refine ne ?_|refine nf ?_|refine ng ?_|refine nh ?_|refine ni ?_|refine nj ?_|refine nk ?_|refine nl ?_|refine nm (by decide) ?_|refine nn ?_)|refine bu (wr:=false) 400 (by simp only[kB,kG,Ug,Nat.reduceAdd,Nat.reduceLT,Nat.reduceEqDiff, ↓reduceIte,reduceCtorEq];first|done|rfl) (by first|exact trivial|(simp only[kO];omega)|(simp[All,aV];first|done|omega)|(simp+contextual [All,aV];first|done|grind)) ?_))
   refine xJ (by simp only[kV, ↓reduceIte,Nat.reduceEqDiff,reduceCtorEq];first|done|rfl) ?_ ?_
   ·intro hlt
    have hlt':k<s.size:=by simpa using hlt
    (repeat (first|(with_reducible first|refine na ?_|refine nb ?_|refine nc ?_|refine nd ?_|refine ne ?_|refine nf ?_|refine ng ?_|refine nh ?_|refine ni ?_|refine nj ?_|refine nk ?_|refine nl ?_|refine nm (by decide) ?_|refine nn ?_)|refine bu (wr:=false) 400 (by simp only[kB,kG,Ug,Nat.reduceAdd,Nat.reduceLT,Nat.reduceEqDiff, ↓reduceIte,reduceCtorEq];first|done|rfl) (by first|exact trivial|(simp only[kO];omega)|(simp[All,aV];first|done|omega)|(simp+contextual [All,aV];first|done|grind)) ?_|(refine Gv [] (by simp) (by simp only[kV, ↓reduceIte,Nat.reduceEqDiff,reduceCtorEq];first|done|rfl) ⟨by simp,by simp,by simp[aA,bi,ax,ak,aK]⟩ (vP _ _) ?_;(rintro r st' ⟨rfl,rfl⟩;refine⟨by simp[jl],?_⟩;simp only[kP,Nat.reduceEqDiff, ↓reduceIte,reduceCtorEq]))))
    refine xJ (by simp only[kV, ↓reduceIte,Nat.reduceEqDiff,reduceCtorEq];first|done|rfl) ?_ ?_
    ·intro hb
     (repeat (first|(with_reducible first|refine na ?_|refine nb ?_|refine nc ?_|refine nd ?_|refine ne ?_|refine nf ?_|refine ng ?_|refine nh ?_|refine ni ?_|refine nj ?_|refine nk ?_|refine nl ?_|refine nm (by decide) ?_|refine nn ?_)|refine bu (wr:=false) 400 (by simp only[kB,kG,Ug,Nat.reduceAdd,Nat.reduceLT,Nat.reduceEqDiff, ↓reduceIte,reduceCtorEq];first|done|rfl) (by first|exact trivial|(simp only[kO];omega)|(simp[All,aV];first|done|omega)|(simp+contextual [All,aV];first|done|grind)) ?_))
     refine tZ (by simp only[kR,Tryz.results68, ↓reduceIte,Nat.reduceEqDiff,reduceCtorEq];first|done|rfl) (by first|exact trivial|(simp only[kO];omega)|(simp[All,aV];first|done|omega)|(simp+contextual [All,aV];first|done|grind)) [] ⟨by simp[Ab.get,aB],by simp,by simp[aN,aF,aI,aG,aJ,aH,ag,ax,bi,ae,Ab.get],dK hx (by simp[ae,Ab.get])⟩ (by simp[aA,bC,ax,bi,ae,Ab.get]) ⟨?_,rfl⟩
     have hb':okB (byteAt s k)=false:=by simpa[okB,byteAt] using hb
     have:((List.range s.size).all fun k=>okB (byteAt s k))=false:=by
      cases e:(List.range s.size).all fun k=>okB (byteAt s k)
      ·rfl
      ·have:=nP _ k _ hlt' e
       rw[hb'] at this;cases this
     simp only[comp,this,Bool.and_false]
    ·intro hb
     (repeat (first|(with_reducible first|refine na ?_|refine nb ?_|refine nc ?_|refine nd ?_|refine ne ?_|refine nf ?_|refine ng ?_|refine nh ?_|refine ni ?_|refine nj ?_|refine nk ?_|refine nl ?_|refine nm (by decide) ?_|refine nn ?_)|refine bu (wr:=false) 400 (by simp only[kB,kG,Ug,Nat.reduceAdd,Nat.reduceLT,Nat.reduceEqDiff, ↓reduceIte,reduceCtorEq];first|done|rfl) (by first|exact trivial|(simp only[kO];omega)|(simp[All,aV];first|done|omega)|(simp+contextual [All,aV];first|done|grind)) ?_))
     refine⟨k+1,⟨by omega,?_⟩,by omega,?_⟩
     ·intro j hj
      rcases aba.1 hj with hj|rfl
      ·exact hall j hj
      ·simpa[okB,byteAt] using hb
     ·(refine aY (fun i=>i) rfl ?_ ⟨?_,?_,?_,dK hx (by simp[ae,Ab.get])⟩<;>first|(simp only[kE,aC, ↓reduceIte,Nat.reduceEqDiff,reduceCtorEq];done)|simp[aO,aB,ag,Ab.get,aA,bi,ax,aN,aF,aI,aG,aJ,aH,ae,List.flatten])
   ·intro hge
    (repeat (first|(with_reducible first|refine na ?_|refine nb ?_|refine nc ?_|refine nd ?_|refine ne ?_|refine nf ?_|refine ng ?_|refine nh ?_|refine ni ?_|refine nj ?_|refine nk ?_|refine nl ?_|refine nm (by decide) ?_|refine nn ?_)|refine bu (wr:=false) 400 (by simp only[kB,kG,Ug,Nat.reduceAdd,Nat.reduceLT,Nat.reduceEqDiff, ↓reduceIte,reduceCtorEq];first|done|rfl) (by first|exact trivial|(simp only[kO];omega)|(simp[All,aV];first|done|omega)|(simp+contextual [All,aV];first|done|grind)) ?_))
    refine tZ (by simp only[kR,Tryz.results68, ↓reduceIte,Nat.reduceEqDiff,reduceCtorEq];first|done|rfl) (by first|exact trivial|(simp only[kO];omega)|(simp[All,aV];first|done|omega)|(simp+contextual [All,aV];first|done|grind)) [] ⟨by simp[Ab.get,aB],by simp,by simp[aN,aF,aI,aG,aJ,aH,ag,ax,bi,ae,Ab.get],dK hx (by simp[ae,Ab.get])⟩ (by simp[aA,bC,ax,bi,ae,Ab.get]) ⟨?_,rfl⟩
    have hk':k=s.size:=by have:¬k<s.size:=by simpa using hge
                          omega
    have:((List.range s.size).all fun k=>okB (byteAt s k))=true:=by
     rw[aaC];intro j hj;exact hall j (by rw[hk'];exact aa3.1 hj)
    simp only[comp,this,h2];rfl
end Go.Proofs.YtpoodoknkbojgaaGreatDoor
