/- A part of the proof. -/
import Derived.Test.YtcpgicfphakdaaaGreatDoorRF2
set_option maxRecDepth 100000
set_option maxHeartbeats 4000000
set_option linter.all false
namespace Go.Proofs.YtcpgicfphakdaaaGreatDoor
open Go.Ab Tys
variable [Dr]
def QF:=And.intro @Tryz.ntmps204<|And.intro @Tryz.underlying9<| @jB
theorem ad3 (s:akK) (hs:s.size≤4000000):AC Tryz.prog 204 [Str s] [] (fun r st=>r=B (comp s)∧st=[]):=by
 refine zD Tryz.func204 rfl rfl (by simp only[Tryz.ntmps204,List.length];omega) ?_
 intro x hx
 simp only[List.range,List.range.loop,List.length,List.zip,List.zipWith,Nat.reduceAdd,Tryz.ntmps204]
 (repeat (with_reducible first|refine na ?_|refine nb ?_|refine nc ?_|refine nd ?_|refine ne ?_|refine nf ?_|refine ng ?_|refine nh ?_|refine ni ?_|refine nj ?_|refine nk ?_|refine nl ?_|refine nm (by decide) ?_|refine nn ?_))
 refine dD (wr:=false) 400 (by simp only[kB,kG,QF,Nat.reduceAdd,Nat.reduceLT,Nat.reduceEqDiff, ↓reduceIte,reduceCtorEq];first|done|rfl) (by first|exact trivial|(simp only[kO];omega)|(simp[All,dB];first|done|omega)|(simp+contextual [All,dB];first|done|grind)) ?_
 (repeat (with_reducible first|refine na ?_|refine nb ?_|refine nc ?_|refine nd ?_|refine ne ?_|refine nf ?_|refine ng ?_|refine nh ?_|refine ni ?_|refine nj ?_|refine nk ?_|refine nl ?_|refine nm (by decide) ?_|refine nn ?_))
 refine dD (wr:=false) 400 (by simp only[kB,kG,QF,Nat.reduceAdd,Nat.reduceLT,Nat.reduceEqDiff, ↓reduceIte,reduceCtorEq];first|done|rfl) ?_ ?_
 ·simp only[All,List.cons_append,List.nil_append,ahu,ajG,implies_true,forall_const,afU,agZ,cond_eq_ite]
  repeat' (first|exact trivial|refine And.intro ?_ ?_|intro _|omega|(rename_i h;exact_mod_cast tN (by simpa using h))|(simp_all;done))
 (repeat (with_reducible first|refine na ?_|refine nb ?_|refine nc ?_|refine nd ?_|refine ne ?_|refine nf ?_|refine ng ?_|refine nh ?_|refine ni ?_|refine nj ?_|refine nk ?_|refine nl ?_|refine nm (by decide) ?_|refine nn ?_))
 refine yj (by simp only[kV, ↓reduceIte,Nat.reduceEqDiff,reduceCtorEq];first|done|rfl) ?_ ?_
 ·intro h
  (repeat (first|(with_reducible first|refine na ?_|refine nb ?_|refine nc ?_|refine nd ?_|refine ne ?_|refine nf ?_|refine ng ?_|refine nh ?_|refine ni ?_|refine nj ?_|refine nk ?_|refine nl ?_|refine nm (by decide) ?_|refine nn ?_)|refine dD (wr:=false) 400 (by simp only[kB,kG,QF,Nat.reduceAdd,Nat.reduceLT,Nat.reduceEqDiff, ↓reduceIte,reduceCtorEq];first|done|rfl) (by first|exact trivial|(simp only[kO];omega)|(simp[All,dB];first|done|omega)|(simp+contextual [All,dB];first|done|grind)) ?_))
  refine jl (by simp only[kR,Tryz.results204, ↓reduceIte,Nat.reduceEqDiff,reduceCtorEq];first|done|rfl) (by first|exact trivial|(simp only[kO];omega)|(simp[All,dB];first|done|omega)|(simp+contextual [All,dB];first|done|grind)) [] ⟨by simp[Ab.get,ax],by simp,by simp[bF,aS,aO,aQ,aT,aP,ah,aB,cZ,ae,Ab.get],bW hx (by simp[ae,Ab.get])⟩ (by simp[aJ,bM,aB,cZ,ae,Ab.get]) ⟨?_,rfl⟩
  have h2:(decide (s={data:= #[]})||decide (byteAt s 0=46))=true:=by rw[←h];cases decide (s={data:= #[]})<;>rfl
  simp[comp,h2]
 ·intro h
  have h2:(decide (s={data:= #[]})||decide (byteAt s 0=46))=false:=by rw[←h];cases decide (s={data:= #[]})<;>rfl
  (repeat (first|(with_reducible first|refine na ?_|refine nb ?_|refine nc ?_|refine nd ?_|refine ne ?_|refine nf ?_|refine ng ?_|refine nh ?_|refine ni ?_|refine nj ?_|refine nk ?_|refine nl ?_|refine nm (by decide) ?_|refine nn ?_)|refine dD (wr:=false) 400 (by simp only[kB,kG,QF,Nat.reduceAdd,Nat.reduceLT,Nat.reduceEqDiff, ↓reduceIte,reduceCtorEq];first|done|rfl) (by first|exact trivial|(simp only[kO];omega)|(simp[All,dB];first|done|omega)|(simp+contextual [All,dB];first|done|grind)) ?_))
  refine au (ι:=Nat) (I:=fun k=>⟨22,[(0,Str s),(3,I .i64 k)],[]⟩) (Inv:=fun k=>k≤s.size∧∀j,j<k→okB (byteAt s j)=true) (μ:=fun k=>s.size-k) 0 ⟨by omega,by omega⟩ ?_ ?_
  ·(refine bi (fun i=>i) rfl ?_ ⟨?_,?_,?_,bW hx (by simp[ae,Ab.get])⟩<;>first|(simp only[kE,ay, ↓reduceIte,Nat.reduceEqDiff,reduceCtorEq];done)|simp[aH,ax,ah,Ab.get,aJ,cZ,aB,bF,aS,aO,aQ,aT,aP,ae,List.flatten])
  ·rintro k ⟨hk,hall⟩
   (repeat (first|(with_reducible first|refine na ?_|refine nb ?_|refine nc ?_|refine nd ?_|refine ne ?_|refine nf ?_|refine ng ?_|refine nh ?_|refine ni ?_|refine nj ?_|refine nk ?_|refine nl ?_|refine nm (by decide) ?_|refine nn ?_)|refine dD (wr:=false) 400 (by simp only[kB,kG,QF,Nat.reduceAdd,Nat.reduceLT,Nat.reduceEqDiff, ↓reduceIte,reduceCtorEq];first|done|rfl) (by first|exact trivial|(simp only[kO];omega)|(simp[All,dB];first|done|omega)|(simp+contextual [All,dB];first|done|grind)) ?_))
   refine yj (by simp only[kV, ↓reduceIte,Nat.reduceEqDiff,reduceCtorEq];first|done|rfl) ?_ ?_
   ·intro hlt
    have hlt':k<s.size:=by simpa using hlt
    (repeat (first|(with_reducible first|refine na ?_|refine nb ?_|refine nc ?_|refine nd ?_|refine ne ?_|refine nf ?_|refine ng ?_|refine nh ?_|refine ni ?_|refine nj ?_|refine nk ?_|refine nl ?_|refine nm (by decide) ?_|refine nn ?_)|refine dD (wr:=false) 400 (by simp only[kB,kG,QF,Nat.reduceAdd,Nat.reduceLT,Nat.reduceEqDiff, ↓reduceIte,reduceCtorEq];first|done|rfl) (by first|exact trivial|(simp only[kO];omega)|(simp[All,dB];first|done|omega)|(simp+contextual [All,dB];first|done|grind)) ?_|(refine oU [] (by simp) (by simp only[kV, ↓reduceIte,Nat.reduceEqDiff,reduceCtorEq];first|done|rfl) ⟨by simp,by simp,by simp[aJ,cZ,aB,aV,bT]⟩ (P5 _ _) ?_;(rintro r st' ⟨rfl,rfl⟩;refine⟨by simp[lH],?_⟩;simp only[kP,Nat.reduceEqDiff, ↓reduceIte,reduceCtorEq]))))
    refine yj (by simp only[kV, ↓reduceIte,Nat.reduceEqDiff,reduceCtorEq];first|done|rfl) ?_ ?_
    ·intro hb
     (repeat (first|(with_reducible first|refine na ?_|refine nb ?_|refine nc ?_|refine nd ?_|refine ne ?_|refine nf ?_|refine ng ?_|refine nh ?_|refine ni ?_|refine nj ?_|refine nk ?_|refine nl ?_|refine nm (by decide) ?_|refine nn ?_)|refine dD (wr:=false) 400 (by simp only[kB,kG,QF,Nat.reduceAdd,Nat.reduceLT,Nat.reduceEqDiff, ↓reduceIte,reduceCtorEq];first|done|rfl) (by first|exact trivial|(simp only[kO];omega)|(simp[All,dB];first|done|omega)|(simp+contextual [All,dB];first|done|grind)) ?_))
     refine jl (by simp only[kR,Tryz.results204, ↓reduceIte,Nat.reduceEqDiff,reduceCtorEq];first|done|rfl) (by first|exact trivial|(simp only[kO];omega)|(simp[All,dB];first|done|omega)|(simp+contextual [All,dB];first|done|grind)) [] ⟨by simp[Ab.get,ax],by simp,by simp[bF,aS,aO,aQ,aT,aP,ah,aB,cZ,ae,Ab.get],bW hx (by simp[ae,Ab.get])⟩ (by simp[aJ,bM,aB,cZ,ae,Ab.get]) ⟨?_,rfl⟩
     have hb':okB (byteAt s k)=false:=by simpa[okB,byteAt] using hb
     have:((List.range s.size).all fun k=>okB (byteAt s k))=false:=by
      cases e:(List.range s.size).all fun k=>okB (byteAt s k)
      ·rfl
      ·have:=kC _ k _ hlt' e
       rw[hb'] at this;cases this
     simp only[comp,this,Bool.and_false]
    ·intro hb
     (repeat (first|(with_reducible first|refine na ?_|refine nb ?_|refine nc ?_|refine nd ?_|refine ne ?_|refine nf ?_|refine ng ?_|refine nh ?_|refine ni ?_|refine nj ?_|refine nk ?_|refine nl ?_|refine nm (by decide) ?_|refine nn ?_)|refine dD (wr:=false) 400 (by simp only[kB,kG,QF,Nat.reduceAdd,Nat.reduceLT,Nat.reduceEqDiff, ↓reduceIte,reduceCtorEq];first|done|rfl) (by first|exact trivial|(simp only[kO];omega)|(simp[All,dB];first|done|omega)|(simp+contextual [All,dB];first|done|grind)) ?_))
     refine⟨k+1,⟨by omega,?_⟩,by omega,?_⟩
     ·intro j hj
      rcases ajB.1 hj with hj|rfl
      ·exact hall j hj
      ·simpa[okB,byteAt] using hb
     ·(refine bi (fun i=>i) rfl ?_ ⟨?_,?_,?_,bW hx (by simp[ae,Ab.get])⟩<;>first|(simp only[kE,ay, ↓reduceIte,Nat.reduceEqDiff,reduceCtorEq];done)|simp[aH,ax,ah,Ab.get,aJ,cZ,aB,bF,aS,aO,aQ,aT,aP,ae,List.flatten])
   ·intro hge
    (repeat (first|(with_reducible first|refine na ?_|refine nb ?_|refine nc ?_|refine nd ?_|refine ne ?_|refine nf ?_|refine ng ?_|refine nh ?_|refine ni ?_|refine nj ?_|refine nk ?_|refine nl ?_|refine nm (by decide) ?_|refine nn ?_)|refine dD (wr:=false) 400 (by simp only[kB,kG,QF,Nat.reduceAdd,Nat.reduceLT,Nat.reduceEqDiff, ↓reduceIte,reduceCtorEq];first|done|rfl) (by first|exact trivial|(simp only[kO];omega)|(simp[All,dB];first|done|omega)|(simp+contextual [All,dB];first|done|grind)) ?_))
    refine jl (by simp only[kR,Tryz.results204, ↓reduceIte,Nat.reduceEqDiff,reduceCtorEq];first|done|rfl) (by first|exact trivial|(simp only[kO];omega)|(simp[All,dB];first|done|omega)|(simp+contextual [All,dB];first|done|grind)) [] ⟨by simp[Ab.get,ax],by simp,by simp[bF,aS,aO,aQ,aT,aP,ah,aB,cZ,ae,Ab.get],bW hx (by simp[ae,Ab.get])⟩ (by simp[aJ,bM,aB,cZ,ae,Ab.get]) ⟨?_,rfl⟩
    have hk':k=s.size:=by have:¬k<s.size:=by simpa using hge
                          omega
    have:((List.range s.size).all fun k=>okB (byteAt s k))=true:=by
     rw[agr];intro j hj;exact hall j (by rw[hk'];exact aht.1 hj)
    simp only[comp,this,h2];rfl
theorem aeF (s:akK) (hs:s.size≤1000000):AC Tryz.prog 204 [Str s] [] (fun r st=>r=B (comp s)∧st=[]):=ad3 s (by omega)
def SX:=And.intro @Tryz.ntmps214<|And.intro @Tryz.underlying74<|And.intro @Tryz.underlying9<|And.intro @jy<|And.intro @rZ<| @jB
theorem aa0 (p:akK) (hs:p.size≤1000000):AC Tryz.prog 214 [Str p] [] (fun r st=>r= .tup [jJ (jm p),pB (jm p).isSome]∧st=[]):=by
 refine zD Tryz.func214 rfl rfl (by simp only[Tryz.ntmps214,List.length];omega) ?_
 intro x hx
 simp only[List.range,List.range.loop,List.length,List.zip,List.zipWith,Nat.reduceAdd,Tryz.ntmps214]
 (repeat (first|(with_reducible first|refine na ?_|refine nb ?_|refine nc ?_|refine nd ?_|refine ne ?_|refine nf ?_|refine ng ?_|refine nh ?_|refine ni ?_|refine nj ?_|refine nk ?_|refine nl ?_|refine nm (by decide) ?_|refine nn ?_)|refine dD (wr:=false) 400 (by simp only[kB,kS,SX,Nat.reduceAdd,Nat.reduceLT,Nat.reduceEqDiff, ↓reduceIte,reduceCtorEq];first|done|rfl) (by first|exact trivial|(simp only[kO];omega)|(simp[All,dB];first|done|omega)|(simp+contextual [All,dB];first|done|grind)) ?_|(refine oU [] (by simp) (by simp only[kV, ↓reduceIte,Nat.reduceEqDiff,reduceCtorEq];first|done|rfl) ⟨by simp,by simp,by simp[aJ,cZ,aB,aV,bT]⟩ (rU _ _) ?_;(rintro r st' ⟨rfl,rfl⟩;refine⟨by simp[lH],?_⟩;simp only[kP,Nat.reduceEqDiff, ↓reduceIte,reduceCtorEq]))))
 refine yj (by simp only[kV, ↓reduceIte,Nat.reduceEqDiff,reduceCtorEq];first|done|rfl) ?_ ?_
 ·intro h
  have h':hasPrefix p fD=false:=by simpa using h
  (repeat (first|(with_reducible first|refine na ?_|refine nb ?_|refine nc ?_|refine nd ?_|refine ne ?_|refine nf ?_|refine ng ?_|refine nh ?_|refine ni ?_|refine nj ?_|refine nk ?_|refine nl ?_|refine nm (by decide) ?_|refine nn ?_)|refine dD (wr:=false) 400 (by simp only[kB,kS,SX,Nat.reduceAdd,Nat.reduceLT,Nat.reduceEqDiff, ↓reduceIte,reduceCtorEq];first|done|rfl) (by first|exact trivial|(simp only[kO];omega)|(simp[All,dB];first|done|omega)|(simp+contextual [All,dB];first|done|grind)) ?_))
  refine jl (by simp only[kR,Tryz.results214, ↓reduceIte,Nat.reduceEqDiff,reduceCtorEq];first|done|rfl) (by first|exact trivial|(simp only[kO];omega)|(simp[All,dB];first|done|omega)|(simp+contextual [All,dB];first|done|grind)) [] ⟨by simp[Ab.get,ax],by simp,by simp[bF,aS,aO,aQ,aT,aP,ah,aB,cZ,ae,Ab.get],bW hx (by simp[ae,Ab.get])⟩ (by simp[aJ,bM,aB,cZ,ae,Ab.get]) ⟨?_,rfl⟩
  simp[jm,h']
 ·intro h
  have h':hasPrefix p fD=true:=by simpa using h
  have hsz:2≤p.size:=by simp only[hasPrefix,afA,aeB] at h';exact h'.1
  have hL:=xx (p.extract 2 p.size)
  have hL2:(p.extract 2 p.size).size≤p.size:=by simp
  (repeat (first|(with_reducible first|refine na ?_|refine nb ?_|refine nc ?_|refine nd ?_|refine ne ?_|refine nf ?_|refine ng ?_|refine nh ?_|refine ni ?_|refine nj ?_|refine nk ?_|refine nl ?_|refine nm (by decide) ?_|refine nn ?_)|refine dD (wr:=false) 400 (by simp only[kB,kS,SX,Nat.reduceAdd,Nat.reduceLT,Nat.reduceEqDiff, ↓reduceIte,reduceCtorEq,Int.reduceToNat];first|done|rfl) (by first|exact trivial|(simp only[kO];omega)|(simp[All,dB];first|done|omega)|(simp+contextual [All,dB];first|done|grind)) ?_|(refine oU [] (by simp) (by simp only[kV, ↓reduceIte,Nat.reduceEqDiff,reduceCtorEq];first|done|rfl) ⟨by simp,by simp,by simp[aJ,cZ,aB,aV,bT]⟩ (Jg _ (by simp;omega)) ?_;(rintro r st' ⟨rfl,rfl⟩;refine⟨by simp[lH],?_⟩;simp only[kP,Nat.reduceEqDiff, ↓reduceIte,reduceCtorEq]))))
  refine au (ι:=Nat) (I:=fun k=>⟨24,[(4,jr (split (p.extract 2 p.size))),(13,jr (split (p.extract 2 p.size))),(14,I .i64 (split (p.extract 2 p.size)).length),(15,I .i64 k)],[]⟩)
   (Inv:=fun k=>k≤(split (p.extract 2 p.size)).length∧((split (p.extract 2 p.size)).take k).all comp=true) (μ:=fun k=>(split (p.extract 2 p.size)).length-k) 0 ⟨by omega,by simp⟩ ?_ ?_
  ·(refine bi (fun i=>i) rfl ?_ ⟨?_,?_,?_,bW hx (by simp[ae,Ab.get])⟩<;>first|(simp only[kE,ay, ↓reduceIte,Nat.reduceEqDiff,reduceCtorEq];done)|simp[aH,ax,ah,Ab.get,aJ,cZ,aB,bF,aS,aO,aQ,aT,aP,ae,List.flatten])
  ·rintro k ⟨hk,hall⟩
   (repeat (first|(with_reducible first|refine na ?_|refine nb ?_|refine nc ?_|refine nd ?_|refine ne ?_|refine nf ?_|refine ng ?_|refine nh ?_|refine ni ?_|refine nj ?_|refine nk ?_|refine nl ?_|refine nm (by decide) ?_|refine nn ?_)|refine dD (wr:=false) 400 (by simp only[kB,kS,SX,Nat.reduceAdd,Nat.reduceLT,Nat.reduceEqDiff, ↓reduceIte,reduceCtorEq];first|done|rfl) (by first|exact trivial|(simp only[kO];omega)|(simp[All,dB];first|done|omega)|(simp+contextual [All,dB];first|done|grind)) ?_))
   refine yj (by simp only[kV, ↓reduceIte,Nat.reduceEqDiff,reduceCtorEq];first|done|rfl) ?_ ?_
   ·intro hlt
    have hlt':k<(split (p.extract 2 p.size)).length:=by simpa using hlt
    obtain⟨v,hv,he,htk⟩:=round encS (split (p.extract 2 p.size)) k ByteArray.empty hlt'
    have hvs:v.size≤1000000:=by
     have:=qL _ _ v (aem hv)
     omega
    (repeat (first|(with_reducible first|refine na ?_|refine nb ?_|refine nc ?_|refine nd ?_|refine ne ?_|refine nf ?_|refine ng ?_|refine nh ?_|refine ni ?_|refine nj ?_|refine nk ?_|refine nl ?_|refine nm (by decide) ?_|refine nn ?_)|refine dD (wr:=false) 400 (by simp only[kB,kS,SX,Nat.reduceAdd,Nat.reduceLT,Nat.reduceEqDiff, ↓reduceIte,reduceCtorEq,he];first|done|rfl) (by first|exact trivial|(simp only[kO];omega)|(simp[All,dB];first|done|omega)|(simp+contextual [All,dB];first|done|grind)) ?_|(refine oU [] (by simp) (by simp only[kV, ↓reduceIte,Nat.reduceEqDiff,reduceCtorEq];first|done|rfl) ⟨by simp,by simp,by simp[aJ,cZ,aB,aV,bT]⟩ (aeF v hvs) ?_;(rintro r st' ⟨rfl,rfl⟩;refine⟨by simp[lH],?_⟩;simp only[kP,Nat.reduceEqDiff, ↓reduceIte,reduceCtorEq]))))
    refine yj (by simp only[kV, ↓reduceIte,Nat.reduceEqDiff,reduceCtorEq];first|done|rfl) ?_ ?_
    ·intro hc
     have hc':comp v=false:=by simpa using hc
     have hf:(split (p.extract 2 p.size)).all comp=false:=by
      cases e:(split (p.extract 2 p.size)).all comp
      ·rfl
      ·rw[agr] at e;rw[e v (aem hv)] at hc';cases hc'
     (repeat (first|(with_reducible first|refine na ?_|refine nb ?_|refine nc ?_|refine nd ?_|refine ne ?_|refine nf ?_|refine ng ?_|refine nh ?_|refine ni ?_|refine nj ?_|refine nk ?_|refine nl ?_|refine nm (by decide) ?_|refine nn ?_)|refine dD (wr:=false) 400 (by simp only[kB,kS,SX,Nat.reduceAdd,Nat.reduceLT,Nat.reduceEqDiff, ↓reduceIte,reduceCtorEq];first|done|rfl) (by first|exact trivial|(simp only[kO];omega)|(simp[All,dB];first|done|omega)|(simp+contextual [All,dB];first|done|grind)) ?_))
     refine jl (by simp only[kR,Tryz.results214, ↓reduceIte,Nat.reduceEqDiff,reduceCtorEq];first|done|rfl) (by first|exact trivial|(simp only[kO];omega)|(simp[All,dB];first|done|omega)|(simp+contextual [All,dB];first|done|grind)) [] ⟨by simp[Ab.get,ax],by simp,by simp[bF,aS,aO,aQ,aT,aP,ah,aB,cZ,ae,Ab.get],bW hx (by simp[ae,Ab.get])⟩ (by simp[aJ,bM,aB,cZ,ae,Ab.get]) ⟨?_,rfl⟩
     simp[jm,h',hf]
    ·intro hc
     have hc':comp v=true:=by simpa using hc
     (repeat (first|(with_reducible first|refine na ?_|refine nb ?_|refine nc ?_|refine nd ?_|refine ne ?_|refine nf ?_|refine ng ?_|refine nh ?_|refine ni ?_|refine nj ?_|refine nk ?_|refine nl ?_|refine nm (by decide) ?_|refine nn ?_)|refine dD (wr:=false) 400 (by simp only[kB,kS,SX,Nat.reduceAdd,Nat.reduceLT,Nat.reduceEqDiff, ↓reduceIte,reduceCtorEq];first|done|rfl) (by first|exact trivial|(simp only[kO];omega)|(simp[All,dB];first|done|omega)|(simp+contextual [All,dB];first|done|grind)) ?_))
     refine⟨k+1,⟨by omega,?_⟩,by omega,?_⟩
     ·rw[htk,ajY,hall];simp[hc']
     ·(refine bi (fun i=>i) rfl ?_ ⟨?_,?_,?_,bW hx (by simp[ae,Ab.get])⟩<;>first|(simp only[kE,ay, ↓reduceIte,Nat.reduceEqDiff,reduceCtorEq];done)|simp[aH,ax,ah,Ab.get,aJ,cZ,aB,bF,aS,aO,aQ,aT,aP,ae,List.flatten])
   ·intro hge
    have hk':k=(split (p.extract 2 p.size)).length:=by have:¬k<(split (p.extract 2 p.size)).length:=by simpa using hge
                                                       omega
    (repeat (first|(with_reducible first|refine na ?_|refine nb ?_|refine nc ?_|refine nd ?_|refine ne ?_|refine nf ?_|refine ng ?_|refine nh ?_|refine ni ?_|refine nj ?_|refine nk ?_|refine nl ?_|refine nm (by decide) ?_|refine nn ?_)|refine dD (wr:=false) 400 (by simp only[kB,kS,SX,Nat.reduceAdd,Nat.reduceLT,Nat.reduceEqDiff, ↓reduceIte,reduceCtorEq];first|done|rfl) (by first|exact trivial|(simp only[kO];omega)|(simp[All,dB];first|done|omega)|(simp+contextual [All,dB];first|done|grind)) ?_))
    refine jl (by simp only[kR,Tryz.results214, ↓reduceIte,Nat.reduceEqDiff,reduceCtorEq];first|done|rfl) (by first|exact trivial|(simp only[kO];omega)|(simp[All,dB];first|done|omega)|(simp+contextual [All,dB];first|done|grind)) [] ⟨by simp[Ab.get,ax],by simp,by simp[bF,aS,aO,aQ,aT,aP,ah,aB,cZ,ae,Ab.get],bW hx (by simp[ae,Ab.get])⟩ (by simp[aJ,bM,aB,cZ,ae,Ab.get]) ⟨?_,rfl⟩
    rw[hk',afu] at hall
    simp[jm,h',hall]
def aaF:=And.intro @Tryz.ntmps153<|And.intro @Tryz.underlying74<|And.intro @jy<| @jB
theorem Qp (p:akK) (hs:p.size≤1000000):AC Tryz.prog 153 [Str p] [] (fun r st=>r= .tup [jJ (aG p),pB (aG p).isSome]∧st=[]):=by
 have hc:=aa0 p hs
 cases hp:jm p with
 |none=>
  rw[hp] at hc
  simp only[jJ,pB,Option.isSome] at hc
  refine zD Tryz.func153 rfl rfl (by simp only[Tryz.ntmps153,List.length];omega) ?_
  intro x hx
  simp only[List.range,List.range.loop,List.length,List.zip,List.zipWith,Nat.reduceAdd,Tryz.ntmps153]
  (repeat (first|(with_reducible first|refine na ?_|refine nb ?_|refine nc ?_|refine nd ?_|refine ne ?_|refine nf ?_|refine ng ?_|refine nh ?_|refine ni ?_|refine nj ?_|refine nk ?_|refine nl ?_|refine nm (by decide) ?_|refine nn ?_)|refine dD (wr:=false) 400 (by simp only[kB,kG,aaF,Nat.reduceAdd,Nat.reduceLT,Nat.reduceEqDiff, ↓reduceIte,reduceCtorEq];first|done|rfl) (by first|exact trivial|(simp only[kO];omega)|(simp[All,dB];first|done|omega)|(simp+contextual [All,dB];first|done|grind)) ?_|(refine oU [] (by simp) (by simp only[kV, ↓reduceIte,Nat.reduceEqDiff,reduceCtorEq];first|done|rfl) ⟨by simp,by simp,by simp[aJ,cZ,aB,aV,bT]⟩ (hc) ?_;(rintro r st' ⟨rfl,rfl⟩;refine⟨by simp[lH],?_⟩;simp only[kP,Nat.reduceEqDiff, ↓reduceIte,reduceCtorEq]))))
  refine yj (by simp only[kV, ↓reduceIte,Nat.reduceEqDiff,reduceCtorEq];first|done|rfl) ?_ ?_
  ·intro h
   (repeat (first|(with_reducible first|refine na ?_|refine nb ?_|refine nc ?_|refine nd ?_|refine ne ?_|refine nf ?_|refine ng ?_|refine nh ?_|refine ni ?_|refine nj ?_|refine nk ?_|refine nl ?_|refine nm (by decide) ?_|refine nn ?_)|refine dD (wr:=false) 400 (by simp only[kB,kG,aaF,Nat.reduceAdd,Nat.reduceLT,Nat.reduceEqDiff, ↓reduceIte,reduceCtorEq];first|done|rfl) (by first|exact trivial|(simp only[kO];omega)|(simp[All,dB];first|done|omega)|(simp+contextual [All,dB];first|done|grind)) ?_))
   refine jl (by simp only[kR,Tryz.results153, ↓reduceIte,Nat.reduceEqDiff,reduceCtorEq];first|done|rfl) (by first|exact trivial|(simp only[kO];omega)|(simp[All,dB];first|done|omega)|(simp+contextual [All,dB];first|done|grind)) [] ⟨by simp[Ab.get,ax],by simp,by simp[bF,aS,aO,aQ,aT,aP,ah,aB,cZ,ae,Ab.get],bW hx (by simp[ae,Ab.get])⟩ (by simp[aJ,bM,aB,cZ,ae,Ab.get]) ⟨?_,rfl⟩
   simp[aG,hp]
  ·intro h
   exact absurd h (by simp)
 |some l=>
  rw[hp] at hc
  simp only[jJ,pB,Option.isSome] at hc
  refine zD Tryz.func153 rfl rfl (by simp only[Tryz.ntmps153,List.length];omega) ?_
  intro x hx
  simp only[List.range,List.range.loop,List.length,List.zip,List.zipWith,Nat.reduceAdd,Tryz.ntmps153]
  (repeat (first|(with_reducible first|refine na ?_|refine nb ?_|refine nc ?_|refine nd ?_|refine ne ?_|refine nf ?_|refine ng ?_|refine nh ?_|refine ni ?_|refine nj ?_|refine nk ?_|refine nl ?_|refine nm (by decide) ?_|refine nn ?_)|refine dD (wr:=false) 400 (by simp only[kB,kG,aaF,Nat.reduceAdd,Nat.reduceLT,Nat.reduceEqDiff, ↓reduceIte,reduceCtorEq];first|done|rfl) (by first|exact trivial|(simp only[kO];omega)|(simp[All,dB];first|done|omega)|(simp+contextual [All,dB];first|done|grind)) ?_|(refine oU [] (by simp) (by simp only[kV, ↓reduceIte,Nat.reduceEqDiff,reduceCtorEq];first|done|rfl) ⟨by simp,by simp,by simp[aJ,cZ,aB,aV,bT]⟩ (hc) ?_;(rintro r st' ⟨rfl,rfl⟩;refine⟨by simp[lH],?_⟩;simp only[kP,Nat.reduceEqDiff, ↓reduceIte,reduceCtorEq]))))
  refine yj (by simp only[kV, ↓reduceIte,Nat.reduceEqDiff,reduceCtorEq];first|done|rfl) ?_ ?_
  ·intro h
   have h0:(l.length:Int)<2:=by simpa using h
   have h':l.length<2:=by omega
   (repeat (first|(with_reducible first|refine na ?_|refine nb ?_|refine nc ?_|refine nd ?_|refine ne ?_|refine nf ?_|refine ng ?_|refine nh ?_|refine ni ?_|refine nj ?_|refine nk ?_|refine nl ?_|refine nm (by decide) ?_|refine nn ?_)|refine dD (wr:=false) 400 (by simp only[kB,kG,aaF,Nat.reduceAdd,Nat.reduceLT,Nat.reduceEqDiff, ↓reduceIte,reduceCtorEq];first|done|rfl) (by first|exact trivial|(simp only[kO];omega)|(simp[All,dB];first|done|omega)|(simp+contextual [All,dB];first|done|grind)) ?_))
   refine jl (by simp only[kR,Tryz.results153, ↓reduceIte,Nat.reduceEqDiff,reduceCtorEq];first|done|rfl) (by first|exact trivial|(simp only[kO];omega)|(simp[All,dB];first|done|omega)|(simp+contextual [All,dB];first|done|grind)) [] ⟨by simp[Ab.get,ax],by simp,by simp[bF,aS,aO,aQ,aT,aP,ah,aB,cZ,ae,Ab.get],bW hx (by simp[ae,Ab.get])⟩ (by simp[aJ,bM,aB,cZ,ae,Ab.get]) ⟨?_,rfl⟩
   simp[aG,hp,h']
  ·intro h
   have h0:(2:Int)≤l.length:=by simpa using h
   have h':¬l.length<2:=by omega
   (repeat (first|(with_reducible first|refine na ?_|refine nb ?_|refine nc ?_|refine nd ?_|refine ne ?_|refine nf ?_|refine ng ?_|refine nh ?_|refine ni ?_|refine nj ?_|refine nk ?_|refine nl ?_|refine nm (by decide) ?_|refine nn ?_)|refine dD (wr:=false) 400 (by simp only[kB,kG,aaF,Nat.reduceAdd,Nat.reduceLT,Nat.reduceEqDiff, ↓reduceIte,reduceCtorEq];first|done|rfl) (by first|exact trivial|(simp only[kO];omega)|(simp[All,dB];first|done|omega)|(simp+contextual [All,dB];first|done|grind)) ?_))
   refine jl (by simp only[kR,Tryz.results153, ↓reduceIte,Nat.reduceEqDiff,reduceCtorEq];first|done|rfl) (by first|exact trivial|(simp only[kO];omega)|(simp[All,dB];first|done|omega)|(simp+contextual [All,dB];first|done|grind)) [] ⟨by simp[Ab.get,ax],by simp,by simp[bF,aS,aO,aQ,aT,aP,ah,aB,cZ,ae,Ab.get],bW hx (by simp[ae,Ab.get])⟩ (by simp[aJ,bM,aB,cZ,ae,Ab.get]) ⟨?_,rfl⟩
   simp[aG,hp,h']
end Go.Proofs.YtcpgicfphakdaaaGreatDoor
