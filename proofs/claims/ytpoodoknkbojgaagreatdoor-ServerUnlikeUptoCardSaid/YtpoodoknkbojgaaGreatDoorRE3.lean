/- A part of the proof. -/
import Derived.Test.YtpoodoknkbojgaaGreatDoorRE2
set_option maxRecDepth 100000
set_option maxHeartbeats 4000000
set_option linter.all false
namespace Go.Proofs.YtpoodoknkbojgaaGreatDoor
open Go.Ab Tys
variable [Dr]
omit [Dr] in
theorem RJ (bs:List UInt8):List.take bs.length (List.map (fun l=>List.map C.d l) (List.map dR bs))=List.map (fun l=>List.map C.d l) (List.map dR bs):=UQ (by simp)
omit [Dr] in
theorem Na (bs:List UInt8):∀l∈List.map (fun l=>List.map C.d l) (List.map dR bs),l.length=1:=by
 intro l hl
 simp only[Uy] at hl
 obtain⟨_,⟨b,_,rfl⟩,rfl⟩:=hl
 rfl
def RS.kk:=p11 kB kS Tryz.ntmps115 Tryz.underlying33 oV nD qR AQ KQ yJ Tryz.results115
open RS in
theorem nZ (v:Nat) (hv:v<2^64):EC Tryz.prog 115 [I .u64 v] (wU v):=by
 refine iI (fun w=>by simp[wU]) (by simp[BV]) fun w hl=>?_
 have h1:w.2.length+(iZ v).length≤1000000000:=by simpa[wU] using hl
 refine jH Tryz.func115 Tryz.ntmps115 fun x hx=>?_
 refine dH ?_
 refine mW ?_
 refine qf (wr:=false) [(10, .c (.ms 20 1 0 (iZ v).length))] [(10,([],some [(20,aC 1 ((iZ v).map dR))]))] (by kernel_rfl) (by simp only[qW.eq_1,qW.eq_2,mY.eq_def,BD.eq_def,mr.eq_def,Option.getD,kD,kk,Nat.reduceAdd,Nat.reduceLT,Nat.reduceEqDiff, ↓reduceIte,reduceCtorEq,RJ];first|done|rfl) ?_ (by kernel_rfl) ?_
 ·(simp only[All,List.cons_append,List.nil_append,aZ,TS,TV,Uk,forall_eq_or_imp,forall_eq,Ug,UH,implies_true,Ub,List.length_cons,List.length_nil];repeat' (first|exact trivial|exact xU v hv|exact Na _|refine And.intro ?_ ?_|(rintro _ ⟨⟩;done)|assumption|rfl|omega|(simp[aH,aN,aO,aI,aK,aJ,aj,ay,bC,ax,bf,ae,Ab.get];done)))
 refine mW ?_
 refine⟨⟨14,[],stB 2001 2002 (wU v w)⟩,?_,?_⟩
 ·(refine bD (fun i=>if i=2002 then 11 else i) rfl ?_ ⟨?_,?_,?_,keepR hx (by simp[ae,Ab.get])⟩<;>first|(intro i hi;have h0:=hx i hi;constructor<;>(revert h0;simp only[ae,Ab.get];(repeat' split)<;>simp_all);done)|(simp only[kE,aC, ↓reduceIte,Nat.reduceEqDiff,reduceCtorEq];done)|(simp only[aC,gK,gm,TS,TV,Uk,forall_eq_or_imp,forall_eq];simp[bg,bG,aS,bY,aj,Ab.get,ax,bC,ay,aH,aN,aO,aI,aK,aJ,ae,List.flatten,wU];done)|simp[bg,bG,aS,bY,aj,Ab.get,ax,bC,ay,aH,aN,aO,aI,aK,aJ,ae,List.flatten,wU])
 refine rN ((stB 2001 2002 (wU v w))) ?_
 refine⟨?_,rfl⟩
 rfl
def TR.kk:=p11 kB kS Tryz.ntmps18 Tryz.underlying33 oV nD qR AQ KQ yJ Tryz.results18
open TR in
theorem dJ (v:Int) (hv:aZ .i64 v):EC Tryz.prog 18 [I .i64 v] (wI v):=by
 refine iI (fun w=>by simp[wI]) (by simp[BV]) fun w hl=>?_
 have h1:w.2.length+(encI v).length≤1000000000:=by simpa[wI] using hl
 refine jH Tryz.func18 Tryz.ntmps18 fun x hx=>?_
 refine dH ?_
 refine mW ?_
 refine qf (wr:=false) [(10, .c (.ms 20 1 0 (encI v).length))] [(10,([],some [(20,aC 1 ((encI v).map dR))]))] (by kernel_rfl) (by simp only[qW.eq_1,qW.eq_2,mY.eq_def,BD.eq_def,mr.eq_def,Option.getD,kD,kk,Nat.reduceAdd,Nat.reduceLT,Nat.reduceEqDiff, ↓reduceIte,reduceCtorEq,RJ];first|done|rfl) ?_ (by kernel_rfl) ?_
 ·(simp only[All,List.cons_append,List.nil_append,aZ,TS,TV,Uk,forall_eq_or_imp,forall_eq,Ug,UH,implies_true,Ub,List.length_cons,List.length_nil];repeat' (first|exact trivial|exact I9 v hv|exact Na _|refine And.intro ?_ ?_|(rintro _ ⟨⟩;done)|assumption|rfl|omega|(simp[aH,aN,aO,aI,aK,aJ,aj,ay,bC,ax,bf,ae,Ab.get];done)))
 refine mW ?_
 refine⟨⟨14,[],stB 2001 2002 (wI v w)⟩,?_,?_⟩
 ·(refine bD (fun i=>if i=2002 then 11 else i) rfl ?_ ⟨?_,?_,?_,keepR hx (by simp[ae,Ab.get])⟩<;>first|(intro i hi;have h0:=hx i hi;constructor<;>(revert h0;simp only[ae,Ab.get];(repeat' split)<;>simp_all);done)|(simp only[kE,aC, ↓reduceIte,Nat.reduceEqDiff,reduceCtorEq];done)|(simp only[aC,gK,gm,TS,TV,Uk,forall_eq_or_imp,forall_eq];simp[bg,bG,aS,bY,aj,Ab.get,ax,bC,ay,aH,aN,aO,aI,aK,aJ,ae,List.flatten,wI];done)|simp[bg,bG,aS,bY,aj,Ab.get,ax,bC,ay,aH,aN,aO,aI,aK,aJ,ae,List.flatten,wI])
 refine rN ((stB 2001 2002 (wI v w))) ?_
 refine⟨?_,rfl⟩
 rfl
def z116.kk:=p11 kB kS Tryz.ntmps116 Tryz.underlying33 oV nD qR AQ KQ yJ Tryz.results116
open z116 in
theorem qg (v:Bool):EC Tryz.prog 116 [B v] (wB v):=by
 refine iI (fun w=>by simp[wB]) (by simp[BV]) fun w hl=>?_
 have h1:w.2.length+(jO v).length≤1000000000:=by simpa[wB] using hl
 refine jH Tryz.func116 Tryz.ntmps116 fun x hx=>?_
 refine dH ?_
 refine mW ?_
 refine qf (wr:=false) [(10, .c (.ms 20 1 0 (jO v).length))] [(10,([],some [(20,aC 1 ((jO v).map dR))]))] (by kernel_rfl) (by simp only[qW.eq_1,qW.eq_2,mY.eq_def,BD.eq_def,mr.eq_def,Option.getD,kD,kk,Nat.reduceAdd,Nat.reduceLT,Nat.reduceEqDiff, ↓reduceIte,reduceCtorEq,RJ];first|done|rfl) ?_ (by kernel_rfl) ?_
 ·(simp only[All,List.cons_append,List.nil_append,aZ,TS,TV,Uk,forall_eq_or_imp,forall_eq,Ug,UH,implies_true,Ub,List.length_cons,List.length_nil];repeat' (first|exact trivial|exact Fh v|exact Na _|refine And.intro ?_ ?_|(rintro _ ⟨⟩;done)|assumption|rfl|omega|(simp[aH,aN,aO,aI,aK,aJ,aj,ay,bC,ax,bf,ae,Ab.get];done)))
 refine mW ?_
 refine⟨⟨14,[],stB 2001 2002 (wB v w)⟩,?_,?_⟩
 ·(refine bD (fun i=>if i=2002 then 11 else i) rfl ?_ ⟨?_,?_,?_,keepR hx (by simp[ae,Ab.get])⟩<;>first|(intro i hi;have h0:=hx i hi;constructor<;>(revert h0;simp only[ae,Ab.get];(repeat' split)<;>simp_all);done)|(simp only[kE,aC, ↓reduceIte,Nat.reduceEqDiff,reduceCtorEq];done)|(simp only[aC,gK,gm,TS,TV,Uk,forall_eq_or_imp,forall_eq];simp[bg,bG,aS,bY,aj,Ab.get,ax,bC,ay,aH,aN,aO,aI,aK,aJ,ae,List.flatten,wB];done)|simp[bg,bG,aS,bY,aj,Ab.get,ax,bC,ay,aH,aN,aO,aI,aK,aJ,ae,List.flatten,wB])
 refine rN ((stB 2001 2002 (wB v w))) ?_
 refine⟨?_,rfl⟩
 rfl
theorem KW (s:VJ) (w:Wt):w.2.length≤(wT s w).2.length:=by
 unfold wT
 split<;>simp
def z49.kk:=Sz kB kS Tryz.ntmps49 Tryz.underlying33 Tryz.underlying9 oV nD qR lH AQ Gu KQ yJ Tryz.results49
open z49 in
theorem dM (s:VJ) (hs:s.size≤2000000):EC Tryz.prog 49 [Str s] (wT s):=by
 refine iI (KW s) (by simp[BV]) fun w hl=>?_
 refine jH Tryz.func49 Tryz.ntmps49 fun x hx=>?_
 refine dH ?_
 try refine nv ?_
 refine bV ?_ ?_
 ·intro h
  have h':1024<s.size:=by have:(1024:Int)<s.size:=(by simpa using h);omega
  have e:wT s w=(true,w.2):=if_pos h'
  rw[e]
  try refine nv ?_
  refine⟨⟨20,[],stB 2001 2002 (true,w.2)⟩,?_,?_⟩
  ·refine(iw (bid:=2000) (id:=2001) (id':=2002) (j:=0) (by decide) (by decide) rfl rfl rfl rfl rfl).trans ?_
   refine jF ?_
   exact jG
  refine rV ((stB 2001 2002 (true,w.2))) ?_
  refine⟨?_,rfl⟩
  rfl
 ·intro h
  have h':¬1024<s.size:=by have:(s.size:Int)≤1024:=(by simpa using h);omega
  have e:wT s w=(w.1,w.2++fO s):=if_neg h'
  have h1:w.2.length+(fO s).length≤1000000000:=by rw[e] at hl;simpa using hl
  rw[e]
  refine mW ?_
  refine qf (wr:=false) [(16, .c (.ms 19 1 0 (fO s).length))] [(16,([],some [(19,aC 1 ((fO s).map dR))]))] (by kernel_rfl) (by simp only[qW.eq_1,qW.eq_2,mY.eq_def,BD.eq_def,mr.eq_def,Option.getD,kD,kk,Nat.reduceAdd,Nat.reduceLT,Nat.reduceEqDiff, ↓reduceIte,reduceCtorEq,RJ];first|done|rfl) ?_ (by kernel_rfl) ?_
  ·(simp only[All,List.cons_append,List.nil_append,aZ,TS,TV,Uk,forall_eq_or_imp,forall_eq,Ug,UH,implies_true,Ub,List.length_cons,List.length_nil];repeat' (first|exact trivial|exact Fq s (by omega)|exact Na _|refine And.intro ?_ ?_|(rintro _ ⟨⟩;done)|assumption|rfl|omega|(simp[aH,aN,aO,aI,aK,aJ,aj,ay,bC,ax,bf,ae,Ab.get];done)))
  refine mW ?_
  refine⟨⟨20,[],stB 2001 2002 ((w.1,w.2++fO s))⟩,?_,?_⟩
  ·exact OU (fun i=>if i=2002 then 17 else i)
  refine rN ((stB 2001 2002 ((w.1,w.2++fO s)))) ?_
  refine⟨?_,rfl⟩
  rfl
end Go.Proofs.YtpoodoknkbojgaaGreatDoor
