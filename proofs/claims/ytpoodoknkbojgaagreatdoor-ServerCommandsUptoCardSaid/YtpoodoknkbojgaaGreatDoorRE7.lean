/- A part of the proof. -/
import Derived.Test.YtpoodoknkbojgaaGreatDoorRE6
set_option maxRecDepth 100000
set_option maxHeartbeats 16000000
set_option linter.all false
namespace Go.Proofs.YtpoodoknkbojgaaGreatDoor
open Go.Ab Tys
variable [wJ]
def z50.kk:=p10 kB Tryz.ntmps50 uJ ww uT uY JK Fq sQ Tryz.results50
open z50 in
theorem Vl (s:Dx) (h1:s.name.size≤2000000) (h2:s.parent.size≤2000000) (hn:s.paths.length≤4000000) (h3:∀e∈s.paths,aV .i64 e.kind∧PS e.path∧PS e.frm):EC Tryz.prog 50 [UC s] (Ik s):=by
 have c1:=gu s.name h1
 have c2:=gu s.parent h2
 have c3:=Q7 s.paths hn h3
 have hmo:∀w,w.2.length≤(Ik s w).2.length:=fun w=>by have m1:=c1.mo w;have m2:=c2.mo (wT s.name w);have m3:=c3.mo (wT s.parent (wT s.name w));simp only[Ik];omega
 refine jU hmo (by intro v hv;rw[aag] at hv;subst hv;exact oD _) fun w hl=>?_
 have m1:=c1.mo w
 have m2:=c2.mo (wT s.name w)
 have m3:=c3.mo (wT s.parent (wT s.name w))
 simp only[Ik] at hl⊢
 refine dI Tryz.func50 Tryz.ntmps50 fun x hx=>?_
 refine bZ ?_
 try refine nv ?_
 refine dh ((stA 2001 w)) (c1.ac 2001 2003 w (by decide) (by decide) (by decide) (by omega)) ?_
 rintro rv9 st' ⟨rfl,rfl⟩<;>refine di ?_
 try refine nv ?_
 refine dh ((stA 2003 (wT s.name w))) (c2.ac 2003 2004 (wT s.name w) (by decide) (by decide) (by decide) (by omega)) ?_
 rintro rv9 st' ⟨rfl,rfl⟩<;>refine di ?_
 try refine nv ?_
 refine dh ((stA 2004 (wT s.parent (wT s.name w)))) (c3.ac 2004 2002 (wT s.parent (wT s.name w)) (by decide) (by decide) (by decide) (by omega)) ?_
 rintro rv9 st' ⟨rfl,rfl⟩<;>refine di ?_
 try refine nv ?_
 refine⟨⟨16,[],stB 2001 2002 (wL 12 kU s.paths (wT s.parent (wT s.name w)))⟩,?_,?_⟩
 ·exact fM
 refine rN ((stB 2001 2002 (wL 12 kU s.paths (wT s.parent (wT s.name w))))) ?_
 refine⟨?_,rfl⟩
 rfl
structure xW (c:cO):Prop where
 i:DX c
 s0:c.client.size≤2000000
 s1:c.name.size≤2000000
 s2:c.path.size≤2000000
 s3:c.text.size≤2000000
 s4:c.stream.name.size≤2000000
 s5:c.stream.parent.size≤2000000
 paths:∀x∈c.stream.paths,PS x.path∧PS x.frm
 rules:∀r∈c.rules,PS r.left∧PS r.right
 edits:∀e∈c.edits,e.path.size≤2000000∧e.frm.size≤2000000
 recs:∀e∈c.recs,e.frm.size≤2000000∧e.to.size≤2000000
 n1:c.stream.paths.length≤4000000
 n2:c.rules.length≤4000000
 n3:c.edits.length≤4000000
 n4:c.recs.length≤4000000
def ZV.kk:=p2 (p12 kB Tryz.ntmps19 uJ qI rX nD nK nZ qQ zK zS zY) (p11 qU rW qV Fq G5 FX FP BI pg sQ Tryz.results19)
open ZV in
theorem PK (c:cO) (hc:xW c) (fl:Nat) (hf:fl≤10):EC Tryz.prog 19 [wK c,I .i64 fl] (wF fl c):=by
 have c0:=gu c.client hc.s0
 have c1:=gu c.name hc.s1
 have c2:=gu c.path hc.s2
 have c3:=fG c.number hc.i.number
 have c4:=fG c.fence hc.i.fence
 have c5:=fG c.ticks hc.i.ticks
 have c6:=gu c.text hc.s3
 have c7:=Vl c.stream hc.s4 hc.s5 hc.n1 (fun x hx=>⟨hc.i.paths x hx,hc.paths x hx⟩)
 have c8:=Qz c.rules hc.n2 hc.rules
 have c9:=Qx c.edits hc.n3 (fun e he=>⟨hc.i.edits e he,hc.edits e he⟩)
 have c10:=RJ c.recs hc.n4 (fun e he=>⟨hc.i.recs e he,hc.recs e he⟩)
 have hmo:∀w:Wt,w.2.length≤(wF fl c w).2.length:=by
  rcases fl with _|_|_|_|_|_|_|_|_|_|_|fl
  ·exact c0.mo
  ·exact c1.mo
  ·exact c2.mo
  ·exact c3.mo
  ·exact c4.mo
  ·exact c5.mo
  ·exact c6.mo
  ·exact c7.mo
  ·exact c8.mo
  ·exact c9.mo
  ·exact c10.mo
  ·omega
 refine jU hmo (by intro v hv;simp only[Z9,aad,aaw] at hv;rcases hv with rfl|rfl;exact oD _;exact Fz _) fun w hl=>?_
 refine dI Tryz.func19 Tryz.ntmps19 fun x hx=>?_
 refine bZ ?_
 try refine nv ?_
 refine aU ?_ ?_
 ·intro h
  obtain rfl:fl=0:=by have:(fl:Int)=0:=(by simpa using h);omega
  try refine nv ?_
  refine dh ((stA 2001 w)) (c0.ac 2001 2002 w (by decide) (by decide) (by decide) hl) ?_
  rintro rv9 st' ⟨rfl,rfl⟩<;>refine di ?_
  try refine nv ?_
  refine⟨⟨73,[],stB 2001 2002 (wF 0 c w)⟩,?_,?_⟩
  ·(refine aY (fun i=>i) rfl ?_ ⟨?_,?_,?_,dK hx (by simp[ae,Ab.get])⟩<;>first|(simp only[kE,aC, ↓reduceIte,Nat.reduceEqDiff,reduceCtorEq,wF];done)|simp[aO,aB,ag,Ab.get,aA,bi,ax,aN,aF,aI,aG,aJ,aH,ae,List.flatten,wF])
  refine rV ((stB 2001 2002 (wF 0 c w))) ?_
  refine⟨?_,rfl⟩
  rfl
 intro h0
 have h0:¬fl=0:=by rintro rfl;simp at h0
 try refine nv ?_
 refine aU ?_ ?_
 ·intro h
  obtain rfl:fl=1:=by have:(fl:Int)=1:=(by simpa using h);omega
  try refine nv ?_
  refine dh ((stA 2001 w)) (c1.ac 2001 2002 w (by decide) (by decide) (by decide) hl) ?_
  rintro rv9 st' ⟨rfl,rfl⟩<;>refine di ?_
  try refine nv ?_
  refine⟨⟨73,[],stB 2001 2002 (wF 1 c w)⟩,?_,?_⟩
  ·(refine aY (fun i=>i) rfl ?_ ⟨?_,?_,?_,dK hx (by simp[ae,Ab.get])⟩<;>first|(simp only[kE,aC, ↓reduceIte,Nat.reduceEqDiff,reduceCtorEq,wF];done)|simp[aO,aB,ag,Ab.get,aA,bi,ax,aN,aF,aI,aG,aJ,aH,ae,List.flatten,wF])
  refine rV ((stB 2001 2002 (wF 1 c w))) ?_
  refine⟨?_,rfl⟩
  rfl
 intro h1
 have h1:¬fl=1:=by rintro rfl;simp at h1
 try refine nv ?_
 refine aU ?_ ?_
 ·intro h
  obtain rfl:fl=2:=by have:(fl:Int)=2:=(by simpa using h);omega
  try refine nv ?_
  refine dh ((stA 2001 w)) (c2.ac 2001 2002 w (by decide) (by decide) (by decide) hl) ?_
  rintro rv9 st' ⟨rfl,rfl⟩<;>refine di ?_
  try refine nv ?_
  refine⟨⟨73,[],stB 2001 2002 (wF 2 c w)⟩,?_,?_⟩
  ·(refine aY (fun i=>i) rfl ?_ ⟨?_,?_,?_,dK hx (by simp[ae,Ab.get])⟩<;>first|(simp only[kE,aC, ↓reduceIte,Nat.reduceEqDiff,reduceCtorEq,wF];done)|simp[aO,aB,ag,Ab.get,aA,bi,ax,aN,aF,aI,aG,aJ,aH,ae,List.flatten,wF])
  refine rV ((stB 2001 2002 (wF 2 c w))) ?_
  refine⟨?_,rfl⟩
  rfl
 intro h2
 have h2:¬fl=2:=by rintro rfl;simp at h2
 try refine nv ?_
 refine aU ?_ ?_
 ·intro h
  obtain rfl:fl=3:=by have:(fl:Int)=3:=(by simpa using h);omega
  try refine nv ?_
  refine dh ((stA 2001 w)) (c3.ac 2001 2002 w (by decide) (by decide) (by decide) hl) ?_
  rintro rv9 st' ⟨rfl,rfl⟩<;>refine di ?_
  try refine nv ?_
  refine⟨⟨73,[],stB 2001 2002 (wF 3 c w)⟩,?_,?_⟩
  ·(refine aY (fun i=>i) rfl ?_ ⟨?_,?_,?_,dK hx (by simp[ae,Ab.get])⟩<;>first|(simp only[kE,aC, ↓reduceIte,Nat.reduceEqDiff,reduceCtorEq,wF];done)|simp[aO,aB,ag,Ab.get,aA,bi,ax,aN,aF,aI,aG,aJ,aH,ae,List.flatten,wF])
  refine rV ((stB 2001 2002 (wF 3 c w))) ?_
  refine⟨?_,rfl⟩
  rfl
 intro h3
 have h3:¬fl=3:=by rintro rfl;simp at h3
 try refine nv ?_
 refine aU ?_ ?_
 ·intro h
  obtain rfl:fl=4:=by have:(fl:Int)=4:=(by simpa using h);omega
  try refine nv ?_
  refine dh ((stA 2001 w)) (c4.ac 2001 2002 w (by decide) (by decide) (by decide) hl) ?_
  rintro rv9 st' ⟨rfl,rfl⟩<;>refine di ?_
  try refine nv ?_
  refine⟨⟨73,[],stB 2001 2002 (wF 4 c w)⟩,?_,?_⟩
  ·(refine aY (fun i=>i) rfl ?_ ⟨?_,?_,?_,dK hx (by simp[ae,Ab.get])⟩<;>first|(simp only[kE,aC, ↓reduceIte,Nat.reduceEqDiff,reduceCtorEq,wF];done)|simp[aO,aB,ag,Ab.get,aA,bi,ax,aN,aF,aI,aG,aJ,aH,ae,List.flatten,wF])
  refine rV ((stB 2001 2002 (wF 4 c w))) ?_
  refine⟨?_,rfl⟩
  rfl
 intro h4
 have h4:¬fl=4:=by rintro rfl;simp at h4
 try refine nv ?_
 refine aU ?_ ?_
 ·intro h
  obtain rfl:fl=5:=by have:(fl:Int)=5:=(by simpa using h);omega
  try refine nv ?_
  refine dh ((stA 2001 w)) (c5.ac 2001 2002 w (by decide) (by decide) (by decide) hl) ?_
  rintro rv9 st' ⟨rfl,rfl⟩<;>refine di ?_
  try refine nv ?_
  refine⟨⟨73,[],stB 2001 2002 (wF 5 c w)⟩,?_,?_⟩
  ·(refine aY (fun i=>i) rfl ?_ ⟨?_,?_,?_,dK hx (by simp[ae,Ab.get])⟩<;>first|(simp only[kE,aC, ↓reduceIte,Nat.reduceEqDiff,reduceCtorEq,wF];done)|simp[aO,aB,ag,Ab.get,aA,bi,ax,aN,aF,aI,aG,aJ,aH,ae,List.flatten,wF])
  refine rV ((stB 2001 2002 (wF 5 c w))) ?_
  refine⟨?_,rfl⟩
  rfl
 intro h5
 have h5:¬fl=5:=by rintro rfl;simp at h5
 try refine nv ?_
 refine aU ?_ ?_
 ·intro h
  obtain rfl:fl=6:=by have:(fl:Int)=6:=(by simpa using h);omega
  try refine nv ?_
  refine dh ((stA 2001 w)) (c6.ac 2001 2002 w (by decide) (by decide) (by decide) hl) ?_
  rintro rv9 st' ⟨rfl,rfl⟩<;>refine di ?_
  try refine nv ?_
  refine⟨⟨73,[],stB 2001 2002 (wF 6 c w)⟩,?_,?_⟩
  ·(refine aY (fun i=>i) rfl ?_ ⟨?_,?_,?_,dK hx (by simp[ae,Ab.get])⟩<;>first|(simp only[kE,aC, ↓reduceIte,Nat.reduceEqDiff,reduceCtorEq,wF];done)|simp[aO,aB,ag,Ab.get,aA,bi,ax,aN,aF,aI,aG,aJ,aH,ae,List.flatten,wF])
  refine rV ((stB 2001 2002 (wF 6 c w))) ?_
  refine⟨?_,rfl⟩
  rfl
 intro h6
 have h6:¬fl=6:=by rintro rfl;simp at h6
 try refine nv ?_
 refine aU ?_ ?_
 ·intro h
  obtain rfl:fl=7:=by have:(fl:Int)=7:=(by simpa using h);omega
  try refine nv ?_
  refine dh ((stA 2001 w)) (c7.ac 2001 2002 w (by decide) (by decide) (by decide) hl) ?_
  rintro rv9 st' ⟨rfl,rfl⟩<;>refine di ?_
  try refine nv ?_
  refine⟨⟨73,[],stB 2001 2002 (wF 7 c w)⟩,?_,?_⟩
  ·(refine aY (fun i=>i) rfl ?_ ⟨?_,?_,?_,dK hx (by simp[ae,Ab.get])⟩<;>first|(simp only[kE,aC, ↓reduceIte,Nat.reduceEqDiff,reduceCtorEq,wF];done)|simp[aO,aB,ag,Ab.get,aA,bi,ax,aN,aF,aI,aG,aJ,aH,ae,List.flatten,wF])
  refine rV ((stB 2001 2002 (wF 7 c w))) ?_
  refine⟨?_,rfl⟩
  rfl
 intro h7
 have h7:¬fl=7:=by rintro rfl;simp at h7
 try refine nv ?_
 refine aU ?_ ?_
 ·intro h
  obtain rfl:fl=8:=by have:(fl:Int)=8:=(by simpa using h);omega
  try refine nv ?_
  refine dh ((stA 2001 w)) (c8.ac 2001 2002 w (by decide) (by decide) (by decide) hl) ?_
  rintro rv9 st' ⟨rfl,rfl⟩<;>refine di ?_
  try refine nv ?_
  refine⟨⟨73,[],stB 2001 2002 (wF 8 c w)⟩,?_,?_⟩
  ·(refine aY (fun i=>i) rfl ?_ ⟨?_,?_,?_,dK hx (by simp[ae,Ab.get])⟩<;>first|(simp only[kE,aC, ↓reduceIte,Nat.reduceEqDiff,reduceCtorEq,wF];done)|simp[aO,aB,ag,Ab.get,aA,bi,ax,aN,aF,aI,aG,aJ,aH,ae,List.flatten,wF])
  refine rV ((stB 2001 2002 (wF 8 c w))) ?_
  refine⟨?_,rfl⟩
  rfl
 intro h8
 have h8:¬fl=8:=by rintro rfl;simp at h8
 try refine nv ?_
 refine aU ?_ ?_
 ·intro h
  obtain rfl:fl=9:=by have:(fl:Int)=9:=(by simpa using h);omega
  try refine nv ?_
  refine dh ((stA 2001 w)) (c9.ac 2001 2002 w (by decide) (by decide) (by decide) hl) ?_
  rintro rv9 st' ⟨rfl,rfl⟩<;>refine di ?_
  try refine nv ?_
  refine⟨⟨73,[],stB 2001 2002 (wF 9 c w)⟩,?_,?_⟩
  ·(refine aY (fun i=>i) rfl ?_ ⟨?_,?_,?_,dK hx (by simp[ae,Ab.get])⟩<;>first|(simp only[kE,aC, ↓reduceIte,Nat.reduceEqDiff,reduceCtorEq,wF];done)|simp[aO,aB,ag,Ab.get,aA,bi,ax,aN,aF,aI,aG,aJ,aH,ae,List.flatten,wF])
  refine rV ((stB 2001 2002 (wF 9 c w))) ?_
  refine⟨?_,rfl⟩
  rfl
 intro h9
 have h9:¬fl=9:=by rintro rfl;simp at h9
 try refine nv ?_
 refine aU ?_ ?_
 ·intro h
  obtain rfl:fl=10:=by have:(fl:Int)=10:=(by simpa using h);omega
  try refine nv ?_
  refine dh ((stA 2001 w)) (c10.ac 2001 2002 w (by decide) (by decide) (by decide) hl) ?_
  rintro rv9 st' ⟨rfl,rfl⟩<;>refine di ?_
  try refine nv ?_
  refine⟨⟨73,[],stB 2001 2002 (wF 10 c w)⟩,?_,?_⟩
  ·(refine aY (fun i=>i) rfl ?_ ⟨?_,?_,?_,dK hx (by simp[ae,Ab.get])⟩<;>first|(simp only[kE,aC, ↓reduceIte,Nat.reduceEqDiff,reduceCtorEq,wF];done)|simp[aO,aB,ag,Ab.get,aA,bi,ax,aN,aF,aI,aG,aJ,aH,ae,List.flatten,wF])
  refine rV ((stB 2001 2002 (wF 10 c w))) ?_
  refine⟨?_,rfl⟩
  rfl
 intro h10
 have h10:¬fl=10:=by rintro rfl;simp at h10
 omega
def iW:List (Int×List Nat×Nat):=[(1,[7],34),(2,[0,1,8],35),(3,[0,6],36),(4,[0,3,9,10],37),(5,[0,3],38),(14,[0,3],39),(6,[0,3,1],40),(7,[0,3],41),(8,[0,3],42),(9,[0,2,5],43),(10,[0,2,4,5],44),(11,[0,2,4],45),(12,[2],46),(13,[5],47)]
@[reducible] def OL (e:List Nat×Nat):Bool×List D:=(true,[.ps 1 (e.1.map fun n:Nat=>[D.v (.int .i64 (n:Int))]), .v (.func (.func e.2) ⟨[]⟩ ⟨[]⟩)])
def z17.kk:=p16 kB kS kM Tryz.ntmps17 Rq Rf Gz UL WL Tj pg Xe Zo Wy WR Tryz.results17
open z17 in
theorem IE:AC Tryz.prog 17 [] [] (fun r st=>r= .c (.d (.pm (zn kN OL iW)))∧st=[]):=by
 refine dI Tryz.func17 Tryz.ntmps17 fun x hx=>?_
 refine jk ?_
 refine gg ?_
 refine jk ?_
 refine bu (wr:=false) 0 (by simp only[kk,Nat.reduceAdd,Nat.reduceLT,Nat.reduceEqDiff, ↓reduceIte,reduceCtorEq];first|done|rfl) (by first|exact trivial|(simp only[kO];omega)|(simp[All,aV,bI];done)|(simp[All,aV];first|done|omega)) ?_
 refine bu (wr:=false) 0 (by simp only[kk,Nat.reduceAdd,Nat.reduceLT,Nat.reduceEqDiff, ↓reduceIte,reduceCtorEq];first|done|rfl) (by first|exact trivial|(simp only[kO];omega)|(simp[All,aV,bI];done)|(simp[All,aV];first|done|omega)) ?_
 refine dm (ay (i:=2) (id:=2) (ys:=[[.v (.int .i64 7)]]) rfl rfl rfl) ?_
 refine dQ ?_
 refine bu (wr:=false) 1 (by simp only[kk,Nat.reduceAdd,Nat.reduceLT,Nat.reduceEqDiff, ↓reduceIte,reduceCtorEq];first|done|rfl) ?_ ?_
 ·simp only[All,List.cons_append,List.nil_append,aV,Z9,aad,aaw,forall_eq_or_imp,forall_eq,aA,ax,bi,ak,aK,aao,aaS,implies_true,aai,List.length_cons,List.length_nil,aC,fJ,bI]
  repeat' (first|exact trivial|exact cZ (by kernel_rfl)|refine And.intro ?_ ?_|intro _|assumption|rfl|omega|(rw[aar];assumption)|(simp;done)|(simp only[aae] at*;omega)|(simp_all;done))
 refine bu (wr:=false) 0 (by simp only[kk,Nat.reduceAdd,Nat.reduceLT,Nat.reduceEqDiff, ↓reduceIte,reduceCtorEq];first|done|rfl) (by first|exact trivial|(simp only[kO];omega)|(simp[All,aV,bI];done)|(simp[All,aV];first|done|omega)) ?_
 refine dm (ay (i:=4) (id:=4) (ys:=[[.v (.int .i64 0)],[.v (.int .i64 1)],[.v (.int .i64 8)]]) rfl rfl rfl) ?_
 refine dQ ?_
 refine bu (wr:=false) 1 (by simp only[kk,Nat.reduceAdd,Nat.reduceLT,Nat.reduceEqDiff, ↓reduceIte,reduceCtorEq];first|done|rfl) ?_ ?_
 ·simp only[All,List.cons_append,List.nil_append,aV,Z9,aad,aaw,forall_eq_or_imp,forall_eq,aA,ax,bi,ak,aK,aao,aaS,implies_true,aai,List.length_cons,List.length_nil,aC,fJ,bI]
  repeat' (first|exact trivial|exact cZ (by kernel_rfl)|refine And.intro ?_ ?_|intro _|assumption|rfl|omega|(rw[aar];assumption)|(simp;done)|(simp only[aae] at*;omega)|(simp_all;done))
 refine bu (wr:=false) 0 (by simp only[kk,Nat.reduceAdd,Nat.reduceLT,Nat.reduceEqDiff, ↓reduceIte,reduceCtorEq];first|done|rfl) (by first|exact trivial|(simp only[kO];omega)|(simp[All,aV,bI];done)|(simp[All,aV];first|done|omega)) ?_
 refine dm (ay (i:=6) (id:=6) (ys:=[[.v (.int .i64 0)],[.v (.int .i64 6)]]) rfl rfl rfl) ?_
 refine dQ ?_
 refine bu (wr:=false) 1 (by simp only[kk,Nat.reduceAdd,Nat.reduceLT,Nat.reduceEqDiff, ↓reduceIte,reduceCtorEq];first|done|rfl) ?_ ?_
 ·simp only[All,List.cons_append,List.nil_append,aV,Z9,aad,aaw,forall_eq_or_imp,forall_eq,aA,ax,bi,ak,aK,aao,aaS,implies_true,aai,List.length_cons,List.length_nil,aC,fJ,bI]
  repeat' (first|exact trivial|exact cZ (by kernel_rfl)|refine And.intro ?_ ?_|intro _|assumption|rfl|omega|(rw[aar];assumption)|(simp;done)|(simp only[aae] at*;omega)|(simp_all;done))
 refine bu (wr:=false) 0 (by simp only[kk,Nat.reduceAdd,Nat.reduceLT,Nat.reduceEqDiff, ↓reduceIte,reduceCtorEq];first|done|rfl) (by first|exact trivial|(simp only[kO];omega)|(simp[All,aV,bI];done)|(simp[All,aV];first|done|omega)) ?_
 refine dm (ay (i:=8) (id:=8) (ys:=[[.v (.int .i64 0)],[.v (.int .i64 3)],[.v (.int .i64 9)],[.v (.int .i64 10)]]) rfl rfl rfl) ?_
 refine dQ ?_
 refine bu (wr:=false) 1 (by simp only[kk,Nat.reduceAdd,Nat.reduceLT,Nat.reduceEqDiff, ↓reduceIte,reduceCtorEq];first|done|rfl) ?_ ?_
 ·simp only[All,List.cons_append,List.nil_append,aV,Z9,aad,aaw,forall_eq_or_imp,forall_eq,aA,ax,bi,ak,aK,aao,aaS,implies_true,aai,List.length_cons,List.length_nil,aC,fJ,bI]
  repeat' (first|exact trivial|exact cZ (by kernel_rfl)|refine And.intro ?_ ?_|intro _|assumption|rfl|omega|(rw[aar];assumption)|(simp;done)|(simp only[aae] at*;omega)|(simp_all;done))
 refine bu (wr:=false) 0 (by simp only[kk,Nat.reduceAdd,Nat.reduceLT,Nat.reduceEqDiff, ↓reduceIte,reduceCtorEq];first|done|rfl) (by first|exact trivial|(simp only[kO];omega)|(simp[All,aV,bI];done)|(simp[All,aV];first|done|omega)) ?_
 refine dm (ay (i:=10) (id:=10) (ys:=[[.v (.int .i64 0)],[.v (.int .i64 3)]]) rfl rfl rfl) ?_
 refine dQ ?_
 refine bu (wr:=false) 1 (by simp only[kk,Nat.reduceAdd,Nat.reduceLT,Nat.reduceEqDiff, ↓reduceIte,reduceCtorEq];first|done|rfl) ?_ ?_
 ·simp only[All,List.cons_append,List.nil_append,aV,Z9,aad,aaw,forall_eq_or_imp,forall_eq,aA,ax,bi,ak,aK,aao,aaS,implies_true,aai,List.length_cons,List.length_nil,aC,fJ,bI]
  repeat' (first|exact trivial|exact cZ (by kernel_rfl)|refine And.intro ?_ ?_|intro _|assumption|rfl|omega|(rw[aar];assumption)|(simp;done)|(simp only[aae] at*;omega)|(simp_all;done))
 refine bu (wr:=false) 0 (by simp only[kk,Nat.reduceAdd,Nat.reduceLT,Nat.reduceEqDiff, ↓reduceIte,reduceCtorEq];first|done|rfl) (by first|exact trivial|(simp only[kO];omega)|(simp[All,aV,bI];done)|(simp[All,aV];first|done|omega)) ?_
 refine dm (ay (i:=12) (id:=12) (ys:=[[.v (.int .i64 0)],[.v (.int .i64 3)]]) rfl rfl rfl) ?_
 refine dQ ?_
 refine bu (wr:=false) 1 (by simp only[kk,Nat.reduceAdd,Nat.reduceLT,Nat.reduceEqDiff, ↓reduceIte,reduceCtorEq];first|done|rfl) ?_ ?_
 ·simp only[All,List.cons_append,List.nil_append,aV,Z9,aad,aaw,forall_eq_or_imp,forall_eq,aA,ax,bi,ak,aK,aao,aaS,implies_true,aai,List.length_cons,List.length_nil,aC,fJ,bI]
  repeat' (first|exact trivial|exact cZ (by kernel_rfl)|refine And.intro ?_ ?_|intro _|assumption|rfl|omega|(rw[aar];assumption)|(simp;done)|(simp only[aae] at*;omega)|(simp_all;done))
 refine bu (wr:=false) 0 (by simp only[kk,Nat.reduceAdd,Nat.reduceLT,Nat.reduceEqDiff, ↓reduceIte,reduceCtorEq];first|done|rfl) (by first|exact trivial|(simp only[kO];omega)|(simp[All,aV,bI];done)|(simp[All,aV];first|done|omega)) ?_
 refine dm (ay (i:=14) (id:=14) (ys:=[[.v (.int .i64 0)],[.v (.int .i64 3)],[.v (.int .i64 1)]]) rfl rfl rfl) ?_
 refine dQ ?_
 refine bu (wr:=false) 1 (by simp only[kk,Nat.reduceAdd,Nat.reduceLT,Nat.reduceEqDiff, ↓reduceIte,reduceCtorEq];first|done|rfl) ?_ ?_
 ·simp only[All,List.cons_append,List.nil_append,aV,Z9,aad,aaw,forall_eq_or_imp,forall_eq,aA,ax,bi,ak,aK,aao,aaS,implies_true,aai,List.length_cons,List.length_nil,aC,fJ,bI]
  repeat' (first|exact trivial|exact cZ (by kernel_rfl)|refine And.intro ?_ ?_|intro _|assumption|rfl|omega|(rw[aar];assumption)|(simp;done)|(simp only[aae] at*;omega)|(simp_all;done))
 refine bu (wr:=false) 0 (by simp only[kk,Nat.reduceAdd,Nat.reduceLT,Nat.reduceEqDiff, ↓reduceIte,reduceCtorEq];first|done|rfl) (by first|exact trivial|(simp only[kO];omega)|(simp[All,aV,bI];done)|(simp[All,aV];first|done|omega)) ?_
 refine dm (ay (i:=16) (id:=16) (ys:=[[.v (.int .i64 0)],[.v (.int .i64 3)]]) rfl rfl rfl) ?_
 refine dQ ?_
 refine bu (wr:=false) 1 (by simp only[kk,Nat.reduceAdd,Nat.reduceLT,Nat.reduceEqDiff, ↓reduceIte,reduceCtorEq];first|done|rfl) ?_ ?_
 ·simp only[All,List.cons_append,List.nil_append,aV,Z9,aad,aaw,forall_eq_or_imp,forall_eq,aA,ax,bi,ak,aK,aao,aaS,implies_true,aai,List.length_cons,List.length_nil,aC,fJ,bI]
  repeat' (first|exact trivial|exact cZ (by kernel_rfl)|refine And.intro ?_ ?_|intro _|assumption|rfl|omega|(rw[aar];assumption)|(simp;done)|(simp only[aae] at*;omega)|(simp_all;done))
 refine bu (wr:=false) 0 (by simp only[kk,Nat.reduceAdd,Nat.reduceLT,Nat.reduceEqDiff, ↓reduceIte,reduceCtorEq];first|done|rfl) (by first|exact trivial|(simp only[kO];omega)|(simp[All,aV,bI];done)|(simp[All,aV];first|done|omega)) ?_
 refine dm (ay (i:=18) (id:=18) (ys:=[[.v (.int .i64 0)],[.v (.int .i64 3)]]) rfl rfl rfl) ?_
 refine dQ ?_
 refine bu (wr:=false) 1 (by simp only[kk,Nat.reduceAdd,Nat.reduceLT,Nat.reduceEqDiff, ↓reduceIte,reduceCtorEq];first|done|rfl) ?_ ?_
 ·simp only[All,List.cons_append,List.nil_append,aV,Z9,aad,aaw,forall_eq_or_imp,forall_eq,aA,ax,bi,ak,aK,aao,aaS,implies_true,aai,List.length_cons,List.length_nil,aC,fJ,bI]
  repeat' (first|exact trivial|exact cZ (by kernel_rfl)|refine And.intro ?_ ?_|intro _|assumption|rfl|omega|(rw[aar];assumption)|(simp;done)|(simp only[aae] at*;omega)|(simp_all;done))
 refine bu (wr:=false) 0 (by simp only[kk,Nat.reduceAdd,Nat.reduceLT,Nat.reduceEqDiff, ↓reduceIte,reduceCtorEq];first|done|rfl) (by first|exact trivial|(simp only[kO];omega)|(simp[All,aV,bI];done)|(simp[All,aV];first|done|omega)) ?_
 refine dm (ay (i:=20) (id:=20) (ys:=[[.v (.int .i64 0)],[.v (.int .i64 2)],[.v (.int .i64 5)]]) rfl rfl rfl) ?_
 refine dQ ?_
 refine bu (wr:=false) 1 (by simp only[kk,Nat.reduceAdd,Nat.reduceLT,Nat.reduceEqDiff, ↓reduceIte,reduceCtorEq];first|done|rfl) ?_ ?_
 ·simp only[All,List.cons_append,List.nil_append,aV,Z9,aad,aaw,forall_eq_or_imp,forall_eq,aA,ax,bi,ak,aK,aao,aaS,implies_true,aai,List.length_cons,List.length_nil,aC,fJ,bI]
  repeat' (first|exact trivial|exact cZ (by kernel_rfl)|refine And.intro ?_ ?_|intro _|assumption|rfl|omega|(rw[aar];assumption)|(simp;done)|(simp only[aae] at*;omega)|(simp_all;done))
 refine bu (wr:=false) 0 (by simp only[kk,Nat.reduceAdd,Nat.reduceLT,Nat.reduceEqDiff, ↓reduceIte,reduceCtorEq];first|done|rfl) (by first|exact trivial|(simp only[kO];omega)|(simp[All,aV,bI];done)|(simp[All,aV];first|done|omega)) ?_
 refine dm (ay (i:=22) (id:=22) (ys:=[[.v (.int .i64 0)],[.v (.int .i64 2)],[.v (.int .i64 4)],[.v (.int .i64 5)]]) rfl rfl rfl) ?_
 refine dQ ?_
 refine bu (wr:=false) 1 (by simp only[kk,Nat.reduceAdd,Nat.reduceLT,Nat.reduceEqDiff, ↓reduceIte,reduceCtorEq];first|done|rfl) ?_ ?_
 ·simp only[All,List.cons_append,List.nil_append,aV,Z9,aad,aaw,forall_eq_or_imp,forall_eq,aA,ax,bi,ak,aK,aao,aaS,implies_true,aai,List.length_cons,List.length_nil,aC,fJ,bI]
  repeat' (first|exact trivial|exact cZ (by kernel_rfl)|refine And.intro ?_ ?_|intro _|assumption|rfl|omega|(rw[aar];assumption)|(simp;done)|(simp only[aae] at*;omega)|(simp_all;done))
 refine bu (wr:=false) 0 (by simp only[kk,Nat.reduceAdd,Nat.reduceLT,Nat.reduceEqDiff, ↓reduceIte,reduceCtorEq];first|done|rfl) (by first|exact trivial|(simp only[kO];omega)|(simp[All,aV,bI];done)|(simp[All,aV];first|done|omega)) ?_
 refine dm (ay (i:=24) (id:=24) (ys:=[[.v (.int .i64 0)],[.v (.int .i64 2)],[.v (.int .i64 4)]]) rfl rfl rfl) ?_
 refine dQ ?_
 refine bu (wr:=false) 1 (by simp only[kk,Nat.reduceAdd,Nat.reduceLT,Nat.reduceEqDiff, ↓reduceIte,reduceCtorEq];first|done|rfl) ?_ ?_
 ·simp only[All,List.cons_append,List.nil_append,aV,Z9,aad,aaw,forall_eq_or_imp,forall_eq,aA,ax,bi,ak,aK,aao,aaS,implies_true,aai,List.length_cons,List.length_nil,aC,fJ,bI]
  repeat' (first|exact trivial|exact cZ (by kernel_rfl)|refine And.intro ?_ ?_|intro _|assumption|rfl|omega|(rw[aar];assumption)|(simp;done)|(simp only[aae] at*;omega)|(simp_all;done))
 refine bu (wr:=false) 0 (by simp only[kk,Nat.reduceAdd,Nat.reduceLT,Nat.reduceEqDiff, ↓reduceIte,reduceCtorEq];first|done|rfl) (by first|exact trivial|(simp only[kO];omega)|(simp[All,aV,bI];done)|(simp[All,aV];first|done|omega)) ?_
 refine dm (ay (i:=26) (id:=26) (ys:=[[.v (.int .i64 2)]]) rfl rfl rfl) ?_
 refine dQ ?_
 refine bu (wr:=false) 1 (by simp only[kk,Nat.reduceAdd,Nat.reduceLT,Nat.reduceEqDiff, ↓reduceIte,reduceCtorEq];first|done|rfl) ?_ ?_
 ·simp only[All,List.cons_append,List.nil_append,aV,Z9,aad,aaw,forall_eq_or_imp,forall_eq,aA,ax,bi,ak,aK,aao,aaS,implies_true,aai,List.length_cons,List.length_nil,aC,fJ,bI]
  repeat' (first|exact trivial|exact cZ (by kernel_rfl)|refine And.intro ?_ ?_|intro _|assumption|rfl|omega|(rw[aar];assumption)|(simp;done)|(simp only[aae] at*;omega)|(simp_all;done))
 refine bu (wr:=false) 0 (by simp only[kk,Nat.reduceAdd,Nat.reduceLT,Nat.reduceEqDiff, ↓reduceIte,reduceCtorEq];first|done|rfl) (by first|exact trivial|(simp only[kO];omega)|(simp[All,aV,bI];done)|(simp[All,aV];first|done|omega)) ?_
 refine dm (ay (i:=28) (id:=28) (ys:=[[.v (.int .i64 5)]]) rfl rfl rfl) ?_
 refine dQ ?_
 refine bu (wr:=false) 1 (by simp only[kk,Nat.reduceAdd,Nat.reduceLT,Nat.reduceEqDiff, ↓reduceIte,reduceCtorEq];first|done|rfl) ?_ ?_
 ·simp only[All,List.cons_append,List.nil_append,aV,Z9,aad,aaw,forall_eq_or_imp,forall_eq,aA,ax,bi,ak,aK,aao,aaS,implies_true,aai,List.length_cons,List.length_nil,aC,fJ,bI]
  repeat' (first|exact trivial|exact cZ (by kernel_rfl)|refine And.intro ?_ ?_|intro _|assumption|rfl|omega|(rw[aar];assumption)|(simp;done)|(simp only[aae] at*;omega)|(simp_all;done))
 refine dm (qN (i:=1) (id:=1) (es:=zn kN OL iW) rfl rfl) ?_
 refine dQ ?_
 try refine nv ?_
 refine rA [] ?_
 refine⟨?_,rfl⟩
 rfl
end Go.Proofs.YtpoodoknkbojgaaGreatDoor
