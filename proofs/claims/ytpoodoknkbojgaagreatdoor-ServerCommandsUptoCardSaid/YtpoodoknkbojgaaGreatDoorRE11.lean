/- A part of the proof. -/
import Derived.Test.YtpoodoknkbojgaaGreatDoorRE4
set_option linter.all false
namespace Go.Proofs.YtpoodoknkbojgaaGreatDoor
open Go.Ab Tys
variable [wJ]
@[reducible] def ny (l:List cO):AV:= .c (.d (.ps 14 (l.map dZ)))
theorem Xk {ps:List abW} {n:Nat} (h:∀s∈ps,s.size≤n) (k:Nat):uj ps k≤5+k*(n+1):=by
 unfold uj
 have:∀l:List abW,(∀s∈l,s.size≤n)→(l.map fun x=>x.size+1).sum≤l.length*(n+1):=by
  intro l
  induction l with
  |nil=>intro _;simp
  |cons a l ih=>
   intro h
   have h1:=ih fun s hs=>h s (by simp[hs])
   have h2:=h a (by simp)
   simp only[aax,List.sum_cons,List.length_cons,aaI]
   omega
 have h1:=this (ps.take k) fun s hs=>h s (abE hs)
 have h2:(ps.take k).length*(n+1)≤k*(n+1):=aau _ (by rw[aaK];omega)
 omega
def z13.kk:=p11 kB Tryz.ntmps13 Tryz.underlying53 Tryz.underlying9 iF uA jF CO lS sQ Tryz.results13
set_option maxRecDepth 100000 in
set_option maxHeartbeats 4000000 in
open z13 in
theorem Dv (p:fZ) (hp:PB 2000000 p):AC Tryz.prog 13 [aPat p] [] (fun r st=>r=B (gQ p)∧st=[]):=by
 obtain⟨ps,rs⟩:=p
 have h1:ps.length≤2000000:=hp.1
 have hbd:=Xk (n:=2000000) hp.2
 rw[Fh]
 simp only
 refine dI Tryz.func13 Tryz.ntmps13 fun x hx=>?_
 try refine nv ?_
 refine aW (ι:=Nat) (I:=fun k=>⟨21,[(1, .c (.ptr 1 0)),(3,I .i64 (uj ps k)),(7,yw ps),(8,I .i64 ps.length),(9,I .i64 k)],[(1, .box ((iG ⟨ps,rs⟩).map C.d))]⟩)
  (Inv:=fun k=>k≤ps.length) (μ:=fun k=>ps.length-k) 0 (by omega) ?_ ?_
 ·(refine aY (fun i=>i) rfl ?_ ⟨?_,?_,?_,dK hx (by simp[ae,Ab.get])⟩<;>first|(simp only[kE,aC, ↓reduceIte,Nat.reduceEqDiff,reduceCtorEq,uj,List.take_zero,aa5,List.sum_nil,Nat.add_zero];done)|simp[aO,aB,ag,Ab.get,aA,bi,ax,aN,aF,aI,aG,aJ,aH,ae,List.flatten,uj,List.take_zero,aa5,List.sum_nil,Nat.add_zero])
 intro k hk
 try refine nv ?_
 refine aU ?_ ?_
 ·intro hlt
  have hlt':k<ps.length:=by simpa using hlt
  obtain⟨v,hv,he,htk⟩:=round encS ps k noS hlt'
  have hvs:v.size≤2000000:=hp.2 v (aah hv)
  have hsn:uj ps (k+1)=uj ps k+(v.size+1):=by
   unfold uj
   rw[htk,aa2,List.sum_append]
   simp only[aax,aa5,List.sum_cons,List.sum_nil]
   omega
  have hb:=hbd (k+1)
  have hm:(k+1)*(2000000+1)≤2000001*(2000000+1):=aau _ (by omega)
  have hadd:((uj ps k:Nat):Int)+((v.size:Nat)+1:Int)=((uj ps (k+1):Nat):Int):=by rw[hsn];omega
  try refine nx (p2 @he @hadd) ?_
  refine⟨k+1,by omega,by omega,?_⟩
  exact fM
 ·intro hge
  have hk':k=ps.length:=by have:¬k<ps.length:=(by simpa using hge);omega
  subst hk'
  try refine nv ?_
  refine rA [] ?_
  refine⟨?_,rfl⟩
  rw[show decide ((uj ps ps.length:Int)≤200)=decide (uj ps ps.length≤200) from abO.2 (by omega)]
structure tJ (c:cO):Prop where
 s0:c.client.size≤2000000
 s1:c.name.size≤2000000
 s2:c.path.size≤2000000
 s3:c.text.size≤2000000
 s4:c.stream.name.size≤2000000
 s5:c.stream.parent.size≤2000000
 paths:∀x∈c.stream.paths,PB 2000000 x.path∧PB 2000000 x.frm
 rules:∀r∈c.rules,PB 2000000 r.left∧PB 2000000 r.right
 edits:∀e∈c.edits,e.path.size≤2000000∧e.frm.size≤2000000
 recs:∀e∈c.recs,e.frm.size≤2000000∧e.to.size≤2000000
 n1:c.stream.paths.length≤2000000
 n2:c.rules.length≤2000000
 n3:c.edits.length≤2000000
 n4:c.recs.length≤2000000
def Sm (c:cO):Prop:=(∀r∈c.rules,r.left.parts.length≤14∧r.right.parts.length≤14)∧∀x∈c.stream.paths,x.path.parts.length≤14∧x.frm.parts.length≤14
def PY (c:cO):Nat:=c.edits.length+c.recs.length+3*c.rules.length+3*c.stream.paths.length
def nS (l:List cO) (k:Nat):Nat:=((l.take k).map PY).sum
def pR (l:List yX) (k:Nat):List fZ:=(l.take k).flatMap fun r=>[r.left,r.right]
def DY (l:List DT) (k:Nat):List fZ:=(l.take k).flatMap fun x=>[x.path,x.frm]
theorem Xa (l:List yX) (k:Nat):(pR l k).length≤2*l.length:=by
 have:(pR l k).length=2*(l.take k).length:=by
  unfold pR
  induction (l.take k) with
  |nil=>rfl
  |cons a m ih=>simp only[List.flatMap_cons,aan,List.length_cons,List.length_nil,ih];omega
 rw[this,aaK];omega
theorem Uf (l:List DT) (k:Nat):(DY l k).length≤2*l.length:=by
 have:(DY l k).length=2*(l.take k).length:=by
  unfold DY
  induction (l.take k) with
  |nil=>rfl
  |cons a m ih=>simp only[List.flatMap_cons,aan,List.length_cons,List.length_nil,ih];omega
 rw[this,aaK];omega
theorem RZ {α:Type} {f:α→Nat} {b:Nat}:∀m:List α,(∀c∈m,f c≤b)→(m.map f).sum≤m.length*b
 |[],_=>by simp
 |a::m,h=>by
  have h1:=RZ m fun s hs=>h s (by simp[hs])
  have h2:=h a (by simp)
  rw[aax,List.sum_cons,List.length_cons,aaI]
  omega
theorem Xz {l:List cO} (h:∀c∈l,tJ c) (k:Nat):nS l k≤k*20000000:=by
 have h1:=RZ (f:=PY) (b:=20000000) (l.take k) fun c hc=>by
  obtain⟨_,_,_,_,_,_,_,_,_,_,n1,n2,n3,n4⟩:=h c (abE hc)
  unfold PY;omega
 exact aav h1 (aau _ (by rw[aaK];omega))
def z6.kk:=p4 (p16 kB kG kS Tryz.ntmps6 Tryz.underlying22 Tryz.underlying25 Tryz.underlying26 Tryz.underlying27 Tryz.underlying31 Tryz.underlying52 Tryz.underlying53 Tryz.underlying9 uJ qI Bq BL) (p16 iF Ae BK Hw Js Ir Ia Nl VM uA ww uT uY rX nD nK) (p16 nZ qQ qU rW qV zV zL zH zM jF wu uX vJ uU JK Fq) (X6 G5 FX FP BI TU Ll KR X4 CO lS KG KP sQ Tryz.results6)
set_option maxRecDepth 100000 in
set_option maxHeartbeats 16000000 in
open z6 in
theorem Ag (l:List cO) (hn:l.length≤2000000) (hB:∀c∈l,tJ c):AC Tryz.prog 6 [ny l] [] (fun r st=>(∃b:Bool,r=B b∧(b=true→∀c∈l,Sm c))∧st=[]):=by
 have hbd:=Xz hB
 refine dI Tryz.func6 Tryz.ntmps6 fun x hx=>?_
 try refine nv ?_
 refine aW (ι:=Nat) (I:=fun k=>⟨162,[(0,ny l),(3,I .i64 (nS l k)),(17,ny l),(18,I .i64 l.length),(19,I .i64 k)],[]⟩)
  (Inv:=fun k=>k≤l.length∧∀(i:Nat) c,i<k→l[i]? =some c→Sm c) (μ:=fun k=>l.length-k) 0 ⟨by omega,by omega⟩ ?_ ?_
 ·(refine aY (fun i=>i) rfl ?_ ⟨?_,?_,?_,dK hx (by simp[ae,Ab.get])⟩<;>first|(simp only[kE,aC, ↓reduceIte,Nat.reduceEqDiff,reduceCtorEq,nS,List.take_zero,aa5,List.sum_nil];done)|simp[aO,aB,ag,Ab.get,aA,bi,ax,aN,aF,aI,aG,aJ,aH,ae,List.flatten,nS,List.take_zero,aa5,List.sum_nil])
 rintro k ⟨hk,hall⟩
 have hbk:=hbd k
 have hmk:k*20000000≤2000000*20000000:=aau _ (by omega)
 try refine nv ?_
 refine aU ?_ ?_
 rotate_left
 ·intro hge
  have hk':k=l.length:=by have:¬k<l.length:=(by simpa using hge);omega
  subst hk'
  try refine nv ?_
  refine rA [] ?_
  refine⟨⟨_,rfl,fun _ c hc=>?_⟩,rfl⟩
  obtain⟨i,hi⟩:=aaX hc
  exact hall i c (aal.1 hi).1 hi
 intro hlt
 have hlt':k<l.length:=by simpa using hlt
 obtain⟨c,hc,he,htk⟩:=round dZ l k df hlt'
 obtain⟨s0,s1,s2,s3,s4,s5,hp,hr,hed,hre,n1,n2,n3,n4⟩:=hB c (aah hc)
 have hsn:nS l (k+1)=nS l k+PY c:=by
  unfold nS
  rw[htk,aa2,List.sum_append]
  simp
 have hadd:((nS l k:Nat):Int)+(((c.edits.length:Int)+c.recs.length+3*c.rules.length)+3*c.stream.paths.length)=((nS l (k+1):Nat):Int):=by rw[hsn,PY];omega
 have hbk1:=hbd (k+1)
 have hmk1:(k+1)*20000000≤2000001*20000000:=aau _ (by omega)
 try refine nx (p2 @he @hadd) ?_
 refine aU ?_ ?_
 ·intro _
  try refine nv ?_
  refine rA [] ?_
  exact⟨⟨false,rfl,fun h=>by cases h⟩,rfl⟩
 intro _
 try refine nv ?_
 refine aW (ι:=Nat) (I:=fun j=>⟨162,[(0,ny l),(3,I .i64 (nS l (k+1))),(5, .c (.ptr 5 0)),(17,ny l),(18,I .i64 l.length),(19,I .i64 k),(70, .c (.d (.ps 12 (c.edits.map eu)))),(71,I .i64 c.edits.length),(72,I .i64 j)],[(5, .box ((dZ c).map C.d))]⟩)
  (Inv:=fun j=>j≤c.edits.length) (μ:=fun j=>c.edits.length-j) 0 (by omega) ?_ ?_
 ·exact fM
 intro j hj
 try refine nv ?_
 refine aU ?_ ?_
 ·intro hlt2
  have hlt2':j<c.edits.length:=by simpa using hlt2
  obtain⟨v,hv,he2,_⟩:=round eu c.edits j dP hlt2'
  obtain⟨v1,v2⟩:=hed v (aah hv)
  try refine nx @he2 ?_
  refine aU ?_ ?_
  ·intro _
   try refine nv ?_
   refine rA [] ?_
   exact⟨⟨false,rfl,fun h=>by cases h⟩,rfl⟩
  intro _
  try refine nv ?_
  refine⟨j+1,by omega,by omega,?_⟩
  exact fM
 intro _
 try refine nv ?_
 refine aW (ι:=Nat) (I:=fun j=>⟨162,[(0,ny l),(3,I .i64 (nS l (k+1))),(5, .c (.ptr 5 0)),(17,ny l),(18,I .i64 l.length),(19,I .i64 k),(86, .c (.d (.ps 6 (c.recs.map dM)))),(87,I .i64 c.recs.length),(88,I .i64 j)],[(5, .box ((dZ c).map C.d))]⟩)
  (Inv:=fun j=>j≤c.recs.length) (μ:=fun j=>c.recs.length-j) 0 (by omega) ?_ ?_
 ·exact fM
 intro j2 hj2
 try refine nv ?_
 refine aU ?_ ?_
 ·intro hlt2
  have hlt2':j2<c.recs.length:=by simpa using hlt2
  obtain⟨v,hv,he2,_⟩:=round dM c.recs j2 vT hlt2'
  obtain⟨v1,v2⟩:=hre v (aah hv)
  try refine nx @he2 ?_
  refine aU ?_ ?_
  ·intro _
   try refine nv ?_
   refine rA [] ?_
   exact⟨⟨false,rfl,fun h=>by cases h⟩,rfl⟩
  intro _
  try refine nv ?_
  refine⟨j2+1,by omega,by omega,?_⟩
  exact fM
 intro _
 try refine nv ?_
 have q1:=Xa c.rules
 refine aW (ι:=Nat) (I:=fun j=>⟨162,[(0,ny l),(3,I .i64 (nS l (k+1))),(5, .c (.ptr 5 0)),(10, .c (.ms 3000 2 0 (pR c.rules j).length)),(17,ny l),(18,I .i64 l.length),(19,I .i64 k),(102, .c (.d (.ps 5 (c.rules.map dX)))),(103,I .i64 c.rules.length),(104,I .i64 j)],[(5, .box ((dZ c).map C.d)),(3000,aC 2 ((pR c.rules j).map iG))]⟩)
  (Inv:=fun j=>j≤c.rules.length) (μ:=fun j=>c.rules.length-j) 0 (by omega) ?_ ?_
 ·refine(lg (i:=10) (id:=3000) (sz:=2) rfl rfl (by omega)).trans ?_
  refine dQ ?_
  (refine aY (fun i=>i) rfl ?_ ⟨?_,?_,?_,dK hx (by simp[ae,Ab.get])⟩<;>first|(simp only[kE,aC, ↓reduceIte,Nat.reduceEqDiff,reduceCtorEq,pR,List.take_zero,List.flatMap_nil];done)|simp[aO,aB,ag,Ab.get,aA,bi,ax,aN,aF,aI,aG,aJ,aH,ae,List.flatten,pR,List.take_zero,List.flatMap_nil])
 intro j hj
 have q1j:=q1 j
 try refine nv ?_
 refine aU ?_ ?_
 ·intro hlt2
  have hlt2':j<c.rules.length:=by simpa using hlt2
  obtain⟨v,hv,he2,htk2⟩:=round dX c.rules j Rn hlt2'
  have hs1:pR c.rules (j+1)=pR c.rules j++[v.left,v.right]:=by
   unfold pR
   rw[htk2,List.flatMap_append]
   rfl
  try refine nx @he2 ?_
  refine⟨j+1,by omega,by omega,?_⟩
  exact DZ @hs1 (fun i=>if i=3000 then 114 else i)
 intro hge2
 have hj':j=c.rules.length:=by have:¬j<c.rules.length:=(by simpa using hge2);omega
 subst hj'
 try refine nv ?_
 have q2:=Uf c.stream.paths
 have hpr:∀r∈c.rules,r.left∈pR c.rules c.rules.length∧r.right∈pR c.rules c.rules.length:=by
  intro r hr
  unfold pR
  rw[aaJ]
  exact⟨aaW.2 ⟨r,hr,by simp⟩,aaW.2 ⟨r,hr,by simp⟩⟩
 have hpb:∀p∈pR c.rules c.rules.length,PB 2000000 p:=by
  intro p hp
  unfold pR at hp
  rw[aaJ] at hp
  obtain⟨r,h1,h2⟩:=aaW.1 hp
  simp only[Z9,aad,aaw] at h2
  rcases h2 with rfl|rfl
  ·exact(hr r h1).1
  ·exact(hr r h1).2
 generalize pR c.rules c.rules.length=P1 at q1j hpr hpb
 refine aW (ι:=Nat) (I:=fun j=>⟨162,[(0,ny l),(3,I .i64 (nS l (k+1))),(5, .c (.ptr 5 0)),(10, .c (.ms 3000 2 0 (P1++DY c.stream.paths j).length)),(17,ny l),(18,I .i64 l.length),(19,I .i64 k),(118, .c (.d (.ps 5 (c.stream.paths.map eU)))),(119,I .i64 c.stream.paths.length),(120,I .i64 j)],[(5, .box ((dZ c).map C.d)),(3000,aC 2 ((P1++DY c.stream.paths j).map iG))]⟩)
  (Inv:=fun j=>j≤c.stream.paths.length) (μ:=fun j=>c.stream.paths.length-j) 0 (by omega) ?_ ?_
 ·(refine aY (fun i=>i) rfl ?_ ⟨?_,?_,?_,dK hx (by simp[ae,Ab.get])⟩<;>first|(simp only[kE,aC, ↓reduceIte,Nat.reduceEqDiff,reduceCtorEq,DY,List.take_zero,List.flatMap_nil,aaM];done)|simp[aO,aB,ag,Ab.get,aA,bi,ax,aN,aF,aI,aG,aJ,aH,ae,List.flatten,DY,List.take_zero,List.flatMap_nil,aaM])
 intro j hj
 have q2j:=q2 j
 try refine nv ?_
 refine aU ?_ ?_
 ·intro hlt2
  have hlt2':j<c.stream.paths.length:=by simpa using hlt2
  obtain⟨v,hv,he2,htk2⟩:=round eU c.stream.paths j ⟨0,jM,jM⟩ hlt2'
  have hs1:P1++DY c.stream.paths (j+1)=(P1++DY c.stream.paths j)++[v.path,v.frm]:=by
   unfold DY
   rw[htk2,List.flatMap_append,aas]
   rfl
  have q3:(P1++DY c.stream.paths j).length≤8000000:=by rw[aan];omega
  generalize P1++DY c.stream.paths j=P2 at hs1 q3
  try refine nx @he2 ?_
  refine⟨j+1,by omega,by omega,?_⟩
  exact DZ @hs1 (fun i=>if i=3000 then 130 else i)
 intro hge2
 have hj':j=c.stream.paths.length:=by have:¬j<c.stream.paths.length:=(by simpa using hge2);omega
 subst hj'
 have hps:∀x∈c.stream.paths,x.path∈P1++DY c.stream.paths c.stream.paths.length∧x.frm∈P1++DY c.stream.paths c.stream.paths.length:=by
  intro r hr
  unfold DY
  rw[aaJ]
  exact⟨aa0 _ (aaW.2 ⟨r,hr,by simp⟩),aa0 _ (aaW.2 ⟨r,hr,by simp⟩)⟩
 have hpb2:∀p∈P1++DY c.stream.paths c.stream.paths.length,PB 2000000 p:=by
  intro p hp0
  rcases aay.1 hp0 with hp0|hp0
  ·exact hpb p hp0
  ·unfold DY at hp0
   rw[aaJ] at hp0
   obtain⟨r,h1,h2⟩:=aaW.1 hp0
   simp only[Z9,aad,aaw] at h2
   rcases h2 with rfl|rfl
   ·exact(hp r h1).1
   ·exact(hp r h1).2
 have hpr2:∀r∈c.rules,r.left∈P1++DY c.stream.paths c.stream.paths.length∧r.right∈P1++DY c.stream.paths c.stream.paths.length:=fun r hr=>⟨aa4 _ (hpr r hr).1,aa4 _ (hpr r hr).2⟩
 have q3:(P1++DY c.stream.paths c.stream.paths.length).length≤8000000:=by rw[aan];omega
 generalize P1++DY c.stream.paths c.stream.paths.length=P at*
 refine jk ?_
 refine dm (ay (i:=10) (id:=3000) (ys:=P.map iG) rfl rfl (by rw[aai])) ?_
 refine dQ ?_
 try refine nv ?_
 refine aW (ι:=Nat) (I:=fun j=>⟨162,[(0,ny l),(3,I .i64 (nS l (k+1))),(17,ny l),(18,I .i64 l.length),(19,I .i64 k),(132,VU P),(133,I .i64 P.length),(134,I .i64 j)],[]⟩)
  (Inv:=fun j=>j≤P.length∧∀(i:Nat) p,i<j→P[i]? =some p→p.parts.length≤14) (μ:=fun j=>P.length-j) 0 ⟨by omega,by omega⟩ ?_ ?_
 ·exact fM
 rintro j ⟨hj,hpl⟩
 try refine nv ?_
 refine aU ?_ ?_
 rotate_left
 ·intro hge2
  have hj':j=P.length:=by have:¬j<P.length:=(by simpa using hge2);omega
  subst hj'
  have h14:∀p∈P,p.parts.length≤14:=by
   intro p hp
   obtain⟨i,hi⟩:=aaX hp
   exact hpl i p (aal.1 hi).1 hi
  try refine nv ?_
  refine⟨k+1,⟨by omega,fun i c2 hi hc2=>?_⟩,by omega,?_⟩
  ·rcases aaT i k with h|h
   ·exact hall i c2 h hc2
   ·obtain rfl:i=k:=by omega
    rw[hc] at hc2;cases hc2
    exact⟨fun r hr=>⟨h14 _ (hpr2 r hr).1,h14 _ (hpr2 r hr).2⟩,fun x hx=>⟨h14 _ (hps x hx).1,h14 _ (hps x hx).2⟩⟩
  ·exact fM
 intro hlt2
 have hlt2':j<P.length:=by simpa using hlt2
 obtain⟨v,hv,he2,_⟩:=round iG P j jM hlt2'
 have hvb:=hpb2 v (aah hv)
 have hsh:=Dv v hvb
 have hv1:v.parts.length≤2000000:=hvb.1
 try refine nx @he2 ?_
 refine so ([(144,B (gQ v))]) ?_ ?_
 ·exact Fa @hsh
 try refine nv ?_
 refine aU ?_ ?_
 ·intro _
  try refine nv ?_
  refine rA [] ?_
  exact⟨⟨false,rfl,fun h=>by cases h⟩,rfl⟩
 intro h
 have hle:v.parts.length≤14:=by
  by_cases e:14<v.parts.length
  ·have e':decide ((14:Int)<v.parts.length)=true:=aaV (by omega)
   simp only[e',cond_true] at h;cases h
  ·omega
 try refine nv ?_
 refine⟨j+1,⟨by omega,fun i p hi hp=>?_⟩,by omega,?_⟩
 ·rcases aaT i j with h|h
  ·exact hpl i p h hp
  ·obtain rfl:i=j:=by omega
   rw[hv] at hp;cases hp;exact hle
 ·exact fM
end Go.Proofs.YtpoodoknkbojgaaGreatDoor
