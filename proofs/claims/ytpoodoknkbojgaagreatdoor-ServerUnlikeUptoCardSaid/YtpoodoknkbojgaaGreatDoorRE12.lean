/- A part of the proof. -/
import Derived.Test.YtpoodoknkbojgaaGreatDoorRE4
import Derived.Test.YtpoodoknkbojgaaGreatDoorRP56
set_option maxRecDepth 100000
set_option maxHeartbeats 16000000
set_option linter.all false
namespace Go.Proofs.YtpoodoknkbojgaaGreatDoor
section
open Go.Ab Tys
variable [Ez]
@[reducible] def lg (l:List iH):AV:= .c (.d (.ps 14 (l.map iC)))
theorem Qn {ps:List VJ} {n:Nat} (h:∀s∈ps,s.size≤n) (k:Nat):pJ ps k≤5+k*(n+1):=by
 unfold pJ
 have:∀l:List VJ,(∀s∈l,s.size≤n)→(l.map fun x=>x.size+1).sum≤l.length*(n+1):=by
  intro l
  induction l with
  |nil=>intro _;simp
  |cons a l ih=>
   intro h
   have h1:=ih fun s hs=>h s (by simp[hs])
   have h2:=h a (by simp)
   simp only[Un,List.sum_cons,List.length_cons,Uz]
   omega
 have h1:=this (ps.take k) fun s hs=>h s (Vr hs)
 have h2:(ps.take k).length*(n+1)≤k*(n+1):=Ul _ (by rw[UE];omega)
 omega
def z13.kk:=p11 kB Tryz.ntmps13 Tryz.underlying53 Tryz.underlying9 jW zB lI FQ qP Ej Tryz.results13
open z13 in
theorem FN (p:fJ) (hp:PB 2000000 p):AC Tryz.prog 13 [aPat p] [] (fun r st=>r=B (kC p)∧st=[]):=by
 obtain⟨ps,rs⟩:=p
 have h1:ps.length≤2000000:=hp.1
 have hbd:=Qn (n:=2000000) hp.2
 rw[Ad]
 simp only
 refine jH Tryz.func13 Tryz.ntmps13 fun x hx=>?_
 try refine nv ?_
 refine bP (ι:=Nat) (I:=fun k=>⟨21,[(1, .c (.ptr 1 0)),(3,I .i64 (pJ ps k)),(7,Ec ps),(8,I .i64 ps.length),(9,I .i64 k)],[(1, .box ((kz ⟨ps,rs⟩).map C.d))]⟩)
  (Inv:=fun k=>k≤ps.length) (μ:=fun k=>ps.length-k) 0 (by omega) ?_ ?_
 ·(refine bD (fun i=>i) rfl ?_ ⟨?_,?_,?_,eU hx (by simp[ae,Ab.get])⟩<;>first|(simp only[kE,aC, ↓reduceIte,Nat.reduceEqDiff,reduceCtorEq,pJ,List.take_zero,U3,List.sum_nil,Nat.add_zero];done)|simp[aQ,aG,aj,Ab.get,ax,bC,ay,aH,aN,aO,aI,aK,aJ,ae,List.flatten,pJ,List.take_zero,U3,List.sum_nil,Nat.add_zero])
 intro k hk
 try refine nv ?_
 refine bV ?_ ?_
 ·intro hlt
  have hlt':k<ps.length:=by simpa using hlt
  obtain⟨v,hv,he,htk⟩:=round encS ps k noS hlt'
  have hvs:v.size≤2000000:=hp.2 v (TZ hv)
  have hsn:pJ ps (k+1)=pJ ps k+(v.size+1):=by
   unfold pJ
   rw[htk,Vb,List.sum_append]
   simp only[Un,U3,List.sum_cons,List.sum_nil]
   omega
  have hb:=hbd (k+1)
  have hm:(k+1)*(2000000+1)≤2000001*(2000000+1):=Ul _ (by omega)
  have hadd:((pJ ps k:Nat):Int)+((v.size:Nat)+1:Int)=((pJ ps (k+1):Nat):Int):=by rw[hsn];omega
  try refine nx (p2 @he @hadd) ?_
  refine⟨k+1,by omega,by omega,?_⟩
  exact jG
 ·intro hge
  have hk':k=ps.length:=by have:¬k<ps.length:=(by simpa using hge);omega
  subst hk'
  try refine nv ?_
  refine rA [] ?_
  refine⟨?_,rfl⟩
  rw[show decide ((pJ ps ps.length:Int)≤200)=decide (pJ ps ps.length≤200) from decide_eq_decide.2 (by omega)]
structure DN (c:iH):Prop where
 s0:c.client.size≤2000000
 s1:c.name.size≤2000000
 s2:c.path.size≤2000000
 s3:c.text.size≤2000000
 s4:c.stream.name.size≤2000000
 s5:c.stream.parent.size≤2000000
 paths:∀x∈c.stream.paths,PB 2000000 x.path∧PB 2000000 x.frm
 rules:∀r∈c.rules,PB 2000000 r.left∧PB 2000000 r.right
 edits:∀e∈c.edits,e.path.size≤2000000∧e.frm.size≤2000000
 recs:∀e∈c.recs,e.frm.size≤2000000∧e.to.size≤2000000
 n1:c.stream.paths.length≤2000000
 n2:c.rules.length≤2000000
 n3:c.edits.length≤2000000
 n4:c.recs.length≤2000000
def Sm (c:iH):Prop:=(∀r∈c.rules,r.left.parts.length≤14∧r.right.parts.length≤14)∧∀x∈c.stream.paths,x.path.parts.length≤14∧x.frm.parts.length≤14
def JP (c:iH):Nat:=c.edits.length+c.recs.length+3*c.rules.length+3*c.stream.paths.length
def nS (l:List iH) (k:Nat):Nat:=((l.take k).map JP).sum
def pR (l:List yH) (k:Nat):List fJ:=(l.take k).flatMap fun r=>[r.left,r.right]
def yL (l:List Ey) (k:Nat):List fJ:=(l.take k).flatMap fun x=>[x.path,x.frm]
theorem PM (l:List yH) (k:Nat):(pR l k).length≤2*l.length:=by
 have:(pR l k).length=2*(l.take k).length:=by
  unfold pR
  induction (l.take k) with
  |nil=>rfl
  |cons a m ih=>simp only[List.flatMap_cons,Uo,List.length_cons,List.length_nil,ih];omega
 rw[this,UE];omega
theorem NM (l:List Ey) (k:Nat):(yL l k).length≤2*l.length:=by
 have:(yL l k).length=2*(l.take k).length:=by
  unfold yL
  induction (l.take k) with
  |nil=>rfl
  |cons a m ih=>simp only[List.flatMap_cons,Uo,List.length_cons,List.length_nil,ih];omega
 rw[this,UE];omega
theorem LG {α:Type} {f:α→Nat} {b:Nat}:∀m:List α,(∀c∈m,f c≤b)→(m.map f).sum≤m.length*b
 |[],_=>by simp
 |a::m,h=>by
  have h1:=LG m fun s hs=>h s (by simp[hs])
  have h2:=h a (by simp)
  rw[Un,List.sum_cons,List.length_cons,Uz]
  omega
theorem QF {l:List iH} (h:∀c∈l,DN c) (k:Nat):nS l k≤k*20000000:=by
 have h1:=LG (f:=JP) (b:=20000000) (l.take k) fun c hc=>by
  obtain⟨_,_,_,_,_,_,_,_,_,_,n1,n2,n3,n4⟩:=h c (Vr hc)
  unfold JP;omega
 exact Ur h1 (Ul _ (by rw[UE];omega))
def z6.kk:=p4 (p16 kB kG kS Tryz.ntmps6 Tryz.underlying22 Tryz.underlying25 Tryz.underlying26 Tryz.underlying27 Tryz.underlying31 Tryz.underlying52 Tryz.underlying53 Tryz.underlying9 zh zH Hr Gp) (p16 jW Ii H8 Kq MI JZ KG Pm Rh zB BH BU AB uU qx ql) (p16 vS vK vO vw vN Gh Hf Hw Hg lI Bh Bd AZ AU Ob Je) (Sz IX Ji Jp Iw Rj NV NW Su FQ qP Oa Ou Ej Tryz.results6)
open z6 in
theorem F6 (l:List iH) (hn:l.length≤2000000) (hB:∀c∈l,DN c):AC Tryz.prog 6 [lg l] [] (fun r st=>(∃b:Bool,r=B b∧(b=true→∀c∈l,Sm c))∧st=[]):=by
 have hbd:=QF hB
 refine jH Tryz.func6 Tryz.ntmps6 fun x hx=>?_
 try refine nv ?_
 refine bP (ι:=Nat) (I:=fun k=>⟨162,[(0,lg l),(3,I .i64 (nS l k)),(17,lg l),(18,I .i64 l.length),(19,I .i64 k)],[]⟩)
  (Inv:=fun k=>k≤l.length∧∀(i:Nat) c,i<k→l[i]? =some c→Sm c) (μ:=fun k=>l.length-k) 0 ⟨by omega,by omega⟩ ?_ ?_
 ·(refine bD (fun i=>i) rfl ?_ ⟨?_,?_,?_,eU hx (by simp[ae,Ab.get])⟩<;>first|(simp only[kE,aC, ↓reduceIte,Nat.reduceEqDiff,reduceCtorEq,nS,List.take_zero,U3,List.sum_nil];done)|simp[aQ,aG,aj,Ab.get,ax,bC,ay,aH,aN,aO,aI,aK,aJ,ae,List.flatten,nS,List.take_zero,U3,List.sum_nil])
 rintro k ⟨hk,hall⟩
 have hbk:=hbd k
 have hmk:k*20000000≤2000000*20000000:=Ul _ (by omega)
 try refine nv ?_
 refine bV ?_ ?_
 rotate_left
 ·intro hge
  have hk':k=l.length:=by have:¬k<l.length:=(by simpa using hge);omega
  subst hk'
  try refine nv ?_
  refine rA [] ?_
  refine⟨⟨_,rfl,fun _ c hc=>?_⟩,rfl⟩
  obtain⟨i,hi⟩:=UO hc
  exact hall i c (Ue.1 hi).1 hi
 intro hlt
 have hlt':k<l.length:=by simpa using hlt
 obtain⟨c,hc,he,htk⟩:=round iC l k dF hlt'
 obtain⟨s0,s1,s2,s3,s4,s5,hp,hr,hed,hre,n1,n2,n3,n4⟩:=hB c (TZ hc)
 have hsn:nS l (k+1)=nS l k+JP c:=by
  unfold nS
  rw[htk,Vb,List.sum_append]
  simp
 have hadd:((nS l k:Nat):Int)+(((c.edits.length:Int)+c.recs.length+3*c.rules.length)+3*c.stream.paths.length)=((nS l (k+1):Nat):Int):=by rw[hsn,JP];omega
 have hbk1:=hbd (k+1)
 have hmk1:(k+1)*20000000≤2000001*20000000:=Ul _ (by omega)
 try refine nx (p2 @he @hadd) ?_
 refine bV ?_ ?_
 ·intro _
  try refine nv ?_
  refine rA [] ?_
  exact⟨⟨false,rfl,fun h=>by cases h⟩,rfl⟩
 intro _
 try refine nv ?_
 refine bP (ι:=Nat) (I:=fun j=>⟨162,[(0,lg l),(3,I .i64 (nS l (k+1))),(5, .c (.ptr 5 0)),(17,lg l),(18,I .i64 l.length),(19,I .i64 k),(70, .c (.d (.ps 12 (c.edits.map fK)))),(71,I .i64 c.edits.length),(72,I .i64 j)],[(5, .box ((iC c).map C.d))]⟩)
  (Inv:=fun j=>j≤c.edits.length) (μ:=fun j=>c.edits.length-j) 0 (by omega) ?_ ?_
 ·exact jG
 intro j hj
 try refine nv ?_
 refine bV ?_ ?_
 ·intro hlt2
  have hlt2':j<c.edits.length:=by simpa using hlt2
  obtain⟨v,hv,he2,_⟩:=round fK c.edits j dh hlt2'
  obtain⟨v1,v2⟩:=hed v (TZ hv)
  try refine nx @he2 ?_
  refine bV ?_ ?_
  ·intro _
   try refine nv ?_
   refine rA [] ?_
   exact⟨⟨false,rfl,fun h=>by cases h⟩,rfl⟩
  intro _
  try refine nv ?_
  refine⟨j+1,by omega,by omega,?_⟩
  exact jG
 intro _
 try refine nv ?_
 refine bP (ι:=Nat) (I:=fun j=>⟨162,[(0,lg l),(3,I .i64 (nS l (k+1))),(5, .c (.ptr 5 0)),(17,lg l),(18,I .i64 l.length),(19,I .i64 k),(86, .c (.d (.ps 6 (c.recs.map dX)))),(87,I .i64 c.recs.length),(88,I .i64 j)],[(5, .box ((iC c).map C.d))]⟩)
  (Inv:=fun j=>j≤c.recs.length) (μ:=fun j=>c.recs.length-j) 0 (by omega) ?_ ?_
 ·exact jG
 intro j2 hj2
 try refine nv ?_
 refine bV ?_ ?_
 ·intro hlt2
  have hlt2':j2<c.recs.length:=by simpa using hlt2
  obtain⟨v,hv,he2,_⟩:=round dX c.recs j2 rM hlt2'
  obtain⟨v1,v2⟩:=hre v (TZ hv)
  try refine nx @he2 ?_
  refine bV ?_ ?_
  ·intro _
   try refine nv ?_
   refine rA [] ?_
   exact⟨⟨false,rfl,fun h=>by cases h⟩,rfl⟩
  intro _
  try refine nv ?_
  refine⟨j2+1,by omega,by omega,?_⟩
  exact jG
 intro _
 try refine nv ?_
 have q1:=PM c.rules
 refine bP (ι:=Nat) (I:=fun j=>⟨162,[(0,lg l),(3,I .i64 (nS l (k+1))),(5, .c (.ptr 5 0)),(10, .c (.ms 3000 2 0 (pR c.rules j).length)),(17,lg l),(18,I .i64 l.length),(19,I .i64 k),(102, .c (.d (.ps 5 (c.rules.map fH)))),(103,I .i64 c.rules.length),(104,I .i64 j)],[(5, .box ((iC c).map C.d)),(3000,aC 2 ((pR c.rules j).map kz))]⟩)
  (Inv:=fun j=>j≤c.rules.length) (μ:=fun j=>c.rules.length-j) 0 (by omega) ?_ ?_
 ·refine(Jo (i:=10) (id:=3000) (sz:=2) rfl rfl (by omega)).trans ?_
  refine jF ?_
  (refine bD (fun i=>i) rfl ?_ ⟨?_,?_,?_,eU hx (by simp[ae,Ab.get])⟩<;>first|(simp only[kE,aC, ↓reduceIte,Nat.reduceEqDiff,reduceCtorEq,pR,List.take_zero,List.flatMap_nil];done)|simp[aQ,aG,aj,Ab.get,ax,bC,ay,aH,aN,aO,aI,aK,aJ,ae,List.flatten,pR,List.take_zero,List.flatMap_nil])
 intro j hj
 have q1j:=q1 j
 try refine nv ?_
 refine bV ?_ ?_
 ·intro hlt2
  have hlt2':j<c.rules.length:=by simpa using hlt2
  obtain⟨v,hv,he2,htk2⟩:=round fH c.rules j Oj hlt2'
  have hs1:pR c.rules (j+1)=pR c.rules j++[v.left,v.right]:=by
   unfold pR
   rw[htk2,List.flatMap_append]
   rfl
  try refine nx @he2 ?_
  refine⟨j+1,by omega,by omega,?_⟩
  exact Jv @hs1 (fun i=>if i=3000 then 114 else i)
 intro hge2
 have hj':j=c.rules.length:=by have:¬j<c.rules.length:=(by simpa using hge2);omega
 subst hj'
 try refine nv ?_
 have q2:=NM c.stream.paths
 have hpr:∀r∈c.rules,r.left∈pR c.rules c.rules.length∧r.right∈pR c.rules c.rules.length:=by
  intro r hr
  unfold pR
  rw[U4]
  exact⟨UK.2 ⟨r,hr,by simp⟩,UK.2 ⟨r,hr,by simp⟩⟩
 have hpb:∀p∈pR c.rules c.rules.length,PB 2000000 p:=by
  intro p hp
  unfold pR at hp
  rw[U4] at hp
  obtain⟨r,h1,h2⟩:=UK.1 hp
  simp only[TS,TV,Uk] at h2
  rcases h2 with rfl|rfl
  ·exact(hr r h1).1
  ·exact(hr r h1).2
 generalize pR c.rules c.rules.length=P1 at q1j hpr hpb
 refine bP (ι:=Nat) (I:=fun j=>⟨162,[(0,lg l),(3,I .i64 (nS l (k+1))),(5, .c (.ptr 5 0)),(10, .c (.ms 3000 2 0 (P1++yL c.stream.paths j).length)),(17,lg l),(18,I .i64 l.length),(19,I .i64 k),(118, .c (.d (.ps 5 (c.stream.paths.map gI)))),(119,I .i64 c.stream.paths.length),(120,I .i64 j)],[(5, .box ((iC c).map C.d)),(3000,aC 2 ((P1++yL c.stream.paths j).map kz))]⟩)
  (Inv:=fun j=>j≤c.stream.paths.length) (μ:=fun j=>c.stream.paths.length-j) 0 (by omega) ?_ ?_
 ·(refine bD (fun i=>i) rfl ?_ ⟨?_,?_,?_,eU hx (by simp[ae,Ab.get])⟩<;>first|(simp only[kE,aC, ↓reduceIte,Nat.reduceEqDiff,reduceCtorEq,yL,List.take_zero,List.flatMap_nil,U1];done)|simp[aQ,aG,aj,Ab.get,ax,bC,ay,aH,aN,aO,aI,aK,aJ,ae,List.flatten,yL,List.take_zero,List.flatMap_nil,U1])
 intro j hj
 have q2j:=q2 j
 try refine nv ?_
 refine bV ?_ ?_
 ·intro hlt2
  have hlt2':j<c.stream.paths.length:=by simpa using hlt2
  obtain⟨v,hv,he2,htk2⟩:=round gI c.stream.paths j ⟨0,lQ,lQ⟩ hlt2'
  have hs1:P1++yL c.stream.paths (j+1)=(P1++yL c.stream.paths j)++[v.path,v.frm]:=by
   unfold yL
   rw[htk2,List.flatMap_append,Uu]
   rfl
  have q3:(P1++yL c.stream.paths j).length≤8000000:=by rw[Uo];omega
  generalize P1++yL c.stream.paths j=P2 at hs1 q3
  try refine nx @he2 ?_
  refine⟨j+1,by omega,by omega,?_⟩
  exact Jv @hs1 (fun i=>if i=3000 then 130 else i)
 intro hge2
 have hj':j=c.stream.paths.length:=by have:¬j<c.stream.paths.length:=(by simpa using hge2);omega
 subst hj'
 have hps:∀x∈c.stream.paths,x.path∈P1++yL c.stream.paths c.stream.paths.length∧x.frm∈P1++yL c.stream.paths c.stream.paths.length:=by
  intro r hr
  unfold yL
  rw[U4]
  exact⟨UM _ (UK.2 ⟨r,hr,by simp⟩),UM _ (UK.2 ⟨r,hr,by simp⟩)⟩
 have hpb2:∀p∈P1++yL c.stream.paths c.stream.paths.length,PB 2000000 p:=by
  intro p hp0
  rcases Uw.1 hp0 with hp0|hp0
  ·exact hpb p hp0
  ·unfold yL at hp0
   rw[U4] at hp0
   obtain⟨r,h1,h2⟩:=UK.1 hp0
   simp only[TS,TV,Uk] at h2
   rcases h2 with rfl|rfl
   ·exact(hp r h1).1
   ·exact(hp r h1).2
 have hpr2:∀r∈c.rules,r.left∈P1++yL c.stream.paths c.stream.paths.length∧r.right∈P1++yL c.stream.paths c.stream.paths.length:=fun r hr=>⟨UR _ (hpr r hr).1,UR _ (hpr r hr).2⟩
 have q3:(P1++yL c.stream.paths c.stream.paths.length).length≤8000000:=by rw[Uo];omega
 generalize P1++yL c.stream.paths c.stream.paths.length=P at*
 refine mW ?_
 refine dD (aT (i:=10) (id:=3000) (ys:=P.map kz) rfl rfl (by rw[Ub])) ?_
 refine jF ?_
 try refine nv ?_
 refine bP (ι:=Nat) (I:=fun j=>⟨162,[(0,lg l),(3,I .i64 (nS l (k+1))),(17,lg l),(18,I .i64 l.length),(19,I .i64 k),(132,QZ P),(133,I .i64 P.length),(134,I .i64 j)],[]⟩)
  (Inv:=fun j=>j≤P.length∧∀(i:Nat) p,i<j→P[i]? =some p→p.parts.length≤14) (μ:=fun j=>P.length-j) 0 ⟨by omega,by omega⟩ ?_ ?_
 ·exact jG
 rintro j ⟨hj,hpl⟩
 try refine nv ?_
 refine bV ?_ ?_
 rotate_left
 ·intro hge2
  have hj':j=P.length:=by have:¬j<P.length:=(by simpa using hge2);omega
  subst hj'
  have h14:∀p∈P,p.parts.length≤14:=by
   intro p hp
   obtain⟨i,hi⟩:=UO hp
   exact hpl i p (Ue.1 hi).1 hi
  try refine nv ?_
  refine⟨k+1,⟨by omega,fun i c2 hi hc2=>?_⟩,by omega,?_⟩
  ·rcases UI i k with h|h
   ·exact hall i c2 h hc2
   ·obtain rfl:i=k:=by omega
    rw[hc] at hc2;cases hc2
    exact⟨fun r hr=>⟨h14 _ (hpr2 r hr).1,h14 _ (hpr2 r hr).2⟩,fun x hx=>⟨h14 _ (hps x hx).1,h14 _ (hps x hx).2⟩⟩
  ·exact jG
 intro hlt2
 have hlt2':j<P.length:=by simpa using hlt2
 obtain⟨v,hv,he2,_⟩:=round kz P j lQ hlt2'
 have hvb:=hpb2 v (TZ hv)
 have hsh:=FN v hvb
 have hv1:v.parts.length≤2000000:=hvb.1
 try refine nx @he2 ?_
 refine so ([(144,B (kC v))]) ?_ ?_
 ·exact Pz @hsh
 try refine nv ?_
 refine bV ?_ ?_
 ·intro _
  try refine nv ?_
  refine rA [] ?_
  exact⟨⟨false,rfl,fun h=>by cases h⟩,rfl⟩
 intro h
 have hle:v.parts.length≤14:=by
  by_cases e:14<v.parts.length
  ·have e':decide ((14:Int)<v.parts.length)=true:=Vm (by omega)
   simp only[e',cond_true] at h;cases h
  ·omega
 try refine nv ?_
 refine⟨j+1,⟨by omega,fun i p hi hp=>?_⟩,by omega,?_⟩
 ·rcases UI i j with h|h
  ·exact hpl i p h hp
  ·obtain rfl:i=j:=by omega
   rw[hv] at hp;cases hp;exact hle
 ·exact jG
end
section
open Go.Ab Tys
variable [Ez]
def z57.kk:=p5 kB Tryz.ntmps57 jW qP Tryz.results57
open z57 in
theorem lw (p q:fJ) (hp:PS p) (hq:PS q):AC Tryz.prog 57 [aPat p,aPat q] [] (fun r st=>r=B (decide (p=q))∧st=[]):=by
 have h:=KC p q (Ur hp.1 (by omega)) (Ur hq.1 (by omega))
 refine jH Tryz.func57 Tryz.ntmps57 fun x hx=>?_
 (repeat (first|refine nv ?_|refine cf (h) ?_))
 refine rA [] ?_
 refine⟨?_,rfl⟩
 rfl
def TB (s:Ah):Prop:=∀x∈s.paths,PS x.path∧PS x.frm
def z20.kk:=p2 (p11 kB kG Tryz.ntmps20 Tryz.underlying22 zh jW H8 Kq BH BU AB) (p10 G6 AZ AU Ob Je ED qP Ou Ej Tryz.results20)
open z20 in
theorem FW (a b:Ah) (ha:TB a) (hb:TB b) (hn:a.paths.length≤4000000):AC Tryz.prog 20 [PR a,PR b] [] (fun r st=>r=B (decide (a=b))∧st=[]):=by
 obtain⟨an,ap,al⟩:=a
 obtain⟨bn,bp,bl⟩:=b
 simp only at hn
 refine jH Tryz.func20 Tryz.ntmps20 fun x hx=>?_
 try refine nv ?_
 refine bV ?_ ?_
 ·intro h
  have hne:¬((⟨an,ap,al⟩:Ah)=⟨bn,bp,bl⟩):=by
   intro e
   cases e
   simp at h
  try refine nv ?_
  refine rA [] ?_
  refine⟨?_,rfl⟩
  rw[UW hne]
 intro h
 obtain⟨e1,e2,e3⟩:an=bn∧ap=bp∧al.length=bl.length:=by
  by_cases e1:an=bn
  ·by_cases e2:ap=bp
   ·by_cases e3:al.length=bl.length
    ·exact⟨e1,e2,e3⟩
    ·have e3':¬((al.length:Int)=bl.length):=by omega
     simp[e1,e2,e3'] at h
   ·simp[e1,e2] at h
  ·simp[e1] at h
 subst e1;subst e2
 clear h
 try refine nv ?_
 refine bP (ι:=Nat) (I:=fun k=>⟨64,[(2, .c (.ptr 2 0)),(3, .c (.ptr 3 0)),(30, .c (.d (.ps 5 (al.map gI)))),(31,I .i64 al.length),(32,I .i64 k)],[(2, .box ((Fv ⟨an,ap,al⟩).map C.d)),(3, .box ((Fv ⟨an,ap,bl⟩).map C.d))]⟩)
  (Inv:=fun k=>k≤al.length∧∀i,i<k→al[i]? =bl[i]?) (μ:=fun k=>al.length-k) 0 ⟨by omega,by omega⟩ ?_ ?_
 ·exact jG
 rintro k ⟨hk,hall⟩
 try refine nv ?_
 refine bV ?_ ?_
 rotate_left
 ·intro hge
  have hk':k=al.length:=by have:¬k<al.length:=(by simpa using hge);omega
  subst hk'
  have hab:al=bl:=by
   apply UV
   intro i
   by_cases hi:i<al.length
   ·exact hall i hi
   ·rw[Ut (by omega),Ut (by omega)]
  subst hab
  try refine nv ?_
  refine rA [] ?_
  refine⟨?_,rfl⟩
  simp
 intro hlt
 have hlt':k<al.length:=by simpa using hlt
 obtain⟨v,hv,he,_⟩:=round gI al k ⟨0,lQ,lQ⟩ hlt'
 obtain⟨u,hu,he2,_⟩:=round gI bl k ⟨0,lQ,lQ⟩ (by omega)
 obtain⟨v1,v2⟩:=ha v (TZ hv)
 obtain⟨u1,u2⟩:=hb u (TZ hu)
 have c1:=lw v.path u.path v1 u1
 have c2:=lw v.frm u.frm v2 u2
 try refine nx (p2 @he @he2) ?_
 refine so ([(52,B (decide (v.path=u.path)))]) ?_ ?_
 ·exact Pz @c1
 try refine nv ?_
 refine so ([(60,B (decide (v.frm=u.frm)))]) ?_ ?_
 ·exact Pz @c2
 try refine nv ?_
 refine bV ?_ ?_
 ·intro h
  have hne:¬v=u:=by
   rintro rfl
   simp at h
  have hne2:¬((⟨an,ap,al⟩:Ah)=⟨an,ap,bl⟩):=by
   intro e
   cases e
   rw[hv] at hu;cases hu;exact hne rfl
  try refine nv ?_
  refine rA [] ?_
  refine⟨?_,rfl⟩
  rw[UW hne2]
 intro h
 have he:v=u:=by
  obtain⟨x1,x2,x3⟩:=v
  obtain⟨y1,y2,y3⟩:=u
  simp only at h
  by_cases e1:x1=y1
  ·by_cases e2:x2=y2
   ·by_cases e3:x3=y3
    ·rw[e1,e2,e3]
    ·simp[e1,e2,e3] at h
   ·simp[e1,e2] at h
  ·simp[e1] at h
 subst he
 try refine nv ?_
 refine⟨k+1,⟨by omega,fun i hi=>?_⟩,by omega,?_⟩
 ·rcases UI i k with h|h
  ·exact hall i h
  ·obtain rfl:i=k:=by omega
   rw[hv,hu]
 ·exact jG
end
end Go.Proofs.YtpoodoknkbojgaaGreatDoor
