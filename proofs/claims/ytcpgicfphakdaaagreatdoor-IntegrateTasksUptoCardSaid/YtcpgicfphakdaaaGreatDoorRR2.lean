/- A part of the proof. -/
import Derived.Test.YtcpgicfphakdaaaGreatDoorRL3a
set_option linter.all false
namespace Go.Proofs.YtcpgicfphakdaaaGreatDoor
open Go.Ab Tys
variable [Dr]
def z29.kk:=p3 (p16 kB kG kS kM Tryz.ntmps29 Tryz.underlying27 Tryz.underlying28 YQ kZ lL iI yU mf Dq Y5 Yo) (p16 Qr OG sU Dh nZ oI jD jf jA xh BZ BX zx Du FO xA) (XD Rf abL Uc ab2 uO Ib uK rJ sK yR ny Il jy adb Tryz.results29)
set_option maxRecDepth 100000 in
set_option maxHeartbeats 16000000 in
open z29 in
theorem acD (d:bK) (hg:Good d.revs) (hn:d.revs.length≤512) (hm:d.recs.length≤512) (hrc:S9 d.recs):
 AC Tryz.prog 29 [sH d] [] (fun r st=>(∃A,IC A (SA d)∧Me d d.revs.length A∧r= .c (.d (.pm (bJ kF Gf A))))∧st=[]):=by
 refine bV Tryz.func29 Tryz.ntmps29 fun x hx=>?_
 try refine nv ?_
 refine ag (ι:=Nat×List (bP×SV)) (I:=fun j=>⟨164,[(1, .c (.ptr 1 0)),(3, .c (.mp 17)),(19,ja d.revs),(20,I .i64 d.revs.length),(21,I .i64 j.1)],
  [(1, .box ((fD d).map C.d)),(17, .map ((bJ kF Gf j.2).map fA))]⟩)
  (Inv:=fun j=>j.1≤d.revs.length∧IC j.2 (dw d j.1)∧Me d j.1 j.2) (μ:=fun j=>d.revs.length-j.1) (0,[]) ⟨by simp,by constructor<;>simp[dw,SS0,aB],fun j w h=>by simp at h⟩ ?_ ?_
 ·exact aW
 rintro⟨k,A⟩ ⟨hk,hA,hD⟩
 simp only at hk hA hD⊢
 try refine nv ?_
 refine af ?_ ?_
 ·intro hlt
  have hlt':k<d.revs.length:=by simpa using hlt
  obtain⟨v,hv,he,htk⟩:=round ax d.revs k ai hlt'
  try refine nx @he ?_
  refine af ?_ ?_
  ·intro h5
   have h5':v.act=5:=by simpa using h5
   have hsp:dw d (k+1)=dw d k:=by simp only[dw,hv,h5',if_true]
   try refine nv ?_
   refine⟨(k+1,A),⟨hlt',by rw[hsp];exact hA,hD.away hv h5'⟩,by simp;omega,?_⟩
   exact aW
  intro h5
  have h5':¬v.act=5:=by simpa using h5
  (repeat (first|refine nv ?_|refine cf (NI d v (by omega)) ?_))
  refine mJ (ι:=Option SV×List bP×List bP)
   (fun j=>⟨164,[(1, .c (.ptr 1 0)),(3, .c (.mp 17)),(5, .c (.ptr 5 0)),(6, .c (.ptr 6 0)),(7, .c (.ptr 7 0)),(8,I .i64 0),(9, .c (.ptr 9 0)),(19,ja d.revs),(20,I .i64 d.revs.length),(21,I .i64 k)],
     [(1, .box ((fD d).map C.d)),(17, .map ((bJ kF Gf A).map fA)),(5, .box ((ax v).map C.d)),(6, .box ((fJ (fileOf v)).map C.d)),(33,lI kF j.2.1),(34,lI kF []),(35,lI kF j.2.2),(7, .box [.d (.v (.bool true)), .mp 33, .mp 34, .mp 35]),(9,WT j.1)]⟩)
   (fun j=>(∀g,(dw d k (bW v)).car g↔g∈(j.1.map SV.car).getD [])∧(∀g,(dw d k (bW v)).car g↔g∈j.2.1)∧(∀g,(dw d k (bW v)).cre g↔g∈j.2.2)) ?_ ?_
  ·cases hp:jQ d v with
   |none=>
    have hno:=Xc hg hn hv hp
    refine af ?_ ?_
    ·intro h;cases h
    intro _
    refine aJ ?_
    refine⟨rfl,(none,[],[]),⟨fun g=>?_,fun g=>?_,fun g=>?_⟩,?_⟩
    ·simp only[Option.map_none,Option.getD,List.not_mem_nil,iff_false];exact fun h=>hno g (.inl h)
    ·simp only[List.not_mem_nil,iff_false];exact fun h=>hno g (.inl h)
    ·simp only[List.not_mem_nil,iff_false];exact fun h=>hno g (.inr (.inr h))
    ·(refine fZ (fun i=>i) rfl ?_ ⟨?_,?_,?_,gu hx (by simp[ae,Ab.get])⟩<;>first|(simp only[kE,aQ, ↓reduceIte,Nat.reduceEqDiff,reduceCtorEq,fileOf.eq_1];done)|simp[di,bf,aA,Ab.get,aZ,dH,aN,bY,bG,bH,bD,bI,bC,ae,List.flatten,fileOf.eq_1])
   |some u=>
    have hfu:=Wp hg hn hv hp
    simp only[Option.getD]
    refine af ?_ ?_
    rotate_left
    ·intro h;cases h
    intro _
    refine aJ ?_
    refine gy @Gi ?_ ?_
    ·exact gI (KU A)
    have hcA:=hA.car (bW v)
    have hrA:=hA.cre (bW v)
    rw[show(⟨u.path,u.num⟩:bP)=bW v from hfu]
    generalize aB A (bW v)=o at hcA hrA⊢
    try refine nv ?_
    refine qQ ([(33,lI kF [])]) (DL 33 (by decide) (by decide) [] (o.map SV.car)) ?_
    rintro rv9 st' ⟨c,hc,rfl⟩<;>refine qU ?_
    try refine nv ?_
    refine qQ ([(35,lI kF [])]) (DL 35 (by decide) (by decide) [] (o.map SV.cre)) ?_
    rintro rv9 st' ⟨cr,hcr,rfl⟩<;>refine qU ?_
    refine aJ ?_
    refine⟨rfl,(o,c,cr),⟨hcA,fun g=>?_,fun g=>?_⟩,?_⟩
    ·rw[hc g,hcA g];simp
    ·rw[hcr g,hrA g];simp
    ·(refine fZ (fun i=>i) rfl ?_ ⟨?_,?_,?_,gu hx (by simp[ae,Ab.get])⟩<;>first|(simp only[kE,aQ, ↓reduceIte,Nat.reduceEqDiff,reduceCtorEq,fileOf.eq_1];done)|simp[di,bf,aA,Ab.get,aZ,dH,aN,bY,bG,bH,bD,bI,bC,ae,List.flatten,fileOf.eq_1])
  rintro⟨o,c0,r0⟩ ⟨ho,hc0,hr0⟩
  simp only at ho hc0 hr0⊢
  try refine nv ?_
  refine ag (ι:=Nat×Bool×Int×List bP×List bP) (I:=fun j=>⟨164,[(1, .c (.ptr 1 0)),(3, .c (.mp 17)),(5, .c (.ptr 5 0)),(6, .c (.ptr 6 0)),(7, .c (.ptr 7 0)),(8,I .i64 j.2.2.1),(9, .c (.ptr 9 0)),(19,ja d.revs),(20,I .i64 d.revs.length),(21,I .i64 k),(62, .c (.d (.ps 6 (d.recs.map bg)))),(63,I .i64 d.recs.length),(64,I .i64 j.1)],
   [(1, .box ((fD d).map C.d)),(17, .map ((bJ kF Gf A).map fA)),(5, .box ((ax v).map C.d)),(6, .box ((fJ (fileOf v)).map C.d)),(33,lI kF j.2.2.2.1),(34,lI kF []),(35,lI kF j.2.2.2.2),(7, .box [.d (.v (.bool j.2.1)), .mp 33, .mp 34, .mp 35]),(9,WT o)]⟩)
   (Inv:=fun j=>j.1≤d.recs.length∧GM (dw d k) (bW v) ((d.recs.take j.1).filter fun r=>decide ((⟨r.to,r.num⟩:bP)=fileOf v)) j.2.1 j.2.2.1 j.2.2.2.1 j.2.2.2.2) (μ:=fun j=>d.recs.length-j.1) (0,true,0,c0,r0)
   ⟨by simp,⟨fun g=>by simp[hc0 g],fun g=>by simp[hr0 g],by simp,by simp,by simp,by simp⟩⟩ ?_ ?_
  ·(refine fZ (fun i=>i) rfl ?_ ⟨?_,?_,?_,gu hx (by simp[ae,Ab.get])⟩<;>first|(simp only[kE,aQ, ↓reduceIte,Nat.reduceEqDiff,reduceCtorEq,fileOf.eq_1];done)|simp[di,bf,aA,Ab.get,aZ,dH,aN,bY,bG,bH,bD,bI,bC,ae,List.flatten,fileOf.eq_1])
  rintro⟨j,og,n,c,r1⟩ ⟨hj,hR⟩
  simp only at hj hR⊢
  have hnb:=hR.nb
  have hn0:=hR.n0
  have hfl:((d.recs.take j).filter fun r=>decide ((⟨r.to,r.num⟩:bP)=fileOf v)).length≤512:=Nat.le_trans (List.length_filter_le ..) (by simp;omega)
  try refine nv ?_
  refine af ?_ ?_
  ·intro hlt2
   have hlt2':j<d.recs.length:=by simpa using hlt2
   obtain⟨r,hr,he2,htk2⟩:=round bg d.recs j mr hlt2'
   obtain⟨q1,q2,q3,q4,q5⟩:=hrc r (List.mem_of_getElem? hr)
   try refine nx @he2 ?_
   have hcond:(bif !decide (r.to=v.path) then true else !decide (r.num=v.num))=!decide ((⟨r.to,r.num⟩:bP)=fileOf v):=by
    simp only[fileOf,bP.mk.injEq]
    by_cases e1:r.to=v.path<;>by_cases e2:r.num=v.num<;>simp[e1,e2]
   refine af ?_ ?_
   ·intro hno
    rw[hcond] at hno
    have hno':¬(⟨r.to,r.num⟩:bP)=fileOf v:=by simpa using hno
    try refine nv ?_
    refine⟨(j+1,og,n,c,r1),⟨hlt2',?_⟩,by simp;omega,?_⟩
    ·simp only[htk2,List.filter_append]
     have:List.filter (fun r=>decide ((⟨r.to,r.num⟩:bP)=fileOf v)) [r]=[]:=by simp[hno']
     rw[this,List.append_nil];exact hR
    ·(refine fZ (fun i=>i) rfl ?_ ⟨?_,?_,?_,gu hx (by simp[ae,Ab.get])⟩<;>first|(simp only[kE,aQ, ↓reduceIte,Nat.reduceEqDiff,reduceCtorEq,fileOf.eq_1];done)|simp[di,bf,aA,Ab.get,aZ,dH,aN,bY,bG,bH,bD,bI,bC,ae,List.flatten,fileOf.eq_1])
   intro hyes
   rw[hcond] at hyes
   have hyes':(⟨r.to,r.num⟩:bP)=fileOf v:=by simpa using hyes
   try refine nv ?_
   refine lW ⟨164,Xd d k j (n+1),stR d A v o r (bif decide (n+1=1) then false else og) c r1⟩ ?_ ?_
   ·refine af ?_ ?_
    ·intro h
     rw[h]
     try refine nv ?_
     refine⟨rfl,?_⟩
     (refine fZ (fun i=>i) rfl ?_ ⟨?_,?_,?_,gu hx (by simp[ae,Ab.get])⟩<;>first|(simp only[kE,aQ, ↓reduceIte,Nat.reduceEqDiff,reduceCtorEq,fileOf.eq_1];done)|simp[di,bf,aA,Ab.get,aZ,dH,aN,bY,bG,bH,bD,bI,bC,ae,List.flatten,fileOf.eq_1])
    ·intro h
     rw[h]
     refine aJ ?_
     refine⟨rfl,?_⟩
     (refine fZ (fun i=>i) rfl ?_ ⟨?_,?_,?_,gu hx (by simp[ae,Ab.get])⟩<;>first|(simp only[kE,aQ, ↓reduceIte,Nat.reduceEqDiff,reduceCtorEq,fileOf.eq_1];done)|simp[di,bf,aA,Ab.get,aZ,dH,aN,bY,bG,bH,bD,bI,bC,ae,List.flatten,fileOf.eq_1])
   generalize hog1:(bif decide (n+1=1) then false else og)=og1
   try refine nv ?_
   refine lW ⟨164,Xd d k j (bif decide (r.how=4) then 2 else n+1),stR d A v o r (bif decide (r.how=4) then true else og1) c r1⟩ ?_ ?_
   ·refine af ?_ ?_
    ·intro h
     rw[h]
     try refine nv ?_
     refine⟨rfl,?_⟩
     (refine fZ (fun i=>i) rfl ?_ ⟨?_,?_,?_,gu hx (by simp[ae,Ab.get])⟩<;>first|(simp only[kE,aQ, ↓reduceIte,Nat.reduceEqDiff,reduceCtorEq,fileOf.eq_1];done)|simp[di,bf,aA,Ab.get,aZ,dH,aN,bY,bG,bH,bD,bI,bC,ae,List.flatten,fileOf.eq_1])
    ·intro h
     rw[h]
     refine aJ ?_
     refine⟨rfl,?_⟩
     (refine fZ (fun i=>i) rfl ?_ ⟨?_,?_,?_,gu hx (by simp[ae,Ab.get])⟩<;>first|(simp only[kE,aQ, ↓reduceIte,Nat.reduceEqDiff,reduceCtorEq,fileOf.eq_1];done)|simp[di,bf,aA,Ab.get,aZ,dH,aN,bY,bG,bH,bD,bI,bC,ae,List.flatten,fileOf.eq_1])
   generalize hog2:(bif decide (r.how=4) then true else og1)=og2
   generalize hn2:(bif decide (r.how=4) then 2 else n+1)=n2
   try refine nv ?_
   refine mJ (ι:=List bP) (fun c1=>⟨164,Xd d k j n2,stR d A v o r og2 c1 r1⟩) (fun c1=>∀g,g∈c1↔g∈c∨(r.how=1∧(dw d k ⟨r.frm,r.last⟩).car g)) ?_ ?_
   ·refine af ?_ ?_
    ·intro h
     have h':r.how=1:=by simpa using h
     have hcA:=hA.car ⟨r.frm,r.last⟩
     refine aJ ?_
     refine abp (wr:=false) [] rfl (by kernel_rfl) (by simp only[kD,List.dropLast_cons₂,List.dropLast_singleton,kk,Nat.reduceAdd,Nat.reduceLT,Nat.reduceEqDiff, ↓reduceIte,reduceCtorEq,Gi];first|done|rfl) ?_ (by kernel_rfl) (by kernel_rfl) ([(33,lI kF c)]) (by simp) (by simp only[kV, ↓reduceIte,Nat.reduceEqDiff,reduceCtorEq];first|done|rfl) ⟨by simp[Ab.get,cu],by simp[bY,bG,bH,bD,bI,bC,aA,aN,dH,ae,Ab.get,cu],by simp[aZ,dH,aN,ae,Ab.get,cu]⟩ (DL 33 (by decide) (by decide) c ((aB A ⟨r.frm,r.last⟩).map SV.car)) ?_
     rotate_left
     rintro rv9 st' ⟨c1,hc1,rfl⟩
     refine⟨by simp[lC,ae,Ab.get],?_⟩
     simp only[kP,Nat.reduceEqDiff, ↓reduceIte,reduceCtorEq,List.cons_append,List.nil_append]
     rotate_left
     ·exact gI (KU A)
     refine⟨trivial,c1,fun g=>?_,?_⟩
     ·rw[hc1 g,hcA g];simp[h']
     ·(refine fZ (fun i=>i) rfl ?_ ⟨?_,?_,?_,gu hx (by simp[ae,Ab.get])⟩<;>first|(simp only[kE,aQ, ↓reduceIte,Nat.reduceEqDiff,reduceCtorEq,fileOf.eq_1];done)|simp[di,bf,aA,Ab.get,aZ,dH,aN,bY,bG,bH,bD,bI,bC,ae,List.flatten,fileOf.eq_1])
    ·intro h
     have h':¬r.how=1:=by simpa using h
     refine aJ ?_
     refine⟨rfl,c,fun g=>by simp[h'],?_⟩
     (refine fZ (fun i=>i) rfl ?_ ⟨?_,?_,?_,gu hx (by simp[ae,Ab.get])⟩<;>first|(simp only[kE,aQ, ↓reduceIte,Nat.reduceEqDiff,reduceCtorEq,fileOf.eq_1];done)|simp[di,bf,aA,Ab.get,aZ,dH,aN,bY,bG,bH,bD,bI,bC,ae,List.flatten,fileOf.eq_1])
   intro c1 hc1
   try refine nv ?_
   refine ag (ι:=Int×List bP×List bP) (I:=fun i=>⟨164,Xd d k j n2++[(14,I .i64 i.1)],stR d A v o r og2 i.2.1 i.2.2⟩)
    (Inv:=fun i=>r.first≤i.1∧i.1≤r.last+1∧(∀g,g∈i.2.1↔g∈c1∨((r.how=2∨r.how=4)∧∃m,r.first≤m∧m<i.1∧(dw d k ⟨r.frm,m⟩).con g))∧(∀g,g∈i.2.2↔g∈r1∨(r.how=3∧∃m,r.first≤m∧m<i.1∧(dw d k ⟨r.frm,m⟩).con g)))
    (μ:=fun i=>(r.last+1-i.1).toNat) (r.first,c1,r1) ⟨by simp,by simp;omega,fun g=>?_,fun g=>?_⟩ ?_ ?_
   ·simp only[iff_self_or,and_imp];rintro _ ⟨m,h1,h2,_⟩;omega
   ·simp only[iff_self_or,and_imp];rintro _ ⟨m,h1,h2,_⟩;omega
   ·(refine fZ (fun i=>i) rfl ?_ ⟨?_,?_,?_,gu hx (by simp[ae,Ab.get])⟩<;>first|(simp only[kE,aQ, ↓reduceIte,Nat.reduceEqDiff,reduceCtorEq,fileOf.eq_1];done)|simp[di,bf,aA,Ab.get,aZ,dH,aN,bY,bG,bH,bD,bI,bC,ae,List.flatten,fileOf.eq_1])
   rintro⟨m,c2,r2⟩ ⟨m1,m2,hc2,hr2⟩
   simp only at m1 m2 hc2 hr2⊢
   try refine nv ?_
   refine af ?_ ?_
   ·intro hml
    have hml':m≤r.last:=by simpa using hml
    have hnA:=hA.con ⟨r.frm,m⟩
    refine aJ ?_
    refine gy @Gi ?_ ?_
    ·exact gI (KU A)
    generalize aB A ⟨r.frm,m⟩=o3 at hnA⊢
    try refine nv ?_
    refine lW ⟨164,Xd d k j n2++[(14,I .i64 m),(15, .c (.d (Aa kF (o3.map SV.con)))),(119,I .i64 r.how),(120,B (decide (r.how=2)||decide (r.how=4)))],stR d A v o r og2 c2 r2⟩ ?_ ?_
    ·refine af ?_ ?_
     ·intro h
      rw[h,Bool.true_or]
      refine aJ ?_
      refine⟨rfl,?_⟩
      (refine fZ (fun i=>i) rfl ?_ ⟨?_,?_,?_,gu hx (by simp[ae,Ab.get])⟩<;>first|(simp only[kE,aQ, ↓reduceIte,Nat.reduceEqDiff,reduceCtorEq,fileOf.eq_1];done)|simp[di,bf,aA,Ab.get,aZ,dH,aN,bY,bG,bH,bD,bI,bC,ae,List.flatten,fileOf.eq_1])
     ·intro h
      rw[h,Bool.false_or]
      try refine nv ?_
      refine⟨rfl,?_⟩
      (refine fZ (fun i=>i) rfl ?_ ⟨?_,?_,?_,gu hx (by simp[ae,Ab.get])⟩<;>first|(simp only[kE,aQ, ↓reduceIte,Nat.reduceEqDiff,reduceCtorEq,fileOf.eq_1];done)|simp[di,bf,aA,Ab.get,aZ,dH,aN,bY,bG,bH,bD,bI,bC,ae,List.flatten,fileOf.eq_1])
    refine aJ ?_
    refine mJ (ι:=List bP×List bP) (fun i=>⟨164,Xd d k j n2++[(14,I .i64 m)],stR d A v o r og2 i.1 i.2⟩)
     (fun i=>(∀g,g∈i.1↔g∈c2∨((r.how=2∨r.how=4)∧(dw d k ⟨r.frm,m⟩).con g))∧(∀g,g∈i.2↔g∈r2∨(r.how=3∧(dw d k ⟨r.frm,m⟩).con g))) ?_ ?_
    ·refine af ?_ ?_
     ·intro h
      have h':r.how=2∨r.how=4:=by simpa using h
      have h3:¬r.how=3:=by omega
      try refine nv ?_
      refine qQ ([(33,lI kF c2)]) (DL 33 (by decide) (by decide) c2 (o3.map SV.con)) ?_
      rintro rv9 st' ⟨c3,hc3,rfl⟩<;>refine qU ?_
      refine aJ ?_
      refine⟨rfl,(c3,r2),⟨fun g=>?_,fun g=>by simp[h3]⟩,?_⟩
      ·rw[hc3 g,hnA g];simp[h']
      ·(refine fZ (fun i=>i) rfl ?_ ⟨?_,?_,?_,gu hx (by simp[ae,Ab.get])⟩<;>first|(simp only[kE,aQ, ↓reduceIte,Nat.reduceEqDiff,reduceCtorEq,fileOf.eq_1];done)|simp[di,bf,aA,Ab.get,aZ,dH,aN,bY,bG,bH,bD,bI,bC,ae,List.flatten,fileOf.eq_1])
     ·intro h
      have h':¬(r.how=2∨r.how=4):=by simpa using h
      try refine nv ?_
      refine af ?_ ?_
      ·intro h2
       have h3:r.how=3:=by simpa using h2
       try refine nv ?_
       refine qQ ([(35,lI kF r2)]) (DL 35 (by decide) (by decide) r2 (o3.map SV.con)) ?_
       rintro rv9 st' ⟨r3,hr3,rfl⟩<;>refine qU ?_
       refine aJ ?_
       refine⟨rfl,(c2,r3),⟨fun g=>by simp[h'],fun g=>?_⟩,?_⟩
       ·rw[hr3 g,hnA g];simp[h3]
       ·(refine fZ (fun i=>i) rfl ?_ ⟨?_,?_,?_,gu hx (by simp[ae,Ab.get])⟩<;>first|(simp only[kE,aQ, ↓reduceIte,Nat.reduceEqDiff,reduceCtorEq,fileOf.eq_1];done)|simp[di,bf,aA,Ab.get,aZ,dH,aN,bY,bG,bH,bD,bI,bC,ae,List.flatten,fileOf.eq_1])
      ·intro h2
       have h3:¬r.how=3:=by simpa using h2
       refine aJ ?_
       refine⟨rfl,(c2,r2),⟨fun g=>by simp[h'],fun g=>by simp[h3]⟩,?_⟩
       (refine fZ (fun i=>i) rfl ?_ ⟨?_,?_,?_,gu hx (by simp[ae,Ab.get])⟩<;>first|(simp only[kE,aQ, ↓reduceIte,Nat.reduceEqDiff,reduceCtorEq,fileOf.eq_1];done)|simp[di,bf,aA,Ab.get,aZ,dH,aN,bY,bG,bH,bD,bI,bC,ae,List.flatten,fileOf.eq_1])
    rintro⟨c3,r3⟩ ⟨hc3,hr3⟩
    simp only at hc3 hr3⊢
    try refine nv ?_
    refine⟨(m+1,c3,r3),⟨by simp;omega,by simp;omega,fun g=>?_,fun g=>?_⟩,by simp;omega,?_⟩
    ·simp only[hc3 g,hc2 g];exact U8 (by omega)
    ·simp only[hr3 g,hr2 g];exact U8 (by omega)
    ·(refine fZ (fun i=>i) rfl ?_ ⟨?_,?_,?_,gu hx (by simp[ae,Ab.get])⟩<;>first|(simp only[kE,aQ, ↓reduceIte,Nat.reduceEqDiff,reduceCtorEq,fileOf.eq_1];done)|simp[di,bf,aA,Ab.get,aZ,dH,aN,bY,bG,bH,bD,bI,bC,ae,List.flatten,fileOf.eq_1])
   intro hml
   have hml':¬m≤r.last:=by simpa using hml
   have hm3:m=r.last+1:=by omega
   subst hm3
   try refine nv ?_
   refine⟨(j+1,og2,n2,c2,r2),⟨hlt2',?_⟩,by simp;omega,?_⟩
   ·simp only[htk2,List.filter_append]
    have:List.filter (fun r=>decide ((⟨r.to,r.num⟩:bP)=fileOf v)) [r]=[r]:=by simp[hyes']
    rw[this,←hog2,←hn2,←hog1]
    exact hR.step r ⟨q4,q5⟩ hc1 hc2 hr2
   ·(refine fZ (fun i=>i) rfl ?_ ⟨?_,?_,?_,gu hx (by simp[ae,Ab.get])⟩<;>first|(simp only[kE,aQ, ↓reduceIte,Nat.reduceEqDiff,reduceCtorEq,fileOf.eq_1];done)|simp[di,bf,aA,Ab.get,aZ,dH,aN,bY,bG,bH,bD,bI,bC,ae,List.flatten,fileOf.eq_1])
  intro hge2
  have hge2':j=d.recs.length:=by have:¬j<d.recs.length:=by simpa using hge2
                                 omega
  rw[hge2',List.take_length] at hR
  change GM (dw d k) (bW v) (jE d (fileOf v)) og n c r1 at hR
  clear hnb hn0 hfl
  try refine nv ?_
  refine mJ (ι:=List bP) (fun c4=>⟨164,[(1, .c (.ptr 1 0)),(3, .c (.mp 17)),(6, .c (.ptr 6 0)),(7, .c (.ptr 7 0)),(9, .c (.ptr 9 0)),(19,ja d.revs),(20,I .i64 d.revs.length),(21,I .i64 k)],
   [(1, .box ((fD d).map C.d)),(17, .map ((bJ kF Gf A).map fA)),(6, .box ((fJ (fileOf v)).map C.d)),(33,lI kF c4),(34,lI kF []),(35,lI kF r1),(7, .box [.d (.v (.bool og)), .mp 33, .mp 34, .mp 35]),(9,WT o)]⟩)
   (fun c4=>∀g,g∈c4↔BL (jE d (fileOf v)) (dw d k) (bW v) (fileOf v) g) ?_ ?_
  ·refine af ?_ ?_
   ·intro h
    refine aJ ?_
    refine gy @QM ?_ ?_
    ·exact gI (SH c)
    refine aJ ?_
    refine⟨rfl,lq c (fileOf v),fun g=>?_,?_⟩
    ·rw[mD,hR.car g,BL];simp only[(hR.og.1 h),true_and,or_assoc]
    ·(refine fZ (fun i=>i) rfl ?_ ⟨?_,?_,?_,gu hx (by simp[ae,Ab.get])⟩<;>first|(simp only[kE,aQ, ↓reduceIte,Nat.reduceEqDiff,reduceCtorEq,fileOf.eq_1];done)|simp[di,bf,aA,Ab.get,aZ,dH,aN,bY,bG,bH,bD,bI,bC,ae,List.flatten,fileOf.eq_1])
   ·intro h
    refine aJ ?_
    refine⟨rfl,c,fun g=>?_,?_⟩
    ·have:¬(jE d (fileOf v)=[]∨∃r∈jE d (fileOf v),r.how=4):=fun hh=>by rw[hR.og.2 hh] at h;cases h
     rw[hR.car g,BL];simp only[this,false_and,or_false]
    ·(refine fZ (fun i=>i) rfl ?_ ⟨?_,?_,?_,gu hx (by simp[ae,Ab.get])⟩<;>first|(simp only[kE,aQ, ↓reduceIte,Nat.reduceEqDiff,reduceCtorEq,fileOf.eq_1];done)|simp[di,bf,aA,Ab.get,aZ,dH,aN,bY,bG,bH,bD,bI,bC,ae,List.flatten,fileOf.eq_1])
  intro c4 hc4
  refine aJ ?_
  refine aG (iG (bid:=7) (id:=33) (j:=1) (es:=dn kF c4) (by decide) rfl rfl rfl) ?_
  refine dM ?_
  try refine nv ?_
  refine qQ ([(35,lI kF r1)]) (DL 35 (by decide) (by decide) r1 (some c4)) ?_
  rintro rv9 st' ⟨r4,hr4,rfl⟩<;>refine qU ?_
  cases o with
  |none=>
   try refine nv ?_
   refine ag (ι:=Option iT×List bP×List bP) (I:=fun i=>⟨164,[(1, .c (.ptr 1 0)),(3, .c (.mp 17)),(6, .c (.ptr 6 0)),(7, .c (.ptr 7 0)),(9, .c (.ptr 9 0)),(19,ja d.revs),(20,I .i64 d.revs.length),(21,I .i64 k),(146, .c (.ptr 146 0))],
    [(1, .box ((fD d).map C.d)),(17, .map ((bJ kF Gf A).map fA)),(6, .box ((fJ (fileOf v)).map C.d)),(34,lI kF i.2.2),(35,lI kF r4),(7, .box [.d (.v (.bool og)), .d (.pm (dn kF c4)), .mp 34, .mp 35]),(9,WT none),(146, .iter i.1 (dn kF i.2.1))]⟩)
    (Inv:=fun i=>∀g,(g∈i.2.2∨g∈i.2.1∧¬g∈Option.getD (Option.map SV.car none) [])↔(g∈c4∧¬g∈Option.getD (Option.map SV.car none) [])) (μ:=fun i=>i.2.1.length) (none,c4,[]) (by simp) ?_ ?_
   ·(refine fZ (fun i=>i) rfl ?_ ⟨?_,?_,?_,gu hx (by simp[ae,Ab.get])⟩<;>first|(simp only[kE,aQ, ↓reduceIte,Nat.reduceEqDiff,reduceCtorEq,fileOf.eq_1];done)|simp[di,bf,aA,Ab.get,aZ,dH,aN,bY,bG,bH,bD,bI,bC,ae,List.flatten,fileOf.eq_1])
   rintro⟨cur,rest,m4⟩ h4
   simp only at h4⊢
   refine aJ ?_
   refine nV (id:=146) (by simp) (by simp only[kV, ↓reduceIte,Nat.reduceEqDiff,reduceCtorEq];first|done|rfl) rfl ?_ ?_
   ·intro h0
    have:rest=[]:=by simpa[dn] using h0
    subst this
    refine dM ?_
    try refine nv ?_
    refine af ?_ ?_
    ·intro hh;cases hh
    intro _
    refine aJ ?_
    refine aG (iG (bid:=7) (id:=34) (j:=2) (es:=dn kF m4) (by decide) rfl rfl rfl) ?_
    refine dM ?_
    refine aG (iG (bid:=7) (id:=35) (j:=3) (es:=dn kF r4) (by decide) rfl rfl rfl) ?_
    refine dM ?_
    refine gy @Y4 ?_ ?_
    ·exact gI (KU A)
    try refine nv ?_
    refine⟨(k+1,jg A (fileOf v) ⟨og,c4,m4,r4⟩),⟨hlt',hA.step hv h5' ⟨og,c4,m4,r4⟩ hc4 (fun g=>?_) (fun g=>?_),hD.RI hv _⟩,by simp;omega,?_⟩
    ·simp only;rw[ho g,←h4 g];simp
    ·simp only;rw[hr4 g,hR.cre g];rfl
    ·(refine fZ (fun i=>i) rfl ?_ ⟨?_,?_,?_,gu hx (by simp[ae,Ab.get])⟩<;>first|(simp only[kE,aQ, ↓reduceIte,Nat.reduceEqDiff,reduceCtorEq,fileOf.eq_1];done)|simp[di,bf,aA,Ab.get,aZ,dH,aN,bY,bG,bH,bD,bI,bC,ae,List.flatten,fileOf.eq_1])
   intro l1 e l2 hsp
   obtain⟨xs,g4,ys,rfl,rfl,rfl,rfl⟩:=jr hsp
   refine dM ?_
   (repeat (first|refine xO ?_|refine wX (wr:=false) (by simp only[kk,Nat.reduceAdd,Nat.reduceLT,Nat.reduceEqDiff, ↓reduceIte,reduceCtorEq,kC];first|done|rfl) ?_))
   refine af ?_ ?_
   rotate_left
   ·intro hh;cases hh
   intro _
   (repeat (first|refine xO ?_|refine wX (wr:=false) (by simp only[kk,Nat.reduceAdd,Nat.reduceLT,Nat.reduceEqDiff, ↓reduceIte,reduceCtorEq,kC];first|done|rfl) ?_))
   refine gy (p2 @look0 @Option.map_none.{0,0}) ?_ ?_
   ·simp only[All,List.cons_append,List.nil_append,dI,List.mem_cons,List.not_mem_nil,or_false,forall_eq_or_imp,forall_eq,aZ,aN,dH,aO,bF,and_true,true_and,implies_true,List.length_map,List.length_cons,List.length_nil,aQ,jo,dm]
    repeat' (first|exact trivial|exact by simp|refine And.intro ?_ ?_|intro _|assumption|rfl|omega|(rw[Bool.not_eq_true'];assumption)|(simp;done)|(simp only[decide_eq_true_eq] at*;omega)|(simp_all;done))
   refine aJ ?_
   refine af ?_ ?_
   ·intro _
    have hk':¬g4∈Option.getD (Option.map SV.car none) []:=by simp
    try refine nv ?_
    refine gy @QM ?_ ?_
    ·exact gI (SH m4)
    try refine nv ?_
    refine⟨(some (kF g4,(false,[.v (.bool true)])),xs++ys,lq m4 g4),?_,by simp,?_⟩
    ·intro i
     rw[←h4 i,mD]
     simp only[List.mem_append,List.mem_cons]
     constructor
     ·rintro((h|rfl)|⟨h|h,g⟩)
      ·exact .inl h
      ·exact .inr ⟨.inr (.inl rfl),hk'⟩
      ·exact .inr ⟨.inl h,g⟩
      ·exact .inr ⟨.inr (.inr h),g⟩
     ·rintro(h|⟨h|h|h,g⟩)
      ·exact .inl (.inl h)
      ·exact .inr ⟨.inl h,g⟩
      ·exact .inl (.inr h)
      ·exact .inr ⟨.inr h,g⟩
    ·(refine fZ (fun i=>i) rfl ?_ ⟨?_,?_,?_,gu hx (by simp[ae,Ab.get])⟩<;>first|(simp only[kE,aQ, ↓reduceIte,Nat.reduceEqDiff,reduceCtorEq,fileOf.eq_1];done)|simp[di,bf,aA,Ab.get,aZ,dH,aN,bY,bG,bH,bD,bI,bC,ae,List.flatten,fileOf.eq_1])
   ·intro hh;cases hh
  |some x0=>
   try refine nv ?_
   refine ag (ι:=Option iT×List bP×List bP) (I:=fun i=>⟨164,[(1, .c (.ptr 1 0)),(3, .c (.mp 17)),(6, .c (.ptr 6 0)),(7, .c (.ptr 7 0)),(9, .c (.ptr 9 0)),(19,ja d.revs),(20,I .i64 d.revs.length),(21,I .i64 k),(146, .c (.ptr 146 0))],
    [(1, .box ((fD d).map C.d)),(17, .map ((bJ kF Gf A).map fA)),(6, .box ((fJ (fileOf v)).map C.d)),(34,lI kF i.2.2),(35,lI kF r4),(7, .box [.d (.v (.bool og)), .d (.pm (dn kF c4)), .mp 34, .mp 35]),(9,WT (some x0)),(146, .iter i.1 (dn kF i.2.1))]⟩)
    (Inv:=fun i=>∀g,(g∈i.2.2∨g∈i.2.1∧¬g∈Option.getD (Option.map SV.car (some x0)) [])↔(g∈c4∧¬g∈Option.getD (Option.map SV.car (some x0)) [])) (μ:=fun i=>i.2.1.length) (none,c4,[]) (by simp) ?_ ?_
   ·(refine fZ (fun i=>i) rfl ?_ ⟨?_,?_,?_,gu hx (by simp[ae,Ab.get])⟩<;>first|(simp only[kE,aQ, ↓reduceIte,Nat.reduceEqDiff,reduceCtorEq,fileOf.eq_1];done)|simp[di,bf,aA,Ab.get,aZ,dH,aN,bY,bG,bH,bD,bI,bC,ae,List.flatten,fileOf.eq_1])
   rintro⟨cur,rest,m4⟩ h4
   simp only at h4⊢
   refine aJ ?_
   refine nV (id:=146) (by simp) (by simp only[kV, ↓reduceIte,Nat.reduceEqDiff,reduceCtorEq];first|done|rfl) rfl ?_ ?_
   ·intro h0
    have:rest=[]:=by simpa[dn] using h0
    subst this
    refine dM ?_
    try refine nv ?_
    refine af ?_ ?_
    ·intro hh;cases hh
    intro _
    refine aJ ?_
    refine aG (iG (bid:=7) (id:=34) (j:=2) (es:=dn kF m4) (by decide) rfl rfl rfl) ?_
    refine dM ?_
    refine aG (iG (bid:=7) (id:=35) (j:=3) (es:=dn kF r4) (by decide) rfl rfl rfl) ?_
    refine dM ?_
    refine gy @Y4 ?_ ?_
    ·exact gI (KU A)
    try refine nv ?_
    refine⟨(k+1,jg A (fileOf v) ⟨og,c4,m4,r4⟩),⟨hlt',hA.step hv h5' ⟨og,c4,m4,r4⟩ hc4 (fun g=>?_) (fun g=>?_),hD.RI hv _⟩,by simp;omega,?_⟩
    ·simp only;rw[ho g,←h4 g];simp
    ·simp only;rw[hr4 g,hR.cre g];rfl
    ·(refine fZ (fun i=>i) rfl ?_ ⟨?_,?_,?_,gu hx (by simp[ae,Ab.get])⟩<;>first|(simp only[kE,aQ, ↓reduceIte,Nat.reduceEqDiff,reduceCtorEq,fileOf.eq_1];done)|simp[di,bf,aA,Ab.get,aZ,dH,aN,bY,bG,bH,bD,bI,bC,ae,List.flatten,fileOf.eq_1])
   intro l1 e l2 hsp
   obtain⟨xs,g4,ys,rfl,rfl,rfl,rfl⟩:=jr hsp
   refine dM ?_
   (repeat (first|refine xO ?_|refine wX (wr:=false) (by simp only[kk,Nat.reduceAdd,Nat.reduceLT,Nat.reduceEqDiff, ↓reduceIte,reduceCtorEq,kC];first|done|rfl) ?_))
   refine af ?_ ?_
   rotate_left
   ·intro hh;cases hh
   intro _
   (repeat (first|refine xO ?_|refine wX (wr:=false) (by simp only[kk,Nat.reduceAdd,Nat.reduceLT,Nat.reduceEqDiff, ↓reduceIte,reduceCtorEq,kC];first|done|rfl) ?_))
   refine gy @XV ?_ ?_
   ·exact gI (SH x0.car)
   refine aJ ?_
   refine af ?_ ?_
   ·intro hk
    have hk':¬g4∈Option.getD (Option.map SV.car (some x0)) []:=by simpa using hk
    try refine nv ?_
    refine gy @QM ?_ ?_
    ·exact gI (SH m4)
    try refine nv ?_
    refine⟨(some (kF g4,(false,[.v (.bool true)])),xs++ys,lq m4 g4),?_,by simp,?_⟩
    ·intro i
     rw[←h4 i,mD]
     simp only[List.mem_append,List.mem_cons]
     constructor
     ·rintro((h|rfl)|⟨h|h,g⟩)
      ·exact .inl h
      ·exact .inr ⟨.inr (.inl rfl),hk'⟩
      ·exact .inr ⟨.inl h,g⟩
      ·exact .inr ⟨.inr (.inr h),g⟩
     ·rintro(h|⟨h|h|h,g⟩)
      ·exact .inl (.inl h)
      ·exact .inr ⟨.inl h,g⟩
      ·exact .inl (.inr h)
      ·exact .inr ⟨.inr h,g⟩
    ·(refine fZ (fun i=>i) rfl ?_ ⟨?_,?_,?_,gu hx (by simp[ae,Ab.get])⟩<;>first|(simp only[kE,aQ, ↓reduceIte,Nat.reduceEqDiff,reduceCtorEq,fileOf.eq_1];done)|simp[di,bf,aA,Ab.get,aZ,dH,aN,bY,bG,bH,bD,bI,bC,ae,List.flatten,fileOf.eq_1])
   ·intro hk
    have hk':g4∈Option.getD (Option.map SV.car (some x0)) []:=by simpa using hk
    try refine nv ?_
    refine⟨(some (kF g4,(false,[.v (.bool true)])),xs++ys,m4),?_,by simp,?_⟩
    ·intro i
     rw[←h4 i]
     simp only[List.mem_append,List.mem_cons]
     constructor
     ·rintro(h|⟨h|h,g⟩)
      ·exact .inl h
      ·exact .inr ⟨.inl h,g⟩
      ·exact .inr ⟨.inr (.inr h),g⟩
     ·rintro(h|⟨h|rfl|h,g⟩)
      ·exact .inl h
      ·exact .inr ⟨.inl h,g⟩
      ·exact absurd hk' g
      ·exact .inr ⟨.inr h,g⟩
    ·(refine fZ (fun i=>i) rfl ?_ ⟨?_,?_,?_,gu hx (by simp[ae,Ab.get])⟩<;>first|(simp only[kE,aQ, ↓reduceIte,Nat.reduceEqDiff,reduceCtorEq,fileOf.eq_1];done)|simp[di,bf,aA,Ab.get,aZ,dH,aN,bY,bG,bH,bD,bI,bC,ae,List.flatten,fileOf.eq_1])
 intro hge
 have hge':k=d.revs.length:=by have:¬k<d.revs.length:=by simpa using hge
                               omega
 rw[hge'] at hA hD
 refine aJ ?_
 refine aG (lh (i:=3) (id:=17) (es:=bJ kF Gf A) rfl rfl) ?_
 refine dM ?_
 try refine nv ?_
 refine rA [] ?_
 refine⟨?_,rfl⟩
 exact⟨A,hA,hD,rfl⟩
end Go.Proofs.YtcpgicfphakdaaaGreatDoor
