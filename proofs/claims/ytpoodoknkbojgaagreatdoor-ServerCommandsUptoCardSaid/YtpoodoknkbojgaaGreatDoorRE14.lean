/- A part of the proof. -/
import Derived.Test.YtpoodoknkbojgaaGreatDoorRE13
import Derived.Test.YtpoodoknkbojgaaGreatDoorRE7
set_option linter.all false
namespace Go.Proofs.YtpoodoknkbojgaaGreatDoor
open Go.Ab Tys
variable [wJ]
def z9.kk:=p2 (p13 kB kG Tryz.ntmps9 uJ qI wz rX nD nK nZ qQ zK zS) (p12 zY qU rW qV Fq G5 FX FP BI pg sQ Tryz.results9)
set_option maxRecDepth 100000 in
set_option maxHeartbeats 16000000 in
open z9 in
theorem uq (a b:cO) (ha:xW a) (hb:xW b):AC Tryz.prog 9 [wK a,wK b] [] (fun r st=>r=B (decide (a=b))∧st=[]):=by
 have c1:=JV a.stream b.stream ha.paths hb.paths ha.n1
 have c2:=Ku a.rules b.rules ha.rules hb.rules ha.n2 hb.n2
 have c3:=PL a.edits b.edits a.recs b.recs ha.n3 hb.n3 ha.n4 hb.n4
 clear ha hb
 obtain⟨k1,cl1,nm1,pt1,nu1,fe1,Z4,tx1,⟨sn1,sp1,sl1⟩,ru1,ed1,re1⟩:=a
 obtain⟨k2,cl2,nm2,pt2,nu2,fe2,Z8,tx2,⟨sn2,sp2,sl2⟩,ru2,ed2,re2⟩:=b
 simp only at c1 c2 c3
 refine dI Tryz.func9 Tryz.ntmps9 fun x hx=>?_
 try refine nv ?_
 refine so ([(64,B (decide ((⟨sn1,sp1,sl1⟩:Dx)=⟨sn2,sp2,sl2⟩)))]) ?_ ?_
 ·exact Fa @c1
 try refine nv ?_
 refine so ([(71,B (decide (ru1=ru2)))]) ?_ ?_
 ·exact Fa @c2
 try refine nv ?_
 refine so ([(82,B (decide (ed1=ed2)&&decide (re1=re2)))]) ?_ ?_
 ·exact Fa @c3
 try refine nv ?_
 refine rA [] ?_
 refine⟨?_,rfl⟩
 congr 1
 simp only[cO.mk.injEq]
 generalize (⟨sn1,sp1,sl1⟩:Dx)=s1
 generalize (⟨sn2,sp2,sl2⟩:Dx)=s2
 simp only[cond_eq_ite,Bool.if_false_right,aae]
 simp[Bool.decide_and,Bool.and_assoc]
def z10.kk:=p2 (p13 kB kS Tryz.ntmps10 uJ qI wz rX nD nK nZ qQ zK zS) (p12 zY qU rW qV Fq G5 FX FP BI pg sQ Tryz.results10)
set_option maxRecDepth 100000 in
set_option maxHeartbeats 16000000 in
open z10 in
theorem GX (c:cO):AC Tryz.prog 10 [wK c] [] (fun r st=>r=wK (dG c)∧st=[]):=by
 obtain⟨kd,cl,nm,pt,nu,fe,ti,tx,⟨sn,sp,sl⟩,ru,ed,re⟩:=c
 refine dI Tryz.func10 Tryz.ntmps10 fun x hx=>?_
 try refine nv ?_
 refine lY (aT 5 (bid:=3) (j:=10) rfl rfl) ?_
 refine dQ ?_
 refine lY (aT 5 (bid:=3) (j:=11) rfl rfl) ?_
 refine dQ ?_
 refine lY (aT 12 (bid:=3) (j:=12) rfl rfl) ?_
 refine dQ ?_
 refine lY (aT 6 (bid:=3) (j:=13) rfl rfl) ?_
 refine dQ ?_
 refine aU ?_ ?_
 ·intro h
  have hk:kd=1:=by simpa using h
  subst hk
  try refine nv ?_
  refine rA [] ?_
  refine⟨?_,rfl⟩
  simp[dG,df,mG]<;>rfl
 intro h1
 have h1:¬kd=1:=by simpa using h1
 try refine nv ?_
 refine aU ?_ ?_
 ·intro h
  have hk:kd=12:=by simpa using h
  subst hk
  try refine nv ?_
  refine rA [] ?_
  refine⟨?_,rfl⟩
  simp[dG,df,mG]<;>rfl
 intro h12
 have h12:¬kd=12:=by simpa using h12
 try refine nv ?_
 refine aU ?_ ?_
 ·intro h
  have hk:kd=13:=by simpa using h
  subst hk
  try refine nv ?_
  refine rA [] ?_
  refine⟨?_,rfl⟩
  simp[dG,df,mG]<;>rfl
 intro h13
 have h13:¬kd=13:=by simpa using h13
 try refine nv ?_
 refine aU ?_ ?_
 ·intro h
  have hk:kd=2:=by simpa using h
  subst hk
  refine jk ?_
  refine dr ([]) ?_ ?_
  ·exact Ub
  try refine nv ?_
  refine rA [] ?_
  refine⟨?_,rfl⟩
  simp[dG,df,mG]<;>rfl
 intro h2
 have h2:¬kd=2:=by simpa using h2
 try refine nv ?_
 refine aU ?_ ?_
 ·intro h
  have hk:kd=3:=by simpa using h
  subst hk
  try refine nv ?_
  refine rA [] ?_
  refine⟨?_,rfl⟩
  simp[dG,df,mG]<;>rfl
 intro h3
 have h3:¬kd=3:=by simpa using h3
 try refine nv ?_
 refine aU ?_ ?_
 ·intro h
  have hk:kd=4:=by simpa using h
  subst hk
  refine jk ?_
  refine dr ([]) ?_ ?_
  ·exact Ub
  try refine nv ?_
  refine rA [] ?_
  refine⟨?_,rfl⟩
  simp[dG,df,mG]<;>rfl
 intro h4
 have h4:¬kd=4:=by simpa using h4
 try refine nv ?_
 refine aU ?_ ?_
 ·intro h
  have hk:kd=5:=by simpa using h
  subst hk
  try refine nv ?_
  refine aU ?_ ?_
  rotate_left
  ·intro h9;simp at h9
  intro _
  try refine nv ?_
  refine rA [] ?_
  refine⟨?_,rfl⟩
  simp[dG,df,mG]<;>rfl
 intro h5
 have h5:¬kd=5:=by simpa using h5
 try refine nv ?_
 refine aU ?_ ?_
 ·intro h
  have hk:kd=14:=by simpa using h
  subst hk
  try refine nv ?_
  refine aU ?_ ?_
  rotate_left
  ·intro h9;simp at h9
  intro _
  try refine nv ?_
  refine rA [] ?_
  refine⟨?_,rfl⟩
  simp[dG,df,mG]<;>rfl
 intro h14
 have h14:¬kd=14:=by simpa using h14
 try refine nv ?_
 refine aU ?_ ?_
 ·intro h
  have hk:kd=7:=by simpa using h
  subst hk
  try refine nv ?_
  refine aU ?_ ?_
  rotate_left
  ·intro h9;simp at h9
  intro _
  try refine nv ?_
  refine rA [] ?_
  refine⟨?_,rfl⟩
  simp[dG,df,mG]<;>rfl
 intro h7
 have h7:¬kd=7:=by simpa using h7
 try refine nv ?_
 refine aU ?_ ?_
 ·intro h
  have hk:kd=8:=by simpa using h
  subst hk
  try refine nv ?_
  refine rA [] ?_
  refine⟨?_,rfl⟩
  simp[dG,df,mG]<;>rfl
 intro h8
 have h8:¬kd=8:=by simpa using h8
 try refine nv ?_
 refine aU ?_ ?_
 ·intro h
  have hk:kd=6:=by simpa using h
  subst hk
  refine jk ?_
  refine dr ([]) ?_ ?_
  ·exact Ub
  try refine nv ?_
  refine rA [] ?_
  refine⟨?_,rfl⟩
  simp[dG,df,mG]<;>rfl
 intro h6
 have h6:¬kd=6:=by simpa using h6
 try refine nv ?_
 refine aU ?_ ?_
 ·intro h
  have hk:kd=9:=by simpa using h
  subst hk
  refine jk ?_
  refine dr ([]) ?_ ?_
  ·exact Ub
  try refine nv ?_
  refine rA [] ?_
  refine⟨?_,rfl⟩
  simp[dG,df,mG]<;>rfl
 intro h9
 have h9:¬kd=9:=by simpa using h9
 try refine nv ?_
 refine aU ?_ ?_
 ·intro h
  have hk:kd=10:=by simpa using h
  subst hk
  refine jk ?_
  refine dr ([]) ?_ ?_
  ·exact Ub
  try refine nv ?_
  refine rA [] ?_
  refine⟨?_,rfl⟩
  simp[dG,df,mG]<;>rfl
 intro h10
 have h10:¬kd=10:=by simpa using h10
 try refine nv ?_
 refine aU ?_ ?_
 ·intro h
  have hk:kd=11:=by simpa using h
  subst hk
  refine jk ?_
  refine dr ([]) ?_ ?_
  ·exact Ub
  try refine nv ?_
  refine rA [] ?_
  refine⟨?_,rfl⟩
  simp[dG,df,mG]<;>rfl
 intro h11
 have h11:¬kd=11:=by simpa using h11
 try refine nv ?_
 refine rA [] ?_
 refine⟨?_,rfl⟩
 simp[dG,df,mG,h1,h12,h13,h2,h3,h4,h5,h14,h7,h8,h6,h9,h10,h11]<;>rfl
end Go.Proofs.YtpoodoknkbojgaaGreatDoor
