/- A part of the proof. -/
import Derived.Test.YtpoodoknkbojgaaGreatDoorRE20
set_option linter.all false
namespace Go.Proofs.YtpoodoknkbojgaaGreatDoor
open Go.Ab Tys
variable [wJ]
theorem J5 {α:Type} {a b:List α} (hl:a.length=b.length) (h:∀i,i<a.length→a[i]? =b[i]?):a=b:=by
 apply aa6
 intro i
 by_cases hi:i<a.length
 ·exact h i hi
 ·rw[aaB (by omega),aaB (by omega)]
theorem upto_succ {α:Type} {a b:List α} {k:Nat} {v:α} (h:∀i,i<k→a[i]? =b[i]?) (ha:a[k]? =some v) (hb:b[k]? =some v):∀i,i<k+1→a[i]? =b[i]?:=by
 intro i hi
 rcases aaT i k with h'|h'
 ·exact h i h'
 ·obtain rfl:i=k:=by omega
  rw[ha,hb]
def ZJ (l:List yX):Prop:=∀r∈l,PS r.left∧PS r.right
def z21.kk:=p16 kB kG Tryz.ntmps21 Tryz.underlying25 Tryz.underlying4 iF Ae Js FD wu uX G5 vO lS KG Tryz.results21
set_option maxRecDepth 100000 in
set_option maxHeartbeats 8000000 in
open z21 in
theorem Ku (a b:List yX) (ha:ZJ a) (hb:ZJ b) (hn:a.length≤4000000) (hn2:b.length≤4000000):AC Tryz.prog 21 [.c (.d (.ps 5 (a.map dX))), .c (.d (.ps 5 (b.map dX)))] [] (fun r st=>r=B (decide (a=b))∧st=[]):=by
 refine dI Tryz.func21 Tryz.ntmps21 fun x hx=>?_
 try refine nv ?_
 refine aU ?_ ?_
 ·intro h
  have hne:¬a=b:=by
   rintro rfl
   simp at h
  try refine nv ?_
  refine rA [] ?_
  refine⟨?_,rfl⟩
  rw[aaE hne]
 intro h
 have hl:a.length=b.length:=by have:(a.length:Int)=b.length:=(by simpa using h);omega
 clear h
 try refine nv ?_
 refine aW (ι:=Nat) (I:=fun k=>⟨50,[(1, .c (.d (.ps 5 (b.map dX)))),(12, .c (.d (.ps 5 (a.map dX)))),(13,I .i64 a.length),(14,I .i64 k)],[]⟩)
  (Inv:=fun k=>k≤a.length∧∀i,i<k→a[i]? =b[i]?) (μ:=fun k=>a.length-k) 0 ⟨by omega,by omega⟩ ?_ ?_
 ·exact fM
 rintro k ⟨hk,hall⟩
 try refine nv ?_
 refine aU ?_ ?_
 rotate_left
 ·intro hge
  have hk':k=a.length:=by have:¬k<a.length:=(by simpa using hge);omega
  subst hk'
  obtain rfl:=J5 hl hall
  try refine nv ?_
  refine rA [] ?_
  refine⟨?_,rfl⟩
  simp
 intro hlt
 have hlt':k<a.length:=by simpa using hlt
 obtain⟨v,hv,he,_⟩:=round dX a k Rn hlt'
 obtain⟨u,hu,he2,_⟩:=round dX b k Rn (by omega)
 obtain⟨v1,v2⟩:=ha v (aah hv)
 obtain⟨u1,u2⟩:=hb u (aah hu)
 have c1:=oq v.left u.left v1 u1
 have c2:=oq v.right u.right v2 u2
 try refine nx @he ?_
 refine dx ([(35,B (decide (v.left=u.left))),(46,B (decide (v.right=u.right)))]) @he2 ?_ ?_
 ·exact Xg @c1 @c2
 try refine nv ?_
 refine aU ?_ ?_
 ·intro h
  have hne2:¬a=b:=by
   rintro rfl
   rw[hv] at hu;cases hu
   simp at h
  try refine nv ?_
  refine rA [] ?_
  refine⟨?_,rfl⟩
  rw[aaE hne2]
 intro h
 have he:v=u:=by
  obtain⟨x1,x2,x3⟩:=v
  obtain⟨y1,y2,y3⟩:=u
  simp only at h
  by_cases e1:x1=y1
  ·by_cases e2:x2=y2
   ·by_cases e3:x3=y3
    ·rw[e1,e2,e3]
    ·simp[e1,e2,e3] at h
   ·simp[e1,e2] at h
  ·simp[e1] at h
 subst he
 try refine nv ?_
 refine⟨k+1,⟨by omega,upto_succ hall hv hu⟩,by omega,?_⟩
 exact fM
def z22.kk:=p16 kB kG Tryz.ntmps22 Tryz.underlying26 Tryz.underlying27 Bq BL Ir Ia XX XI FX FP Ll KR Tryz.results22
set_option maxRecDepth 100000 in
set_option maxHeartbeats 8000000 in
open z22 in
theorem PL (a b:List mV) (c d:List iI) (hn:a.length≤4000000) (hn2:b.length≤4000000) (hn3:c.length≤4000000) (hn4:d.length≤4000000):
 AC Tryz.prog 22 [.c (.d (.ps 12 (a.map eu))), .c (.d (.ps 12 (b.map eu))), .c (.d (.ps 6 (c.map dM))), .c (.d (.ps 6 (d.map dM)))] [] (fun r st=>r=B (decide (a=b)&&decide (c=d))∧st=[]):=by
 refine dI Tryz.func22 Tryz.ntmps22 fun x hx=>?_
 try refine nv ?_
 refine aU ?_ ?_
 ·intro h
  have hne:(decide (a=b)&&decide (c=d))=false:=by
   rw[Bool.and_eq_false_iff,aaN,aaN]
   by_cases e1:a=b
   ·by_cases e2:c=d
    ·subst e1;subst e2;simp at h
    ·exact .inr e2
   ·exact .inl e1
  try refine nv ?_
  refine rA [] ?_
  refine⟨?_,rfl⟩
  rw[hne]
 intro h
 obtain⟨hl,hl2⟩:a.length=b.length∧c.length=d.length:=by
  by_cases e1:a.length=b.length
  ·by_cases e2:c.length=d.length
   ·exact⟨e1,e2⟩
   ·have e2':¬((c.length:Int)=d.length):=by omega
    simp[e1,e2'] at h
  ·have e1':¬((a.length:Int)=b.length):=by omega
   simp[e1'] at h
 clear h
 try refine nv ?_
 refine aW (ι:=Nat) (I:=fun k=>⟨53,[(0, .c (.d (.ps 12 (a.map eu)))),(1, .c (.d (.ps 12 (b.map eu)))),(2, .c (.d (.ps 6 (c.map dM)))),(3, .c (.d (.ps 6 (d.map dM)))),(24,I .i64 a.length),(25,I .i64 k)],[]⟩)
  (Inv:=fun k=>k≤a.length∧∀i,i<k→a[i]? =b[i]?) (μ:=fun k=>a.length-k) 0 ⟨by omega,by omega⟩ ?_ ?_
 ·exact fM
 rintro k ⟨hk,hall⟩
 try refine nv ?_
 refine aU ?_ ?_
 ·intro hlt
  have hlt':k<a.length:=by simpa using hlt
  obtain⟨v,hv,he,_⟩:=round eu a k dP hlt'
  obtain⟨u,hu,he2,_⟩:=round eu b k dP (by omega)
  try refine nv ?_
  refine dx ([]) (p2 @he @he2) ?_ ?_
  ·exact Ub
  try refine nv ?_
  refine aU ?_ ?_
  ·intro h
   have hne2:¬a=b:=by
    rintro rfl
    rw[hv] at hu;cases hu
    simp at h
   try refine nv ?_
   refine rA [] ?_
   refine⟨?_,rfl⟩
   simp[hne2]
  intro h
  have he:v=u:=by
   obtain⟨x1,x2,x3,x4,x5,x6,x7,x8,x9,x10,x11,x12⟩:=v
   obtain⟨y1,y2,y3,y4,y5,y6,y7,y8,y9,y10,y11,y12⟩:=u
   simp at h
   simp[h]
  subst he
  try refine nv ?_
  refine⟨k+1,⟨by omega,upto_succ hall hv hu⟩,by omega,?_⟩
  exact fM
 intro hge
 have hk':k=a.length:=by have:¬k<a.length:=(by simpa using hge);omega
 subst hk'
 obtain rfl:=J5 hl hall
 clear hall hge hk
 try refine nv ?_
 refine aW (ι:=Nat) (I:=fun k=>⟨53,[(2, .c (.d (.ps 6 (c.map dM)))),(3, .c (.d (.ps 6 (d.map dM)))),(39,I .i64 c.length),(40,I .i64 k)],[]⟩)
  (Inv:=fun k=>k≤c.length∧∀i,i<k→c[i]? =d[i]?) (μ:=fun k=>c.length-k) 0 ⟨by omega,by omega⟩ ?_ ?_
 ·exact fM
 rintro k ⟨hk,hall⟩
 try refine nv ?_
 refine aU ?_ ?_
 ·intro hlt
  have hlt':k<c.length:=by simpa using hlt
  obtain⟨v,hv,he,_⟩:=round dM c k vT hlt'
  obtain⟨u,hu,he2,_⟩:=round dM d k vT (by omega)
  try refine nv ?_
  refine dx ([]) (p2 @he @he2) ?_ ?_
  ·exact Ub
  try refine nv ?_
  refine aU ?_ ?_
  ·intro h
   have hne2:¬c=d:=by
    rintro rfl
    rw[hv] at hu;cases hu
    simp at h
   try refine nv ?_
   refine rA [] ?_
   refine⟨?_,rfl⟩
   simp[hne2]
  intro h
  have he:v=u:=by
   obtain⟨x1,x2,x3,x4,x5,x6⟩:=v
   obtain⟨y1,y2,y3,y4,y5,y6⟩:=u
   simp at h
   simp[h]
  subst he
  try refine nv ?_
  refine⟨k+1,⟨by omega,upto_succ hall hv hu⟩,by omega,?_⟩
  exact fM
 intro hge
 have hk':k=c.length:=by have:¬k<c.length:=(by simpa using hge);omega
 subst hk'
 obtain rfl:=J5 hl2 hall
 try refine nv ?_
 refine rA [] ?_
 refine⟨?_,rfl⟩
 simp
end Go.Proofs.YtpoodoknkbojgaaGreatDoor
