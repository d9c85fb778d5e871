/- A part of the proof. -/
import Derived.Test.YtpoodoknkbojgaaGreatDoorRE12
set_option linter.all false
namespace Go.Proofs.YtpoodoknkbojgaaGreatDoor
open Go.Ab Tys
variable [Ez]
theorem FK {α:Type} {a b:List α} (hl:a.length=b.length) (h:∀i,i<a.length→a[i]? =b[i]?):a=b:=by
 apply UV
 intro i
 by_cases hi:i<a.length
 ·exact h i hi
 ·rw[Ut (by omega),Ut (by omega)]
theorem upto_succ {α:Type} {a b:List α} {k:Nat} {v:α} (h:∀i,i<k→a[i]? =b[i]?) (ha:a[k]? =some v) (hb:b[k]? =some v):∀i,i<k+1→a[i]? =b[i]?:=by
 intro i hi
 rcases UI i k with h'|h'
 ·exact h i h'
 ·obtain rfl:i=k:=by omega
  rw[ha,hb]
def Tz (l:List yH):Prop:=∀r∈l,PS r.left∧PS r.right
def z21.kk:=p16 kB kG Tryz.ntmps21 Tryz.underlying25 Tryz.underlying4 jW Ii MI HY Bh Bd IX Gu qP Oa Tryz.results21
set_option maxRecDepth 100000 in
set_option maxHeartbeats 8000000 in
open z21 in
theorem EW (a b:List yH) (ha:Tz a) (hb:Tz b) (hn:a.length≤4000000) (hn2:b.length≤4000000):AC Tryz.prog 21 [.c (.d (.ps 5 (a.map fH))), .c (.d (.ps 5 (b.map fH)))] [] (fun r st=>r=B (decide (a=b))∧st=[]):=by
 refine jH Tryz.func21 Tryz.ntmps21 fun x hx=>?_
 try refine nv ?_
 refine bV ?_ ?_
 ·intro h
  have hne:¬a=b:=by
   rintro rfl
   simp at h
  try refine nv ?_
  refine rA [] ?_
  refine⟨?_,rfl⟩
  rw[UW hne]
 intro h
 have hl:a.length=b.length:=by have:(a.length:Int)=b.length:=(by simpa using h);omega
 clear h
 try refine nv ?_
 refine bP (ι:=Nat) (I:=fun k=>⟨50,[(1, .c (.d (.ps 5 (b.map fH)))),(12, .c (.d (.ps 5 (a.map fH)))),(13,I .i64 a.length),(14,I .i64 k)],[]⟩)
  (Inv:=fun k=>k≤a.length∧∀i,i<k→a[i]? =b[i]?) (μ:=fun k=>a.length-k) 0 ⟨by omega,by omega⟩ ?_ ?_
 ·exact jG
 rintro k ⟨hk,hall⟩
 try refine nv ?_
 refine bV ?_ ?_
 rotate_left
 ·intro hge
  have hk':k=a.length:=by have:¬k<a.length:=(by simpa using hge);omega
  subst hk'
  obtain rfl:=FK hl hall
  try refine nv ?_
  refine rA [] ?_
  refine⟨?_,rfl⟩
  simp
 intro hlt
 have hlt':k<a.length:=by simpa using hlt
 obtain⟨v,hv,he,_⟩:=round fH a k Oj hlt'
 obtain⟨u,hu,he2,_⟩:=round fH b k Oj (by omega)
 obtain⟨v1,v2⟩:=ha v (TZ hv)
 obtain⟨u1,u2⟩:=hb u (TZ hu)
 have c1:=lw v.left u.left v1 u1
 have c2:=lw v.right u.right v2 u2
 try refine nx @he ?_
 refine dx ([(35,B (decide (v.left=u.left))),(46,B (decide (v.right=u.right)))]) @he2 ?_ ?_
 ·exact RU @c1 @c2
 try refine nv ?_
 refine bV ?_ ?_
 ·intro h
  have hne2:¬a=b:=by
   rintro rfl
   rw[hv] at hu;cases hu
   simp at h
  try refine nv ?_
  refine rA [] ?_
  refine⟨?_,rfl⟩
  rw[UW hne2]
 intro h
 have he:v=u:=by
  obtain⟨x1,x2,x3⟩:=v
  obtain⟨y1,y2,y3⟩:=u
  simp only at h
  by_cases e1:x1=y1
  ·by_cases e2:x2=y2
   ·by_cases e3:x3=y3
    ·rw[e1,e2,e3]
    ·simp[e1,e2,e3] at h
   ·simp[e1,e2] at h
  ·simp[e1] at h
 subst he
 try refine nv ?_
 refine⟨k+1,⟨by omega,upto_succ hall hv hu⟩,by omega,?_⟩
 exact jG
def z22.kk:=p16 kB kG Tryz.ntmps22 Tryz.underlying26 Tryz.underlying27 Hr Gp JZ KG Ri QX Ji Jp NV NW Tryz.results22
set_option maxRecDepth 100000 in
set_option maxHeartbeats 8000000 in
open z22 in
theorem Ju (a b:List mg) (c d:List iR) (hn:a.length≤4000000) (hn2:b.length≤4000000) (hn3:c.length≤4000000) (hn4:d.length≤4000000):
 AC Tryz.prog 22 [.c (.d (.ps 12 (a.map fK))), .c (.d (.ps 12 (b.map fK))), .c (.d (.ps 6 (c.map dX))), .c (.d (.ps 6 (d.map dX)))] [] (fun r st=>r=B (decide (a=b)&&decide (c=d))∧st=[]):=by
 refine jH Tryz.func22 Tryz.ntmps22 fun x hx=>?_
 try refine nv ?_
 refine bV ?_ ?_
 ·intro h
  have hne:(decide (a=b)&&decide (c=d))=false:=by
   rw[Bool.and_eq_false_iff,UN,UN]
   by_cases e1:a=b
   ·by_cases e2:c=d
    ·subst e1;subst e2;simp at h
    ·exact .inr e2
   ·exact .inl e1
  try refine nv ?_
  refine rA [] ?_
  refine⟨?_,rfl⟩
  rw[hne]
 intro h
 obtain⟨hl,hl2⟩:a.length=b.length∧c.length=d.length:=by
  by_cases e1:a.length=b.length
  ·by_cases e2:c.length=d.length
   ·exact⟨e1,e2⟩
   ·have e2':¬((c.length:Int)=d.length):=by omega
    simp[e1,e2'] at h
  ·have e1':¬((a.length:Int)=b.length):=by omega
   simp[e1'] at h
 clear h
 try refine nv ?_
 refine bP (ι:=Nat) (I:=fun k=>⟨53,[(0, .c (.d (.ps 12 (a.map fK)))),(1, .c (.d (.ps 12 (b.map fK)))),(2, .c (.d (.ps 6 (c.map dX)))),(3, .c (.d (.ps 6 (d.map dX)))),(24,I .i64 a.length),(25,I .i64 k)],[]⟩)
  (Inv:=fun k=>k≤a.length∧∀i,i<k→a[i]? =b[i]?) (μ:=fun k=>a.length-k) 0 ⟨by omega,by omega⟩ ?_ ?_
 ·exact jG
 rintro k ⟨hk,hall⟩
 try refine nv ?_
 refine bV ?_ ?_
 ·intro hlt
  have hlt':k<a.length:=by simpa using hlt
  obtain⟨v,hv,he,_⟩:=round fK a k dh hlt'
  obtain⟨u,hu,he2,_⟩:=round fK b k dh (by omega)
  try refine nv ?_
  refine dx ([]) (p2 @he @he2) ?_ ?_
  ·exact O1
  try refine nv ?_
  refine bV ?_ ?_
  ·intro h
   have hne2:¬a=b:=by
    rintro rfl
    rw[hv] at hu;cases hu
    simp at h
   try refine nv ?_
   refine rA [] ?_
   refine⟨?_,rfl⟩
   simp[hne2]
  intro h
  have he:v=u:=by
   obtain⟨x1,x2,x3,x4,x5,x6,x7,x8,x9,x10,x11,x12⟩:=v
   obtain⟨y1,y2,y3,y4,y5,y6,y7,y8,y9,y10,y11,y12⟩:=u
   simp at h
   simp[h]
  subst he
  try refine nv ?_
  refine⟨k+1,⟨by omega,upto_succ hall hv hu⟩,by omega,?_⟩
  exact jG
 intro hge
 have hk':k=a.length:=by have:¬k<a.length:=(by simpa using hge);omega
 subst hk'
 obtain rfl:=FK hl hall
 clear hall hge hk
 try refine nv ?_
 refine bP (ι:=Nat) (I:=fun k=>⟨53,[(2, .c (.d (.ps 6 (c.map dX)))),(3, .c (.d (.ps 6 (d.map dX)))),(39,I .i64 c.length),(40,I .i64 k)],[]⟩)
  (Inv:=fun k=>k≤c.length∧∀i,i<k→c[i]? =d[i]?) (μ:=fun k=>c.length-k) 0 ⟨by omega,by omega⟩ ?_ ?_
 ·exact jG
 rintro k ⟨hk,hall⟩
 try refine nv ?_
 refine bV ?_ ?_
 ·intro hlt
  have hlt':k<c.length:=by simpa using hlt
  obtain⟨v,hv,he,_⟩:=round dX c k rM hlt'
  obtain⟨u,hu,he2,_⟩:=round dX d k rM (by omega)
  try refine nv ?_
  refine dx ([]) (p2 @he @he2) ?_ ?_
  ·exact O1
  try refine nv ?_
  refine bV ?_ ?_
  ·intro h
   have hne2:¬c=d:=by
    rintro rfl
    rw[hv] at hu;cases hu
    simp at h
   try refine nv ?_
   refine rA [] ?_
   refine⟨?_,rfl⟩
   simp[hne2]
  intro h
  have he:v=u:=by
   obtain⟨x1,x2,x3,x4,x5,x6⟩:=v
   obtain⟨y1,y2,y3,y4,y5,y6⟩:=u
   simp at h
   simp[h]
  subst he
  try refine nv ?_
  refine⟨k+1,⟨by omega,upto_succ hall hv hu⟩,by omega,?_⟩
  exact jG
 intro hge
 have hk':k=c.length:=by have:¬k<c.length:=(by simpa using hge);omega
 subst hk'
 obtain rfl:=FK hl2 hall
 try refine nv ?_
 refine rA [] ?_
 refine⟨?_,rfl⟩
 simp
end Go.Proofs.YtpoodoknkbojgaaGreatDoor
