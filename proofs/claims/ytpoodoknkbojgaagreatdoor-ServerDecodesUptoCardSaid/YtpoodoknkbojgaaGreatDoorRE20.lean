/- A part of the proof. -/
import Derived.Test.YtpoodoknkbojgaaGreatDoorRE4
import Derived.Test.YtpoodoknkbojgaaGreatDoorRP62
set_option maxRecDepth 100000
set_option maxHeartbeats 8000000
set_option linter.all false
namespace Go.Proofs.YtpoodoknkbojgaaGreatDoor
section
open Go.Ab Tys
variable [wJ]
def z57.kk:=p5 kB Tryz.ntmps57 iF lS Tryz.results57
open z57 in
theorem oq (p q:fZ) (hp:PS p) (hq:PS q):AC Tryz.prog 57 [aPat p,aPat q] [] (fun r st=>r=B (decide (p=q))∧st=[]):=by
 have h:=Rt p q (aav hp.1 (by omega)) (aav hq.1 (by omega))
 refine dI Tryz.func57 Tryz.ntmps57 fun x hx=>?_
 (repeat (first|refine nv ?_|refine cf (h) ?_))
 refine rA [] ?_
 refine⟨?_,rfl⟩
 rfl
def ZL (s:Dx):Prop:=∀x∈s.paths,PS x.path∧PS x.frm
def z20.kk:=p2 (p11 kB kG Tryz.ntmps20 Tryz.underlying22 uJ iF BK Hw ww uT uY) (p10 Fp vJ uU JK Fq pg lS KP sQ Tryz.results20)
open z20 in
theorem JV (a b:Dx) (ha:ZL a) (hb:ZL b) (hn:a.paths.length≤4000000):AC Tryz.prog 20 [UC a,UC b] [] (fun r st=>r=B (decide (a=b))∧st=[]):=by
 obtain⟨an,ap,al⟩:=a
 obtain⟨bn,bp,bl⟩:=b
 simp only at hn
 refine dI Tryz.func20 Tryz.ntmps20 fun x hx=>?_
 try refine nv ?_
 refine aU ?_ ?_
 ·intro h
  have hne:¬((⟨an,ap,al⟩:Dx)=⟨bn,bp,bl⟩):=by
   intro e
   cases e
   simp at h
  try refine nv ?_
  refine rA [] ?_
  refine⟨?_,rfl⟩
  rw[aaE hne]
 intro h
 obtain⟨e1,e2,e3⟩:an=bn∧ap=bp∧al.length=bl.length:=by
  by_cases e1:an=bn
  ·by_cases e2:ap=bp
   ·by_cases e3:al.length=bl.length
    ·exact⟨e1,e2,e3⟩
    ·have e3':¬((al.length:Int)=bl.length):=by omega
     simp[e1,e2,e3'] at h
   ·simp[e1,e2] at h
  ·simp[e1] at h
 subst e1;subst e2
 clear h
 try refine nv ?_
 refine aW (ι:=Nat) (I:=fun k=>⟨64,[(2, .c (.ptr 2 0)),(3, .c (.ptr 3 0)),(30, .c (.d (.ps 5 (al.map eU)))),(31,I .i64 al.length),(32,I .i64 k)],[(2, .box ((LC ⟨an,ap,al⟩).map C.d)),(3, .box ((LC ⟨an,ap,bl⟩).map C.d))]⟩)
  (Inv:=fun k=>k≤al.length∧∀i,i<k→al[i]? =bl[i]?) (μ:=fun k=>al.length-k) 0 ⟨by omega,by omega⟩ ?_ ?_
 ·exact fM
 rintro k ⟨hk,hall⟩
 try refine nv ?_
 refine aU ?_ ?_
 rotate_left
 ·intro hge
  have hk':k=al.length:=by have:¬k<al.length:=(by simpa using hge);omega
  subst hk'
  have hab:al=bl:=by
   apply aa6
   intro i
   by_cases hi:i<al.length
   ·exact hall i hi
   ·rw[aaB (by omega),aaB (by omega)]
  subst hab
  try refine nv ?_
  refine rA [] ?_
  refine⟨?_,rfl⟩
  simp
 intro hlt
 have hlt':k<al.length:=by simpa using hlt
 obtain⟨v,hv,he,_⟩:=round eU al k ⟨0,jM,jM⟩ hlt'
 obtain⟨u,hu,he2,_⟩:=round eU bl k ⟨0,jM,jM⟩ (by omega)
 obtain⟨v1,v2⟩:=ha v (aah hv)
 obtain⟨u1,u2⟩:=hb u (aah hu)
 have c1:=oq v.path u.path v1 u1
 have c2:=oq v.frm u.frm v2 u2
 try refine nx (p2 @he @he2) ?_
 refine so ([(52,B (decide (v.path=u.path)))]) ?_ ?_
 ·exact Fa @c1
 try refine nv ?_
 refine so ([(60,B (decide (v.frm=u.frm)))]) ?_ ?_
 ·exact Fa @c2
 try refine nv ?_
 refine aU ?_ ?_
 ·intro h
  have hne:¬v=u:=by
   rintro rfl
   simp at h
  have hne2:¬((⟨an,ap,al⟩:Dx)=⟨an,ap,bl⟩):=by
   intro e
   cases e
   rw[hv] at hu;cases hu;exact hne rfl
  try refine nv ?_
  refine rA [] ?_
  refine⟨?_,rfl⟩
  rw[aaE hne2]
 intro h
 have he:v=u:=by
  obtain⟨x1,x2,x3⟩:=v
  obtain⟨y1,y2,y3⟩:=u
  simp only at h
  by_cases e1:x1=y1
  ·by_cases e2:x2=y2
   ·by_cases e3:x3=y3
    ·rw[e1,e2,e3]
    ·simp[e1,e2,e3] at h
   ·simp[e1,e2] at h
  ·simp[e1] at h
 subst he
 try refine nv ?_
 refine⟨k+1,⟨by omega,fun i hi=>?_⟩,by omega,?_⟩
 ·rcases aaT i k with h|h
  ·exact hall i h
  ·obtain rfl:i=k:=by omega
   rw[hv,hu]
 ·exact fM
end
section
open Go.Ab Tys
variable [Dr]
def tE (l:List UInt8) (n:Nat):Int:=match uL (l.drop n) 0 0 with|none=>uE (l.drop n) 0|some q=>if 1024<q.1 then 13 else 11
def UR (l:List UInt8) (n:Nat):List (Bool×List C):=match Wp (l.drop n) with|some q=>[pS q.1,pI ((l.length-q.2.length:Nat):Int),pI 0]|none=>[pS noS,pI 0,pI (tE l n)]
theorem UO {l:List UInt8} {n:Nat} {q:Nat×List UInt8} (h:uL (l.drop n) 0 0=some q):l.drop (l.length-q.2.length)=q.2∧q.2.length≤l.length:=by
 have h1:=Pj (l.drop n)
 rw[h] at h1
 obtain⟨hn,e⟩:=(gV jw).1 h1
 refine⟨jr e,?_⟩
 have:=congrArg List.length e
 rw[aaQ,aan] at this
 omega
theorem XA (l:List UInt8) (n:Nat):tE l n≠0:=by
 unfold tE
 split
 ·rcases I9 (l.drop n) 0 with h|h<;>rw[h]<;>decide
 ·split<;>decide
def ZH.kk:=p13 kB kS Tryz.ntmps121 Tryz.underlying3 Tryz.underlying33 Tryz.underlying45 Tryz.underlying9 jJ pg oh RS Jp Tryz.results121
open ZH in
theorem TT (l:List UInt8) (n:Nat) (hn:n≤l.length) (hl:l.length≤1000000000):AC Tryz.prog 121 [.c (.d (.ps 1 (l.map bU))),I .i64 n,I .i64 1024] [] (fun r st=>r= .tup (UR l n)∧st=[]):=by
 have hu:=FH l n hn hl
 unfold Pv at hu
 unfold UR tE Wp
 have hE:=I9 (l.drop n) 0
 cases e:uL (l.drop n) 0 0 with
 |none=>
  simp only[e,Option.bind_none] at hu⊢
  generalize uE (l.drop n) 0=z at hu hE⊢
  refine dI Tryz.func121 Tryz.ntmps121 fun x hx=>?_
  (repeat (first|refine nv ?_|refine cf (hu) ?_))
  refine aU ?_ ?_
  rotate_left
  ·intro h
   rcases hE with rfl|rfl<;>simp at h
  intro _
  try refine nv ?_
  refine rA [] ?_
  refine⟨?_,rfl⟩
  rfl
 |some q=>
  obtain⟨hv,hq⟩:=VW e
  obtain⟨hdr,hql⟩:=UO e
  simp only[e,Option.bind_some] at hu⊢
  obtain⟨v,r⟩:=q
  simp only at hu hv hdr hql⊢
  obtain⟨p,hp⟩:∃p,p=l.length-r.length:=⟨_,rfl⟩
  have hpl:p+r.length=l.length:=by omega
  rw[←hp] at hu hdr
  refine dI Tryz.func121 Tryz.ntmps121 fun x hx=>?_
  (repeat (first|refine nv ?_|refine cf (hu) ?_))
  refine aU ?_ ?_
  ·intro h;simp at h
  intro _
  try refine nv ?_
  refine aU ?_ ?_
  ·intro h
   have h':1024<v:=by have:max 1024 0<(v:Int):=aaG h;omega
   rw[if_pos (.inl h'),if_pos h']
   try refine nv ?_
   refine rA [] ?_
   refine⟨?_,rfl⟩
   rfl
  intro h
  have h1:¬1024<v:=by have:¬max 1024 0<(v:Int):=abJ h;omega
  try refine nv ?_
  refine aU ?_ ?_
  ·intro h
   have h':r.length<v:=by have:((l.length:Int)-p)<v:=aaG h;omega
   rw[if_pos (.inr h'),if_neg h1]
   try refine nv ?_
   refine rA [] ?_
   refine⟨?_,rfl⟩
   rfl
  intro h
  have h2:¬r.length<v:=by have:¬((l.length:Int)-p)<v:=abJ h;omega
  rw[if_neg (by omega)]
  try refine nv ?_
  refine Iq (str:=⟨⟨r.take v⟩⟩) ?_ (by simp) rfl Tryz.underlying33 Tryz.underlying5 Tryz.underlying9 ?_
  ·rw[show((p:Int)+(v:Int)).toNat=p+v by omega,←List.map_take,←List.map_drop,List.drop_take,hdr,abd]
  refine dQ ?_
  try refine nv ?_
  refine rA [] ?_
  refine⟨?_,rfl⟩
  have:((l.length-(r.drop v).length:Nat):Int)=(p:Int)+v:=by rw[aaQ];omega
  simp only[this]
end
end Go.Proofs.YtpoodoknkbojgaaGreatDoor
