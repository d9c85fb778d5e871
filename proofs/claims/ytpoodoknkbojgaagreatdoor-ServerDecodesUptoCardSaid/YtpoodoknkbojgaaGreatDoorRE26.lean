/- A part of the proof. -/
import Derived.Test.YtpoodoknkbojgaaGreatDoorRE25
import Derived.Test.YtpoodoknkbojgaaGreatDoorRE8
set_option linter.all false
namespace Go.Proofs.YtpoodoknkbojgaaGreatDoor
open Go.Ab Tys
variable [wJ]
@[reducible] def XL (c:cO):Bool×List C:=(true,(dZ c).map C.d)
def z25.kk:=ZO kB kG Tryz.ntmps25 Tryz.underlying33 lK jJ rF kL jG pg oh vO Jp tC Tryz.results25
set_option maxRecDepth 100000 in
set_option maxHeartbeats 8000000 in
open z25 in
theorem Qp (l:List UInt8) (s:Ds):AC Tryz.prog 25 [.c (.ptr 3000 0)] (bH l s) (fun r st=>r=B (!s.2&&decide (s.1=l.length))∧st=bH l s):=by
 obtain⟨p,b⟩:=s
 simp only
 refine dI Tryz.func25 Tryz.ntmps25 fun x hx=>?_
 refine jk ?_
 refine gg ?_
 refine jk ?_
 refine dr ([]) ?_ ?_
 ·exact Ub
 try refine nv ?_
 refine rA ((bH l (p,b))) ?_
 refine⟨?_,rfl⟩
 cases b
 ·have e:decide ((p:Int)=(l.length:Int))=decide (p=l.length):=abO.2 (by omega)
  simp[e]
 ·simp
def Dz (l:List UInt8) (fs:List Nat) (u:cO×Ds) (k:Nat):cO×Ds:=A7 l (fs.take k) u
theorem Q3 {l:List UInt8} {fs:List Nat} {u:cO×Ds}:Dz l fs u 0=u:=by simp[Dz,A7]
theorem Uw {l:List UInt8} {fs:List Nat} {u:cO×Ds}:Dz l fs u fs.length=A7 l fs u:=by simp[Dz]
theorem TF {l:List UInt8} {fs:List Nat} {u:cO×Ds} {k v:Nat} (h:fs[k]? =some v):Dz l fs u (k+1)=fD v l (Dz l fs u k).1 (Dz l fs u k).2:=by
 unfold Dz
 rw[abM,h]
 simp only[A7,Option.toList_some,abT]
 rfl
theorem yE {x:X} {s s':S} {Q:S→Prop} (h:mZ x s s') (h2:∃s1,mZ x s' s1∧Q s1):∃s1,mZ x s s1∧Q s1:=
 let⟨s1,h3,h4⟩:=h2;⟨s1,h.trans h3,h4⟩
@[reducible] def Xn:List C:=[.d (.v (.int .i64 0)), .d (.v (.string ByteArray.empty)), .d (.v (.string ByteArray.empty)), .d (.v (.string ByteArray.empty)), .d (.v (.int .i64 0)), .d (.v (.int .i64 0)), .d (.v (.int .i64 0)), .d (.v (.string ByteArray.empty)), .d (.v (.string ByteArray.empty)), .d (.v (.string ByteArray.empty)), .d (.v (.slice none 0 0)), .d (.v (.slice none 0 0)), .d (.v (.slice none 0 0)), .d (.v (.slice none 0 0))]
@[reducible] def Zc (k:Int):List C:=[.d (.v (.int .i64 k)), .d (.v (.string ByteArray.empty)), .d (.v (.string ByteArray.empty)), .d (.v (.string ByteArray.empty)), .d (.v (.int .i64 0)), .d (.v (.int .i64 0)), .d (.v (.int .i64 0)), .d (.v (.string ByteArray.empty)), .d (.v (.string ByteArray.empty)), .d (.v (.string ByteArray.empty)), .d (.ps 5 []), .d (.ps 5 []), .d (.ps 12 []), .d (.ps 6 [])]
def z11.kk:=p2 (p12 kB kG kS kM Tryz.ntmps11 Tryz.underlying78 qI Rq lK Rf wz Gz) (p11 rF WL Tj BI pg oh Xe Wy WR tC Tryz.results11)
set_option maxRecDepth 100000 in
set_option maxHeartbeats 16000000 in
open z11 in
theorem Em (l:List UInt8) (hl:l.length≤1000000000):AC Tryz.prog 11 [.c (.d (.ps 1 (l.map bU)))] [] (fun r st=>r=(match LP l with|none=> .tup [XL df,pI 218]|some d=> .tup [XL d,pI 0])∧st=[]):=by
 have hk:=IE
 have hi:=fB l hl (0,false) (aaA _)
 have hi0:=bW.le l (0,false) (aaA _)
 unfold LP Je
 generalize iD l (0,false)=u at hi hi0⊢
 obtain⟨k,s0⟩:=u
 simp only at hi hi0⊢
 have hlk:=QK k
 have hkf:=MH k
 refine dI Tryz.func11 Tryz.ntmps11 fun x hx=>?_
 refine bZ ?_
 try refine nv ?_
 refine dm (s':=⟨46,[(2, .c (.ptr 2 0)),(4, .c (.ptr 3000 0)),(13, .c (.ptr 3000 0))],[(2, .box Xn),(3000,oW l 0 false)]⟩) ?_ ?_
 ·exact Ro (fun i=>if i=3000 then 12 else i)
 refine dh ((bH l (0,false))) (hi) ?_
 rintro rv9 st' ⟨rfl,rfl⟩<;>refine di ?_
 try refine nv ?_
 refine lY (aT 5 (bid:=5) (j:=10) rfl rfl) ?_
 refine dQ ?_
 refine lY (aT 5 (bid:=5) (j:=11) rfl rfl) ?_
 refine dQ ?_
 refine lY (aT 12 (bid:=5) (j:=12) rfl rfl) ?_
 refine dQ ?_
 refine lY (aT 6 (bid:=5) (j:=13) rfl rfl) ?_
 refine dQ ?_
 refine lY (s':=⟨46,[(2, .c (.ptr 2 0)),(4, .c (.ptr 3000 0)),(5, .c (.ptr 4000 0))],[(2, .box Xn),(3000,oW l s0.1 s0.2),(4000, .box (Zc k))]⟩) ?_ ?_
 ·exact Ro (fun i=>if i=4000 then 5 else i)
 cases ha:bY iW k with
 |none=>
  rw[ha] at hlk hkf
  simp only[Option.map_none] at hkf
  rw[hkf]
  simp only[Option.isSome_none,aak,false_and,if_false]
  refine jk ?_
  refine Xo (wr:=false) ([(16, .c (.d (.pm (zn kN OL iW))))]:List (Nat×AV)) (by simp only[kD,kk,Nat.reduceAdd,Nat.reduceLT,Nat.reduceEqDiff, ↓reduceIte,reduceCtorEq,hlk,Option.map_none,Option.getD,Option.isSome];first|done|rfl) ?_ ?_
  ·exact Xg @hk @OE
  try refine nv ?_
  try simp only[kP]
  refine aW (ι:=Unit) (I:=fun _=>⟨46,[(2, .c (.ptr 2 0)),(4, .c (.ptr 3000 0)),(5, .c (.ptr 4000 0)),(21,I .i64 0),(22,I .i64 0)],[(2, .box Xn),(3000,oW l s0.1 s0.2),(4000, .box (Zc k))]⟩) (Inv:=fun _=>True) (μ:=fun _=>0) () trivial ?_ ?_
  ·exact fM
  rintro⟨⟩ _
  try refine nv ?_
  refine aU ?_ ?_
  ·intro h;cases h
  intro _
  refine jk ?_
  refine Xo (wr:=false) ([(31, .c (.d (.pm (zn kN OL iW))))]:List (Nat×AV)) (by simp only[kD,kk,Nat.reduceAdd,Nat.reduceLT,Nat.reduceEqDiff, ↓reduceIte,reduceCtorEq,hlk,Option.map_none,Option.getD,Option.isSome];first|done|rfl) ?_ ?_
  ·exact Xg @hk @OE
  try refine nv ?_
  refine Jl (wr:=false) [(41,B true)] rfl (by simp only[kD,kk,Nat.reduceAdd,Nat.reduceLT,Nat.reduceEqDiff, ↓reduceIte,reduceCtorEq];first|done|rfl) ?_ ?_
  ·exact⟨fun h=>h.elim,trivial⟩
  simp only[kP,Nat.reduceEqDiff, ↓reduceIte,reduceCtorEq]
  try refine nv ?_
  refine aU ?_ ?_
  rotate_left
  ·intro h;simp at h
  intro _
  try refine nv ?_
  refine yE (aT 5 (bid:=2) (j:=10) rfl rfl) ?_
  refine dQ ?_
  refine yE (aT 5 (bid:=2) (j:=11) rfl rfl) ?_
  refine dQ ?_
  refine yE (aT 12 (bid:=2) (j:=12) rfl rfl) ?_
  refine dQ ?_
  refine yE (aT 6 (bid:=2) (j:=13) rfl rfl) ?_
  refine dQ ?_
  refine⟨_,mZ.refl _ _,?_⟩
  refine rA [] ?_
  refine⟨?_,rfl⟩
  rfl
 |some pf=>
  obtain⟨fs,fn⟩:=pf
  rw[ha] at hlk hkf
  simp only[Option.map_some] at hkf
  rw[hkf]
  simp only[Option.getD_some,Option.isSome_some,aaS]
  obtain⟨hf1,hf2⟩:=Jn ha
  rw[←Uw]
  have hle:∀j,(Dz l fs (kz k,s0) j).2.1≤l.length:=fun j=>Qy l _ _ hi0
  have hkd:∀j,(Dz l fs (kz k,s0) j).1.kind=k:=fun j=>Bi l _ _
  have hw0:Dz l fs (kz k,s0) 0=(kz k,s0):=Q3
  refine jk ?_
  refine Xo (wr:=false) ([(16, .c (.d (.pm (zn kN OL iW))))]:List (Nat×AV)) (by simp only[kD,kk,Nat.reduceAdd,Nat.reduceLT,Nat.reduceEqDiff, ↓reduceIte,reduceCtorEq,hlk,Option.map_some,Option.getD,Option.isSome];first|done|rfl) ?_ ?_
  ·exact Xg @hk @OE
  try refine nv ?_
  try simp only[kP]
  refine aW (ι:=Nat) (I:=fun j=>⟨46,[(2, .c (.ptr 2 0)),(4, .c (.ptr 3000 0)),(5, .c (.ptr 4000 0)),(20, .c (.d (.ps 1 (fs.map Ig)))),(21,I .i64 fs.length),(22,I .i64 j)],[(2, .box Xn),(3000,oW l (Dz l fs (kz k,s0) j).2.1 (Dz l fs (kz k,s0) j).2.2),(4000, .box ((dZ (Dz l fs (kz k,s0) j).1).map C.d))]⟩)
   (Inv:=fun j=>j≤fs.length) (μ:=fun j=>fs.length-j) 0 (by omega) ?_ ?_
  ·refine(show mZ x _ ⟨46,[(2, .c (.ptr 2 0)),(4, .c (.ptr 3000 0)),(5, .c (.ptr 4000 0)),(20, .c (.d (.ps 1 (fs.map Ig)))),(21,I .i64 fs.length),(22,I .i64 0)],[(2, .box Xn),(3000,oW l s0.1 s0.2),(4000, .box (Zc k))]⟩ by exact fM).trans ?_
   rw[hw0]
   exact mZ.refl _ _
  intro j hj
  try refine nv ?_
  refine aU ?_ ?_
  ·intro hlt
   have hlt':j<fs.length:=by simpa using hlt
   obtain⟨v,hv,he,htk⟩:=round Ig fs j 0 hlt'
   have hv10:=hf2 v (aah hv)
   have hs1:Dz l fs (kz k,s0) (j+1)=fD v l (Dz l fs (kz k,s0) j).1 (Dz l fs (kz k,s0) j).2:=TF hv
   have hc:=OO l hl (Dz l fs (kz k,s0) j).1 (Dz l fs (kz k,s0) j).2 (hle j) v hv10
   rw[←hs1] at hc
   try refine nx @he ?_
   refine dh ((Me l (Dz l fs (kz k,s0) j))) (hc) ?_
   rintro rv9 st' ⟨rfl,rfl⟩<;>refine di ?_
   try refine nv ?_
   refine⟨j+1,by omega,by omega,?_⟩
   exact fM
  ·intro hge
   have hk2:j=fs.length:=by have:¬j<fs.length:=(by simpa using hge);omega
   subst hk2
   have hkd1:=hkd fs.length
   generalize Dz l fs (kz k,s0) fs.length=u at hkd1⊢
   subst hkd1
   obtain⟨c,s1⟩:=u
   have hdn:=Qp l s1
   simp only at hlk⊢
   refine jk ?_
   refine Xo (wr:=false) ([(31, .c (.d (.pm (zn kN OL iW))))]:List (Nat×AV)) (by simp only[kD,kk,Nat.reduceAdd,Nat.reduceLT,Nat.reduceEqDiff, ↓reduceIte,reduceCtorEq,hlk,Option.map_some,Option.getD,Option.isSome];first|done|rfl) ?_ ?_
   ·exact Xg @hk @OE
   try refine nv ?_
   refine Rx (wr:=false) [(41,B (!s1.2&&decide (s1.1=l.length)))] [(41,(bH l s1,none))] rfl (by simp only[nH.eq_def,DC.eq_def,nU.eq_def,Option.getD,kD,kk,Nat.reduceAdd,Nat.reduceLT,Nat.reduceEqDiff, ↓reduceIte,reduceCtorEq];first|done|rfl) ?_ ?_
   ·exact Fa @hdn
   simp only[kP,Nat.reduceEqDiff, ↓reduceIte,reduceCtorEq]
   try refine nv ?_
   refine aU ?_ ?_
   ·intro h
    rw[if_neg (by rintro⟨h1,h2⟩;simp[h1,h2] at h)]
    try refine nv ?_
    refine yE (aT 5 (bid:=2) (j:=10) rfl rfl) ?_
    refine dQ ?_
    refine yE (aT 5 (bid:=2) (j:=11) rfl rfl) ?_
    refine dQ ?_
    refine yE (aT 12 (bid:=2) (j:=12) rfl rfl) ?_
    refine dQ ?_
    refine yE (aT 6 (bid:=2) (j:=13) rfl rfl) ?_
    refine dQ ?_
    refine⟨_,mZ.refl _ _,?_⟩
    refine rA [] ?_
    refine⟨?_,rfl⟩
    rfl
   ·intro h
    have hd:s1.2=false∧s1.1=l.length:=by
     by_cases e:s1.1=l.length
     ·cases e2:s1.2
      ·exact⟨rfl,e⟩
      ·simp[e2] at h
     ·simp[e] at h
    rw[if_pos hd]
    try refine nv ?_
    refine⟨_,mZ.refl _ _,?_⟩
    refine rA [] ?_
    refine⟨?_,rfl⟩
    rfl
end Go.Proofs.YtpoodoknkbojgaaGreatDoor
