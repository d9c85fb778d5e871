/- A part of the proof. -/
import Derived.Test.YtpoodoknkbojgaaGreatDoorRP26
import Derived.Test.YtpoodoknkbojgaaGreatDoorRX2
set_option linter.all false
namespace Go.Proofs.YtpoodoknkbojgaaGreatDoor
open Go.Ab Tys
variable [Dr]
theorem Oh {s:abW}:hasPrefix s Es=true↔1≤s.size∧byteAt s 0=42:=by
 have e1:Es.size=1:=rfl
 simp only[hasPrefix,aaj,aae,e1]
 constructor
 ·rintro⟨h1,h2⟩
  refine⟨h1,?_⟩
  rw[←ut (n:=1) (by omega) h1,h2]
  rfl
 ·rintro⟨h1,h2⟩
  refine⟨h1,?_⟩
  apply ByteArray.ext
  simp only[Es,abz]
  have hsz:0<s.data.size:=h1
  apply Array.ext
  ·simp;omega
  ·intro i h3 h4
   have:i=0:=by simp at h4;omega
   subst this
   simp only[byteAt,aaF,aa8 hsz] at h2
   have h2':s.data[0].toNat=42:=by
    have h1:((s.data[0].toNat:Nat):Int)=42:=by simpa using h2
    omega
   simp only[Array.getElem_extract,abt,List.getElem_toArray,List.getElem_cons_zero]
   exact UInt8.toNat_inj.1 h2'
theorem Eg {s:abW}:dJ s=(hasPrefix s Es&&(List.range s.size).all fun k=>decide (k=0)||okB (byteAt s k)):=by
 unfold dJ
 congr 1
 rw[abk,Oh]
 simp only[aar,abm,aaN,Bool.not_eq_false',aae]
 constructor
 ·rintro⟨h1,h2⟩;exact⟨iR h1,h2⟩
 ·rintro⟨h1,h2⟩
  refine⟨?_,h2⟩
  rintro rfl
  simp[ByteArray.size] at h1
def wC (s:abW):Int:=if comp s then 1 else if dJ s then 2 else 0
def YI.kk:=p5 kB Tryz.ntmps258 Tryz.underlying9 sQ Tryz.results258
set_option maxRecDepth 100000 in
set_option maxHeartbeats 4000000 in
open YI in
theorem JS (s:abW) (hs:s.size≤4000000):AC Tryz.prog 258 [Str s] [] (fun r st=>r=I .i64 (wC s)∧st=[]):=by
 have hc:=DI s hs
 have hp:=Gu s Es
 refine dI Tryz.func258 Tryz.ntmps258 fun x hx=>?_
 (repeat (first|refine nv ?_|refine cf (hc) ?_))
 refine aU ?_ ?_
 ·intro h
  try refine nv ?_
  refine rA [] ?_
  refine⟨?_,rfl⟩
  rw[wC,if_pos h]
 intro h
 have hn:¬comp s=true:=by rw[h];simp
 (repeat (first|refine nv ?_|refine cf (hp) ?_))
 refine aU ?_ ?_
 ·intro h2
  have h3:dJ s=false:=by rw[Eg];simp at h2;rw[h2];rfl
  try refine nv ?_
  refine rA [] ?_
  refine⟨?_,rfl⟩
  rw[wC,if_neg hn,if_neg (by rw[h3];simp)]
 intro h2
 have h2':hasPrefix s Es=true:=by simpa using h2
 have h1:=(Oh.1 h2').1
 try refine nv ?_
 refine aW (ι:=Nat) (I:=fun k=>⟨22,[(0,Str s),(3,I .i64 k)],[]⟩) (Inv:=fun k=>1≤k∧k≤s.size∧∀j,1≤j→j<k→okB (byteAt s j)=true) (μ:=fun k=>s.size-k) 1 ⟨by omega,by omega,by omega⟩ ?_ ?_
 ·exact fM
 rintro k ⟨hk1,hk,hall⟩
 try refine nv ?_
 refine aU ?_ ?_
 ·intro hlt
  have hlt':k<s.size:=by simpa using hlt
  have hb0:=uu hlt'
  (repeat (first|refine nv ?_|refine cf (D9 (byteAt s k) (by simp[byteAt]) (by simp only[byteAt];have:=(s.data.getD k 0).toNat_lt;omega)) ?_))
  refine aU ?_ ?_
  ·intro hb
   have hb':okB (byteAt s k)=false:=by simpa using hb
   have h3:=yR hk1 hlt' hb'
   try refine nv ?_
   refine rA [] ?_
   refine⟨?_,rfl⟩
   rw[wC,if_neg hn,if_neg (by rw[h3];simp)]
  ·intro hb
   try refine nv ?_
   refine⟨k+1,⟨by omega,by omega,?_⟩,by omega,?_⟩
   ·intro j j1 hj
    rcases aba.1 hj with hj|rfl
    ·exact hall j j1 hj
    ·simpa using hb
   ·exact fM
 intro hge
 have hk':k=s.size:=by have:¬k<s.size:=by simpa using hge
                       omega
 have h3:dJ s=true:=by
  rw[Eg,h2',abg,aaC]
  intro j hj
  have hj:=aa3.1 hj
  by_cases e:j=0
  ·simp[e]
  ·simp[hall j (by omega) (by omega)]
 try refine nv ?_
 refine rA [] ?_
 refine⟨?_,rfl⟩
 rw[wC,if_neg hn,if_pos h3]
def VQ (ps:List abW) (j:Nat):Bool:=if j=0 then comp (ps.getD 0 noS) else iY (ps.getD j noS)
theorem Sr {ps:List abW} {j:Nat}:VQ ps j=(!decide (wC (ps.getD j noS)=0)&&!(decide (wC (ps.getD j noS)=2)&&decide (j=0))):=by
 unfold VQ wC iY
 by_cases e:j=0
 ·subst e
  cases h:comp (ps.getD 0 noS) with
  |true=>simp
  |false=>cases h2:dJ (ps.getD 0 noS)<;>simp
 ·rw[if_neg e]
  cases h:comp (ps.getD j noS) with
  |true=>simp[e]
  |false=>cases h2:dJ (ps.getD j noS)<;>simp[e]
theorem Af {ps:List abW} {rs:Bool} {j:Nat} (hj:j<ps.length) (h:VQ ps j=false):dR ⟨ps,rs⟩=30:=by
 unfold dR
 split
 ·rfl
 rename_i hc
 simp only[not_or] at hc
 unfold VQ at h
 by_cases e:j=0
 ·rw[if_pos e] at h;exact absurd h hc.2.2
 ·rw[if_neg e] at h
  rw[if_neg]
  intro ha
  rw[aaC] at ha
  have hm:ps.getD j noS∈ps.drop 1:=by
   rw[aam,aab hj,Option.getD_some,aaL]
   exact⟨j-1,by simp;omega,by simp[show j-1+1=j by omega]⟩
  rw[ha _ hm] at h;cases h
theorem Io {ps:List abW} {rs:Bool} (h0:¬(ps.length=0∨(ps.length=1∧rs=false))) (h:∀j,j<ps.length→VQ ps j=true):dR ⟨ps,rs⟩=if 12<ps.length then 31 else 0:=by
 simp only[not_or] at h0
 have hz:comp (ps.getD 0 noS)=true:=by have:=h 0 (by omega);simpa[VQ] using this
 unfold dR
 rw[if_neg,if_pos]
 ·rw[aaC]
  intro x hx
  obtain⟨i,hi,rfl⟩:=aaL.1 hx
  simp only[aaQ] at hi
  have:=h (i+1) (by omega)
  simp only[VQ,show ¬i+1=0 by omega,if_false] at this
  rw[aam,aab (by omega)] at this
  simpa[List.getElem_drop,Nat.add_comm] using this
 ·simp only[not_or]
  exact⟨h0.1,h0.2,by rw[hz];simp⟩
def Zk.kk:=p13 kB kG Tryz.ntmps214 Tryz.underlying53 iF uA jF oJ vO CO lS sQ Tryz.results214
set_option maxRecDepth 100000 in
set_option maxHeartbeats 4000000 in
open Zk in
theorem BD (p:fZ) (hp:PB 4000000 p):AC Tryz.prog 214 [aPat p] [] (fun r st=>r=I .i64 (dR p)∧st=[]):=by
 obtain⟨ps,rs⟩:=p
 have h1:=hp.1
 simp only at h1
 refine dI Tryz.func214 Tryz.ntmps214 fun x hx=>?_
 try refine nv ?_
 refine aU ?_ ?_
 ·intro h
  have h':ps.length=0∨(ps.length=1∧rs=false):=by
   by_cases e:ps.length=0
   ·exact .inl e
   have e':decide ((ps.length:Int)=0)=false:=aaE (by omega)
   simp only[e',cond_false] at h
   by_cases e1:ps.length=1
   ·cases rs
    ·exact .inr ⟨e1,rfl⟩
    ·simp at h
   ·have e2:decide ((ps.length:Int)=1)=false:=aaE (by omega)
    simp only[e2,cond_false] at h;cases h
  try refine nv ?_
  refine rA [] ?_
  refine⟨?_,rfl⟩
  unfold dR
  rw[if_pos (by rcases h' with h|h;exact .inl h;exact .inr (.inl h))]
 intro h
 have h':¬(ps.length=0∨(ps.length=1∧rs=false)):=by
  by_cases e:ps.length=0
  ·have e':decide ((ps.length:Int)=0)=true:=aaV (by omega)
   simp only[e',cond_true] at h;cases h
  rintro(h9|⟨h9,rfl⟩)
  ·exact e h9
  have e':decide ((ps.length:Int)=0)=false:=aaE (by omega)
  have e2:decide ((ps.length:Int)=1)=true:=aaV (by omega)
  simp only[e',e2,cond_false,cond_true,abC] at h;cases h
 try refine nv ?_
 refine aW (ι:=Nat) (I:=fun k=>⟨41,[(1, .c (.ptr 1 0)),(21,yw ps),(22,I .i64 ps.length),(23,I .i64 k)],[(1, .box ((iG ⟨ps,rs⟩).map C.d))]⟩)
  (Inv:=fun k=>k≤ps.length∧∀j,j<k→VQ ps j=true) (μ:=fun k=>ps.length-k) 0 ⟨by omega,by omega⟩ ?_ ?_
 ·exact fM
 rintro k ⟨hk,hall⟩
 try refine nv ?_
 refine aU ?_ ?_
 ·intro hlt
  have hlt':k<ps.length:=by simpa using hlt
  obtain⟨v,hv,he,htk⟩:=round encS ps k noS hlt'
  have hvs:v.size≤4000000:=hp.2 v (aah hv)
  have hgv:ps.getD k noS=v:=by rw[aam,hv];rfl
  have hgd:=Sr (ps:=ps) (j:=k)
  rw[hgv] at hgd
  have hfo:=JS v hvs
  generalize wC v=f at hgd hfo
  (repeat (first|refine nx @he ?_|refine cf (hfo) ?_))
  refine aU ?_ ?_
  ·intro h0
   have h0':f=0:=by simpa using h0
   try refine nv ?_
   refine rA [] ?_
   refine⟨?_,rfl⟩
   rw[Af hlt' (by rw[hgd,h0'];rfl)]
  intro h0
  have h0':¬f=0:=by simpa using h0
  try refine nv ?_
  refine aU ?_ ?_
  ·intro h2
   have h2':f=2:=by simpa using h2
   try refine nv ?_
   refine aU ?_ ?_
   ·intro hz
    have hz':k=0:=by have:(k:Int)=0:=by simpa using hz
                     omega
    try refine nv ?_
    refine rA [] ?_
    refine⟨?_,rfl⟩
    rw[Af hlt' (by rw[hgd,h2',hz'];rfl)]
   intro hz
   have hz':¬k=0:=by have:¬(k:Int)=0:=by simpa using hz
                     omega
   try refine nv ?_
   refine⟨k+1,⟨by omega,?_⟩,by omega,?_⟩
   ·intro j hj
    rcases aba.1 hj with hj|rfl
    ·exact hall j hj
    ·rw[hgd];simp[h0',hz']
   ·exact fM
  intro h2
  have h2':¬f=2:=by simpa using h2
  try refine nv ?_
  refine⟨k+1,⟨by omega,?_⟩,by omega,?_⟩
  ·intro j hj
   rcases aba.1 hj with hj|rfl
   ·exact hall j hj
   ·rw[hgd];simp[h0',h2']
  ·exact fM
 intro hge
 have hk':k=ps.length:=by have:¬k<ps.length:=by simpa using hge
                          omega
 subst hk'
 have hcg:=Io h' hall
 try refine nv ?_
 refine aU ?_ ?_
 ·intro hm
  have hm':12<ps.length:=by have:=aaG hm
                            omega
  try refine nv ?_
  refine rA [] ?_
  refine⟨?_,rfl⟩
  rw[hcg,if_pos hm']
 ·intro hm
  have hm':¬12<ps.length:=by have:=abJ hm
                             omega
  try refine nv ?_
  refine rA [] ?_
  refine⟨?_,rfl⟩
  rw[hcg,if_neg hm']
end Go.Proofs.YtpoodoknkbojgaaGreatDoor
