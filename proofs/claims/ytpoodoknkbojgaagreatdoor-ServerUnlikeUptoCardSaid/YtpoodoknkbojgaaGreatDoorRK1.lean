/- A part of the proof. -/
import Derived.Test.YtpoodoknkbojgaaGreatDoorRX2
import Derived.Test.YtpoodoknkbojgaaGreatDoorRU1
set_option linter.all false
namespace Go.Proofs.YtpoodoknkbojgaaGreatDoor
open Go.Ab Tys
variable [Dr]
theorem Ig {s:VJ}:hasPrefix s Aj=true↔1≤s.size∧byteAt s 0=42:=by
 have e1:Aj.size=1:=rfl
 simp only[hasPrefix,Uf,TW,e1]
 constructor
 ·rintro⟨h1,h2⟩
  refine⟨h1,?_⟩
  rw[←pU (n:=1) (by omega) h1,h2]
  rfl
 ·rintro⟨h1,h2⟩
  refine⟨h1,?_⟩
  apply ByteArray.ext
  simp only[Aj,ByteArray.data_extract]
  have hsz:0<s.data.size:=h1
  apply Array.ext
  ·simp;omega
  ·intro i h3 h4
   have:i=0:=by simp at h4;omega
   subst this
   simp only[byteAt,Ux,UY hsz] at h2
   have h2':s.data[0].toNat=42:=by
    have h1:((s.data[0].toNat:Nat):Int)=42:=by simpa using h2
    omega
   simp only[Array.getElem_extract,Vp,List.getElem_toArray,List.getElem_cons_zero]
   exact UInt8.toNat_inj.1 h2'
theorem zq {s:VJ}:dP s=(hasPrefix s Aj&&(List.range s.size).all fun k=>decide (k=0)||okB (byteAt s k)):=by
 unfold dP
 congr 1
 rw[Va,Ig]
 simp only[Uh,Vg,UN,Bool.not_eq_false',TW]
 constructor
 ·rintro⟨h1,h2⟩;exact⟨lM h1,h2⟩
 ·rintro⟨h1,h2⟩
  refine⟨?_,h2⟩
  rintro rfl
  simp[ByteArray.size] at h1
def qG (s:VJ):Int:=if comp s then 1 else if dP s then 2 else 0
def SE.kk:=p5 kB Tryz.ntmps258 Tryz.underlying9 Ej Tryz.results258
set_option maxRecDepth 100000 in
set_option maxHeartbeats 4000000 in
open SE in
theorem F5 (s:VJ) (hs:s.size≤4000000):AC Tryz.prog 258 [Str s] [] (fun r st=>r=I .i64 (qG s)∧st=[]):=by
 have hc:=yF s hs
 have hp:=Bv s Aj
 refine jH Tryz.func258 Tryz.ntmps258 fun x hx=>?_
 (repeat (first|refine nv ?_|refine cf (hc) ?_))
 refine bV ?_ ?_
 ·intro h
  try refine nv ?_
  refine rA [] ?_
  refine⟨?_,rfl⟩
  rw[qG,if_pos h]
 intro h
 have hn:¬comp s=true:=by rw[h];simp
 (repeat (first|refine nv ?_|refine cf (hp) ?_))
 refine bV ?_ ?_
 ·intro h2
  have h3:dP s=false:=by rw[zq];simp at h2;rw[h2];rfl
  try refine nv ?_
  refine rA [] ?_
  refine⟨?_,rfl⟩
  rw[qG,if_neg hn,if_neg (by rw[h3];simp)]
 intro h2
 have h2':hasPrefix s Aj=true:=by simpa using h2
 have h1:=(Ig.1 h2').1
 try refine nv ?_
 refine bP (ι:=Nat) (I:=fun k=>⟨22,[(0,Str s),(3,I .i64 k)],[]⟩) (Inv:=fun k=>1≤k∧k≤s.size∧∀j,1≤j→j<k→okB (byteAt s j)=true) (μ:=fun k=>s.size-k) 1 ⟨by omega,by omega,by omega⟩ ?_ ?_
 ·exact jG
 rintro k ⟨hk1,hk,hall⟩
 try refine nv ?_
 refine bV ?_ ?_
 ·intro hlt
  have hlt':k<s.size:=by simpa using hlt
  have hb0:=pO hlt'
  (repeat (first|refine nv ?_|refine cf (Ak (byteAt s k) (by simp[byteAt]) (by simp only[byteAt];have:=(s.data.getD k 0).toNat_lt;omega)) ?_))
  refine bV ?_ ?_
  ·intro hb
   have hb':okB (byteAt s k)=false:=by simpa using hb
   have h3:=DK hk1 hlt' hb'
   try refine nv ?_
   refine rA [] ?_
   refine⟨?_,rfl⟩
   rw[qG,if_neg hn,if_neg (by rw[h3];simp)]
  ·intro hb
   try refine nv ?_
   refine⟨k+1,⟨by omega,by omega,?_⟩,by omega,?_⟩
   ·intro j j1 hj
    rcases Vh.1 hj with hj|rfl
    ·exact hall j j1 hj
    ·simpa using hb
   ·exact jG
 intro hge
 have hk':k=s.size:=by have:¬k<s.size:=by simpa using hge
                       omega
 have h3:dP s=true:=by
  rw[zq,h2',Vs,UG]
  intro j hj
  have hj:=UZ.1 hj
  by_cases e:j=0
  ·simp[e]
  ·simp[hall j (by omega) (by omega)]
 try refine nv ?_
 refine rA [] ?_
 refine⟨?_,rfl⟩
 rw[qG,if_neg hn,if_pos h3]
def O6 (ps:List VJ) (j:Nat):Bool:=if j=0 then comp (ps.getD 0 noS) else jL (ps.getD j noS)
theorem LC {ps:List VJ} {j:Nat}:O6 ps j=(!decide (qG (ps.getD j noS)=0)&&!(decide (qG (ps.getD j noS)=2)&&decide (j=0))):=by
 unfold O6 qG jL
 by_cases e:j=0
 ·subst e
  cases h:comp (ps.getD 0 noS) with
  |true=>simp
  |false=>cases h2:dP (ps.getD 0 noS)<;>simp
 ·rw[if_neg e]
  cases h:comp (ps.getD j noS) with
  |true=>simp[e]
  |false=>cases h2:dP (ps.getD j noS)<;>simp[e]
theorem wC {ps:List VJ} {rs:Bool} {j:Nat} (hj:j<ps.length) (h:O6 ps j=false):ik ⟨ps,rs⟩=30:=by
 unfold ik
 split
 ·rfl
 rename_i hc
 simp only[not_or] at hc
 unfold O6 at h
 by_cases e:j=0
 ·rw[if_pos e] at h;exact absurd h hc.2.2
 ·rw[if_neg e] at h
  rw[if_neg]
  intro ha
  rw[UG] at ha
  have hm:ps.getD j noS∈ps.drop 1:=by
   rw[Uc,TT hj,Option.getD_some,UA]
   exact⟨j-1,by simp;omega,by simp[show j-1+1=j by omega]⟩
  rw[ha _ hm] at h;cases h
theorem CP {ps:List VJ} {rs:Bool} (h0:¬(ps.length=0∨(ps.length=1∧rs=false))) (h:∀j,j<ps.length→O6 ps j=true):ik ⟨ps,rs⟩=if 12<ps.length then 31 else 0:=by
 simp only[not_or] at h0
 have hz:comp (ps.getD 0 noS)=true:=by have:=h 0 (by omega);simpa[O6] using this
 unfold ik
 rw[if_neg,if_pos]
 ·rw[UG]
  intro x hx
  obtain⟨i,hi,rfl⟩:=UA.1 hx
  simp only[U7] at hi
  have:=h (i+1) (by omega)
  simp only[O6,show ¬i+1=0 by omega,if_false] at this
  rw[Uc,TT (by omega)] at this
  simpa[List.getElem_drop,Nat.add_comm] using this
 ·simp only[not_or]
  exact⟨h0.1,h0.2,by rw[hz];simp⟩
def Td.kk:=p13 kB kG Tryz.ntmps214 Tryz.underlying53 jW zB lI uP Gu FQ qP Ej Tryz.results214
set_option maxRecDepth 100000 in
set_option maxHeartbeats 4000000 in
open Td in
theorem Fb (p:fJ) (hp:PB 4000000 p):AC Tryz.prog 214 [aPat p] [] (fun r st=>r=I .i64 (ik p)∧st=[]):=by
 obtain⟨ps,rs⟩:=p
 have h1:=hp.1
 simp only at h1
 refine jH Tryz.func214 Tryz.ntmps214 fun x hx=>?_
 try refine nv ?_
 refine bV ?_ ?_
 ·intro h
  have h':ps.length=0∨(ps.length=1∧rs=false):=by
   by_cases e:ps.length=0
   ·exact .inl e
   have e':decide ((ps.length:Int)=0)=false:=UW (by omega)
   simp only[e',cond_false] at h
   by_cases e1:ps.length=1
   ·cases rs
    ·exact .inr ⟨e1,rfl⟩
    ·simp at h
   ·have e2:decide ((ps.length:Int)=1)=false:=UW (by omega)
    simp only[e2,cond_false] at h;cases h
  try refine nv ?_
  refine rA [] ?_
  refine⟨?_,rfl⟩
  unfold ik
  rw[if_pos (by rcases h' with h|h;exact .inl h;exact .inr (.inl h))]
 intro h
 have h':¬(ps.length=0∨(ps.length=1∧rs=false)):=by
  by_cases e:ps.length=0
  ·have e':decide ((ps.length:Int)=0)=true:=Vm (by omega)
   simp only[e',cond_true] at h;cases h
  rintro(h9|⟨h9,rfl⟩)
  ·exact e h9
  have e':decide ((ps.length:Int)=0)=false:=UW (by omega)
  have e2:decide ((ps.length:Int)=1)=true:=Vm (by omega)
  simp only[e',e2,cond_false,cond_true,Vz] at h;cases h
 try refine nv ?_
 refine bP (ι:=Nat) (I:=fun k=>⟨41,[(1, .c (.ptr 1 0)),(21,Ec ps),(22,I .i64 ps.length),(23,I .i64 k)],[(1, .box ((kz ⟨ps,rs⟩).map C.d))]⟩)
  (Inv:=fun k=>k≤ps.length∧∀j,j<k→O6 ps j=true) (μ:=fun k=>ps.length-k) 0 ⟨by omega,by omega⟩ ?_ ?_
 ·exact jG
 rintro k ⟨hk,hall⟩
 try refine nv ?_
 refine bV ?_ ?_
 ·intro hlt
  have hlt':k<ps.length:=by simpa using hlt
  obtain⟨v,hv,he,htk⟩:=round encS ps k noS hlt'
  have hvs:v.size≤4000000:=hp.2 v (TZ hv)
  have hgv:ps.getD k noS=v:=by rw[Uc,hv];rfl
  have hgd:=LC (ps:=ps) (j:=k)
  rw[hgv] at hgd
  have hfo:=F5 v hvs
  generalize qG v=f at hgd hfo
  (repeat (first|refine nx @he ?_|refine cf (hfo) ?_))
  refine bV ?_ ?_
  ·intro h0
   have h0':f=0:=by simpa using h0
   try refine nv ?_
   refine rA [] ?_
   refine⟨?_,rfl⟩
   rw[wC hlt' (by rw[hgd,h0'];rfl)]
  intro h0
  have h0':¬f=0:=by simpa using h0
  try refine nv ?_
  refine bV ?_ ?_
  ·intro h2
   have h2':f=2:=by simpa using h2
   try refine nv ?_
   refine bV ?_ ?_
   ·intro hz
    have hz':k=0:=by have:(k:Int)=0:=by simpa using hz
                     omega
    try refine nv ?_
    refine rA [] ?_
    refine⟨?_,rfl⟩
    rw[wC hlt' (by rw[hgd,h2',hz'];rfl)]
   intro hz
   have hz':¬k=0:=by have:¬(k:Int)=0:=by simpa using hz
                     omega
   try refine nv ?_
   refine⟨k+1,⟨by omega,?_⟩,by omega,?_⟩
   ·intro j hj
    rcases Vh.1 hj with hj|rfl
    ·exact hall j hj
    ·rw[hgd];simp[h0',hz']
   ·exact jG
  intro h2
  have h2':¬f=2:=by simpa using h2
  try refine nv ?_
  refine⟨k+1,⟨by omega,?_⟩,by omega,?_⟩
  ·intro j hj
   rcases Vh.1 hj with hj|rfl
   ·exact hall j hj
   ·rw[hgd];simp[h0',h2']
  ·exact jG
 intro hge
 have hk':k=ps.length:=by have:¬k<ps.length:=by simpa using hge
                          omega
 subst hk'
 have hcg:=CP h' hall
 try refine nv ?_
 refine bV ?_ ?_
 ·intro hm
  have hm':12<ps.length:=by have:=UU hm
                            omega
  try refine nv ?_
  refine rA [] ?_
  refine⟨?_,rfl⟩
  rw[hcg,if_pos hm']
 ·intro hm
  have hm':¬12<ps.length:=by have:=of_decide_eq_false hm
                             omega
  try refine nv ?_
  refine rA [] ?_
  refine⟨?_,rfl⟩
  rw[hcg,if_neg hm']
end Go.Proofs.YtpoodoknkbojgaaGreatDoor
