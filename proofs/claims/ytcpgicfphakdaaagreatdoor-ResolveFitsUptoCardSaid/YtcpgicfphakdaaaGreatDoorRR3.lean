/- A part of the proof. -/
import Derived.Test.YtcpgicfphakdaaaGreatDoorRP50
import Derived.Test.YtcpgicfphakdaaaGreatDoorRR2
set_option maxRecDepth 100000
set_option maxHeartbeats 8000000
set_option linter.all false
namespace Go.Proofs.YtcpgicfphakdaaaGreatDoor
section
open Go.Ab Tys
variable [Dr]
def ahU.kk:=p10 kB Tryz.ntmps256 Tryz.underlying74 iW jy lU rZ nU jB Tryz.results256
open ahU in
theorem Y0 (p:bV) (i:Nat) (hp:p.parts.length≤1000000) (hi:i≤1000000):AC Tryz.prog 256 [aPat p,I .i64 i] [] (fun x st=>x=Str (yU p i)∧st=[]):=by
 have hR:yU p i=if i<p.parts.length then p.parts.getD i noS else rG:=rfl
 generalize yU p i=R at hR
 obtain⟨ps,rp⟩:=p
 simp only at hR hp
 refine df Tryz.func256 Tryz.ntmps256 fun x hx=>?_
 try refine nv ?_
 refine aj ?_ ?_
 ·intro h
  have h':i<ps.length:=by simpa using h
  obtain⟨v,hv,he,_⟩:=round encS ps i noS h'
  rw[if_pos h',qy (z:=noS) hv] at hR
  try refine nx @he ?_
  refine rA [] ?_
  refine⟨?_,rfl⟩
  rw[hR]
 ·intro h
  have h':¬i<ps.length:=by simpa using h
  rw[if_neg h'] at hR
  try refine nv ?_
  refine rA [] ?_
  refine⟨?_,rfl⟩
  rw[hR]
def z233.kk:=p13 kB kG Tryz.ntmps233 Tryz.underlying74 iW jy lU sG IP rZ nU jB Tryz.results233
open z233 in
theorem Ve (p:bV) (n:Nat) (hp:p.parts.length≤1000000):AC Tryz.prog 233 [aPat p,I .i64 n] [] (fun x st=>x=B (nN p n)∧st=[]):=by
 have hR:nN p n=if p.rest then decide (p.parts.length<n) else decide (n=p.parts.length):=rfl
 generalize nN p n=R at hR
 obtain⟨ps,rp⟩:=p
 simp only at hR hp
 refine df Tryz.func233 Tryz.ntmps233 fun x hx=>?_
 try refine nv ?_
 refine rA [] ?_
 refine⟨?_,rfl⟩
 rw[hR,show decide ((ps.length:Int)<n)=decide (ps.length<n) from ajs.2 (by omega),show decide ((n:Int)=ps.length)=decide (n=ps.length) from ajs.2 (by omega)]
 by_cases h:n=ps.length
 ·cases rp<;>simp[h]
 ·by_cases h2:ps.length<n<;>cases rp<;>simp[h,h2]
def cov2 (b h:bV) (n:Nat):Bool:=(List.range (min n h.parts.length)).all fun i=>bI (yU b i) (h.parts.getD i noS)
theorem Qh (b h:bV) (n:Nat):o8 b h n=(nN h n&&cov2 b h n):=rfl
def z234.kk:=p11 kB kG Tryz.ntmps234 Tryz.underlying74 iW jy lU rZ nU jB Tryz.results234
open z234 in
theorem VH (b h:bV) (n:Nat) (hb:PB 1000000 b) (hh:PB 1000000 h) (hn:n≤1000000) (hbo:dN b) (hho:dN h):AC Tryz.prog 234 [aPat h,aPat b,I .i64 0,I .i64 n] [] (fun x st=>x=B (cov2 b h n)∧st=[]):=by
 have hpt:=fun i=>Y0 b i hb.1
 have hR:cov2 b h n=(List.range (min n h.parts.length)).all fun i=>bI (yU b i) (h.parts.getD i noS):=rfl
 have hps:∀i,(yU b i).size≤1000000:=by
  intro i
  unfold yU
  split
  ·exact hb.get i
  ·show 1≤1000000;omega
 have hpo:=fun i=>U0 hbo i
 generalize cov2 b h n=R at hR
 generalize yU b=pn at hpt hR hps hpo
 obtain⟨qs,rq⟩:=h
 obtain⟨ps,rp⟩:=b
 have hq1:=hh.1
 simp only[dN] at hR hq1 hho
 refine df Tryz.func234 Tryz.ntmps234 fun x hx=>?_
 try refine nv ?_
 refine au (ι:=Nat) (I:=fun k=>⟨33,[(3,I .i64 n),(4, .c (.ptr 4 0)),(5, .c (.ptr 5 0)),(9,I .i64 k)],[(5, .box ((bU ⟨ps,rp⟩).map C.d)),(4, .box ((bU ⟨qs,rq⟩).map C.d))]⟩)
  (Inv:=fun k=>k≤min n qs.length∧((List.range k).all fun i=>bI (pn i) (qs.getD i noS))=true) (μ:=fun k=>min n qs.length-k) 0 ⟨by omega,rfl⟩ ?_ ?_
 ·exact bQ
 rintro k ⟨hk,hall⟩
 try refine nv ?_
 refine aj ?_ ?_
 ·intro hlt
  have hlt':k<n∧k<qs.length:=by
   by_cases e:k<n
   ·have e':decide ((k:Int)<n)=true:=ajk (by omega)
    rw[e'] at hlt
    exact⟨e,by have:=agw hlt;omega⟩
   ·have e':decide ((k:Int)<n)=false:=ahK (by omega)
    rw[e'] at hlt;cases hlt
  obtain⟨u,hu,he,_⟩:=round encS qs k noS hlt'.2
  have eu:=qy (z:=noS) hu
  have hus:u.size≤1000000:=hh.2 u (aem hu)
  have huo:fP u=true:=by rw[←eu];exact hho k hlt'.2
  refine aZ ?_
  refine dx ([(25,Str (pn k)),(31,B (bI (pn k) u))]) @he ?_ ?_
  ·simp only[All,List.cons_append,List.nil_append,dB,afr,agW,ajr,forall_eq_or_imp,forall_eq,aJ,aB,cZ,aV,bT,ahu,ajG,implies_true,ae1,List.length_cons,List.length_nil,ay,jT,cu]
   repeat' (first|exact trivial|exact hpt k (by omega)|exact qC (pn k) u (hps k) hus (hpo k) huo|refine And.intro ?_ ?_|intro _|assumption|rfl|omega|(rw[afU];assumption)|(simp;done)|(simp only[aeB] at*;omega)|(simp_all;done))
  refine aZ ?_
  refine aj ?_ ?_
  ·intro hb
   have hb':bI (pn k) u=false:=by simpa using hb
   have hR2:R=false:=by
    rw[hR]
    cases e:(List.range (min n qs.length)).all fun i=>bI (pn i) (qs.getD i noS)
    ·rfl
    ·have:=kC _ k _ (by omega) e
     rw[eu,hb'] at this;cases this
   try refine nv ?_
   refine rA [] ?_
   refine⟨?_,rfl⟩
   rw[hR2]
  ·intro hb
   have hb':bI (pn k) u=true:=by simpa using hb
   try refine nv ?_
   refine⟨k+1,⟨by omega,?_⟩,by omega,?_⟩
   ·rw[List.range_succ,ajY,hall];simp only[List.all_cons,List.all_nil,eu,hb'];rfl
   ·exact bQ
 intro hge
 have hk':k=min n qs.length:=by
  by_cases e:k<n
  ·have e':decide ((k:Int)<n)=true:=ajk (by omega)
   rw[e'] at hge
   have:=ajJ hge
   omega
  ·omega
 rw[←hk',hall] at hR
 try refine nv ?_
 refine rA [] ?_
 refine⟨?_,rfl⟩
 rw[hR]
@[reducible] def Wn (b:bV) (n:Nat):List (Nat×AO):=[(2, .box ((bU b).map C.d)),(9, .box [.d (.v (.int .i64 n))])]
def z232.kk:=p7 kB kG Tryz.ntmps232 iW mG nU Tryz.results232
open z232 in
theorem abV (b h:bV) (n:Nat) (hb:PB 1000000 b) (hh:PB 1000000 h) (hn:n≤1000000) (hbo:dN b) (hho:dN h):AC Tryz.prog 232 [aPat h, .c (.ptr 9 0), .c (.ptr 2 0)] (Wn b n) (fun x st=>x=B (o8 b h n)∧st=Wn b n):=by
 have h1:=Ve h n hh.1
 have h2:=VH b h n hb hh hn hbo hho
 rw[Qh]
 generalize nN h n=c1 at h1
 generalize cov2 b h n=c2 at h2
 refine df Tryz.func232 Tryz.ntmps232 fun x hx=>?_
 (repeat (first|refine nv ?_|refine cf (h1) ?_))
 refine so ([(12,B c2)]) ?_ ?_
 ·exact eQ @h2
 try refine nv ?_
 refine rA ((Wn b n)) ?_
 refine⟨?_,rfl⟩
 cases c1<;>rfl
def ahC.kk:=p9 kB WL Tryz.ntmps140 Tryz.underlying77 iW Pe nU Pj Tryz.results140
open ahC in
theorem aes (b:bV) (l:List bV) (n:Nat) (hb:PB 1000000 b) (hl:l.length≤1000000) (hh:∀h∈l,PB 1000000 h) (hn:n≤1000000) (hbo:dN b) (hho:∀h∈l,dN h):
 AC Tryz.prog 140 [jR l, .c (.fn 232 [.ptr 9 0, .ptr 2 0])] (Wn b n) (fun x st=>(∃i:Int,x=I .i64 i∧decide (0≤i)=oK ⟨b,l⟩ n)∧st=Wn b n):=by
 have hF:oK ⟨b,l⟩ n=l.any fun h=>o8 b h n:=rfl
 have hcl:=fun h (hm:h∈l)=>abV b h n hb (hh h hm) hn hbo (hho h hm)
 generalize oK ⟨b,l⟩ n=f at hF
 refine df Tryz.func140 Tryz.ntmps140 fun x hx=>?_
 try refine nv ?_
 refine au (ι:=Nat) (I:=fun k=>⟨19,[(0,jR l),(1, .c (.fn 232 [.ptr 9 0, .ptr 2 0])),(7,I .i64 l.length),(8,I .i64 k)],Wn b n⟩)
  (Inv:=fun k=>k≤l.length∧(l.take k).any (fun h=>o8 b h n)=false) (μ:=fun k=>l.length-k) 0 ⟨by omega,by simp⟩ ?_ ?_
 ·exact bQ
 rintro k ⟨hk,hno⟩
 try refine nv ?_
 refine aj ?_ ?_
 ·intro hlt
  have hlt':k<l.length:=by simpa using hlt
  obtain⟨v,hv,he,htk⟩:=round bU l k dG hlt'
  have hcv:=hcl v (aem hv)
  generalize hcb:o8 b v n=cb at hcv
  try refine nx @he ?_
  refine KC ((Wn b n)) (by simp) (by simp only[kV, ↓reduceIte,Nat.reduceEqDiff,reduceCtorEq];first|done|rfl) (by simp only[WL,List.map];first|done|rfl) (by simp only[kV, ↓reduceIte,Nat.reduceEqDiff,reduceCtorEq];first|done|rfl) ⟨by simp[Ab.get],by simp[bF,aS,aO,aQ,aT,aP,ah,aB,cZ,ae,Ab.get],by simp[Cap.toC,aJ,cZ,aB,aV,bT,ae,Ab.get]⟩ (hcv) ?_
  rintro rv9 st' ⟨rfl,rfl⟩<;>(refine⟨by simp[lH,ae,Ab.get],?_⟩;simp only[kP,Nat.reduceEqDiff, ↓reduceIte,reduceCtorEq,List.cons_append,List.nil_append])
  try refine nv ?_
  refine aj ?_ ?_
  ·intro h
   have hf:f=true:=by
    rw[hF,List.any_eq_true]
    exact⟨v,aem hv,by rw[hcb];simpa using h⟩
   try refine nv ?_
   refine rA ((Wn b n)) ?_
   exact⟨⟨k,rfl,by rw[hf];simp⟩,rfl⟩
  ·intro h
   try refine nv ?_
   refine⟨k+1,⟨by omega,by rw[htk,List.any_append,hno];simp only[List.any_cons,List.any_nil,hcb,Bool.or_false,aks];simpa using h⟩,by omega,?_⟩
   exact bQ
 intro hge
 have hk':k=l.length:=by have:¬k<l.length:=by simpa using hge
                         omega
 rw[hk',afu] at hno
 try refine nv ?_
 refine rA ((Wn b n)) ?_
 exact⟨⟨-1,rfl,by rw[hF,hno];decide⟩,rfl⟩
def z71.kk:=p3 kB Tryz.ntmps71 Tryz.results71
open z71 in
theorem acW (b:bV) (l:List bV) (n:Nat) (hb:PB 1000000 b) (hl:l.length≤1000000) (hh:∀h∈l,PB 1000000 h) (hn:n≤1000000) (hbo:dN b) (hho:∀h∈l,dN h):
 AC Tryz.prog 71 [jR l, .c (.fn 232 [.ptr 9 0, .ptr 2 0])] (Wn b n) (fun x st=>x=B (oK ⟨b,l⟩ n)∧st=Wn b n):=by
 refine df Tryz.func71 Tryz.ntmps71 fun x hx=>?_
 try refine nv ?_
 refine nJ ((Wn b n)) (aes b l n hb hl hh hn hbo hho) ?_
 rintro rv9 st' ⟨⟨i,rfl,hi⟩,rfl⟩<;>refine nP ?_
 try refine nv ?_
 refine rA ((Wn b n)) ?_
 refine⟨?_,rfl⟩
 rw[←hi]
end
section
open Go.Ab Tys
variable [zg]
def ah4.kk:=p2 (p9 kB WL Tryz.ntmps181 Tryz.underlying74 Tryz.underlying77 iW jy Pe lU) (p8 sG mG IP rZ nU Pj jB Tryz.results181)
open ah4 in
theorem Si (b:bV) (hs:List bV) (hb:PB 100000 b) (hl:hs.length≤100000) (hh:∀h∈hs,PB 100000 h) (hbo:dN b) (hho:∀h∈hs,dN h):
 AC Tryz.prog 181 [aPat b,jR hs] [] (fun x st=>x=I .i64 (Hz ⟨b,hs⟩)∧st=[]):=by
 have hcont:∀n,n≤100001→AC Tryz.prog 71 [jR hs, .c (.fn 232 [.ptr 9 0, .ptr 2 0])] (Wn b n) (fun x st=>x=B (oK ⟨b,hs⟩ n)∧st=Wn b n):=
  fun n hn=>acW b hs n (hb.mono (by omega)) (by omega) (fun h hx=>(hh h hx).mono (by omega)) (by omega) hbo hho
 have hR:Hz ⟨b,hs⟩=if b.rest then(match(List.range (qm hs b.parts.length+1-b.parts.length)).find? (fun j=>!oK ⟨b,hs⟩ (b.parts.length+1+j)) with|some j=>b.parts.length+1+j|none=>0)
  else if oK ⟨b,hs⟩ b.parts.length then 0 else b.parts.length:=rfl
 generalize Hz ⟨b,hs⟩=R at hR
 generalize oK ⟨b,hs⟩=fB at hcont hR
 have hb1:=hb.1
 cases hr:b.rest with
 |false=>
  rw[hr,if_neg (by simp)] at hR
  obtain⟨ps,rp⟩:=b
  simp only at hR hb1 hr
  generalize hf0:ps.length=f0 at hR hb1
  obtain⟨M,hM⟩:∃M:Nat,M=1:=⟨_,rfl⟩
  obtain⟨lz,hlz⟩:∃lz:Int,lz=f0:=⟨_,rfl⟩
  have hfin:(∀i,i<M→fB (f0+i)=true)→R=0:=fun h=>by
   have:=h 0 (by omega)
   rw[Nat.add_zero] at this
   rw[hR,if_pos this]
  have hhit:∀j,j<M→fB (f0+j)=false→(∀i,i<j→fB (f0+i)=true)→R=f0+j:=fun j hj h _=>by
   have:j=0:=by omega
   subst this
   rw[Nat.add_zero] at h⊢
   rw[hR,if_neg (by simp[h])]
  refine df Tryz.func181 Tryz.ntmps181 fun x hx=>?_
  try refine nv ?_
  refine dr ([]) ?_ ?_
  ·exact qP
  try refine nv ?_
  refine aj ?_ ?_
  ·intro h;rw[hr] at h;cases h
  intro _
  rw[hf0]
  try refine nv ?_
  refine au (ι:=Nat) (I:=fun j=>⟨47,[(1,jR hs),(2, .c (.ptr 2 0)),(6,I .i64 lz),(9, .c (.ptr 9 0))],[(2, .box ((bU ⟨ps,rp⟩).map C.d)),(9, .box [.d (.v (.int .i64 ((f0+j:Nat):Int)))])]⟩)
   (Inv:=fun j=>j≤M∧∀i,i<j→fB (f0+i)=true) (μ:=fun j=>M-j) 0 ⟨by omega,by omega⟩ ?_ ?_
  ·rw[hlz]
   exact Dc @Nat.add_zero
  rintro j ⟨hj,hall⟩
  try refine nv ?_
  refine aj ?_ ?_
  rotate_left
  ·intro hgt
   have hgt':j=M:=by have:¬((f0+j:Nat):Int)≤lz:=by simpa using hgt
                     omega
   subst hgt'
   try refine nv ?_
   refine rA [] ?_
   refine⟨?_,rfl⟩
   rw[hfin hall];rfl
  intro hle
  have hle':j<M:=by have:((f0+j:Nat):Int)≤lz:=by simpa using hle
                    omega
  have hc:=hcont (f0+j) (by omega)
  generalize hfb:fB (f0+j)=f at hc
  try refine nv ?_
  refine nJ ([(2, .box ((bU ⟨ps,rp⟩).map C.d)),(9, .box [.d (.v (.int .i64 ((f0+j:Nat):Int)))])]) (hc) ?_
  rintro rv9 st' ⟨rfl,rfl⟩<;>refine nP ?_
  try refine nv ?_
  refine aj ?_ ?_
  ·intro h
   have h':f=false:=by simpa using h
   try refine nv ?_
   refine rA [] ?_
   refine⟨?_,rfl⟩
   rw[hhit j hle' (by rw[hfb,h']) hall]
  intro h
  have h':f=true:=by simpa using h
  have hj9:f0+j≤300000:=by omega
  refine aZ ?_
  refine gg ?_
  refine aZ ?_
  refine bC (s':=⟨47,[(1,jR hs),(2, .c (.ptr 2 0)),(6,I .i64 lz),(46,I .i64 ((f0+j:Nat):Int))],[(2, .box ((bU ⟨ps,rp⟩).map C.d))]⟩) ?_ ?_
  ·exact bQ
  try refine nv ?_
  refine⟨j+1,⟨by omega,fun i hi=>?_⟩,by omega,?_⟩
  ·rcases ajB.1 hi with hi|rfl
   ·exact hall i hi
   ·rw[hfb,h']
  ·have e9:((f0+(j+1):Nat):Int)=((f0+j:Nat):Int)+1:=by omega
   rw[e9]
   exact bQ
 |true=>
  rw[hr,if_pos rfl] at hR
  obtain⟨ps,rp⟩:=b
  simp only at hR hb1 hr
  have hmg:=XE hs ps.length
  have hmx:=XO hs ps.length hb1 fun h hx=>(hh h hx).1
  obtain⟨f0,hf0⟩:∃f0:Nat,f0=ps.length+1:=⟨_,rfl⟩
  rw[←hf0] at hR
  obtain⟨M,hM⟩:∃M:Nat,M=qm hs ps.length+1-ps.length:=⟨_,rfl⟩
  rw[←hM] at hR
  obtain⟨lz,hlz⟩:∃lz:Int,lz=((qm hs ps.length+1:Nat):Int):=⟨_,rfl⟩
  have hfin:(∀i,i<M→fB (f0+i)=true)→R=0:=fun h=>by
   have:(List.range M).find? (fun j=>!fB (f0+j))=none:=by
    rw[List.find?_eq_none]
    intro i hi
    rw[h i (aht.1 hi)];simp
   rw[this] at hR
   exact hR
  have hhit:∀j,j<M→fB (f0+j)=false→(∀i,i<j→fB (f0+i)=true)→R=f0+j:=fun j hj h h2=>by
   rw[find_range (M:=M) (j:=j) hj (by rw[h];rfl) (fun i hi=>by rw[h2 i hi];rfl)] at hR
   exact hR
  refine df Tryz.func181 Tryz.ntmps181 fun x hx=>?_
  try refine nv ?_
  refine dr ([]) ?_ ?_
  ·exact qP
  try refine nv ?_
  refine aj ?_ ?_
  rotate_left
  ·intro h;rw[hr] at h;cases h
  intro _
  try refine nv ?_
  refine au (ι:=Nat) (I:=fun k=>⟨47,[(1,jR hs),(2, .c (.ptr 2 0)),(5,I .i64 f0),(6,I .i64 ((qm (hs.take k) ps.length+1:Nat):Int)),(22,jR hs),(23,I .i64 hs.length),(24,I .i64 k)],[(2, .box ((bU ⟨ps,rp⟩).map C.d))]⟩)
   (Inv:=fun k=>k≤hs.length) (μ:=fun k=>hs.length-k) 0 (by omega) ?_ ?_
  ·have e1:((ps.length+1:Nat):Int)=(ps.length:Int)+1:=by omega
   rw[hf0]
   (refine bi (fun i=>i) rfl ?_ ⟨?_,?_,?_,bW hx (by simp[ae,Ab.get])⟩<;>first|(simp only[kE,ay, ↓reduceIte,Nat.reduceEqDiff,reduceCtorEq,qm,e1];done)|simp[aH,ax,ah,Ab.get,aJ,cZ,aB,bF,aS,aO,aQ,aT,aP,ae,List.flatten,qm,e1])
  intro k hk
  try refine nv ?_
  refine aj ?_ ?_
  ·intro hlt
   have hlt':k<hs.length:=by simpa using hlt
   obtain⟨v,hv,he,htk⟩:=round bU hs k dG hlt'
   have hm:qm (hs.take (k+1)) ps.length=max (qm (hs.take k) ps.length) v.parts.length:=by rw[htk,G7]
   have hmi:((max (qm (hs.take k) ps.length) v.parts.length+1:Nat):Int)=max ((qm (hs.take k) ps.length+1:Nat):Int) ((v.parts.length:Int)+1):=by omega
   have hvl:=(hh v (aem hv)).1
   try refine nx @he ?_
   refine⟨k+1,by omega,by omega,?_⟩
   rw[hm,hmi]
   exact bQ
  intro hge
  have hk':k=hs.length:=by have:¬k<hs.length:=by simpa using hge
                           omega
  rw[hk',afu]
  generalize qm hs ps.length=mx at hmx hmg hM hlz
  have hlz2:lz=(f0:Int)+M-1:=by omega
  try refine nv ?_
  refine au (ι:=Nat) (I:=fun j=>⟨47,[(1,jR hs),(2, .c (.ptr 2 0)),(6,I .i64 lz),(9, .c (.ptr 9 0))],[(2, .box ((bU ⟨ps,rp⟩).map C.d)),(9, .box [.d (.v (.int .i64 ((f0+j:Nat):Int)))])]⟩)
   (Inv:=fun j=>j≤M∧∀i,i<j→fB (f0+i)=true) (μ:=fun j=>M-j) 0 ⟨by omega,by omega⟩ ?_ ?_
  ·rw[hlz]
   exact Dc @Nat.add_zero
  rintro j ⟨hj,hall⟩
  try refine nv ?_
  refine aj ?_ ?_
  rotate_left
  ·intro hgt
   have hgt':j=M:=by have:¬((f0+j:Nat):Int)≤lz:=by simpa using hgt
                     omega
   subst hgt'
   try refine nv ?_
   refine rA [] ?_
   refine⟨?_,rfl⟩
   rw[hfin hall];rfl
  intro hle
  have hle':j<M:=by have:((f0+j:Nat):Int)≤lz:=by simpa using hle
                    omega
  have hc:=hcont (f0+j) (by omega)
  generalize hfb:fB (f0+j)=f at hc
  try refine nv ?_
  refine nJ ([(2, .box ((bU ⟨ps,rp⟩).map C.d)),(9, .box [.d (.v (.int .i64 ((f0+j:Nat):Int)))])]) (hc) ?_
  rintro rv9 st' ⟨rfl,rfl⟩<;>refine nP ?_
  try refine nv ?_
  refine aj ?_ ?_
  ·intro h
   have h':f=false:=by simpa using h
   try refine nv ?_
   refine rA [] ?_
   refine⟨?_,rfl⟩
   rw[hhit j hle' (by rw[hfb,h']) hall]
  intro h
  have h':f=true:=by simpa using h
  have hj9:f0+j≤300000:=by omega
  refine aZ ?_
  refine gg ?_
  refine aZ ?_
  refine bC (s':=⟨47,[(1,jR hs),(2, .c (.ptr 2 0)),(6,I .i64 lz),(46,I .i64 ((f0+j:Nat):Int))],[(2, .box ((bU ⟨ps,rp⟩).map C.d))]⟩) ?_ ?_
  ·exact bQ
  try refine nv ?_
  refine⟨j+1,⟨by omega,fun i hi=>?_⟩,by omega,?_⟩
  ·rcases ajB.1 hi with hi|rfl
   ·exact hall i hi
   ·rw[hfb,h']
  ·have e9:((f0+(j+1):Nat):Int)=((f0+j:Nat):Int)+1:=by omega
   rw[e9]
   exact bQ
def z130.kk:=p5 kB Tryz.ntmps130 iW nU Tryz.results130
open z130 in
theorem aer (b:bV) (hs:List bV) (hb:PB 100000 b) (hl:hs.length≤100000) (hh:∀h∈hs,PB 100000 h) (hbo:dN b) (hho:∀h∈hs,dN h):
 AC Tryz.prog 130 [aPat b,jR hs] [] (fun r st=>r=B (decide (Hz ⟨b,hs⟩=0))∧st=[]):=by
 have h:=Si b hs hb hl hh hbo hho
 generalize Hz ⟨b,hs⟩=n at h
 refine df Tryz.func130 Tryz.ntmps130 fun x hx=>?_
 (repeat (first|refine nv ?_|refine cf (h) ?_))
 refine rA [] ?_
 refine⟨?_,rfl⟩
 rw[show decide ((n:Int)=0)=decide (n=0) from ajs.2 (by omega)]
end
section
open Go.Ab Tys
variable [Dr]
end
end Go.Proofs.YtcpgicfphakdaaaGreatDoor
