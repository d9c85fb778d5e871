/- A part of the proof. -/
import Derived.Test.YtcpgicfphakdaaaGreatDoorRPD
import Derived.Test.YtcpgicfphakdaaaGreatDoorRK2
import Derived.Test.YtcpgicfphakdaaaGreatDoorRX12
import Derived.Test.YtcpgicfphakdaaaGreatDoorRT2
set_option maxRecDepth 100000
set_option maxHeartbeats 16000000
set_option linter.all false
namespace Go.Proofs.YtcpgicfphakdaaaGreatDoor
open Go.Ab Tys
variable [Dr]
def z7.kk:=p2 (LK kB kG Tryz.ntmps7 Tryz.underlying22 Tryz.underlying28 Tryz.underlying60 Tryz.underlying9 EC yU IL ab5 Dq J8 zI) (p13 FY xh zx Cf F9 adF Ib WC P7 Il SQ jy Tryz.results7)
open z7 in
theorem Yg (l:List o6) (hf:Few l):
 AC Tryz.prog 7 [.c (.d (.ps 5 (l.map iw)))] [] (fun r st=>(∃b:Bool,r=B b∧(b=true→l.length≤40∧tot l≤200∧∀c∈l,sC c))∧st=[]):=by
 have hlen:=hf.len
 have htot:=hf.tot
 refine bV Tryz.func7 Tryz.ntmps7 fun x hx=>?_
 try refine nv ?_
 refine ag (ι:=Nat) (I:=fun k=>⟨65,[(0, .c (.d (.ps 5 (l.map iw)))),(3,I .i64 (tot (l.take k))),(10, .c (.d (.ps 5 (l.map iw)))),(11,I .i64 l.length),(12,I .i64 k)],[]⟩)
  (Inv:=fun k=>k≤l.length∧∀c∈l.take k,sC c) (μ:=fun k=>l.length-k) 0 ⟨by omega,by simp⟩ ?_ ?_
 ·(refine fZ (fun i=>i) rfl ?_ ⟨?_,?_,?_,gu hx (by simp[ae,Ab.get])⟩<;>first|(simp only[kE,aQ, ↓reduceIte,Nat.reduceEqDiff,reduceCtorEq,tot];done)|simp[di,bf,aA,Ab.get,aZ,dH,aN,bY,bG,bH,bD,bI,bC,ae,List.flatten,tot])
 rintro k ⟨hk,hall⟩
 have htk0:=OM l k
 try refine nv ?_
 refine af ?_ ?_
 ·intro hlt
  have hlt':k<l.length:=by simpa using hlt
  obtain⟨c,hc,he,htk⟩:=round iw l k adG hlt'
  have hm:=List.mem_of_getElem? hc
  have htm:=TV hm
  have htk1:=OM l (k+1)
  have e1:tot (l.take (k+1))=tot (l.take k)+(c.edits.length+c.recs.length):=by rw[htk,G7];simp[tot]
  have e2:(((tot (l.take k):Nat):Int)+(((c.edits.length:Nat):Int)+((c.recs.length:Nat):Int)))=((tot (l.take (k+1)):Nat):Int):=by rw[e1];omega
  try refine nx (p2 @he @e2) ?_
  refine ag (ι:=Nat) (I:=fun j=>⟨65,[(0, .c (.d (.ps 5 (l.map iw)))),(3,I .i64 (tot (l.take (k+1)))),(5, .c (.ptr 5 0)),(10, .c (.d (.ps 5 (l.map iw)))),(11,I .i64 l.length),(12,I .i64 k),(26, .c (.d (.ps 12 (c.edits.map iC)))),(27,I .i64 c.edits.length),(28,I .i64 j)],[(5, .box ((iw c).map C.d))]⟩)
   (Inv:=fun j=>j≤c.edits.length∧∀e∈c.edits.take j,sE e) (μ:=fun j=>c.edits.length-j) 0 ⟨by omega,by simp⟩ ?_ ?_
  ·exact aW
  rintro j ⟨hj,hej⟩
  try refine nv ?_
  refine af ?_ ?_
  ·intro hlt2
   have hlt2':j<c.edits.length:=by simpa using hlt2
   obtain⟨y,hy,hey,hty⟩:=round iC c.edits j fF hlt2'
   have hys:=hf.es c hm y (List.mem_of_getElem? hy)
   try refine nx @hey ?_
   refine af ?_ ?_
   ·intro _
    try refine nv ?_
    refine rA [] ?_
    refine⟨?_,rfl⟩
    exact⟨_,rfl,fun h=>by cases h⟩
   intro hb
   have hb':sE y:=by simp at hb;unfold sE;omega
   try refine nv ?_
   refine⟨j+1,⟨by omega,?_⟩,by omega,?_⟩
   ·intro u hu
    rw[hty,List.mem_append] at hu
    rcases hu with hu|hu
    ·exact hej u hu
    ·simp at hu;rw[hu];exact hb'
   ·exact aW
  intro hge2
  have hge2':j=c.edits.length:=by have:¬j<c.edits.length:=by simpa using hge2
                                  omega
  rw[hge2',List.take_length] at hej
  try refine nv ?_
  refine ag (ι:=Nat) (I:=fun j=>⟨65,[(0, .c (.d (.ps 5 (l.map iw)))),(3,I .i64 (tot (l.take (k+1)))),(10, .c (.d (.ps 5 (l.map iw)))),(11,I .i64 l.length),(12,I .i64 k),(42, .c (.d (.ps 6 (c.recs.map bg)))),(43,I .i64 c.recs.length),(44,I .i64 j)],[]⟩)
   (Inv:=fun j=>j≤c.recs.length∧∀e∈c.recs.take j,sR e) (μ:=fun j=>c.recs.length-j) 0 ⟨by omega,by simp⟩ ?_ ?_
  ·exact aW
  rintro j2 ⟨hj2,hrj⟩
  try refine nv ?_
  refine af ?_ ?_
  ·intro hlt2
   have hlt2':j2<c.recs.length:=by simpa using hlt2
   obtain⟨y,hy,hey,hty⟩:=round bg c.recs j2 mr hlt2'
   have hys:=hf.rs c hm y (List.mem_of_getElem? hy)
   try refine nx @hey ?_
   refine af ?_ ?_
   ·intro _
    try refine nv ?_
    refine rA [] ?_
    refine⟨?_,rfl⟩
    exact⟨_,rfl,fun h=>by cases h⟩
   intro hb
   have hb':sR y:=by simp at hb;unfold sR;omega
   try refine nv ?_
   refine⟨j2+1,⟨by omega,?_⟩,by omega,?_⟩
   ·intro u hu
    rw[hty,List.mem_append] at hu
    rcases hu with hu|hu
    ·exact hrj u hu
    ·simp at hu;rw[hu];exact hb'
   ·exact aW
  intro hge3
  have hge3':j2=c.recs.length:=by have:¬j2<c.recs.length:=by simpa using hge3
                                  omega
  rw[hge3',List.take_length] at hrj
  try refine nv ?_
  refine⟨k+1,⟨by omega,?_⟩,by omega,?_⟩
  ·intro u hu
   rw[htk,List.mem_append] at hu
   rcases hu with hu|hu
   ·exact hall u hu
   ·simp at hu;rw[hu];exact⟨hej,hrj⟩
  ·exact aW
 intro hge
 have hge':k=l.length:=by have:¬k<l.length:=by simpa using hge
                          omega
 rw[hge',List.take_length] at hall
 try refine nv ?_
 refine rA [] ?_
 refine⟨?_,rfl⟩
 refine⟨_,rfl,fun h=>?_⟩
 rw[hge',List.take_length] at h
 simp at h
 exact⟨by omega,by omega,hall⟩
def adY.kk:=p10 kB Tryz.ntmps256 Tryz.underlying74 df eH dW jO fM jy Tryz.results256
open adY in
theorem WB (p:aX) (i:Nat) (hp:p.parts.length≤1000000) (hi:i≤1000000):AC Tryz.prog 256 [aPat p,I .i64 i] [] (fun x st=>x=Str (oD p i)∧st=[]):=by
 have hR:oD p i=if i<p.parts.length then p.parts.getD i noS else qi:=rfl
 generalize oD p i=R at hR
 obtain⟨ps,rp⟩:=p
 simp only at hR hp
 refine bV Tryz.func256 Tryz.ntmps256 fun x hx=>?_
 try refine nv ?_
 refine af ?_ ?_
 ·intro h
  have h':i<ps.length:=by simpa using h
  obtain⟨v,hv,he,_⟩:=round encS ps i noS h'
  rw[if_pos h',fH (z:=noS) hv] at hR
  try refine nx @he ?_
  refine rA [] ?_
  refine⟨?_,rfl⟩
  rw[hR]
 ·intro h
  have h':¬i<ps.length:=by simpa using h
  rw[if_neg h'] at hR
  try refine nv ?_
  refine rA [] ?_
  refine⟨?_,rfl⟩
  rw[hR]
def z233.kk:=p13 kB kG Tryz.ntmps233 Tryz.underlying74 df eH dW gV yR jO fM jy Tryz.results233
open z233 in
theorem RS (p:aX) (n:Nat) (hp:p.parts.length≤1000000):AC Tryz.prog 233 [aPat p,I .i64 n] [] (fun x st=>x=B (je p n)∧st=[]):=by
 have hR:je p n=if p.rest then decide (p.parts.length<n) else decide (n=p.parts.length):=rfl
 generalize je p n=R at hR
 obtain⟨ps,rp⟩:=p
 simp only at hR hp
 refine bV Tryz.func233 Tryz.ntmps233 fun x hx=>?_
 try refine nv ?_
 refine rA [] ?_
 refine⟨?_,rfl⟩
 rw[hR,show decide ((ps.length:Int)<n)=decide (ps.length<n) from decide_eq_decide.2 (by omega),show decide ((n:Int)=ps.length)=decide (n=ps.length) from decide_eq_decide.2 (by omega)]
 by_cases h:n=ps.length
 ·cases rp<;>simp[h]
 ·by_cases h2:ps.length<n<;>cases rp<;>simp[h,h2]
def cov2 (b h:aX) (n:Nat):Bool:=(List.range (min n h.parts.length)).all fun i=>aF (oD b i) (h.parts.getD i noS)
theorem MR (b h:aX) (n:Nat):jC b h n=(je h n&&cov2 b h n):=rfl
def z234.kk:=p11 kB kG Tryz.ntmps234 Tryz.underlying74 df eH dW jO fM jy Tryz.results234
open z234 in
theorem Sr (b h:aX) (n:Nat) (hb:PB 1000000 b) (hh:PB 1000000 h) (hn:n≤1000000) (hbo:dL b) (hho:dL h):AC Tryz.prog 234 [aPat h,aPat b,I .i64 0,I .i64 n] [] (fun x st=>x=B (cov2 b h n)∧st=[]):=by
 have hpt:=fun i=>WB b i hb.1
 have hR:cov2 b h n=(List.range (min n h.parts.length)).all fun i=>aF (oD b i) (h.parts.getD i noS):=rfl
 have hps:∀i,(oD b i).size≤1000000:=by
  intro i
  unfold oD
  split
  ·exact hb.get i
  ·show 1≤1000000;omega
 have hpo:=fun i=>PT hbo i
 generalize cov2 b h n=R at hR
 generalize oD b=pn at hpt hR hps hpo
 obtain⟨qs,rq⟩:=h
 obtain⟨ps,rp⟩:=b
 have hq1:=hh.1
 simp only[dL] at hR hq1 hho
 refine bV Tryz.func234 Tryz.ntmps234 fun x hx=>?_
 try refine nv ?_
 refine ag (ι:=Nat) (I:=fun k=>⟨33,[(3,I .i64 n),(4, .c (.ptr 4 0)),(5, .c (.ptr 5 0)),(9,I .i64 k)],[(5, .box ((au ⟨ps,rp⟩).map C.d)),(4, .box ((au ⟨qs,rq⟩).map C.d))]⟩)
  (Inv:=fun k=>k≤min n qs.length∧((List.range k).all fun i=>aF (pn i) (qs.getD i noS))=true) (μ:=fun k=>min n qs.length-k) 0 ⟨by omega,rfl⟩ ?_ ?_
 ·exact aW
 rintro k ⟨hk,hall⟩
 try refine nv ?_
 refine af ?_ ?_
 ·intro hlt
  have hlt':k<n∧k<qs.length:=by
   by_cases e:k<n
   ·have e':decide ((k:Int)<n)=true:=decide_eq_true (by omega)
    rw[e'] at hlt
    exact⟨e,by have:=of_decide_eq_true hlt;omega⟩
   ·have e':decide ((k:Int)<n)=false:=decide_eq_false (by omega)
    rw[e'] at hlt;cases hlt
  obtain⟨u,hu,he,_⟩:=round encS qs k noS hlt'.2
  have eu:=fH (z:=noS) hu
  have hus:u.size≤1000000:=hh.2 u (List.mem_of_getElem? hu)
  have huo:dE u=true:=by rw[←eu];exact hho k hlt'.2
  refine aJ ?_
  refine dx ([(25,Str (pn k)),(31,B (aF (pn k) u))]) @he ?_ ?_
  ·simp only[All,List.cons_append,List.nil_append,dI,List.mem_cons,List.not_mem_nil,or_false,forall_eq_or_imp,forall_eq,aZ,aN,dH,aO,bF,and_true,true_and,implies_true,List.length_map,List.length_cons,List.length_nil,aQ,jo,dm]
   repeat' (first|exact trivial|exact hpt k (by omega)|exact pR (pn k) u (hps k) hus (hpo k) huo|refine And.intro ?_ ?_|intro _|assumption|rfl|omega|(rw[Bool.not_eq_true'];assumption)|(simp;done)|(simp only[decide_eq_true_eq] at*;omega)|(simp_all;done))
  refine aJ ?_
  refine af ?_ ?_
  ·intro hb
   have hb':aF (pn k) u=false:=by simpa using hb
   have hR2:R=false:=by
    rw[hR]
    cases e:(List.range (min n qs.length)).all fun i=>aF (pn i) (qs.getD i noS)
    ·rfl
    ·have:=gB _ k _ (by omega) e
     rw[eu,hb'] at this;cases this
   try refine nv ?_
   refine rA [] ?_
   refine⟨?_,rfl⟩
   rw[hR2]
  ·intro hb
   have hb':aF (pn k) u=true:=by simpa using hb
   try refine nv ?_
   refine⟨k+1,⟨by omega,?_⟩,by omega,?_⟩
   ·rw[List.range_succ,List.all_append,hall];simp only[List.all_cons,List.all_nil,eu,hb'];rfl
   ·exact aW
 intro hge
 have hk':k=min n qs.length:=by
  by_cases e:k<n
  ·have e':decide ((k:Int)<n)=true:=decide_eq_true (by omega)
   rw[e'] at hge
   have:=of_decide_eq_false hge
   omega
  ·omega
 rw[←hk',hall] at hR
 try refine nv ?_
 refine rA [] ?_
 refine⟨?_,rfl⟩
 rw[hR]
@[reducible] def RV (b:aX) (n:Nat):List (Nat×AO):=[(2, .box ((au b).map C.d)),(9, .box [.d (.v (.int .i64 n))])]
def z232.kk:=p7 kB kG Tryz.ntmps232 df uK fM Tryz.results232
open z232 in
theorem Yk (b h:aX) (n:Nat) (hb:PB 1000000 b) (hh:PB 1000000 h) (hn:n≤1000000) (hbo:dL b) (hho:dL h):AC Tryz.prog 232 [aPat h, .c (.ptr 9 0), .c (.ptr 2 0)] (RV b n) (fun x st=>x=B (jC b h n)∧st=RV b n):=by
 have h1:=RS h n hh.1
 have h2:=Sr b h n hb hh hn hbo hho
 rw[MR]
 generalize je h n=c1 at h1
 generalize cov2 b h n=c2 at h2
 refine bV Tryz.func232 Tryz.ntmps232 fun x hx=>?_
 (repeat (first|refine nv ?_|refine cf (h1) ?_))
 refine so ([(12,B c2)]) ?_ ?_
 ·exact gI @h2
 try refine nv ?_
 refine rA ((RV b n)) ?_
 refine⟨?_,rfl⟩
 cases c1<;>rfl
def adw.kk:=p9 kB kFn Tryz.ntmps140 Tryz.underlying77 df vU fM xI Tryz.results140
open adw in
theorem abC (b:aX) (l:List aX) (n:Nat) (hb:PB 1000000 b) (hl:l.length≤1000000) (hh:∀h∈l,PB 1000000 h) (hn:n≤1000000) (hbo:dL b) (hho:∀h∈l,dL h):
 AC Tryz.prog 140 [eU l, .c (.fn 232 [.ptr 9 0, .ptr 2 0])] (RV b n) (fun x st=>(∃i:Int,x=I .i64 i∧decide (0≤i)=jP ⟨b,l⟩ n)∧st=RV b n):=by
 have hF:jP ⟨b,l⟩ n=l.any fun h=>jC b h n:=rfl
 have hcl:=fun h (hm:h∈l)=>Yk b h n hb (hh h hm) hn hbo (hho h hm)
 generalize jP ⟨b,l⟩ n=f at hF
 refine bV Tryz.func140 Tryz.ntmps140 fun x hx=>?_
 try refine nv ?_
 refine ag (ι:=Nat) (I:=fun k=>⟨19,[(0,eU l),(1, .c (.fn 232 [.ptr 9 0, .ptr 2 0])),(7,I .i64 l.length),(8,I .i64 k)],RV b n⟩)
  (Inv:=fun k=>k≤l.length∧(l.take k).any (fun h=>jC b h n)=false) (μ:=fun k=>l.length-k) 0 ⟨by omega,by simp⟩ ?_ ?_
 ·exact aW
 rintro k ⟨hk,hno⟩
 try refine nv ?_
 refine af ?_ ?_
 ·intro hlt
  have hlt':k<l.length:=by simpa using hlt
  obtain⟨v,hv,he,htk⟩:=round au l k bz hlt'
  have hcv:=hcl v (List.mem_of_getElem? hv)
  generalize hcb:jC b v n=cb at hcv
  try refine nx @he ?_
  refine OT ((RV b n)) (by simp) (by simp only[kV, ↓reduceIte,Nat.reduceEqDiff,reduceCtorEq];first|done|rfl) (by simp only[kFn,List.map];first|done|rfl) (by simp only[kV, ↓reduceIte,Nat.reduceEqDiff,reduceCtorEq];first|done|rfl) ⟨by simp[Ab.get],by simp[bY,bG,bH,bD,bI,bC,aA,aN,dH,ae,Ab.get],by simp[Cap.toC,aZ,dH,aN,aO,bF,ae,Ab.get]⟩ (hcv) ?_
  rintro rv9 st' ⟨rfl,rfl⟩<;>(refine⟨by simp[lC,ae,Ab.get],?_⟩;simp only[kP,Nat.reduceEqDiff, ↓reduceIte,reduceCtorEq,List.cons_append,List.nil_append])
  try refine nv ?_
  refine af ?_ ?_
  ·intro h
   have hf:f=true:=by
    rw[hF,List.any_eq_true]
    exact⟨v,List.mem_of_getElem? hv,by rw[hcb];simpa using h⟩
   try refine nv ?_
   refine rA ((RV b n)) ?_
   exact⟨⟨k,rfl,by rw[hf];simp⟩,rfl⟩
  ·intro h
   try refine nv ?_
   refine⟨k+1,⟨by omega,by rw[htk,List.any_append,hno];simp only[List.any_cons,List.any_nil,hcb,Bool.or_false,Bool.false_or];simpa using h⟩,by omega,?_⟩
   exact aW
 intro hge
 have hk':k=l.length:=by have:¬k<l.length:=by simpa using hge
                         omega
 rw[hk',List.take_length] at hno
 try refine nv ?_
 refine rA ((RV b n)) ?_
 exact⟨⟨-1,rfl,by rw[hF,hno];decide⟩,rfl⟩
def z71.kk:=p3 kB Tryz.ntmps71 Tryz.results71
open z71 in
theorem Yu (b:aX) (l:List aX) (n:Nat) (hb:PB 1000000 b) (hl:l.length≤1000000) (hh:∀h∈l,PB 1000000 h) (hn:n≤1000000) (hbo:dL b) (hho:∀h∈l,dL h):
 AC Tryz.prog 71 [eU l, .c (.fn 232 [.ptr 9 0, .ptr 2 0])] (RV b n) (fun x st=>x=B (jP ⟨b,l⟩ n)∧st=RV b n):=by
 refine bV Tryz.func71 Tryz.ntmps71 fun x hx=>?_
 try refine nv ?_
 refine qQ ((RV b n)) (abC b l n hb hl hh hn hbo hho) ?_
 rintro rv9 st' ⟨⟨i,rfl,hi⟩,rfl⟩<;>refine qU ?_
 try refine nv ?_
 refine rA ((RV b n)) ?_
 refine⟨?_,rfl⟩
 rw[←hi]
end Go.Proofs.YtcpgicfphakdaaaGreatDoor
namespace Go.Proofs.YtcpgicfphakdaaaGreatDoor
open Go.Ab Tys
variable [zG]
def adT.kk:=p2 (p9 kB kFn Tryz.ntmps181 Tryz.underlying74 Tryz.underlying77 df eH vU dW) (p8 gV uK yR jO fM xI jy Tryz.results181)
open adT in
theorem Py (b:aX) (hs:List aX) (hb:PB 100000 b) (hl:hs.length≤100000) (hh:∀h∈hs,PB 100000 h) (hbo:dL b) (hho:∀h∈hs,dL h):
 AC Tryz.prog 181 [aPat b,eU hs] [] (fun x st=>x=I .i64 (yK ⟨b,hs⟩)∧st=[]):=by
 have hcont:∀n,n≤100001→AC Tryz.prog 71 [eU hs, .c (.fn 232 [.ptr 9 0, .ptr 2 0])] (RV b n) (fun x st=>x=B (jP ⟨b,hs⟩ n)∧st=RV b n):=
  fun n hn=>Yu b hs n (hb.mono (by omega)) (by omega) (fun h hx=>(hh h hx).mono (by omega)) (by omega) hbo hho
 have hR:yK ⟨b,hs⟩=if b.rest then(match(List.range (lH hs b.parts.length+1-b.parts.length)).find? (fun j=>!jP ⟨b,hs⟩ (b.parts.length+1+j)) with|some j=>b.parts.length+1+j|none=>0)
  else if jP ⟨b,hs⟩ b.parts.length then 0 else b.parts.length:=rfl
 generalize yK ⟨b,hs⟩=R at hR
 generalize jP ⟨b,hs⟩=fB at hcont hR
 have hb1:=hb.1
 cases hr:b.rest with
 |false=>
  rw[hr,if_neg (by simp)] at hR
  obtain⟨ps,rp⟩:=b
  simp only at hR hb1 hr
  generalize hf0:ps.length=f0 at hR hb1
  obtain⟨M,hM⟩:∃M:Nat,M=1:=⟨_,rfl⟩
  obtain⟨lz,hlz⟩:∃lz:Int,lz=f0:=⟨_,rfl⟩
  have hfin:(∀i,i<M→fB (f0+i)=true)→R=0:=fun h=>by
   have:=h 0 (by omega)
   rw[Nat.add_zero] at this
   rw[hR,if_pos this]
  have hhit:∀j,j<M→fB (f0+j)=false→(∀i,i<j→fB (f0+i)=true)→R=f0+j:=fun j hj h _=>by
   have:j=0:=by omega
   subst this
   rw[Nat.add_zero] at h⊢
   rw[hR,if_neg (by simp[h])]
  refine bV Tryz.func181 Tryz.ntmps181 fun x hx=>?_
  try refine nv ?_
  refine dr ([]) ?_ ?_
  ·exact rC
  try refine nv ?_
  refine af ?_ ?_
  ·intro h;rw[hr] at h;cases h
  intro _
  rw[hf0]
  try refine nv ?_
  refine ag (ι:=Nat) (I:=fun j=>⟨47,[(1,eU hs),(2, .c (.ptr 2 0)),(6,I .i64 lz),(9, .c (.ptr 9 0))],[(2, .box ((au ⟨ps,rp⟩).map C.d)),(9, .box [.d (.v (.int .i64 ((f0+j:Nat):Int)))])]⟩)
   (Inv:=fun j=>j≤M∧∀i,i<j→fB (f0+i)=true) (μ:=fun j=>M-j) 0 ⟨by omega,by omega⟩ ?_ ?_
  ·rw[hlz]
   exact tK @Nat.add_zero
  rintro j ⟨hj,hall⟩
  try refine nv ?_
  refine af ?_ ?_
  rotate_left
  ·intro hgt
   have hgt':j=M:=by have:¬((f0+j:Nat):Int)≤lz:=by simpa using hgt
                     omega
   subst hgt'
   try refine nv ?_
   refine rA [] ?_
   refine⟨?_,rfl⟩
   rw[hfin hall];rfl
  intro hle
  have hle':j<M:=by have:((f0+j:Nat):Int)≤lz:=by simpa using hle
                    omega
  have hc:=hcont (f0+j) (by omega)
  generalize hfb:fB (f0+j)=f at hc
  try refine nv ?_
  refine qQ ([(2, .box ((au ⟨ps,rp⟩).map C.d)),(9, .box [.d (.v (.int .i64 ((f0+j:Nat):Int)))])]) (hc) ?_
  rintro rv9 st' ⟨rfl,rfl⟩<;>refine qU ?_
  try refine nv ?_
  refine af ?_ ?_
  ·intro h
   have h':f=false:=by simpa using h
   try refine nv ?_
   refine rA [] ?_
   refine⟨?_,rfl⟩
   rw[hhit j hle' (by rw[hfb,h']) hall]
  intro h
  have h':f=true:=by simpa using h
  have hj9:f0+j≤300000:=by omega
  refine aJ ?_
  refine gg ?_
  refine aJ ?_
  refine aG (s':=⟨47,[(1,eU hs),(2, .c (.ptr 2 0)),(6,I .i64 lz),(46,I .i64 ((f0+j:Nat):Int))],[(2, .box ((au ⟨ps,rp⟩).map C.d))]⟩) ?_ ?_
  ·exact aW
  try refine nv ?_
  refine⟨j+1,⟨by omega,fun i hi=>?_⟩,by omega,?_⟩
  ·rcases Nat.lt_succ_iff_lt_or_eq.1 hi with hi|rfl
   ·exact hall i hi
   ·rw[hfb,h']
  ·have e9:((f0+(j+1):Nat):Int)=((f0+j:Nat):Int)+1:=by omega
   rw[e9]
   exact aW
 |true=>
  rw[hr,if_pos rfl] at hR
  obtain⟨ps,rp⟩:=b
  simp only at hR hb1 hr
  have hmg:=N7 hs ps.length
  have hmx:=Nw hs ps.length hb1 fun h hx=>(hh h hx).1
  obtain⟨f0,hf0⟩:∃f0:Nat,f0=ps.length+1:=⟨_,rfl⟩
  rw[←hf0] at hR
  obtain⟨M,hM⟩:∃M:Nat,M=lH hs ps.length+1-ps.length:=⟨_,rfl⟩
  rw[←hM] at hR
  obtain⟨lz,hlz⟩:∃lz:Int,lz=((lH hs ps.length+1:Nat):Int):=⟨_,rfl⟩
  have hfin:(∀i,i<M→fB (f0+i)=true)→R=0:=fun h=>by
   have:(List.range M).find? (fun j=>!fB (f0+j))=none:=by
    rw[List.find?_eq_none]
    intro i hi
    rw[h i (List.mem_range.1 hi)];simp
   rw[this] at hR
   exact hR
  have hhit:∀j,j<M→fB (f0+j)=false→(∀i,i<j→fB (f0+i)=true)→R=f0+j:=fun j hj h h2=>by
   rw[find_range (M:=M) (j:=j) hj (by rw[h];rfl) (fun i hi=>by rw[h2 i hi];rfl)] at hR
   exact hR
  refine bV Tryz.func181 Tryz.ntmps181 fun x hx=>?_
  try refine nv ?_
  refine dr ([]) ?_ ?_
  ·exact rC
  try refine nv ?_
  refine af ?_ ?_
  rotate_left
  ·intro h;rw[hr] at h;cases h
  intro _
  try refine nv ?_
  refine ag (ι:=Nat) (I:=fun k=>⟨47,[(1,eU hs),(2, .c (.ptr 2 0)),(5,I .i64 f0),(6,I .i64 ((lH (hs.take k) ps.length+1:Nat):Int)),(22,eU hs),(23,I .i64 hs.length),(24,I .i64 k)],[(2, .box ((au ⟨ps,rp⟩).map C.d))]⟩)
   (Inv:=fun k=>k≤hs.length) (μ:=fun k=>hs.length-k) 0 (by omega) ?_ ?_
  ·have e1:((ps.length+1:Nat):Int)=(ps.length:Int)+1:=by omega
   rw[hf0]
   (refine fZ (fun i=>i) rfl ?_ ⟨?_,?_,?_,gu hx (by simp[ae,Ab.get])⟩<;>first|(simp only[kE,aQ, ↓reduceIte,Nat.reduceEqDiff,reduceCtorEq,lH,e1];done)|simp[di,bf,aA,Ab.get,aZ,dH,aN,bY,bG,bH,bD,bI,bC,ae,List.flatten,lH,e1])
  intro k hk
  try refine nv ?_
  refine af ?_ ?_
  ·intro hlt
   have hlt':k<hs.length:=by simpa using hlt
   obtain⟨v,hv,he,htk⟩:=round au hs k bz hlt'
   have hm:lH (hs.take (k+1)) ps.length=max (lH (hs.take k) ps.length) v.parts.length:=by rw[htk,yX]
   have hmi:((max (lH (hs.take k) ps.length) v.parts.length+1:Nat):Int)=max ((lH (hs.take k) ps.length+1:Nat):Int) ((v.parts.length:Int)+1):=by omega
   have hvl:=(hh v (List.mem_of_getElem? hv)).1
   try refine nx @he ?_
   refine⟨k+1,by omega,by omega,?_⟩
   rw[hm,hmi]
   exact aW
  intro hge
  have hk':k=hs.length:=by have:¬k<hs.length:=by simpa using hge
                           omega
  rw[hk',List.take_length]
  generalize lH hs ps.length=mx at hmx hmg hM hlz
  have hlz2:lz=(f0:Int)+M-1:=by omega
  try refine nv ?_
  refine ag (ι:=Nat) (I:=fun j=>⟨47,[(1,eU hs),(2, .c (.ptr 2 0)),(6,I .i64 lz),(9, .c (.ptr 9 0))],[(2, .box ((au ⟨ps,rp⟩).map C.d)),(9, .box [.d (.v (.int .i64 ((f0+j:Nat):Int)))])]⟩)
   (Inv:=fun j=>j≤M∧∀i,i<j→fB (f0+i)=true) (μ:=fun j=>M-j) 0 ⟨by omega,by omega⟩ ?_ ?_
  ·rw[hlz]
   exact tK @Nat.add_zero
  rintro j ⟨hj,hall⟩
  try refine nv ?_
  refine af ?_ ?_
  rotate_left
  ·intro hgt
   have hgt':j=M:=by have:¬((f0+j:Nat):Int)≤lz:=by simpa using hgt
                     omega
   subst hgt'
   try refine nv ?_
   refine rA [] ?_
   refine⟨?_,rfl⟩
   rw[hfin hall];rfl
  intro hle
  have hle':j<M:=by have:((f0+j:Nat):Int)≤lz:=by simpa using hle
                    omega
  have hc:=hcont (f0+j) (by omega)
  generalize hfb:fB (f0+j)=f at hc
  try refine nv ?_
  refine qQ ([(2, .box ((au ⟨ps,rp⟩).map C.d)),(9, .box [.d (.v (.int .i64 ((f0+j:Nat):Int)))])]) (hc) ?_
  rintro rv9 st' ⟨rfl,rfl⟩<;>refine qU ?_
  try refine nv ?_
  refine af ?_ ?_
  ·intro h
   have h':f=false:=by simpa using h
   try refine nv ?_
   refine rA [] ?_
   refine⟨?_,rfl⟩
   rw[hhit j hle' (by rw[hfb,h']) hall]
  intro h
  have h':f=true:=by simpa using h
  have hj9:f0+j≤300000:=by omega
  refine aJ ?_
  refine gg ?_
  refine aJ ?_
  refine aG (s':=⟨47,[(1,eU hs),(2, .c (.ptr 2 0)),(6,I .i64 lz),(46,I .i64 ((f0+j:Nat):Int))],[(2, .box ((au ⟨ps,rp⟩).map C.d))]⟩) ?_ ?_
  ·exact aW
  try refine nv ?_
  refine⟨j+1,⟨by omega,fun i hi=>?_⟩,by omega,?_⟩
  ·rcases Nat.lt_succ_iff_lt_or_eq.1 hi with hi|rfl
   ·exact hall i hi
   ·rw[hfb,h']
  ·have e9:((f0+(j+1):Nat):Int)=((f0+j:Nat):Int)+1:=by omega
   rw[e9]
   exact aW
def z130.kk:=p5 kB Tryz.ntmps130 df fM Tryz.results130
open z130 in
theorem abA (b:aX) (hs:List aX) (hb:PB 100000 b) (hl:hs.length≤100000) (hh:∀h∈hs,PB 100000 h) (hbo:dL b) (hho:∀h∈hs,dL h):
 AC Tryz.prog 130 [aPat b,eU hs] [] (fun r st=>r=B (decide (yK ⟨b,hs⟩=0))∧st=[]):=by
 have h:=Py b hs hb hl hh hbo hho
 generalize yK ⟨b,hs⟩=n at h
 refine bV Tryz.func130 Tryz.ntmps130 fun x hx=>?_
 (repeat (first|refine nv ?_|refine cf (h) ?_))
 refine rA [] ?_
 refine⟨?_,rfl⟩
 rw[show decide ((n:Int)=0)=decide (n=0) from decide_eq_decide.2 (by omega)]
end Go.Proofs.YtcpgicfphakdaaaGreatDoor
namespace Go.Proofs.YtcpgicfphakdaaaGreatDoor
open Go.Ab Tys
variable [Dr]
def z92.kk:=p11 kB kG kS Tryz.ntmps92 kZ iI jA uK rJ ny Tryz.results92
open z92 in
theorem LD (d:bK) (p:ByteArray) (n:Int) (hd:d.revs.length≤1000000):AC Tryz.prog 92 [sH d,Str p,I .i64 n] [] (fun r st=>r= .tup [Cc ((iE d p n).getD ai),pB (iE d p n).isSome]∧st=[]):=by
 have hg:=uF d p n hd
 cases eg:oQ d p n with
 |none=>
  rw[eg] at hg
  simp only[Cc,pB,Option.isSome,Option.getD] at hg
  refine bV Tryz.func92 Tryz.ntmps92 fun x hx=>?_
  (repeat (first|refine nv ?_|refine cf (hg) ?_))
  refine af ?_ ?_
  ·intro _
   try refine nv ?_
   refine rA [] ?_
   refine⟨?_,rfl⟩
   simp[iE,eg,ai]
  ·intro h;simp at h
 |some v=>
  rw[eg] at hg
  simp only[Cc,pB,Option.isSome,Option.getD] at hg
  refine bV Tryz.func92 Tryz.ntmps92 fun x hx=>?_
  (repeat (first|refine nv ?_|refine cf (hg) ?_))
  refine af ?_ ?_
  ·intro h
   have h':v.act=5:=by simpa using h
   try refine nv ?_
   refine rA [] ?_
   refine⟨?_,rfl⟩
   simp[iE,eg,ai,h']
  ·intro h
   have h':¬v.act=5:=by simpa using h
   try refine nv ?_
   refine rA [] ?_
   refine⟨?_,rfl⟩
   simp[iE,eg,h']
def z34.kk:=p2 (p9 kB kG kS Tryz.ntmps34 Tryz.underlying27 kZ lL iI mf) (p9 U7 sU jA uO uK rJ sK ny Tryz.results34)
open z34 in
theorem MG (d:bK) (f:bP) (hd:d.revs.length≤1000000):AC Tryz.prog 34 [sH d,uI f] [] (fun r st=>r=ja (line d f)∧st=[]):=by
 refine bV Tryz.func34 Tryz.ntmps34 fun x hx=>?_
 try refine nv ?_
 refine mg (eG (i:=5) (id:=100) (sz:=12) rfl rfl (by omega)) ?_
 refine dM ?_
 refine ag (ι:=Nat) (I:=fun k=>⟨31,[(2, .c (.ptr 2 0)),(3, .c (.ptr 3 0)),(5, .c (.ms 100 12 0 ((d.revs.take k).filter (lU d f)).length)),(9,ja d.revs),(10,I .i64 d.revs.length),(11,I .i64 k)],
  [(2, .box ((fD d).map C.d)),(3, .box ((fJ f).map C.d)),(100,aQ 12 (((d.revs.take k).filter (lU d f)).map ax))]⟩)
  (Inv:=fun k=>k≤d.revs.length) (μ:=fun k=>d.revs.length-k) 0 (by omega) ?_ ?_
 ·exact aW
 ·intro k hk
  have hF:=lg (lU d f) d.revs k
  try refine nv ?_
  refine af ?_ ?_
  ·intro hlt
   have hlt':k<d.revs.length:=by simpa using hlt
   obtain⟨v,hv,he,htk⟩:=round ax d.revs k ai hlt'
   try refine nx @he ?_
   refine dr ([(21,uI (first d v))]) ?_ ?_
   ·exact gI (rW d v hd)
   refine aJ ?_
   have hcond:(bif !decide (v.act=5) then decide ((first d v).path=f.path)&&decide ((first d v).num=f.num) else false)=lU d f v:=by
    simp only[lU]
    generalize first d v=g
    cases g;cases f
    cases decide (v.act=5)<;>simp[Bool.decide_and]
   refine af ?_ ?_
   ·intro heq
    have heq':lU d f v=true:=by rw[←hcond];simpa using heq
    try refine nv ?_
    refine⟨k+1,by omega,by omega,?_⟩
    (refine fZ (fun i=>if i=100 then 28 else i) rfl ?_ ⟨?_,?_,?_,keepR hx (by simp[ae,Ab.get])⟩<;>first|(intro i hi;have h0:=hx i hi;constructor<;>(revert h0;simp only[ae,Ab.get];(repeat' split)<;>simp_all);done)|(simp only[kE,aQ, ↓reduceIte,Nat.reduceEqDiff,reduceCtorEq];done)|(simp only[aQ,oN,oh,List.mem_cons,List.not_mem_nil,or_false,forall_eq_or_imp,forall_eq];simp[gJ,gX,eX,iM,aA,Ab.get,aZ,dH,aN,bY,bG,bH,bD,bI,bC,ae,List.flatten,htk,heq',List.filter_append];done)|simp[gJ,gX,eX,iM,aA,Ab.get,aZ,dH,aN,bY,bG,bH,bD,bI,bC,ae,List.flatten,htk,heq',List.filter_append])
   ·intro hne
    have hne':lU d f v=false:=by rw[←hcond];simpa using hne
    try refine nv ?_
    refine⟨k+1,by omega,by omega,?_⟩
    (refine fZ (fun i=>i) rfl ?_ ⟨?_,?_,?_,gu hx (by simp[ae,Ab.get])⟩<;>first|(simp only[kE,aQ, ↓reduceIte,Nat.reduceEqDiff,reduceCtorEq,htk,hne',List.filter_append];done)|simp[di,bf,aA,Ab.get,aZ,dH,aN,bY,bG,bH,bD,bI,bC,ae,List.flatten,htk,hne',List.filter_append])
  ·intro hge
   have hge':k=d.revs.length:=by have:¬k<d.revs.length:=by simpa using hge
                                 omega
   refine aJ ?_
   refine aG (aI (i:=5) (id:=100) (ys:=((d.revs.take k).filter (lU d f)).map ax) rfl rfl (by simp)) ?_
   refine dM ?_
   try refine nv ?_
   refine rA [] ?_
   refine⟨?_,rfl⟩
   simp[line,hge']
end Go.Proofs.YtcpgicfphakdaaaGreatDoor
