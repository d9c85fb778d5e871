/- A part of the proof. -/
import Derived.Test.YtcpgicfphakdaaaGreatDoorRX2
import Derived.Test.YtcpgicfphakdaaaGreatDoorRL3a
import Derived.Test.YtcpgicfphakdaaaGreatDoorRH7
set_option linter.all false
namespace Go.Proofs.YtcpgicfphakdaaaGreatDoor
open Go.Ab Tys
variable [Dr]
@[reducible] def qm:C:= .d (.v (.slice none 0 0))
@[reducible] def Af:Option aX→Bool×List C
 |none=>(true,[qm, .d (.v (.bool false))])
 |some p=>adr p
theorem kK (p q:aX):∀k,(gW p q k).length=k
 |0=>rfl
 |k+1=>by simp[gW,kK p q k]
theorem RY {p q:aX}:(bif bif decide ((q.parts.length:Int)<p.parts.length) then !q.rest else false then true else bif decide ((p.parts.length:Int)=q.parts.length) then !(p.rest==q.rest) else false)=
 decide ((q.parts.length<p.parts.length∧q.rest=false)∨(p.parts.length=q.parts.length∧p.rest≠q.rest)):=by
 rw[show decide ((q.parts.length:Int)<p.parts.length)=decide (q.parts.length<p.parts.length) by simp,show decide ((p.parts.length:Int)=q.parts.length)=decide (p.parts.length=q.parts.length) from decide_eq_decide.2 (by omega)]
 by_cases a:q.parts.length<p.parts.length<;>by_cases b:p.parts.length=q.parts.length<;>cases e1:p.rest<;>cases e2:q.rest<;>simp_all
def aex.kk:=XD kB kG kS Tryz.ntmps151 Tryz.underlying4 Tryz.underlying74 df eH dW gV yR jO fM jy Tryz.results151
set_option maxRecDepth 100000 in
set_option maxHeartbeats 8000000 in
open aex in
theorem L9 (p q:aX) (hp:PB 1000000 p) (hq:PB 1000000 q):AC Tryz.prog 151 [aPat p,aPat q] [] (fun r st=>r= .tup [Af (gz p q),pB (gz p q).isSome]∧st=[]):=by
 have hcp:=iQ p hp
 have hcq:=iQ q hq
 have hok:fG p=decide (aS p=0):=rfl
 have hokq:fG q=decide (aS q=0):=rfl
 obtain⟨a,b,hab⟩:∃a b:aX,(a,b)=if p.parts.length<q.parts.length then(q,p) else(p,q):=⟨_,_,rfl⟩
 have hM:gz p q=if fG p&&fG q then sD a b else none:=by
  unfold gz
  split
  ·by_cases hl:p.parts.length<q.parts.length
   ·rw[if_pos hl] at hab⊢;cases hab;rfl
   ·rw[if_neg hl] at hab⊢;cases hab;rfl
  ·rfl
 have ha:PB 1000000 a:=by split at hab<;>cases hab<;>assumption
 have hb:PB 1000000 b:=by split at hab<;>cases hab<;>assumption
 have hba:b.parts.length≤a.parts.length:=by split at hab<;>(cases hab;omega)
 generalize hMM:gz p q=M at hM
 generalize aS p=ep at hcp hok
 generalize aS q=eq at hcq hokq
 refine bV Tryz.func151 Tryz.ntmps151 fun x hx=>?_
 (repeat (first|refine nv ?_|refine cf (hcp) ?_))
 refine so ([(15,I .i64 eq)]) ?_ ?_
 ·exact gI @hcq
 try refine nv ?_
 refine af ?_ ?_
 ·intro h
  have hR:M=none:=by
   rw[hM,hok,hokq]
   by_cases e1:ep=0
   ·by_cases e2:eq=0
    ·simp only[e1,e2,decide_true,Bool.not_true,cond_false] at h;cases h
    ·simp[e2]
   ·simp[e1]
  try refine nv ?_
  refine rA [] ?_
  refine⟨?_,rfl⟩
  rw[hR];rfl
 intro h
 have h0:ep=0∧eq=0:=by
  by_cases e1:ep=0
  ·by_cases e2:eq=0
   ·exact⟨e1,e2⟩
   ·simp[e1,e2] at h
  ·simp[e1] at h
 obtain⟨e1,e2⟩:=h0
 simp only[hok,hokq,e1,e2,decide_true,Bool.and_true,if_true] at hM
 try refine nv ?_
 refine lW ⟨107,[(2, .c (.ptr 2 0)),(3, .c (.ptr 3 0)),(4, .c (.ptr 4 0))],[(2, .box ((au a).map C.d)),(3, .box ((au b).map C.d)),(4, .box [qm, .d (.v (.bool false))])]⟩ ?_ ?_
 ·refine af ?_ ?_
  ·intro hl
   have hl':p.parts.length<q.parts.length:=by have:=of_decide_eq_true hl;omega
   rw[if_pos hl'] at hab
   cases hab
   try refine nv ?_
   refine⟨rfl,?_⟩
   exact aW
  ·intro hl
   have hl':¬p.parts.length<q.parts.length:=by have:=of_decide_eq_false hl;omega
   rw[if_neg hl'] at hab
   cases hab
   try refine nv ?_
   refine⟨rfl,?_⟩
   exact aW
 clear hcp hcq hok hokq hp hq
 have hcond:=RY (p:=a) (q:=b)
 have hm1:sD a b=if(b.parts.length<a.parts.length∧b.rest=false)∨(a.parts.length=b.parts.length∧a.rest≠b.rest) then none
  else if(List.range a.parts.length).all (ug a b) then some ⟨gW a b a.parts.length,a.rest⟩ else none:=rfl
 rw[hm1] at hM
 have hbB:∀i,ug a b i=(decide (b.parts.length≤i)||aF (a.parts.getD i noS) (b.parts.getD i noS)||aF (b.parts.getD i noS) (a.parts.getD i noS)):=fun _=>rfl
 have hbT:∀k,gW a b (k+1)=gW a b k++[if decide (b.parts.length≤k)||aF (a.parts.getD k noS) (b.parts.getD k noS) then a.parts.getD k noS else b.parts.getD k noS]:=fun _=>rfl
 have hb0:gW a b 0=[]:=rfl
 have hbl:=kK a b
 have hag:=ha.get
 have hbg:=hb.get
 have ha1:=ha.1
 have hb1:=hb.1
 generalize gW a b=mT at hM hbT hbl hb0
 generalize ug a b=mB at hM hbB
 obtain⟨ps,rp⟩:=a
 obtain⟨qs,rq⟩:=b
 simp only at hcond hM hbB hbT hba ha1 hb1 hag hbg
 try refine nv ?_
 refine af ?_ ?_
 ·intro h
  rw[hcond] at h
  rw[if_pos (of_decide_eq_true h)] at hM
  try refine nv ?_
  refine rA [] ?_
  refine⟨?_,rfl⟩
  rw[hM];rfl
 intro h
 rw[hcond] at h
 rw[if_neg (of_decide_eq_false h)] at hM
 refine aJ ?_
 refine gg ?_
 refine aJ ?_
 refine aG (pW (bid:=7) (j:=0) (id:=100) (sz:=1) rfl rfl rfl (by omega)) ?_
 refine dM ?_
 try refine nv ?_
 refine ag (ι:=Nat) (I:=fun k=>⟨107,[(3, .c (.ptr 3 0)),(4, .c (.ptr 4 0)),(6,I .i64 qs.length),(7, .c (.ptr 7 0)),(60,dJ ps),(61,I .i64 ps.length),(62,I .i64 k)],
  [(3, .box ((au ⟨qs,rq⟩).map C.d)),(4, .box [qm, .d (.v (.bool false))]),(7, .box [.ms 100 1 0 (mT k).length, .d (.v (.bool rp))]),(100,aQ 1 ((mT k).map encS))]⟩)
  (Inv:=fun k=>k≤ps.length∧(List.range k).all mB=true) (μ:=fun k=>ps.length-k) 0 ⟨by omega,rfl⟩ ?_ ?_
 ·exact tK @hb0
 rintro k ⟨hk,hall⟩
 have hbk:=hbl k
 try refine nv ?_
 refine af ?_ ?_
 ·intro hlt
  have hlt':k<ps.length:=by simpa using hlt
  obtain⟨v,hv,he,_⟩:=round encS ps k noS hlt'
  have ev:=fH (z:=noS) hv
  have hvs:v.size≤1000000:=by rw[←ev];exact hag k
  have e0:((qs.map encS).getD k []).getD 0 (D.v (.string .empty))=D.v (.string (qs.getD k noS)):=by
   simp only[List.getD_eq_getElem?_getD,List.getElem?_map]
   cases qs[k]?<;>rfl
  have hin:AC Tryz.prog 212 [Str v, .c (.d (((qs.map encS).getD k []).getD 0 (D.v (.string .empty))))] [] (fun r st=>r=B (aF v (qs.getD k noS))∧st=[]):=by rw[e0];exact zT v _ hvs (hbg k)
  have hbBk:=hbB k
  rw[ev] at hbBk
  have hbTk:=hbT k
  rw[ev] at hbTk
  try refine nx @he ?_
  refine so ([(79,B (aF v (qs.getD k noS)))]) ?_ ?_
  ·exact gI @hin
  try refine nv ?_
  have e9:(bif decide ((qs.length:Int)≤k) then true else aF v (qs.getD k noS))=(decide (qs.length≤k)||aF v (qs.getD k noS)):=by
   rw[show decide ((qs.length:Int)≤k)=decide (qs.length≤k) by simp];cases decide (qs.length≤k)<;>rfl
  refine af ?_ ?_
  ·intro hc
   rw[e9] at hc
   try refine nv ?_
   refine⟨k+1,⟨by omega,by rw[List.range_succ,List.all_append,hall];simp only[List.all_cons,List.all_nil,hbBk,hc];rfl⟩,by omega,?_⟩
   rw[hc,if_pos rfl] at hbTk
   rw[hbTk]
   exact uY (fun i=>if i=100 then 85 else i)
  intro hc
  rw[e9] at hc
  have hkn:k<qs.length:=by
   by_cases e:qs.length≤k
   ·simp[e] at hc
   ·omega
  obtain⟨u,hu,he2,_⟩:=round encS qs k noS hkn
  have eu:=fH (z:=noS) hu
  have hus:u.size≤1000000:=by rw[←eu];exact hbg k
  (repeat (first|refine nx @he2 ?_|refine cf (zT u v hus hvs) ?_))
  refine af ?_ ?_
  ·intro hd
   refine aJ ?_
   refine dx ([]) @he2 ?_ ?_
   ·exact rC
   try refine nv ?_
   refine⟨k+1,⟨by omega,by rw[List.range_succ,List.all_append,hall];simp only[List.all_cons,List.all_nil,hbBk,eu,hd,Bool.or_true,Bool.and_true]⟩,by omega,?_⟩
   rw[hc,if_neg (by simp),eu] at hbTk
   rw[hbTk]
   exact uY (fun i=>if i=100 then 103 else i)
  ·intro hd
   have hR:M=none:=by
    rw[hM,if_neg]
    intro e
    have:=gB _ k _ hlt' e
    rw[hbBk,hc,eu,hd] at this;cases this
   try refine nv ?_
   refine rA [] ?_
   refine⟨?_,rfl⟩
   rw[hR];rfl
 intro hge
 have hk':k=ps.length:=by have:¬k<ps.length:=by simpa using hge
                          omega
 subst hk'
 rw[if_pos hall] at hM
 refine aJ ?_
 refine aG (dY (bid:=7) (id:=100) (sz:=1) (j:=0) (ys:=(mT ps.length).map encS) (by decide) rfl rfl rfl (by simp)) ?_
 refine dM ?_
 try refine nv ?_
 refine rA [] ?_
 refine⟨?_,rfl⟩
 rw[hM];rfl
end Go.Proofs.YtcpgicfphakdaaaGreatDoor
namespace Go.Proofs.YtcpgicfphakdaaaGreatDoor
open Go.Ab Tys
variable [zG]
@[reducible] def FB (r:aX×Int):Bool×List C:=if r.2=0 then adr r.1 else(true,[qm, .d (.v (.bool false))])
theorem vN (ps:List ByteArray) (l:List aX):∀k,(jl ps l k).length=k
 |0=>rfl
 |k+1=>by simp[jl,vN ps l k]
theorem Iq (ps:List ByteArray) (l:List aX) (k:Nat):yg ps l (k+1)=(yg ps l k&&(!aP (ps.getD k noS)||rH (l.getD (aj (ps.take k)) bz))):=by
 simp[yg,List.range_succ,List.all_append]
theorem Yy {ps:List ByteArray} {l:List aX} {k n:Nat} (hk:k<n) (h:(!aP (ps.getD k noS)||rH (l.getD (aj (ps.take k)) bz))=false):yg ps l n=false:=by
 cases e:yg ps l n
 ·rfl
 ·have:=gB n k _ hk e
  rw[h] at this;cases this
theorem Xr {b:aX}:(bif bif !decide ((b.parts.length:Int)=1) then true else b.rest then true else !dE (b.parts.getD 0 noS))=!rH b:=by
 unfold rH
 rw[show decide ((b.parts.length:Int)=1)=decide (b.parts.length=1) from decide_eq_decide.2 (by omega)]
 cases decide (b.parts.length=1)<;>cases b.rest<;>cases dE (b.parts.getD 0 noS)<;>rfl
def z208.kk:=p2 (p11 kB kG kS Tryz.ntmps208 Tryz.underlying286 Tryz.underlying74 Hf df NH eH yw) (p10 yl dW gV UO Qn yR jO fM jy Tryz.results208)
set_option maxRecDepth 100000 in
set_option maxHeartbeats 16000000 in
open z208 in
theorem Zj (p:aX) (hp:PB 100000 p) (l:List aX) (hll:l.length≤100000) (hlb:∀b∈l,PB 100000 b):AC Tryz.prog 208 [aPat p,eU l] [] (fun r st=>r= .tup [FB (fC p l),pI (fC p l).2]∧st=[]):=by
 have hck:=iQ p (hp.mono (by omega))
 have hwl:=P5 p (hp.mono (by omega))
 have hF:fC p l=fC p l:=rfl
 have hok:fG p=decide (aS p=0):=rfl
 have hwd:jS p=aj p.parts+(if p.rest then 1 else 0):=rfl
 conv at hF=>rhs;unfold fC
 obtain⟨ps,rs⟩:=p
 have h1:=hp.1
 simp only at h1 hF
 generalize fC ⟨ps,rs⟩ l=R at hF
 refine bV Tryz.func208 Tryz.ntmps208 fun x hx=>?_
 (repeat (first|refine nv ?_|refine cf (hck) ?_))
 refine af ?_ ?_
 ·intro h
  have h':fG ⟨ps,rs⟩=false:=by rw[hok];simpa using h
  have hne:¬aS ⟨ps,rs⟩=0:=by simpa using h
  rw[h'] at hF
  try refine nv ?_
  refine rA [] ?_
  refine⟨?_,rfl⟩
  rw[hF];simp[FB,hne]
 intro h
 have h':fG ⟨ps,rs⟩=true:=by rw[hok];simpa using h
 rw[if_pos h'] at hF
 (repeat (first|refine nv ?_|refine cf (hwl) ?_))
 refine af ?_ ?_
 ·intro hw
  have hw':¬l.length=jS ⟨ps,rs⟩:=by
   intro e
   rw[e] at hw;simp at hw
  rw[if_neg hw'] at hF
  try refine nv ?_
  refine rA [] ?_
  refine⟨?_,rfl⟩
  rw[hF];rfl
 intro hw
 have hw':l.length=jS ⟨ps,rs⟩:=by
  have:((l.length:Int)=(jS ⟨ps,rs⟩:Nat)):=by simpa using hw
  omega
 rw[if_pos hw'] at hF
 rw[hwd] at hw'
 simp only at hw'
 refine aJ ?_
 refine gg ?_
 refine aJ ?_
 refine aG (pW (bid:=7) (j:=0) (id:=100) (sz:=1) rfl rfl rfl (by omega)) ?_
 refine dM ?_
 try refine nv ?_
 refine ag (ι:=Nat) (I:=fun k=>⟨121,[(1,eU l),(2, .c (.ptr 2 0)),(4, .c (.ptr 4 0)),(7, .c (.ptr 7 0)),(8,I .i64 (aj (ps.take k))),(30,dJ ps),(31,I .i64 ps.length),(32,I .i64 k)],
  [(2, .box ((au ⟨ps,rs⟩).map C.d)),(4, .box [qm, .d (.v (.bool false))]),(7, .box [.ms 100 1 0 (jl ps l k).length, .d (.v (.bool false))]),(100,aQ 1 ((jl ps l k).map encS))]⟩)
  (Inv:=fun k=>k≤ps.length∧yg ps l k=true) (μ:=fun k=>ps.length-k) 0 ⟨by omega,rfl⟩ ?_ ?_
 ·((try simp only[jl]);exact tK @nJ)
 rintro k ⟨hk,hall⟩
 have hfl:=vN ps l k
 have hsl:=xX ps k
 try refine nv ?_
 refine af ?_ ?_
 ·intro hlt
  have hlt':k<ps.length:=by simpa using hlt
  obtain⟨v,hv,he,_⟩:=round encS ps k noS hlt'
  have ev:=fH (z:=noS) hv
  have hvs:v.size≤100000:=hp.2 v (List.mem_of_getElem? hv)
  have hsv:=oJ v
  have hss:=wI hv
  have hsl2:=xX ps (k+1)
  (repeat (first|refine nx @he ?_|refine cf (qP v (by omega)) ?_))
  refine af ?_ ?_
  ·intro hst
   rw[hst,if_pos rfl] at hss
   obtain⟨b,hb,he2,_⟩:=round au l (aj (ps.take k)) bz (by omega)
   have eb:=fH (z:=bz) hb
   have hbb:PB 100000 b:=hlb b (List.mem_of_getElem? hb)
   have hbs:=hbb.get 0
   have hb1:=hbb.1
   have hcb:=Xr (b:=b)
   have hso:rH b=(decide (b.parts.length=1)&&!b.rest&&dE (b.parts.getD 0 noS)):=rfl
   have hTk:jl ps l (k+1)=jl ps l k++[b.parts.getD 0 noS++jq v]:=by simp only[jl,ev,eb,hst,if_true]
   have hno:=Yy (ps:=ps) (l:=l) (k:=k) (n:=ps.length) hlt'
   have hsu:=Iq ps l k
   rw[ev,eb,hst] at hno hsu
   generalize rH b=sb at hcb hso hno hsu
   obtain⟨bp,br⟩:=b
   simp only at hbs hb1 hcb hso hTk
   have e0:((bp.map encS).getD (Int.toNat 0) []).getD 0 (D.v (.string .empty))=D.v (.string (bp.getD 0 noS)):=by cases bp<;>rfl
   have hpt:AC Tryz.prog 205 [.c (.d (((bp.map encS).getD (Int.toNat 0) []).getD 0 (D.v (.string .empty))))] [] (fun r st=>r=B (dE (bp.getD 0 noS))∧st=[]):=by rw[e0];exact NC _ (by omega)
   try refine nx @he2 ?_
   refine so ([(59,B (dE (bp.getD 0 noS)))]) ?_ ?_
   ·exact gI @hpt
   try refine nv ?_
   refine af ?_ ?_
   ·intro hc
    rw[hcb] at hc
    rw[if_neg (by rw[hno (by simpa using hc)];simp)] at hF
    try refine nv ?_
    refine rA [] ?_
    refine⟨?_,rfl⟩
    rw[hF];rfl
   intro hc
   rw[hcb] at hc
   have hc':sb=true:=by simpa using hc
   have hbl:0<bp.length:=by
    rw[hc'] at hso
    have:=hso.symm
    simp only[Bool.and_eq_true,decide_eq_true_eq] at this
    omega
   (repeat (first|refine xO ?_|refine wX (wr:=false) (by simp only[kk,Nat.reduceAdd,Nat.reduceLT,Nat.reduceEqDiff, ↓reduceIte,reduceCtorEq,e0];first|done|rfl) ?_))
   refine o7 (by simp) (by simp only[kV, ↓reduceIte,Nat.reduceEqDiff,reduceCtorEq];first|done|rfl) (by simp only[kV, ↓reduceIte,Nat.reduceEqDiff,reduceCtorEq];first|done|rfl) ?_ ?_
   ·omega
   try refine nv ?_
   refine⟨k+1,⟨by omega,by rw[hsu,hall,hc'];rfl⟩,by omega,?_⟩
   rw[hTk,hss]
   exact uY (fun i=>if i=100 then 75 else i)
  ·intro hst
   rw[hst,if_neg (by simp)] at hss
   try refine nv ?_
   refine⟨k+1,⟨by omega,by rw[Iq,hall,ev,hst];rfl⟩,by omega,?_⟩
   have e:jl ps l (k+1)=jl ps l k++[v]:=by simp only[jl,ev,hst,if_false,Bool.false_eq_true]
   rw[e,hss]
   exact uY (fun i=>if i=100 then 75 else i)
 intro hge
 have hk':k=ps.length:=by have:¬k<ps.length:=by simpa using hge
                          omega
 subst hk'
 rw[if_pos hall] at hF
 rw[List.take_length]
 try refine nv ?_
 refine af ?_ ?_
 ·intro hr
  subst hr
  rw[if_pos rfl] at hF hw'
  obtain⟨b,hb,he2,_⟩:=round au l (aj ps) bz (by omega)
  have eb:=fH (z:=bz) hb
  have hbb:PB 100000 b:=hlb b (List.mem_of_getElem? hb)
  rw[eb] at hF
  obtain⟨bp,br⟩:=b
  have hb1:=hbb.1
  simp only at hb1 hF
  try refine nx @he2 ?_
  have e9:(bif decide ((bp.length:Int)=0) then !br else false)=!(!bp.isEmpty||br):=by
   cases bp with
   |nil=>cases br<;>rfl
   |cons a t=>
    have:decide ((((a::t).length:Nat):Int)=0)=false:=decide_eq_false (by simp only[List.length_cons];omega)
    rw[this];rfl
  refine af ?_ ?_
  ·intro hc
   rw[e9] at hc
   have hc':(!bp.isEmpty||br)=false:=by simpa only[Bool.not_eq_true'] using hc
   rw[hc',Bool.false_and,if_neg (by simp)] at hF
   try refine nv ?_
   refine rA [] ?_
   refine⟨?_,rfl⟩
   rw[hF];rfl
  intro hc
  rw[e9] at hc
  have hc':(!bp.isEmpty||br)=true:=by simpa only[Bool.not_eq_false'] using hc
  rw[hc',Bool.true_and] at hF
  try refine nv ?_
  refine ag (ι:=Nat) (I:=fun j=>⟨121,[(4, .c (.ptr 4 0)),(7, .c (.ptr 7 0)),(14, .c (.ptr 14 0)),(95,dJ bp),(96,I .i64 bp.length),(97,I .i64 j)],
   [(4, .box [qm, .d (.v (.bool false))]),(7, .box [.ms 100 1 0 (jl ps l ps.length).length, .d (.v (.bool false))]),(14, .box ((au ⟨bp,br⟩).map C.d)),(100,aQ 1 ((jl ps l ps.length).map encS))]⟩)
   (Inv:=fun j=>j≤bp.length∧(bp.take j).all dE=true) (μ:=fun j=>bp.length-j) 0 ⟨by omega,by simp⟩ ?_ ?_
  ·exact aW
  rintro j ⟨hj,hcl2⟩
  try refine nv ?_
  refine af ?_ ?_
  ·intro hlt
   have hlt':j<bp.length:=by simpa using hlt
   obtain⟨v,hv,he,htk⟩:=round encS bp j noS hlt'
   have hvs:v.size≤100000:=hbb.2 v (List.mem_of_getElem? hv)
   (repeat (first|refine nx @he ?_|refine cf (NC v (by omega)) ?_))
   refine af ?_ ?_
   ·intro hb
    have hb':dE v=false:=by simpa using hb
    have hn:¬bp.all dE=true:=by
     intro e
     rw[List.all_eq_true] at e;rw[e v (List.mem_of_getElem? hv)] at hb';cases hb'
    rw[if_neg hn] at hF
    try refine nv ?_
    refine rA [] ?_
    refine⟨?_,rfl⟩
    rw[hF];rfl
   intro hb
   have hb':dE v=true:=by simpa using hb
   try refine nv ?_
   refine⟨j+1,⟨by omega,by rw[htk,List.all_append,hcl2];simp[hb']⟩,by omega,?_⟩
   exact aW
  intro hge
  have hj':j=bp.length:=by have:¬j<bp.length:=by simpa using hge
                           omega
  rw[hj',List.take_length] at hcl2
  rw[if_pos hcl2] at hF
  have o2:∀l∈List.map (fun l=>List.map C.d l) (List.map encS bp),l.length=1:=by
   intro l hl
   obtain⟨y,hy,rfl⟩:=List.mem_map.1 hl
   obtain⟨z,_,rfl⟩:=List.mem_map.1 hy
   rfl
  refine aJ ?_
  refine dr ([]) ?_ ?_
  ·exact gI @o2
  have hLI:decide ((12:Int)<(((jl ps l ps.length).length+bp.length:Nat):Int))=decide (12<(jl ps l ps.length++bp).length):=decide_eq_decide.2 (by rw[List.length_append];omega)
  try refine nv ?_
  refine af ?_ ?_
  ·intro h12
   rw[hLI] at h12
   rw[Cs,if_pos (of_decide_eq_true h12)] at hF
   try refine nv ?_
   refine rA [] ?_
   refine⟨?_,rfl⟩
   rw[hF];rfl
  ·intro h12
   rw[hLI] at h12
   rw[Cs,if_neg (of_decide_eq_false h12)] at hF
   refine aJ ?_
   refine aG (dY (bid:=7) (id:=110) (sz:=1) (j:=0) (ys:=(jl ps l ps.length).map encS++bp.map encS) (by decide) rfl rfl (by simp[Ab.get]) (by simp)) ?_
   refine dM ?_
   try refine nv ?_
   refine rA [] ?_
   refine⟨?_,rfl⟩
   rw[hF];simp[FB,pI]
 ·intro hr
  subst hr
  rw[if_neg (by simp)] at hF
  have hLI:decide ((12:Int)<((jl ps l ps.length).length:Int))=decide (12<(jl ps l ps.length).length):=decide_eq_decide.2 (by omega)
  try refine nv ?_
  refine af ?_ ?_
  ·intro h12
   rw[hLI] at h12
   rw[Cs,if_pos (of_decide_eq_true h12)] at hF
   try refine nv ?_
   refine rA [] ?_
   refine⟨?_,rfl⟩
   rw[hF];rfl
  ·intro h12
   rw[hLI] at h12
   rw[Cs,if_neg (of_decide_eq_false h12)] at hF
   refine aJ ?_
   refine aG (dY (bid:=7) (id:=100) (sz:=1) (j:=0) (ys:=(jl ps l ps.length).map encS) (by decide) rfl rfl rfl (by simp)) ?_
   refine dM ?_
   try refine nv ?_
   refine rA [] ?_
   refine⟨?_,rfl⟩
   rw[hF];rfl
end Go.Proofs.YtcpgicfphakdaaaGreatDoor
