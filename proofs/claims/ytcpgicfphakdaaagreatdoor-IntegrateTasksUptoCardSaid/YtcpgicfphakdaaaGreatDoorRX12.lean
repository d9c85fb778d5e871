/- A part of the proof. -/
import Derived.Test.YtcpgicfphakdaaaGreatDoorRX2
import Derived.Test.YtcpgicfphakdaaaGreatDoorRL3a
set_option maxRecDepth 100000
set_option maxHeartbeats 8000000
set_option linter.all false
namespace Go.Proofs.YtcpgicfphakdaaaGreatDoor
open Go.Ab Tys
variable [Dr]
def z210.kk:=p13 kB kG Tryz.ntmps210 Tryz.underlying74 df eH dW gV yR jO fM jy Tryz.results210
open z210 in
theorem Gx (p q:aX) (hp:PB 1000000 p) (hq:PB 1000000 q):AC Tryz.prog 210 [aPat p,aPat q] [] (fun r st=>r=B (dG p q)∧st=[]):=by
 have hcp:=iQ p hp
 have hcq:=iQ q hq
 have hW:dG p q=(fG p&&fG q&&decide (q.parts.length≤p.parts.length)&&(q.rest||(!p.rest&&decide (p.parts.length≤q.parts.length)))&&!(q.rest&&decide (p.parts.length=q.parts.length)&&!p.rest)
  &&(List.range q.parts.length).all fun i=>aF (p.parts.getD i noS) (q.parts.getD i noS)):=rfl
 have hok:fG p=decide (aS p=0):=rfl
 have hokq:fG q=decide (aS q=0):=rfl
 obtain⟨ps,rp⟩:=p
 obtain⟨qs,rq⟩:=q
 have hp1:=hp.1
 have hq1:=hq.1
 simp only at hp1 hq1 hW
 generalize dG ⟨ps,rp⟩ ⟨qs,rq⟩=R at hW
 generalize aS ⟨ps,rp⟩=ep at hcp hok
 generalize aS ⟨qs,rq⟩=eq at hcq hokq
 refine bV Tryz.func210 Tryz.ntmps210 fun x hx=>?_
 (repeat (first|refine nv ?_|refine cf (hcp) ?_))
 refine so ([(16,I .i64 eq)]) ?_ ?_
 ·exact gI @hcq
 try refine nv ?_
 refine af ?_ ?_
 ·intro h
  have hR:R=false:=by
   rw[hW,hok,hokq]
   by_cases e1:ep=0
   ·by_cases e2:eq=0
    ·simp only[e1,e2,decide_true,Bool.not_true,cond_false] at h
     have:¬qs.length≤ps.length:=by have:=of_decide_eq_true h;omega
     simp[this]
    ·simp[e2]
   ·simp[e1]
  try refine nv ?_
  refine rA [] ?_
  refine⟨?_,rfl⟩
  rw[hR]
 intro h
 have h0:ep=0∧eq=0∧qs.length≤ps.length:=by
  by_cases e1:ep=0
  ·by_cases e2:eq=0
   ·simp only[e1,e2,decide_true,Bool.not_true,cond_false] at h
    exact⟨e1,e2,by have:=of_decide_eq_false h;omega⟩
   ·simp[e1,e2] at h
  ·simp[e1] at h
 obtain⟨e1,e2,hle⟩:=h0
 simp only[hok,hokq,e1,e2,decide_true,decide_eq_true hle,Bool.true_and] at hW
 try refine nv ?_
 have g1:decide ((qs.length:Int)<ps.length)=!decide (ps.length≤qs.length):=by rw[←decide_not];exact decide_eq_decide.2 (by omega)
 have g2:decide ((ps.length:Int)=qs.length)=decide (ps.length=qs.length):=decide_eq_decide.2 (by omega)
 refine af ?_ ?_
 ·intro h
  have hR:R=false:=by
   rw[hW]
   rw[g1,g2] at h
   generalize decide (ps.length≤qs.length)=a at h
   generalize decide (ps.length=qs.length)=b at h
   cases rp<;>cases rq<;>cases a<;>cases b<;>first|rfl|(exact absurd h (by decide))
  try refine nv ?_
  refine rA [] ?_
  refine⟨?_,rfl⟩
  rw[hR]
 intro h
 have hR:R=(List.range qs.length).all fun i=>aF (ps.getD i noS) (qs.getD i noS):=by
  rw[hW]
  rw[g1,g2] at h
  generalize decide (ps.length≤qs.length)=a at h
  generalize decide (ps.length=qs.length)=b at h
  cases rp<;>cases rq<;>cases a<;>cases b<;>first|rfl|(exact absurd h (by decide))
 try refine nv ?_
 refine ag (ι:=Nat) (I:=fun k=>⟨73,[(2, .c (.ptr 2 0)),(57,dJ qs),(58,I .i64 qs.length),(59,I .i64 k)],[(2, .box ((au ⟨ps,rp⟩).map C.d))]⟩)
  (Inv:=fun k=>k≤qs.length∧((List.range k).all fun i=>aF (ps.getD i noS) (qs.getD i noS))=true) (μ:=fun k=>qs.length-k) 0 ⟨by omega,rfl⟩ ?_ ?_
 ·exact aW
 rintro k ⟨hk,hall⟩
 try refine nv ?_
 refine af ?_ ?_
 ·intro hlt
  have hlt':k<qs.length:=by simpa using hlt
  obtain⟨v,hv,he,_⟩:=round encS qs k noS hlt'
  obtain⟨u,hu,he2,_⟩:=round encS ps k noS (by omega)
  have ev:=fH (z:=noS) hv
  have eu:=fH (z:=noS) hu
  have hvs:v.size≤1000000:=hq.2 v (List.mem_of_getElem? hv)
  have hus:u.size≤1000000:=hp.2 u (List.mem_of_getElem? hu)
  (repeat (first|refine nx (p2 @he @he2) ?_|refine cf (zT u v hus hvs) ?_))
  refine af ?_ ?_
  ·intro hb
   have hb':aF u v=false:=by simpa using hb
   have hR2:R=false:=by
    rw[hR]
    cases e:(List.range qs.length).all fun i=>aF (ps.getD i noS) (qs.getD i noS)
    ·rfl
    ·have:=gB _ k _ hlt' e
     simp only[ev,eu,hb'] at this
     cases this
   try refine nv ?_
   refine rA [] ?_
   refine⟨?_,rfl⟩
   rw[hR2]
  ·intro hb
   have hb':aF u v=true:=by simpa using hb
   try refine nv ?_
   refine⟨k+1,⟨by omega,?_⟩,by omega,?_⟩
   ·rw[List.range_succ,List.all_append,hall];simp only[List.all_cons,List.all_nil,ev,eu,hb'];rfl
   ·exact aW
 intro hge
 have hk':k=qs.length:=by have:¬k<qs.length:=by simpa using hge
                          omega
 rw[hk'] at hall
 rw[hall] at hR
 try refine nv ?_
 refine rA [] ?_
 refine⟨?_,rfl⟩
 rw[hR]
@[reducible] def Hg:Option (List aX)→Bool×List C
 |none=>(false,[.d (.v (.slice none 0 0))])
 |some l=>(false,[.d (.ps 2 (l.map au))])
theorem Ej (p q:aX):∀k,(uo p q k).length≤k
 |0=>Nat.le_refl _
 |k+1=>by
  have:=Ej p q k
  simp only[uo,List.length_append]
  split<;>simp<;>omega
theorem SX {p q:aX} (h:dG q p=true):p.parts.length≤q.parts.length:=by
 simp only[dG,Bool.and_eq_true,decide_eq_true_eq] at h
 exact h.1.1.1.2
theorem Rt {p q:aX} (h:dG q p=true) {k:Nat} (hk:k<p.parts.length) (hs:aP (p.parts.getD k noS)=true):(jq (p.parts.getD k noS)).size≤(q.parts.getD k noS).size:=by
 simp only[dG,Bool.and_eq_true] at h
 have h1:=gB _ k _ hk h.2
 simp only[aF,hs,if_true] at h1
 split at h1
 ·have a:=uQ h1
  have b:=oJ (q.parts.getD k noS)
  omega
 ·simp only[lY,hs,if_true] at h1
  split at h1
  ·rename_i h2;exact uQ h2
  ·cases h1
def aen.kk:=p2 (p11 kB kS Tryz.ntmps207 Tryz.underlying286 Tryz.underlying74 Tryz.underlying9 Hf df NH eH yw) (p10 yl dW gV UO Qn yR jO fM jy Tryz.results207)
open aen in
theorem abE (p q:aX) (hp:PB 1000000 p) (hq:PB 1000000 q):AC Tryz.prog 207 [aPat p,aPat q] [] (fun r st=>r= .tup [Hg (jd p q),pB (jd p q).isSome]∧st=[]):=by
 have hw:=Gx q p hq hp
 have hB:jd p q=if dG q p then some (uo p q p.parts.length++(if p.rest then [⟨q.parts.drop p.parts.length,q.rest⟩] else [])) else none:=rfl
 have hlen:=SX (p:=p) (q:=q)
 have hsf:= @Rt _ p q
 have hT:∀k,uo p q (k+1)=uo p q k++(if aP (p.parts.getD k noS) then [⟨[(q.parts.getD k noS).extract 0 ((q.parts.getD k noS).size-(jq (p.parts.getD k noS)).size)],false⟩] else []):=fun _=>rfl
 have hT0:uo p q 0=[]:=rfl
 have hTl:=Ej p q
 have hp1:=hp.1
 have hq1:=hq.1
 have hpg:=hp.get
 have hqg:=hq.get
 generalize uo p q=bT at hB hT hT0 hTl
 generalize jd p q=M at hB
 generalize dG q p=wb at hw hB hlen hsf
 obtain⟨ps,rp⟩:=p
 obtain⟨qs,rq⟩:=q
 simp only at hB hT hlen hsf hp1 hq1 hpg hqg
 refine bV Tryz.func207 Tryz.ntmps207 fun x hx=>?_
 (repeat (first|refine nv ?_|refine cf (hw) ?_))
 refine af ?_ ?_
 ·intro h
  have h':wb=false:=by simpa using h
  rw[h',if_neg (by simp)] at hB
  try refine nv ?_
  refine rA [] ?_
  refine⟨?_,rfl⟩
  rw[hB];rfl
 intro h
 have h':wb=true:=by simpa using h
 rw[if_pos h'] at hB
 have hlen:=hlen h'
 have hsf:= @hsf h'
 refine aJ ?_
 refine gg ?_
 refine aJ ?_
 refine aG (eG (i:=6) (id:=100) (sz:=2) rfl rfl (by omega)) ?_
 refine dM ?_
 try refine nv ?_
 refine ag (ι:=Nat) (I:=fun k=>⟨65,[(2, .c (.ptr 2 0)),(3, .c (.ptr 3 0)),(6, .c (.ms 100 2 0 (bT k).length)),(17,dJ ps),(18,I .i64 ps.length),(19,I .i64 k)],
  [(2, .box ((au ⟨ps,rp⟩).map C.d)),(3, .box ((au ⟨qs,rq⟩).map C.d)),(100,aQ 2 ((bT k).map au))]⟩)
  (Inv:=fun k=>k≤ps.length) (μ:=fun k=>ps.length-k) 0 (by omega) ?_ ?_
 ·exact tK @hT0
 intro k hk
 have hbl:=hTl k
 try refine nv ?_
 refine af ?_ ?_
 ·intro hlt
  have hlt':k<ps.length:=by simpa using hlt
  obtain⟨u,hu,he,_⟩:=round encS ps k noS hlt'
  obtain⟨v,hv,he2,_⟩:=round encS qs k noS (by omega)
  have eu:=fH (z:=noS) hu
  have ev:=fH (z:=noS) hv
  have hus:u.size≤1000000:=by rw[←eu];exact hpg k
  have hvs:v.size≤1000000:=by rw[←ev];exact hqg k
  have hTk:=hT k
  have hsk:= @hsf k hlt'
  rw[eu,ev] at hTk hsk
  (repeat (first|refine nx @he ?_|refine cf (qP u hus) ?_))
  refine af ?_ ?_
  ·intro hs
   have hs':aP u=false:=by simpa using hs
   rw[hs',if_neg (by simp),List.append_nil] at hTk
   try refine nv ?_
   refine⟨k+1,by omega,by omega,?_⟩
   rw[hTk]
   exact aW
  intro hs
  have hs':aP u=true:=by simpa using hs
  rw[hs',if_pos rfl] at hTk
  have hsk:=hsk hs'
  have e9:((v.size:Int)-(jq u).size).toNat=v.size-(jq u).size:=by omega
  refine aJ ?_
  refine gx @he2 ?_
  refine aJ ?_
  refine dR (wr:=false) 8 (by simp only[kk,Nat.reduceAdd,Nat.reduceLT,Nat.reduceEqDiff, ↓reduceIte,reduceCtorEq,e9];first|done|rfl) ?_ ?_
  ·exact rC
  refine aG (aI (i:=44) (id:=44) (sz:=1) (ys:=[encS (v.extract 0 (v.size-(jq u).size))]) rfl rfl rfl) ?_
  refine dM ?_
  try refine nv ?_
  refine⟨k+1,by omega,by omega,?_⟩
  rw[hTk]
  exact uY (fun i=>if i=100 then 47 else i)
 intro hge
 have hk':k=ps.length:=by have:¬k<ps.length:=by simpa using hge
                          omega
 subst hk'
 try refine nv ?_
 refine af ?_ ?_
 ·intro hr
  subst hr
  rw[if_pos rfl] at hB
  have o1:(List.drop ps.length (List.map encS qs)).length*16≤140737488355328:=by rw[List.length_drop,List.length_map];omega
  have o2:∀l∈List.map (fun l=>List.map C.d l) (List.drop ps.length (List.map encS qs)),l.length=1:=by
   intro l hl
   obtain⟨y,hy,rfl⟩:=List.mem_map.1 hl
   obtain⟨z,_,rfl⟩:=List.mem_map.1 (List.mem_of_mem_drop hy)
   rfl
  refine aJ ?_
  refine Ua (wr:=false) 12 ([]:List (Nat×AV)) (by kernel_rfl) (by simp only[List.take_succ_cons,List.take_zero,kD,kk,Nat.reduceAdd,Nat.reduceLT,Nat.reduceEqDiff, ↓reduceIte,reduceCtorEq];first|done|rfl) ?_ (by decide) (by kernel_rfl) (by kernel_rfl) ?_
  rotate_left
  simp only[List.drop_succ_cons,List.drop_zero]
  rotate_left
  ·exact ob2 @o1 @o2
  refine aG (GI (bid:=62) (id:=58) (sz2:=1) (j:=0) (ys:=(qs.map encS).drop ps.length) (by decide) rfl rfl rfl rfl) ?_
  refine dM ?_
  refine gg ?_
  refine aJ ?_
  refine aG (aI (i:=6) (id:=63) (sz:=2) (ys:=(bT ps.length).map au++[[.ps 1 ((qs.map encS).drop ps.length), .v (.bool rq)]]) rfl (by simp[Ab.get]) (by simp)) ?_
  refine dM ?_
  try refine nv ?_
  refine rA [] ?_
  refine⟨?_,rfl⟩
  rw[hB];simp[Hg,pB,List.map_drop]
 ·intro hr
  subst hr
  rw[if_neg (by simp),List.append_nil] at hB
  refine aJ ?_
  refine aG (aI (i:=6) (id:=100) (sz:=2) (ys:=(bT ps.length).map au) rfl rfl (by simp)) ?_
  refine dM ?_
  try refine nv ?_
  refine rA [] ?_
  refine⟨?_,rfl⟩
  rw[hB];rfl
end Go.Proofs.YtcpgicfphakdaaaGreatDoor
namespace Go.Proofs.YtcpgicfphakdaaaGreatDoor
open Go.Ab Tys
variable [zG]
def ae8.kk:=p10 kB Tryz.ntmps265 Tryz.underlying74 df eH dW jO fM jy Tryz.results265
open ae8 in
theorem Zr (p:aX) (i:Nat) (hp:p.parts.length≤1000000) (hi:i≤1000000):AC Tryz.prog 265 [aPat p,I .i64 i] [] (fun x st=>x=Str (oD p i)∧st=[]):=by
 have hR:oD p i=if i<p.parts.length then p.parts.getD i noS else qi:=rfl
 generalize oD p i=R at hR
 obtain⟨ps,rp⟩:=p
 simp only at hR hp
 refine bV Tryz.func265 Tryz.ntmps265 fun x hx=>?_
 try refine nv ?_
 refine af ?_ ?_
 ·intro h
  have h':i<ps.length:=by simpa using h
  obtain⟨v,hv,he,_⟩:=round encS ps i noS h'
  rw[if_pos h',fH (z:=noS) hv] at hR
  try refine nx @he ?_
  refine rA [] ?_
  refine⟨?_,rfl⟩
  rw[hR]
 ·intro h
  have h':¬i<ps.length:=by simpa using h
  rw[if_neg h'] at hR
  try refine nv ?_
  refine rA [] ?_
  refine⟨?_,rfl⟩
  rw[hR]
def aeh.kk:=p12 kB Tryz.ntmps264 Tryz.underlying74 df eH dW gV yR jO fM jy Tryz.results264
open aeh in
theorem Xf (p:aX) (n:Nat) (hp:p.parts.length≤1000000):AC Tryz.prog 264 [aPat p,I .i64 n] [] (fun x st=>x=B (je p n)∧st=[]):=by
 have hR:je p n=if p.rest then decide (p.parts.length<n) else decide (n=p.parts.length):=rfl
 generalize je p n=R at hR
 obtain⟨ps,rp⟩:=p
 simp only at hR hp
 have e1:decide ((ps.length:Int)<n)=decide (ps.length<n):=decide_eq_decide.2 (by omega)
 have e2:decide ((n:Int)=ps.length)=decide (n=ps.length):=decide_eq_decide.2 (by omega)
 refine bV Tryz.func264 Tryz.ntmps264 fun x hx=>?_
 try refine nv ?_
 refine af ?_ ?_
 ·intro h
  rw[if_pos h] at hR
  try refine nv ?_
  refine rA [] ?_
  refine⟨?_,rfl⟩
  rw[hR,e1]
 ·intro h
  rw[if_neg (by simp[h])] at hR
  try refine nv ?_
  refine rA [] ?_
  refine⟨?_,rfl⟩
  rw[hR,e2]
def aey.kk:=p11 kB kG Tryz.ntmps248 Tryz.underlying74 df eH dW jO fM jy Tryz.results248
open aey in
theorem Xq (b h:aX) (n:Nat) (hb:PB 1000000 b) (hh:PB 1000000 h) (hn:n≤1000000):AC Tryz.prog 248 [aPat b,aPat h,I .i64 0,I .i64 n] [] (fun x st=>x=B (jC b h n)∧st=[]):=by
 have h1:=Xf h n hh.1
 have hpt:=fun i=>Zr b i hb.1
 have hR:jC b h n=(je h n&&(List.range (min n h.parts.length)).all fun i=>aF (oD b i) (h.parts.getD i noS)):=rfl
 have hps:∀i,(oD b i).size≤1000000:=by
  intro i
  unfold oD
  split
  ·exact hb.get i
  ·show 1≤1000000;omega
 generalize jC b h n=R at hR
 generalize je h n=cb at h1 hR
 generalize oD b=pn at hpt hR hps
 obtain⟨qs,rq⟩:=h
 obtain⟨ps,rp⟩:=b
 have hq1:=hh.1
 simp only at hR hq1
 refine bV Tryz.func248 Tryz.ntmps248 fun x hx=>?_
 (repeat (first|refine nv ?_|refine cf (h1) ?_))
 refine af ?_ ?_
 ·intro hc
  have e:cb=false:=by simpa using hc
  rw[e,Bool.false_and] at hR
  try refine nv ?_
  refine rA [] ?_
  refine⟨?_,rfl⟩
  rw[hR]
 intro hc
 have e:cb=true:=by simpa using hc
 rw[e,Bool.true_and] at hR
 try refine nv ?_
 refine ag (ι:=Nat) (I:=fun k=>⟨35,[(2,I .i64 k),(3,I .i64 n),(4, .c (.ptr 4 0)),(5, .c (.ptr 5 0))],[(4, .box ((au ⟨ps,rp⟩).map C.d)),(5, .box ((au ⟨qs,rq⟩).map C.d))]⟩)
  (Inv:=fun k=>k≤min n qs.length∧((List.range k).all fun i=>aF (pn i) (qs.getD i noS))=true) (μ:=fun k=>min n qs.length-k) 0 ⟨by omega,rfl⟩ ?_ ?_
 ·exact aW
 rintro k ⟨hk,hall⟩
 try refine nv ?_
 refine af ?_ ?_
 ·intro hlt
  have hlt':k<n∧k<qs.length:=by
   by_cases e:k<n
   ·have e':decide ((k:Int)<n)=true:=decide_eq_true (by omega)
    rw[e'] at hlt
    exact⟨e,by have:=of_decide_eq_true hlt;omega⟩
   ·have e':decide ((k:Int)<n)=false:=decide_eq_false (by omega)
    rw[e'] at hlt;cases hlt
  obtain⟨u,hu,he,_⟩:=round encS qs k noS hlt'.2
  have eu:=fH (z:=noS) hu
  have hus:u.size≤1000000:=hh.2 u (List.mem_of_getElem? hu)
  refine aJ ?_
  refine dx ([(27,Str (pn k)),(33,B (aF (pn k) u))]) @he ?_ ?_
  ·simp only[All,List.cons_append,List.nil_append,dI,List.mem_cons,List.not_mem_nil,or_false,forall_eq_or_imp,forall_eq,aZ,aN,dH,aO,bF,and_true,true_and,implies_true,List.length_map,List.length_cons,List.length_nil,aQ,jo,dm]
   repeat' (first|exact trivial|exact hpt k (by omega)|exact zT (pn k) u (hps k) hus|refine And.intro ?_ ?_|intro _|assumption|rfl|omega|(rw[Bool.not_eq_true'];assumption)|(simp;done)|(simp only[decide_eq_true_eq] at*;omega)|(simp_all;done))
  refine aJ ?_
  refine af ?_ ?_
  ·intro hb
   have hb':aF (pn k) u=false:=by simpa using hb
   have hR2:R=false:=by
    rw[hR]
    cases e:(List.range (min n qs.length)).all fun i=>aF (pn i) (qs.getD i noS)
    ·rfl
    ·have:=gB _ k _ (by omega) e
     rw[eu,hb'] at this;cases this
   try refine nv ?_
   refine rA [] ?_
   refine⟨?_,rfl⟩
   rw[hR2]
  ·intro hb
   have hb':aF (pn k) u=true:=by simpa using hb
   try refine nv ?_
   refine⟨k+1,⟨by omega,?_⟩,by omega,?_⟩
   ·rw[List.range_succ,List.all_append,hall];simp only[List.all_cons,List.all_nil,eu,hb'];rfl
   ·exact aW
 intro hge
 have hk':k=min n qs.length:=by
  by_cases e:k<n
  ·have e':decide ((k:Int)<n)=true:=decide_eq_true (by omega)
   rw[e'] at hge
   have:=of_decide_eq_false hge
   omega
  ·omega
 rw[←hk',hall] at hR
 try refine nv ?_
 refine rA [] ?_
 refine⟨?_,rfl⟩
 rw[hR]
def z213.kk:=p12 kB Tryz.ntmps213 Tryz.underlying77 mQ df vU kz jX rY fM xI Tryz.results213
open z213 in
theorem aaN (g:DC) (n:Nat) (hb:PB 1000000 g.base) (hl:g.holes.length≤1000000) (hh:∀h∈g.holes,PB 1000000 h) (hn:n≤1000000):AC Tryz.prog 213 [xJ g,I .i64 n] [] (fun x st=>x=B (jP g n)∧st=[]):=by
 have hR:jP g n=g.holes.any fun h=>jC g.base h n:=rfl
 have hcv:=fun h hh=>Xq g.base h n hb hh hn
 generalize jP g n=R at hR
 obtain⟨b,hs⟩:=g
 simp only at hR hl hh hcv
 generalize jC b=cv at hcv hR
 obtain⟨ps,rp⟩:=b
 refine bV Tryz.func213 Tryz.ntmps213 fun x hx=>?_
 try refine nv ?_
 refine ag (ι:=Nat) (I:=fun k=>⟨20,[(1,I .i64 n),(2, .c (.ptr 2 0)),(8,eU hs),(9,I .i64 hs.length),(10,I .i64 k)],[(2, .box ((rP ⟨⟨ps,rp⟩,hs⟩).map C.d))]⟩)
  (Inv:=fun k=>k≤hs.length∧((hs.take k).any fun h=>cv h n)=false) (μ:=fun k=>hs.length-k) 0 ⟨by omega,rfl⟩ ?_ ?_
 ·exact aW
 rintro k ⟨hk,hall⟩
 try refine nv ?_
 refine af ?_ ?_
 ·intro hlt
  have hlt':k<hs.length:=by simpa using hlt
  obtain⟨v,hv,he,htk⟩:=round au hs k bz hlt'
  have hm:=hcv v (hh v (List.mem_of_getElem? hv))
  generalize hvb:cv v n=vb at hm
  (repeat (first|refine nx @he ?_|refine cf (hm) ?_))
  refine af ?_ ?_
  ·intro hb
   have hn2:(hs.any fun h=>cv h n)=true:=List.any_eq_true.2 ⟨v,List.mem_of_getElem? hv,by rw[hvb];exact hb⟩
   rw[hn2] at hR
   try refine nv ?_
   refine rA [] ?_
   refine⟨?_,rfl⟩
   rw[hR]
  ·intro hb
   try refine nv ?_
   refine⟨k+1,⟨by omega,by rw[htk,List.any_append,hall];simp[hvb,hb]⟩,by omega,?_⟩
   exact aW
 intro hge
 have hk':k=hs.length:=by have:¬k<hs.length:=by simpa using hge
                          omega
 rw[hk',List.take_length] at hall
 rw[hall] at hR
 try refine nv ?_
 refine rA [] ?_
 refine⟨?_,rfl⟩
 rw[hR]
end Go.Proofs.YtcpgicfphakdaaaGreatDoor
namespace Go.Proofs.YtcpgicfphakdaaaGreatDoor
open Go.Ab Tys
variable [zG]
theorem yX:∀(l:List aX) (h:aX) (m:Nat),lH (l++[h]) m=max (lH l m) h.parts.length
 |[],_,_=>rfl
 |a::l,h,m=>yX l h _
theorem N7:∀(l:List aX) (m:Nat),m≤lH l m
 |[],_=>Nat.le_refl _
 |a::l,m=>Nat.le_trans (Nat.le_max_left _ _) (N7 l _)
theorem Nw {n:Nat}:∀(l:List aX) (m:Nat),m≤n→(∀h∈l,h.parts.length≤n)→lH l m≤n
 |[],_,h,_=>h
 |a::l,m,h,hl=>Nw l _ (Nat.max_le.2 ⟨h,hl a (by simp)⟩) fun b hb=>hl b (by simp[hb])
theorem find_range {p:Nat→Bool} {M j:Nat} (hj:j<M) (hp:p j=true) (hn:∀i,i<j→p i=false):(List.range M).find? p=some j:=by
 rw[List.find?_eq_some_iff_append]
 refine⟨hp,(List.range M).take j,(List.range M).drop (j+1),?_,?_⟩
 ·have h1:=List.take_append_drop j (List.range M)
  rw[List.drop_eq_getElem?_toList_append,List.getElem?_range hj] at h1
  exact h1.symm
 ·intro a ha
  rw[List.take_range] at ha
  have:=List.mem_range.1 ha
  rw[hn a (by omega)];rfl
def z152.kk:=p2 (p10 kB Tryz.ntmps152 Tryz.underlying74 Tryz.underlying77 mQ df eH vU kz jX) (p9 dW gV rY yR jO fM xI jy Tryz.results152)
open z152 in
theorem aa4 (g:DC) (hb:PB 100000 g.base) (hl:g.holes.length≤100000) (hh:∀h∈g.holes,PB 100000 h):AC Tryz.prog 152 [xJ g] [] (fun x st=>x=I .i64 (yK g)∧st=[]):=by
 have hf:=fun n hn=>aaN g n (hb.mono (by omega)) (by omega) (fun h hx=>(hh h hx).mono (by omega)) hn
 have hR:yK g=if g.base.rest then(match(List.range (lH g.holes g.base.parts.length+1-g.base.parts.length)).find? (fun j=>!jP g (g.base.parts.length+1+j)) with|some j=>g.base.parts.length+1+j|none=>0)
  else if jP g g.base.parts.length then 0 else g.base.parts.length:=rfl
 generalize yK g=R at hR
 generalize jP g=fB at hf hR
 obtain⟨b,hs⟩:=g
 have hb1:=hb.1
 simp only at hR hl hh hf hb1
 obtain⟨ps,rp⟩:=b
 simp only at hR hb1
 refine bV Tryz.func152 Tryz.ntmps152 fun x hx=>?_
 try refine nv ?_
 refine af ?_ ?_
 ·intro h
  have e:rp=false:=by simpa using h
  rw[e,if_neg (by simp)] at hR
  have hf:=hf ps.length (by omega)
  generalize fB ps.length=f at hf hR
  (repeat (first|refine nv ?_|refine cf (hf) ?_))
  refine af ?_ ?_
  ·intro h
   rw[if_pos h] at hR
   try refine nv ?_
   refine rA [] ?_
   refine⟨?_,rfl⟩
   rw[hR];rfl
  ·intro h
   rw[if_neg (by simp[h])] at hR
   try refine nv ?_
   refine rA [] ?_
   refine⟨?_,rfl⟩
   rw[hR]
 intro h
 have e:rp=true:=by simpa using h
 rw[e,if_pos rfl] at hR
 try refine nv ?_
 refine ag (ι:=Nat) (I:=fun k=>⟨54,[(1, .c (.ptr 1 0)),(3,I .i64 (lH (hs.take k) ps.length)),(26,eU hs),(27,I .i64 hs.length),(28,I .i64 k)],[(1, .box ((rP ⟨⟨ps,rp⟩,hs⟩).map C.d))]⟩)
  (Inv:=fun k=>k≤hs.length) (μ:=fun k=>hs.length-k) 0 (by omega) ?_ ?_
 ·(refine fZ (fun i=>i) rfl ?_ ⟨?_,?_,?_,gu hx (by simp[ae,Ab.get])⟩<;>first|(simp only[kE,aQ, ↓reduceIte,Nat.reduceEqDiff,reduceCtorEq,lH.eq_1,List.take_zero];done)|simp[di,bf,aA,Ab.get,aZ,dH,aN,bY,bG,bH,bD,bI,bC,ae,List.flatten,lH.eq_1,List.take_zero])
 intro k hk
 try refine nv ?_
 refine af ?_ ?_
 ·intro hlt
  have hlt':k<hs.length:=by simpa using hlt
  obtain⟨v,hv,he,htk⟩:=round au hs k bz hlt'
  have hm:lH (hs.take (k+1)) ps.length=max (lH (hs.take k) ps.length) v.parts.length:=by rw[htk,yX]
  have hmi:((max (lH (hs.take k) ps.length) v.parts.length:Nat):Int)=max ((lH (hs.take k) ps.length:Nat):Int) (v.parts.length:Int):=by omega
  try refine nx @he ?_
  refine⟨k+1,by omega,by omega,?_⟩
  rw[hm,hmi]
  exact aW
 intro hge
 have hk':k=hs.length:=by have:¬k<hs.length:=by simpa using hge
                          omega
 rw[hk',List.take_length]
 have hmx:=Nw hs ps.length hb1 fun h hx=>(hh h hx).1
 have hmg:=N7 hs ps.length
 generalize lH hs ps.length=mx at hmx hmg hR
 try refine nv ?_
 refine ag (ι:=Nat) (I:=fun j=>⟨54,[(1, .c (.ptr 1 0)),(3,I .i64 mx),(6,I .i64 ((ps.length+1+j:Nat):Int))],[(1, .box ((rP ⟨⟨ps,rp⟩,hs⟩).map C.d))]⟩)
  (Inv:=fun j=>j≤mx+1-ps.length∧∀i,i<j→fB (ps.length+1+i)=true) (μ:=fun j=>mx+1-ps.length-j) 0 ⟨by omega,by omega⟩ ?_ ?_
 ·exact aW
 rintro j ⟨hj,hall⟩
 try refine nv ?_
 refine af ?_ ?_
 ·intro hle
  have hle':ps.length+1+j≤mx+1:=by have:=of_decide_eq_true hle;omega
  have hf:=hf (ps.length+1+j) (by omega)
  generalize hfb:fB (ps.length+1+j)=f at hf
  (repeat (first|refine nv ?_|refine cf (hf) ?_))
  refine af ?_ ?_
  ·intro hb
   have hb':f=false:=by simpa using hb
   rw[find_range (M:=mx+1-ps.length) (j:=j) (by omega) (by rw[hfb,hb'];rfl) (fun i hi=>by rw[hall i hi];rfl)] at hR
   try refine nv ?_
   refine rA [] ?_
   refine⟨?_,rfl⟩
   rw[hR]
  ·intro hb
   have hb':f=true:=by simpa using hb
   try refine nv ?_
   refine⟨j+1,⟨by omega,?_⟩,by omega,?_⟩
   ·intro i hi
    rcases Nat.lt_succ_iff_lt_or_eq.1 hi with hi|rfl
    ·exact hall i hi
    ·rw[hfb,hb']
   ·have hcast:((ps.length+1+(j+1):Nat):Int)=((ps.length+1+j:Nat):Int)+1:=by omega
    rw[hcast]
    exact aW
 intro hgt
 have hgt':¬ps.length+1+j≤mx+1:=by have:=of_decide_eq_false hgt;omega
 have hj':j=mx+1-ps.length:=by omega
 have hno:(List.range (mx+1-ps.length)).find? (fun j=>!fB (ps.length+1+j))=none:=by
  rw[List.find?_eq_none]
  intro i hi
  have:=List.mem_range.1 hi
  rw[hall i (by omega)];simp
 rw[hno] at hR
 try refine nv ?_
 refine rA [] ?_
 refine⟨?_,rfl⟩
 rw[hR];rfl
end Go.Proofs.YtcpgicfphakdaaaGreatDoor
