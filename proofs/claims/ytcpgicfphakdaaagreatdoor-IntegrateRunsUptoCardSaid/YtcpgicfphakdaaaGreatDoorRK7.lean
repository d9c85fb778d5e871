/- A part of the proof. -/
import Derived.Test.YtcpgicfphakdaaaGreatDoorRX10
import Derived.Test.YtcpgicfphakdaaaGreatDoorRL1
set_option maxRecDepth 100000
set_option maxHeartbeats 8000000
set_option linter.all false
namespace Go.Proofs.YtcpgicfphakdaaaGreatDoor
open Go.Ab Tys
variable [Dr]
def adK.kk:=p11 kB kG Tryz.ntmps125 Tryz.underlying4 CW gG wX uw JU lI Tryz.results125
open adK in
theorem zK (r:IK) (hl:PB 1000000 r.left) (hr:PB 1000000 r.right):AC Tryz.prog 125 [PL r] [] (fun x st=>x=I .i64 (gm r)∧st=[]):=by
 have h3:=yA r.left hl
 have h4:=yA r.right hr
 have hR:gm r=if gz r.left then(if gz r.right then(if aC r.left.parts=aC r.right.parts∧r.left.rest=r.right.rest then 0 else 42) else 41) else 40:=rfl
 have o1:gz r.left=decide (bV r.left=0):=rfl
 have o2:gz r.right=decide (bV r.right=0):=rfl
 obtain⟨ex,lf,rg⟩:=r
 simp only at h3 h4 o1 o2 hR
 generalize gm ⟨ex,lf,rg⟩=R at hR
 rw[o1] at h3 hR
 rw[o2] at h4 hR
 generalize bV lf=el at h3 hR
 generalize bV rg=er at h4 hR
 obtain⟨ps,rp⟩:=lf
 obtain⟨qs,rq⟩:=rg
 simp only at h3 h4 hR
 by_cases e:el=0
 rotate_left
 ·rw[decide_eq_false e,if_neg (by simp)] at hR
  simp only[decide_eq_false e,Bool.false_and,Bool.false_eq_true,if_false] at h3
  refine dA Tryz.func125 Tryz.ntmps125 fun x hx=>?_
  (repeat (first|refine nv ?_|refine cf (h3) ?_))
  refine aj ?_ ?_
  rotate_left
  ·intro h;exact absurd (by simpa using h) e
  intro _
  try refine nv ?_
  refine rA [] ?_
  refine⟨?_,rfl⟩
  rw[hR]
 rw[decide_eq_true e,if_pos rfl] at hR
 simp only[e,decide_true,Bool.true_and,if_true] at h3
 by_cases e2:er=0
 rotate_left
 ·rw[decide_eq_false e2,if_neg (by simp)] at hR
  simp only[decide_eq_false e2,Bool.false_and,Bool.false_eq_true,if_false] at h4
  refine dA Tryz.func125 Tryz.ntmps125 fun x hx=>?_
  (repeat (first|refine nv ?_|refine cf (h3) ?_))
  refine aj ?_ ?_
  ·intro h;simp at h
  intro _
  (repeat (first|refine nv ?_|refine cf (h4) ?_))
  refine aj ?_ ?_
  rotate_left
  ·intro h;exact absurd (by simpa using h) e2
  intro _
  try refine nv ?_
  refine rA [] ?_
  refine⟨?_,rfl⟩
  rw[hR]
 rw[decide_eq_true e2,if_pos rfl] at hR
 simp only[e2,decide_true,Bool.true_and,if_true] at h4
 refine dA Tryz.func125 Tryz.ntmps125 fun x hx=>?_
 (repeat (first|refine nv ?_|refine cf (h3) ?_))
 refine aj ?_ ?_
 ·intro h;simp at h
 intro _
 (repeat (first|refine nv ?_|refine cf (h4) ?_))
 refine aj ?_ ?_
 ·intro h;simp at h
 intro _
 try refine nv ?_
 have hc:(bif !decide ((aC ps:Int)=aC qs) then true else !(rp==rq))=!decide (aC ps=aC qs∧rp=rq):=by
  rw[show decide ((aC ps:Int)=aC qs)=decide (aC ps=aC qs) from decide_eq_decide.2 (by omega)]
  by_cases a:aC ps=aC qs<;>cases rp<;>cases rq<;>simp[a]
 refine aj ?_ ?_
 ·intro h
  rw[hc] at h
  rw[if_neg (by intro e;rw[decide_eq_true e] at h;cases h)] at hR
  try refine nv ?_
  refine rA [] ?_
  refine⟨?_,rfl⟩
  rw[hR]
 ·intro h
  rw[hc] at h
  have h9:decide (aC ps=aC qs∧rp=rq)=true:=by simpa only[Bool.not_eq_false'] using h
  rw[if_pos (of_decide_eq_true h9)] at hR
  try refine nv ?_
  refine rA [] ?_
  refine⟨?_,rfl⟩
  rw[hR]
def z127.kk:=p12 kB Tryz.ntmps127 Tryz.underlying77 GR gG Jr Bz BN NJ lI Lc Tryz.results127
open z127 in
theorem Ry (g:Iz) (hb:PB 1000000 g.base) (hh:g.holes.length≤1000000) (hs:∀h∈g.holes,PB 1000000 h):AC Tryz.prog 127 [RX g] [] (fun x st=>x=I .i64 (lD g)∧st=[]):=by
 have h1:=jP g.base hb
 have hR:lD g=if gz g.base then(if g.holes.all gz then(if 64<g.holes.length then 52 else 0) else 51) else 50:=rfl
 have o1:gz g.base=decide (bV g.base=0):=rfl
 obtain⟨b,hs'⟩:=g
 simp only at h1 o1 hR hh hs
 generalize lD ⟨b,hs'⟩=R at hR
 generalize bV b=el at h1 o1
 obtain⟨ps,rp⟩:=b
 refine dA Tryz.func127 Tryz.ntmps127 fun x hx=>?_
 (repeat (first|refine nv ?_|refine cf (h1) ?_))
 refine aj ?_ ?_
 ·intro h
  have e:¬el=0:=by simpa using h
  rw[o1,decide_eq_false e,if_neg (by simp)] at hR
  try refine nv ?_
  refine rA [] ?_
  refine⟨?_,rfl⟩
  rw[hR]
 intro h
 have e:el=0:=by simpa using h
 rw[o1,decide_eq_true e,if_pos rfl] at hR
 try refine nv ?_
 refine ax (ι:=Nat) (I:=fun k=>⟨24,[(1, .c (.ptr 1 0)),(10,iY hs'),(11,I .i64 hs'.length),(12,I .i64 k)],[(1, .box ((Di ⟨⟨ps,rp⟩,hs'⟩).map C.d))]⟩)
  (Inv:=fun k=>k≤hs'.length∧(hs'.take k).all gz=true) (μ:=fun k=>hs'.length-k) 0 ⟨by omega,rfl⟩ ?_ ?_
 ·exact cO
 rintro k ⟨hk,hall⟩
 try refine nv ?_
 refine aj ?_ ?_
 ·intro hlt
  have hlt':k<hs'.length:=by simpa using hlt
  obtain⟨v,hv,he,htk⟩:=round bF hs' k dm hlt'
  have hck:=jP v (hs v (List.mem_of_getElem? hv))
  have o3:gz v=decide (bV v=0):=rfl
  generalize bV v=ev at hck o3
  (repeat (first|refine nx @he ?_|refine cf (hck) ?_))
  refine aj ?_ ?_
  ·intro hb
   have e:¬ev=0:=by simpa using hb
   have hn:¬hs'.all gz=true:=by
    intro e2
    rw[List.all_eq_true] at e2
    have:=e2 v (List.mem_of_getElem? hv)
    rw[o3,decide_eq_false e] at this;cases this
   rw[if_neg hn] at hR
   try refine nv ?_
   refine rA [] ?_
   refine⟨?_,rfl⟩
   rw[hR]
  ·intro hb
   have e:ev=0:=by simpa using hb
   try refine nv ?_
   refine⟨k+1,⟨by omega,by rw[htk,List.all_append,hall];simp[o3,e]⟩,by omega,?_⟩
   exact cO
 intro hge
 have hk':k=hs'.length:=by have:¬k<hs'.length:=by simpa using hge
                           omega
 rw[hk',List.take_length] at hall
 rw[if_pos hall] at hR
 try refine nv ?_
 have hLI:decide ((64:Int)<(hs'.length:Nat))=decide (64<hs'.length):=decide_eq_decide.2 (by omega)
 refine aj ?_ ?_
 ·intro h
  rw[hLI] at h
  rw[if_pos (of_decide_eq_true h)] at hR
  try refine nv ?_
  refine rA [] ?_
  refine⟨?_,rfl⟩
  rw[hR]
 ·intro h
  rw[hLI] at h
  rw[if_neg (of_decide_eq_false h)] at hR
  try refine nv ?_
  refine rA [] ?_
  refine⟨?_,rfl⟩
  rw[hR]
def aeo.kk:=RJ kB kS Tryz.ntmps126 CW gG Ht wX uw ES E8 JU lI Qy Tryz.results126
open aeo in
theorem Nw (e:eQ):AC Tryz.prog 126 [aaI e] [] (fun r st=>r=PL e.line∧st=[]):=by
 refine dA Tryz.func126 Tryz.ntmps126 fun x hx=>?_
 try refine nv ?_
 refine rA [] ?_
 refine⟨?_,rfl⟩
 rfl
def z63.kk:=p15 kB kS Tryz.ntmps63 GR gG Ht Bz BN ES Fb NJ lI Lc Qy Tryz.results63
open z63 in
theorem H9 (e:eQ):AC Tryz.prog 63 [aaI e] [] (fun r st=>r=RX e.BR∧st=[]):=by
 refine dA Tryz.func63 Tryz.ntmps63 fun x hx=>?_
 try refine nv ?_
 refine rA [] ?_
 refine⟨?_,rfl⟩
 rfl
def z60.kk:=p6 kB kG Tryz.ntmps60 Ht Qy Tryz.results60
open z60 in
theorem Q7 (e0:eQ) (hl:PB 1000000 e0.left) (hr:PB 1000000 e0.right) (hh:e0.holes.length≤1000000) (hs:∀h∈e0.holes,PB 1000000 h):AC Tryz.prog 60 [aaI e0] [] (fun r st=>r=B (D7 e0)∧st=[]):=by
 have h1:=zK e0.line hl hr
 have h2:=Ry e0.BR hl hh hs
 have h3:=Nw e0
 have h4:=H9 e0
 have hE:D7 e0=(decide (gm e0.line=0)&&decide (lD e0.BR=0)):=rfl
 generalize D7 e0=E at hE
 generalize gm e0.line=c1 at h1 hE
 generalize lD e0.BR=c2 at h2 hE
 refine dA Tryz.func60 Tryz.ntmps60 fun x hx=>?_
 (repeat (first|refine nv ?_|refine cf (h3) ?_|refine cf (h1) ?_))
 refine so ([(9,RX e0.BR)]) ?_ ?_
 ·exact iw @h4
 try refine nv ?_
 refine so ([(10,I .i64 c2)]) ?_ ?_
 ·exact iw @h2
 try refine nv ?_
 refine rA [] ?_
 refine⟨?_,rfl⟩
 rw[hE]
 cases decide (c1=0)<;>rfl
def adV.kk:=p10 kB Tryz.ntmps256 Tryz.underlying74 gG iC jR pX lI kC Tryz.results256
open adV in
theorem VJ (p:bH) (i:Nat) (hp:p.parts.length≤1000000) (hi:i≤1000000):AC Tryz.prog 256 [aPat p,I .i64 i] [] (fun x st=>x=Str (vX p i)∧st=[]):=by
 have hR:vX p i=if i<p.parts.length then p.parts.getD i noS else pF:=rfl
 generalize vX p i=R at hR
 obtain⟨ps,rp⟩:=p
 simp only at hR hp
 refine dA Tryz.func256 Tryz.ntmps256 fun x hx=>?_
 try refine nv ?_
 refine aj ?_ ?_
 ·intro h
  have h':i<ps.length:=by simpa using h
  obtain⟨v,hv,he,_⟩:=round encS ps i noS h'
  rw[if_pos h',oH (z:=noS) hv] at hR
  try refine nx @he ?_
  refine rA [] ?_
  refine⟨?_,rfl⟩
  rw[hR]
 ·intro h
  have h':¬i<ps.length:=by simpa using h
  rw[if_neg h'] at hR
  try refine nv ?_
  refine rA [] ?_
  refine⟨?_,rfl⟩
  rw[hR]
def z233.kk:=p13 kB kG Tryz.ntmps233 Tryz.underlying74 gG iC jR pV MH pX lI kC Tryz.results233
open z233 in
theorem QK (p:bH) (n:Nat) (hp:p.parts.length≤1000000):AC Tryz.prog 233 [aPat p,I .i64 n] [] (fun x st=>x=B (kU p n)∧st=[]):=by
 have hR:kU p n=if p.rest then decide (p.parts.length<n) else decide (n=p.parts.length):=rfl
 generalize kU p n=R at hR
 obtain⟨ps,rp⟩:=p
 simp only at hR hp
 refine dA Tryz.func233 Tryz.ntmps233 fun x hx=>?_
 try refine nv ?_
 refine rA [] ?_
 refine⟨?_,rfl⟩
 rw[hR,show decide ((ps.length:Int)<n)=decide (ps.length<n) from decide_eq_decide.2 (by omega),show decide ((n:Int)=ps.length)=decide (n=ps.length) from decide_eq_decide.2 (by omega)]
 by_cases h:n=ps.length
 ·cases rp<;>simp[h]
 ·by_cases h2:ps.length<n<;>cases rp<;>simp[h,h2]
def cov2 (b h:bH) (n:Nat):Bool:=(List.range (min n h.parts.length)).all fun i=>aY (vX b i) (h.parts.getD i noS)
theorem KX (b h:bH) (n:Nat):mX b h n=(kU h n&&cov2 b h n):=rfl
def z234.kk:=p11 kB kG Tryz.ntmps234 Tryz.underlying74 gG iC jR pX lI kC Tryz.results234
open z234 in
theorem Q3 (b h:bH) (n:Nat) (hb:PB 1000000 b) (hh:PB 1000000 h) (hn:n≤1000000) (hbo:dC b) (hho:dC h):AC Tryz.prog 234 [aPat h,aPat b,I .i64 0,I .i64 n] [] (fun x st=>x=B (cov2 b h n)∧st=[]):=by
 have hpt:=fun i=>VJ b i hb.1
 have hR:cov2 b h n=(List.range (min n h.parts.length)).all fun i=>aY (vX b i) (h.parts.getD i noS):=rfl
 have hps:∀i,(vX b i).size≤1000000:=by
  intro i
  unfold vX
  split
  ·exact hb.get i
  ·show 1≤1000000;omega
 have hpo:=fun i=>PT hbo i
 generalize cov2 b h n=R at hR
 generalize vX b=pn at hpt hR hps hpo
 obtain⟨qs,rq⟩:=h
 obtain⟨ps,rp⟩:=b
 have hq1:=hh.1
 simp only[dC] at hR hq1 hho
 refine dA Tryz.func234 Tryz.ntmps234 fun x hx=>?_
 try refine nv ?_
 refine ax (ι:=Nat) (I:=fun k=>⟨33,[(3,I .i64 n),(4, .c (.ptr 4 0)),(5, .c (.ptr 5 0)),(9,I .i64 k)],[(5, .box ((bF ⟨ps,rp⟩).map C.d)),(4, .box ((bF ⟨qs,rq⟩).map C.d))]⟩)
  (Inv:=fun k=>k≤min n qs.length∧((List.range k).all fun i=>aY (pn i) (qs.getD i noS))=true) (μ:=fun k=>min n qs.length-k) 0 ⟨by omega,rfl⟩ ?_ ?_
 ·exact cO
 rintro k ⟨hk,hall⟩
 try refine nv ?_
 refine aj ?_ ?_
 ·intro hlt
  have hlt':k<n∧k<qs.length:=by
   by_cases e:k<n
   ·have e':decide ((k:Int)<n)=true:=decide_eq_true (by omega)
    rw[e'] at hlt
    exact⟨e,by have:=of_decide_eq_true hlt;omega⟩
   ·have e':decide ((k:Int)<n)=false:=decide_eq_false (by omega)
    rw[e'] at hlt;cases hlt
  obtain⟨u,hu,he,_⟩:=round encS qs k noS hlt'.2
  have eu:=oH (z:=noS) hu
  have hus:u.size≤1000000:=hh.2 u (List.mem_of_getElem? hu)
  have huo:eH u=true:=by rw[←eu];exact hho k hlt'.2
  refine bC ?_
  refine dx ([(25,Str (pn k)),(31,B (aY (pn k) u))]) @he ?_ ?_
  ·simp only[All,List.cons_append,List.nil_append,dG,List.mem_cons,List.not_mem_nil,or_false,forall_eq_or_imp,forall_eq,aH,aB,cu,aG,bG,and_true,true_and,implies_true,List.length_map,List.length_cons,List.length_nil,aK,iZ,cZ]
   repeat' (first|exact trivial|exact hpt k (by omega)|exact nZ (pn k) u (hps k) hus (hpo k) huo|refine And.intro ?_ ?_|intro _|assumption|rfl|omega|(rw[Bool.not_eq_true'];assumption)|(simp;done)|(simp only[decide_eq_true_eq] at*;omega)|(simp_all;done))
  refine bC ?_
  refine aj ?_ ?_
  ·intro hb
   have hb':aY (pn k) u=false:=by simpa using hb
   have hR2:R=false:=by
    rw[hR]
    cases e:(List.range (min n qs.length)).all fun i=>aY (pn i) (qs.getD i noS)
    ·rfl
    ·have:=jm _ k _ (by omega) e
     rw[eu,hb'] at this;cases this
   try refine nv ?_
   refine rA [] ?_
   refine⟨?_,rfl⟩
   rw[hR2]
  ·intro hb
   have hb':aY (pn k) u=true:=by simpa using hb
   try refine nv ?_
   refine⟨k+1,⟨by omega,?_⟩,by omega,?_⟩
   ·rw[List.range_succ,List.all_append,hall];simp only[List.all_cons,List.all_nil,eu,hb'];rfl
   ·exact cO
 intro hge
 have hk':k=min n qs.length:=by
  by_cases e:k<n
  ·have e':decide ((k:Int)<n)=true:=decide_eq_true (by omega)
   rw[e'] at hge
   have:=of_decide_eq_false hge
   omega
  ·omega
 rw[←hk',hall] at hR
 try refine nv ?_
 refine rA [] ?_
 refine⟨?_,rfl⟩
 rw[hR]
@[reducible] def Q6 (b:bH) (n:Nat):List (Nat×AO):=[(2, .box ((bF b).map C.d)),(9, .box [.d (.v (.int .i64 n))])]
def z232.kk:=p7 kB kG Tryz.ntmps232 gG uz lI Tryz.results232
open z232 in
theorem Y3 (b h:bH) (n:Nat) (hb:PB 1000000 b) (hh:PB 1000000 h) (hn:n≤1000000) (hbo:dC b) (hho:dC h):AC Tryz.prog 232 [aPat h, .c (.ptr 9 0), .c (.ptr 2 0)] (Q6 b n) (fun x st=>x=B (mX b h n)∧st=Q6 b n):=by
 have h1:=QK h n hh.1
 have h2:=Q3 b h n hb hh hn hbo hho
 rw[KX]
 generalize kU h n=c1 at h1
 generalize cov2 b h n=c2 at h2
 refine dA Tryz.func232 Tryz.ntmps232 fun x hx=>?_
 (repeat (first|refine nv ?_|refine cf (h1) ?_))
 refine so ([(12,B c2)]) ?_ ?_
 ·exact iw @h2
 try refine nv ?_
 refine rA ((Q6 b n)) ?_
 refine⟨?_,rfl⟩
 cases c1<;>rfl
def acF.kk:=p9 kB kFn Tryz.ntmps140 Tryz.underlying77 gG Jr lI Lc Tryz.results140
open acF in
theorem abg (b:bH) (l:List bH) (n:Nat) (hb:PB 1000000 b) (hl:l.length≤1000000) (hh:∀h∈l,PB 1000000 h) (hn:n≤1000000) (hbo:dC b) (hho:∀h∈l,dC h):
 AC Tryz.prog 140 [iY l, .c (.fn 232 [.ptr 9 0, .ptr 2 0])] (Q6 b n) (fun x st=>(∃i:Int,x=I .i64 i∧decide (0≤i)=lT ⟨b,l⟩ n)∧st=Q6 b n):=by
 have hF:lT ⟨b,l⟩ n=l.any fun h=>mX b h n:=rfl
 have hcl:=fun h (hm:h∈l)=>Y3 b h n hb (hh h hm) hn hbo (hho h hm)
 generalize lT ⟨b,l⟩ n=f at hF
 refine dA Tryz.func140 Tryz.ntmps140 fun x hx=>?_
 try refine nv ?_
 refine ax (ι:=Nat) (I:=fun k=>⟨19,[(0,iY l),(1, .c (.fn 232 [.ptr 9 0, .ptr 2 0])),(7,I .i64 l.length),(8,I .i64 k)],Q6 b n⟩)
  (Inv:=fun k=>k≤l.length∧(l.take k).any (fun h=>mX b h n)=false) (μ:=fun k=>l.length-k) 0 ⟨by omega,by simp⟩ ?_ ?_
 ·exact cO
 rintro k ⟨hk,hno⟩
 try refine nv ?_
 refine aj ?_ ?_
 ·intro hlt
  have hlt':k<l.length:=by simpa using hlt
  obtain⟨v,hv,he,htk⟩:=round bF l k dm hlt'
  have hcv:=hcl v (List.mem_of_getElem? hv)
  generalize hcb:mX b v n=cb at hcv
  try refine nx @he ?_
  refine OY ((Q6 b n)) (by simp) (by simp only[kV, ↓reduceIte,Nat.reduceEqDiff,reduceCtorEq];first|done|rfl) (by simp only[kFn,List.map];first|done|rfl) (by simp only[kV, ↓reduceIte,Nat.reduceEqDiff,reduceCtorEq];first|done|rfl) ⟨by simp[Ab.get],by simp[bD,aS,aQ,aU,aP,aT,ag,aB,cu,ae,Ab.get],by simp[Cap.toC,aH,cu,aB,aG,bG,ae,Ab.get]⟩ (hcv) ?_
  rintro rv9 st' ⟨rfl,rfl⟩<;>(refine⟨by simp[lW,ae,Ab.get],?_⟩;simp only[kP,Nat.reduceEqDiff, ↓reduceIte,reduceCtorEq,List.cons_append,List.nil_append])
  try refine nv ?_
  refine aj ?_ ?_
  ·intro h
   have hf:f=true:=by
    rw[hF,List.any_eq_true]
    exact⟨v,List.mem_of_getElem? hv,by rw[hcb];simpa using h⟩
   try refine nv ?_
   refine rA ((Q6 b n)) ?_
   exact⟨⟨k,rfl,by rw[hf];simp⟩,rfl⟩
  ·intro h
   try refine nv ?_
   refine⟨k+1,⟨by omega,by rw[htk,List.any_append,hno];simp only[List.any_cons,List.any_nil,hcb,Bool.or_false,Bool.false_or];simpa using h⟩,by omega,?_⟩
   exact cO
 intro hge
 have hk':k=l.length:=by have:¬k<l.length:=by simpa using hge
                         omega
 rw[hk',List.take_length] at hno
 try refine nv ?_
 refine rA ((Q6 b n)) ?_
 exact⟨⟨-1,rfl,by rw[hF,hno];decide⟩,rfl⟩
def z71.kk:=p3 kB Tryz.ntmps71 Tryz.results71
open z71 in
theorem XF (b:bH) (l:List bH) (n:Nat) (hb:PB 1000000 b) (hl:l.length≤1000000) (hh:∀h∈l,PB 1000000 h) (hn:n≤1000000) (hbo:dC b) (hho:∀h∈l,dC h):
 AC Tryz.prog 71 [iY l, .c (.fn 232 [.ptr 9 0, .ptr 2 0])] (Q6 b n) (fun x st=>x=B (lT ⟨b,l⟩ n)∧st=Q6 b n):=by
 refine dA Tryz.func71 Tryz.ntmps71 fun x hx=>?_
 try refine nv ?_
 refine tX ((Q6 b n)) (abg b l n hb hl hh hn hbo hho) ?_
 rintro rv9 st' ⟨⟨i,rfl,hi⟩,rfl⟩<;>refine uo ?_
 try refine nv ?_
 refine rA ((Q6 b n)) ?_
 refine⟨?_,rfl⟩
 rw[←hi]
end Go.Proofs.YtcpgicfphakdaaaGreatDoor
namespace Go.Proofs.YtcpgicfphakdaaaGreatDoor
open Go.Ab Tys
variable [yF]
def adA.kk:=p2 (p9 kB kFn Tryz.ntmps181 Tryz.underlying74 Tryz.underlying77 gG iC Jr jR) (p8 pV uz MH pX lI Lc kC Tryz.results181)
open adA in
theorem Pg (b:bH) (hs:List bH) (hb:PB 100000 b) (hl:hs.length≤100000) (hh:∀h∈hs,PB 100000 h) (hbo:dC b) (hho:∀h∈hs,dC h):
 AC Tryz.prog 181 [aPat b,iY hs] [] (fun x st=>x=I .i64 (Ec ⟨b,hs⟩)∧st=[]):=by
 have hcont:∀n,n≤100001→AC Tryz.prog 71 [iY hs, .c (.fn 232 [.ptr 9 0, .ptr 2 0])] (Q6 b n) (fun x st=>x=B (lT ⟨b,hs⟩ n)∧st=Q6 b n):=
  fun n hn=>XF b hs n (hb.mono (by omega)) (by omega) (fun h hx=>(hh h hx).mono (by omega)) (by omega) hbo hho
 have hR:Ec ⟨b,hs⟩=if b.rest then(match(List.range (nR hs b.parts.length+1-b.parts.length)).find? (fun j=>!lT ⟨b,hs⟩ (b.parts.length+1+j)) with|some j=>b.parts.length+1+j|none=>0)
  else if lT ⟨b,hs⟩ b.parts.length then 0 else b.parts.length:=rfl
 generalize Ec ⟨b,hs⟩=R at hR
 generalize lT ⟨b,hs⟩=fB at hcont hR
 have hb1:=hb.1
 cases hr:b.rest with
 |false=>
  rw[hr,if_neg (by simp)] at hR
  obtain⟨ps,rp⟩:=b
  simp only at hR hb1 hr
  generalize hf0:ps.length=f0 at hR hb1
  obtain⟨M,hM⟩:∃M:Nat,M=1:=⟨_,rfl⟩
  obtain⟨lz,hlz⟩:∃lz:Int,lz=f0:=⟨_,rfl⟩
  have hfin:(∀i,i<M→fB (f0+i)=true)→R=0:=fun h=>by
   have:=h 0 (by omega)
   rw[Nat.add_zero] at this
   rw[hR,if_pos this]
  have hhit:∀j,j<M→fB (f0+j)=false→(∀i,i<j→fB (f0+i)=true)→R=f0+j:=fun j hj h _=>by
   have:j=0:=by omega
   subst this
   rw[Nat.add_zero] at h⊢
   rw[hR,if_neg (by simp[h])]
  refine dA Tryz.func181 Tryz.ntmps181 fun x hx=>?_
  try refine nv ?_
  refine dr ([]) ?_ ?_
  ·exact vO
  try refine nv ?_
  refine aj ?_ ?_
  ·intro h;rw[hr] at h;cases h
  intro _
  rw[hf0]
  try refine nv ?_
  refine ax (ι:=Nat) (I:=fun j=>⟨47,[(1,iY hs),(2, .c (.ptr 2 0)),(6,I .i64 lz),(9, .c (.ptr 9 0))],[(2, .box ((bF ⟨ps,rp⟩).map C.d)),(9, .box [.d (.v (.int .i64 ((f0+j:Nat):Int)))])]⟩)
   (Inv:=fun j=>j≤M∧∀i,i<j→fB (f0+i)=true) (μ:=fun j=>M-j) 0 ⟨by omega,by omega⟩ ?_ ?_
  ·rw[hlz]
   exact EH @Nat.add_zero
  rintro j ⟨hj,hall⟩
  try refine nv ?_
  refine aj ?_ ?_
  rotate_left
  ·intro hgt
   have hgt':j=M:=by have:¬((f0+j:Nat):Int)≤lz:=by simpa using hgt
                     omega
   subst hgt'
   try refine nv ?_
   refine rA [] ?_
   refine⟨?_,rfl⟩
   rw[hfin hall];rfl
  intro hle
  have hle':j<M:=by have:((f0+j:Nat):Int)≤lz:=by simpa using hle
                    omega
  have hc:=hcont (f0+j) (by omega)
  generalize hfb:fB (f0+j)=f at hc
  try refine nv ?_
  refine tX ([(2, .box ((bF ⟨ps,rp⟩).map C.d)),(9, .box [.d (.v (.int .i64 ((f0+j:Nat):Int)))])]) (hc) ?_
  rintro rv9 st' ⟨rfl,rfl⟩<;>refine uo ?_
  try refine nv ?_
  refine aj ?_ ?_
  ·intro h
   have h':f=false:=by simpa using h
   try refine nv ?_
   refine rA [] ?_
   refine⟨?_,rfl⟩
   rw[hhit j hle' (by rw[hfb,h']) hall]
  intro h
  have h':f=true:=by simpa using h
  have hj9:f0+j≤300000:=by omega
  refine bC ?_
  refine gg ?_
  refine bC ?_
  refine bz (s':=⟨47,[(1,iY hs),(2, .c (.ptr 2 0)),(6,I .i64 lz),(46,I .i64 ((f0+j:Nat):Int))],[(2, .box ((bF ⟨ps,rp⟩).map C.d))]⟩) ?_ ?_
  ·exact cO
  try refine nv ?_
  refine⟨j+1,⟨by omega,fun i hi=>?_⟩,by omega,?_⟩
  ·rcases Nat.lt_succ_iff_lt_or_eq.1 hi with hi|rfl
   ·exact hall i hi
   ·rw[hfb,h']
  ·have e9:((f0+(j+1):Nat):Int)=((f0+j:Nat):Int)+1:=by omega
   rw[e9]
   exact cO
 |true=>
  rw[hr,if_pos rfl] at hR
  obtain⟨ps,rp⟩:=b
  simp only at hR hb1 hr
  have hmg:=Tu hs ps.length
  have hmx:=Um hs ps.length hb1 fun h hx=>(hh h hx).1
  obtain⟨f0,hf0⟩:∃f0:Nat,f0=ps.length+1:=⟨_,rfl⟩
  rw[←hf0] at hR
  obtain⟨M,hM⟩:∃M:Nat,M=nR hs ps.length+1-ps.length:=⟨_,rfl⟩
  rw[←hM] at hR
  obtain⟨lz,hlz⟩:∃lz:Int,lz=((nR hs ps.length+1:Nat):Int):=⟨_,rfl⟩
  have hfin:(∀i,i<M→fB (f0+i)=true)→R=0:=fun h=>by
   have:(List.range M).find? (fun j=>!fB (f0+j))=none:=by
    rw[List.find?_eq_none]
    intro i hi
    rw[h i (List.mem_range.1 hi)];simp
   rw[this] at hR
   exact hR
  have hhit:∀j,j<M→fB (f0+j)=false→(∀i,i<j→fB (f0+i)=true)→R=f0+j:=fun j hj h h2=>by
   rw[find_range (M:=M) (j:=j) hj (by rw[h];rfl) (fun i hi=>by rw[h2 i hi];rfl)] at hR
   exact hR
  refine dA Tryz.func181 Tryz.ntmps181 fun x hx=>?_
  try refine nv ?_
  refine dr ([]) ?_ ?_
  ·exact vO
  try refine nv ?_
  refine aj ?_ ?_
  rotate_left
  ·intro h;rw[hr] at h;cases h
  intro _
  try refine nv ?_
  refine ax (ι:=Nat) (I:=fun k=>⟨47,[(1,iY hs),(2, .c (.ptr 2 0)),(5,I .i64 f0),(6,I .i64 ((nR (hs.take k) ps.length+1:Nat):Int)),(22,iY hs),(23,I .i64 hs.length),(24,I .i64 k)],[(2, .box ((bF ⟨ps,rp⟩).map C.d))]⟩)
   (Inv:=fun k=>k≤hs.length) (μ:=fun k=>hs.length-k) 0 (by omega) ?_ ?_
  ·have e1:((ps.length+1:Nat):Int)=(ps.length:Int)+1:=by omega
   rw[hf0]
   (refine bI (fun i=>i) rfl ?_ ⟨?_,?_,?_,di hx (by simp[ae,Ab.get])⟩<;>first|(simp only[kE,aK, ↓reduceIte,Nat.reduceEqDiff,reduceCtorEq,nR,e1];done)|simp[aW,aA,ag,Ab.get,aH,cu,aB,bD,aS,aQ,aU,aP,aT,ae,List.flatten,nR,e1])
  intro k hk
  try refine nv ?_
  refine aj ?_ ?_
  ·intro hlt
   have hlt':k<hs.length:=by simpa using hlt
   obtain⟨v,hv,he,htk⟩:=round bF hs k dm hlt'
   have hm:nR (hs.take (k+1)) ps.length=max (nR (hs.take k) ps.length) v.parts.length:=by rw[htk,Dv]
   have hmi:((max (nR (hs.take k) ps.length) v.parts.length+1:Nat):Int)=max ((nR (hs.take k) ps.length+1:Nat):Int) ((v.parts.length:Int)+1):=by omega
   have hvl:=(hh v (List.mem_of_getElem? hv)).1
   try refine nx @he ?_
   refine⟨k+1,by omega,by omega,?_⟩
   rw[hm,hmi]
   exact cO
  intro hge
  have hk':k=hs.length:=by have:¬k<hs.length:=by simpa using hge
                           omega
  rw[hk',List.take_length]
  generalize nR hs ps.length=mx at hmx hmg hM hlz
  have hlz2:lz=(f0:Int)+M-1:=by omega
  try refine nv ?_
  refine ax (ι:=Nat) (I:=fun j=>⟨47,[(1,iY hs),(2, .c (.ptr 2 0)),(6,I .i64 lz),(9, .c (.ptr 9 0))],[(2, .box ((bF ⟨ps,rp⟩).map C.d)),(9, .box [.d (.v (.int .i64 ((f0+j:Nat):Int)))])]⟩)
   (Inv:=fun j=>j≤M∧∀i,i<j→fB (f0+i)=true) (μ:=fun j=>M-j) 0 ⟨by omega,by omega⟩ ?_ ?_
  ·rw[hlz]
   exact EH @Nat.add_zero
  rintro j ⟨hj,hall⟩
  try refine nv ?_
  refine aj ?_ ?_
  rotate_left
  ·intro hgt
   have hgt':j=M:=by have:¬((f0+j:Nat):Int)≤lz:=by simpa using hgt
                     omega
   subst hgt'
   try refine nv ?_
   refine rA [] ?_
   refine⟨?_,rfl⟩
   rw[hfin hall];rfl
  intro hle
  have hle':j<M:=by have:((f0+j:Nat):Int)≤lz:=by simpa using hle
                    omega
  have hc:=hcont (f0+j) (by omega)
  generalize hfb:fB (f0+j)=f at hc
  try refine nv ?_
  refine tX ([(2, .box ((bF ⟨ps,rp⟩).map C.d)),(9, .box [.d (.v (.int .i64 ((f0+j:Nat):Int)))])]) (hc) ?_
  rintro rv9 st' ⟨rfl,rfl⟩<;>refine uo ?_
  try refine nv ?_
  refine aj ?_ ?_
  ·intro h
   have h':f=false:=by simpa using h
   try refine nv ?_
   refine rA [] ?_
   refine⟨?_,rfl⟩
   rw[hhit j hle' (by rw[hfb,h']) hall]
  intro h
  have h':f=true:=by simpa using h
  have hj9:f0+j≤300000:=by omega
  refine bC ?_
  refine gg ?_
  refine bC ?_
  refine bz (s':=⟨47,[(1,iY hs),(2, .c (.ptr 2 0)),(6,I .i64 lz),(46,I .i64 ((f0+j:Nat):Int))],[(2, .box ((bF ⟨ps,rp⟩).map C.d))]⟩) ?_ ?_
  ·exact cO
  try refine nv ?_
  refine⟨j+1,⟨by omega,fun i hi=>?_⟩,by omega,?_⟩
  ·rcases Nat.lt_succ_iff_lt_or_eq.1 hi with hi|rfl
   ·exact hall i hi
   ·rw[hfb,h']
  ·have e9:((f0+(j+1):Nat):Int)=((f0+j:Nat):Int)+1:=by omega
   rw[e9]
   exact cO
def z130.kk:=p5 kB Tryz.ntmps130 gG lI Tryz.results130
open z130 in
theorem aaR (b:bH) (hs:List bH) (hb:PB 100000 b) (hl:hs.length≤100000) (hh:∀h∈hs,PB 100000 h) (hbo:dC b) (hho:∀h∈hs,dC h):
 AC Tryz.prog 130 [aPat b,iY hs] [] (fun r st=>r=B (decide (Ec ⟨b,hs⟩=0))∧st=[]):=by
 have h:=Pg b hs hb hl hh hbo hho
 generalize Ec ⟨b,hs⟩=n at h
 refine dA Tryz.func130 Tryz.ntmps130 fun x hx=>?_
 (repeat (first|refine nv ?_|refine cf (h) ?_))
 refine rA [] ?_
 refine⟨?_,rfl⟩
 rw[show decide ((n:Int)=0)=decide (n=0) from decide_eq_decide.2 (by omega)]
end Go.Proofs.YtcpgicfphakdaaaGreatDoor
