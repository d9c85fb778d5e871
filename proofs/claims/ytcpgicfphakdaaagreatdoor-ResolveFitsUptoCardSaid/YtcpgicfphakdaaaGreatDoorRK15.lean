/- A part of the proof. -/
import Derived.Test.YtcpgicfphakdaaaGreatDoorRK5
import Derived.Test.YtcpgicfphakdaaaGreatDoorRP50
import Derived.Test.YtcpgicfphakdaaaGreatDoorRK10
set_option maxRecDepth 100000
set_option maxHeartbeats 16000000
set_option linter.all false
namespace Go.Proofs.YtcpgicfphakdaaaGreatDoor
section
open Go.Ab Tys
variable [zg]
def hF (x:fA) (h:bV):Option bV:=if(qX x.line h).2.1 then some (qX x.line h).1.right else none
def hOK (x:fA) (h:bV):Bool:=decide ((qX x.line h).2.2=0)
theorem FM (x:fA):∀l:List bV,mi x l=if l.all (hOK x) then some (l.filterMap (hF x)) else none
 |[]=>rfl
 |h::l=>by
  have ih:=FM x l
  by_cases e:(qX x.line h).2.2=0
  ·have ha:(h::l).all (hOK x)=l.all (hOK x):=by simp[hOK,e]
   rw[ha,mi,if_pos e,ih]
   have hf:(h::l).filterMap (hF x)=if(qX x.line h).2.1 then(qX x.line h).1.right::l.filterMap (hF x) else l.filterMap (hF x):=by
    rw[List.filterMap_cons,hF]
    cases(qX x.line h).2.1<;>rfl
   rw[hf]
   cases(qX x.line h).2.1<;>cases l.all (hOK x)<;>rfl
  ·have ha:(h::l).all (hOK x)=false:=by simp[hOK,e]
   rw[ha,mi,if_neg e];rfl
theorem ad8 (x:fA) (l:List bV) (v:bV):(l++[v]).filterMap (hF x)=l.filterMap (hF x)++(hF x v).toList:=by
 rw[List.filterMap_append,List.filterMap_cons]
 cases hF x v<;>rfl
theorem UY {n:Nat} {p q:bV} (h1:1≤n) (hp:PB n p) (hq:PB n q):∀b∈(l7 p q).getD [],PB n b:=by
 cases h:l7 p q with
 |none=>intro b hb;simp at hb
 |some l=>exact(QV h1 hp hq h).2
theorem aeN {n:Nat} {r:MB} {p:bV} (hn:12≤n) (hl:PB n r.left) (hr:PB n r.right) (hp:PB n p):PB (2*n) (qX r p).1.right:=by
 unfold qX
 split
 ·split
  ·cases hm:lK r.left p with
   |none=>exact uU _
   |some m=>
    simp only
    split
    ·exact Zm hn hr (UY (by omega) hl (LY hl hp hm))
    ·exact uU _
  ·exact uU _
 ·exact uU _
@[reducible] def OH:List C:=[Lt, .d (.v (.bool false)),Lt]
@[reducible] def abm:Option Mc→Bool×List C
 |none=>(true,OH)
 |some g=>ah8 g
end
section
open Go.Ab Tys
variable [zg]
theorem EB.mono {n m:Nat} {e:fA} (h:EB n e) (hm:n≤m):EB m e:=⟨h.left.mono hm,h.right.mono hm,ajo h.len hm,fun x hx=>(h.holes x hx).mono hm⟩
def clB (x y:fA):Bool:=nI x.F7 y.F7||nI ((F8 x).getD agO) ((F8 y).getD agO)
structure Cc (m:List fA):Prop where
 ent:∀e∈m,iQ e.line=0∧nS e.F7=0
 len:m.length≤32
 right:∀e∈m,(F8 e).isSome=true
 apart:∀(i j:Nat) (x y:fA),j<i→m[i]? =some x→m[j]? =some y→clB x y=false
theorem yP {g:Mc} (h:nS g=0):g.holes.length≤64:=by
 unfold nS at h
 split at h
 ·split at h
  ·split at h
   ·omega
   ·omega
  ·omega
 ·omega
structure EB1 (e:fA):Prop where
 left:PB 10000 e.left
 right:PB 10000 e.right
 len:e.holes.length≤1000000
 holes:∀h∈e.holes,PB 10000 h
theorem EB1.eb {e:fA} (h:EB1 e) (hc:nS e.F7=0):EB 10000 e:=⟨h.left,h.right,by have:=yP hc;simp only[fA.F7] at this;omega,h.holes⟩
end
section
open Go.Ab Tys
variable [zg]
def ah6.kk:=p13 kB kG kS Tryz.ntmps197 Tryz.underlying74 Tryz.underlying9 iW jy lU rZ nU jB Tryz.results197
open ah6 in
theorem ac5 (p:bV) (hp:PB 100000 p) (cs:List akK) (hcl:cs.length≤400000) (hcs:∀s∈cs,s.size≤400000):AC Tryz.prog 197 [aPat p,jr cs] [] (fun r st=>r= .tup [pS (rF p cs).1,pI (rF p cs).2]∧st=[]):=by
 have hki:=A8 p (hp.mono (by omega))
 have hF:= @abj p cs
 have hok:iU p=decide (dm p=0):=rfl
 have hwd:tH p=aK p.parts+(if p.rest then 1 else 0):=rfl
 have hpo:=fun h=>dO (p:=p) h
 generalize dm p=cp at hki hF hok
 generalize iU p=op at hki hF hok hpo
 obtain⟨ps,rs⟩:=p
 have h1:=hp.1
 have hpg:=hp.get
 simp only[dN] at h1 hF hki hpo hwd hpg
 generalize rF ⟨ps,rs⟩ cs=R at hF
 cases op with
 |false=>
  have hcp:¬cp=0:=by intro e;rw[e] at hok;cases hok
  simp only[aka,agF,if_false] at hki hF
  refine df Tryz.func197 Tryz.ntmps197 fun x hx=>?_
  (repeat (first|refine nv ?_|refine cf (hki) ?_))
  refine aj ?_ ?_
  rotate_left
  ·intro h;simp at h;exact absurd h hcp
  intro _
  try refine nv ?_
  refine rA [] ?_
  refine⟨?_,rfl⟩
  rw[hF]
 |true=>
  have hcp:cp=0:=by have:=hok.symm;simpa using this
  subst hcp
  have hpo:=hpo rfl
  simp only[ajq,if_true] at hki hF
  have hs9:aK ps≤ps.length:=ajy ..
  refine df Tryz.func197 Tryz.ntmps197 fun x hx=>?_
  (repeat (first|refine nv ?_|refine cf (hki) ?_))
  refine aj ?_ ?_
  ·intro h;cases h
  intro _
  try refine nv ?_
  refine aj ?_ ?_
  ·intro hw
   have hw':¬cs.length=tH ⟨ps,rs⟩:=by
    intro e
    rw[hwd] at e
    cases rs
    ·simp only[agF,if_false,Nat.add_zero] at e;simp[e] at hw
    ·simp only[if_true] at e;simp[e] at hw
   rw[if_neg hw'] at hF
   try refine nv ?_
   refine rA [] ?_
   refine⟨?_,rfl⟩
   rw[hF]
  intro hw
  have hw':cs.length=tH ⟨ps,rs⟩:=by
   rw[hwd]
   cases rs
   ·simp at hw
    simp only[agF,if_false];omega
   ·simp at hw
    simp only[if_true];omega
  rw[if_pos hw'] at hF
  rw[hwd] at hw'
  clear hki hok hwd hw
  have e00:Int.toNat 0=0:=rfl
  refine aZ ?_
  refine dD (wr:=false) 3 (by simp only[kk,Nat.reduceAdd,Nat.reduceLT,Nat.reduceEqDiff, ↓reduceIte,reduceCtorEq];first|done|rfl) (by first|exact trivial|(simp[All,dB];omega)) ?_
  refine TQ jy jB (by simp) (by simp only[kV, ↓reduceIte,Nat.reduceEqDiff,reduceCtorEq];first|done|rfl) (by simp only[kV, ↓reduceIte,Nat.reduceEqDiff,reduceCtorEq];first|done|rfl) (by simp[Ab.get]) (by omega) (by show(16:Int)*_≤_;omega) (by omega) ?_
  refine fE ?_
  try refine nv ?_
  refine au (ι:=Nat) (I:=fun k=>⟨96,[(1,jr (cs.drop (aK (ps.take k)))),(7,B rs),(9, .c (.ms 100 1 0 (jX ps cs k).length)),(47,jr ps),(48,I .i64 ps.length),(49,I .i64 k)],
   [(100,ay 1 ((jX ps cs k).map encS))]⟩)
   (Inv:=fun k=>k≤ps.length∧qQ ps cs k=true) (μ:=fun k=>ps.length-k) 0 ⟨by omega,rfl⟩ ?_ ?_
  ·(refine bi (fun i=>if i=100 then 45 else i) rfl ?_ ⟨?_,?_,?_,keepR hx (by simp[ae,Ab.get])⟩<;>first|(intro i hi;have h0:=hx i hi;constructor<;>(revert h0;simp only[ae,Ab.get];(repeat' split)<;>simp_all);done)|(simp only[kE,ay, ↓reduceIte,Nat.reduceEqDiff,reduceCtorEq];done)|(simp only[ay,pz,o9,afr,agW,ajr,forall_eq_or_imp,forall_eq];simp[gz,gK,eU,iP,ah,Ab.get,aJ,cZ,aB,bF,aS,aO,aQ,aT,aP,ae,List.flatten,jX,xy,akx];done)|simp[gz,gK,eU,iP,ah,Ab.get,aJ,cZ,aB,bF,aS,aO,aQ,aT,aP,ae,List.flatten,jX,xy,akx])
  rintro k ⟨hk,hall⟩
  have hfl:=CV ps cs k
  have hsl:=aaP ps k
  try refine nv ?_
  refine aj ?_ ?_
  ·intro hlt
   have hlt':k<ps.length:=by simpa using hlt
   obtain⟨v,hv,he,_⟩:=round encS ps k noS hlt'
   have ev:=getD_some (z:=noS) hv
   have hvs:v.size≤100000:=hp.2 v (aem hv)
   have hsv:=zI v
   have hss:=Jp hv
   have hst:=oL v
   rw[qK (by rw[←ev];exact hpo k hlt')] at hst
   cases hsu:bG v with
   |true=>
    rw[hsu] at hst hss
    rw[if_pos rfl] at hss
    have hlt2:=Bi ps k hlt' (by rw[ev];exact hsu)
    have hj:aK (ps.take k)<cs.length:=by rw[hw'];omega
    obtain⟨u,hu⟩:∃u,cs[aK (ps.take k)]? =some u:=⟨_,adH hj⟩
    have eu:=getD_some (z:=noS) hu
    have hus:u.size≤400000:=hcs u (aem hu)
    have hLd:cs.drop (aK (ps.take k))=u::cs.drop (aK (ps.take k)+1):=by
     rw[ajF,hu];rfl
    have hsz1:1≤v.size:=(gV hsu).1
    have hsfx:=xA hsu
    rw[hLd]
    (repeat (first|refine nx @he ?_|refine cf (hst) ?_))
    refine aj ?_ ?_
    rotate_left
    ·intro h;cases h
    intro _
    (repeat (first|refine nx @e00 ?_|refine cf (pq u (by omega)) ?_))
    refine aj ?_ ?_
    ·intro hb
     have hb':comp u=false:=by simpa using hb
     rw[ZU hlt' (by rw[ev,eu,hsu,hb'];rfl)] at hF
     try refine nv ?_
     refine rA [] ?_
     refine⟨?_,rfl⟩
     rw[hF];rfl
    intro hb
    have hb':comp u=true:=by simpa using hb
    refine aZ ?_
    refine pM (wr:=true) ([]:List (Nat×AV)) (by kernel_rfl) (by simp only[kD,kk,Nat.reduceAdd,Nat.reduceLT,Nat.reduceEqDiff, ↓reduceIte,reduceCtorEq,hsfx];first|done|rfl) ?_ (by kernel_rfl) ?_
    ·exact qP
    try refine nv ?_
    refine⟨k+1,⟨by omega,by rw[G6,hall,ev,eu,hb'];simp⟩,by omega,?_⟩
    have e:jX ps cs (k+1)=jX ps cs k++[u++l9 v]:=by simp only[jX,ev,eu,hsu,if_true]
    rw[e,hss]
    exact uZ (fun i=>if i=100 then 71 else i)
   |false=>
    rw[hsu] at hst hss
    rw[if_neg (by simp),Nat.add_zero] at hss
    (repeat (first|refine nx @he ?_|refine cf (hst) ?_))
    refine aj ?_ ?_
    ·intro h;cases h
    intro _
    try refine nv ?_
    refine⟨k+1,⟨by omega,by rw[G6,hall,ev,hsu];rfl⟩,by omega,?_⟩
    have e:jX ps cs (k+1)=jX ps cs k++[v]:=by simp only[jX,ev,hsu,if_false,agF]
    rw[e,hss]
    exact uZ (fun i=>if i=100 then 71 else i)
  intro hge
  have hk':k=ps.length:=by have:¬k<ps.length:=by simpa using hge
                           omega
  subst hk'
  rw[if_pos hall] at hF
  rw[afu]
  have hfs:=Jl hp.2 hcs ps.length
  simp only at hfs
  have hfl:=CV ps cs ps.length
  generalize jX ps cs ps.length=X at hfl hF hfs⊢
  try refine nv ?_
  refine aj ?_ ?_
  ·intro hr
   subst hr
   rw[if_pos rfl] at hF hw'
   obtain⟨u,hu⟩:∃u,cs[aK ps]? =some u:=⟨_,adH (by omega)⟩
   have eu:=getD_some (z:=noS) hu
   have hus:u.size≤400000:=hcs u (aem hu)
   have hul:=xx u
   have husz:∀s∈split u,s.size≤500000:=fun s hs=>by have:=qL _ _ s hs;omega
   have hLd:cs.drop (aK ps)=[u]:=by
    rw[ajF,hu,ajW (by omega)];rfl
   rw[eu] at hF
   rw[hLd]
   (repeat (first|refine nx @e00 ?_|refine cf (Jg u (by omega)) ?_))
   refine au (ι:=Nat) (I:=fun j=>⟨96,[(1,jr [u]),(9, .c (.ms 100 1 0 X.length)),(77,jr (split u)),(78,I .i64 (split u).length),(79,I .i64 j)],[(100,ay 1 (X.map encS))]⟩)
    (Inv:=fun j=>j≤(split u).length∧((split u).take j).all comp=true) (μ:=fun j=>(split u).length-j) 0 ⟨by omega,by simp⟩ ?_ ?_
   ·exact bQ
   rintro j ⟨hj,hcl2⟩
   try refine nv ?_
   refine aj ?_ ?_
   ·intro hlt
    have hlt':j<(split u).length:=by simpa using hlt
    obtain⟨v,hv,he,htk⟩:=round encS (split u) j noS hlt'
    have hvs:=husz v (aem hv)
    (repeat (first|refine nx @he ?_|refine cf (pq v (by omega)) ?_))
    refine aj ?_ ?_
    ·intro hb
     have hb':comp v=false:=by simpa using hb
     have hn:¬(split u).all comp=true:=by
      intro e
      rw[agr] at e;rw[e v (aem hv)] at hb';cases hb'
     rw[if_neg hn] at hF
     try refine nv ?_
     refine rA [] ?_
     refine⟨?_,rfl⟩
     rw[hF]
    intro hb
    have hb':comp v=true:=by simpa using hb
    try refine nv ?_
    refine⟨j+1,⟨by omega,by rw[htk,ajY,hcl2];simp[hb']⟩,by omega,?_⟩
    exact bQ
   intro hge
   have hj':j=(split u).length:=by have:¬j<(split u).length:=by simpa using hge
                                   omega
   rw[hj',afu] at hcl2
   rw[if_pos hcl2] at hF
   have hXu:∀s∈X++[u],s.size≤1000000:=by
    intro s hs
    rcases afs.1 hs with h|h
    ·have:=hfs s h;omega
    ·rw[aft.1 h];omega
   have hjs:=Lj (X++[u]) slash (by rw[afI];simp;omega) (F9 _ (by rw[afI];simp;omega) hXu)
   have hbg:(dR (X++[u]) slash).size≤1000000*1000001:=ajo (La (X++[u]) hXu) (ajp _ (by rw[afI];simp;omega))
   have hds:ByteArray.size {data:= #[47,47]}=2:=rfl
   refine aZ ?_
   refine gx @e00 ?_
   refine aZ ?_
   refine bC (aY (i:=9) (id:=92) (ys:=(X++[u]).map encS) rfl (by simp[Ab.get]) (by simp)) ?_
   refine fE ?_
   (repeat (first|refine nv ?_|refine cf (hjs) ?_))
   refine Nv (by simp) (by simp only[kV, ↓reduceIte,Nat.reduceEqDiff,reduceCtorEq];first|done|rfl) (by simp only[kV, ↓reduceIte,Nat.reduceEqDiff,reduceCtorEq];first|done|rfl) ?_ ?_
   ·omega
   try refine nv ?_
   refine rA [] ?_
   refine⟨?_,rfl⟩
   rw[hF]
  ·intro hr
   subst hr
   rw[if_neg (by simp)] at hF
   have hjs:=Lj X slash (by omega) (F9 _ (by omega) (fun s hs=>by have:=hfs s hs;omega))
   have hbg:(dR X slash).size≤1000000*1000001:=ajo (La X (fun s hs=>by have:=hfs s hs;omega)) (ajp _ (by omega))
   have hds:ByteArray.size {data:= #[47,47]}=2:=rfl
   refine aZ ?_
   refine bC (aY (i:=9) (id:=100) (ys:=X.map encS) rfl rfl (by simp)) ?_
   refine fE ?_
   (repeat (first|refine nv ?_|refine cf (hjs) ?_))
   refine Nv (by simp) (by simp only[kV, ↓reduceIte,Nat.reduceEqDiff,reduceCtorEq];first|done|rfl) (by simp only[kV, ↓reduceIte,Nat.reduceEqDiff,reduceCtorEq];first|done|rfl) ?_ ?_
   ·omega
   try refine nv ?_
   refine rA [] ?_
   refine⟨?_,rfl⟩
   rw[hF]
def Y5 (a b:bV) (s:akK):akK×Bool:=match fQ a s with|none=>(noS,false)|some l=>((rF b l).1,decide ((rF b l).2=0))
def z139.kk:=p5 kB Tryz.ntmps139 iW nU Tryz.results139
open z139 in
theorem YT (a b:bV) (ha:PB 100000 a) (hb:PB 100000 b) (s:akK) (hs:s.size≤300000):AC Tryz.prog 139 [aPat a,aPat b,Str s] [] (fun x st=>x= .tup [pS (Y5 a b s).1,pB (Y5 a b s).2]∧st=[]):=by
 have h2:=Ns a (ha.mono (by omega)) s (by omega)
 have h3:=ac5 b hb
 have hcb:=Wv a s
 have hR:Y5 a b s=match fQ a s with|none=>(noS,false)|some l=>((rF b l).1,decide ((rF b l).2=0)):=rfl
 generalize Y5 a b s=R at hR
 obtain⟨ps,rp⟩:=a
 obtain⟨qs,rq⟩:=b
 simp only at h2 h3 hcb hR
 refine df Tryz.func139 Tryz.ntmps139 fun x hx=>?_
 cases hm:fQ ⟨ps,rp⟩ s with
 |none=>
  rw[hm] at hR h2
  simp only[jJ,pB,Option.isSome] at h2
  simp only at hR
  (repeat (first|refine nv ?_|refine cf (h2) ?_))
  refine aj ?_ ?_
  ·intro _
   try refine nv ?_
   refine rA [] ?_
   refine⟨?_,rfl⟩
   rw[hR]
  ·intro h;cases h
 |some l=>
  rw[hm] at hR h2
  simp only[jJ,pB,Option.isSome] at h2
  simp only at hR
  obtain⟨c1,c2⟩:=hcb l hm ha.1 hs
  have h4:=h3 l c1 c2
  generalize rF ⟨qs,rq⟩ l=F at h4 hR
  (repeat (first|refine nv ?_|refine cf (h2) ?_))
  refine aj ?_ ?_
  ·intro h;cases h
  intro _
  (repeat (first|refine nv ?_|refine cf (h4) ?_))
  refine rA [] ?_
  refine⟨?_,rfl⟩
  rw[hR]
def z70.kk:=p9 kB Tryz.ntmps70 FH iW Af xN NC nU Tryz.results70
open z70 in
theorem aez (r:MB) (hl:PB 100000 r.left) (hr:PB 100000 r.right) (s:akK) (hs:s.size≤300000):AC Tryz.prog 70 [QY r,Str s] [] (fun x st=>x= .tup [pS (XA r s).1,pB (XA r s).2]∧st=[]):=by
 have h1:=Di r (hl.mono (by omega)) (hr.mono (by omega))
 have h2:=YT r.left r.right hl hr s hs
 have hR:XA r s=if okR r then Y5 r.left r.right s else(noS,false):=rfl
 have o1:okR r=decide (iQ r=0):=rfl
 generalize XA r s=R at hR
 generalize iQ r=er at h1 o1
 obtain⟨ex,lf,rg⟩:=r
 simp only at h1 h2 hR
 generalize Y5 lf rg s=T at h2 hR
 obtain⟨ps,rp⟩:=lf
 obtain⟨qs,rq⟩:=rg
 refine df Tryz.func70 Tryz.ntmps70 fun x hx=>?_
 (repeat (first|refine nv ?_|refine cf (h1) ?_))
 refine aj ?_ ?_
 ·intro h
  have e:¬er=0:=by simpa using h
  rw[o1,ahK e,if_neg (by simp)] at hR
  try refine nv ?_
  refine rA [] ?_
  refine⟨?_,rfl⟩
  rw[hR]
 intro h
 have e:er=0:=by simpa using h
 rw[o1,ajk e,if_pos rfl] at hR
 (repeat (first|refine nv ?_|refine cf (h2) ?_))
 refine rA [] ?_
 refine⟨?_,rfl⟩
 rw[hR]
end
end Go.Proofs.YtcpgicfphakdaaaGreatDoor
