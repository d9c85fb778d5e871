/- A part of the proof. -/
import Derived.Test.YtcpgicfphakdaaaGreatDoorRK10
import Derived.Test.YtcpgicfphakdaaaGreatDoorRK7
import Derived.Test.YtcpgicfphakdaaaGreatDoorRX15
set_option maxRecDepth 100000
set_option maxHeartbeats 16000000
set_option linter.all false
namespace Go.Proofs.YtcpgicfphakdaaaGreatDoor
open Go.Ab Tys
variable [yF]
def adt.kk:=p13 kB kG kS Tryz.ntmps197 Tryz.underlying74 Tryz.underlying9 gG iC jR pX lI kC Tryz.results197
open adt in
theorem X4 (p:bH) (hp:PB 100000 p) (cs:List ByteArray) (hcl:cs.length≤400000) (hcs:∀s∈cs,s.size≤400000):AC Tryz.prog 197 [aPat p,iy cs] [] (fun r st=>r= .tup [pS (pO p cs).1,pI (pO p cs).2]∧st=[]):=by
 have hki:=yA p (hp.mono (by omega))
 have hF:= @XM p cs
 have hok:gz p=decide (bV p=0):=rfl
 have hwd:qN p=aC p.parts+(if p.rest then 1 else 0):=rfl
 have hpo:=fun h=>dE (p:=p) h
 generalize bV p=cp at hki hF hok
 generalize gz p=op at hki hF hok hpo
 obtain⟨ps,rs⟩:=p
 have h1:=hp.1
 have hpg:=hp.get
 simp only[dC] at h1 hF hki hpo hwd hpg
 generalize pO ⟨ps,rs⟩ cs=R at hF
 cases op with
 |false=>
  have hcp:¬cp=0:=by intro e;rw[e] at hok;cases hok
  simp only[Bool.false_and,Bool.false_eq_true,if_false] at hki hF
  refine dA Tryz.func197 Tryz.ntmps197 fun x hx=>?_
  (repeat (first|refine nv ?_|refine cf (hki) ?_))
  refine aj ?_ ?_
  rotate_left
  ·intro h;simp at h;exact absurd h hcp
  intro _
  try refine nv ?_
  refine rA [] ?_
  refine⟨?_,rfl⟩
  rw[hF]
 |true=>
  have hcp:cp=0:=by have:=hok.symm;simpa using this
  subst hcp
  have hpo:=hpo rfl
  simp only[Bool.true_and,if_true] at hki hF
  have hs9:aC ps≤ps.length:=List.length_filter_le ..
  refine dA Tryz.func197 Tryz.ntmps197 fun x hx=>?_
  (repeat (first|refine nv ?_|refine cf (hki) ?_))
  refine aj ?_ ?_
  ·intro h;cases h
  intro _
  try refine nv ?_
  refine aj ?_ ?_
  ·intro hw
   have hw':¬cs.length=qN ⟨ps,rs⟩:=by
    intro e
    rw[hwd] at e
    cases rs
    ·simp only[Bool.false_eq_true,if_false,Nat.add_zero] at e;simp[e] at hw
    ·simp only[if_true] at e;simp[e] at hw
   rw[if_neg hw'] at hF
   try refine nv ?_
   refine rA [] ?_
   refine⟨?_,rfl⟩
   rw[hF]
  intro hw
  have hw':cs.length=qN ⟨ps,rs⟩:=by
   rw[hwd]
   cases rs
   ·simp at hw
    simp only[Bool.false_eq_true,if_false];omega
   ·simp at hw
    simp only[if_true];omega
  rw[if_pos hw'] at hF
  rw[hwd] at hw'
  clear hki hok hwd hw
  have e00:Int.toNat 0=0:=rfl
  refine bC ?_
  refine dw (wr:=false) 3 (by simp only[kk,Nat.reduceAdd,Nat.reduceLT,Nat.reduceEqDiff, ↓reduceIte,reduceCtorEq];first|done|rfl) (by first|exact trivial|(simp[All,dG];omega)) ?_
  refine Qk iC kC (by simp) (by simp only[kV, ↓reduceIte,Nat.reduceEqDiff,reduceCtorEq];first|done|rfl) (by simp only[kV, ↓reduceIte,Nat.reduceEqDiff,reduceCtorEq];first|done|rfl) (by simp[Ab.get]) (by omega) (by show(16:Int)*_≤_;omega) (by omega) ?_
  refine dZ ?_
  try refine nv ?_
  refine ax (ι:=Nat) (I:=fun k=>⟨96,[(1,iy (cs.drop (aC (ps.take k)))),(7,B rs),(9, .c (.ms 100 1 0 (jg ps cs k).length)),(47,iy ps),(48,I .i64 ps.length),(49,I .i64 k)],
   [(100,aK 1 ((jg ps cs k).map encS))]⟩)
   (Inv:=fun k=>k≤ps.length∧o7 ps cs k=true) (μ:=fun k=>ps.length-k) 0 ⟨by omega,rfl⟩ ?_ ?_
  ·(refine bI (fun i=>if i=100 then 45 else i) rfl ?_ ⟨?_,?_,?_,keepR hx (by simp[ae,Ab.get])⟩<;>first|(intro i hi;have h0:=hx i hi;constructor<;>(revert h0;simp only[ae,Ab.get];(repeat' split)<;>simp_all);done)|(simp only[kE,aK, ↓reduceIte,Nat.reduceEqDiff,reduceCtorEq];done)|(simp only[aK,jv,jy,List.mem_cons,List.not_mem_nil,or_false,forall_eq_or_imp,forall_eq];simp[dQ,dX,dK,dY,ag,Ab.get,aH,cu,aB,bD,aS,aQ,aU,aP,aT,ae,List.flatten,jg,tY,List.drop_zero];done)|simp[dQ,dX,dK,dY,ag,Ab.get,aH,cu,aB,bD,aS,aQ,aU,aP,aT,ae,List.flatten,jg,tY,List.drop_zero])
  rintro k ⟨hk,hall⟩
  have hfl:=zH ps cs k
  have hsl:=Zk ps k
  try refine nv ?_
  refine aj ?_ ?_
  ·intro hlt
   have hlt':k<ps.length:=by simpa using hlt
   obtain⟨v,hv,he,_⟩:=round encS ps k noS hlt'
   have ev:=getD_some (z:=noS) hv
   have hvs:v.size≤100000:=hp.2 v (List.mem_of_getElem? hv)
   have hsv:=wO v
   have hss:=F6 hv
   have hst:=lN v
   rw[oK (by rw[←ev];exact hpo k hlt')] at hst
   cases hsu:aX v with
   |true=>
    rw[hsu] at hst hss
    rw[if_pos rfl] at hss
    have hlt2:=yz ps k hlt' (by rw[ev];exact hsu)
    have hj:aC (ps.take k)<cs.length:=by rw[hw'];omega
    obtain⟨u,hu⟩:∃u,cs[aC (ps.take k)]? =some u:=⟨_,List.getElem?_eq_getElem hj⟩
    have eu:=getD_some (z:=noS) hu
    have hus:u.size≤400000:=hcs u (List.mem_of_getElem? hu)
    have hLd:cs.drop (aC (ps.take k))=u::cs.drop (aC (ps.take k)+1):=by
     rw[List.drop_eq_getElem?_toList_append,hu];rfl
    have hsz1:1≤v.size:=(fG hsu).1
    have hsfx:=tq hsu
    rw[hLd]
    (repeat (first|refine nx @he ?_|refine cf (hst) ?_))
    refine aj ?_ ?_
    rotate_left
    ·intro h;cases h
    intro _
    (repeat (first|refine nx @e00 ?_|refine cf (nC u (by omega)) ?_))
    refine aj ?_ ?_
    ·intro hb
     have hb':comp u=false:=by simpa using hb
     rw[Vp hlt' (by rw[ev,eu,hsu,hb'];rfl)] at hF
     try refine nv ?_
     refine rA [] ?_
     refine⟨?_,rfl⟩
     rw[hF];rfl
    intro hb
    have hb':comp u=true:=by simpa using hb
    refine bC ?_
    refine sD (wr:=true) ([]:List (Nat×AV)) (by kernel_rfl) (by simp only[kD,kk,Nat.reduceAdd,Nat.reduceLT,Nat.reduceEqDiff, ↓reduceIte,reduceCtorEq,hsfx];first|done|rfl) ?_ (by kernel_rfl) ?_
    ·exact vO
    try refine nv ?_
    refine⟨k+1,⟨by omega,by rw[D5,hall,ev,eu,hb'];simp⟩,by omega,?_⟩
    have e:jg ps cs (k+1)=jg ps cs k++[u++jY v]:=by simp only[jg,ev,eu,hsu,if_true]
    rw[e,hss]
    exact Af (fun i=>if i=100 then 71 else i)
   |false=>
    rw[hsu] at hst hss
    rw[if_neg (by simp),Nat.add_zero] at hss
    (repeat (first|refine nx @he ?_|refine cf (hst) ?_))
    refine aj ?_ ?_
    ·intro h;cases h
    intro _
    try refine nv ?_
    refine⟨k+1,⟨by omega,by rw[D5,hall,ev,hsu];rfl⟩,by omega,?_⟩
    have e:jg ps cs (k+1)=jg ps cs k++[v]:=by simp only[jg,ev,hsu,if_false,Bool.false_eq_true]
    rw[e,hss]
    exact Af (fun i=>if i=100 then 71 else i)
  intro hge
  have hk':k=ps.length:=by have:¬k<ps.length:=by simpa using hge
                           omega
  subst hk'
  rw[if_pos hall] at hF
  rw[List.take_length]
  have hfs:=GM hp.2 hcs ps.length
  simp only at hfs
  have hfl:=zH ps cs ps.length
  generalize jg ps cs ps.length=X at hfl hF hfs⊢
  try refine nv ?_
  refine aj ?_ ?_
  ·intro hr
   subst hr
   rw[if_pos rfl] at hF hw'
   obtain⟨u,hu⟩:∃u,cs[aC ps]? =some u:=⟨_,List.getElem?_eq_getElem (by omega)⟩
   have eu:=getD_some (z:=noS) hu
   have hus:u.size≤400000:=hcs u (List.mem_of_getElem? hu)
   have hul:=sJ u
   have husz:∀s∈split u,s.size≤500000:=fun s hs=>by have:=oQ _ _ s hs;omega
   have hLd:cs.drop (aC ps)=[u]:=by
    rw[List.drop_eq_getElem?_toList_append,hu,List.drop_eq_nil_of_le (by omega)];rfl
   rw[eu] at hF
   rw[hLd]
   (repeat (first|refine nx @e00 ?_|refine cf (GZ u (by omega)) ?_))
   refine ax (ι:=Nat) (I:=fun j=>⟨96,[(1,iy [u]),(9, .c (.ms 100 1 0 X.length)),(77,iy (split u)),(78,I .i64 (split u).length),(79,I .i64 j)],[(100,aK 1 (X.map encS))]⟩)
    (Inv:=fun j=>j≤(split u).length∧((split u).take j).all comp=true) (μ:=fun j=>(split u).length-j) 0 ⟨by omega,by simp⟩ ?_ ?_
   ·exact cO
   rintro j ⟨hj,hcl2⟩
   try refine nv ?_
   refine aj ?_ ?_
   ·intro hlt
    have hlt':j<(split u).length:=by simpa using hlt
    obtain⟨v,hv,he,htk⟩:=round encS (split u) j noS hlt'
    have hvs:=husz v (List.mem_of_getElem? hv)
    (repeat (first|refine nx @he ?_|refine cf (nC v (by omega)) ?_))
    refine aj ?_ ?_
    ·intro hb
     have hb':comp v=false:=by simpa using hb
     have hn:¬(split u).all comp=true:=by
      intro e
      rw[List.all_eq_true] at e;rw[e v (List.mem_of_getElem? hv)] at hb';cases hb'
     rw[if_neg hn] at hF
     try refine nv ?_
     refine rA [] ?_
     refine⟨?_,rfl⟩
     rw[hF]
    intro hb
    have hb':comp v=true:=by simpa using hb
    try refine nv ?_
    refine⟨j+1,⟨by omega,by rw[htk,List.all_append,hcl2];simp[hb']⟩,by omega,?_⟩
    exact cO
   intro hge
   have hj':j=(split u).length:=by have:¬j<(split u).length:=by simpa using hge
                                   omega
   rw[hj',List.take_length] at hcl2
   rw[if_pos hcl2] at hF
   have hXu:∀s∈X++[u],s.size≤1000000:=by
    intro s hs
    rcases List.mem_append.1 hs with h|h
    ·have:=hfs s h;omega
    ·rw[List.mem_singleton.1 h];omega
   have hjs:=FP (X++[u]) slash (by rw[List.length_append];simp;omega) (Dn _ (by rw[List.length_append];simp;omega) hXu)
   have hbg:(dL (X++[u]) slash).size≤1000000*1000001:=Nat.le_trans (Ip (X++[u]) hXu) (Nat.mul_le_mul_right _ (by rw[List.length_append];simp;omega))
   have hds:ByteArray.size {data:= #[47,47]}=2:=rfl
   refine bC ?_
   refine gx @e00 ?_
   refine bC ?_
   refine bz (aZ (i:=9) (id:=92) (ys:=(X++[u]).map encS) rfl (by simp[Ab.get]) (by simp)) ?_
   refine dZ ?_
   (repeat (first|refine nv ?_|refine cf (hjs) ?_))
   refine JM (by simp) (by simp only[kV, ↓reduceIte,Nat.reduceEqDiff,reduceCtorEq];first|done|rfl) (by simp only[kV, ↓reduceIte,Nat.reduceEqDiff,reduceCtorEq];first|done|rfl) ?_ ?_
   ·omega
   try refine nv ?_
   refine rA [] ?_
   refine⟨?_,rfl⟩
   rw[hF]
  ·intro hr
   subst hr
   rw[if_neg (by simp)] at hF
   have hjs:=FP X slash (by omega) (Dn _ (by omega) (fun s hs=>by have:=hfs s hs;omega))
   have hbg:(dL X slash).size≤1000000*1000001:=Nat.le_trans (Ip X (fun s hs=>by have:=hfs s hs;omega)) (Nat.mul_le_mul_right _ (by omega))
   have hds:ByteArray.size {data:= #[47,47]}=2:=rfl
   refine bC ?_
   refine bz (aZ (i:=9) (id:=100) (ys:=X.map encS) rfl rfl (by simp)) ?_
   refine dZ ?_
   (repeat (first|refine nv ?_|refine cf (hjs) ?_))
   refine JM (by simp) (by simp only[kV, ↓reduceIte,Nat.reduceEqDiff,reduceCtorEq];first|done|rfl) (by simp only[kV, ↓reduceIte,Nat.reduceEqDiff,reduceCtorEq];first|done|rfl) ?_ ?_
   ·omega
   try refine nv ?_
   refine rA [] ?_
   refine⟨?_,rfl⟩
   rw[hF]
def Vm (a b:bH) (s:ByteArray):ByteArray×Bool:=match eP a s with|none=>(noS,false)|some l=>((pO b l).1,decide ((pO b l).2=0))
def z139.kk:=p5 kB Tryz.ntmps139 gG lI Tryz.results139
open z139 in
theorem Vr (a b:bH) (ha:PB 100000 a) (hb:PB 100000 b) (s:ByteArray) (hs:s.size≤300000):AC Tryz.prog 139 [aPat a,aPat b,Str s] [] (fun x st=>x= .tup [pS (Vm a b s).1,pB (Vm a b s).2]∧st=[]):=by
 have h2:=JO a (ha.mono (by omega)) s (by omega)
 have h3:=X4 b hb
 have hcb:=Rj a s
 have hR:Vm a b s=match eP a s with|none=>(noS,false)|some l=>((pO b l).1,decide ((pO b l).2=0)):=rfl
 generalize Vm a b s=R at hR
 obtain⟨ps,rp⟩:=a
 obtain⟨qs,rq⟩:=b
 simp only at h2 h3 hcb hR
 refine dA Tryz.func139 Tryz.ntmps139 fun x hx=>?_
 cases hm:eP ⟨ps,rp⟩ s with
 |none=>
  rw[hm] at hR h2
  simp only[iJ,pB,Option.isSome] at h2
  simp only at hR
  (repeat (first|refine nv ?_|refine cf (h2) ?_))
  refine aj ?_ ?_
  ·intro _
   try refine nv ?_
   refine rA [] ?_
   refine⟨?_,rfl⟩
   rw[hR]
  ·intro h;cases h
 |some l=>
  rw[hm] at hR h2
  simp only[iJ,pB,Option.isSome] at h2
  simp only at hR
  obtain⟨c1,c2⟩:=hcb l hm ha.1 hs
  have h4:=h3 l c1 c2
  generalize pO ⟨qs,rq⟩ l=F at h4 hR
  (repeat (first|refine nv ?_|refine cf (h2) ?_))
  refine aj ?_ ?_
  ·intro h;cases h
  intro _
  (repeat (first|refine nv ?_|refine cf (h4) ?_))
  refine rA [] ?_
  refine⟨?_,rfl⟩
  rw[hR]
def z70.kk:=p9 kB Tryz.ntmps70 CW gG wX uw JU lI Tryz.results70
open z70 in
theorem abj (r:IK) (hl:PB 100000 r.left) (hr:PB 100000 r.right) (s:ByteArray) (hs:s.size≤300000):AC Tryz.prog 70 [PL r,Str s] [] (fun x st=>x= .tup [pS (TQ r s).1,pB (TQ r s).2]∧st=[]):=by
 have h1:=zK r (hl.mono (by omega)) (hr.mono (by omega))
 have h2:=Vr r.left r.right hl hr s hs
 have hR:TQ r s=if okR r then Vm r.left r.right s else(noS,false):=rfl
 have o1:okR r=decide (gm r=0):=rfl
 generalize TQ r s=R at hR
 generalize gm r=er at h1 o1
 obtain⟨ex,lf,rg⟩:=r
 simp only at h1 h2 hR
 generalize Vm lf rg s=T at h2 hR
 obtain⟨ps,rp⟩:=lf
 obtain⟨qs,rq⟩:=rg
 refine dA Tryz.func70 Tryz.ntmps70 fun x hx=>?_
 (repeat (first|refine nv ?_|refine cf (h1) ?_))
 refine aj ?_ ?_
 ·intro h
  have e:¬er=0:=by simpa using h
  rw[o1,decide_eq_false e,if_neg (by simp)] at hR
  try refine nv ?_
  refine rA [] ?_
  refine⟨?_,rfl⟩
  rw[hR]
 intro h
 have e:er=0:=by simpa using h
 rw[o1,decide_eq_true e,if_pos rfl] at hR
 (repeat (first|refine nv ?_|refine cf (h2) ?_))
 refine rA [] ?_
 refine⟨?_,rfl⟩
 rw[hR]
end Go.Proofs.YtcpgicfphakdaaaGreatDoor
namespace Go.Proofs.YtcpgicfphakdaaaGreatDoor
open Go.Ab Tys
variable [yF]
def z72.kk:=p6 kB Tryz.ntmps72 gG lI kC Tryz.results72
open z72 in
theorem ZF (h:bH) (s:ByteArray) (hh:PB 1000000 h) (hs:s.size≤1000000):AC Tryz.prog 72 [aPat h, .c (.pp [.v (.string s)])] [] (fun x st=>x=B (eP h s).isSome∧st=[]):=by
 have hm:=JO h hh s hs
 obtain⟨c,hc⟩:=aac (eP h s)
 rw[hc] at hm
 generalize (eP h s).isSome=b at hm
 obtain⟨ps,rp⟩:=h
 refine dA Tryz.func72 Tryz.ntmps72 fun x hx=>?_
 (repeat (first|refine nv ?_|refine cf (hm) ?_))
 refine rA [] ?_
 refine⟨?_,rfl⟩
 rfl
open acF in
theorem aaO (l:List bH) (s:ByteArray) (hl:l.length≤1000000) (hh:∀h∈l,PB 1000000 h) (hs:s.size≤1000000):
 AC Tryz.prog 140 [iY l, .c (.fn 72 [.pp [.v (.string s)]])] [] (fun x st=>(∃i:Int,x=I .i64 i∧decide (0≤i)=l.any fun h=>(eP h s).isSome)∧st=[]):=by
 have hcl:=fun h (hm:h∈l)=>ZF h s (hh h hm) hs
 generalize hF:(l.any fun h=>(eP h s).isSome)=f
 refine dA Tryz.func140 Tryz.ntmps140 fun x hx=>?_
 try refine nv ?_
 refine ax (ι:=Nat) (I:=fun k=>⟨19,[(0,iY l),(1, .c (.fn 72 [.pp [.v (.string s)]])),(7,I .i64 l.length),(8,I .i64 k)],[]⟩)
  (Inv:=fun k=>k≤l.length∧(l.take k).any (fun h=>(eP h s).isSome)=false) (μ:=fun k=>l.length-k) 0 ⟨by omega,by simp⟩ ?_ ?_
 ·exact cO
 rintro k ⟨hk,hno⟩
 try refine nv ?_
 refine aj ?_ ?_
 ·intro hlt
  have hlt':k<l.length:=by simpa using hlt
  obtain⟨v,hv,he,htk⟩:=round bF l k dm hlt'
  have hcv:=hcl v (List.mem_of_getElem? hv)
  generalize hcb:(eP v s).isSome=cb at hcv
  try refine nx @he ?_
  refine OY [] (by simp) (by simp only[kV, ↓reduceIte,Nat.reduceEqDiff,reduceCtorEq];first|done|rfl) (by simp only[kFn,List.map];first|done|rfl) (by simp only[kV, ↓reduceIte,Nat.reduceEqDiff,reduceCtorEq];first|done|rfl) ⟨by simp,by simp,by simp[aH,cu,aB,aG,bG]⟩ (hcv) ?_
  rintro r st' ⟨rfl,rfl⟩<;>(refine⟨by simp[lW],?_⟩;simp only[kP,Nat.reduceEqDiff, ↓reduceIte,reduceCtorEq])
  try refine nv ?_
  refine aj ?_ ?_
  ·intro h
   have hf:f=true:=by
    rw[←hF,List.any_eq_true]
    exact⟨v,List.mem_of_getElem? hv,by rw[hcb];simpa using h⟩
   try refine nv ?_
   refine rA [] ?_
   exact⟨⟨k,rfl,by rw[hf];simp⟩,rfl⟩
  ·intro h
   try refine nv ?_
   refine⟨k+1,⟨by omega,by rw[htk,List.any_append,hno];simp only[List.any_cons,List.any_nil,hcb,Bool.or_false,Bool.false_or];simpa using h⟩,by omega,?_⟩
   exact cO
 intro hge
 have hk':k=l.length:=by have:¬k<l.length:=by simpa using hge
                         omega
 rw[hk',List.take_length] at hno
 try refine nv ?_
 refine rA [] ?_
 exact⟨⟨-1,rfl,by rw[←hF,hno];decide⟩,rfl⟩
open z71 in
theorem Ym (l:List bH) (s:ByteArray) (hl:l.length≤1000000) (hh:∀h∈l,PB 1000000 h) (hs:s.size≤1000000):
 AC Tryz.prog 71 [iY l, .c (.fn 72 [.pp [.v (.string s)]])] [] (fun x st=>x=B (l.any fun h=>(eP h s).isSome)∧st=[]):=by
 refine dA Tryz.func71 Tryz.ntmps71 fun x hx=>?_
 try refine nv ?_
 refine tX [] (aaO l s hl hh hs) ?_
 rintro r st' ⟨⟨i,rfl,hi⟩,rfl⟩<;>refine uo ?_
 try refine nv ?_
 refine rA [] ?_
 refine⟨?_,rfl⟩
 rw[←hi]
@[reducible] def Z4 (L:iE) (la:List (ByteArray×Int)) (me:List (Int×List Int)) (m:List eQ):AV:= .agg [.pp (qK L la me), .d (.ps 5 (m.map eY))]
def z26.kk:=p2 (p13 kB kG kS kFn Tryz.ntmps26 Tryz.underlying23 CW gG Ht Qh Yh wX uw) (p12 ES E8 Fb TE JU abd lI Lc Qy Za kC Tryz.results26)
open z26 in
theorem FZ (L:iE) (la:List (ByteArray×Int)) (me:List (Int×List Int)) (m:List eQ) (hm:m.length≤1000000) (hb:∀e∈m,EB 10000 e) (hc:∀e∈m,gm e.line=0) (s:ByteArray) (hs:s.size≤300000):
 AC Tryz.prog 26 [Z4 L la me m,Str s] [] (fun x st=>x= .tup [pS (oW m s).1,pB (oW m s).2]∧st=[]):=by
 have hR:=aav hc s
 generalize oW m s=R at hR
 refine dA Tryz.func26 Tryz.ntmps26 fun x hx=>?_
 refine bC ?_
 refine gg ?_
 refine bC ?_
 refine bz (qp (i:=3) (id:=3) (cs:=[.v (.string s)]) rfl rfl) ?_
 refine dZ ?_
 try refine nv ?_
 refine ax (ι:=Nat) (I:=fun k=>⟨37,[(3, .c (.pp [.v (.string s)])),(11,jW m),(12,I .i64 m.length),(13,I .i64 k)],[]⟩)
  (Inv:=fun k=>k≤m.length∧(m.take k).find? (fun x=>BZ x s)=none) (μ:=fun k=>m.length-k) 0 ⟨by omega,rfl⟩ ?_ ?_
 ·exact cO
 rintro k ⟨hk,hall⟩
 try refine nv ?_
 refine aj ?_ ?_
 ·intro hlt
  have hlt':k<m.length:=by simpa using hlt
  obtain⟨v,hv,he,htk⟩:=round eY m k NQ hlt'
  obtain⟨b1,b2,b3,b4⟩:=hb v (List.mem_of_getElem? hv)
  have hf:=abj v.line (b1.mono (by omega)) (b2.mono (by omega)) s hs
  have hh:=Ym v.holes s (by omega) (fun h hh=>(b4 h hh).mono (by omega)) (by omega)
  have hfd:BZ v s=true→m.find? (fun x=>BZ x s)=some v:=by
   intro h
   have e:m=m.take k++v::m.drop (k+1):=by
    have h1:=List.take_append_drop k m
    rw[List.drop_eq_getElem?_toList_append,hv] at h1
    exact h1.symm
   rw[e,List.find?_append,hall,List.find?_cons,h]
   rfl
  have hnx:BZ v s=false→(m.take (k+1)).find? (fun x=>BZ x s)=none:=by
   intro h
   rw[htk,List.find?_append,hall,List.find?_cons,h]
   rfl
  have hhb:BZ v s=((TQ v.line s).2&&!v.holes.any fun h=>(eP h s).isSome):=rfl
  generalize BZ v s=hb at hfd hnx hhb
  generalize (v.holes.any fun h=>(eP h s).isSome)=ib at hh hhb
  generalize hF:TQ v.line s=F at hf hhb
  obtain⟨t,fb⟩:=F
  simp only at hf hhb
  (repeat (first|refine nx @he ?_|refine cf (hf) ?_))
  refine so ([(32,B ib)]) ?_ ?_
  ·exact iw @hh
  try refine nv ?_
  refine aj ?_ ?_
  ·intro h
   have h':hb=true:=by rw[hhb];cases fb<;>cases ib<;>simp_all
   rw[hfd h'] at hR
   simp only[hF] at hR
   try refine nv ?_
   refine rA [] ?_
   refine⟨?_,rfl⟩
   rw[hR]
  ·intro h
   have h':hb=false:=by rw[hhb];cases fb<;>cases ib<;>simp_all
   try refine nv ?_
   refine⟨k+1,⟨by omega,hnx h'⟩,by omega,?_⟩
   exact cO
 intro hge
 have hk':k=m.length:=by have:¬k<m.length:=by simpa using hge
                         omega
 rw[hk',List.take_length] at hall
 rw[hall] at hR
 try refine nv ?_
 refine rA [] ?_
 refine⟨?_,rfl⟩
 rw[hR]
end Go.Proofs.YtcpgicfphakdaaaGreatDoor
