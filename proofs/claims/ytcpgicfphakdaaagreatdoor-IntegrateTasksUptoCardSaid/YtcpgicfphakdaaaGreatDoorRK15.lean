/- A part of the proof. -/
import Derived.Test.YtcpgicfphakdaaaGreatDoorRL2
set_option maxRecDepth 100000
set_option maxHeartbeats 16000000
set_option linter.all false
namespace Go.Proofs.YtcpgicfphakdaaaGreatDoor
open Go.Ab Tys
variable [zG]
def aeV.kk:=p13 kB kG kS Tryz.ntmps197 Tryz.underlying74 Tryz.underlying9 df eH dW jO fM jy Tryz.results197
open aeV in
theorem XM (p:aX) (hp:PB 100000 p) (cs:List ByteArray) (hcl:cs.length≤400000) (hcs:∀s∈cs,s.size≤400000):AC Tryz.prog 197 [aPat p,dJ cs] [] (fun r st=>r= .tup [pS (lQ p cs).1,pI (lQ p cs).2]∧st=[]):=by
 have hki:=zo p (hp.mono (by omega))
 have hF:= @Zf p cs
 have hok:fG p=decide (aS p=0):=rfl
 have hwd:jS p=aj p.parts+(if p.rest then 1 else 0):=rfl
 have hpo:=fun h=>dO (p:=p) h
 generalize aS p=cp at hki hF hok
 generalize fG p=op at hki hF hok hpo
 obtain⟨ps,rs⟩:=p
 have h1:=hp.1
 have hpg:=hp.get
 simp only[dL] at h1 hF hki hpo hwd hpg
 generalize lQ ⟨ps,rs⟩ cs=R at hF
 cases op with
 |false=>
  have hcp:¬cp=0:=by intro e;rw[e] at hok;cases hok
  simp only[Bool.false_and,Bool.false_eq_true,if_false] at hki hF
  refine bV Tryz.func197 Tryz.ntmps197 fun x hx=>?_
  (repeat (first|refine nv ?_|refine cf (hki) ?_))
  refine af ?_ ?_
  rotate_left
  ·intro h;simp at h;exact absurd h hcp
  intro _
  try refine nv ?_
  refine rA [] ?_
  refine⟨?_,rfl⟩
  rw[hF]
 |true=>
  have hcp:cp=0:=by have:=hok.symm;simpa using this
  subst hcp
  have hpo:=hpo rfl
  simp only[Bool.true_and,if_true] at hki hF
  have hs9:aj ps≤ps.length:=List.length_filter_le ..
  refine bV Tryz.func197 Tryz.ntmps197 fun x hx=>?_
  (repeat (first|refine nv ?_|refine cf (hki) ?_))
  refine af ?_ ?_
  ·intro h;cases h
  intro _
  try refine nv ?_
  refine af ?_ ?_
  ·intro hw
   have hw':¬cs.length=jS ⟨ps,rs⟩:=by
    intro e
    rw[hwd] at e
    cases rs
    ·simp only[Bool.false_eq_true,if_false,Nat.add_zero] at e;simp[e] at hw
    ·simp only[if_true] at e;simp[e] at hw
   rw[if_neg hw'] at hF
   try refine nv ?_
   refine rA [] ?_
   refine⟨?_,rfl⟩
   rw[hF]
  intro hw
  have hw':cs.length=jS ⟨ps,rs⟩:=by
   rw[hwd]
   cases rs
   ·simp at hw
    simp only[Bool.false_eq_true,if_false];omega
   ·simp at hw
    simp only[if_true];omega
  rw[if_pos hw'] at hF
  rw[hwd] at hw'
  clear hki hok hwd hw
  have e00:Int.toNat 0=0:=rfl
  refine aJ ?_
  refine dR (wr:=false) 3 (by simp only[kk,Nat.reduceAdd,Nat.reduceLT,Nat.reduceEqDiff, ↓reduceIte,reduceCtorEq];first|done|rfl) (by first|exact trivial|(simp[All,dI];omega)) ?_
  refine OE eH jy (by simp) (by simp only[kV, ↓reduceIte,Nat.reduceEqDiff,reduceCtorEq];first|done|rfl) (by simp only[kV, ↓reduceIte,Nat.reduceEqDiff,reduceCtorEq];first|done|rfl) (by simp[Ab.get]) (by omega) (by show(16:Int)*_≤_;omega) (by omega) ?_
  refine dM ?_
  try refine nv ?_
  refine ag (ι:=Nat) (I:=fun k=>⟨96,[(1,dJ (cs.drop (aj (ps.take k)))),(7,B rs),(9, .c (.ms 100 1 0 (fQ ps cs k).length)),(47,dJ ps),(48,I .i64 ps.length),(49,I .i64 k)],
   [(100,aQ 1 ((fQ ps cs k).map encS))]⟩)
   (Inv:=fun k=>k≤ps.length∧rO ps cs k=true) (μ:=fun k=>ps.length-k) 0 ⟨by omega,rfl⟩ ?_ ?_
  ·(refine fZ (fun i=>if i=100 then 45 else i) rfl ?_ ⟨?_,?_,?_,keepR hx (by simp[ae,Ab.get])⟩<;>first|(intro i hi;have h0:=hx i hi;constructor<;>(revert h0;simp only[ae,Ab.get];(repeat' split)<;>simp_all);done)|(simp only[kE,aQ, ↓reduceIte,Nat.reduceEqDiff,reduceCtorEq];done)|(simp only[aQ,oN,oh,List.mem_cons,List.not_mem_nil,or_false,forall_eq_or_imp,forall_eq];simp[gJ,gX,eX,iM,aA,Ab.get,aZ,dH,aN,bY,bG,bH,bD,bI,bC,ae,List.flatten,fQ,nJ,List.drop_zero];done)|simp[gJ,gX,eX,iM,aA,Ab.get,aZ,dH,aN,bY,bG,bH,bD,bI,bC,ae,List.flatten,fQ,nJ,List.drop_zero])
  rintro k ⟨hk,hall⟩
  have hfl:=wY ps cs k
  have hsl:=xX ps k
  try refine nv ?_
  refine af ?_ ?_
  ·intro hlt
   have hlt':k<ps.length:=by simpa using hlt
   obtain⟨v,hv,he,_⟩:=round encS ps k noS hlt'
   have ev:=getD_some (z:=noS) hv
   have hvs:v.size≤100000:=hp.2 v (List.mem_of_getElem? hv)
   have hsv:=oJ v
   have hss:=wI hv
   have hst:=nR v
   rw[qj (by rw[←ev];exact hpo k hlt')] at hst
   cases hsu:aP v with
   |true=>
    rw[hsu] at hst hss
    rw[if_pos rfl] at hss
    have hlt2:=zu ps k hlt' (by rw[ev];exact hsu)
    have hj:aj (ps.take k)<cs.length:=by rw[hw'];omega
    obtain⟨u,hu⟩:∃u,cs[aj (ps.take k)]? =some u:=⟨_,List.getElem?_eq_getElem hj⟩
    have eu:=getD_some (z:=noS) hu
    have hus:u.size≤400000:=hcs u (List.mem_of_getElem? hu)
    have hLd:cs.drop (aj (ps.take k))=u::cs.drop (aj (ps.take k)+1):=by
     rw[List.drop_eq_getElem?_toList_append,hu];rfl
    have hsz1:1≤v.size:=(gY hsu).1
    have hsfx:=vM hsu
    rw[hLd]
    (repeat (first|refine nx @he ?_|refine cf (hst) ?_))
    refine af ?_ ?_
    rotate_left
    ·intro h;cases h
    intro _
    (repeat (first|refine nx @e00 ?_|refine cf (oL u (by omega)) ?_))
    refine af ?_ ?_
    ·intro hb
     have hb':comp u=false:=by simpa using hb
     rw[JB hlt' (by rw[ev,eu,hsu,hb'];rfl)] at hF
     try refine nv ?_
     refine rA [] ?_
     refine⟨?_,rfl⟩
     rw[hF];rfl
    intro hb
    have hb':comp u=true:=by simpa using hb
    refine aJ ?_
    refine qx (wr:=true) ([]:List (Nat×AV)) (by kernel_rfl) (by simp only[kD,kk,Nat.reduceAdd,Nat.reduceLT,Nat.reduceEqDiff, ↓reduceIte,reduceCtorEq,hsfx];first|done|rfl) ?_ (by kernel_rfl) ?_
    ·exact rC
    try refine nv ?_
    refine⟨k+1,⟨by omega,by rw[tZ,hall,ev,eu,hb'];simp⟩,by omega,?_⟩
    have e:fQ ps cs (k+1)=fQ ps cs k++[u++jq v]:=by simp only[fQ,ev,eu,hsu,if_true]
    rw[e,hss]
    exact uY (fun i=>if i=100 then 71 else i)
   |false=>
    rw[hsu] at hst hss
    rw[if_neg (by simp),Nat.add_zero] at hss
    (repeat (first|refine nx @he ?_|refine cf (hst) ?_))
    refine af ?_ ?_
    ·intro h;cases h
    intro _
    try refine nv ?_
    refine⟨k+1,⟨by omega,by rw[tZ,hall,ev,hsu];rfl⟩,by omega,?_⟩
    have e:fQ ps cs (k+1)=fQ ps cs k++[v]:=by simp only[fQ,ev,hsu,if_false,Bool.false_eq_true]
    rw[e,hss]
    exact uY (fun i=>if i=100 then 71 else i)
  intro hge
  have hk':k=ps.length:=by have:¬k<ps.length:=by simpa using hge
                           omega
  subst hk'
  rw[if_pos hall] at hF
  rw[List.take_length]
  have hfs:=Bf hp.2 hcs ps.length
  simp only at hfs
  have hfl:=wY ps cs ps.length
  generalize fQ ps cs ps.length=X at hfl hF hfs⊢
  try refine nv ?_
  refine af ?_ ?_
  ·intro hr
   subst hr
   rw[if_pos rfl] at hF hw'
   obtain⟨u,hu⟩:∃u,cs[aj ps]? =some u:=⟨_,List.getElem?_eq_getElem (by omega)⟩
   have eu:=getD_some (z:=noS) hu
   have hus:u.size≤400000:=hcs u (List.mem_of_getElem? hu)
   have hul:=qX u
   have husz:∀s∈split u,s.size≤500000:=fun s hs=>by have:=lG _ _ s hs;omega
   have hLd:cs.drop (aj ps)=[u]:=by
    rw[List.drop_eq_getElem?_toList_append,hu,List.drop_eq_nil_of_le (by omega)];rfl
   rw[eu] at hF
   rw[hLd]
   (repeat (first|refine nx @e00 ?_|refine cf (CU u (by omega)) ?_))
   refine ag (ι:=Nat) (I:=fun j=>⟨96,[(1,dJ [u]),(9, .c (.ms 100 1 0 X.length)),(77,dJ (split u)),(78,I .i64 (split u).length),(79,I .i64 j)],[(100,aQ 1 (X.map encS))]⟩)
    (Inv:=fun j=>j≤(split u).length∧((split u).take j).all comp=true) (μ:=fun j=>(split u).length-j) 0 ⟨by omega,by simp⟩ ?_ ?_
   ·exact aW
   rintro j ⟨hj,hcl2⟩
   try refine nv ?_
   refine af ?_ ?_
   ·intro hlt
    have hlt':j<(split u).length:=by simpa using hlt
    obtain⟨v,hv,he,htk⟩:=round encS (split u) j noS hlt'
    have hvs:=husz v (List.mem_of_getElem? hv)
    (repeat (first|refine nx @he ?_|refine cf (oL v (by omega)) ?_))
    refine af ?_ ?_
    ·intro hb
     have hb':comp v=false:=by simpa using hb
     have hn:¬(split u).all comp=true:=by
      intro e
      rw[List.all_eq_true] at e;rw[e v (List.mem_of_getElem? hv)] at hb';cases hb'
     rw[if_neg hn] at hF
     try refine nv ?_
     refine rA [] ?_
     refine⟨?_,rfl⟩
     rw[hF]
    intro hb
    have hb':comp v=true:=by simpa using hb
    try refine nv ?_
    refine⟨j+1,⟨by omega,by rw[htk,List.all_append,hcl2];simp[hb']⟩,by omega,?_⟩
    exact aW
   intro hge
   have hj':j=(split u).length:=by have:¬j<(split u).length:=by simpa using hge
                                   omega
   rw[hj',List.take_length] at hcl2
   rw[if_pos hcl2] at hF
   have hXu:∀s∈X++[u],s.size≤1000000:=by
    intro s hs
    rcases List.mem_append.1 hs with h|h
    ·have:=hfs s h;omega
    ·rw[List.mem_singleton.1 h];omega
   have hjs:=uV (X++[u]) slash (by rw[List.length_append];simp;omega) (ry _ (by rw[List.length_append];simp;omega) hXu)
   have hbg:(fE (X++[u]) slash).size≤1000000*1000001:=Nat.le_trans (xP (X++[u]) hXu) (Nat.mul_le_mul_right _ (by rw[List.length_append];simp;omega))
   have hds:ByteArray.size {data:= #[47,47]}=2:=rfl
   refine aJ ?_
   refine gx @e00 ?_
   refine aJ ?_
   refine aG (aI (i:=9) (id:=92) (ys:=(X++[u]).map encS) rfl (by simp[Ab.get]) (by simp)) ?_
   refine dM ?_
   (repeat (first|refine nv ?_|refine cf (hjs) ?_))
   refine o7 (by simp) (by simp only[kV, ↓reduceIte,Nat.reduceEqDiff,reduceCtorEq];first|done|rfl) (by simp only[kV, ↓reduceIte,Nat.reduceEqDiff,reduceCtorEq];first|done|rfl) ?_ ?_
   ·omega
   try refine nv ?_
   refine rA [] ?_
   refine⟨?_,rfl⟩
   rw[hF]
  ·intro hr
   subst hr
   rw[if_neg (by simp)] at hF
   have hjs:=uV X slash (by omega) (ry _ (by omega) (fun s hs=>by have:=hfs s hs;omega))
   have hbg:(fE X slash).size≤1000000*1000001:=Nat.le_trans (xP X (fun s hs=>by have:=hfs s hs;omega)) (Nat.mul_le_mul_right _ (by omega))
   have hds:ByteArray.size {data:= #[47,47]}=2:=rfl
   refine aJ ?_
   refine aG (aI (i:=9) (id:=100) (ys:=X.map encS) rfl rfl (by simp)) ?_
   refine dM ?_
   (repeat (first|refine nv ?_|refine cf (hjs) ?_))
   refine o7 (by simp) (by simp only[kV, ↓reduceIte,Nat.reduceEqDiff,reduceCtorEq];first|done|rfl) (by simp only[kV, ↓reduceIte,Nat.reduceEqDiff,reduceCtorEq];first|done|rfl) ?_ ?_
   ·omega
   try refine nv ?_
   refine rA [] ?_
   refine⟨?_,rfl⟩
   rw[hF]
def VK (a b:aX) (s:ByteArray):ByteArray×Bool:=match dC a s with|none=>(noS,false)|some l=>((lQ b l).1,decide ((lQ b l).2=0))
def z139.kk:=p5 kB Tryz.ntmps139 df fM Tryz.results139
open z139 in
theorem Xx (a b:aX) (ha:PB 100000 a) (hb:PB 100000 b) (s:ByteArray) (hs:s.size≤300000):AC Tryz.prog 139 [aPat a,aPat b,Str s] [] (fun x st=>x= .tup [pS (VK a b s).1,pB (VK a b s).2]∧st=[]):=by
 have h2:=JQ a (ha.mono (by omega)) s (by omega)
 have h3:=XM b hb
 have hcb:=Iy a s
 have hR:VK a b s=match dC a s with|none=>(noS,false)|some l=>((lQ b l).1,decide ((lQ b l).2=0)):=rfl
 generalize VK a b s=R at hR
 obtain⟨ps,rp⟩:=a
 obtain⟨qs,rq⟩:=b
 simp only at h2 h3 hcb hR
 refine bV Tryz.func139 Tryz.ntmps139 fun x hx=>?_
 cases hm:dC ⟨ps,rp⟩ s with
 |none=>
  rw[hm] at hR h2
  simp only[gZ,pB,Option.isSome] at h2
  simp only at hR
  (repeat (first|refine nv ?_|refine cf (h2) ?_))
  refine af ?_ ?_
  ·intro _
   try refine nv ?_
   refine rA [] ?_
   refine⟨?_,rfl⟩
   rw[hR]
  ·intro h;cases h
 |some l=>
  rw[hm] at hR h2
  simp only[gZ,pB,Option.isSome] at h2
  simp only at hR
  obtain⟨c1,c2⟩:=hcb l hm ha.1 hs
  have h4:=h3 l c1 c2
  generalize lQ ⟨qs,rq⟩ l=F at h4 hR
  (repeat (first|refine nv ?_|refine cf (h2) ?_))
  refine af ?_ ?_
  ·intro h;cases h
  intro _
  (repeat (first|refine nv ?_|refine cf (h4) ?_))
  refine rA [] ?_
  refine⟨?_,rfl⟩
  rw[hR]
def z70.kk:=p9 kB Tryz.ntmps70 qo df mG jY xy fM Tryz.results70
open z70 in
theorem aa5 (r:Gs) (hl:PB 100000 r.left) (hr:PB 100000 r.right) (s:ByteArray) (hs:s.size≤300000):AC Tryz.prog 70 [zY r,Str s] [] (fun x st=>x= .tup [pS (O7 r s).1,pB (O7 r s).2]∧st=[]):=by
 have h1:=AY r (hl.mono (by omega)) (hr.mono (by omega))
 have h2:=Xx r.left r.right hl hr s hs
 have hR:O7 r s=if okR r then VK r.left r.right s else(noS,false):=rfl
 have o1:okR r=decide (dN r=0):=rfl
 generalize O7 r s=R at hR
 generalize dN r=er at h1 o1
 obtain⟨ex,lf,rg⟩:=r
 simp only at h1 h2 hR
 generalize VK lf rg s=T at h2 hR
 obtain⟨ps,rp⟩:=lf
 obtain⟨qs,rq⟩:=rg
 refine bV Tryz.func70 Tryz.ntmps70 fun x hx=>?_
 (repeat (first|refine nv ?_|refine cf (h1) ?_))
 refine af ?_ ?_
 ·intro h
  have e:¬er=0:=by simpa using h
  rw[o1,decide_eq_false e,if_neg (by simp)] at hR
  try refine nv ?_
  refine rA [] ?_
  refine⟨?_,rfl⟩
  rw[hR]
 intro h
 have e:er=0:=by simpa using h
 rw[o1,decide_eq_true e,if_pos rfl] at hR
 (repeat (first|refine nv ?_|refine cf (h2) ?_))
 refine rA [] ?_
 refine⟨?_,rfl⟩
 rw[hR]
end Go.Proofs.YtcpgicfphakdaaaGreatDoor
