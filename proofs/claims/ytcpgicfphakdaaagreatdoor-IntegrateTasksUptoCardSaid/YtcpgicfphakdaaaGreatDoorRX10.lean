/- A part of the proof. -/
import Derived.Test.YtcpgicfphakdaaaGreatDoorRT8
set_option maxRecDepth 100000
set_option maxHeartbeats 8000000
set_option linter.all false
namespace Go.Proofs.YtcpgicfphakdaaaGreatDoor
open Go.Ab Tys
variable [zG]
theorem PD {n:Nat} {p q:aX} (hp:PB n p) (hq:PB n q):∀k,∀s∈gW p q k,s.size≤n
 |0,s,h=>by simp[gW] at h
 |k+1,s,h=>by
  simp only[gW,List.mem_append,List.mem_singleton] at h
  rcases h with h|rfl
  ·exact PD hp hq k s h
  ·split
   ·exact hp.get k
   ·exact hq.get k
theorem Qd {n:Nat} {p q m:aX} (hp:PB n p) (hq:PB n q) (h:sD p q=some m):PB n m:=by
 unfold sD at h
 split at h
 ·cases h
 ·split at h
  ·cases h
   exact⟨by simp only[kK];exact hp.1,PD hp hq _⟩
  ·cases h
theorem yh {n:Nat} {p q m:aX} (hp:PB n p) (hq:PB n q) (h:gz p q=some m):PB n m:=by
 unfold gz at h
 split at h
 ·split at h
  ·exact Qd hq hp h
  ·exact Qd hp hq h
 ·cases h
theorem Q3 {n:Nat} {p q:aX} (h1:1≤n) (hq:PB n q):∀k,∀b∈uo p q k,PB n b
 |0,b,h=>by simp[uo] at h
 |k+1,b,h=>by
  simp only[uo,List.mem_append] at h
  rcases h with h|h
  ·exact Q3 h1 hq k b h
  ·split at h
   ·simp only[List.mem_singleton] at h
    subst h
    refine⟨by simpa using h1,?_⟩
    intro s hs
    simp only[List.mem_singleton] at hs
    subst hs
    have:=hq.get k
    rw[ByteArray.size_extract];omega
   ·cases h
theorem Gw {n:Nat} {p q:aX} {l:List aX} (h1:1≤n) (hp:PB n p) (hq:PB n q) (h:jd p q=some l):l.length≤n+1∧∀b∈l,PB n b:=by
 unfold jd at h
 split at h
 ·cases h
  constructor
  ·have:=Ej p q p.parts.length
   have:=hp.1
   rw[List.length_append];split<;>simp<;>omega
  ·intro b hb
   rcases List.mem_append.1 hb with hb|hb
   ·exact Q3 h1 hq _ b hb
   ·split at hb
    ·simp only[List.mem_singleton] at hb
     subst hb
     exact⟨by simp only[List.length_drop];have:=hq.1;omega,fun s hs=>hq.2 s (List.mem_of_mem_drop hs)⟩
    ·cases hb
 ·cases h
theorem MQ {n:Nat} {p:aX} {l:List aX} (hp:PB n p) (hl:∀b∈l,PB n b):∀k,∀s∈jl p.parts l k,s.size≤2*n
 |0,s,h=>by simp[jl] at h
 |k+1,s,h=>by
  simp only[jl,List.mem_append,List.mem_singleton] at h
  rcases h with h|rfl
  ·exact MQ hp hl k s h
  ·have a:=hp.get k
   have c:=oJ (p.parts.getD k noS)
   split
   ·have b:((l.getD (aj (p.parts.take k)) bz).parts.getD 0 noS).size≤n:=by
     rw[List.getD_eq_getElem?_getD (l:=l)]
     cases e:l[aj (p.parts.take k)]? with
     |none=>exact Nat.zero_le _
     |some b=>exact(hl b (List.mem_of_getElem? e)).get 0
    rw[ByteArray.size_append];omega
   ·omega
theorem aax {n:Nat} {l:List aX} (hl:∀b∈l,PB n b) (k:Nat):PB n (l.getD k bz):=by
 rw[List.getD_eq_getElem?_getD]
 cases e:l[k]? with
 |none=>exact⟨Nat.zero_le _,fun s hs=>by simp[bz] at hs⟩
 |some b=>exact hl b (List.mem_of_getElem? e)
theorem U6 {n:Nat} {p:aX} (hs:∀s∈p.parts,s.size≤n) (hn:12≤n):PB n (Cs p).1:=by
 unfold Cs
 split
 ·exact⟨Nat.zero_le _,fun s hs=>by simp[bz] at hs⟩
 ·rename_i h;exact⟨by simp only;omega,hs⟩
theorem tH (n:Nat):PB n bz:=⟨Nat.zero_le _,fun s hs=>by simp[bz] at hs⟩
theorem Xn {n:Nat} {p:aX} {l:List aX} (hn:12≤n) (hp:PB n p) (hl:∀b∈l,PB n b):PB (2*n) (fC p l).1:=by
 unfold fC
 split
 ·split
  ·split
   ·split
    ·split
     ·refine U6 ?_ (by omega)
      intro s hs
      rcases List.mem_append.1 hs with h|h
      ·exact MQ hp hl _ s h
      ·have:=(aax hl (aj p.parts)).2 s h;omega
     ·exact tH _
    ·exact U6 (MQ hp hl _) (by omega)
   ·exact tH _
  ·exact tH _
 ·exact tH _
@[reducible] def PZ:List C:=[.d (.v (.bool false)),qm, .d (.v (.bool false)),qm, .d (.v (.bool false))]
@[reducible] def adx (x:Gs×Bool×Int):AV:= .tup [if x.2.1 then YB x.1 else(true,PZ),pB x.2.1,pI x.2.2]
def aeI.kk:=p10 kB kS Tryz.ntmps149 qo df mG jY xy fM Tryz.results149
open aeI in
theorem aav (r:Gs) (p:aX) (hl:PB 10000 r.left) (hr:PB 10000 r.right) (hp:PB 10000 p):AC Tryz.prog 149 [zY r,aPat p] [] (fun x st=>x=adx (lT r p)∧st=[]):=by
 have h1:=DJ r (hl.mono (by omega)) (hr.mono (by omega))
 have h2:=iQ p (hp.mono (by omega))
 have h3:=L9 r.left p (hl.mono (by omega)) (hp.mono (by omega))
 have h4:=fun m=>abE r.left m (hl.mono (by omega))
 have h5:=Zj r.right (hr.mono (by omega))
 have hmb:=fun m=>yh (m:=m) hl hp
 have hbb:=fun m l hm=>Gw (q:=m) (l:=l) (by omega) hl hm
 have hR:lT r p=if okR r then(if fG p then(match gz r.left p with|none=>(FI,false,0)|some m=>if(fC r.right ((jd r.left m).getD [])).2=0 then(⟨false,m,(fC r.right ((jd r.left m).getD [])).1⟩,true,0) else(FI,false,43)) else(FI,false,aS p)) else(FI,false,dN r):=rfl
 have o1:okR r=decide (dN r=0):=rfl
 have o2:fG p=decide (aS p=0):=rfl
 generalize lT r p=R at hR
 generalize dN r=er at h1 o1 hR
 generalize aS p=ep at h2 o2 hR
 obtain⟨ex,lf,rg⟩:=r
 simp only at h1 h3 h4 h5 hmb hbb hR
 generalize hM:gz lf p=M at h3 hR
 generalize hsP:(fun l=>fC rg l)=sP at*
 have hsP':∀l,fC rg l=sP l:=fun l=>by rw[←hsP]
 simp only[hsP'] at h5 hR
 obtain⟨ps,rp⟩:=lf
 obtain⟨qs,rq⟩:=rg
 obtain⟨us,ru⟩:=p
 refine bV Tryz.func149 Tryz.ntmps149 fun x hx=>?_
 (repeat (first|refine nv ?_|refine cf (h1) ?_))
 refine af ?_ ?_
 ·intro h
  have e:¬er=0:=by simpa using h
  rw[o1,decide_eq_false e,if_neg (by simp)] at hR
  try refine nv ?_
  refine rA [] ?_
  refine⟨?_,rfl⟩
  rw[hR];rfl
 intro h
 have e:er=0:=by simpa using h
 rw[o1,decide_eq_true e,if_pos rfl] at hR
 (repeat (first|refine nv ?_|refine cf (h2) ?_))
 refine af ?_ ?_
 ·intro h
  have e:¬ep=0:=by simpa using h
  rw[o2,decide_eq_false e,if_neg (by simp)] at hR
  try refine nv ?_
  refine rA [] ?_
  refine⟨?_,rfl⟩
  rw[hR];rfl
 intro h
 have e:ep=0:=by simpa using h
 rw[o2,decide_eq_true e,if_pos rfl] at hR
 cases M with
 |none=>
  simp only[Af,pB,Option.isSome] at h3
  simp only at hR
  (repeat (first|refine nv ?_|refine cf (h3) ?_))
  refine af ?_ ?_
  ·intro _
   try refine nv ?_
   refine rA [] ?_
   refine⟨?_,rfl⟩
   rw[hR];rfl
  ·intro h;cases h
 |some m=>
  have hm:=hmb m hM
  have h4:=h4 m (hm.mono (by omega))
  have hbb:=fun l=>hbb m l hm
  simp only at hR
  obtain⟨ms,rm⟩:=m
  simp only[Af,pB,Option.isSome] at h3
  have key:∀l,(l.length≤100000∧∀b∈l,PB 100000 b)→∃c e,AC Tryz.prog 208 [aPat ⟨qs,rq⟩,eU l] [] (fun x st=>x= .tup [(true,c),pI e]∧st=[])∧(sP l).2=e∧((e=0∧c=(au (sP l).1).map C.d)∨(¬e=0∧c=[qm, .d (.v (.bool false))])):=by
   rintro l ⟨l1,l2⟩
   have:=h5 l l1 l2
   by_cases h0:(sP l).2=0
   ·simp only[FB,h0,if_true] at this
    exact⟨_,_,this,h0, .inl ⟨rfl,rfl⟩⟩
   ·simp only[FB,h0,if_false] at this
    exact⟨_,_,this,rfl, .inr ⟨h0,rfl⟩⟩
  cases hb:jd ⟨ps,rp⟩ ⟨ms,rm⟩ with
  |none=>
   rw[hb] at h4 hR
   simp only[Hg,pB,Option.isSome] at h4
   simp only[Option.getD] at hR
   obtain⟨c,e,k1,k2,k3⟩:=key [] ⟨by simp,by simp⟩
   rw[k2] at hR
   (repeat (first|refine nv ?_|refine cf (h3) ?_))
   refine af ?_ ?_
   ·intro h;cases h
   intro _
   (repeat (first|refine nv ?_|refine cf (h4) ?_))
   refine aG (fO (i:=47) 2 rfl) ?_
   refine dM ?_
   rcases k3 with⟨rfl,rfl⟩|⟨e0,rfl⟩
   ·rw[if_pos rfl] at hR
    (repeat (first|refine nv ?_|refine cf (k1) ?_))
    refine af ?_ ?_
    ·intro h;cases h
    intro _
    try refine nv ?_
    refine rA [] ?_
    refine⟨?_,rfl⟩
    rw[hR];rfl
   ·rw[if_neg e0] at hR
    (repeat (first|refine nv ?_|refine cf (k1) ?_))
    refine af ?_ ?_
    ·intro _
     try refine nv ?_
     refine rA [] ?_
     refine⟨?_,rfl⟩
     rw[hR];rfl
    ·intro h;simp[e0] at h
  |some l=>
   rw[hb] at h4 hR
   simp only[Hg,pB,Option.isSome] at h4
   simp only[Option.getD] at hR
   have hl9:=hbb l hb
   obtain⟨c,e,k1,k2,k3⟩:=key l ⟨by omega,fun b hb=>(hl9.2 b hb).mono (by omega)⟩
   rw[k2] at hR
   (repeat (first|refine nv ?_|refine cf (h3) ?_))
   refine af ?_ ?_
   ·intro h;cases h
   intro _
   rcases k3 with⟨rfl,rfl⟩|⟨e0,rfl⟩
   ·rw[if_pos rfl] at hR
    (repeat (first|refine nv ?_|refine cf (h4) ?_|refine cf (k1) ?_))
    refine af ?_ ?_
    ·intro h;cases h
    intro _
    try refine nv ?_
    refine rA [] ?_
    refine⟨?_,rfl⟩
    rw[hR];rfl
   ·rw[if_neg e0] at hR
    (repeat (first|refine nv ?_|refine cf (h4) ?_|refine cf (k1) ?_))
    refine af ?_ ?_
    ·intro _
     try refine nv ?_
     refine rA [] ?_
     refine⟨?_,rfl⟩
     rw[hR];rfl
    ·intro h;simp[e0] at h
def z80.kk:=LK kB kS Tryz.ntmps80 qo df xH mG jY wz xx xy fM Fg Tryz.results80
open z80 in
theorem O9 (e:dU):AC Tryz.prog 80 [TR e] [] (fun r st=>r=zY e.line∧st=[]):=by
 refine bV Tryz.func80 Tryz.ntmps80 fun x hx=>?_
 try refine nv ?_
 refine rA [] ?_
 refine⟨?_,rfl⟩
 rfl
def z82.kk:=XD kB kS Tryz.ntmps82 mQ df xH kz jX wz xg rY fM xI Fg Tryz.results82
open z82 in
theorem XG (e:dU):AC Tryz.prog 82 [TR e] [] (fun r st=>r=xJ e.qR∧st=[]):=by
 refine bV Tryz.func82 Tryz.ntmps82 fun x hx=>?_
 try refine nv ?_
 refine rA [] ?_
 refine⟨?_,rfl⟩
 rfl
structure EB (n:Nat) (e:dU):Prop where
 left:PB n e.left
 right:PB n e.right
 len:e.holes.length≤n
 holes:∀h∈e.holes,PB n h
def z32.kk:=p2 (p12 kB kS Tryz.ntmps32 Tryz.underlying23 mQ qo df xH PV kz jX mG) (p11 jY wz xx xg rY xy VC fM xI Fg Tryz.results32)
open z32 in
theorem ZB (m:List dU) (hm:m.length≤1000000) (hb:∀e∈m,EB 100000 e) (s:ByteArray) (hs:s.size≤300000):AC Tryz.prog 32 [dZ m,Str s] [] (fun x st=>x= .tup [pS (nP m s).1,pB (nP m s).2]∧st=[]):=by
 have hR:nP m s=match m.find? (fun x=>D5 x.qR s) with|none=>(noS,false)|some x=>O7 x.line s:=rfl
 generalize nP m s=R at hR
 refine bV Tryz.func32 Tryz.ntmps32 fun x hx=>?_
 try refine nv ?_
 refine ag (ι:=Nat) (I:=fun k=>⟨31,[(1,Str s),(8,dZ m),(9,I .i64 m.length),(10,I .i64 k)],[]⟩)
  (Inv:=fun k=>k≤m.length∧(m.take k).find? (fun x=>D5 x.qR s)=none) (μ:=fun k=>m.length-k) 0 ⟨by omega,rfl⟩ ?_ ?_
 ·exact aW
 rintro k ⟨hk,hall⟩
 try refine nv ?_
 refine af ?_ ?_
 ·intro hlt
  have hlt':k<m.length:=by simpa using hlt
  obtain⟨v,hv,he,htk⟩:=round dK m k D7 hlt'
  obtain⟨b1,b2,b3,b4⟩:=hb v (List.mem_of_getElem? hv)
  have hh:=acz v.qR (b1.mono (by omega)) (by show v.holes.length≤_;omega) (fun h hh=>(b4 h hh).mono (by omega)) s (by omega)
  have hf:=acw v.line b1 b2 s hs
  generalize hvb:D5 v.qR s=vb at hh
  generalize hF:O7 v.line s=F at hf
  have hfd:∀b,vb=b→m.find? (fun x=>D5 x.qR s)=if b then some v else((m.drop (k+1)).find? fun x=>D5 x.qR s):=by
   rintro b rfl
   have e:m=m.take k++v::m.drop (k+1):=by
    have h1:=List.take_append_drop k m
    rw[List.drop_eq_getElem?_toList_append,hv] at h1
    exact h1.symm
   conv=>lhs;rw[e]
   rw[List.find?_append,hall,List.find?_cons,hvb]
   cases vb<;>rfl
  have hnx:(m.take (k+1)).find? (fun x=>D5 x.qR s)=if vb then some v else none:=by
   rw[htk,List.find?_append,hall,List.find?_cons,hvb]
   cases vb<;>rfl
  (repeat (first|refine nx @he ?_|refine cf (hh) ?_))
  refine af ?_ ?_
  ·intro hc
   rw[hfd true hc,if_pos rfl] at hR
   simp only at hR
   rw[hF] at hR
   (repeat (first|refine nx @he ?_|refine cf (hf) ?_))
   refine rA [] ?_
   refine⟨?_,rfl⟩
   rw[hR]
  ·intro hc
   rw[hc,if_neg (by simp)] at hnx
   try refine nv ?_
   refine⟨k+1,⟨by omega,hnx⟩,by omega,?_⟩
   exact aW
 intro hge
 have hk':k=m.length:=by have:¬k<m.length:=by simpa using hge
                         omega
 rw[hk',List.take_length] at hall
 rw[hall] at hR
 try refine nv ?_
 refine rA [] ?_
 refine⟨?_,rfl⟩
 rw[hR]
end Go.Proofs.YtcpgicfphakdaaaGreatDoor
