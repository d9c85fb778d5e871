/- A part of the proof. -/
import Derived.Test.YtcpgicfphakdaaaGreatDoorRP21
import Derived.Test.YtcpgicfphakdaaaGreatDoorRX3
import Derived.Test.YtcpgicfphakdaaaGreatDoorRK21
import Derived.Test.YtcpgicfphakdaaaGreatDoorRT7
set_option linter.all false
namespace Go.Proofs.YtcpgicfphakdaaaGreatDoor
open Go.Ab
theorem fH {α:Type} {l:List α} {k:Nat} {v z:α} (h:l[k]? =some v):l.getD k z=v:=by simp[List.getD_eq_getElem?_getD,h]
end Go.Proofs.YtcpgicfphakdaaaGreatDoor
namespace Go.Proofs.YtcpgicfphakdaaaGreatDoor
open Go.Ab Tys
variable [zG]
theorem wY (ps cs:List ByteArray):∀k,(fQ ps cs k).length=k
 |0=>rfl
 |k+1=>by simp[fQ,wY ps cs k]
theorem Le {n:Nat} {l:List ByteArray} (h:∀s∈l,s.size≤n) (k:Nat):(l.getD k noS).size≤n:=by
 rw[List.getD_eq_getElem?_getD]
 cases e:l[k]? with
 |none=>exact Nat.zero_le _
 |some s=>exact h s (List.mem_of_getElem? e)
theorem Bf {ps cs:List ByteArray} (h1:∀s∈ps,s.size≤100000) (h2:∀s∈cs,s.size≤400000):∀k,∀s∈fQ ps cs k,s.size≤500000
 |0,s,h=>by simp[fQ] at h
 |k+1,s,h=>by
  simp only[fQ,List.mem_append,List.mem_singleton] at h
  rcases h with h|rfl
  ·exact Bf h1 h2 k s h
  ·have a:=Le h1 k
   have b:=Le h2 (aj (ps.take k))
   have c:=oJ (ps.getD k noS)
   split
   ·rw[ByteArray.size_append];omega
   ·omega
theorem wI {ps:List ByteArray} {k:Nat} {v:ByteArray} (h:ps[k]? =some v):aj (ps.take (k+1))=aj (ps.take k)+(if aP v then 1 else 0):=by
 rw[List.take_add_one,h]
 simp only[aj,Option.toList,List.filter_append,List.length_append,List.filter_cons,List.filter_nil]
 split<;>simp
theorem xX (ps:List ByteArray) (k:Nat):aj (ps.take k)≤aj ps:=by
 have:=List.take_append_drop k ps
 conv=>rhs;rw[←this]
 simp only[aj,List.filter_append,List.length_append];omega
theorem tZ (ps cs:List ByteArray) (k:Nat):rO ps cs (k+1)=(rO ps cs k&&(!aP (ps.getD k noS)||comp (cs.getD (aj (ps.take k)) noS))):=by
 simp[rO,List.range_succ,List.all_append]
theorem JB {ps cs:List ByteArray} {k n:Nat} (hk:k<n) (h:(!aP (ps.getD k noS)||comp (cs.getD (aj (ps.take k)) noS))=false):rO ps cs n=false:=by
 cases e:rO ps cs n
 ·rfl
 ·have:=gB n k _ hk e
  rw[h] at this;cases this
def z157.kk:=p13 kB kS Tryz.ntmps157 Tryz.underlying74 df eH dW gV yR jO fM jy Tryz.results157
set_option maxRecDepth 100000 in
set_option maxHeartbeats 8000000 in
open z157 in
theorem aaD (p:aX) (hp:PB 100000 p) (cs:List ByteArray) (hcl:cs.length≤400000) (hcs:∀s∈cs,s.size≤400000):AC Tryz.prog 157 [aPat p,dJ cs] [] (fun r st=>r= .tup [pS (lQ p cs).1,pI (lQ p cs).2]∧st=[]):=by
 have hck:=iQ p (hp.mono (by omega))
 have hwl:=P5 p (hp.mono (by omega))
 have hF:lQ p cs=lQ p cs:=rfl
 have hok:fG p=decide (aS p=0):=rfl
 have hwd:jS p=aj p.parts+(if p.rest then 1 else 0):=rfl
 conv at hF=>rhs;unfold lQ
 obtain⟨ps,rs⟩:=p
 have h1:=hp.1
 simp only at h1 hF
 generalize lQ ⟨ps,rs⟩ cs=R at hF
 refine bV Tryz.func157 Tryz.ntmps157 fun x hx=>?_
 (repeat (first|refine nv ?_|refine cf (hck) ?_))
 refine af ?_ ?_
 ·intro h
  have h':fG ⟨ps,rs⟩=false:=by rw[hok];simpa using h
  rw[h'] at hF
  try refine nv ?_
  refine rA [] ?_
  refine⟨?_,rfl⟩
  rw[hF];rfl
 intro h
 have h':fG ⟨ps,rs⟩=true:=by rw[hok];simpa using h
 rw[if_pos h'] at hF
 (repeat (first|refine nv ?_|refine cf (hwl) ?_))
 refine af ?_ ?_
 ·intro hw
  have hw':¬cs.length=jS ⟨ps,rs⟩:=by
   intro e
   rw[e] at hw;simp at hw
  rw[if_neg hw'] at hF
  try refine nv ?_
  refine rA [] ?_
  refine⟨?_,rfl⟩
  rw[hF]
 intro hw
 have hw':cs.length=jS ⟨ps,rs⟩:=by
  have:((cs.length:Int)=(jS ⟨ps,rs⟩:Nat)):=by simpa using hw
  omega
 rw[if_pos hw'] at hF
 rw[hwd] at hw'
 simp only at hw'
 refine aJ ?_
 refine gg ?_
 refine aJ ?_
 refine aG (eG (i:=7) (id:=100) (sz:=1) rfl rfl (by omega)) ?_
 refine dM ?_
 try refine nv ?_
 refine ag (ι:=Nat) (I:=fun k=>⟨79,[(1,dJ cs),(2, .c (.ptr 2 0)),(7, .c (.ms 100 1 0 (fQ ps cs k).length)),(8,I .i64 (aj (ps.take k))),(26,dJ ps),(27,I .i64 ps.length),(28,I .i64 k)],
  [(2, .box ((au ⟨ps,rs⟩).map C.d)),(100,aQ 1 ((fQ ps cs k).map encS))]⟩)
  (Inv:=fun k=>k≤ps.length∧rO ps cs k=true) (μ:=fun k=>ps.length-k) 0 ⟨by omega,rfl⟩ ?_ ?_
 ·((try simp only[fQ]);exact tK @nJ)
 rintro k ⟨hk,hall⟩
 have hfl:=wY ps cs k
 have hsl:=xX ps k
 try refine nv ?_
 refine af ?_ ?_
 ·intro hlt
  have hlt':k<ps.length:=by simpa using hlt
  obtain⟨v,hv,he,_⟩:=round encS ps k noS hlt'
  have ev:=getD_some (z:=noS) hv
  have hvs:v.size≤100000:=hp.2 v (List.mem_of_getElem? hv)
  have hsv:=oJ v
  have hss:=wI hv
  have hsl2:=xX ps (k+1)
  (repeat (first|refine nx @he ?_|refine cf (qP v (by omega)) ?_))
  refine af ?_ ?_
  ·intro hst
   rw[hst,if_pos rfl] at hss
   obtain⟨u,hu,he2,_⟩:=round encS cs (aj (ps.take k)) noS (by omega)
   have eu:=getD_some (z:=noS) hu
   have hus:u.size≤400000:=hcs u (List.mem_of_getElem? hu)
   (repeat (first|refine nx @he2 ?_|refine cf (zS u (by omega)) ?_))
   refine af ?_ ?_
   ·intro hb
    have hb':comp u=false:=by simpa using hb
    rw[JB hlt' (by rw[ev,eu,hst,hb'];rfl)] at hF
    try refine nv ?_
    refine rA [] ?_
    refine⟨?_,rfl⟩
    rw[hF];rfl
   intro hb
   have hb':comp u=true:=by simpa using hb
   try refine nx @he2 ?_
   refine o7 (by simp) (by simp only[kV, ↓reduceIte,Nat.reduceEqDiff,reduceCtorEq];first|done|rfl) (by simp only[kV, ↓reduceIte,Nat.reduceEqDiff,reduceCtorEq];first|done|rfl) ?_ ?_
   ·omega
   try refine nv ?_
   refine⟨k+1,⟨by omega,by rw[tZ,hall,ev,eu,hb'];simp⟩,by omega,?_⟩
   have e:fQ ps cs (k+1)=fQ ps cs k++[u++jq v]:=by simp only[fQ,ev,eu,hst,if_true]
   rw[e,hss]
   exact uY (fun i=>if i=100 then 55 else i)
  ·intro hst
   rw[hst,if_neg (by simp)] at hss
   try refine nv ?_
   refine⟨k+1,⟨by omega,by rw[tZ,hall,ev,hst];rfl⟩,by omega,?_⟩
   have e:fQ ps cs (k+1)=fQ ps cs k++[v]:=by simp only[fQ,ev,hst,if_false,Bool.false_eq_true]
   rw[e,hss]
   exact uY (fun i=>if i=100 then 55 else i)
 intro hge
 have hk':k=ps.length:=by have:¬k<ps.length:=by simpa using hge
                          omega
 subst hk'
 rw[if_pos hall] at hF
 rw[List.take_length]
 have hfs:=Bf hp.2 hcs ps.length
 simp only at hfs
 try refine nv ?_
 refine af ?_ ?_
 ·intro hr
  subst hr
  rw[if_pos rfl] at hF hw'
  obtain⟨u,hu,he2,_⟩:=round encS cs (aj ps) noS (by omega)
  have eu:=getD_some (z:=noS) hu
  have hus:u.size≤400000:=hcs u (List.mem_of_getElem? hu)
  have hul:=qX u
  have husz:∀s∈split u,s.size≤500000:=fun s hs=>by have:=lG _ _ s hs;omega
  rw[eu] at hF
  (repeat (first|refine nx @he2 ?_|refine cf (CU u (by omega)) ?_))
  refine ag (ι:=Nat) (I:=fun j=>⟨79,[(7, .c (.ms 100 1 0 (fQ ps cs ps.length++(split u).take j).length)),(63,dJ (split u)),(64,I .i64 (split u).length),(65,I .i64 j)],
   [(100,aQ 1 ((fQ ps cs ps.length++(split u).take j).map encS))]⟩)
   (Inv:=fun j=>j≤(split u).length∧((split u).take j).all comp=true) (μ:=fun j=>(split u).length-j) 0 ⟨by omega,by simp⟩ ?_ ?_
  ·exact aW
  rintro j ⟨hj,hcl2⟩
  have hln:(fQ ps cs ps.length++(split u).take j).length≤600000:=by rw[List.length_append,List.length_take];omega
  try refine nv ?_
  refine af ?_ ?_
  ·intro hlt
   have hlt':j<(split u).length:=by simpa using hlt
   obtain⟨v,hv,he,htk⟩:=round encS (split u) j noS hlt'
   have hvs:=husz v (List.mem_of_getElem? hv)
   (repeat (first|refine nx @he ?_|refine cf (zS v (by omega)) ?_))
   refine af ?_ ?_
   ·intro hb
    have hb':comp v=false:=by simpa using hb
    have hn:¬(split u).all comp=true:=by
     intro e
     rw[List.all_eq_true] at e;rw[e v (List.mem_of_getElem? hv)] at hb';cases hb'
    rw[if_neg hn] at hF
    try refine nv ?_
    refine rA [] ?_
    refine⟨?_,rfl⟩
    rw[hF]
   intro hb
   have hb':comp v=true:=by simpa using hb
   try refine nv ?_
   refine⟨j+1,⟨by omega,by rw[htk,List.all_append,hcl2];simp[hb']⟩,by omega,?_⟩
   rw[htk,←List.append_assoc]
   exact enS (p2 @ay @Nat.add_assoc) (fun i=>if i=100 then 75 else i)
  intro hge
  have hj':j=(split u).length:=by have:¬j<(split u).length:=by simpa using hge
                                  omega
  rw[hj',List.take_length] at hcl2 hln⊢
  rw[if_pos hcl2] at hF
  have hfz:∀s∈fQ ps cs ps.length++split u,s.size≤1000000:=by
   intro s hs
   rcases List.mem_append.1 hs with h|h
   ·have:=hfs s h;omega
   ·have:=husz s h;omega
  refine aJ ?_
  refine aG (aI (i:=7) (id:=100) (ys:=(fQ ps cs ps.length++split u).map encS) rfl rfl (by simp)) ?_
  refine dM ?_
  (repeat (first|refine nv ?_|refine cf (Un (fQ ps cs ps.length++split u) (by omega) hfz) ?_))
  refine rA [] ?_
  refine⟨?_,rfl⟩
  rw[hF]
 ·intro hr
  subst hr
  rw[if_neg (by simp)] at hF
  refine aJ ?_
  refine aG (aI (i:=7) (id:=100) (ys:=(fQ ps cs ps.length).map encS) rfl rfl (by simp)) ?_
  refine dM ?_
  (repeat (first|refine nv ?_|refine cf (Un (fQ ps cs ps.length) (by omega) (fun s hs=>by have:=hfs s hs;omega)) ?_))
  refine rA [] ?_
  refine⟨?_,rfl⟩
  rw[hF]
end Go.Proofs.YtcpgicfphakdaaaGreatDoor
namespace Go.Proofs.YtcpgicfphakdaaaGreatDoor
open Go.Ab
theorem nD {s t:ByteArray}:dV s t=true↔∃r,s=r++t:=by
 simp only[dV,Bool.and_eq_true,decide_eq_true_eq]
 constructor
 ·rintro⟨h1,h2⟩
  refine⟨s.extract 0 (s.size-t.size),?_⟩
  conv=>rhs;arg 2;rw[←h2]
  rw[ByteArray.extract_append_extract]
  simp
 ·rintro⟨r,rfl⟩
  refine⟨by rw[ByteArray.size_append];omega,?_⟩
  have:(r++t).size-t.size=r.size:=by rw[ByteArray.size_append];omega
  rw[this]
  exact Tm r t
theorem Qi (s:ByteArray):dV s s=true:=nD.2 ⟨ByteArray.empty,by simp⟩
theorem xq {a b c:ByteArray} (h1:dV a b=true) (h2:dV b c=true):dV a c=true:=by
 obtain⟨r,rfl⟩:=nD.1 h1
 obtain⟨q,rfl⟩:=nD.1 h2
 exact nD.2 ⟨r++q,by rw[ByteArray.append_assoc]⟩
theorem qf {s t:ByteArray} (h:dV s t=true):t.size≤s.size:=by
 simp only[dV,Bool.and_eq_true,decide_eq_true_eq] at h;exact h.1
theorem QC {s t:ByteArray} (h1:dV s t=true) (h2:dV t s=true):s=t:=by
 have a:=qf h1
 have b:=qf h2
 simp only[dV,Bool.and_eq_true,decide_eq_true_eq] at h1
 rw[←h1.2,show s.size-t.size=0 by omega]
 simp
theorem Bl {a:ByteArray} {n k:Nat} (h:k<n) (hn:n≤a.size):byteAt (a.extract 0 n) k=byteAt a k:=by
 have h2:k<a.data.size:=by have:a.data.size=a.size:=rfl;omega
 simp only[byteAt,ByteArray.data_extract,Array.getD_eq_getD_getElem?,Array.getElem?_extract]
 rw[if_pos (by have e:a.data.size=a.size:=rfl;omega)]
 simp
theorem Yx {c:ByteArray} (hc:comp c=true) {n:Nat} (hn:n≤c.size):comp (c.extract 0 n)=decide (0<n):=by
 by_cases h:0<n
 ·rw[decide_eq_true h]
  obtain⟨c1,c2⟩:=BU hc
  have hs:(c.extract 0 n).size=n:=by rw[ByteArray.size_extract];omega
  refine Vk (by omega) (by rw[Bl h hn];exact c2) ?_
  intro k hk
  rw[Bl (by omega) hn]
  exact rM hc k (by omega)
 ·have:n=0:=by omega
  subst this
  have e:c.extract 0 0=ByteArray.empty:=by simp
  rw[e]
  decide
theorem Kw {x:ByteArray} (hx:comp x=true):aP x=false:=by
 cases h:aP x with
 |false=>rfl
 |true=>
  simp only[aP,Bool.and_eq_true,Bool.not_eq_true',Bool.or_eq_false_iff,decide_eq_false_iff_not] at h
  have h0:=h.1.2
  simp at h0
  have:=rM hx 0 (by have:=(BU hx).1;omega)
  rw[h0] at this
  have e:okB 42=false:=by kernel_rfl
  rw[e] at this;cases this
theorem zO {x c:ByteArray} (hx:aP x=true) (hc:comp c=true):(lY x c).2=(dV c (jq x)&&decide ((jq x).size<c.size)):=by
 simp only[lY,if_pos hx]
 cases h:dV c (jq x) with
 |false=>simp
 |true=>
  have:=qf h
  rw[if_pos rfl,Yx hc (by omega)]
  simp
  omega
theorem qc {x:ByteArray} (h:dE x=true):(aP x=true)∨(aP x=false∧comp x=true):=by
 unfold dE at h
 cases hs:aP x with
 |true=>exact .inl rfl
 |false=>rw[hs] at h;exact .inr ⟨rfl,h⟩
theorem Yt {x y:ByteArray} (hx:aP x=true) (hy:aP y=true) (h:jq x=jq y):x=y:=by
 have e:∀z:ByteArray,aP z=true→z=qi++jq z:=by
  intro z hz
  have h1:=(gY hz).1
  simp only[aP,Bool.and_eq_true,Bool.not_eq_true',Bool.or_eq_false_iff,decide_eq_false_iff_not] at hz
  have h0:=hz.1.2
  simp at h0
  have hz2:aP z=true:=by simp only[aP,Bool.and_eq_true,Bool.not_eq_true',Bool.or_eq_false_iff,decide_eq_false_iff_not];exact hz
  have:z.extract 0 1=qi:=by
   apply ByteArray.ext
   simp only[qi,ByteArray.data_extract]
   have hsz:0<z.data.size:=h1
   apply Array.ext
   ·simp;omega
   ·intro i h1 h2
    have:i=0:=by simp at h2;omega
    subst this
    simp only[byteAt,Array.getD_eq_getD_getElem?,Array.getElem?_eq_getElem hsz] at h0
    have h0':z.data[0].toNat=42:=by
     have h1:((z.data[0].toNat:Nat):Int)=42:=by simpa using h0
     omega
    simp only[Array.getElem_extract,Nat.zero_add,List.getElem_toArray,List.getElem_cons_zero]
    exact UInt8.toNat_inj.1 h0'
  rw[jq,if_pos hz2]
  conv=>rhs;arg 1;rw[←this]
  rw[ByteArray.extract_append_extract]
  simp
 rw[e x hx,e y hy,h]
theorem yL {x:ByteArray} (hx:dE x=true):aF x x=true:=by
 rcases qc hx with h|⟨h,_⟩
 ·simp[aF,h,Qi]
 ·simp[aF,h]
theorem BJ {x y z:ByteArray} (hx:dE x=true) (h1:aF x y=true) (h2:aF y z=true):aF x z=true:=by
 cases hz:aP z with
 |false=>
  simp[aF,hz] at h2
  subst h2;exact h1
 |true=>
  cases hy:aP y with
  |false=>
   simp[aF,hy] at h1
   subst h1;exact h2
  |true=>
   have h3:dV (jq y) (jq z)=true:=by simpa[aF,hy,hz] using h2
   rcases qc hx with h|⟨h,hc⟩
   ·have h4:dV (jq x) (jq y)=true:=by simpa[aF,hy,h] using h1
    simpa[aF,h,hz] using xq h4 h3
   ·have h4:(lY y x).2=true:=by simpa[aF,hy,h] using h1
    rw[zO hy hc] at h4
    simp only[Bool.and_eq_true,decide_eq_true_eq] at h4
    have h5:=qf h3
    have:(lY z x).2=true:=by
     rw[zO hz hc]
     simp only[Bool.and_eq_true,decide_eq_true_eq]
     exact⟨xq h4.1 h3,by omega⟩
    simpa[aF,h,hz] using this
theorem EM {x y:ByteArray} (h1:aF x y=true) (h2:aF y x=true):x=y:=by
 cases hy:aP y with
 |false=>simpa[aF,hy] using h1
 |true=>
  cases hx:aP x with
  |false=>exact(by simpa[aF,hx] using h2:y=x).symm
  |true=>exact Yt hx hy (QC (by simpa[aF,hx,hy] using h1) (by simpa[aF,hx,hy] using h2))
def dL (p:aX):Prop:=∀i,i<p.parts.length→dE (p.parts.getD i noS)=true
theorem dO {p:aX} (h:fG p=true):dL p:=by
 intro i hi
 unfold dE
 cases hs:aP (p.parts.getD i noS) with
 |true=>rfl
 |false=>exact XT h hi hs
theorem RP:dE qi=true:=by decide
theorem PT {p:aX} (h:dL p) (i:Nat):dE (oD p i)=true:=by
 unfold oD
 split
 ·rename_i hi;exact h i hi
 ·exact RP
structure xC (p q:aX):Prop where
 len:q.parts.length≤p.parts.length
 fix:q.rest=false→p.rest=false∧p.parts.length=q.parts.length
 rst:q.rest=true→p.parts.length=q.parts.length→p.rest=true
 ins:∀i,i<q.parts.length→aF (p.parts.getD i noS) (q.parts.getD i noS)=true
theorem within_iff {p q:aX} (hp:fG p=true) (hq:fG q=true):dG p q=true↔xC p q:=by
 simp only[dG,hp,hq,Bool.true_and,Bool.and_eq_true,decide_eq_true_eq,Bool.or_eq_true,Bool.not_eq_true',List.all_eq_true,List.mem_range,Bool.and_eq_false_iff]
 constructor
 ·rintro⟨⟨⟨h1,h2⟩,h3⟩,h4⟩
  refine⟨h1,?_,?_,h4⟩
  ·intro hr
   rcases h2 with h2|⟨h2,h5⟩
   ·rw[hr] at h2;cases h2
   ·exact⟨h2,by omega⟩
  ·intro hr hl
   rcases h3 with(h3|h3)|h3
   ·rw[hr] at h3;cases h3
   ·exact absurd hl (by simpa using h3)
   ·simpa using h3
 ·rintro⟨h1,h2,h3,h4⟩
  refine⟨⟨⟨h1,?_⟩,?_⟩,h4⟩
  ·cases hr:q.rest with
   |true=>exact .inl rfl
   |false=>exact .inr ⟨(h2 hr).1,by have:=(h2 hr).2;omega⟩
  ·cases hr:q.rest with
   |false=>exact .inl (.inl rfl)
   |true=>
    by_cases hl:p.parts.length=q.parts.length
    ·exact .inr (by rw[h3 hr hl];rfl)
    ·exact .inl (.inr (by simpa using hl))
theorem xC.refl {p:aX} (h:dL p):xC p p:=⟨Nat.le_refl _,fun h=>⟨h,rfl⟩,fun h _=>h,fun i hi=>yL (h i hi)⟩
theorem xC.trans {p q r:aX} (hp:dL p) (h1:xC p q) (h2:xC q r):xC p r:=by
 refine⟨Nat.le_trans h2.len h1.len,?_,?_,?_⟩
 ·intro hr
  obtain⟨a,b⟩:=h2.fix hr
  obtain⟨c,e⟩:=h1.fix a
  exact⟨c,by omega⟩
 ·intro hr hl
  have a:=h1.len
  have b:=h2.len
  exact h1.rst (h2.rst hr (by omega)) (by omega)
 ·intro i hi
  have b:=h2.len
  have a:=h1.len
  exact BJ (hp i (by omega)) (h1.ins i (by omega)) (h2.ins i hi)
theorem xC.ac3 {p q:aX} (h1:xC p q) (h2:xC q p):p=q:=by
 have hl:p.parts.length=q.parts.length:=Nat.le_antisymm h2.len h1.len
 obtain⟨ps,pr⟩:=p
 obtain⟨qs,qr⟩:=q
 simp only at hl
 have hr:pr=qr:=by
  cases qr with
  |true=>exact h1.rst rfl hl
  |false=>exact(h1.fix rfl).1
 subst hr
 have:ps=qs:=by
  apply List.ext_getElem hl
  intro i a b
  have e1:=h1.ins i b
  have e2:=h2.ins i a
  simp only[List.getD_eq_getElem?_getD,List.getElem?_eq_getElem a,List.getElem?_eq_getElem b,Option.getD_some] at e1 e2
  exact EM e1 e2
 rw[this]
theorem Jd {b h:aX} {n:Nat}:jC b h n=true↔je h n=true∧∀i,i<n→i<h.parts.length→aF (oD b i) (h.parts.getD i noS)=true:=by
 simp only[jC,Bool.and_eq_true,List.all_eq_true,List.mem_range]
 constructor
 ·rintro⟨h1,h2⟩;exact⟨h1,fun i a b=>h2 i (by omega)⟩
 ·rintro⟨h1,h2⟩;exact⟨h1,fun i a=>h2 i (by omega) (by omega)⟩
theorem counts_iff {h:aX} {n:Nat}:je h n=true↔(h.rest=true∧h.parts.length<n)∨(h.rest=false∧n=h.parts.length):=by
 unfold je
 cases h.rest<;>simp
theorem Ez {b h k:aX} (hb:dL b) (hw:xC h k) {n:Nat} (hc:jC b h n=true):jC b k n=true:=by
 rw[Jd] at hc⊢
 obtain⟨h1,h2⟩:=hc
 have hl:=hw.len
 refine⟨?_,?_⟩
 ·rw[counts_iff] at h1⊢
  cases hr:k.rest with
  |false=>
   obtain⟨a,e⟩:=hw.fix hr
   rcases h1 with⟨h1,_⟩|⟨_,h1⟩
   ·rw[a] at h1;cases h1
   ·exact .inr ⟨rfl,by omega⟩
  |true=>
   refine .inl ⟨rfl,?_⟩
   rcases h1 with⟨_,h1⟩|⟨h0,h1⟩
   ·omega
   ·by_cases e:h.parts.length=k.parts.length
    ·rw[hw.rst hr e] at h0;cases h0
    ·omega
 ·intro i hi hk
  exact BJ (PT hb i) (h2 i hi (by omega)) (hw.ins i hk)
theorem GL {g:DC} {n:Nat}:jP g n=true↔∃h∈g.holes,jC g.base h n=true:=by simp[jP]
theorem Gy:∀(l:List aX) (m:Nat),m≤lH l m∧∀h∈l,h.parts.length≤lH l m
 |[],m=>⟨Nat.le_refl _,fun h hh=>by cases hh⟩
 |k::l,m=>by
  obtain⟨h1,h2⟩:=Gy l (max m k.parts.length)
  simp only[lH]
  refine⟨by omega,?_⟩
  intro h hh
  rcases List.mem_cons.1 hh with rfl|hh
  ·omega
  ·exact h2 h hh
theorem YS {g:DC} {n m:Nat} (hn:lH g.holes g.base.parts.length<n) (hm:n≤m) (h:jP g n=true):jP g m=true:=by
 rw[GL] at h⊢
 obtain⟨k,hk,hc⟩:=h
 have hl:=(Gy g.holes g.base.parts.length).2 k hk
 refine⟨k,hk,?_⟩
 rw[Jd] at hc⊢
 rw[counts_iff] at hc⊢
 refine⟨?_,fun i a b=>hc.2 i (by omega) b⟩
 rcases hc.1 with⟨a,b⟩|⟨a,b⟩
 ·exact .inl ⟨a,by omega⟩
 ·omega
theorem QP {g:DC} (hb:1≤g.base.parts.length):0<yK g↔∃n,je g.base n=true∧jP g n=false:=by
 unfold yK
 cases hr:g.base.rest with
 |false=>
  rw[if_neg (by simp)]
  have e:∀n,je g.base n=true↔n=g.base.parts.length:=fun n=>by rw[counts_iff,hr];simp
  cases hf:jP g g.base.parts.length with
  |true=>
   rw[if_pos rfl]
   refine⟨fun h=>by omega,?_⟩
   rintro⟨n,h1,h2⟩
   rw[(e n).1 h1,hf] at h2;cases h2
  |false=>
   rw[if_neg (by simp)]
   exact⟨fun _=>⟨_,(e _).2 rfl,hf⟩,fun _=>by omega⟩
 |true=>
  rw[if_pos rfl]
  have e:∀n,je g.base n=true↔g.base.parts.length<n:=fun n=>by rw[counts_iff,hr];simp
  have hm:=(Gy g.holes g.base.parts.length).1
  split
  ·rename_i j hj
   have:=List.find?_some hj
   refine⟨fun _=>⟨g.base.parts.length+1+j,(e _).2 (by omega),by simpa using this⟩,fun _=>by omega⟩
  ·rename_i hj
   rw[List.find?_eq_none] at hj
   refine⟨fun h=>by omega,?_⟩
   rintro⟨n,h1,h2⟩
   have h1:=(e n).1 h1
   exfalso
   by_cases hn:n≤lH g.holes g.base.parts.length+1
   ·have:=hj (n-(g.base.parts.length+1)) (List.mem_range.2 (by omega))
    rw[show g.base.parts.length+1+(n-(g.base.parts.length+1))=n by omega] at this
    rw[h2] at this;exact this rfl
   ·have:=hj (lH g.holes g.base.parts.length-g.base.parts.length) (List.mem_range.2 (by omega))
    rw[show g.base.parts.length+1+(lH g.holes g.base.parts.length-g.base.parts.length)=lH g.holes g.base.parts.length+1 by omega] at this
    have h3:jP g (lH g.holes g.base.parts.length+1)=true:=by
     cases h:jP g (lH g.holes g.base.parts.length+1) with
     |true=>rfl
     |false=>rw[h] at this;exact absurd rfl this
    rw[YS (by omega) (by omega:_≤n) h3] at h2
    cases h2
theorem Ip {l:List aX} {h:aX}:h∈l↔∃i,i<l.length∧l.getD i bz=h:=by
 rw[List.mem_iff_getElem]
 constructor
 ·rintro⟨i,hi,e⟩;exact⟨i,hi,by rw[List.getD_eq_getElem?_getD,List.getElem?_eq_getElem hi];exact e⟩
 ·rintro⟨i,hi,e⟩;exact⟨i,hi,by rw[List.getD_eq_getElem?_getD,List.getElem?_eq_getElem hi] at e;exact e⟩
theorem VP {l:List aX} {k:Nat} (hk:k+1<l.length) (h:aX):h∈(l.set (k+1) (l.getD k bz)).set k (l.getD (k+1) bz)↔h∈l:=by
 have a:l.getD k bz=l[k]:=by rw[List.getD_eq_getElem?_getD,List.getElem?_eq_getElem (by omega)];rfl
 have b:l.getD (k+1) bz=l[k+1]:=by rw[List.getD_eq_getElem?_getD,List.getElem?_eq_getElem hk];rfl
 rw[a,b]
 constructor
 ·intro hm
  rcases List.mem_or_eq_of_mem_set hm with hm|rfl
  ·rcases List.mem_or_eq_of_mem_set hm with hm|rfl
   ·exact hm
   ·exact List.getElem_mem _
  ·exact List.getElem_mem _
 ·intro hm
  obtain⟨i,hi,rfl⟩:=List.mem_iff_getElem.1 hm
  rw[List.mem_iff_getElem]
  by_cases e1:i=k
  ·subst e1
   refine⟨i+1,by simpa using hk,?_⟩
   rw[List.getElem_set_ne (by omega),List.getElem_set_self]
  ·by_cases e2:i=k+1
   ·subst e2
    refine⟨k,by simp;omega,?_⟩
    rw[List.getElem_set_self]
   ·refine⟨i,by simpa using hi,?_⟩
    rw[List.getElem_set_ne (by omega),List.getElem_set_ne (by omega)]
theorem GH:∀(k:Nat) (l:List aX),(uM k l).length=l.length
 |0,l=>rfl
 |k+1,l=>by
  simp only[uM]
  split
  ·rw[GH k];simp
  ·rfl
theorem Be (l:List aX):∀k,(uS l k).length=l.length
 |0=>rfl
 |k+1=>by simp only[uS];rw[GH,Be l k]
theorem JP (h:aX):∀(k:Nat) (l:List aX),k<l.length→(h∈uM k l↔h∈l)
 |0,l,_=>Iff.rfl
 |k+1,l,hk=>by
  simp only[uM]
  split
  ·rw[JP h k _ (by simp;omega),VP hk]
  ·exact Iff.rfl
theorem J9 (l:List aX) (h:aX):∀k,k≤l.length→(h∈uS l k↔h∈l)
 |0,_=>Iff.rfl
 |k+1,hk=>by simp only[uS];rw[JP h k _ (by rw[Be];omega),J9 l h k (by omega)]
theorem zV {l:List aX} {h:aX}:∀k,h∈lM l k↔∃i,i<k∧(List.range l.length).any (jJ l i)=false∧l.getD i bz=h
 |0=>by simp[lM]
 |k+1=>by
  simp only[lM,List.mem_append,zV k]
  constructor
  ·rintro(⟨i,h1,h2⟩|h1)
   ·exact⟨i,by omega,h2⟩
   ·split at h1
    ·cases h1
    ·rename_i hd
     simp only[List.mem_singleton] at h1
     exact⟨k,by omega,by simpa using hd,h1.symm⟩
  ·rintro⟨i,h1,h2,h3⟩
   by_cases e:i=k
   ·subst e
    refine .inr ?_
    rw[if_neg (by rw[h2];simp),List.mem_singleton]
    exact h3.symm
   ·exact .inl ⟨i,by omega,h2,h3⟩
theorem YN {l:List aX} (ho:∀h∈l,fG h=true) {h:aX} (hm:h∈l):∃k∈lM l l.length,xC h k:=by
 have ok:∀i,i<l.length→fG (l.getD i bz)=true:=fun i hi=>ho _ (Ip.2 ⟨i,hi,rfl⟩)
 have dr:∀i j,i<l.length→j<l.length→(jJ l i j=true↔¬i=j∧xC (l.getD i bz) (l.getD j bz)∧(j<i∨¬l.getD i bz=l.getD j bz)):=by
  intro i j hi hj
  simp only[jJ,Bool.and_eq_true,Bool.not_eq_true',decide_eq_false_iff_not,Bool.or_eq_true,decide_eq_true_eq,within_iff (ok i hi) (ok j hj)]
  exact and_assoc
 have tr:∀i j m,i<l.length→j<l.length→m<l.length→jJ l i j=true→jJ l j m=true→jJ l i m=true:=by
  intro i j m hi hj hm h1 h2
  rw[dr i j hi hj] at h1
  rw[dr j m hj hm] at h2
  rw[dr i m hi hm]
  obtain⟨a1,a2,a3⟩:=h1
  obtain⟨b1,b2,b3⟩:=h2
  have hw:=xC.trans (dO (ok i hi)) a2 b2
  refine⟨?_,hw,?_⟩
  ·rintro rfl
   have e:=xC.ac3 a2 b2
   rcases a3 with a3|a3
   ·rcases b3 with b3|b3
    ·omega
    ·exact b3 e.symm
   ·exact a3 e
  ·by_cases e:l.getD i bz=l.getD m bz
   ·left
    have e1:l.getD i bz=l.getD j bz:=xC.ac3 a2 (by rw[e];exact b2)
    have e2:l.getD j bz=l.getD m bz:=by rw[←e1,e]
    rcases a3 with a3|a3
    ·rcases b3 with b3|b3
     ·omega
     ·exact absurd e2 b3
    ·exact absurd e1 a3
   ·exact .inr e
 have ir:∀i,jJ l i i=false:=by intro i;simp[jJ]
 have key:∀(n i:Nat),i<l.length→((List.range l.length).filter (jJ l i)).length≤n→∃k∈lM l l.length,xC (l.getD i bz) k:=by
  intro n
  induction n with
  |zero=>
   intro i hi hc
   refine⟨l.getD i bz,(zV _).2 ⟨i,hi,?_,rfl⟩,xC.refl (dO (ok i hi))⟩
   have:(List.range l.length).filter (jJ l i)=[]:=List.length_eq_zero_iff.1 (by omega)
   rw[List.filter_eq_nil_iff] at this
   rw[List.any_eq_false]
   exact this
  |succ n ih=>
   intro i hi hc
   cases ha:(List.range l.length).any (jJ l i) with
   |false=>exact⟨l.getD i bz,(zV _).2 ⟨i,hi,ha,rfl⟩,xC.refl (dO (ok i hi))⟩
   |true=>
    rw[List.any_eq_true] at ha
    obtain⟨j,hj,hd⟩:=ha
    have hj:=List.mem_range.1 hj
    have hlt:((List.range l.length).filter (jJ l j)).length<((List.range l.length).filter (jJ l i)).length:=by
     have e:(List.range l.length).filter (jJ l j)=((List.range l.length).filter (jJ l i)).filter (jJ l j):=by
      rw[List.filter_filter]
      apply List.filter_congr
      intro m hm
      have hm:=List.mem_range.1 hm
      cases h:jJ l j m with
      |false=>rfl
      |true=>rw[tr i j m hi hj hm hd h];rfl
     rw[e,List.length_filter_lt_length_iff_exists]
     exact⟨j,List.mem_filter.2 ⟨List.mem_range.2 hj,hd⟩,by rw[ir j];simp⟩
    obtain⟨k,hk,hw⟩:=ih j hj (by omega)
    exact⟨k,hk,xC.trans (dO (ok i hi)) ((dr i j hi hj).1 hd).2.1 hw⟩
 obtain⟨i,hi,rfl⟩:=Ip.1 hm
 exact key _ i hi (Nat.le_refl _)
theorem YT {l:List aX} {h:aX} (hm:h∈lM l l.length):h∈l:=by
 obtain⟨i,h1,_,h3⟩:=(zV _).1 hm
 exact Ip.2 ⟨i,h1,h3⟩
theorem OI {b h:aX} (hb:fG b=true) (hh:fG h=true) (hw:xC h b):gz b h=some h:=by
 have hl:=hw.len
 have key:∀p q:aX,fG p=true→fG q=true→(∀i,i<q.parts.length→i<p.parts.length→aF (p.parts.getD i noS) (q.parts.getD i noS)=true)→(q.parts.length≤p.parts.length)→(q.rest=false→p.parts.length=q.parts.length)→(p.parts.length=q.parts.length→p.rest=q.rest)→
  sD p q=some p:=by
  intro p q hp hq hi hl hf hr
  unfold sD
  rw[if_neg,if_pos]
  ·have:∀k,k≤p.parts.length→gW p q k=p.parts.take k:=by
    intro k
    induction k with
    |zero=>intro _;simp[gW]
    |succ k ih=>
     intro hk
     rw[gW,ih (by omega),List.take_add_one,List.getElem?_eq_getElem (by omega)]
     rw[if_pos]
     ·simp[List.getD_eq_getElem?_getD,List.getElem?_eq_getElem (by omega:k<p.parts.length)]
     ·by_cases e:q.parts.length≤k
      ·simp[e]
      ·rw[hi k (by omega) (by omega)];simp
   rw[this _ (Nat.le_refl _),List.take_length]
  ·rw[List.all_eq_true]
   intro i hm
   have hm:=List.mem_range.1 hm
   unfold ug
   by_cases e:q.parts.length≤i
   ·simp[e]
   ·rw[hi i (by omega) hm];simp
  ·rintro(⟨h1,h2⟩|⟨h1,h2⟩)
   ·have:=hf h2;omega
   ·exact h2 (hr h1)
 unfold gz
 rw[hb,hh]
 simp only[Bool.and_self,if_true]
 by_cases e:b.parts.length<h.parts.length
 ·rw[if_pos e]
  exact key h b hh hb (fun i a _=>hw.ins i a) hl (fun hr=>(hw.fix hr).2) (fun h=>by omega)
 ·rw[if_neg e]
  have el:h.parts.length=b.parts.length:=by omega
  have er:h.rest=b.rest:=by
   cases hr:b.rest with
   |true=>exact hw.rst hr el
   |false=>exact(hw.fix hr).1
  unfold sD
  rw[if_neg,if_pos]
  ·have:∀k,k≤b.parts.length→gW b h k=h.parts.take k:=by
    intro k
    induction k with
    |zero=>intro _;simp[gW]
    |succ k ih=>
     intro hk
     rw[gW,ih (by omega),List.take_add_one,List.getElem?_eq_getElem (by omega:k<h.parts.length)]
     have hv:h.parts.getD k noS=h.parts[k]'(by omega):=by simp[List.getD_eq_getElem?_getD,List.getElem?_eq_getElem (by omega:k<h.parts.length)]
     have hin:=hw.ins k (by omega)
     simp only[show ¬h.parts.length≤k by omega,decide_false,Bool.false_or,Option.toList_some]
     congr 2
     split
     ·rename_i h1
      rw[←hv]
      exact EM h1 hin
     ·exact hv
   rw[this _ (Nat.le_refl _),←el,List.take_length,←er]
  ·rw[List.all_eq_true]
   intro i hm
   have hm:=List.mem_range.1 hm
   unfold ug
   rw[hw.ins i (by omega)];simp
  ·rintro(⟨h1,h2⟩|⟨h1,h2⟩)
   ·omega
   ·exact h2 er.symm
theorem Ko {b x:ByteArray} (hb:aP b=true) (hx:aP x=true):aP (b++jq x)=true:=by
 obtain⟨b1,b2⟩:=gY hb
 obtain⟨x1,x2⟩:=gY hx
 have hb3:=hb
 simp only[aP,Bool.and_eq_true,Bool.not_eq_true',Bool.or_eq_false_iff,decide_eq_false_iff_not] at hb3
 have h0:=hb3.1.2
 simp at h0
 simp only[aP,Bool.and_eq_true,Bool.not_eq_true',Bool.or_eq_false_iff,decide_eq_false_iff_not,List.all_eq_true,List.mem_range,Bool.or_eq_true,decide_eq_true_eq]
 refine⟨⟨?_,?_⟩,?_⟩
 ·intro e
  have:=congrArg ByteArray.size e
  rw[ByteArray.size_append] at this
  have e3:(({data:= #[]}:ByteArray)).size=0:=rfl
  have e4:noS.size=0:=rfl
  omega
 ·rw[uj (by omega),h0];simp
 ·intro k hk
  rw[ByteArray.size_append,PS hx] at hk
  by_cases k0:k=0
  ·exact .inl k0
  right
  by_cases h:k<b.size
  ·rw[uj h];exact b2 k (by omega) h
  ·rw[EZ (by omega),jq,if_pos hx,Je (by omega)]
   exact x2 _ (by omega) (by omega)
theorem aao {b x:ByteArray} (hb:aP b=true) (hx:aP x=true):jq (b++jq x)=jq b++jq x:=by
 have h1:=(gY hb).1
 rw[jq,if_pos (Ko hb hx)]
 rw[ByteArray.extract_append]
 conv=>rhs;rw[jq,if_pos hb]
 congr 1
 ·rw[ByteArray.size_append]
  apply ByteArray.ext
  simp only[ByteArray.data_extract]
  apply Array.ext
  ·simp;try omega
  ·intro i a c;simp
 ·rw[ByteArray.size_append,show 1-b.size=0 by omega,show b.size+(jq x).size-b.size=(jq x).size by omega]
  simp
theorem YJ {b x:ByteArray} (hb:dE b=true) (hx:aP x=true):dE (b++jq x)=true∧aF (b++jq x) x=true:=by
 rcases qc hb with h|⟨h,hc⟩
 ·have h1:=Ko h hx
  refine⟨by simp[dE,h1],?_⟩
  simp only[aF,hx,h1,if_true,aao h hx]
  exact nD.2 ⟨_,rfl⟩
 ·have h1:=X6 hc hx
  have h2:=Kw h1
  refine⟨by simp[dE,h1],?_⟩
  simp only[aF,hx,h2,if_true,Bool.false_eq_true,if_false]
  rw[zO hx h1,nD.2 ⟨b,rfl⟩,ByteArray.size_append]
  have:=(BU hc).1
  simp;omega
theorem dF (ps:List ByteArray) (l:List aX):∀k,(jl ps l k).length=k
 |0=>rfl
 |k+1=>by simp[jl,dF ps l k]
theorem H8 (ps:List ByteArray) (l:List aX):∀k i,i<k→(jl ps l k).getD i noS=if aP (ps.getD i noS) then((l.getD (aj (ps.take i)) bz).parts.getD 0 noS)++jq (ps.getD i noS) else ps.getD i noS
 |0,i,h=>by omega
 |k+1,i,h=>by
  simp only[jl,List.getD_eq_getElem?_getD]
  by_cases e:i<k
  ·rw[List.getElem?_append_left (by rw[dF];exact e)]
   have:=H8 ps l k i e
   simpa only[List.getD_eq_getElem?_getD] using this
  ·have:i=k:=by omega
   subst this
   rw[List.getElem?_append_right (by rw[dF];exact Nat.le_refl _),dF]
   simp[List.getD_eq_getElem?_getD]
theorem Y6 {p:aX} (h1:1≤p.parts.length) (h2:p.rest=false→2≤p.parts.length) (h3:comp (p.parts.getD 0 noS)=true) (h4:dL p) (h5:p.parts.length≤12):fG p=true:=by
 refine sW.2 ⟨h1,h2,h3,?_,h5⟩
 rw[List.all_eq_true]
 intro x hx
 obtain⟨i,hi,rfl⟩:=List.mem_iff_getElem.1 hx
 simp only[List.length_drop] at hi
 have:=h4 (i+1) (by omega)
 rw[List.getD_eq_getElem?_getD,List.getElem?_eq_getElem (by omega)] at this
 simpa[List.getElem_drop,Nat.add_comm] using this
theorem VF {p:aX} {l:List aX} (h:(fC p l).2=0):fG (fC p l).1=true∧xC (fC p l).1 p:=by
 unfold fC at h⊢
 split at h
 rotate_left
 ·rename_i hp;unfold fG at hp;rw[if_neg (by simpa[fG] using hp)] at*;exact absurd h (by simpa using hp)
 rename_i hp
 rw[if_pos hp]
 split at h
 rotate_left
 ·simp at h
 rename_i hw
 rw[if_pos hw]
 split at h
 rotate_left
 ·simp at h
 rename_i hs
 rw[if_pos hs]
 obtain⟨o1,o2,o3,o4,o5⟩:=sW.1 hp
 have hpo:=dO hp
 have hsub:∀i,i<p.parts.length→aP (p.parts.getD i noS)=true→dE ((l.getD (aj (p.parts.take i)) bz).parts.getD 0 noS)=true:=by
  intro i hi hst
  unfold yg at hs
  rw[List.all_eq_true] at hs
  have:=hs i (List.mem_range.2 hi)
  rw[hst] at this
  simp only[Bool.not_true,Bool.false_or,rH,Bool.and_eq_true] at this
  exact this.2
 have hget:∀i,i<p.parts.length→dE ((jl p.parts l p.parts.length).getD i noS)=true∧aF ((jl p.parts l p.parts.length).getD i noS) (p.parts.getD i noS)=true:=by
  intro i hi
  rw[H8 _ _ _ _ hi]
  cases hst:aP (p.parts.getD i noS) with
  |true=>rw[if_pos rfl];exact YJ (hsub i hi hst) hst
  |false=>rw[if_neg (by simp)];exact⟨hpo i hi,yL (hpo i hi)⟩
 have h0:comp ((jl p.parts l p.parts.length).getD 0 noS)=true:=by
  rw[H8 _ _ _ _ o1,if_neg (by rw[Kw o3];simp)];exact o3
 cases hr:p.rest with
 |false=>
  rw[hr] at h
  simp only[Bool.false_eq_true,if_false] at h⊢
  unfold Cs at h⊢
  simp only[dF] at h⊢
  rw[if_neg (by omega)] at h⊢
  refine⟨Y6 (by simp only[dF];exact o1) (fun _=>by simp only[dF];exact o2 hr) h0 (fun i hi=>?_) (by simp only[dF];exact o5),?_⟩
  ·simp only[dF] at hi;exact(hget i hi).1
  ·exact⟨by simp only[dF];exact Nat.le_refl _,fun _=>⟨rfl,by simp only[dF]⟩,fun h=>(by rw[hr] at h;cases h),fun i hi=>(hget i hi).2⟩
 |true=>
  rw[hr] at h
  simp only[if_true] at h⊢
  split at h
  rotate_left
  ·simp at h
  rename_i hc
  rw[if_pos hc]
  simp only[Bool.and_eq_true] at hc
  generalize hB:l.getD (aj p.parts) bz=b at h hc⊢
  unfold Cs at h⊢
  simp only[List.length_append,dF] at h⊢
  split at h
  ·simp at h
  rename_i hlen
  rw[if_neg hlen]
  have hg1:∀i,i<p.parts.length→(jl p.parts l p.parts.length++b.parts).getD i noS=(jl p.parts l p.parts.length).getD i noS:=by
   intro i hi
   simp only[List.getD_eq_getElem?_getD]
   rw[List.getElem?_append_left (by rw[dF];exact hi)]
  refine⟨Y6 (by simp only[List.length_append,dF];omega) ?_ ?_ ?_ (by simp only[List.length_append,dF];omega),?_⟩
  ·intro hbr
   simp only at hbr
   have:b.parts.isEmpty=false:=by
    rcases Bool.or_eq_true _ _▸hc.1 with h|h
    ·simpa using h
    ·rw[hbr] at h;cases h
   have:1≤b.parts.length:=by
    cases hbp:b.parts with
    |nil=>rw[hbp] at this;simp at this
    |cons a t=>simp
   simp only[List.length_append,dF];omega
  ·simp only;rw[hg1 0 o1];exact h0
  ·intro i hi
   simp only[List.length_append,dF] at hi
   simp only
   by_cases e:i<p.parts.length
   ·rw[hg1 i e];exact(hget i e).1
   ·simp only[List.getD_eq_getElem?_getD]
    rw[List.getElem?_append_right (by rw[dF];omega),dF,List.getElem?_eq_getElem (by omega),Option.getD_some]
    exact List.all_eq_true.1 hc.2 _ (List.getElem_mem _)
  ·refine⟨by simp only[List.length_append,dF];omega,fun h=>(by rw[hr] at h;cases h),?_,?_⟩
   ·intro _ hl
    simp only[List.length_append,dF] at hl
    have hb0:b.parts=[]:=List.length_eq_zero_iff.1 (by omega)
    simp only
    rcases Bool.or_eq_true _ _▸hc.1 with h|h
    ·rw[hb0] at h;simp at h
    ·exact h
   ·intro i hi
    simp only
    rw[hg1 i hi];exact(hget i hi).2
theorem X7 {r:Gs} {p:aX} (h:(lT r p).2.1=true):fG (lT r p).1.right=true∧xC (lT r p).1.right r.right:=by
 unfold lT at h⊢
 split at h
 rotate_left
 ·simp at h
 rename_i h1
 rw[if_pos h1]
 split at h
 rotate_left
 ·simp at h
 rename_i h2
 rw[if_pos h2]
 cases hm:gz r.left p with
 |none=>rw[hm] at h;simp at h
 |some m=>
  rw[hm] at h
  simp only at h⊢
  split at h
  ·rename_i h3
   rw[if_pos h3]
   exact VF h3
  ·simp at h
theorem wK (x:dU):∀(l a:List aX),lm x l=some a→∀h∈a,fG h=true∧xC h x.right
 |[],a,h,k,hk=>by simp[lm] at h;subst h;cases hk
 |p::l,a,h,k,hk=>by
  unfold lm at h
  split at h
  ·obtain⟨t,ht,rfl⟩:=Option.map_eq_some_iff.1 h
   have ih:=wK x l t ht
   split at hk
   ·rename_i hs
    rcases List.mem_cons.1 hk with rfl|hk
    ·exact X7 (r:=x.line) hs
    ·exact ih k hk
   ·exact ih k hk
  ·cases h
theorem H9 {p q m:aX} (h:gz p q=some m):dL m∧1≤m.parts.length:=by
 have key:∀p q:aX,fG p=true→fG q=true→∀m,sD p q=some m→dL m∧1≤m.parts.length:=by
  intro p q hp hq m hm
  have mlen:∀k,(gW p q k).length=k:=by
   intro k
   induction k with
   |zero=>rfl
   |succ k ih=>simp[gW,ih]
  have mget:∀k i,i<k→(gW p q k).getD i noS=if decide (q.parts.length≤i)||aF (p.parts.getD i noS) (q.parts.getD i noS) then p.parts.getD i noS else q.parts.getD i noS:=by
   intro k
   induction k with
   |zero=>intro i h;omega
   |succ k ih=>
    intro i h
    simp only[gW]
    by_cases e:i<k
    ·rw[←ih i e]
     simp only[List.getD_eq_getElem?_getD]
     rw[List.getElem?_append_left (by rw[mlen];exact e)]
    ·have:i=k:=by omega
     subst this
     simp only[List.getD_eq_getElem?_getD]
     rw[List.getElem?_append_right (by rw[mlen];exact Nat.le_refl _),mlen]
     simp
  unfold sD at hm
  split at hm
  ·cases hm
  split at hm
  ·cases hm
   refine⟨fun i hi=>?_,by simp only[mlen];exact(sW.1 hp).1⟩
   simp only[mlen] at hi
   simp only
   rw[mget _ _ hi]
   split
   ·exact dO hp i hi
   ·rename_i hc
    have:¬q.parts.length≤i:=by intro h;simp[h] at hc
    exact dO hq i (by omega)
  ·cases hm
 unfold gz at h
 split at h
 ·rename_i ho
  simp only[Bool.and_eq_true] at ho
  split at h
  ·exact key q p ho.2 ho.1 m h
  ·exact key p q ho.1 ho.2 m h
 ·cases h
theorem Tp {m:aX} (hm:dL m) {a b:List aX} (h1:∀h∈a,∃k∈b,xC h k) (h2:∀h∈b,∃k∈a,xC h k) (n:Nat):jP ⟨m,a⟩ n=jP ⟨m,b⟩ n:=by
 rw[Bool.eq_iff_iff,GL,GL]
 constructor
 ·rintro⟨h,hh,hc⟩;obtain⟨k,hk,hw⟩:=h1 h hh;exact⟨k,hk,Ez hm hw hc⟩
 ·rintro⟨h,hh,hc⟩;obtain⟨k,hk,hw⟩:=h2 h hh;exact⟨k,hk,Ez hm hw hc⟩
theorem RG {m:aX} (hm:dL m) (hl:1≤m.parts.length) {a b:List aX} (h1:∀h∈a,∃k∈b,xC h k) (h2:∀h∈b,∃k∈a,xC h k):decide (0<yK ⟨m,a⟩)=decide (0<yK ⟨m,b⟩):=by
 rw[decide_eq_decide,QP hl,QP hl]
 simp only[Tp hm h1 h2]
theorem Gq {b:aX} {a:List aX} (hb:fG b=true) (ha:∀h∈a,fG h=true∧xC h b):(∀h∈(sQ b a).holes,h∈a)∧∀h∈a,∃k∈(sQ b a).holes,xC h k:=by
 have hmet:AB b a=a:=by
  unfold AB
  have:∀l:List aX,(∀h∈l,fG h=true∧xC h b)→l.filterMap (gz b)=l:=by
   intro l
   induction l with
   |nil=>intro _;rfl
   |cons h t ih=>
    intro hl
    have h0:=hl h List.mem_cons_self
    rw[List.filterMap_cons,OI hb h0.1 h0.2,ih fun k hk=>hl k (List.mem_cons_of_mem _ hk)]
  exact this a ha
 have hs:=J9 a
 have hlen:=Be a a.length
 simp only[sQ,hmet]
 generalize hS:uS a a.length=s at hlen
 rw[←hlen]
 have hmem:∀h,h∈s↔h∈a:=fun h=>by rw[←hS];exact hs h _ (Nat.le_refl _)
 refine⟨fun h hh=>(hmem h).1 ?_,fun h hh=>?_⟩
 ·exact YT hh
 ·exact YN (fun k hk=>(ha k ((hmem k).1 hk)).1) ((hmem h).2 hh)
theorem PM {x y:dU} (hx:fG x.right=true) (hy:fG y.right=true) {a b:List aX} (ha:lm x x.holes=some a) (hb:lm y y.holes=some b):
 iD (sQ x.right a) (sQ y.right b)=iD ⟨x.right,a⟩ ⟨y.right,b⟩:=by
 have wa:=wK x _ _ ha
 have wb:=wK y _ _ hb
 obtain⟨a1,a2⟩:=Gq hx wa
 obtain⟨b1,b2⟩:=Gq hy wb
 unfold iD
 simp only[show(sQ x.right a).base=x.right from rfl,show(sQ y.right b).base=y.right from rfl]
 cases hm:gz x.right y.right with
 |none=>rfl
 |some m=>
  obtain⟨m1,m2⟩:=H9 hm
  simp only
  refine RG m1 m2 ?_ ?_
  ·intro h hh
   rcases List.mem_append.1 hh with hh|hh
   ·exact⟨h,List.mem_append_left _ (a1 h hh),xC.refl (dO (wa h (a1 h hh)).1)⟩
   ·exact⟨h,List.mem_append_right _ (b1 h hh),xC.refl (dO (wb h (b1 h hh)).1)⟩
  ·intro h hh
   rcases List.mem_append.1 hh with hh|hh
   ·obtain⟨k,hk,hw⟩:=a2 h hh;exact⟨k,List.mem_append_left _ hk,hw⟩
   ·obtain⟨k,hk,hw⟩:=b2 h hh;exact⟨k,List.mem_append_right _ hk,hw⟩
end Go.Proofs.YtcpgicfphakdaaaGreatDoor
namespace Go.Ab
variable [Dr]
section
variable {P:Program} {x:X}
theorem YZ {Q:Exit→S→Prop} {s:S} {ops l:List Oper} {d:Tmp} {T T' e:TypeId} {y:Operand} {ty:TypeId} {pos:String} {after:Array Edge} {sz:Nat} {xs:List (List D)} (hd:d<s.n)
 (hT:P.underlying T=some (.slice e)) (hy:ev s y=some (.c (.d (.ps sz xs)))) (hx:xs≠[])
 (hk:TO P x ops l ⟨s.n,put s.env d (B false),s.st⟩ Q):TO P x ops (⟨some d, .binOp .eql T y (.const (.slice none 0 0)) T',ty,pos,after,none⟩::l) s Q:=by
 rintro a w ⟨bl,cap,hs,henv,hdf,hsz⟩
 have h1:bQ _ _ (.ps sz xs) (a.eval y):=fV henv hy
 refine wpList_plain rfl fun K hK=>?_
 unfold Oper.wp
 have h2:a.eval (.const (.slice none 0 0))= .slice none 0 0:=rfl
 have hrun:(execOp a.eval ⟨some d, .binOp .eql T y (.const (.slice none 0 0)) T',ty,pos,after,none⟩).run P w= .ok (.value (.bool false)) w:=by
  have h3:∃u,u=a.eval y:=⟨_,rfl⟩
  obtain⟨u,hu⟩:=h3
  rw[←hu] at h1
  cases h1 with
  |nil=>exact absurd rfl hx
  |ps _ _ b o cp f hM hl2 hc hrr hcap hb=>
   have e1:(Op.equal T (.slice (some ⟨b,o,none⟩) xs.length cp) (.slice none 0 0)).run P w= .ok false w:=by
    show(Op.equalIn (9999+1) T _ _).run P w=_
    rw[Op.equalIn]
    simp[run_underlying hT]
   have e2:(binOp .eql T (.slice (some ⟨b,o,none⟩) xs.length cp) (.slice none 0 0)).run P w= .ok (.bool false) w:=by
    show(Value.bool <$> Op.equal T _ _:Sem Value).run P w=_
    simp[e1]
   simp[execOp,h2,eqGuard,←hu,e2]
 rw[hrun]
 exact hK _ _ (hk _ _ ⟨bl,cap,hs,henv.put (by rw[hsz];exact hd) (.v _ rfl),by rw[Act.put_defers];exact hdf,by rw[Act.iL];exact hsz⟩)
end
end Go.Ab
namespace Go.Proofs.YtcpgicfphakdaaaGreatDoor
open Go.Ab
def trimS (s t:ByteArray):ByteArray:=if dV s t then s.extract 0 (s.size-t.size) else s
theorem SI {a b:ByteArray} (h:aF a b=true) (hb:aP b=true):dV a (jq b)=true:=by
 unfold aF at h
 rw[if_pos hb] at h
 split at h
 ·rename_i ha
  refine xq ?_ h
  exact nD.2 ⟨a.extract 0 1,by rw[jq,if_pos ha,ByteArray.extract_append_extract];simp⟩
 ·unfold lY at h
  rw[if_pos hb] at h
  split at h
  ·assumption
  ·simp at h
def AX (ps qs:List ByteArray):Nat→List ByteArray
 |0=>qs
 |k+1=>if aP (ps.getD k noS) then(AX ps qs k).set k (trimS ((AX ps qs k).getD k noS) (jq (ps.getD k noS))) else AX ps qs k
theorem zN (ps qs:List ByteArray):∀k,(AX ps qs k).length=qs.length
 |0=>rfl
 |k+1=>by simp only[AX];split<;>simp[zN ps qs k]
theorem Ht (ps qs:List ByteArray):∀k i,k≤i→(AX ps qs k)[i]? =qs[i]?
 |0,i,_=>rfl
 |k+1,i,h=>by
  simp only[AX]
  split
  ·rw[List.getElem?_set_ne (by omega),Ht ps qs k i (by omega)]
  ·exact Ht ps qs k i (by omega)
theorem ZG (ps qs:List ByteArray):∀k i,i<k→i<qs.length→(AX ps qs k)[i]? =some (if aP (ps.getD i noS) then trimS (qs.getD i noS) (jq (ps.getD i noS)) else qs.getD i noS)
 |0,i,h,_=>by omega
 |k+1,i,h,hi=>by
  have hg:=Ht ps qs k k (Nat.le_refl _)
  have hl:=zN ps qs k
  by_cases e:i=k
  ·subst e
   have e2:(AX ps qs i).getD i noS=qs.getD i noS:=by rw[List.getD_eq_getElem?_getD,hg,←List.getD_eq_getElem?_getD]
   simp only[AX]
   split
   ·rw[List.getElem?_set_self (by omega),e2]
   ·rw[hg,List.getD_eq_getElem?_getD,List.getElem?_eq_getElem hi];rfl
  ·have ih:=ZG ps qs k i (by omega) hi
   simp only[AX]
   split
   ·rw[List.getElem?_set_ne (by omega),ih]
   ·exact ih
theorem Ya (ps qs:List ByteArray) (k:Nat):(AX ps qs k).drop k=qs.drop k:=by
 apply List.ext_getElem?
 intro i
 rw[List.getElem?_drop,List.getElem?_drop,Ht ps qs k _ (by omega)]
def Ol (id:Nat) (ps:List ByteArray):Nat→List (List C)
 |0=>[]
 |k+1=>Ol id ps k++(if aP (ps.getD k noS) then [[.mv id 1 k 1, .d (.v (.bool false))]] else [])
theorem LY (dom:Nat→Bool) (id:Nat) (ps:List ByteArray) (h:dom id=true):∀k,aN dom (Ol id ps k).flatten=True
 |0=>by simp[Ol,aN]
 |k+1=>by
  simp only[Ol,List.flatten_append,ay,LY dom id ps h k,true_and]
  split<;>simp[aN,dH,h]
theorem Vo (ρ:Nat→Nat) (id:Nat) (ps:List ByteArray):∀k,(Ol id ps k).map (fun l=>l.map (gX ρ))=Ol (ρ id) ps k
 |0=>rfl
 |k+1=>by
  simp only[Ol,List.map_append,Vo ρ id ps k]
  split<;>simp[gX]
theorem Oh (id:Nat) (ps:List ByteArray):∀k,(Ol id ps k).length≤k
 |0=>Nat.le_refl _
 |k+1=>by
  have:=Oh id ps k
  simp only[Ol,List.length_append]
  split<;>simp<;>omega
theorem Z9 {l:List (List D)} {i:Nat} {v:List D} (h:l[i]? =some v):(l.drop i).take 1=[v]:=by
 obtain⟨hi,e⟩:=List.getElem?_eq_some_iff.1 h
 rw[List.drop_eq_getElem_cons hi,e];rfl
theorem X8 {p q:aX} (id:Nat) (hs:∀i,i<p.parts.length→aP (p.parts.getD i noS)=true→dV (q.parts.getD i noS) (jq (p.parts.getD i noS))=true) (hl:p.parts.length≤q.parts.length):
 ∀k,k≤p.parts.length→(Ol id p.parts k).map (fun l=>l.map (frV id 1 ((AX p.parts q.parts p.parts.length).map encS)))=(uo p q k).map fun b=>(au b).map C.d
 |0,_=>rfl
 |k+1,hk=>by
  simp only[Ol,uo,List.map_append,X8 id hs hl k (by omega)]
  congr 1
  split
  ·rename_i h
   have hlt:=ZG p.parts q.parts p.parts.length k (by omega) (by omega)
   rw[if_pos h,trimS,if_pos (hs k (by omega) h)] at hlt
   have h1:k+1≤((AX p.parts q.parts p.parts.length).map encS).length:=by rw[List.length_map,zN];omega
   simp only[List.map_cons,List.map_nil,frV,if_pos (⟨rfl,rfl,h1⟩:id=id∧1=1∧k+1≤((AX p.parts q.parts p.parts.length).map encS).length)]
   rw[if_pos ⟨trivial,trivial,h1⟩,Z9 (v:=encS ((q.parts.getD k noS).extract 0 ((q.parts.getD k noS).size-(jq (p.parts.getD k noS)).size))) (by rw[List.getElem?_map,hlt];rfl)]
  ·rfl
theorem abj {p q:aX} (id:Nat) (hw:dG q p=true):p.parts.length≤q.parts.length∧
 (Ol id p.parts p.parts.length++(if p.rest then [[C.mv id 1 p.parts.length (q.parts.length-p.parts.length), .d (.v (.bool q.rest))]] else [])).map (fun l=>l.map (frV id 1 ((AX p.parts q.parts p.parts.length).map encS)))
   =((jd p q).getD []).map fun b=>(au b).map C.d:=by
 have hw':=hw
 unfold dG at hw'
 simp only[Bool.and_eq_true,decide_eq_true_eq,List.all_eq_true,List.mem_range] at hw'
 obtain⟨⟨⟨⟨_,hl⟩,_⟩,_⟩,hi⟩:=hw'
 refine⟨hl,?_⟩
 rw[jd,if_pos hw,Option.getD_some,List.map_append,List.map_append,X8 id (fun i h1 h2=>SI (hi i h1) h2) hl _ (Nat.le_refl _)]
 congr 1
 split
 ·have h1:p.parts.length+(q.parts.length-p.parts.length)≤((AX p.parts q.parts p.parts.length).map encS).length:=by rw[List.length_map,zN];omega
  simp only[List.map_cons,List.map_nil,frV,if_pos (⟨rfl,rfl,h1⟩:id=id∧1=1∧p.parts.length+(q.parts.length-p.parts.length)≤((AX p.parts q.parts p.parts.length).map encS).length)]
  rw[if_pos ⟨trivial,trivial,h1⟩,←List.map_drop,Ya,List.take_of_length_le (by rw[List.length_map,List.length_drop];exact Nat.le_refl _)]
 ·rfl
theorem FW:∀(ps:List ByteArray) (j:Nat),j<aj ps→∃i,i<ps.length∧aP (ps.getD i noS)=true∧aj (ps.take i)=j
 |[],j,h=>by simp[aj] at h
 |a::ps,j,h=>by
  by_cases ha:aP a=true
  ·match j with
   |0=>exact⟨0,by simp,by simpa using ha,rfl⟩
   |j+1=>
    obtain⟨i,h1,h2,h3⟩:=FW ps j (by simp only[aj,List.filter_cons,ha,if_true,List.length_cons] at h⊢;omega)
    exact⟨i+1,by simpa using h1,by simpa using h2,by simp only[List.take_succ_cons,aj,List.filter_cons,ha,if_true,List.length_cons] at h3⊢;omega⟩
  ·obtain⟨i,h1,h2,h3⟩:=FW ps j (by simp only[aj,List.filter_cons,ha] at h⊢;simpa using h)
   exact⟨i+1,by simpa using h1,by simpa using h2,by simp only[List.take_succ_cons,aj,List.filter_cons,ha] at h3⊢;simpa using h3⟩
theorem zu:∀(ps:List ByteArray) (i:Nat),i<ps.length→aP (ps.getD i noS)=true→aj (ps.take i)<aj ps
 |[],i,h,_=>by simp at h
 |a::ps,0,_,h=>by
  have h:aP a=true:=by simpa using h
  simp only[List.take_zero,aj,List.filter_nil,List.filter_cons,h,if_true,List.length_cons,List.length_nil];omega
 |a::ps,i+1,hi,h=>by
  have:=zu ps i (by simpa using hi) (by simpa using h)
  simp only[List.take_succ_cons,aj,List.filter_cons] at this⊢
  split<;>simp<;>omega
def DZ (b:aX) (rest:Bool):Bool:=!((!rest&&(!decide (b.parts.length=1)||b.rest))||(decide (b.parts.length=0)&&!b.rest))&&b.parts.all dE
theorem PN (b:aX):DZ b false=rH b:=by
 obtain⟨l,r⟩:=b
 rw[DZ,rH]
 match l with
 |[]=>cases r<;>rfl
 |[a]=>cases r<;>simp
 |a::b::l=>cases r<;>simp
theorem Vy (b:aX):DZ b true=((!b.parts.isEmpty||b.rest)&&b.parts.all dE):=by
 obtain⟨l,r⟩:=b
 rw[DZ]
 match l with
 |[]=>cases r<;>rfl
 |a::l=>cases r<;>simp
theorem abz {p:aX} {l:List aX} (hl:l.length=jS p):((List.range l.length).all fun i=>DZ (l.getD i bz) (decide (i=aj p.parts)))=
 (yg p.parts l p.parts.length&&(!p.rest||((!(l.getD (aj p.parts) bz).parts.isEmpty||(l.getD (aj p.parts) bz).rest)&&(l.getD (aj p.parts) bz).parts.all dE))):=by
 rw[←Vy,Bool.eq_iff_iff]
 simp only[Bool.and_eq_true,yg,List.all_eq_true,List.mem_range,Bool.or_eq_true,Bool.not_eq_true',←PN]
 unfold jS at hl
 constructor
 ·intro h
  refine⟨fun i hi=>?_,?_⟩
  ·cases hs:aP (p.parts.getD i noS) with
   |false=>exact .inl rfl
   |true=>
    have hlt:=zu _ i hi hs
    have:=h (aj (p.parts.take i)) (by omega)
    rw[decide_eq_false (by omega)] at this
    exact .inr this
  ·cases hr:p.rest with
   |false=>exact .inl rfl
   |true=>
    rw[hr,if_pos rfl] at hl
    have:=h (aj p.parts) (by omega)
    rw[decide_eq_true rfl] at this
    exact .inr this
 ·rintro⟨h1,h2⟩ j hj
  by_cases e:j=aj p.parts
  ·subst e
   rw[decide_eq_true rfl]
   rcases h2 with h2|h2
   ·rw[h2] at hl;simp at hl;omega
   ·exact h2
  ·rw[decide_eq_false e]
   have hlt:j<aj p.parts:=by split at hl<;>omega
   obtain⟨i,a1,a2,a3⟩:=FW _ j hlt
   have:=h1 i a1
   rw[a2,a3] at this
   simpa using this
theorem Qv (p:aX) (l:List aX):fC p l=
 if fG p then(if l.length=jS p then(if((List.range l.length).all fun i=>DZ (l.getD i bz) (decide (i=aj p.parts))) then
  (if p.rest then Cs ⟨jl p.parts l p.parts.length++(l.getD (aj p.parts) bz).parts,(l.getD (aj p.parts) bz).rest⟩ else(⟨jl p.parts l p.parts.length,false⟩,0)) else(bz,33)) else(bz,33)) else(bz,aS p):=by
 unfold fC
 by_cases h1:fG p=true
 ·rw[if_pos h1,if_pos h1]
  by_cases h2:l.length=jS p
  ·rw[if_pos h2,if_pos h2,abz h2]
   cases h3:yg p.parts l p.parts.length with
   |false=>rfl
   |true=>
    simp only[if_true,Bool.true_and]
    cases h4:p.rest with
    |false=>
     simp only[Bool.not_false,Bool.true_or,if_true]
     have:¬12<p.parts.length:=by have:=(sW.1 h1).2.2.2.2;omega
     simp only[Cs,dF,if_neg this]
     rfl
    |true=>simp only[Bool.not_true,Bool.false_or];rfl
  ·rw[if_neg h2,if_neg h2]
 ·rw[if_neg h1,if_neg h1]
def qE (a m b:aX):aX×Int:=if(fC b ((jd a m).getD [])).2=0 then((fC b ((jd a m).getD [])).1,0) else(bz,43)
theorem Sz (r:Gs) (p:aX):lT r p=if okR r then(if fG p then(match gz r.left p with
 |none=>(FI,false,0)
 |some m=>if(qE r.left m r.right).2=0 then(⟨false,m,(qE r.left m r.right).1⟩,true,0) else(FI,false,43)) else(FI,false,aS p)) else(FI,false,dN r):=by
 unfold lT qE
 split
 ·split
  ·cases gz r.left p with
   |none=>rfl
   |some m=>
    simp only
    by_cases h:(fC r.right ((jd r.left m).getD [])).2=0
    ·simp only[h,if_true]
    ·simp only[h,if_false];rfl
  ·rfl
 ·rfl
end Go.Proofs.YtcpgicfphakdaaaGreatDoor
namespace Go.Ab
variable [Dr]
def Dy (P:Program) (f:FuncId) (args:List AV) (r:AV) (st0:List (Nat×AO)) (st1:Option (List (Nat×AO))) (ob:Nat→Option AO):Option Out:=
 some ⟨r,st1.getD [],[∀p∈st0,ob p.1=some p.2,∀p∈st0,bY (ae st0) p.2,∀a∈args,aZ (ae st0) a,AC P f args st0 (fun r' st'=>r'=r∧st'=st1.getD st0),∀p∈st1.getD [],ae st0 p.1=true∨ob p.1=none]⟩
omit [Dr] in
theorem XP {l:List (Nat×AO)} {i:Nat} {a:AO} (h:get l i=some a):put l i a=l:=by
 induction l with
 |nil=>simp[Ab.get] at h
 |cons p l ih=>
  obtain⟨j,y⟩:=p
  simp only[Ab.get] at h
  simp only[Ab.put]
  by_cases e:j=i
  ·subst e;simp at h;subst h;simp
  ·rw[if_neg e] at h⊢
   rw[ih h]
omit [Dr] in
theorem y9 {st:List (Nat×AO)}:∀{l:List (Nat×AO)},(∀p∈l,get st p.1=some p.2)→aK st l=st
 |[],_=>rfl
 |p::l,h=>by
  have e:aK st (p::l)=aK (put st p.1 p.2) l:=rfl
  rw[e,XP (h p List.mem_cons_self)]
  exact y9 fun q hq=>h q (List.mem_cons_of_mem _ hq)
omit [Dr] in
theorem Vq {l:List (Nat×AO)} {q:Nat×AO} (h:q∈l):ae l q.1=true:=by
 induction l with
 |nil=>cases h
 |cons p l ih=>
  obtain⟨j,y⟩:=p
  simp only[ae,Ab.get]
  by_cases e:j=q.1
  ·rw[if_pos e];rfl
  ·rw[if_neg e]
   rcases List.mem_cons.1 h with rfl|h
   ·exact absurd rfl e
   ·exact ih h
abbrev Lns:=List (Nat×(List (Nat×AO)×Option (List (Nat×AO))))
def Xv (ls:Lns) (o:Oper):Option (List (Nat×AO)×Option (List (Nat×AO))):=match o.dst with|some d=>get ls d|none=>none
def EI (P:Program) (wr:Bool) (ops:List Oper) (cs:List (Nat×AV)) (ls:Lns) (o:Oper) (s:S):Option Out:=
 match Xv ls o with
 |some p=>
  match o.guard,o.op with
  |none, .call {callee:= .value (.func f),args:=⟨asq⟩,argTypes:=_}=>
   match iV s asq,get cs (o.dst.getD 0) with
   |some args,some r=>Dy P f args r p.1 p.2 (get s.st)
   |_,_=>none
  |some (j,want), .call {callee:= .value (.func f),args:=⟨asq⟩,argTypes:=_}=>
   match Cj ops s j,lN.evsAll s asq,get cs (o.dst.getD 0) with
   |some (bs,b),some args,some r=>
    match Dy P f args r p.1 p.2 (get s.st) with
    |some out=>some ⟨out.v,out.upd,(dD bs (if want then b else !b)=true)::(qB s asq++out.obl)⟩
    |none=>none
   |_,_,_=>none
  |some (j,want), .buildSlice _ _ _=>
   match Cj ops s j with
   |some (bs,b)=>some ⟨.cond (dD bs (if want then b else !b)) (.c (.d (.v (.int .i64 0)))),[],[dD bs (if want then b else !b)=false]⟩
   |none=>none
  |_,_=>none
 |none=>lN P wr ops cs o s
def DV (ops:List Oper) (ls:Lns) (o:Oper) (s:S):List (Hr×Option Ct):=
 readsOf ops o s++(match Xv ls o with|some p=>(p.1++p.2.getD []).map fun q=>((false,q.1),look s (false,q.1))|none=>[])
def a1L (ops:List Oper) (ls:Lns) (o:Oper) (s:S) (out:Out):A1:=⟨DV ops ls o s,o.dst.map fun d=>(d,out.v),out.upd⟩
def Qo (P:Program) (wr:Bool) (ops:List Oper) (cs:List (Nat×AV)) (ls:Lns):List Oper→S→Option (List A1×List Prop×S)
 |[],s=>some ([],[],s)
 |o::l,s=>
  if qG o s.n then
   match EI P wr ops cs ls o s with
   |some out=>
    match Qo P wr ops cs ls l ⟨s.n,iy s.env o.dst out.v,aK s.st out.upd⟩ with
    |some (As,ps,s')=>some (a1L ops ls o s out::As,out.obl++ps,s')
    |none=>none
   |none=>none
  else none
omit [Dr] in
theorem UT {ops:List Oper} {ls:Lns} {o:Oper} {s s':S} {out:Out} (hn:s'.n=s.n):(a1L ops ls o s out).app s'=⟨s.n,iy s'.env o.dst out.v,aK s'.st out.upd⟩:=by
 simp only[A1.app,a1L,hn]
 cases o.dst<;>rfl
section
variable {P:Program} {x:X} {ops:List Oper} {ls:Lns} {o:Oper} {s s':S} {wr:Bool} {cs:List (Nat×AV)}
omit [Dr] in
theorem Wv (h:∀p∈DV ops ls o s,look s' p.1=p.2):∀p∈readsOf ops o s,look s' p.1=p.2:=fun p hp=>h p (List.mem_append_left _ hp)
theorem OO (h:∀p∈DV ops ls o s,look s' p.1=p.2):EI P wr ops cs ls o s'=EI P wr ops cs ls o s:=by
 have h0:=Wv h
 unfold EI
 cases hl:Xv ls o with
 |none=>exact y8 h0
 |some p=>
  have hob:∀q∈p.1++p.2.getD [],get s'.st q.1=get s.st q.1:=by
   intro q hq
   refine N9 (h ((false,q.1),look s (false,q.1)) ?_)
   unfold DV
   rw[hl]
   exact List.mem_append_right _ (List.mem_map.2 ⟨q,hq,rfl⟩)
  have hcall:∀f args r,Dy P f args r p.1 p.2 (get s'.st)=Dy P f args r p.1 p.2 (get s.st):=by
   intro f args r
   unfold Dy
   have e1:(∀q∈p.1,get s'.st q.1=some q.2)=(∀q∈p.1,get s.st q.1=some q.2):=
    propext ⟨fun g q hq=>by rw[←hob q (List.mem_append_left _ hq)];exact g q hq,fun g q hq=>by rw[hob q (List.mem_append_left _ hq)];exact g q hq⟩
   have e2:(∀q∈p.2.getD [],ae p.1 q.1=true∨get s'.st q.1=none)=(∀q∈p.2.getD [],ae p.1 q.1=true∨get s.st q.1=none):=
    propext ⟨fun g q hq=>by rw[←hob q (List.mem_append_right _ hq)];exact g q hq,fun g q hq=>by rw[hob q (List.mem_append_right _ hq)];exact g q hq⟩
   rw[e1,e2]
  simp only
  split
  ·rename_i f asq ats hg hop
   rw[ql h0 fun y hy=>by rw[hop];simp[Op.operands,Call.operands,hy]]
   split
   ·exact hcall _ _ _
   ·rfl
  ·rename_i j want f asq ats hg hop
   rw[yV h0 hg,qV h0 fun y hy=>by rw[hop];simp[Op.operands,Call.operands,hy],oU h0 (l:=asq) fun y hy=>by rw[hop];simp[Op.operands,Call.operands,hy]]
   split
   ·rw[hcall]
   ·rfl
  ·rename_i j want _ _ _ hg hop
   rw[yV h0 hg]
  ·rfl
theorem PP {out:Out} (h:EI P wr ops cs ls o s=some out) (ho:All out.obl) (hdst:qG o s.n=true) {a:Act} {w:World} (hsat:Sat x s a w)
 {K:Act→World→Prop} {Q:Exit→Act→World→Prop} (hK:∀a w,Sat x ⟨s.n,iy s.env o.dst out.v,aK s.st out.upd⟩ a w→K a w):
 if Region.wanted o (yielded ops.toArray a.tmps) then o.wp P a w K Q else K (a.put o.dst undef) w:=by
 have hd:∀i,o.dst=some i→i<s.n:=fun i hi=>by simpa[qG,hi] using hdst
 unfold EI at h
 cases hl:Xv ls o with
 |none=>rw[hl] at h;exact tN h ho hdst hsat hK
 |some p=>
  rw[hl] at h
  simp only at h
  split at h
  ·rename_i f asq ats hg hop
   rw[if_pos (by simp[Region.wanted,hg])]
   obtain⟨bl,cap,hs,henv,hdf,hsz⟩:=hsat
   split at h
   ·rename_i args r hargs hr
    unfold Dy at h
    cases h
    simp only[All] at ho
    obtain⟨o1,o2,o3,o4,o5, -⟩:=ho
    refine tq (st0:=p.1) hop hd ⟨o1,o2,o3⟩ o4 hs henv hdf hsz (jF henv hargs) ?_
    rintro r' st' ⟨rfl,rfl⟩
    obtain⟨st0,st1⟩:=p
    cases st1 with
    |some st1=>exact⟨o5,fun a w h=>hK a w h⟩
    |none=>
     simp only[Option.getD] at o1 hK⊢
     refine⟨fun q hq=> .inl ?_,fun a w h=>hK a w ?_⟩
     ·exact Vq hq
     ·rw[y9 o1] at h;exact h
   ·cases h
  ·rename_i j want f asq ats hg hop
   obtain⟨bl,cap,hs,henv,hdf,hsz⟩:=hsat
   split at h
   ·rename_i bs b args r hgv hargs hr
    unfold Dy at h
    simp only at h
    cases h
    simp only[All] at ho
    obtain⟨hG,ho⟩:=ho
    obtain⟨hob,ho⟩:=All.append ho
    simp only[All] at ho
    obtain⟨o1,o2,o3,o4,o5, -⟩:=ho
    rw[AP henv hg hgv,hG,if_pos rfl]
    refine tq (st0:=p.1) hop hd ⟨o1,o2,o3⟩ o4 hs henv hdf hsz (wV henv hargs hob) ?_
    rintro r' st' ⟨rfl,rfl⟩
    obtain⟨st0,st1⟩:=p
    cases st1 with
    |some st1=>exact⟨o5,fun a w h=>hK a w h⟩
    |none=>
     simp only[Option.getD] at o1 hK⊢
     refine⟨fun q hq=> .inl ?_,fun a w h=>hK a w ?_⟩
     ·exact Vq hq
     ·rw[y9 o1] at h;exact h
   ·cases h
  ·rename_i j want _ _ _ hg hop
   obtain⟨bl,cap,hs,henv,hdf,hsz⟩:=hsat
   split at h
   ·rename_i bs b hgv
    cases h
    simp only[All] at ho
    have hG:=ho.1
    rw[AP henv hg hgv,hG,if_neg (by simp)]
    refine hK _ _ ⟨bl,cap,hs,henv.iy (fun i hi=>by rw[hsz];exact hd i hi) (And.intro (fun h'=>by rw[hG] at h';cases h') (fun _=>rfl)),by rw[Act.put_defers];exact hdf,by rw[Act.iL];exact hsz⟩
   ·cases h
  ·cases h
omit [Dr] in
theorem Qw {q:Hr×Option Ct} (h:q∈DV ops ls o s):q.2=look s q.1:=by
 unfold DV at h
 rcases List.mem_append.1 h with h|h
 ·exact zJ.reads_self h
 ·split at h
  ·obtain⟨y,_,rfl⟩:=List.mem_map.1 h;rfl
  ·cases h
theorem Ui:∀{l:List Oper} {s s':S} {As:List A1} {ps:List Prop},Qo P wr ops cs ls l s=some (As,ps,s')→All ps→
 As.length=l.length∧kW As s l.length=s'∧(∀(i:Nat) (A:A1),As[i]? =some A→A.Fits (kW As s i))∧∀(i:Nat) (o:Oper) (A:A1),l[i]? =some o→As[i]? =some A→A.KL P x s.n ops.toArray o
 |[],s,s',As,ps,h,_=>by cases h;exact⟨rfl,rfl,by simp,by simp⟩
 |o::l,s,s',As,ps,h,hp=>by
  simp only[Qo] at h
  split at h
  ·rename_i hd
   split at h
   ·rename_i out hout
    split at h
    ·rename_i As' ps' s'' hrec
     cases h
     obtain⟨p1,p2⟩:=All.append hp
     obtain⟨i1,i2,i3,i4⟩:=Ui hrec p2
     have shift:∀i,kW (a1L ops ls o s out::As') s (i+1)=kW As' ⟨s.n,iy s.env o.dst out.v,aK s.st out.upd⟩ i:=by
      intro i
      induction i with
      |zero=>simp only[kW,List.getElem?_cons_zero];exact UT rfl
      |succ i ih=>
       rw[kW,ih]
       simp only[List.getElem?_cons_succ]
       rfl
     refine⟨by simp[i1],by rw[List.length_cons,shift];exact i2,?_,?_⟩
     ·intro i A hA
      cases i with
      |zero=>simp at hA;subst hA;intro p hp;exact(Qw hp).symm
      |succ i=>rw[shift];exact i3 i A (by simpa using hA)
     ·intro i o' A ho' hA
      cases i with
      |zero=>
       simp at ho' hA;subst ho';subst hA
       intro s1 a w hnn hs1 hf K Q hk
       have hloc:=OO (P:=P) (wr:=wr) (cs:=cs) (ls:=ls) (ops:=ops) (o:=o) (s:=s) (s':=s1) hf
       rw[hout] at hloc
       refine PP hloc p1 (by rw[hnn];exact hd) hs1 fun a w h=>hk a w ?_
       rw[UT hnn,←hnn];exact h
      |succ i=>exact i4 i o' A (by simpa using ho') (by simpa using hA)
    ·cases h
   ·cases h
  ·cases h
theorem Uh {id:Nat} {l:List Oper} {s s':S} {Q:Exit→S→Prop} (cs:List (Nat×AV)) (ls:Lns) {As:List A1} {ps:List Prop} (hm:P.follows .mixedOrders=true)
 (h:Qo P wr l cs ls l s=some (As,ps,s')) (ho:All ps) (hc:qw l As=true) (hQ:Q .normal s'):T P x (.region id l.toArray true) s Q:=by
 obtain⟨h1,h2,h3,h4⟩:=Ui (x:=x) h ho
 have hord:=yI h1 h3 hc
 intro a w hs
 refine wp_region_any hm ?_
 refine PO hord (fun i o A hi hA=>h4 i o A (by simpa using hi) hA) (by simpa[h2] using hQ) _ _ s a _ (by simp) ?_ rfl ?_ ?_ (hs.drew _ (by first|exact Nat.le_succ _|exact Nat.le_add_right _ _|(simp;done)|omega))
 ·intro i o e hi hL he hb
  have hlt:i<l.length:=by simpa using(Array.getElem?_eq_some_iff.1 hi).1
  rw[getD_in (by simpa using hlt) true false] at hL
  simp[Array.getD,hlt] at hL
 ·intro r
  have hz:∀i,(Array.replicate l.toArray.size false).getD i false=false:=by
   intro i;simp[Array.getD]
  have:cont As s (fun i=>(Array.replicate l.toArray.size false).getD i false) r l.toArray.size=cont As s (fun i=>(Array.replicate l.toArray.size false).getD i false) r 0:=
   jI (Nat.zero_le _) (fun i _ _ _=>hz i)
  rw[this];rfl
 ·exact rX
end
end Go.Ab
namespace Go.Proofs.YtcpgicfphakdaaaGreatDoor
open Go.Ab Tys
variable [Dr]
def ad4.kk:=p8 kB kG kFn Tryz.ntmps192 eH jO jy Tryz.results192
set_option maxRecDepth 100000 in
set_option maxHeartbeats 16000000 in
open ad4 in
theorem aaR (len:Nat) (hl:len≤1000000) (P x0 S:List ByteArray) (hV:VS (P++(x0++S))) (a b:Nat) (ha:a=P.length) (hb:b=a+x0.length) (hlen:b+S.length=len):
 AC Tryz.prog 192 [.c (.ms 46 1 0 len),I .i64 a,I .i64 b,uB] (stA (P++(x0++S))) (fun _ st=>∃z,(z.Perm x0∧aT pC z)∧st=stA (P++(z++S))):=by
 refine bV Tryz.func192 Tryz.ntmps192 fun x hx=>?_
 try refine nv ?_
 refine ag (ι:=Nat×List ByteArray) (I:=fun i=>⟨53,[(0, .c (.ms 46 1 0 len)),(1,I .i64 a),(2,I .i64 b),(3,uB),(8,I .i64 i.1)],stA (P++(i.2++(x0.drop (i.1-a)++S)))⟩)
  (Inv:=fun i=>a<i.1∧i.1≤b+1∧i.2.Perm (x0.take (i.1-a))∧aT pC i.2) (μ:=fun i=>b+1-i.1) (a+1,x0.take 1) ⟨by simp,by simp;omega,by simp,?_⟩ ?_ ?_
 ·cases x0 with
  |nil=>simp
  |cons e t=>simp
 ·have e9:P++(x0.take 1++(x0.drop (a+1-a)++S))=P++(x0++S):=by
   rw[Nat.add_sub_cancel_left,←List.append_assoc (x0.take 1),List.take_append_drop]
  rw[e9]
  generalize P++(x0++S)=l
  exact aW
 rintro⟨i,w⟩ ⟨h1,h2,h3,h4⟩
 simp only at h1 h2 h3 h4⊢
 try refine nv ?_
 refine af ?_ ?_
 rotate_left
 ·intro hge
  have hib:b≤i:=by have:¬i<b:=by simpa using hge
                   omega
  have e9:x0.drop (i-a)=[]:=List.drop_of_length_le (by omega)
  have e8:x0.take (i-a)=x0:=List.take_of_length_le (by omega)
  rw[e8] at h3
  rw[e9,List.nil_append]
  generalize hG:P++(w++S)=G
  try refine nv ?_
  refine rN ((stA G)) ?_
  exact⟨w,⟨h3,h4⟩,by rw[hG]⟩
 intro hlt
 have hlt':i<b:=by simpa using hlt
 have hix:i-a<x0.length:=by omega
 have lw:w.length=i-a:=by rw[h3.length_eq];simp;omega
 have ed:x0.drop (i-a)=x0.getD (i-a) noS::x0.drop (i+1-a):=by
  rw[List.drop_eq_getElem_cons hix,show i+1-a=i-a+1 by omega];simp[List.getD_eq_getElem?_getD,List.getElem?_eq_getElem hix]
 have et:x0.take (i+1-a)=x0.take (i-a)++[x0.getD (i-a) noS]:=by
  rw[show i+1-a=i-a+1 by omega,List.take_add_one,List.getElem?_eq_getElem hix];simp[List.getD_eq_getElem?_getD,List.getElem?_eq_getElem hix]
 have hex:x0=x0.take (i-a)++(x0.getD (i-a) noS::x0.drop (i+1-a)):=by rw[←ed,List.take_append_drop]
 have lS:(x0.drop (i+1-a)).length=b-(i+1):=by simp;omega
 generalize x0.getD (i-a) noS=e0 at ed et hex
 rw[ed]
 generalize hS1:x0.drop (i+1-a)++S=S1
 have lS1:S1.length+i+1=len:=by rw[←hS1];simp;omega
 have hVw:∀n,VS (P++(w.take n++e0::(w.drop n++S1))):=by
  intro n q hq
  refine hV q ?_
  have he0:e0∈x0:=by rw[hex];simp
  have hwm:∀q,q∈w→q∈x0:=fun q h=>List.mem_of_mem_take (h3.mem_iff.1 h)
  rw[←hS1] at hq
  simp only[List.mem_append,List.mem_cons] at hq⊢
  rcases hq with h|h|h|h|h|h
  ·exact .inl h
  ·exact .inr (.inl (hwm q (List.mem_of_mem_take h)))
  ·subst h;exact .inr (.inl he0)
  ·exact .inr (.inl (hwm q (List.mem_of_mem_drop h)))
  ·exact .inr (.inl (List.mem_of_mem_drop h))
  ·exact .inr (.inr h)
 rw[show P++(w++(e0::x0.drop (i+1-a)++S))=P++(w++e0::S1) from by rw[←hS1];rfl]
 generalize hl0:P++(w++e0::S1)=l0
 try refine nv ?_
 refine ag (ι:=Nat) (I:=fun j=>⟨53,[(0, .c (.ms 46 1 0 len)),(1,I .i64 a),(2,I .i64 b),(3,uB),(8,I .i64 i),(9,I .i64 (a+j:Nat))],stA (P++(w.take j++e0::(w.drop j++S1)))⟩)
  (Inv:=fun j=>j≤w.length∧∀k,j≤k→k<w.length→pC e0 (w.getD k noS)<0) (μ:=fun j=>j) w.length ⟨by omega,by omega⟩ ?_ ?_
 ·have e9:P++(w.take w.length++e0::(w.drop w.length++S1))=l0:=by rw[←hl0];simp
  have e8:a+w.length=i:=by omega
  rw[e9,e8]
  exact aW
 rintro j ⟨g1,g2⟩
 have hlt2:(P++(w.take j++e0::(w.drop j++S1))).length=len:=by simp only[List.length_append,List.length_cons,List.length_take,List.length_drop];omega
 have hj0:(((a+j:Nat):Int)).toNat=a+j:=by omega
 have hj1:(((a+j:Nat):Int)-1).toNat=a+j-1:=by omega
 have ge0:=acF (P:=P) (A:=w.take j) (B:=w.drop j++S1) (e0:=e0) (z:=noS) (i:=a+j) (by simp;omega)
 have hwl:=fun(hj:0<j)=>Um (P:=P) (x:=w) (S:=S1) (y0:=e0) (j:=j) (k:=a+j) hj g1 (by omega) noS
 have hv1:=(hVw j).get (i:=a+j) (by omega)
 have hv2:=(hVw j).get (i:=a+j-1) (by omega)
 rw[ge0] at hv1
 have hc1:=FN _ _ hv1 hv2
 generalize hT:P++(w.take j++e0::(w.drop j++S1))=t at hlt2 ge0 hwl hc1
 have e1:=pY encS t (a+j) noS (by omega)
 have e2:=pY encS t (a+j-1) noS (by omega)
 rw[ge0] at e1
 generalize hvv:t.getD (a+j-1) noS=v at e2 hc1 hwl
 refine aJ ?_
 refine dx ([(32,I .i64 (pC e0 v))]) (p4 @hj0 @hj1 @e1 @e2) ?_ ?_
 ·exact gI @hc1
 refine aJ ?_
 have hjd:decide ((a:Int)<((a+j:Nat):Int))=decide (0<j):=decide_eq_decide.2 (by omega)
 refine af ?_ ?_
 ·intro hc
  have hcc:0<j∧pC e0 v<0:=by
   by_cases h:0<j
   ·refine⟨h,?_⟩
    have:((a:Nat):Int)<((a+j:Nat):Int):=by omega
    simp[this] at hc
    exact hc.2
   ·have:¬((a:Nat):Int)<((a+j:Nat):Int):=by omega
    simp[this] at hc
    omega
  obtain⟨hj,hp⟩:=hcc
  obtain⟨_,w2,w3⟩:=hwl hj
  rw[←w2] at w3
  refine aJ ?_
  refine qx (wr:=false) ([]:List (Nat×AV)) (by kernel_rfl) (by simp only[kD,kk,Nat.reduceAdd,Nat.reduceLT,Nat.reduceEqDiff, ↓reduceIte,reduceCtorEq,hj0,hj1,e1,e2,yS,Az];first|done|rfl) (by first|exact trivial|(simp only[kO];omega)|(simp[All,dI];first|done|omega)|(simp+contextual [All,dI];first|done|grind)) (by kernel_rfl) ?_
  try refine nv ?_
  refine⟨j-1,⟨by omega,fun k k1 k2=>?_⟩,by omega,?_⟩
  ·by_cases e:k=j-1
   ·subst e;rw[←w2];exact hp
   ·exact g2 k (by omega) k2
  ·rw[←w3]
   have hcast:(a:Int)+(j:Int)-1=(a:Int)+((j-1:Nat):Int):=by omega
   exact tK @hcast
 ·intro hc
  have hno:∀k,k<j→¬pC e0 (w.getD k noS)<0:=by
   intro k hk
   have hj:0<j:=by omega
   obtain⟨_,w2,_⟩:=hwl hj
   have hp:¬pC e0 v<0:=by
    intro h
    have:((a:Nat):Int)<((a+j:Nat):Int):=by omega
    simp[this,h] at hc
    omega
   rw[w2] at hp
   exact iq.le_trans (jT iq h4 (j:=j-1) (by omega) (by omega)) hp
  obtain⟨z1,z2⟩:=KY iq (y0:=e0) (x1:=w.take j) (x2:=w.drop j) (by rw[List.take_append_drop];exact h4)
   (fun q hq=>by obtain⟨k,k1,k2,rfl⟩:=yE hq;exact hno k k1)
   (fun q hq=>by obtain⟨k,k1,k2,rfl⟩:=y7 hq;exact g2 k k1 k2)
  rw[List.take_append_drop] at z1
  try refine nv ?_
  refine⟨(i+1,w.take j++e0::w.drop j),⟨by simp;omega,by simp;omega,?_,z2⟩,by simp;omega,?_⟩
  ·simp only
   rw[et]
   exact z1.trans (List.Perm.append_right _ h3)
  ·simp only
   rw[show P++((w.take j++e0::w.drop j)++(x0.drop (i+1-a)++S))=t from by rw[←hT,hS1];simp]
   exact aW
end Go.Proofs.YtcpgicfphakdaaaGreatDoor
namespace Go.Proofs.YtcpgicfphakdaaaGreatDoor
open Go.Ab
theorem YY {is:List Nat} {i:Nat} (ho:is.Pairwise (· <·)) (hl:is[is.length-1]? =some i):∀x∈is,x≤i:=by
 intro x hx
 obtain⟨k,hk⟩:=List.getElem?_of_mem hx
 obtain⟨k1,k2⟩:=List.getElem?_eq_some_iff.1 hk
 obtain⟨z1,z2⟩:=List.getElem?_eq_some_iff.1 hl
 by_cases e:k=is.length-1
 ·subst e;omega
 ·have:=List.pairwise_iff_getElem.1 ho k (is.length-1) k1 z1 (by omega)
  omega
theorem upto_all {is:List Nat} {i:Nat} (ho:is.Pairwise (· <·)) (hl:is[is.length-1]? =some i):upto (is.map fun x:Nat=>(x:Int)) (i:Int)=is.map fun x:Nat=>(x:Int):=by
 rw[yG ho (List.mem_of_getElem? hl),List.filter_eq_self.2 fun x hx=>decide_eq_true (YY ho hl x hx)]
section
variable {d:bK} (hg:Good d.revs) (hN:d.revs.length≤512) {L:jv} {me:List (Int×List Int)} (hr:kY d d.revs.length L me) {i j:Nat} {v w:Rev} (hv:d.revs[i]? =some v) (v5:¬v.act=5) (hw:d.revs[j]? =some w) (w5:¬w.act=5) {is:List Nat} (hx:QF d L me (first d v) (L.fst.getD i 0) is) (hl:is[is.length-1]? =some i)
include hg hN hr hv v5 hw w5 hx hl
theorem UL:(l7 d (fileOf v) (fileOf w)).getD []=(is.filter fun e:Nat=>iU L (j:Int) (e:Int)).map fun e=>fileOf (atR d e):=by
 have h1:iE d (fileOf v).path (fileOf v).num=some v:=(nS hg).2 ⟨i,hv,rfl,v5⟩
 have h2:iE d (fileOf w).path (fileOf w).num=some w:=(nS hg).2 ⟨j,hw,rfl,w5⟩
 have h3:(l7 d (fileOf v) (fileOf w)).getD []=Jl d v (fileOf w):=by unfold l7;rw[h1,h2];rfl
 rw[h3,←ZJ hg hN hr hv hw v5 w5,Nu,Int.toNat_natCast,hx.me,Option.getD_some,upto_all hx.ord hl,List.filter_map,List.map_map]
 have hI:=hr.inv hg
 refine List.map_congr_left fun e _=>?_
 simp only[Function.comp,Int.toNat_natCast,hI.revs];rfl
theorem VA {e:Nat} (he:e∈is):iU L (j:Int) (e:Int)=true↔fileOf (atR d e)∈(l7 d (fileOf v) (fileOf w)).getD []:=by
 rw[UL hg hN hr hv v5 hw w5 hx hl,List.mem_map]
 constructor
 ·intro h;exact⟨e,List.mem_filter.2 ⟨he,h⟩,rfl⟩
 ·rintro⟨x,h1,h2⟩
  obtain⟨h1,h3⟩:=List.mem_filter.1 h1
  have:=cZ hg (jU (hx.lt x h1)) (jU (hx.lt e he)) h2
  subst this;exact h3
theorem XO:(l7 d (fileOf v) (fileOf w)).getD []=[]↔¬true∈is.map fun e:Nat=>iU L (j:Int) (e:Int):=by
 rw[UL hg hN hr hv v5 hw w5 hx hl,List.map_eq_nil_iff,List.filter_eq_nil_iff]
 simp
end
end Go.Proofs.YtcpgicfphakdaaaGreatDoor
namespace Go.Proofs.YtcpgicfphakdaaaGreatDoor
open Go.Ab Tys
variable [Dr]
structure SV where
 og:Bool
 car:List bP
 con:List bP
 cre:List bP
@[reducible] def Gf (x:SV):Bool×List D:=(true,[.v (.bool x.og), .pm (dn kF x.car), .pm (dn kF x.con), .pm (dn kF x.cre)])
theorem Gi (A:List (bP×SV)) (p:ByteArray) (n:Int):(fP [C.d (.v (.string p)),C.d (.v (.int .i64 n))] ((bJ kF Gf A).map fA)).getD (true,[C.d (.v (.bool false)),C.d (.v (.map none)),C.d (.v (.map none)),C.d (.v (.map none))])=
 (true,[C.d (.v (.bool (((aB A ⟨p,n⟩).map SV.og).getD false))),C.d (Aa kF ((aB A ⟨p,n⟩).map SV.car)),C.d (Aa kF ((aB A ⟨p,n⟩).map SV.con)),C.d (Aa kF ((aB A ⟨p,n⟩).map SV.cre))]):=by
 have:=pg (ve:=Gf) xW A ⟨p,n⟩
 rw[show((kF ⟨p,n⟩).2.map C.d)=[C.d (.v (.string p)),C.d (.v (.int .i64 n))] from rfl] at this
 rw[this]
 cases aB A ⟨p,n⟩<;>rfl
theorem KU (A:List (bP×SV)):∀e∈(bJ kF Gf A).map fA,e.1.1=true∧dm [.str, .int .i64] e.1.2:=by
 intro e he
 simp only[bJ,List.mem_map] at he
 obtain⟨_,⟨f,_,rfl⟩,rfl⟩:=he
 exact⟨rfl,by simp[fA,kC,dm]⟩
theorem Y4 (A:List (bP×SV)) (p:ByteArray) (n:Int) (og:Bool) (c m r:List bP):dS (true,[C.d (.v (.string p)),C.d (.v (.int .i64 n))]) (true,[C.d (.v (.bool og)),C.d (.pm (dn kF c)),C.d (.pm (dn kF m)),C.d (.pm (dn kF r))]) ((bJ kF Gf A).map fA)=(bJ kF Gf (jg A ⟨p,n⟩ ⟨og,c,m,r⟩)).map fA:=
 CB (ve:=Gf) xW A ⟨p,n⟩ ⟨og,c,m,r⟩
structure IC (A:List (bP×SV)) (S:bP→SS):Prop where
 car:∀f g,(S f).car g↔g∈((aB A f).map SV.car).getD []
 con:∀f g,(S f).con g↔g∈((aB A f).map SV.con).getD []
 cre:∀f g,(S f).cre g↔g∈((aB A f).map SV.cre).getD []
def Me (d:bK) (k:Nat) (A:List (bP×SV)):Prop:=∀(j:Nat) (w:Rev),j<k→d.revs[j]? =some w→¬w.act=5→∃x,aB A (fileOf w)=some x
theorem Me.away {d:bK} {k:Nat} {A:List (bP×SV)} (h:Me d k A) {v:Rev} (hv:d.revs[k]? =some v) (h5:v.act=5):Me d (k+1) A:=by
 intro j w hj hw w5
 by_cases e:j=k
 ·subst e;rw[hv] at hw;cases hw;exact absurd h5 w5
 ·exact h j w (by omega) hw w5
theorem Me.RI {d:bK} {k:Nat} {A:List (bP×SV)} (h:Me d k A) {v:Rev} (hv:d.revs[k]? =some v) (x:SV):Me d (k+1) (jg A (fileOf v) x):=by
 intro j w hj hw w5
 rw[jh]
 by_cases e:fileOf w=fileOf v
 ·exact⟨x,if_pos e⟩
 ·rw[if_neg e]
  have:j≠k:=by rintro rfl;rw[hv] at hw;cases hw;exact e rfl
  exact h j w (by omega) hw w5
def S9 (rs:List jk):Prop:=∀r∈rs,1≤r.first∧r.first≤r.last∧r.last≤512∧1≤r.how∧r.how≤4
theorem zF (d:bK):∀(k:Nat) (f g:bP),(dw d k f).car g∨(dw d k f).con g∨(dw d k f).cre g→∃(j:Nat) (w:Rev),j<k∧d.revs[j]? =some w∧fileOf w=f
 |0,f,g,h=>by simp[dw,SS0] at h
 |k+1,f,g,h=>by
  simp only[dw] at h
  cases hv:d.revs[k]? with
  |none=>rw[hv] at h;obtain⟨j,w,h1,h2⟩:=zF d k f g h;exact⟨j,w,by omega,h2⟩
  |some v=>
   rw[hv] at h
   simp only at h
   by_cases h5:v.act=5
   ·rw[if_pos h5] at h;obtain⟨j,w,h1,h2⟩:=zF d k f g h;exact⟨j,w,by omega,h2⟩
   ·rw[if_neg h5] at h
    by_cases e:f=fileOf v
    ·exact⟨k,v,by omega,hv,e.symm⟩
    ·simp only[if_neg e] at h
     obtain⟨j,w,h1,h2⟩:=zF d k f g h;exact⟨j,w,by omega,h2⟩
theorem Wp {d:bK} (hg:Good d.revs) (hN:d.revs.length≤512) {k:Nat} {v u:Rev} (hv:d.revs[k]? =some v) (h:jQ d v=some u):fileOf u=bW v:=by
 by_cases h1:v.act=1
 ·rw[kH h1] at h;cases h
 ·rw[zy hg hN hv h1] at h
  obtain⟨j,_,h2⟩:=(iY hg).1 h
  exact h2
theorem Xc {d:bK} (hg:Good d.revs) (hN:d.revs.length≤512) {k:Nat} {v:Rev} (hv:d.revs[k]? =some v) (h:jQ d v=none) (g:bP):¬((dw d k (bW v)).car g∨(dw d k (bW v)).con g∨(dw d k (bW v)).cre g):=by
 intro hc
 obtain⟨j,w,h1,h2,h3⟩:=zF d k _ g hc
 by_cases h1':v.act=1
 ·exact UR hg h2 (by rw[h3];simp[bW,h1'])
 ·rw[zy hg hN hv h1'] at h
  have:=(iY hg (p:=(bW v).path) (n:=(bW v).num)).2 ⟨j,h2,h3⟩
  rw[h] at this;cases this
structure GM (S:bP→SS) (b:bP) (rs:List jk) (og:Bool) (n:Int) (c r:List bP):Prop where
 car:∀g,g∈c↔(S b).car g∨∃r∈rs,(r.how=1∧(S ⟨r.frm,r.last⟩).car g)∨(¬r.how=1∧¬r.how=3∧∃n,r.first≤n∧n≤r.last∧(S ⟨r.frm,n⟩).con g)
 cre:∀g,g∈r↔(S b).cre g∨∃r∈rs,r.how=3∧∃n,r.first≤n∧n≤r.last∧(S ⟨r.frm,n⟩).con g
 og:og=true↔rs=[]∨∃r∈rs,r.how=4
 n0:0≤n
 nz:n=0↔rs=[]
 nb:n≤2+rs.length
@[reducible] def WT (o:Option SV):AO:= .box [.d (.v (.bool ((o.map SV.og).getD false))), .d (Aa kF (o.map SV.car)), .d (Aa kF (o.map SV.con)), .d (Aa kF (o.map SV.cre))]
theorem GM.step {S:bP→SS} {b:bP} {rs:List jk} {og:Bool} {n:Int} {c r1 c1 c2 r2:List bP} (h:GM S b rs og n c r1) (q:jk) (h4:1≤q.how∧q.how≤4)
 (hc1:∀g,g∈c1↔g∈c∨(q.how=1∧(S ⟨q.frm,q.last⟩).car g)) (hc2:∀g,g∈c2↔g∈c1∨((q.how=2∨q.how=4)∧∃m,q.first≤m∧m<q.last+1∧(S ⟨q.frm,m⟩).con g))
 (hr2:∀g,g∈r2↔g∈r1∨(q.how=3∧∃m,q.first≤m∧m<q.last+1∧(S ⟨q.frm,m⟩).con g)):
 GM S b (rs++[q]) (bif decide (q.how=4) then true else(bif decide (n+1=1) then false else og)) (bif decide (q.how=4) then 2 else n+1) c2 r2:=by
 have ex:∀g,(∃m,q.first≤m∧m<q.last+1∧(S ⟨q.frm,m⟩).con g)↔∃m,q.first≤m∧m≤q.last∧(S ⟨q.frm,m⟩).con g:=fun g=>
  ⟨fun⟨m,a1,a2,a3⟩=>⟨m,a1,by omega,a3⟩,fun⟨m,a1,a2,a3⟩=>⟨m,a1,by omega,a3⟩⟩
 have hn0:=h.n0
 have hnz:=h.nz
 have hnb:=h.nb
 refine⟨fun g=>?_,fun g=>?_,?_,?_,?_,?_⟩
 ·have:(q.how=2∨q.how=4)↔(¬q.how=1∧¬q.how=3):=by omega
  rw[hc2 g,hc1 g,h.car g,ex g,this]
  simp only[List.mem_append,List.mem_singleton,or_and_right,exists_or,exists_eq_left,or_assoc,and_assoc]
 ·rw[hr2 g,h.cre g,ex g]
  simp only[List.mem_append,List.mem_singleton,or_and_right,exists_or,exists_eq_left,or_assoc]
 ·by_cases q4:q.how=4
  ·simp[q4]
  ·rw[decide_eq_false q4]
   simp only[cond_false,List.append_eq_nil_iff,List.cons_ne_nil,and_false,false_or,List.mem_append,List.mem_singleton,or_and_right,exists_or,exists_eq_left,q4,or_false]
   by_cases e:n=0
   ·have hr:=hnz.1 e
    subst hr
    rw[e];simp
   ·rw[decide_eq_false (by omega:¬n+1=1)]
    simp only[cond_false,h.og]
    have:¬rs=[]:=fun hr=>e (hnz.2 hr)
    simp[this]
 ·by_cases q4:q.how=4
  ·simp[q4]
  ·rw[decide_eq_false q4];simp only[cond_false];omega
 ·by_cases q4:q.how=4
  ·simp[q4]
  ·rw[decide_eq_false q4];simp only[cond_false,List.append_eq_nil_iff,List.cons_ne_nil,and_false,iff_false];omega
 ·by_cases q4:q.how=4
  ·simp[q4];omega
  ·rw[decide_eq_false q4];simp only[cond_false,List.length_append,List.length_singleton];omega
theorem U8 {P:Prop} {p:Prop} {Q:Int→Prop} {a m:Int} (ham:a≤m):((p∨(P∧∃i,a≤i∧i<m∧Q i))∨(P∧Q m))↔(p∨(P∧∃i,a≤i∧i<m+1∧Q i)):=by
 constructor
 ·rintro((h|⟨h,i,h1,h2,h3⟩)|⟨h,h3⟩)
  ·exact .inl h
  ·exact .inr ⟨h,i,h1,by omega,h3⟩
  ·exact .inr ⟨h,m,ham,by omega,h3⟩
 ·rintro(h|⟨h,i,h1,h2,h3⟩)
  ·exact .inl (.inl h)
  ·by_cases e:i=m
   ·subst e;exact .inr ⟨h,h3⟩
   ·exact .inl (.inr ⟨h,i,h1,by omega,h3⟩)
@[reducible] def Xd (d:bK) (k j:Nat) (n:Int):List (Nat×AV):=[(1, .c (.ptr 1 0)),(3, .c (.mp 17)),(5, .c (.ptr 5 0)),(6, .c (.ptr 6 0)),(7, .c (.ptr 7 0)),(8,I .i64 n),(9, .c (.ptr 9 0)),(13, .c (.ptr 13 0)),(19,ja d.revs),(20,I .i64 d.revs.length),(21,I .i64 k),(62, .c (.d (.ps 6 (d.recs.map bg)))),(63,I .i64 d.recs.length),(64,I .i64 j)]
@[reducible] def stR (d:bK) (A:List (bP×SV)) (v:Rev) (o:Option SV) (rr:jk) (og:Bool) (c r:List bP):List (Nat×AO):=
 [(1, .box ((fD d).map C.d)),(17, .map ((bJ kF Gf A).map fA)),(5, .box ((ax v).map C.d)),(6, .box ((fJ (fileOf v)).map C.d)),(33,lI kF c),(34,lI kF []),(35,lI kF r),(7, .box [.d (.v (.bool og)), .mp 33, .mp 34, .mp 35]),(9,WT o),(13, .box ((bg rr).map C.d))]
theorem IC.step {A:List (bP×SV)} {d:bK} {k:Nat} (h:IC A (dw d k)) {v:Rev} (hv:d.revs[k]? =some v) (h5:¬v.act=5) (x:SV) (hc:∀g,g∈x.car↔BL (jE d (fileOf v)) (dw d k) (bW v) (fileOf v) g)
 (hn:∀g,g∈x.con↔g∈x.car∧¬(dw d k (bW v)).car g) (hr:∀g,g∈x.cre↔((dw d k (bW v)).cre g∨∃r∈jE d (fileOf v),r.how=3∧∃n,r.first≤n∧n≤r.last∧(dw d k ⟨r.frm,n⟩).con g)∨g∈x.car):
 IC (jg A (fileOf v) x) (dw d (k+1)):=by
 have hs:dw d (k+1)=fun f=>if f=fileOf v then stepS (jE d (fileOf v)) (dw d k) v else dw d k f:=by simp only[dw,hv,h5,if_false]
 rw[hs]
 refine⟨fun f g=>?_,fun f g=>?_,fun f g=>?_⟩<;>rw[jh]<;>by_cases e:f=fileOf v
 ·simp only[if_pos e,stepS];exact(hc g).symm
 ·simp only[if_neg e];exact h.car f g
 ·simp only[if_pos e,stepS];rw[←hc g];exact(hn g).symm
 ·simp only[if_neg e];exact h.con f g
 ·simp only[if_pos e,stepS];rw[←hc g,←or_assoc];exact(hr g).symm
 ·simp only[if_neg e];exact h.cre f g
def opA (A:List (bP×SV)) (t:bP) (v u:Rev):Bool:=bif decide (u.chg≤v.chg) then !Et (((aB A (fileOf u)).map SV.con).getD []) (((aB A t).map SV.cre).getD []) else false
def Ac (A:List (bP×SV)) (t:bP) (v:Rev) (l:List Rev):List bP:=(l.filter (opA A t v)).map fileOf
theorem Ym (A:List (bP×SV)) (t:bP) (v:Rev) (l:List Rev):(Ac A t v l).length≤l.length:=by simp only[Ac,List.length_map];exact List.length_filter_le ..
theorem aau {d:bK} {A:List (bP×SV)} (hA:IC A (SA d)) (t:bP) (v:Rev):Ac A t v (line d (first d v))=Jl d v t:=by
 rw[Ac,line,Jl,List.filter_filter]
 congr 1
 apply List.filter_congr
 intro u hu
 rw[Bool.eq_iff_iff]
 simp only[Bool.and_eq_true,lU,opA,decide_eq_true_eq,Bool.not_eq_true',decide_eq_false_iff_not]
 have hs:Et (((aB A (fileOf u)).map SV.con).getD []) (((aB A t).map SV.cre).getD [])=true↔∀g,(SA d (fileOf u)).con g→(SA d t).cre g:=by
  simp only[Et,List.all_eq_true,decide_eq_true_eq]
  exact⟨fun h g hg=>(hA.cre t g).2 (h g ((hA.con _ g).1 hg)),fun h g hg=>(hA.cre t g).1 (h g ((hA.con _ g).2 hg))⟩
 by_cases hc:u.chg≤v.chg
 ·rw[decide_eq_true hc]
  simp only[cond_true,Bool.not_eq_true',Open]
  rw[←hs]
  constructor
  ·rintro⟨h1,h2,h3⟩;exact⟨h2,h3,hc,by simp[h1]⟩
  ·rintro⟨h1,h2,_,h3⟩;exact⟨by simpa using h3,h1,h2⟩
 ·rw[decide_eq_false hc]
  simp[hc]
theorem YK {d:bK} {f:bP} {u:Rev} (h:u∈line d f):u∈d.revs∧¬u.act=5:=by
 obtain⟨h1,h2⟩:=List.mem_filter.1 h
 refine⟨h1,?_⟩
 simp[lU] at h2
 exact h2.1
theorem kQ.rc {l:List o6} {d:bK} (h:kQ l d):S9 d.recs:=by
 induction h with
 |nil=>intro r hr;simp[Jp] at hr
 |skip c h ih=>exact ih
 | @app l d c h hc hk ih=>
   refine KA fun r hr=>?_
   rcases List.mem_append.1 hr with hr|hr
   ·exact ih r hr
   ·obtain⟨i,hi,e⟩:=List.mem_iff_getElem.1 hr
    have h0:=hk.recd i hi
    rw[show c.recs.getD i mr=r by simp[List.getD,hi,e]] at h0
    have h1:=h0.okHi
    have h2:(log d r.frm).length≤d.revs.length:=List.length_filter_le ..
    have h3:=h.ok.1
    exact⟨h0.okLo,h0.okLe,by omega,h0.okHow.1,h0.okHow.2⟩
end Go.Proofs.YtcpgicfphakdaaaGreatDoor
