/- A part of the proof. -/
import Derived.Test.YtcpgicfphakdaaaGreatDoorRL1
import Derived.Test.YtcpgicfphakdaaaGreatDoorRX10
set_option maxRecDepth 100000
set_option maxHeartbeats 8000000
set_option linter.all false
namespace Go.Proofs.YtcpgicfphakdaaaGreatDoor
open Go.Ab Tys
variable [yF]
def IJ (s p:ByteArray):ByteArray×Bool:=if hasPrefix s p then(s.extract p.size s.size,true) else(s,false)
def adz.kk:=p6 kB kS Tryz.ntmps271 Tryz.underlying9 kC Tryz.results271
open adz in
theorem OE (s p:ByteArray) (hs:s.size≤1000000):AC Tryz.prog 271 [Str s,Str p] [] (fun r st=>r= .tup [pS (IJ s p).1,pB (IJ s p).2]∧st=[]):=by
 have hp:=wR s p
 refine dA Tryz.func271 Tryz.ntmps271 fun x hx=>?_
 (repeat (first|refine nv ?_|refine cf (hp) ?_))
 refine aj ?_ ?_
 ·intro h
  have h':hasPrefix s p=false:=by simpa using h
  try refine nv ?_
  refine rA [] ?_
  refine⟨?_,rfl⟩
  simp only[IJ,h',if_false,Bool.false_eq_true]
 intro h
 have h':hasPrefix s p=true:=by simpa using h
 have hl:p.size≤s.size:=by simp only[hasPrefix,Bool.and_eq_true,decide_eq_true_eq] at h';exact h'.1
 try refine nv ?_
 refine rA [] ?_
 refine⟨?_,rfl⟩
 simp only[IJ,h',if_true]
def aem.kk:=p3 kB Tryz.ntmps259 Tryz.results259
open aem in
theorem U6 (s p:ByteArray) (hs:s.size≤1000000):AC Tryz.prog 259 [Str s,Str p] [] (fun r st=>r= .tup [pS (IJ s p).1,pB (IJ s p).2]∧st=[]):=by
 refine dA Tryz.func259 Tryz.ntmps259 fun x hx=>?_
 (repeat (first|refine nv ?_|refine cf (OE s p hs) ?_))
 refine rA [] ?_
 refine⟨?_,rfl⟩
 rfl
def ad1.kk:=p7 kB Tryz.ntmps242 Tryz.underlying74 iC pX kC Tryz.results242
open ad1 in
theorem IL (p:ByteArray) (hs:p.size≤1000000):AC Tryz.prog 242 [Str p,I .i64 2] [] (fun r st=>r= .tup [iJ (aJ p),pB (aJ p).isSome]∧st=[]):=by
 have hcu:=U6 p dV hs
 have hP:aJ p=match iT p with|some l=>if l.length<2 then none else some l|none=>none:=rfl
 have hPa:iT p=if hasPrefix p dV then(if(split (p.extract 2 p.size)).all comp then some (split (p.extract 2 p.size)) else none) else none:=rfl
 rw[hPa] at hP
 generalize aJ p=M at hP
 cases h':hasPrefix p dV with
 |false=>
  rw[h'] at hP
  simp only[Bool.false_eq_true,if_false] at hP
  have hc2:IJ p dV=(p,false):=by simp only[IJ,h',Bool.false_eq_true,if_false]
  rw[hc2] at hcu
  refine dA Tryz.func242 Tryz.ntmps242 fun x hx=>?_
  (repeat (first|refine nv ?_|refine cf (hcu) ?_))
  refine aj ?_ ?_
  rotate_left
  ·intro h;cases h
  intro _
  try refine nv ?_
  refine rA [] ?_
  refine⟨?_,rfl⟩
  rw[hP];rfl
 |true=>
 rw[h'] at hP
 simp only[if_true] at hP
 have hc2:IJ p dV=(p.extract 2 p.size,true):=by simp only[IJ,h',if_true];rfl
 rw[hc2] at hcu
 have hsz:2≤p.size:=by simp only[hasPrefix,Bool.and_eq_true,decide_eq_true_eq] at h';exact h'.1
 have hL:=sJ (p.extract 2 p.size)
 have hL2:(p.extract 2 p.size).size≤p.size:=by simp
 have hsp:=GZ (p.extract 2 p.size) (by omega)
 have hzz:∀v∈split (p.extract 2 p.size),v.size≤1000000:=by
  intro v hv
  have:=oQ _ _ v hv
  omega
 generalize split (p.extract 2 p.size)=l at hP hL hsp hzz
 have hl1:l.length≤1000001:=by omega
 refine dA Tryz.func242 Tryz.ntmps242 fun x hx=>?_
 (repeat (first|refine nv ?_|refine cf (hcu) ?_))
 refine aj ?_ ?_
 ·intro h;cases h
 intro _
 (repeat (first|refine nv ?_|refine cf (hsp) ?_))
 have e2:decide ((l.length:Int)<2)=decide (l.length<2):=decide_eq_decide.2 (by omega)
 refine aj ?_ ?_
 ·intro h
  rw[e2] at h
  have hlt:l.length<2:=of_decide_eq_true h
  have hR:M=none:=by
   rw[hP]
   split
   ·rename_i l' hl'
    split at hl'
    ·cases hl';rw[if_pos hlt]
    ·cases hl'
   ·rfl
  try refine nv ?_
  refine rA [] ?_
  refine⟨?_,rfl⟩
  rw[hR];rfl
 intro h
 rw[e2] at h
 have hge:¬l.length<2:=of_decide_eq_false h
 try refine nv ?_
 refine ax (ι:=Nat) (I:=fun k=>⟨35,[(8,iy l),(24,iy l),(25,I .i64 l.length),(26,I .i64 k)],[]⟩)
  (Inv:=fun k=>k≤l.length∧(l.take k).all comp=true) (μ:=fun k=>l.length-k) 0 ⟨by omega,by simp⟩ ?_ ?_
 ·exact cO
 rintro k ⟨hk,hall⟩
 try refine nv ?_
 refine aj ?_ ?_
 ·intro hlt
  have hlt':k<l.length:=by simpa using hlt
  obtain⟨v,hv,he,htk⟩:=round encS l k noS hlt'
  have hcm:=nC v (hzz v (List.mem_of_getElem? hv))
  (repeat (first|refine nx @he ?_|refine cf (hcm) ?_))
  refine aj ?_ ?_
  ·intro hc
   have hc':comp v=false:=by simpa using hc
   have hR:M=none:=by
    rw[hP,if_neg]
    intro e
    rw[List.all_eq_true] at e;rw[e v (List.mem_of_getElem? hv)] at hc';cases hc'
   try refine nv ?_
   refine rA [] ?_
   refine⟨?_,rfl⟩
   rw[hR];rfl
  ·intro hc
   have hc':comp v=true:=by simpa using hc
   try refine nv ?_
   refine⟨k+1,⟨by omega,?_⟩,by omega,?_⟩
   ·rw[htk,List.all_append,hall];simp[hc']
   ·exact cO
 intro hge2
 have hk':k=l.length:=by have:¬k<l.length:=by simpa using hge2
                         omega
 rw[hk',List.take_length] at hall
 rw[if_pos hall] at hP
 simp only[if_neg hge] at hP
 try refine nv ?_
 refine rA [] ?_
 refine⟨?_,rfl⟩
 rw[hP];rfl
def z198.kk:=p3 kB Tryz.ntmps198 Tryz.results198
open z198 in
theorem Vj (p:ByteArray) (hs:p.size≤1000000):AC Tryz.prog 198 [Str p] [] (fun r st=>r= .tup [iJ (aJ p),pI (if(aJ p).isSome then 0 else 20)]∧st=[]):=by
 have h:=IL p hs
 cases hp:aJ p with
 |none=>
  rw[hp] at h
  simp only[iJ,pB,Option.isSome] at h
  refine dA Tryz.func198 Tryz.ntmps198 fun x hx=>?_
  (repeat (first|refine nv ?_|refine cf (h) ?_))
  refine aj ?_ ?_
  rotate_left
  ·intro h;cases h
  intro _
  try refine nv ?_
  refine rA [] ?_
  refine⟨?_,rfl⟩
  rfl
 |some l=>
  rw[hp] at h
  simp only[iJ,pB,Option.isSome] at h
  refine dA Tryz.func198 Tryz.ntmps198 fun x hx=>?_
  (repeat (first|refine nv ?_|refine cf (h) ?_))
  refine aj ?_ ?_
  ·intro h;cases h
  intro _
  try refine nv ?_
  refine rA [] ?_
  refine⟨?_,rfl⟩
  rfl
def z141.kk:=p3 kB Tryz.ntmps141 Tryz.results141
open z141 in
theorem RU (p:ByteArray) (hs:p.size≤1000000):AC Tryz.prog 141 [Str p] [] (fun r st=>r= .tup [iJ (aJ p),pB (aJ p).isSome]∧st=[]):=by
 have h:=Vj p hs
 cases hp:aJ p with
 |none=>
  rw[hp] at h
  simp only[iJ,Option.isSome,Bool.false_eq_true,if_false] at h
  refine dA Tryz.func141 Tryz.ntmps141 fun x hx=>?_
  (repeat (first|refine nv ?_|refine cf (h) ?_))
  refine rA [] ?_
  refine⟨?_,rfl⟩
  rfl
 |some l=>
  rw[hp] at h
  simp only[iJ,Option.isSome,if_true] at h
  refine dA Tryz.func141 Tryz.ntmps141 fun x hx=>?_
  (repeat (first|refine nv ?_|refine cf (h) ?_))
  refine rA [] ?_
  refine⟨?_,rfl⟩
  rfl
end Go.Proofs.YtcpgicfphakdaaaGreatDoor
namespace Go.Proofs.YtcpgicfphakdaaaGreatDoor
open Go.Ab Tys
variable [yF]
theorem QY {p:bH} {l:List ByteArray} (hok:gz p=true):(bif decide ((l.length:Int)<p.parts.length) then true else !(decide ((p.parts.length:Int)<l.length)==p.rest))=!xy p l:=by
 unfold xy
 rw[hok,show decide ((l.length:Int)<p.parts.length)=decide (l.length<p.parts.length) from decide_eq_decide.2 (by omega),show decide ((p.parts.length:Int)<l.length)=decide (p.parts.length<l.length) from decide_eq_decide.2 (by omega)]
 by_cases h1:l.length<p.parts.length
 ·simp[h1]
 ·by_cases h2:p.parts.length<l.length
  ·have h3:¬l.length=p.parts.length:=by omega
   cases p.rest<;>simp[h1,h2,h3]
  ·have h3:l.length=p.parts.length:=by omega
   cases p.rest<;>simp[h3]
theorem Vk {s:ByteArray} {l:List ByteArray} (h:aJ s=some l):l.all comp=true:=by
 unfold aJ at h
 split at h
 ·rename_i l' hp
  split at h
  ·cases h
  ·cases h
   unfold iT at hp
   split at hp
   ·split at hp
    ·rename_i h2;cases hp;exact h2
    ·cases hp
   ·cases hp
 ·cases h
def z73.kk:=p15 kB kG kS Tryz.ntmps73 Tryz.underlying4 Tryz.underlying74 gG iC jR pV MH pX lI kC Tryz.results73
open z73 in
theorem JO (p:bH) (hp:PB 1000000 p) (s:ByteArray) (hs:s.size≤1000000):AC Tryz.prog 73 [aPat p,Str s] [] (fun r st=>r= .tup [iJ (eP p s),pB (eP p s).isSome]∧st=[]):=by
 have hv:=RU s hs
 have hck:=jP p hp
 have hmp:eP p s=match aJ s with|none=>none|some l=>if xy p l&&sG p.parts l p.parts.length then some (iR p.parts l p.parts.length++(if p.rest then [dL (l.drop p.parts.length) slash] else [])) else none:=rfl
 have hfo:∀l,gz p=false→xy p l=false:=fun l h=>by simp[xy,h]
 have hfc:=fun l=>QY (p:=p) (l:=l)
 have hpo:=dE (p:=p)
 have hpl:=aaC (p:=p)
 have hle:∀l,xy p l=true→p.parts.length≤l.length:=fun l h=>by
  simp only[xy,Bool.and_eq_true,Bool.not_eq_true',Bool.or_eq_false_iff,decide_eq_false_iff_not] at h
  omega
 have hok:gz p=decide (bV p=0):=rfl
 generalize eP p s=M at hmp
 generalize bV p=ck at hck hok
 obtain⟨ps,rs⟩:=p
 have h1:=hp.1
 simp only at h1 hmp hfc hpl hle
 cases hl:aJ s with
 |none=>
  rw[hl] at hv hmp
  simp only[iJ,pB,Option.isSome] at hv
  simp only at hmp
  subst hmp
  refine dA Tryz.func73 Tryz.ntmps73 fun x hx=>?_
  (repeat (first|refine nv ?_|refine cf (hv) ?_))
  refine so ([(23,I .i64 ck)]) ?_ ?_
  ·exact iw @hck
  try refine nv ?_
  refine aj ?_ ?_
  rotate_left
  ·intro h;simp at h
  intro _
  try refine nv ?_
  refine rA [] ?_
  refine⟨?_,rfl⟩
  rfl
 |some l=>
  rw[hl] at hv hmp
  simp only[iJ,pB,Option.isSome] at hv
  simp only at hmp
  have hls:=Ue hl
  have hcm:=Vk hl
  have hpl2:=XU hl
  have hfo:=hfo l
  have hfc:=hfc l
  have hle:=hle l
  generalize xy ⟨ps,rs⟩ l=ft at hmp hfo hfc hle
  refine dA Tryz.func73 Tryz.ntmps73 fun x hx=>?_
  (repeat (first|refine nv ?_|refine cf (hv) ?_))
  refine so ([(23,I .i64 ck)]) ?_ ?_
  ·exact iw @hck
  try refine nv ?_
  refine aj ?_ ?_
  ·intro h
   have h':¬ck=0:=by simpa using h
   rw[hfo (by rw[hok];simp[h']),Bool.false_and] at hmp
   try refine nv ?_
   refine rA [] ?_
   refine⟨?_,rfl⟩
   rw[hmp];rfl
  intro h
  have h':ck=0:=by simpa using h
  have hok1:gz ⟨ps,rs⟩=true:=by rw[hok,h'];rfl
  have hfc:=hfc hok1
  have hpo:=hpo hok1
  have hpl:=hpl hok1
  simp only[dC] at hpo
  try refine nv ?_
  refine aj ?_ ?_
  ·intro hc
   rw[hfc] at hc
   have hf:ft=false:=by simpa using hc
   rw[hf,Bool.false_and] at hmp
   try refine nv ?_
   refine rA [] ?_
   refine⟨?_,rfl⟩
   rw[hmp];rfl
  intro hc
  rw[hfc] at hc
  have hf:ft=true:=by simpa using hc
  rw[hf,Bool.true_and] at hmp
  have hlen:=hle hf
  refine bC ?_
  refine gg ?_
  refine bC ?_
  refine bz (jM (i:=9) (id:=100) (sz:=1) rfl rfl (by omega)) ?_
  refine dZ ?_
  try refine nv ?_
  refine ax (ι:=Nat) (I:=fun k=>⟨78,[(2, .c (.ptr 2 0)),(6,iy l),(8,I .i64 ps.length),(9, .c (.ms 100 1 0 (iR ps l k).length)),(43,iy ps),(44,I .i64 ps.length),(45,I .i64 k)],
   [(2, .box ((bF ⟨ps,rs⟩).map C.d)),(100,aK 1 ((iR ps l k).map encS))]⟩)
   (Inv:=fun k=>k≤ps.length∧sG ps l k=true) (μ:=fun k=>ps.length-k) 0 ⟨by omega,rfl⟩ ?_ ?_
  ·(refine bI (fun i=>i) rfl ?_ ⟨?_,?_,?_,di hx (by simp[ae,Ab.get])⟩<;>first|(simp only[kE,aK, ↓reduceIte,Nat.reduceEqDiff,reduceCtorEq,iR];done)|simp[aW,aA,ag,Ab.get,aH,cu,aB,bD,aS,aQ,aU,aP,aT,ae,List.flatten,iR])
  rintro k ⟨hk,hall⟩
  have hcl:=Dc ps l k
  try refine nv ?_
  refine aj ?_ ?_
  ·intro hlt
   have hlt':k<ps.length:=by simpa using hlt
   obtain⟨v,hv,he,_⟩:=round encS ps k noS hlt'
   obtain⟨u,hu,he2,_⟩:=round encS l k noS (by omega)
   have ev:=getD_some (z:=noS) hv
   have eu:=getD_some (z:=noS) hu
   have hvs:v.size≤1000000:=hp.2 v (List.mem_of_getElem? hv)
   have hus:u.size≤1000000:=by rw[←eu];exact Nat.le_trans (hls k) hs
   have huc:comp u=true:=List.all_eq_true.1 hcm u (List.mem_of_getElem? hu)
   have hvp:eH v=true:=by rw[←ev];exact hpo k hlt'
   have hma:=BM v u hvs hus hvp
   have hmc:=NR (a:=v) huc
   have his:=lN v
   rw[oK hvp] at his
   generalize mpP v u=mm at hma hmc
   obtain⟨m1,m2⟩:=mm
   simp only at hma hmc
   (repeat (first|refine nx (p2 @he @he2) ?_|refine cf (hma) ?_))
   refine aj ?_ ?_
   ·intro hb
    have hb':(qw v u).2=false:=by rw[←hmc.1];simpa using hb
    rw[Wi hlt' (by rw[ev,eu];exact hb')] at hmp
    try refine nv ?_
    refine rA [] ?_
    refine⟨?_,rfl⟩
    rw[hmp];rfl
   intro hb
   have hb':(qw v u).2=true:=by rw[←hmc.1];simpa using hb
   have hm1:=hmc.2 hb'
   subst hm1
   (repeat (first|refine nv ?_|refine cf (his) ?_))
   refine aj ?_ ?_
   ·intro hst
    try refine nv ?_
    refine⟨k+1,⟨by omega,by rw[Dw,hall,ev,eu,hb'];rfl⟩,by omega,?_⟩
    have e:iR ps l (k+1)=iR ps l k++[(qw v u).1]:=by simp only[iR,ev,eu,hst,if_true]
    rw[e]
    exact Af (fun i=>if i=100 then 66 else i)
   ·intro hst
    try refine nv ?_
    refine⟨k+1,⟨by omega,by rw[Dw,hall,ev,eu,hb'];rfl⟩,by omega,?_⟩
    have e:iR ps l (k+1)=iR ps l k:=by simp only[iR,ev,hst,if_false,Bool.false_eq_true,List.append_nil]
    rw[e]
    exact cO
  intro hge
  have hk':k=ps.length:=by have:¬k<ps.length:=by simpa using hge
                           omega
  subst hk'
  rw[if_pos hall] at hmp
  try refine nv ?_
  refine aj ?_ ?_
  ·intro hr
   subst hr
   have hdl:(l.drop ps.length).length≤1000000:=by
    rw[List.length_drop]
    omega
   have hds:∀v∈l.drop ps.length,v.size≤1000000:=by
    intro v hv
    obtain⟨i,hi⟩:=List.getElem?_of_mem (List.mem_of_mem_drop hv)
    have:=hls i
    rw[getD_some hi] at this;omega
   have hj:AC Tryz.prog 145 [.c (.d (.ps 1 ((l.map encS).drop ps.length))),Str slash] [] (fun r st=>r=Str (dL (l.drop ps.length) slash)∧st=[]):=by
    rw[←List.map_drop]
    exact FP (l.drop ps.length) slash hdl (Dn _ hdl hds)
   refine bC ?_
   refine gg ?_
   refine tX [] (hj) ?_
   rintro r st' ⟨rfl,rfl⟩<;>refine uo ?_
   refine gg ?_
   refine bC ?_
   refine bz (aZ (i:=9) (id:=76) (ys:=(iR ps l ps.length++[dL (l.drop ps.length) slash]).map encS) rfl (by simp[Ab.get]) (by simp)) ?_
   refine dZ ?_
   try refine nv ?_
   refine rA [] ?_
   refine⟨?_,rfl⟩
   rw[hmp];simp[iJ,pB]
  ·intro hr
   subst hr
   refine bC ?_
   refine bz (aZ (i:=9) (id:=100) (ys:=(iR ps l ps.length).map encS) rfl rfl (by simp)) ?_
   refine dZ ?_
   try refine nv ?_
   refine rA [] ?_
   refine⟨?_,rfl⟩
   rw[hmp];simp[iJ,pB]
end Go.Proofs.YtcpgicfphakdaaaGreatDoor
