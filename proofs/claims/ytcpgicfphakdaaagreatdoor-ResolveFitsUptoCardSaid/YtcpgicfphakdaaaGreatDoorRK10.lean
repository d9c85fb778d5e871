/- A part of the proof. -/
import Derived.Test.YtcpgicfphakdaaaGreatDoorRT3
import Derived.Test.YtcpgicfphakdaaaGreatDoorRU6
set_option maxRecDepth 100000
set_option maxHeartbeats 8000000
set_option linter.all false
namespace Go.Proofs.YtcpgicfphakdaaaGreatDoor
section
open Go.Ab Tys
variable [zg]
end
section
open Go.Ab Tys
variable [zg]
def ML (s p:akK):akK×Bool:=if hasPrefix s p then(s.extract p.size s.size,true) else(s,false)
def ahT.kk:=p6 kB kS Tryz.ntmps271 Tryz.underlying9 jB Tryz.results271
open ahT in
theorem Ug (s p:akK) (hs:s.size≤1000000):AC Tryz.prog 271 [Str s,Str p] [] (fun r st=>r= .tup [pS (ML s p).1,pB (ML s p).2]∧st=[]):=by
 have hp:=Ap s p
 refine df Tryz.func271 Tryz.ntmps271 fun x hx=>?_
 (repeat (first|refine nv ?_|refine cf (hp) ?_))
 refine aj ?_ ?_
 ·intro h
  have h':hasPrefix s p=false:=by simpa using h
  try refine nv ?_
  refine rA [] ?_
  refine⟨?_,rfl⟩
  simp only[ML,h',if_false,agF]
 intro h
 have h':hasPrefix s p=true:=by simpa using h
 have hl:p.size≤s.size:=by simp only[hasPrefix,afA,aeB] at h';exact h'.1
 try refine nv ?_
 refine rA [] ?_
 refine⟨?_,rfl⟩
 simp only[ML,h',if_true]
def aiP.kk:=p3 kB Tryz.ntmps259 Tryz.results259
open aiP in
theorem YJ (s p:akK) (hs:s.size≤1000000):AC Tryz.prog 259 [Str s,Str p] [] (fun r st=>r= .tup [pS (ML s p).1,pB (ML s p).2]∧st=[]):=by
 refine df Tryz.func259 Tryz.ntmps259 fun x hx=>?_
 (repeat (first|refine nv ?_|refine cf (Ug s p hs) ?_))
 refine rA [] ?_
 refine⟨?_,rfl⟩
 rfl
def aiE.kk:=p7 kB Tryz.ntmps242 Tryz.underlying74 jy rZ jB Tryz.results242
open aiE in
theorem MJ (p:akK) (hs:p.size≤1000000):AC Tryz.prog 242 [Str p,I .i64 2] [] (fun r st=>r= .tup [jJ (aG p),pB (aG p).isSome]∧st=[]):=by
 have hcu:=YJ p fD hs
 have hP:aG p=match jm p with|some l=>if l.length<2 then none else some l|none=>none:=rfl
 have hPa:jm p=if hasPrefix p fD then(if(split (p.extract 2 p.size)).all comp then some (split (p.extract 2 p.size)) else none) else none:=rfl
 rw[hPa] at hP
 generalize aG p=M at hP
 cases h':hasPrefix p fD with
 |false=>
  rw[h'] at hP
  simp only[agF,if_false] at hP
  have hc2:ML p fD=(p,false):=by simp only[ML,h',agF,if_false]
  rw[hc2] at hcu
  refine df Tryz.func242 Tryz.ntmps242 fun x hx=>?_
  (repeat (first|refine nv ?_|refine cf (hcu) ?_))
  refine aj ?_ ?_
  rotate_left
  ·intro h;cases h
  intro _
  try refine nv ?_
  refine rA [] ?_
  refine⟨?_,rfl⟩
  rw[hP];rfl
 |true=>
 rw[h'] at hP
 simp only[if_true] at hP
 have hc2:ML p fD=(p.extract 2 p.size,true):=by simp only[ML,h',if_true];rfl
 rw[hc2] at hcu
 have hsz:2≤p.size:=by simp only[hasPrefix,afA,aeB] at h';exact h'.1
 have hL:=xx (p.extract 2 p.size)
 have hL2:(p.extract 2 p.size).size≤p.size:=by simp
 have hsp:=Jg (p.extract 2 p.size) (by omega)
 have hzz:∀v∈split (p.extract 2 p.size),v.size≤1000000:=by
  intro v hv
  have:=qL _ _ v hv
  omega
 generalize split (p.extract 2 p.size)=l at hP hL hsp hzz
 have hl1:l.length≤1000001:=by omega
 refine df Tryz.func242 Tryz.ntmps242 fun x hx=>?_
 (repeat (first|refine nv ?_|refine cf (hcu) ?_))
 refine aj ?_ ?_
 ·intro h;cases h
 intro _
 (repeat (first|refine nv ?_|refine cf (hsp) ?_))
 have e2:decide ((l.length:Int)<2)=decide (l.length<2):=ajs.2 (by omega)
 refine aj ?_ ?_
 ·intro h
  rw[e2] at h
  have hlt:l.length<2:=agw h
  have hR:M=none:=by
   rw[hP]
   split
   ·rename_i l' hl'
    split at hl'
    ·cases hl';rw[if_pos hlt]
    ·cases hl'
   ·rfl
  try refine nv ?_
  refine rA [] ?_
  refine⟨?_,rfl⟩
  rw[hR];rfl
 intro h
 rw[e2] at h
 have hge:¬l.length<2:=ajJ h
 try refine nv ?_
 refine au (ι:=Nat) (I:=fun k=>⟨35,[(8,jr l),(24,jr l),(25,I .i64 l.length),(26,I .i64 k)],[]⟩)
  (Inv:=fun k=>k≤l.length∧(l.take k).all comp=true) (μ:=fun k=>l.length-k) 0 ⟨by omega,by simp⟩ ?_ ?_
 ·exact bQ
 rintro k ⟨hk,hall⟩
 try refine nv ?_
 refine aj ?_ ?_
 ·intro hlt
  have hlt':k<l.length:=by simpa using hlt
  obtain⟨v,hv,he,htk⟩:=round encS l k noS hlt'
  have hcm:=pq v (hzz v (aem hv))
  (repeat (first|refine nx @he ?_|refine cf (hcm) ?_))
  refine aj ?_ ?_
  ·intro hc
   have hc':comp v=false:=by simpa using hc
   have hR:M=none:=by
    rw[hP,if_neg]
    intro e
    rw[agr] at e;rw[e v (aem hv)] at hc';cases hc'
   try refine nv ?_
   refine rA [] ?_
   refine⟨?_,rfl⟩
   rw[hR];rfl
  ·intro hc
   have hc':comp v=true:=by simpa using hc
   try refine nv ?_
   refine⟨k+1,⟨by omega,?_⟩,by omega,?_⟩
   ·rw[htk,ajY,hall];simp[hc']
   ·exact bQ
 intro hge2
 have hk':k=l.length:=by have:¬k<l.length:=by simpa using hge2
                         omega
 rw[hk',afu] at hall
 rw[if_pos hall] at hP
 simp only[if_neg hge] at hP
 try refine nv ?_
 refine rA [] ?_
 refine⟨?_,rfl⟩
 rw[hP];rfl
def z198.kk:=p3 kB Tryz.ntmps198 Tryz.results198
open z198 in
theorem Zj (p:akK) (hs:p.size≤1000000):AC Tryz.prog 198 [Str p] [] (fun r st=>r= .tup [jJ (aG p),pI (if(aG p).isSome then 0 else 20)]∧st=[]):=by
 have h:=MJ p hs
 cases hp:aG p with
 |none=>
  rw[hp] at h
  simp only[jJ,pB,Option.isSome] at h
  refine df Tryz.func198 Tryz.ntmps198 fun x hx=>?_
  (repeat (first|refine nv ?_|refine cf (h) ?_))
  refine aj ?_ ?_
  rotate_left
  ·intro h;cases h
  intro _
  try refine nv ?_
  refine rA [] ?_
  refine⟨?_,rfl⟩
  rfl
 |some l=>
  rw[hp] at h
  simp only[jJ,pB,Option.isSome] at h
  refine df Tryz.func198 Tryz.ntmps198 fun x hx=>?_
  (repeat (first|refine nv ?_|refine cf (h) ?_))
  refine aj ?_ ?_
  ·intro h;cases h
  intro _
  try refine nv ?_
  refine rA [] ?_
  refine⟨?_,rfl⟩
  rfl
def z141.kk:=p3 kB Tryz.ntmps141 Tryz.results141
open z141 in
theorem WH (p:akK) (hs:p.size≤1000000):AC Tryz.prog 141 [Str p] [] (fun r st=>r= .tup [jJ (aG p),pB (aG p).isSome]∧st=[]):=by
 have h:=Zj p hs
 cases hp:aG p with
 |none=>
  rw[hp] at h
  simp only[jJ,Option.isSome,agF,if_false] at h
  refine df Tryz.func141 Tryz.ntmps141 fun x hx=>?_
  (repeat (first|refine nv ?_|refine cf (h) ?_))
  refine rA [] ?_
  refine⟨?_,rfl⟩
  rfl
 |some l=>
  rw[hp] at h
  simp only[jJ,Option.isSome,if_true] at h
  refine df Tryz.func141 Tryz.ntmps141 fun x hx=>?_
  (repeat (first|refine nv ?_|refine cf (h) ?_))
  refine rA [] ?_
  refine⟨?_,rfl⟩
  rfl
end
section
open Go.Ab Tys
variable [zg]
theorem WT {p:bV} {l:List akK} (hok:iU p=true):(bif decide ((l.length:Int)<p.parts.length) then true else !(decide ((p.parts.length:Int)<l.length)==p.rest))=!Ah p l:=by
 unfold Ah
 rw[hok,show decide ((l.length:Int)<p.parts.length)=decide (l.length<p.parts.length) from ajs.2 (by omega),show decide ((p.parts.length:Int)<l.length)=decide (p.parts.length<l.length) from ajs.2 (by omega)]
 by_cases h1:l.length<p.parts.length
 ·simp[h1]
 ·by_cases h2:p.parts.length<l.length
  ·have h3:¬l.length=p.parts.length:=by omega
   cases p.rest<;>simp[h1,h2,h3]
  ·have h3:l.length=p.parts.length:=by omega
   cases p.rest<;>simp[h3]
theorem aau {s:akK} {l:List akK} (h:aG s=some l):l.all comp=true:=by
 unfold aG at h
 split at h
 ·rename_i l' hp
  split at h
  ·cases h
  ·cases h
   unfold jm at hp
   split at hp
   ·split at hp
    ·rename_i h2;cases hp;exact h2
    ·cases hp
   ·cases hp
 ·cases h
def z73.kk:=U6 kB kG kS Tryz.ntmps73 Tryz.underlying4 Tryz.underlying74 iW jy lU sG IP rZ nU jB Tryz.results73
open z73 in
theorem Ns (p:bV) (hp:PB 1000000 p) (s:akK) (hs:s.size≤1000000):AC Tryz.prog 73 [aPat p,Str s] [] (fun r st=>r= .tup [jJ (fQ p s),pB (fQ p s).isSome]∧st=[]):=by
 have hv:=WH s hs
 have hck:=lX p hp
 have hmp:fQ p s=match aG s with|none=>none|some l=>if Ah p l&&wF p.parts l p.parts.length then some (jG p.parts l p.parts.length++(if p.rest then [dR (l.drop p.parts.length) slash] else [])) else none:=rfl
 have hfo:∀l,iU p=false→Ah p l=false:=fun l h=>by simp[Ah,h]
 have hfc:=fun l=>WT (p:=p) (l:=l)
 have hpo:=dO (p:=p)
 have hpl:=aeP (p:=p)
 have hle:∀l,Ah p l=true→p.parts.length≤l.length:=fun l h=>by
  simp only[Ah,afA,afU,ajQ,agZ] at h
  omega
 have hok:iU p=decide (dm p=0):=rfl
 generalize fQ p s=M at hmp
 generalize dm p=ck at hck hok
 obtain⟨ps,rs⟩:=p
 have h1:=hp.1
 simp only at h1 hmp hfc hpl hle
 cases hl:aG s with
 |none=>
  rw[hl] at hv hmp
  simp only[jJ,pB,Option.isSome] at hv
  simp only at hmp
  subst hmp
  refine df Tryz.func73 Tryz.ntmps73 fun x hx=>?_
  (repeat (first|refine nv ?_|refine cf (hv) ?_))
  refine so ([(23,I .i64 ck)]) ?_ ?_
  ·exact eQ @hck
  try refine nv ?_
  refine aj ?_ ?_
  rotate_left
  ·intro h;simp at h
  intro _
  try refine nv ?_
  refine rA [] ?_
  refine⟨?_,rfl⟩
  rfl
 |some l=>
  rw[hl] at hv hmp
  simp only[jJ,pB,Option.isSome] at hv
  simp only at hmp
  have hls:=XB hl
  have hcm:=aau hl
  have hpl2:=aaY hl
  have hfo:=hfo l
  have hfc:=hfc l
  have hle:=hle l
  generalize Ah ⟨ps,rs⟩ l=ft at hmp hfo hfc hle
  refine df Tryz.func73 Tryz.ntmps73 fun x hx=>?_
  (repeat (first|refine nv ?_|refine cf (hv) ?_))
  refine so ([(23,I .i64 ck)]) ?_ ?_
  ·exact eQ @hck
  try refine nv ?_
  refine aj ?_ ?_
  ·intro h
   have h':¬ck=0:=by simpa using h
   rw[hfo (by rw[hok];simp[h']),aka] at hmp
   try refine nv ?_
   refine rA [] ?_
   refine⟨?_,rfl⟩
   rw[hmp];rfl
  intro h
  have h':ck=0:=by simpa using h
  have hok1:iU ⟨ps,rs⟩=true:=by rw[hok,h'];rfl
  have hfc:=hfc hok1
  have hpo:=hpo hok1
  have hpl:=hpl hok1
  simp only[dN] at hpo
  try refine nv ?_
  refine aj ?_ ?_
  ·intro hc
   rw[hfc] at hc
   have hf:ft=false:=by simpa using hc
   rw[hf,aka] at hmp
   try refine nv ?_
   refine rA [] ?_
   refine⟨?_,rfl⟩
   rw[hmp];rfl
  intro hc
  rw[hfc] at hc
  have hf:ft=true:=by simpa using hc
  rw[hf,ajq] at hmp
  have hlen:=hle hf
  refine aZ ?_
  refine gg ?_
  refine aZ ?_
  refine bC (kH (i:=9) (id:=100) (sz:=1) rfl rfl (by omega)) ?_
  refine fE ?_
  try refine nv ?_
  refine au (ι:=Nat) (I:=fun k=>⟨78,[(2, .c (.ptr 2 0)),(6,jr l),(8,I .i64 ps.length),(9, .c (.ms 100 1 0 (jG ps l k).length)),(43,jr ps),(44,I .i64 ps.length),(45,I .i64 k)],
   [(2, .box ((bU ⟨ps,rs⟩).map C.d)),(100,ay 1 ((jG ps l k).map encS))]⟩)
   (Inv:=fun k=>k≤ps.length∧wF ps l k=true) (μ:=fun k=>ps.length-k) 0 ⟨by omega,rfl⟩ ?_ ?_
  ·(refine bi (fun i=>i) rfl ?_ ⟨?_,?_,?_,bW hx (by simp[ae,Ab.get])⟩<;>first|(simp only[kE,ay, ↓reduceIte,Nat.reduceEqDiff,reduceCtorEq,jG];done)|simp[aH,ax,ah,Ab.get,aJ,cZ,aB,bF,aS,aO,aQ,aT,aP,ae,List.flatten,jG])
  rintro k ⟨hk,hall⟩
  have hcl:=Fz ps l k
  try refine nv ?_
  refine aj ?_ ?_
  ·intro hlt
   have hlt':k<ps.length:=by simpa using hlt
   obtain⟨v,hv,he,_⟩:=round encS ps k noS hlt'
   obtain⟨u,hu,he2,_⟩:=round encS l k noS (by omega)
   have ev:=getD_some (z:=noS) hv
   have eu:=getD_some (z:=noS) hu
   have hvs:v.size≤1000000:=hp.2 v (aem hv)
   have hus:u.size≤1000000:=by rw[←eu];exact ajo (hls k) hs
   have huc:comp u=true:=agr.1 hcm u (aem hu)
   have hvp:fP v=true:=by rw[←ev];exact hpo k hlt'
   have hma:=EC v u hvs hus hvp
   have hmc:=U3 (a:=v) huc
   have his:=oL v
   rw[qK hvp] at his
   generalize mpP v u=mm at hma hmc
   obtain⟨m1,m2⟩:=mm
   simp only at hma hmc
   (repeat (first|refine nx (p2 @he @he2) ?_|refine cf (hma) ?_))
   refine aj ?_ ?_
   ·intro hb
    have hb':(uA v u).2=false:=by rw[←hmc.1];simpa using hb
    rw[Zd hlt' (by rw[ev,eu];exact hb')] at hmp
    try refine nv ?_
    refine rA [] ?_
    refine⟨?_,rfl⟩
    rw[hmp];rfl
   intro hb
   have hb':(uA v u).2=true:=by rw[←hmc.1];simpa using hb
   have hm1:=hmc.2 hb'
   subst hm1
   (repeat (first|refine nv ?_|refine cf (his) ?_))
   refine aj ?_ ?_
   ·intro hst
    try refine nv ?_
    refine⟨k+1,⟨by omega,by rw[He,hall,ev,eu,hb'];rfl⟩,by omega,?_⟩
    have e:jG ps l (k+1)=jG ps l k++[(uA v u).1]:=by simp only[jG,ev,eu,hst,if_true]
    rw[e]
    exact uZ (fun i=>if i=100 then 66 else i)
   ·intro hst
    try refine nv ?_
    refine⟨k+1,⟨by omega,by rw[He,hall,ev,eu,hb'];rfl⟩,by omega,?_⟩
    have e:jG ps l (k+1)=jG ps l k:=by simp only[jG,ev,hst,if_false,agF,ajt]
    rw[e]
    exact bQ
  intro hge
  have hk':k=ps.length:=by have:¬k<ps.length:=by simpa using hge
                           omega
  subst hk'
  rw[if_pos hall] at hmp
  try refine nv ?_
  refine aj ?_ ?_
  ·intro hr
   subst hr
   have hdl:(l.drop ps.length).length≤1000000:=by
    rw[ajz]
    omega
   have hds:∀v∈l.drop ps.length,v.size≤1000000:=by
    intro v hv
    obtain⟨i,hi⟩:=af7 (akc hv)
    have:=hls i
    rw[getD_some hi] at this;omega
   have hj:AC Tryz.prog 145 [.c (.d (.ps 1 ((l.map encS).drop ps.length))),Str slash] [] (fun r st=>r=Str (dR (l.drop ps.length) slash)∧st=[]):=by
    rw[←List.map_drop]
    exact Lj (l.drop ps.length) slash hdl (F9 _ hdl hds)
   refine aZ ?_
   refine gg ?_
   refine nJ [] (hj) ?_
   rintro r st' ⟨rfl,rfl⟩<;>refine nP ?_
   refine gg ?_
   refine aZ ?_
   refine bC (aY (i:=9) (id:=76) (ys:=(jG ps l ps.length++[dR (l.drop ps.length) slash]).map encS) rfl (by simp[Ab.get]) (by simp)) ?_
   refine fE ?_
   try refine nv ?_
   refine rA [] ?_
   refine⟨?_,rfl⟩
   rw[hmp];simp[jJ,pB]
  ·intro hr
   subst hr
   refine aZ ?_
   refine bC (aY (i:=9) (id:=100) (ys:=(jG ps l ps.length).map encS) rfl rfl (by simp)) ?_
   refine fE ?_
   try refine nv ?_
   refine rA [] ?_
   refine⟨?_,rfl⟩
   rw[hmp];simp[jJ,pB]
end
end Go.Proofs.YtcpgicfphakdaaaGreatDoor
