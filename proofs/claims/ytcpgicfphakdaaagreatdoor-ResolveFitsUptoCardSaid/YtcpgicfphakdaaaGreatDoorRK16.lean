/- A part of the proof. -/
import Derived.Test.YtcpgicfphakdaaaGreatDoorRP50
import Derived.Test.YtcpgicfphakdaaaGreatDoorRK15
import Derived.Test.YtcpgicfphakdaaaGreatDoorRR3
set_option maxRecDepth 100000
set_option maxHeartbeats 16000000
set_option linter.all false
namespace Go.Proofs.YtcpgicfphakdaaaGreatDoor
section
open Go.Ab Tys
variable [Dr]
theorem Vk {p q a b:bV} (hab:(a,b)=if p.parts.length<q.parts.length then(q,p) else(p,q)):
 GZ p.parts.length p.rest q.parts.length q.rest=!decide ((b.parts.length<a.parts.length∧b.rest=false)∨(a.parts.length=b.parts.length∧a.rest≠b.rest)):=by
 rw[ajx,afU,agZ]
 unfold GZ
 by_cases hl:p.parts.length<q.parts.length
 ·rw[if_pos hl] at hab
  cases hab
  cases p.rest<;>cases q.rest<;>simp<;>omega
 ·rw[if_neg hl] at hab
  cases hab
  cases p.rest<;>cases q.rest<;>simp<;>omega
def CS (a b:bV) (k:Nat):List akK:=jM a b k++a.parts.drop k
theorem acl (a b:bV) {k:Nat} (hk:k≤a.parts.length):(CS a b k).length=a.parts.length:=by
 simp[CS,oQ];omega
theorem acB (a b:bV) {k:Nat} (hk:k<a.parts.length):(CS a b k).getD k noS=a.parts.getD k noS:=by
 simp only[CS,adI]
 rw[ajm (by rw[oQ];exact afJ _),oQ,ajn]
 simp
theorem aaM (a b:bV) {k:Nat} (hk:k<a.parts.length) (hb:k<b.parts.length) {w:akK} (hw:CB (a.parts.getD k noS) (b.parts.getD k noS)=some w):(CS a b k).set k w=CS a b (k+1):=by
 have e:w=if decide (b.parts.length≤k)||bI (a.parts.getD k noS) (b.parts.getD k noS) then a.parts.getD k noS else b.parts.getD k noS:=by
  unfold CB at hw
  have:¬b.parts.length≤k:=by omega
  simp only[ahK this,aks]
  split at hw
  ·rename_i h;cases hw;rw[if_pos h]
  ·rename_i h
   split at hw
   ·cases hw;rw[if_neg h]
   ·cases hw
 simp only[CS,jM,←e]
 rw[List.set_append_right _ _ (by rw[oQ];exact afJ _),oQ,akq]
 rw[aiu hk,List.set_cons_zero]
 simp
theorem Za (a b:bV) (hb:b.parts.length≤a.parts.length):CS a b b.parts.length=jM a b a.parts.length:=by
 have key:∀j,b.parts.length+j≤a.parts.length→jM a b (b.parts.length+j)=jM a b b.parts.length++(a.parts.drop b.parts.length).take j:=by
  intro j
  induction j with
  |zero=>intro _;simp
  |succ j ih=>
   intro hj
   rw[show b.parts.length+(j+1)=(b.parts.length+j)+1 by omega,jM,ih (by omega)]
   rw[if_pos (by simp),ahJ]
   congr 1
   rw[ajC,ajn,adH (by omega)]
   simp[adI,adH (by omega:b.parts.length+j<a.parts.length)]
 have:=key (a.parts.length-b.parts.length) (by omega)
 rw[show b.parts.length+(a.parts.length-b.parts.length)=a.parts.length by omega] at this
 rw[this,CS,ahH (by simp)]
theorem aaq {a b:bV} (hb:b.parts.length≤a.parts.length) (h:∀i,i<b.parts.length→zH a b i=true):(List.range a.parts.length).all (zH a b)=true:=by
 rw[agr]
 intro i hi
 have hi:=aht.1 hi
 by_cases e:i<b.parts.length
 ·exact h i e
 ·simp[zH,show b.parts.length≤i by omega]
def aiQ.kk:=MP kB kG kS Tryz.ntmps129 Tryz.underlying74 iW jy lU sG IP rZ nU jB Tryz.results129
open aiQ in
theorem UV (p q:bV) (hp:PB 1000000 p) (hq:PB 1000000 q):AC Tryz.prog 129 [aPat p,aPat q] [] (fun r st=>r= .tup [aaS (lK p q),pB (lK p q).isSome]∧st=[]):=by
 have hcp:=lX p hp
 have hcq:=lX q hq
 have hok:iU p=decide (dm p=0):=rfl
 have hokq:iU q=decide (dm q=0):=rfl
 obtain⟨a,b,hab⟩:∃a b:bV,(a,b)=if p.parts.length<q.parts.length then(q,p) else(p,q):=⟨_,_,rfl⟩
 have hM:lK p q=if iU p&&iU q then zh a b else none:=by
  unfold lK
  split
  ·by_cases hl:p.parts.length<q.parts.length
   ·rw[if_pos hl] at hab⊢;cases hab;rfl
   ·rw[if_neg hl] at hab⊢;cases hab;rfl
  ·rfl
 have ha:PB 1000000 a:=by split at hab<;>cases hab<;>assumption
 have hb:PB 1000000 b:=by split at hab<;>cases hab<;>assumption
 have hba:b.parts.length≤a.parts.length:=by split at hab<;>(cases hab;omega)
 have hoa:iU p=true→iU q=true→iU a=true∧iU b=true:=fun h1 h2=>by split at hab<;>cases hab<;>exact⟨by assumption,by assumption⟩
 have hcm:=Vk hab
 have hco:=MW p.parts.length q.parts.length p.rest q.rest
 generalize GZ p.parts.length p.rest q.parts.length q.rest=cm at hcm hco
 generalize hMM:lK p q=M at hM
 generalize dm p=ep at hcp hok
 generalize dm q=eq at hcq hokq
 refine df Tryz.func129 Tryz.ntmps129 fun x hx=>?_
 (repeat (first|refine nv ?_|refine cf (hcp) ?_))
 refine so ([(16,I .i64 eq)]) ?_ ?_
 ·exact eQ @hcq
 try refine nv ?_
 refine aj ?_ ?_
 ·intro h
  have hR:M=none:=by
   rw[hM,hok,hokq]
   by_cases e1:ep=0
   ·by_cases e2:eq=0
    ·simp only[e1,e2,akJ,Bool.not_true,cond_false] at h;cases h
    ·simp[e2]
   ·simp[e1]
  try refine nv ?_
  refine rA [] ?_
  refine⟨?_,rfl⟩
  rw[hR];rfl
 intro h
 have h0:ep=0∧eq=0:=by
  by_cases e1:ep=0
  ·by_cases e2:eq=0
   ·exact⟨e1,e2⟩
   ·simp[e1,e2] at h
  ·simp[e1] at h
 obtain⟨e1,e2⟩:=h0
 obtain⟨oa,ob⟩:=hoa (by rw[hok,e1];rfl) (by rw[hokq,e2];rfl)
 simp only[hok,hokq,e1,e2,akJ,akt,if_true] at hM
 have hm1:zh a b=if(b.parts.length<a.parts.length∧b.rest=false)∨(a.parts.length=b.parts.length∧a.rest≠b.rest) then none
  else if(List.range a.parts.length).all (zH a b) then some ⟨jM a b a.parts.length,a.rest⟩ else none:=rfl
 rw[hm1] at hM
 (repeat (first|refine nv ?_|refine cf (hco) ?_))
 refine aj ?_ ?_
 ·intro hc
  have hc':cm=false:=by simpa using hc
  rw[hc'] at hcm
  have h9:=hcm.symm
  rw[Bool.not_eq_false'] at h9
  have:=agw h9
  rw[if_pos this] at hM
  try refine nv ?_
  refine rA [] ?_
  refine⟨?_,rfl⟩
  rw[hM];rfl
 intro hc
 have hc':cm=true:=by simpa using hc
 rw[hc'] at hcm
 have hnc:¬((b.parts.length<a.parts.length∧b.rest=false)∨(a.parts.length=b.parts.length∧a.rest≠b.rest)):=by
  intro e
  rw[ajk e] at hcm
  cases hcm
 rw[if_neg hnc] at hM
 try refine nv ?_
 refine nZ ⟨78,[(2, .c (.ptr 2 0)),(3, .c (.ptr 3 0)),(4, .c (.ptr 4 0))],[(2, .box ((bU a).map C.d)),(3, .box ((bU b).map C.d)),(4, .box [Lt, .d (.v (.bool false))])]⟩ ?_ ?_
 ·refine aj ?_ ?_
  ·intro hl
   have hl':p.parts.length<q.parts.length:=by have:=agw hl;omega
   rw[if_pos hl'] at hab
   cases hab
   try refine nv ?_
   refine⟨rfl,?_⟩
   exact bQ
  ·intro hl
   have hl':¬p.parts.length<q.parts.length:=by have:=ajJ hl;omega
   rw[if_neg hl'] at hab
   cases hab
   try refine nv ?_
   refine⟨rfl,?_⟩
   exact bQ
 clear hcp hcq hok hokq hp hq hco hm1 hoa
 have hap:=dO oa
 have hbp:=dO ob
 have hag:=ha.get
 have hbg:=hb.get
 have ha1:=ha.1
 have hb1:=hb.1
 have hane:a.parts≠[]:=by
  have:=(qA.1 oa).1
  intro e;rw[e] at this;simp at this
 have hcl:=Fp a.parts hane ha1
 have hrest:(a.rest&&b.rest)=a.rest:=by
  by_cases e:b.parts.length<a.parts.length
  ·cases hr:b.rest with
   |true=>simp
   |false=>exact absurd (.inl ⟨e,hr⟩) hnc
  ·have el:a.parts.length=b.parts.length:=by omega
   have:a.rest=b.rest:=akl fun hr=>hnc (.inr ⟨el,hr⟩)
   rw[this];simp
 try refine nv ?_
 refine nJ [] (hcl) ?_
 rintro r st' ⟨rfl,rfl⟩<;>refine nP ?_
 try refine nv ?_
 refine au (ι:=Nat) (I:=fun k=>⟨78,[(2, .c (.ptr 2 0)),(3, .c (.ptr 3 0)),(4, .c (.ptr 4 0)),(6, .c (.ms 7 1 0 a.parts.length)),(46,jr b.parts),(47,I .i64 b.parts.length),(48,I .i64 k)],
  [(2, .box ((bU a).map C.d)),(3, .box ((bU b).map C.d)),(4, .box [Lt, .d (.v (.bool false))]),(7,ay 1 ((CS a b k).map encS))]⟩)
  (Inv:=fun k=>k≤b.parts.length∧∀i,i<k→zH a b i=true) (μ:=fun k=>b.parts.length-k) 0 ⟨by omega,by omega⟩ ?_ ?_
 ·(refine bi (fun i=>i) rfl ?_ ⟨?_,?_,?_,bW hx (by simp[ae,Ab.get])⟩<;>first|(simp only[kE,ay, ↓reduceIte,Nat.reduceEqDiff,reduceCtorEq,CS,jM,List.nil_append,akx];done)|simp[aH,ax,ah,Ab.get,aJ,cZ,aB,bF,aS,aO,aQ,aT,aP,ae,List.flatten,CS,jM,List.nil_append,akx])
 rintro k ⟨hk,hall⟩
 try refine nv ?_
 refine aj ?_ ?_
 ·intro hlt
  have hlt':k<b.parts.length:=by simpa using hlt
  obtain⟨u,hu,he,_⟩:=round encS b.parts k noS hlt'
  have eu:=qy (z:=noS) hu
  have hml:=acl a b (k:=k) (by omega)
  have hlm:k<(CS a b k).length:=by omega
  have hmg:=acB a b (k:=k) (by omega)
  have hmp:=SG (a.parts.getD k noS) u (hag k) (by rw[←eu];exact hbg k) (hap k (by omega)) (by rw[←eu];exact hbp k hlt')
  have hms:=fun w=>aaM a b (k:=k) (by omega) hlt' (w:=w)
  have hbk:zH a b k=(bI (a.parts.getD k noS) (b.parts.getD k noS)||bI (b.parts.getD k noS) (a.parts.getD k noS)):=by
   unfold zH
   rw[ahK (by omega),aks]
  rw[eu] at hms hbk
  have hge:=lI encS (CS a b k) k noS hlm
  rw[hmg] at hge
  generalize hA:CS a b k=A at hge hms hml hlm
  cases hpv:CB (a.parts.getD k noS) u with
  |none=>
   rw[hpv] at hmp
   simp only[Option.getD,Option.isSome] at hmp
   have hR:M=none:=by
    rw[hM,if_neg]
    intro e
    have h5:=kC _ k _ (by omega) e
    rw[hbk] at h5
    unfold CB at hpv
    split at hpv
    ·cases hpv
    ·split at hpv
     ·cases hpv
     ·rename_i h6 h7
      simp only[Bool.not_eq_true] at h6 h7
      rw[h6,h7] at h5;cases h5
   (repeat (first|refine nx (p2 @he @hge) ?_|refine cf (hmp) ?_))
   refine aj ?_ ?_
   rotate_left
   ·intro h;cases h
   intro _
   try refine nv ?_
   refine rA [] ?_
   refine⟨?_,rfl⟩
   rw[hR];rfl
  |some w=>
   rw[hpv] at hmp
   simp only[Option.getD,Option.isSome] at hmp
   have hbt:zH a b k=true:=by
    rw[hbk]
    unfold CB at hpv
    split at hpv
    ·rename_i h6;rw[h6];rfl
    ·split at hpv
     ·rename_i h7;rw[h7];simp
     ·cases hpv
   (repeat (first|refine nx (p2 @he @hge) ?_|refine cf (hmp) ?_))
   refine aj ?_ ?_
   ·intro h;cases h
   intro _
   try refine nx @Cb ?_
   refine⟨k+1,⟨by omega,fun i hi=>?_⟩,by omega,?_⟩
   ·rcases ajB.1 hi with hi|rfl
    ·exact hall i hi
    ·exact hbt
   ·rw[←hms w hpv]
    exact bQ
 intro hge
 have hk':k=b.parts.length:=by have:¬k<b.parts.length:=by simpa using hge
                               omega
 subst hk'
 rw[Za a b hba]
 rw[if_pos (aaq hba hall)] at hM
 refine aZ ?_
 refine bC (aY (i:=6) (id:=7) (ys:=(jM a b a.parts.length).map encS) rfl rfl (by rw[ae1,oQ])) ?_
 refine fE ?_
 try refine nv ?_
 refine rA [] ?_
 refine⟨?_,rfl⟩
 have hr2:(bif a.rest then b.rest else false)=a.rest:=by
  conv=>rhs;rw[←hrest]
  cases a.rest<;>rfl
 rw[hM,hr2];rfl
end
section
open Go.Ab Tys
variable [zg]
def z72.kk:=p6 kB Tryz.ntmps72 iW nU jB Tryz.results72
open z72 in
theorem abM (h:bV) (s:akK) (hh:PB 1000000 h) (hs:s.size≤1000000):AC Tryz.prog 72 [aPat h, .c (.pp [.v (.string s)])] [] (fun x st=>x=B (fQ h s).isSome∧st=[]):=by
 have hm:=Ns h hh s hs
 obtain⟨c,hc⟩:=ae6 (fQ h s)
 rw[hc] at hm
 generalize (fQ h s).isSome=b at hm
 obtain⟨ps,rp⟩:=h
 refine df Tryz.func72 Tryz.ntmps72 fun x hx=>?_
 (repeat (first|refine nv ?_|refine cf (hm) ?_))
 refine rA [] ?_
 refine⟨?_,rfl⟩
 rfl
open ahC in
theorem afe (l:List bV) (s:akK) (hl:l.length≤1000000) (hh:∀h∈l,PB 1000000 h) (hs:s.size≤1000000):
 AC Tryz.prog 140 [jR l, .c (.fn 72 [.pp [.v (.string s)]])] [] (fun x st=>(∃i:Int,x=I .i64 i∧decide (0≤i)=l.any fun h=>(fQ h s).isSome)∧st=[]):=by
 have hcl:=fun h (hm:h∈l)=>abM h s (hh h hm) hs
 generalize hF:(l.any fun h=>(fQ h s).isSome)=f
 refine df Tryz.func140 Tryz.ntmps140 fun x hx=>?_
 try refine nv ?_
 refine au (ι:=Nat) (I:=fun k=>⟨19,[(0,jR l),(1, .c (.fn 72 [.pp [.v (.string s)]])),(7,I .i64 l.length),(8,I .i64 k)],[]⟩)
  (Inv:=fun k=>k≤l.length∧(l.take k).any (fun h=>(fQ h s).isSome)=false) (μ:=fun k=>l.length-k) 0 ⟨by omega,by simp⟩ ?_ ?_
 ·exact bQ
 rintro k ⟨hk,hno⟩
 try refine nv ?_
 refine aj ?_ ?_
 ·intro hlt
  have hlt':k<l.length:=by simpa using hlt
  obtain⟨v,hv,he,htk⟩:=round bU l k dG hlt'
  have hcv:=hcl v (aem hv)
  generalize hcb:(fQ v s).isSome=cb at hcv
  try refine nx @he ?_
  refine KC [] (by simp) (by simp only[kV, ↓reduceIte,Nat.reduceEqDiff,reduceCtorEq];first|done|rfl) (by simp only[WL,List.map];first|done|rfl) (by simp only[kV, ↓reduceIte,Nat.reduceEqDiff,reduceCtorEq];first|done|rfl) ⟨by simp,by simp,by simp[aJ,cZ,aB,aV,bT]⟩ (hcv) ?_
  rintro r st' ⟨rfl,rfl⟩<;>(refine⟨by simp[lH],?_⟩;simp only[kP,Nat.reduceEqDiff, ↓reduceIte,reduceCtorEq])
  try refine nv ?_
  refine aj ?_ ?_
  ·intro h
   have hf:f=true:=by
    rw[←hF,List.any_eq_true]
    exact⟨v,aem hv,by rw[hcb];simpa using h⟩
   try refine nv ?_
   refine rA [] ?_
   exact⟨⟨k,rfl,by rw[hf];simp⟩,rfl⟩
  ·intro h
   try refine nv ?_
   refine⟨k+1,⟨by omega,by rw[htk,List.any_append,hno];simp only[List.any_cons,List.any_nil,hcb,Bool.or_false,aks];simpa using h⟩,by omega,?_⟩
   exact bQ
 intro hge
 have hk':k=l.length:=by have:¬k<l.length:=by simpa using hge
                         omega
 rw[hk',afu] at hno
 try refine nv ?_
 refine rA [] ?_
 exact⟨⟨-1,rfl,by rw[←hF,hno];decide⟩,rfl⟩
open z71 in
theorem aaX (l:List bV) (s:akK) (hl:l.length≤1000000) (hh:∀h∈l,PB 1000000 h) (hs:s.size≤1000000):
 AC Tryz.prog 71 [jR l, .c (.fn 72 [.pp [.v (.string s)]])] [] (fun x st=>x=B (l.any fun h=>(fQ h s).isSome)∧st=[]):=by
 refine df Tryz.func71 Tryz.ntmps71 fun x hx=>?_
 try refine nv ?_
 refine nJ [] (afe l s hl hh hs) ?_
 rintro r st' ⟨⟨i,rfl,hi⟩,rfl⟩<;>refine nP ?_
 try refine nv ?_
 refine rA [] ?_
 refine⟨?_,rfl⟩
 rw[←hi]
@[reducible] def adY (L:jA) (la:List (akK×Int)) (me:List (Int×List Int)) (m:List fA):AV:= .agg [.pp (uw L la me), .d (.ps 5 (m.map fV))]
def z26.kk:=p2 (p13 kB kG kS WL Tryz.ntmps26 Tryz.underlying23 FH iW KG Tu adg Af xN) (p12 Iu IV Ir Yw NC aeb nU Pj WZ abG jB Tryz.results26)
open z26 in
theorem Lr (L:jA) (la:List (akK×Int)) (me:List (Int×List Int)) (m:List fA) (hm:m.length≤1000000) (hb:∀e∈m,EB 10000 e) (hc:∀e∈m,iQ e.line=0) (s:akK) (hs:s.size≤300000):
 AC Tryz.prog 26 [adY L la me m,Str s] [] (fun x st=>x= .tup [pS (nG m s).1,pB (nG m s).2]∧st=[]):=by
 have hR:=afj hc s
 generalize nG m s=R at hR
 refine df Tryz.func26 Tryz.ntmps26 fun x hx=>?_
 refine aZ ?_
 refine gg ?_
 refine aZ ?_
 refine bC (tV (i:=3) (id:=3) (cs:=[.v (.string s)]) rfl rfl) ?_
 refine fE ?_
 try refine nv ?_
 refine au (ι:=Nat) (I:=fun k=>⟨37,[(3, .c (.pp [.v (.string s)])),(11,iV m),(12,I .i64 m.length),(13,I .i64 k)],[]⟩)
  (Inv:=fun k=>k≤m.length∧(m.take k).find? (fun x=>FO x s)=none) (μ:=fun k=>m.length-k) 0 ⟨by omega,rfl⟩ ?_ ?_
 ·exact bQ
 rintro k ⟨hk,hall⟩
 try refine nv ?_
 refine aj ?_ ?_
 ·intro hlt
  have hlt':k<m.length:=by simpa using hlt
  obtain⟨v,hv,he,htk⟩:=round fV m k Un hlt'
  obtain⟨b1,b2,b3,b4⟩:=hb v (aem hv)
  have hf:=aez v.line (b1.mono (by omega)) (b2.mono (by omega)) s hs
  have hh:=aaX v.holes s (by omega) (fun h hh=>(b4 h hh).mono (by omega)) (by omega)
  have hfd:FO v s=true→m.find? (fun x=>FO x s)=some v:=by
   intro h
   have e:m=m.take k++v::m.drop (k+1):=by
    have h1:=agu k m
    rw[ajF,hv] at h1
    exact h1.symm
   rw[e,List.find?_append,hall,List.find?_cons,h]
   rfl
  have hnx:FO v s=false→(m.take (k+1)).find? (fun x=>FO x s)=none:=by
   intro h
   rw[htk,List.find?_append,hall,List.find?_cons,h]
   rfl
  have hhb:FO v s=((XA v.line s).2&&!v.holes.any fun h=>(fQ h s).isSome):=rfl
  generalize FO v s=hb at hfd hnx hhb
  generalize (v.holes.any fun h=>(fQ h s).isSome)=ib at hh hhb
  generalize hF:XA v.line s=F at hf hhb
  obtain⟨t,fb⟩:=F
  simp only at hf hhb
  (repeat (first|refine nx @he ?_|refine cf (hf) ?_))
  refine so ([(32,B ib)]) ?_ ?_
  ·exact eQ @hh
  try refine nv ?_
  refine aj ?_ ?_
  ·intro h
   have h':hb=true:=by rw[hhb];cases fb<;>cases ib<;>simp_all
   rw[hfd h'] at hR
   simp only[hF] at hR
   try refine nv ?_
   refine rA [] ?_
   refine⟨?_,rfl⟩
   rw[hR]
  ·intro h
   have h':hb=false:=by rw[hhb];cases fb<;>cases ib<;>simp_all
   try refine nv ?_
   refine⟨k+1,⟨by omega,hnx h'⟩,by omega,?_⟩
   exact bQ
 intro hge
 have hk':k=m.length:=by have:¬k<m.length:=by simpa using hge
                         omega
 rw[hk',afu] at hall
 rw[hall] at hR
 try refine nv ?_
 refine rA [] ?_
 refine⟨?_,rfl⟩
 rw[hR]
end
end Go.Proofs.YtcpgicfphakdaaaGreatDoor
