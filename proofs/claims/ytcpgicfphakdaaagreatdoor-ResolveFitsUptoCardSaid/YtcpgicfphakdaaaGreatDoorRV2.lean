/- A part of the proof. -/
import Derived.Test.YtcpgicfphakdaaaGreatDoorRP50
import Derived.Test.YtcpgicfphakdaaaGreatDoorRK5
set_option maxRecDepth 100000
set_option maxHeartbeats 16000000
set_option linter.all false
namespace Go.Proofs.YtcpgicfphakdaaaGreatDoor
section
open Go.Ab Tys
variable [zg]
def QQ (ps:List akK) (l:List bV) (k:Nat):List akK:=qH ps l k++ps.drop k
theorem aeS {ps:List akK} {l:List bV} {k:Nat} (hk:k≤ps.length):(QQ ps l k).length=ps.length:=by
 rw[QQ,afI,zk,ajz];omega
theorem aei {ps:List akK} {l:List bV} {k:Nat} (hk:k<ps.length):(QQ ps l k).getD k noS=ps.getD k noS:=by
 have:=zk ps l k
 rw[QQ,adI,ajm (by omega),ajn,adI]
 congr 2;omega
theorem aa1 {ps:List akK} {l:List bV} {k:Nat} (hk:k<ps.length) (hs:bG (ps.getD k noS)=true):(QQ ps l k).set k (((l.getD (aK (ps.take k)) dG).parts.getD 0 noS)++l9 (ps.getD k noS))=QQ ps l (k+1):=by
 have:=zk ps l k
 rw[QQ,QQ,qH,if_pos hs,List.set_append_right _ _ (by omega),aiu hk,this,akq,List.set_cons_zero,ahJ]
 rfl
theorem ZZ {ps:List akK} {l:List bV} {k:Nat} (hk:k<ps.length) (hs:bG (ps.getD k noS)=false):QQ ps l k=QQ ps l (k+1):=by
 rw[QQ,QQ,qH,if_neg (by rw[hs];simp),aiu hk,ahJ,adI,adH hk]
 rfl
theorem aeZ (ps:List akK) (l:List bV):QQ ps l ps.length=qH ps l ps.length:=by rw[QQ,akv,ajt]
def aii.kk:=p2 (p11 kB kG kS Tryz.ntmps230 Tryz.underlying286 Tryz.underlying74 Tryz.underlying9 We iW acg jy) (p11 JK JO lU sG afS abB IP rZ nU jB Tryz.results230)
open aii in
theorem aao (p:bV) (hp:PB 100000 p) (l:List bV) (hll:l.length≤100000) (hlb:∀b∈l,PB 100000 b):AC Tryz.prog 230 [aPat p,jR l] [] (fun r st=>r= .tup [VQ (jL p l),pI (jL p l).2]∧st=[]):=by
 have hki:=A8 p (hp.mono (by omega))
 have hF:=TG p l
 have hok:iU p=decide (dm p=0):=rfl
 have hwd:tH p=aK p.parts+(if p.rest then 1 else 0):=rfl
 have hpo:=fun h=>dO (p:=p) h
 have hne:iU p=true→p.parts≠[]:=fun h=>by
  have:=(qA.1 h).1
  intro e;rw[e] at this;simp at this
 generalize dm p=cp at hki hF hok
 generalize iU p=op at hki hF hok hpo hne
 obtain⟨ps,rs⟩:=p
 have h1:=hp.1
 have hpg:=hp.get
 simp only[dN] at h1 hF hki hpo hne hwd hpg
 generalize jL ⟨ps,rs⟩ l=R at hF
 cases op with
 |false=>
  have hcp:¬cp=0:=by intro e;rw[e] at hok;cases hok
  simp only[aka,agF,if_false] at hki hF
  refine df Tryz.func230 Tryz.ntmps230 fun x hx=>?_
  (repeat (first|refine nv ?_|refine cf (hki) ?_))
  refine aj ?_ ?_
  rotate_left
  ·intro h;simp at h;exact absurd h hcp
  intro _
  try refine nv ?_
  refine rA [] ?_
  refine⟨?_,rfl⟩
  rw[hF];simp[VQ,hcp]
 |true=>
  have hcp:cp=0:=by have:=hok.symm;simpa using this
  subst hcp
  have hpo:=hpo rfl
  have hne:=hne rfl
  simp only[ajq,if_true] at hki hF
  have hs9:aK ps≤ps.length:=ajy ..
  refine df Tryz.func230 Tryz.ntmps230 fun x hx=>?_
  (repeat (first|refine nv ?_|refine cf (hki) ?_))
  refine aj ?_ ?_
  ·intro h;cases h
  intro _
  try refine nv ?_
  refine aj ?_ ?_
  ·intro hw
   have hw':¬l.length=tH ⟨ps,rs⟩:=by
    intro e
    rw[hwd] at e
    cases rs
    ·simp only[agF,if_false,Nat.add_zero] at e;simp[e] at hw
    ·simp only[if_true] at e;simp[e] at hw
   rw[if_neg hw'] at hF
   try refine nv ?_
   refine rA [] ?_
   refine⟨?_,rfl⟩
   rw[hF];rfl
  intro hw
  have hw':l.length=tH ⟨ps,rs⟩:=by
   rw[hwd]
   cases rs
   ·simp at hw
    simp only[agF,if_false];omega
   ·simp at hw
    simp only[if_true];omega
  rw[if_pos hw'] at hF
  rw[hwd] at hw'
  have hcl:=Fp ps hne (ajo h1 (by omega))
  clear hki hok hwd hw
  try refine nv ?_
  refine au (ι:=Nat) (I:=fun k=>⟨114,[(1,jR l),(2, .c (.ptr 2 0)),(4, .c (.ptr 4 0)),(6,I .i64 (aK ps)),(7,B rs),(43,jR l),(44,I .i64 l.length),(45,I .i64 k)],
   [(2, .box ((bU ⟨ps,rs⟩).map C.d)),(4, .box [Lt, .d (.v (.bool false))])]⟩)
   (Inv:=fun k=>k≤l.length∧∀i,i<k→Fq (l.getD i dG) (decide (i=aK ps))=true) (μ:=fun k=>l.length-k) 0 ⟨by omega,by omega⟩ ?_ ?_
  ·exact bQ
  rintro k ⟨hk,hall⟩
  try refine nv ?_
  refine aj ?_ ?_
  ·intro hlt
   have hlt':k<l.length:=by simpa using hlt
   obtain⟨b,hb,he,_⟩:=round bU l k dG hlt'
   have eb:=qy (z:=dG) hb
   have hib:AC Tryz.prog 255 [aPat b,B (decide ((k:Int)=(aK ps:Nat)))] [] (fun r st=>r=B (Fq b (decide (k=aK ps)))∧st=[]):=by
    have e:decide ((k:Int)=(aK ps:Nat))=decide (k=aK ps):=ajs.2 (by omega)
    rw[e]
    exact QE b _ ((hlb b (aem hb)).mono (by omega))
   generalize hbb:Fq b (decide (k=aK ps))=bb at hib
   obtain⟨bp,br⟩:=b
   (repeat (first|refine nx @he ?_|refine cf (hib) ?_))
   refine aj ?_ ?_
   ·intro h
    have h':bb=false:=by simpa using h
    have hn:¬((List.range l.length).all fun i=>Fq (l.getD i dG) (decide (i=aK ps)))=true:=by
     intro e
     have h5:=kC _ k _ hlt' e
     rw[eb,hbb,h'] at h5;cases h5
    rw[if_neg hn] at hF
    try refine nv ?_
    refine rA [] ?_
    refine⟨?_,rfl⟩
    rw[hF];rfl
   ·intro h
    have h':bb=true:=by simpa using h
    try refine nv ?_
    refine⟨k+1,⟨by omega,fun i hi=>?_⟩,by omega,?_⟩
    ·rcases ajB.1 hi with hi|rfl
     ·exact hall i hi
     ·rw[eb,hbb];exact h'
    ·exact bQ
  intro hge
  have hk':k=l.length:=by have:¬k<l.length:=by simpa using hge
                          omega
  subst hk'
  rw[if_pos (agr.2 fun i hi=>hall i (aht.1 hi))] at hF
  try refine nv ?_
  refine nJ [] (hcl) ?_
  rintro r st' ⟨rfl,rfl⟩<;>refine nP ?_
  try refine nv ?_
  refine au (ι:=Nat) (I:=fun k=>⟨114,[(1,jR (l.drop (aK (ps.take k)))),(4, .c (.ptr 4 0)),(7,B rs),(11, .c (.ptr 11 0)),(63, .c (.ms 7 1 0 ps.length)),(64,I .i64 ps.length),(65,I .i64 k)],
   [(4, .box [Lt, .d (.v (.bool false))]),(7,ay 1 ((QQ ps l k).map encS)),(11, .box [.ms 7 1 0 ps.length, .d (.v (.bool false))])]⟩)
   (Inv:=fun k=>k≤ps.length) (μ:=fun k=>ps.length-k) 0 (by omega) ?_ ?_
  ·(refine bi (fun i=>i) rfl ?_ ⟨?_,?_,?_,bW hx (by simp[ae,Ab.get])⟩<;>first|(simp only[kE,ay, ↓reduceIte,Nat.reduceEqDiff,reduceCtorEq,QQ,qH,xy,List.nil_append,akx];done)|simp[aH,ax,ah,Ab.get,aJ,cZ,aB,bF,aS,aO,aQ,aT,aP,ae,List.flatten,QQ,qH,xy,List.nil_append,akx])
  intro k hk
  have hsl:=aeS (l:=l) hk
  try refine nv ?_
  refine aj ?_ ?_
  ·intro hlt
   have hlt':k<ps.length:=by simpa using hlt
   obtain⟨u,hu,he,_⟩:=round encS ps k noS hlt'
   have eu:=qy (z:=noS) hu
   have hus:u.size≤100000:=by rw[←eu];exact hpg k
   have hst:=oL u
   rw[qK (by rw[←eu];exact hpo k hlt')] at hst
   have hge:=lI encS (QQ ps l k) k noS (by omega)
   rw[aei hlt',eu] at hge
   have hss:=Jp hu
   cases hsu:bG u with
   |false=>
    rw[hsu] at hst hss
    rw[if_neg (by simp),Nat.add_zero] at hss
    have hnx:=ZZ (l:=l) hlt' (by rw[eu];exact hsu)
    (repeat (first|refine nx @hge ?_|refine cf (hst) ?_))
    refine aj ?_ ?_
    ·intro h;cases h
    intro _
    try refine nv ?_
    refine⟨k+1,by omega,by omega,?_⟩
    rw[hss,←hnx]
    exact bQ
   |true=>
    rw[hsu] at hst hss
    rw[if_pos rfl] at hss
    have hlt2:=Bi ps k hlt' (by rw[eu];exact hsu)
    have hj:aK (ps.take k)<l.length:=by rw[hw'];omega
    obtain⟨b,hb⟩:∃b,l[aK (ps.take k)]? =some b:=⟨_,adH hj⟩
    have eb:l.getD (aK (ps.take k)) dG=b:=qy hb
    have hbb:=hall (aK (ps.take k)) hj
    rw[eb,ahK (by omega),TE] at hbb
    have hLd:l.drop (aK (ps.take k))=b::l.drop (aK (ps.take k)+1):=by
     rw[ajF,hb];rfl
    have hnx:=aa1 (l:=l) hlt' (by rw[eu];exact hsu)
    rw[eb,eu] at hnx
    have hbz:=(hlb b (aem hb)).2
    obtain⟨c,rfl⟩:∃c,b=⟨[c],false⟩:=by
     obtain⟨bp,br⟩:=b
     unfold JL at hbb
     simp only[afA,aeB,afU] at hbb
     obtain⟨⟨h1,rfl⟩,_⟩:=hbb
     obtain⟨c,rfl⟩:=List.length_eq_one_iff.1 h1
     exact⟨c,rfl⟩
    have hcz:c.size≤100000:=hbz c (by simp)
    simp only[akk] at hnx
    rw[hLd]
    have hsz1:1≤u.size:=(gV hsu).1
    have hsfx:=xA hsu
    have hsfl:=zI u
    (repeat (first|refine nx @hge ?_|refine cf (hst) ?_))
    refine aj ?_ ?_
    rotate_left
    ·intro h;cases h
    intro _
    refine aZ ?_
    refine pM (wr:=true) ([]:List (Nat×AV)) (by kernel_rfl) (by simp only[kD,kk,Nat.reduceAdd,Nat.reduceLT,Nat.reduceEqDiff, ↓reduceIte,reduceCtorEq,hge,hsfx,Cb,CO];first|done|rfl) ?_ (by kernel_rfl) ?_
    ·exact qP
    try refine nx (p3 @hge @Cb @CO) ?_
    refine⟨k+1,by omega,by omega,?_⟩
    rw[hss,←hnx]
    exact bQ
  intro hge
  have hk':k=ps.length:=by have:¬k<ps.length:=by simpa using hge
                           omega
  subst hk'
  rw[aeZ,afu]
  have hsl:=zk ps l ps.length
  generalize qH ps l ps.length=X at hsl hF⊢
  try refine nv ?_
  refine aj ?_ ?_
  ·intro hr
   subst hr
   rw[if_pos rfl] at hF hw'
   obtain⟨b,hb⟩:∃b,l[aK ps]? =some b:=⟨_,adH (by omega)⟩
   have eb:l.getD (aK ps) dG=b:=qy hb
   have hLd:l.drop (aK ps)=[b]:=by
    rw[ajF,hb,ajW (by omega)];rfl
   rw[eb] at hF
   rw[hLd]
   have hbz:=hlb b (aem hb)
   obtain⟨bp,br⟩:=b
   have hb1:=hbz.1
   simp only at hb1 hF
   have o2:∀l∈List.map (fun l=>List.map C.d l) (List.map encS bp),l.length=1:=by
    intro l hl
    obtain⟨y,hy,rfl⟩:=agh.1 hl
    obtain⟨z,_,rfl⟩:=agh.1 hy
    rfl
   refine aZ ?_
   refine dr ([]) ?_ ?_
   ·exact qP
   have hLI:decide ((12:Int)<(ps.length:Int)+(bp.length:Int))=decide (12<(X++bp).length):=ajs.2 (by rw[afI];omega)
   try refine nv ?_
   refine aj ?_ ?_
   ·intro h12
    simp only[ae1] at h12
    rw[hLI] at h12
    rw[Me,if_pos (agw h12)] at hF
    try refine nv ?_
    refine rA [] ?_
    refine⟨?_,rfl⟩
    rw[hF];rfl
   ·intro h12
    simp only[ae1] at h12
    rw[hLI] at h12
    rw[Me,if_neg (ajJ h12)] at hF
    have e00:Int.toNat 0=0:=rfl
    refine aZ ?_
    refine dr ([]) ?_ ?_
    ·exact eQ @o2
    refine aZ ?_
    refine bC (gW (bid:=11) (id:=106) (sz:=1) (j:=0) (ys:=X.map encS++bp.map encS) (by decide) rfl rfl (by simp[aN,Ab.put,Ab.get]) (by simp[hsl])) ?_
    refine fE ?_
    try refine nx @e00 ?_
    refine rA [] ?_
    refine⟨?_,rfl⟩
    rw[hF];simp[VQ,pI]
  ·intro hr
   subst hr
   rw[if_neg (by simp)] at hF
   refine aZ ?_
   refine bC (gW (bid:=11) (id:=7) (sz:=1) (j:=0) (ys:=X.map encS) (by decide) rfl rfl rfl (by simp[hsl])) ?_
   refine fE ?_
   try refine nv ?_
   refine rA [] ?_
   refine⟨?_,rfl⟩
   rw[hF];rfl
end
section
open Go.Ab Tys
variable [Dr]
def z229.kk:=p2 (p11 kB kS Tryz.ntmps229 Tryz.underlying286 Tryz.underlying74 Tryz.underlying9 We iW acg jy JK) (p10 JO lU sG afS abB IP rZ nU jB Tryz.results229)
open z229 in
theorem aaR (p q:bV) (hp:PB 1000000 p) (hq:PB 1000000 q):AC Tryz.prog 229 [aPat p,aPat q] [] (fun r st=>r= .tup [acY (l7 p q),pB (l7 p q).isSome]∧st=[]):=by
 have hw:=VC q p hq hp
 have hfr:=fun h=>aek (p:=p) (q:=q) 7 h
 have hB0:l7 p q=if iC q p then l7 p q else none:=by
  unfold l7;split<;>rfl
 have hok:iC q p=true→iU p=true∧iU q=true:=fun h=>by
  simp only[iC,afA] at h
  exact⟨h.1.1.1.1.2,h.1.1.1.1.1⟩
 have hBs:iC q p=true→(l7 p q).isSome=true:=fun h=>by unfold l7;rw[if_pos h];rfl
 have hp1:=hp.1
 have hq1:=hq.1
 have hpg:=hp.get
 have hqg:=hq.get
 generalize l7 p q=M at hfr hB0 hBs
 generalize iC q p=wb at hw hfr hB0 hok hBs
 obtain⟨ps,rp⟩:=p
 obtain⟨qs,rq⟩:=q
 simp only at hfr hp1 hq1 hpg hqg
 refine df Tryz.func229 Tryz.ntmps229 fun x hx=>?_
 (repeat (first|refine nv ?_|refine cf (hw) ?_))
 refine aj ?_ ?_
 ·intro h
  have h':wb=false:=by simpa using h
  rw[h',if_neg (by simp)] at hB0
  try refine nv ?_
  refine rA [] ?_
  refine⟨?_,rfl⟩
  rw[hB0];rfl
 intro h
 have h':wb=true:=by simpa using h
 obtain⟨op,oq⟩:=hok h'
 obtain⟨hlen,hfr⟩:=hfr h'
 have hBs:=hBs h'
 obtain⟨bl,rfl⟩:=ahM.1 hBs
 simp only[Option.getD_some] at hfr
 have hqne:qs≠[]:=by
  have:=(qA.1 oq).1
  intro e;rw[e] at this;simp at this
 have hcl:=Fp qs hqne hq1
 have hpo:=dO op
 clear hB0 hw hBs
 try refine nv ?_
 refine nJ [] (hcl) ?_
 rintro r st' ⟨rfl,rfl⟩<;>refine nP ?_
 try refine nv ?_
 refine mQ (kH (i:=7) (id:=100) (sz:=2) rfl rfl (by omega)) ?_
 refine fE ?_
 try refine nv ?_
 refine au (ι:=Nat) (I:=fun k=>⟨69,[(2, .c (.ptr 2 0)),(3, .c (.ptr 3 0)),(6, .c (.ms 7 1 0 qs.length)),(7, .c (.ms 100 2 0 (P8 7 ps k).length)),(19,jr ps),(20,I .i64 ps.length),(21,I .i64 k)],
  [(2, .box ((bU ⟨ps,rp⟩).map C.d)),(3, .box ((bU ⟨qs,rq⟩).map C.d)),(7,ay 1 ((CG ps qs k).map encS)),(100, .arr 2 (P8 7 ps k))]⟩)
  (Inv:=fun k=>k≤ps.length) (μ:=fun k=>ps.length-k) 0 (by omega) ?_ ?_
 ·(refine bi (fun i=>i) rfl ?_ ⟨?_,?_,?_,bW hx (by simp[ae,Ab.get])⟩<;>first|(simp only[kE,ay, ↓reduceIte,Nat.reduceEqDiff,reduceCtorEq,CG,P8,Lh];done)|simp[aH,ax,ah,Ab.get,aJ,cZ,aB,bF,aS,aO,aQ,aT,aP,ae,List.flatten,CG,P8,Lh])
 intro k hk
 have hrl:=Qv 7 ps k
 try refine nv ?_
 refine aj ?_ ?_
 ·intro hlt
  have hlt':k<ps.length:=by simpa using hlt
  obtain⟨u,hu,he,_⟩:=round encS ps k noS hlt'
  have eu:=qy (z:=noS) hu
  have hus:u.size≤1000000:=by rw[←eu];exact hpg k
  have hst:=oL u
  rw[qK (by rw[←eu];exact hpo k hlt')] at hst
  have hv9:=Jr ps qs k k (afJ _)
  have hln:=AZ ps qs k
  have hsz:((CG ps qs k).getD k noS).size≤1000000:=by rw[adI,hv9,←adI];exact hqg k
  have htx:CG ps qs (k+1)=if bG u then(CG ps qs k).set k (trimS ((CG ps qs k).getD k noS) (l9 u)) else CG ps qs k:=by rw[CG,eu]
  have hrw:P8 7 ps (k+1)=P8 7 ps k++(if bG u then [[.mv 7 1 k 1, .d (.v (.bool false))]] else []):=by rw[P8,eu]
  have hge:=lI encS (CG ps qs k) k noS (by omega)
  have htr:=ael ((CG ps qs k).getD k noS) (l9 u) hsz (ajo (zI u) hus)
  generalize (CG ps qs k).getD k noS=v at hsz htx hge htr
  cases hsu:bG u with
  |false=>
   rw[hsu] at hst htx hrw
   rw[if_neg (by simp)] at htx hrw
   rw[ajt] at hrw
   (repeat (first|refine nx @he ?_|refine cf (hst) ?_))
   refine aj ?_ ?_
   ·intro h;cases h
   intro _
   try refine nv ?_
   refine⟨k+1,by omega,by omega,?_⟩
   rw[htx,hrw]
   exact Dc @Lh
  |true=>
   rw[hsu] at hst htx hrw
   rw[if_pos rfl] at htx hrw
   have hsz1:1≤u.size:=(gV hsu).1
   have hsfx:=xA hsu
   (repeat (first|refine nx @he ?_|refine cf (hst) ?_))
   refine aj ?_ ?_
   rotate_left
   ·intro h;cases h
   intro _
   refine aZ ?_
   have e9:((k:Int)+1-k).toNat=1:=by omega
   refine dx ([(36,Str (trimS v (l9 u)))]) (p3 @hge @hsfx @CO) ?_ ?_
   ·exact eQ @htr
   try refine nx @e9 ?_
   refine⟨k+1,by omega,by omega,?_⟩
   rw[htx,hrw]
   generalize (CG ps qs k).set k (trimS v (l9 u))=Y
   exact enS (p3 @aI @Lh @Xu) (fun i=>if i=100 then 48 else i)
 intro hge
 have hk':k=ps.length:=by have:¬k<ps.length:=by simpa using hge
                          omega
 subst hk'
 have hln:=AZ ps qs ps.length
 have hrl:=Qv 7 ps ps.length
 generalize hX:CG ps qs ps.length=X at hfr hln
 try refine nv ?_
 refine aj ?_ ?_
 ·intro hr
  subst hr
  have e8:((qs.length:Int)-ps.length).toNat=qs.length-ps.length:=by omega
  refine dx ([]) @e8 ?_ ?_
  ·exact qP
  rw[if_pos rfl] at hfr
  refine aZ ?_
  refine bC (E8 (bid:=67) (id:=7) (sz2:=1) (ys:=X.map encS) (by decide) rfl rfl (hfr.trans (by rw[ajM];rfl:_=(bl.map bU).map fun l=>l.map C.d))) ?_
  refine fE ?_
  refine bC (aY (i:=7) (id:=67) (sz:=2) (ys:=bl.map bU) rfl rfl ?_) ?_
  ·have:=congrArg List.length hfr
   simpa using this
  refine fE ?_
  try refine nv ?_
  refine rA [] ?_
  refine⟨?_,rfl⟩
  rfl
 ·intro hr
  subst hr
  rw[if_neg (by simp),ajt] at hfr
  refine aZ ?_
  refine bC (E8 (bid:=100) (id:=7) (sz2:=1) (ys:=X.map encS) (by decide) rfl rfl (hfr.trans (by rw[ajM];rfl:_=(bl.map bU).map fun l=>l.map C.d))) ?_
  refine fE ?_
  refine bC (aY (i:=7) (id:=100) (sz:=2) (ys:=bl.map bU) rfl rfl ?_) ?_
  ·have:=congrArg List.length hfr
   simpa using this
  refine fE ?_
  try refine nv ?_
  refine rA [] ?_
  refine⟨?_,rfl⟩
  rfl
end
section
open Go.Ab Tys
theorem nK {α:Type} {l:List α} {k:Nat} {v z:α} (h:l[k]? =some v):l.getD k z=v:=by rw[adI,h];rfl
theorem abu (l:List Rev) (i:Nat):((l.map aA).getD i []).getD 0 (D.v (.string ByteArray.empty))=D.v (.string (l.getD i ag).path):=by
 simp only[adI,ag5]
 cases l[i]?<;>rfl
variable [zg]
end
section
open Go.Ab Tys
variable [Dr]
theorem aiy (l:List Rev) (i:Nat):(List.drop 3 ((l.map aA).getD i [])).getD 0 (D.v (.int .i64 0))=D.v (.int .i64 (l.getD i ag).act):=by
 simp only[adI,ag5]
 cases l[i]?<;>rfl
theorem emS:ByteArray.empty=noS:=rfl
theorem i00:Int.toNat 0=0:=rfl
def z76.kk:=p2 (p10 kB kG kM Tryz.ntmps76 dM vG jQ iF vS Bz) (p9 EY KW qU mG iq Va jB Em Tryz.results76)
open z76 in
theorem UR (d:aW) (h0:0<d.revs.length) (L:jA) (hL:L.revs=d.revs) (la:List (akK×Int)) (me:List (Int×List Int)) (hla:yD d d.revs.length la) (p:akK):
 AC Tryz.prog 76 [.c (.pp (uw L la me)),Str p] [] (fun r st=>r=B (live d p)∧st=[]):=by
 have hl0:0<L.revs.length:=by rw[hL];exact h0
 rcases hla.last p with⟨a1,a2⟩|⟨j,v,a1,a2,a3⟩
 ·have hR:live d p=false:=by unfold live;rw[a2]
  rw[hR]
  have er:=bH aA L.revs 0 ag hl0
  refine df Tryz.func76 Tryz.ntmps76 fun x hx=>?_
  refine aZ ?_
  refine gg ?_
  refine aZ ?_
  refine dD (wr:=false) 400 (by simp only[kk,Nat.reduceAdd,Nat.reduceLT,Nat.reduceEqDiff, ↓reduceIte,reduceCtorEq,nO,a1,Option.map_none,Option.isSome,er,i00];first|done|rfl) ?_ ?_
  ·exact eQ @rJ
  refine aZ ?_
  refine gy (p2 @er @i00) ?_ ?_
  ·exact qP
  try refine nv ?_
  refine rA [] ?_
  refine⟨?_,rfl⟩
  rfl
 ·have hR:live d p=!gone v:=by unfold live;rw[a3]
  rw[hR]
  have hj:=(adK.1 a2).1
  have er:=bH aA L.revs j ag (by rw[hL];exact hj)
  have ev:L.revs.getD j ag=v:=by rw[hL];exact nK a2
  rw[ev] at er
  have hj2:(j:Int)<(L.revs.length:Int):=by rw[hL];omega
  refine df Tryz.func76 Tryz.ntmps76 fun x hx=>?_
  refine aZ ?_
  refine gg ?_
  refine aZ ?_
  refine dD (wr:=false) 400 (by simp only[kk,Nat.reduceAdd,Nat.reduceLT,Nat.reduceEqDiff, ↓reduceIte,reduceCtorEq,nO,a1,Option.map_some,Option.isSome,er];first|done|rfl) ?_ ?_
  ·exact eQ @rJ
  refine aZ ?_
  refine gy @er ?_ ?_
  ·exact qP
  try refine nv ?_
  refine rA [] ?_
  refine⟨?_,rfl⟩
  congr 1
  by_cases c1:v.act=3<;>by_cases c2:v.act=5<;>simp[gone,c1,c2]
def z78.kk:=p2 (p9 kB kM Tryz.ntmps78 dM vG jQ fK vS Bz) (p9 EY KW qU mG iq Va jB Em Tryz.results78)
open z78 in
theorem QZ (d:aW) (h0:0<d.revs.length) (L:jA) (hL:L.revs=d.revs) (la:List (akK×Int)) (me:List (Int×List Int)) (hla:yD d d.revs.length la) (p:akK):
 AC Tryz.prog 78 [.c (.pp (uw L la me)),Str p] [] (fun r st=>r=I .i64 (bf d p)∧st=[]):=by
 rcases hla.last p with⟨a1,a2⟩|⟨j,v,a1,a2,a3⟩
 ·have hR:bf d p=0:=by unfold bf;rw[a2];rfl
  rw[hR]
  refine df Tryz.func78 Tryz.ntmps78 fun x hx=>?_
  refine aZ ?_
  refine gg ?_
  refine aZ ?_
  refine dD (wr:=false) 400 (by simp only[kk,Nat.reduceAdd,Nat.reduceLT,Nat.reduceEqDiff, ↓reduceIte,reduceCtorEq,nO,a1,Option.map_none,Option.isSome];first|done|rfl) ?_ ?_
  ·exact eQ @rJ
  try refine nv ?_
  refine aj ?_ ?_
  ·intro h;cases h
  intro _
  try refine nv ?_
  refine rA [] ?_
  refine⟨?_,rfl⟩
  rfl
 ·have hR:bf d p=v.num:=by unfold bf;rw[a3];rfl
  rw[hR]
  have hj:=(adK.1 a2).1
  have er:=bH aA L.revs j ag (by rw[hL];exact hj)
  have ev:L.revs.getD j ag=v:=by rw[hL];exact nK a2
  rw[ev] at er
  have hj2:(j:Int)<(L.revs.length:Int):=by rw[hL];omega
  refine df Tryz.func78 Tryz.ntmps78 fun x hx=>?_
  refine aZ ?_
  refine gg ?_
  refine aZ ?_
  refine dD (wr:=false) 400 (by simp only[kk,Nat.reduceAdd,Nat.reduceLT,Nat.reduceEqDiff, ↓reduceIte,reduceCtorEq,nO,a1,Option.map_some,Option.isSome];first|done|rfl) ?_ ?_
  ·exact eQ @rJ
  try refine nv ?_
  refine aj ?_ ?_
  rotate_left
  ·intro h;cases h
  intro _
  try refine nx @er ?_
  refine rA [] ?_
  refine⟨?_,rfl⟩
  rfl
def z146.kk:=p8 kB Tryz.ntmps146 Tryz.underlying114 Tryz.underlying4 PH Yb IP Tryz.results146
open z146 in
theorem ae2 (l:List Bool) (hl:l.length≤1000000):
 AC Tryz.prog 146 [.c (.d (.ps 1 (l.map eB))),B true] [] (fun x st=>(∃i:Int,x=I .i64 i∧decide (0≤i)=decide (true∈l))∧st=[]):=by
 refine df Tryz.func146 Tryz.ntmps146 fun x hx=>?_
 try refine nv ?_
 refine au (ι:=Nat) (I:=fun k=>⟨19,[(0, .c (.d (.ps 1 (l.map eB)))),(1,B true),(7,I .i64 l.length),(8,I .i64 k)],[]⟩)
  (Inv:=fun k=>k≤l.length∧¬true∈l.take k) (μ:=fun k=>l.length-k) 0 ⟨by omega,by simp⟩ ?_ ?_
 ·exact bQ
 rintro k ⟨hk,hno⟩
 try refine nv ?_
 refine aj ?_ ?_
 ·intro hlt
  have hlt':k<l.length:=by simpa using hlt
  obtain⟨v,hv,he,htk⟩:=round eB l k false hlt'
  try refine nx @he ?_
  refine aj ?_ ?_
  ·intro h
   have h':v=true:=by cases v;simp at h;rfl
   have hm:true∈l:=by rw[←h'];exact aem hv
   try refine nv ?_
   refine rA [] ?_
   exact⟨⟨k,rfl,by rw[ajk hm];simp⟩,rfl⟩
  ·intro h
   have h':v=false:=by cases v;rfl;simp at h
   try refine nv ?_
   refine⟨k+1,⟨by omega,by rw[htk,afs];rintro(h1|h1);exact hno h1;rw[h'] at h1;simp at h1⟩,by omega,?_⟩
   exact bQ
 intro hge
 have hk':k=l.length:=by have:¬k<l.length:=by simpa using hge
                         omega
 rw[hk',afu] at hno
 try refine nv ?_
 refine rA [] ?_
 exact⟨⟨-1,rfl,by rw[ahK hno];decide⟩,rfl⟩
def z77.kk:=p3 kB Tryz.ntmps77 Tryz.results77
open z77 in
theorem U4 (l:List Bool) (hl:l.length≤1000000):
 AC Tryz.prog 77 [.c (.d (.ps 1 (l.map eB))),B true] [] (fun x st=>x=B (decide (true∈l))∧st=[]):=by
 refine df Tryz.func77 Tryz.ntmps77 fun x hx=>?_
 try refine nv ?_
 refine nJ [] (ae2 l hl) ?_
 rintro r st' ⟨⟨i,rfl,hi⟩,rfl⟩<;>refine nP ?_
 try refine nv ?_
 refine rA [] ?_
 refine⟨?_,rfl⟩
 rw[←hi]
end
section
open Go.Ab Tys
def jO (e:fA):List bV:=e.left::e.right::e.holes
theorem Ak (e:fA):(jO e).length=2+e.holes.length:=by simp only[jO,List.length_cons];omega
theorem NL (e:fA):((jO e).length:Int)=2+(e.holes.length:Int):=by have:=Ak e;omega
def J5 (l:List bV):Nat:=(l.map fun p=>p.parts.length).sum
def szM (m:List fA):Nat:=(m.map fun e=>J5 (jO e)).sum
theorem U8 {α:Type} {f:α→Nat} {c:Nat}:∀{l:List α},(∀x∈l,f x≤c)→(l.map f).sum≤l.length*c
 |[],_=>by simp
 |x::l,h=>by
  have h1:=h x aj2
  have h2:=U8 (l:=l) (f:=f) (c:=c) fun y hy=>h y (ajl _ hy)
  simp only[agV,List.sum_cons,List.length_cons,akg,Nat.one_mul];omega
theorem QD {α:Type} {f:α→Nat}:∀{l:List α} {x:α},x∈l→f x≤(l.map f).sum
 |[],x,h=>by cases h
 |y::l,x,h=>by
  simp only[agV,List.sum_cons]
  rcases afr.1 h with rfl|h
  ·omega
  ·have:=QD (f:=f) h;omega
theorem ac7 (l:List bV) (p:bV):J5 (l++[p])=J5 l+p.parts.length:=by simp[J5]
theorem adB (l:List bV) (n:Nat):J5 (l.take n)≤J5 l:=by
 have:J5 l=J5 (l.take n)+J5 (l.drop n):=by
  conv=>lhs;rw[←agu n l]
  simp only[J5,ajA,List.sum_append]
 omega
theorem adw (l:List fA) (e:fA):szM (l++[e])=szM l+J5 (jO e):=by simp[szM]
def tX (m:List fA):Bool:=(m.all fun e=>(jO e).all fun p=>p.parts.all fun s=>decide (s.size≤60))&&(decide (szM m≤60)&&decide (m.length≤6))
theorem VD {m:List fA} {e:fA} {p:bV} {s:akK} (he:e∈m) (hp:p∈jO e) (hs:s∈p.parts) (h:¬s.size≤60):tX m=false:=by
 cases hb:tX m with
 |false=>rfl
 |true=>
  simp only[tX,afA] at hb
  have h1:=agr.1 hb.1 e he
  have h2:=agr.1 h1 p hp
  have h3:=agr.1 h2 s hs
  exact absurd (agw h3) h
theorem RS {m:List fA} (h:∀e∈m,∀p∈jO e,∀s∈p.parts,s.size≤60):tX m=(decide (szM m≤60)&&decide (m.length≤6)):=by
 have:(m.all fun e=>(jO e).all fun p=>p.parts.all fun s=>decide (s.size≤60))=true:=
  agr.2 fun e he=>agr.2 fun p hp=>agr.2 fun s hs=>ajk (h e he p hp s hs)
 rw[tX,this,ajq]
theorem YK {m:List fA} (h:tX m=true):m.length≤6∧∀e∈m,∀p∈jO e,PB 60 p:=by
 simp only[tX,afA,aeB] at h
 obtain⟨ha,h5,h6⟩:=h
 refine⟨h6,fun e he p hp=>⟨?_,fun s hs=>?_⟩⟩
 ·have h1:=QD (f:=fun p:bV=>p.parts.length) hp
  have h2:=QD (f:=fun e=>J5 (jO e)) he
  have h3:J5 (jO e)=((jO e).map fun p=>p.parts.length).sum:=rfl
  have h4:szM m=(m.map fun e=>J5 (jO e)).sum:=rfl
  omega
 ·have h1:=agr.1 ha e he
  have h2:=agr.1 h1 p hp
  exact agw (agr.1 h2 s hs)
variable [zg]
def z16.kk:=p2 (p12 kB kG kS Tryz.ntmps16 Tryz.underlying23 Tryz.underlying74 Tryz.underlying77 Tryz.underlying9 iW KG adg jy) (p12 Pe lU Iu IV Ir aeb rZ nU Pj WZ jB Tryz.results16)
open z16 in
theorem Ku (m:List fA) (hm:m.length≤1048576) (hb:∀e∈m,EB 1048576 e):
 AC Tryz.prog 16 [iV m] [] (fun r st=>r=B (tX m)∧st=[]):=by
 have hpb:∀e∈m,∀p∈jO e,PB 1048576 p:=by
  intro e he p hp
  rcases afr.1 hp with rfl|hp
  ·exact(hb e he).left
  rcases afr.1 hp with rfl|hp
  ·exact(hb e he).right
  ·exact(hb e he).holes p hp
 have hpl:∀e∈m,(jO e).length≤1048578:=fun e he=>by have:=(hb e he).len;rw[Ak];omega
 have hsz:∀e∈m,J5 (jO e)≤1099513724928:=fun e he=>by
  have h1:=U8 (l:=jO e) (f:=fun p=>p.parts.length) (c:=1048576) fun p hp=>(hpb e he p hp).1
  have h2:=hpl e he
  unfold J5
  omega
 have hszk:∀k,szM (m.take k)≤1152921504606846976+3000000000000:=fun k=>by
  have h1:=U8 (l:=m.take k) (f:=fun e=>J5 (jO e)) (c:=1099513724928) fun e he=>hsz e (akB he)
  have h2:(m.take k).length≤1048576:=by simp;omega
  unfold szM
  omega
 refine df Tryz.func16 Tryz.ntmps16 fun x hx=>?_
 try refine nv ?_
 refine au (ι:=Nat) (I:=fun k=>⟨54,[(0,iV m),(3,I .i64 (szM (m.take k))),(10,iV m),(11,I .i64 m.length),(12,I .i64 k)],[]⟩)
  (Inv:=fun k=>k≤m.length∧∀e∈m.take k,∀p∈jO e,∀s∈p.parts,s.size≤60) (μ:=fun k=>m.length-k) 0 ⟨by omega,by simp⟩ ?_ ?_
 ·(refine bi (fun i=>i) rfl ?_ ⟨?_,?_,?_,bW hx (by simp[ae,Ab.get])⟩<;>first|(simp only[kE,ay, ↓reduceIte,Nat.reduceEqDiff,reduceCtorEq,szM];done)|simp[aH,ax,ah,Ab.get,aJ,cZ,aB,bF,aS,aO,aQ,aT,aP,ae,List.flatten,szM])
 rintro k ⟨hk,hall⟩
 have hk0:=hszk k
 try refine nv ?_
 refine aj ?_ ?_
 ·intro hlt
  have hlt':k<m.length:=by simpa using hlt
  obtain⟨e,hv,he,htk⟩:=round fV m k Un hlt'
  have hem:=aem hv
  have hpbe:=hpb e hem
  have hple:=hpl e hem
  have hszN:=adw (m.take k) e
  rw[←htk] at hszN
  have hszk1:=hszk (k+1)
  generalize szM (m.take k)=N0 at hszN hk0⊢
  have o2:∀l∈List.map (fun l=>List.map C.d l) (List.map bU e.holes),l.length=2:=by
   intro l hl
   obtain⟨y,hy,rfl⟩:=agh.1 hl
   obtain⟨z,_,rfl⟩:=agh.1 hy
   rfl
  have hehl:e.holes.length≤1048576:=(hb e hem).len
  refine aZ ?_
  refine gx @he ?_
  refine aZ ?_
  refine gq ?_ ?_
  ·exact eQ @o2
  refine aZ ?_
  refine mQ (aY (i:=23) (id:=23) (ys:=(jO e).map bU) rfl rfl (by rw[ae1,Ak])) ?_
  refine fE ?_
  refine au (ι:=Nat) (I:=fun j=>⟨54,[(0,iV m),(3,I .i64 (N0+J5 ((jO e).take j):Nat)),(10,iV m),(11,I .i64 m.length),(12,I .i64 k),(23,jR (jO e)),(24,I .i64 (jO e).length),(25,I .i64 j)],[]⟩)
   (Inv:=fun j=>j≤(jO e).length∧∀p∈(jO e).take j,∀s∈p.parts,s.size≤60) (μ:=fun j=>(jO e).length-j) 0 ⟨by omega,by simp⟩ ?_ ?_
  ·(refine bi (fun i=>i) rfl ?_ ⟨?_,?_,?_,bW hx (by simp[ae,Ab.get])⟩<;>first|(simp only[kE,ay, ↓reduceIte,Nat.reduceEqDiff,reduceCtorEq,J5,Ak,NL];done)|simp[aH,ax,ah,Ab.get,aJ,cZ,aB,bF,aS,aO,aQ,aT,aP,ae,List.flatten,J5,Ak,NL])
  rintro j ⟨hj,hallj⟩
  try refine nv ?_
  refine aj ?_ ?_
  ·intro hlt2
   have hlt2':j<(jO e).length:=by simpa using hlt2
   obtain⟨p,hp,hpe,htj⟩:=round bU (jO e) j dG hlt2'
   have hpb1:=hpbe p (aem hp)
   have hs1:=ac7 ((jO e).take j) p
   rw[←htj] at hs1
   have hs2:=adB (jO e) (j+1)
   have hs3:N0+J5 (jO e)≤1152921504606846976+3000000000000:=by omega
   generalize hM1:J5 ((jO e).take (j+1))=M1 at hs1 hs2
   generalize J5 ((jO e).take j)=M0 at hs1⊢
   have hplen:=hpb1.1
   have hadd:(((N0+M0:Nat)):Int)+((p.parts.length:Nat):Int)=((N0+M1:Nat):Int):=by omega
   obtain⟨ps,pr⟩:=p
   simp only at hplen hadd hs1
   try refine nx (p2 @hpe @hadd) ?_
   refine au (ι:=Nat) (I:=fun i=>⟨54,[(0,iV m),(3,I .i64 (N0+M1:Nat)),(10,iV m),(11,I .i64 m.length),(12,I .i64 k),(23,jR (jO e)),(24,I .i64 (jO e).length),(25,I .i64 j),(35,jr ps),(36,I .i64 ps.length),(37,I .i64 i)],[]⟩)
    (Inv:=fun i=>i≤ps.length∧∀s∈ps.take i,s.size≤60) (μ:=fun i=>ps.length-i) 0 ⟨by omega,by simp⟩ ?_ ?_
   ·exact bQ
   rintro i ⟨hi,halli⟩
   try refine nv ?_
   refine aj ?_ ?_
   ·intro hlt3
    have hlt3':i<ps.length:=by simpa using hlt3
    obtain⟨s,hs,hse,hti⟩:=round encS ps i noS hlt3'
    have hsb:=hpb1.2 s (aem hs)
    try refine nx @hse ?_
    refine aj ?_ ?_
    ·intro hc
     have hc':¬s.size≤60:=by simp at hc;omega
     have hbad:=VD hem (aem hp) (aem hs) hc'
     try refine nv ?_
     refine rA [] ?_
     refine⟨?_,rfl⟩
     rw[hbad]
    intro hc
    have hc':s.size≤60:=by simp at hc;omega
    try refine nv ?_
    refine⟨i+1,⟨by omega,?_⟩,by omega,?_⟩
    ·intro y hy
     rw[hti,afs] at hy
     rcases hy with hy|hy
     ·exact halli y hy
     ·simp at hy;rw[hy];exact hc'
    ·exact bQ
   intro hge3
   have hi':i=ps.length:=by have:¬i<ps.length:=by simpa using hge3
                            omega
   rw[hi',afu] at halli
   try refine nv ?_
   refine⟨j+1,⟨by omega,?_⟩,by omega,?_⟩
   ·intro y hy
    rw[htj,afs] at hy
    rcases hy with hy|hy
    ·exact hallj y hy
    ·simp at hy;rw[hy];exact halli
   ·exact Dc @hM1
  intro hge2
  have hj':j=(jO e).length:=by have:¬j<(jO e).length:=by simpa using hge2
                               omega
  rw[hj',afu] at hallj
  try refine nv ?_
  refine⟨k+1,⟨by omega,?_⟩,by omega,?_⟩
  ·intro y hy
   rw[htk,afs] at hy
   rcases hy with hy|hy
   ·exact hall y hy
   ·simp only[aft] at hy;rw[hy];exact hallj
  ·rw[hj',afu]
   exact Dc @hszN
 intro hge
 have hk':k=m.length:=by have:¬k<m.length:=by simpa using hge
                         omega
 rw[hk',afu] at hall
 have hkm:m.take k=m:=by rw[hk',afu]
 rw[hkm] at hk0⊢
 try refine nv ?_
 refine rA [] ?_
 refine⟨?_,rfl⟩
 rw[RS hall]
 by_cases a:szM m≤60<;>by_cases b:m.length≤6<;>simp[a,b]<;>omega
end
section
open Go.Ab Tys
variable [Dr]
theorem VJ {κ ν:Type} {ke:κ→Bool×List D} {ve:ν→Bool×List D} {l:List (κ×ν)} {a:List jq} {e:jq} {b:List jq} (h:bz ke ve l=a++e::b):∃x k y,l=x++k::y∧a=bz ke ve x∧e=(ke k.1,ve k.2)∧b=bz ke ve y:=by
 obtain⟨x,r,rfl,rfl,h2⟩:=List.map_eq_append_iff.1 h
 obtain⟨k,y,rfl,rfl,rfl⟩:=List.map_eq_cons_iff.1 h2
 exact⟨x,k,y,rfl,rfl,rfl,rfl⟩
theorem abT (k:Int):(H7 k).map (·.1)=Lc k:=by
 unfold H7 Lc
 split
 ·rfl
 ·split<;>rfl
theorem Wy (k:Int):(Lc k).Pairwise fun x y=>x≤y:=by
 unfold Lc
 split
 ·simp
 ·split<;>simp
theorem agk (k:Int):Lc k≠[]:=by
 unfold Lc
 split
 ·simp
 ·split<;>simp
def z18.kk:=p2 (p11 kB kS kM Tryz.ntmps18 Tryz.underlying55 zB Wp iH wM uf sH) (p10 J7 VI GH acM adG mG ny FB DU Tryz.results18)
open z18 in
theorem Ji (d:aW) (hg:Good d.revs) (hN:d.revs.length≤512) (hn:rM d) (t:jo) (ht:t.to.size≤100000) (hm:t.move.size≤100000):
 AC Tryz.prog 18 [lT d,Z8 t] [] (fun r st=>r=(if mf d t then .tup [(false,[.d (.ps 1 ((Lc t.kind).map xW))]),pI 0] else .tup [VM,pI 170])∧st=[]):=by
 have hO:=Xd d hg hN hn t ht hm
 have hW:=Xz t.kind
 refine df Tryz.func18 Tryz.ntmps18 fun x hx=>?_
 try refine nv ?_
 refine nJ [] (hO) ?_
 rintro r st' ⟨⟨rfl,hf⟩|rfl,rfl⟩<;>refine nP ?_
 ·try refine nv ?_
  refine aj ?_ ?_
  rotate_left
  ·intro h;cases h
  intro _
  try refine nv ?_
  refine rA [] ?_
  refine⟨?_,rfl⟩
  rw[hf];rfl
 cases hf:mf d t with
 |false=>
  try refine nv ?_
  refine aj ?_ ?_
  rotate_left
  ·intro h;cases h
  intro _
  try refine nv ?_
  refine rA [] ?_
  refine⟨?_,rfl⟩
  rfl
 |true=>
 try refine nv ?_
 refine aj ?_ ?_
 ·intro h;cases h
 intro _
 (repeat (first|refine nv ?_|refine cf (hW) ?_))
 refine mQ (kH (i:=8) (id:=100) (sz:=1) rfl rfl (by omega)) ?_
 refine fE ?_
 refine au (ι:=Option jq×List (Int×(Int×Int×Nat))×List Int) (I:=fun i=>⟨33,[(8, .c (.ms 100 1 0 i.2.2.length)),(21, .c (.ptr 21 0))],[(21, .iter i.1 (bz kN vW i.2.1)),(100,ay 1 (i.2.2.map xW))]⟩)
  (Inv:=fun i=>(i.2.2++i.2.1.map (·.1)).Perm (Lc t.kind)) (μ:=fun i=>i.2.1.length) (none,H7 t.kind,[]) (by simp[abT]) ?_ ?_
 ·exact bQ
 rintro⟨cur,rest,m⟩ h
 simp only at h⊢
 have hlen:=h.length_eq
 have hc4:=PP t.kind
 simp only[afI,ae1] at hlen
 refine aZ ?_
 refine yM (id:=21) (by simp) (by simp only[kV, ↓reduceIte,Nat.reduceEqDiff,reduceCtorEq];first|done|rfl) rfl ?_ ?_
 ·intro h0
  refine fE ?_
  try refine nv ?_
  refine aj ?_ ?_
  ·intro hh;cases hh
  intro _
  have:rest=[]:=by simpa[bz] using h0
  subst this
  simp only[aj0,ajt] at h
  have hne:m≠[]:=by
   intro e;subst e
   exact agk t.kind (List.nil_perm.1 h)
  refine aZ ?_
  refine gg ?_
  refine nJ ([(100,ay 1 (m.map xW))]) (aa6 m hne (by omega) 100) ?_
  rintro rv9 st' ⟨rfl,rfl⟩<;>refine nP ?_
  rw[aax h (Wy t.kind)]
  refine bC (aY (i:=8) (id:=100) (ys:=(Lc t.kind).map xW) rfl rfl (by rw[ae1];exact h.length_eq)) ?_
  refine fE ?_
  try refine nv ?_
  refine rA [] ?_
  refine⟨?_,rfl⟩
  rfl
 intro l1 e l2 hsp
 obtain⟨xs,k,y,rfl,rfl,rfl,rfl⟩:=VJ hsp
 refine fE ?_
 (repeat (first|refine Io ?_|refine Gl (wr:=false) (by simp only[kk,Nat.reduceAdd,Nat.reduceLT,Nat.reduceEqDiff, ↓reduceIte,reduceCtorEq,jY];first|done|rfl) ?_))
 refine aj ?_ ?_
 rotate_left
 ·intro hh;cases hh
 intro _
 (repeat (first|refine Io ?_|refine Gl (wr:=false) (by simp only[kk,Nat.reduceAdd,Nat.reduceLT,Nat.reduceEqDiff, ↓reduceIte,reduceCtorEq,jY];first|done|rfl) ?_))
 refine⟨(some (kN k.1,vW k.2),xs++y,m++[k.1]),?_,by simp,?_⟩
 ·refine List.Perm.trans ?_ h
  simp only[ajA,agV,ahJ,List.cons_append,List.nil_append]
  exact List.Perm.append_left _ (List.perm_middle.symm)
 ·exact uZ (fun i=>if i=100 then 29 else i)
end
end Go.Proofs.YtcpgicfphakdaaaGreatDoor
