/- A part of the proof. -/
import Derived.Test.YtcpgicfphakdaaaGreatDoorRK18
import Derived.Test.YtcpgicfphakdaaaGreatDoorRK17
import Derived.Test.YtcpgicfphakdaaaGreatDoorRK9
import Derived.Test.YtcpgicfphakdaaaGreatDoorRL2
set_option maxRecDepth 100000
set_option maxHeartbeats 16000000
set_option linter.all false
namespace Go.Proofs.YtcpgicfphakdaaaGreatDoor
open Go.Ab Tys
variable [zG]
def Oj (ps:List ByteArray) (l:List aX) (k:Nat):List ByteArray:=jl ps l k++ps.drop k
theorem aap {ps:List ByteArray} {l:List aX} {k:Nat} (hk:k≤ps.length):(Oj ps l k).length=ps.length:=by
 rw[Oj,List.length_append,vN,List.length_drop];omega
theorem aa6 {ps:List ByteArray} {l:List aX} {k:Nat} (hk:k<ps.length):(Oj ps l k).getD k noS=ps.getD k noS:=by
 have:=vN ps l k
 rw[Oj,List.getD_eq_getElem?_getD,List.getElem?_append_right (by omega),List.getElem?_drop,List.getD_eq_getElem?_getD]
 congr 2;omega
theorem Zw {ps:List ByteArray} {l:List aX} {k:Nat} (hk:k<ps.length) (hs:aP (ps.getD k noS)=true):(Oj ps l k).set k (((l.getD (aj (ps.take k)) bz).parts.getD 0 noS)++jq (ps.getD k noS))=Oj ps l (k+1):=by
 have:=vN ps l k
 rw[Oj,Oj,jl,if_pos hs,List.set_append_right _ _ (by omega),List.drop_eq_getElem_cons hk,this,Nat.sub_self,List.set_cons_zero,List.append_assoc]
 rfl
theorem Xh {ps:List ByteArray} {l:List aX} {k:Nat} (hk:k<ps.length) (hs:aP (ps.getD k noS)=false):Oj ps l k=Oj ps l (k+1):=by
 rw[Oj,Oj,jl,if_neg (by rw[hs];simp),List.drop_eq_getElem_cons hk,List.append_assoc,List.getD_eq_getElem?_getD,List.getElem?_eq_getElem hk]
 rfl
theorem aaX (ps:List ByteArray) (l:List aX):Oj ps l ps.length=jl ps l ps.length:=by rw[Oj,List.drop_length,List.append_nil]
def aef.kk:=p2 (p11 kB kG kS Tryz.ntmps230 Tryz.underlying286 Tryz.underlying74 Tryz.underlying9 Hf df NH eH) (p11 yw yl dW gV UO Qn yR jO fM jy Tryz.results230)
open aef in
theorem WF (p:aX) (hp:PB 100000 p) (l:List aX) (hll:l.length≤100000) (hlb:∀b∈l,PB 100000 b):AC Tryz.prog 230 [aPat p,eU l] [] (fun r st=>r= .tup [FB (fC p l),pI (fC p l).2]∧st=[]):=by
 have hki:=zo p (hp.mono (by omega))
 have hF:=Qv p l
 have hok:fG p=decide (aS p=0):=rfl
 have hwd:jS p=aj p.parts+(if p.rest then 1 else 0):=rfl
 have hpo:=fun h=>dO (p:=p) h
 have hne:fG p=true→p.parts≠[]:=fun h=>by
  have:=(sW.1 h).1
  intro e;rw[e] at this;simp at this
 generalize aS p=cp at hki hF hok
 generalize fG p=op at hki hF hok hpo hne
 obtain⟨ps,rs⟩:=p
 have h1:=hp.1
 have hpg:=hp.get
 simp only[dL] at h1 hF hki hpo hne hwd hpg
 generalize fC ⟨ps,rs⟩ l=R at hF
 cases op with
 |false=>
  have hcp:¬cp=0:=by intro e;rw[e] at hok;cases hok
  simp only[Bool.false_and,Bool.false_eq_true,if_false] at hki hF
  refine bV Tryz.func230 Tryz.ntmps230 fun x hx=>?_
  (repeat (first|refine nv ?_|refine cf (hki) ?_))
  refine af ?_ ?_
  rotate_left
  ·intro h;simp at h;exact absurd h hcp
  intro _
  try refine nv ?_
  refine rA [] ?_
  refine⟨?_,rfl⟩
  rw[hF];simp[FB,hcp]
 |true=>
  have hcp:cp=0:=by have:=hok.symm;simpa using this
  subst hcp
  have hpo:=hpo rfl
  have hne:=hne rfl
  simp only[Bool.true_and,if_true] at hki hF
  have hs9:aj ps≤ps.length:=List.length_filter_le ..
  refine bV Tryz.func230 Tryz.ntmps230 fun x hx=>?_
  (repeat (first|refine nv ?_|refine cf (hki) ?_))
  refine af ?_ ?_
  ·intro h;cases h
  intro _
  try refine nv ?_
  refine af ?_ ?_
  ·intro hw
   have hw':¬l.length=jS ⟨ps,rs⟩:=by
    intro e
    rw[hwd] at e
    cases rs
    ·simp only[Bool.false_eq_true,if_false,Nat.add_zero] at e;simp[e] at hw
    ·simp only[if_true] at e;simp[e] at hw
   rw[if_neg hw'] at hF
   try refine nv ?_
   refine rA [] ?_
   refine⟨?_,rfl⟩
   rw[hF];rfl
  intro hw
  have hw':l.length=jS ⟨ps,rs⟩:=by
   rw[hwd]
   cases rs
   ·simp at hw
    simp only[Bool.false_eq_true,if_false];omega
   ·simp at hw
    simp only[if_true];omega
  rw[if_pos hw'] at hF
  rw[hwd] at hw'
  have hcl:=Eb ps hne (Nat.le_trans h1 (by omega))
  clear hki hok hwd hw
  try refine nv ?_
  refine ag (ι:=Nat) (I:=fun k=>⟨114,[(1,eU l),(2, .c (.ptr 2 0)),(4, .c (.ptr 4 0)),(6,I .i64 (aj ps)),(7,B rs),(43,eU l),(44,I .i64 l.length),(45,I .i64 k)],
   [(2, .box ((au ⟨ps,rs⟩).map C.d)),(4, .box [qm, .d (.v (.bool false))])]⟩)
   (Inv:=fun k=>k≤l.length∧∀i,i<k→DZ (l.getD i bz) (decide (i=aj ps))=true) (μ:=fun k=>l.length-k) 0 ⟨by omega,by omega⟩ ?_ ?_
  ·exact aW
  rintro k ⟨hk,hall⟩
  try refine nv ?_
  refine af ?_ ?_
  ·intro hlt
   have hlt':k<l.length:=by simpa using hlt
   obtain⟨b,hb,he,_⟩:=round au l k bz hlt'
   have eb:=fH (z:=bz) hb
   have hib:AC Tryz.prog 255 [aPat b,B (decide ((k:Int)=(aj ps:Nat)))] [] (fun r st=>r=B (DZ b (decide (k=aj ps)))∧st=[]):=by
    have e:decide ((k:Int)=(aj ps:Nat))=decide (k=aj ps):=decide_eq_decide.2 (by omega)
    rw[e]
    exact MF b _ ((hlb b (List.mem_of_getElem? hb)).mono (by omega))
   generalize hbb:DZ b (decide (k=aj ps))=bb at hib
   obtain⟨bp,br⟩:=b
   (repeat (first|refine nx @he ?_|refine cf (hib) ?_))
   refine af ?_ ?_
   ·intro h
    have h':bb=false:=by simpa using h
    have hn:¬((List.range l.length).all fun i=>DZ (l.getD i bz) (decide (i=aj ps)))=true:=by
     intro e
     have h5:=gB _ k _ hlt' e
     rw[eb,hbb,h'] at h5;cases h5
    rw[if_neg hn] at hF
    try refine nv ?_
    refine rA [] ?_
    refine⟨?_,rfl⟩
    rw[hF];rfl
   ·intro h
    have h':bb=true:=by simpa using h
    try refine nv ?_
    refine⟨k+1,⟨by omega,fun i hi=>?_⟩,by omega,?_⟩
    ·rcases Nat.lt_succ_iff_lt_or_eq.1 hi with hi|rfl
     ·exact hall i hi
     ·rw[eb,hbb];exact h'
    ·exact aW
  intro hge
  have hk':k=l.length:=by have:¬k<l.length:=by simpa using hge
                          omega
  subst hk'
  rw[if_pos (List.all_eq_true.2 fun i hi=>hall i (List.mem_range.1 hi))] at hF
  try refine nv ?_
  refine qQ [] (hcl) ?_
  rintro r st' ⟨rfl,rfl⟩<;>refine qU ?_
  try refine nv ?_
  refine ag (ι:=Nat) (I:=fun k=>⟨114,[(1,eU (l.drop (aj (ps.take k)))),(4, .c (.ptr 4 0)),(7,B rs),(11, .c (.ptr 11 0)),(63, .c (.ms 7 1 0 ps.length)),(64,I .i64 ps.length),(65,I .i64 k)],
   [(4, .box [qm, .d (.v (.bool false))]),(7,aQ 1 ((Oj ps l k).map encS)),(11, .box [.ms 7 1 0 ps.length, .d (.v (.bool false))])]⟩)
   (Inv:=fun k=>k≤ps.length) (μ:=fun k=>ps.length-k) 0 (by omega) ?_ ?_
  ·(refine fZ (fun i=>i) rfl ?_ ⟨?_,?_,?_,gu hx (by simp[ae,Ab.get])⟩<;>first|(simp only[kE,aQ, ↓reduceIte,Nat.reduceEqDiff,reduceCtorEq,Oj,jl,nJ,List.nil_append,List.drop_zero];done)|simp[di,bf,aA,Ab.get,aZ,dH,aN,bY,bG,bH,bD,bI,bC,ae,List.flatten,Oj,jl,nJ,List.nil_append,List.drop_zero])
  intro k hk
  have hsl:=aap (l:=l) hk
  try refine nv ?_
  refine af ?_ ?_
  ·intro hlt
   have hlt':k<ps.length:=by simpa using hlt
   obtain⟨u,hu,he,_⟩:=round encS ps k noS hlt'
   have eu:=fH (z:=noS) hu
   have hus:u.size≤100000:=by rw[←eu];exact hpg k
   have hst:=nR u
   rw[qj (by rw[←eu];exact hpo k hlt')] at hst
   have hge:=pY encS (Oj ps l k) k noS (by omega)
   rw[aa6 hlt',eu] at hge
   have hss:=wI hu
   cases hsu:aP u with
   |false=>
    rw[hsu] at hst hss
    rw[if_neg (by simp),Nat.add_zero] at hss
    have hnx:=Xh (l:=l) hlt' (by rw[eu];exact hsu)
    (repeat (first|refine nx @hge ?_|refine cf (hst) ?_))
    refine af ?_ ?_
    ·intro h;cases h
    intro _
    try refine nv ?_
    refine⟨k+1,by omega,by omega,?_⟩
    rw[hss,←hnx]
    exact aW
   |true=>
    rw[hsu] at hst hss
    rw[if_pos rfl] at hss
    have hlt2:=zu ps k hlt' (by rw[eu];exact hsu)
    have hj:aj (ps.take k)<l.length:=by rw[hw'];omega
    obtain⟨b,hb⟩:∃b,l[aj (ps.take k)]? =some b:=⟨_,List.getElem?_eq_getElem hj⟩
    have eb:l.getD (aj (ps.take k)) bz=b:=fH hb
    have hbb:=hall (aj (ps.take k)) hj
    rw[eb,decide_eq_false (by omega),PN] at hbb
    have hLd:l.drop (aj (ps.take k))=b::l.drop (aj (ps.take k)+1):=by
     rw[List.drop_eq_getElem?_toList_append,hb];rfl
    have hnx:=Zw (l:=l) hlt' (by rw[eu];exact hsu)
    rw[eb,eu] at hnx
    have hbz:=(hlb b (List.mem_of_getElem? hb)).2
    obtain⟨c,rfl⟩:∃c,b=⟨[c],false⟩:=by
     obtain⟨bp,br⟩:=b
     unfold rH at hbb
     simp only[Bool.and_eq_true,decide_eq_true_eq,Bool.not_eq_true'] at hbb
     obtain⟨⟨h1,rfl⟩,_⟩:=hbb
     obtain⟨c,rfl⟩:=List.length_eq_one_iff.1 h1
     exact⟨c,rfl⟩
    have hcz:c.size≤100000:=hbz c (by simp)
    simp only[List.getD_cons_zero] at hnx
    rw[hLd]
    have hsz1:1≤u.size:=(gY hsu).1
    have hsfx:=vM hsu
    have hsfl:=oJ u
    (repeat (first|refine nx @hge ?_|refine cf (hst) ?_))
    refine af ?_ ?_
    rotate_left
    ·intro h;cases h
    intro _
    refine aJ ?_
    refine qx (wr:=true) ([]:List (Nat×AV)) (by kernel_rfl) (by simp only[kD,kk,Nat.reduceAdd,Nat.reduceLT,Nat.reduceEqDiff, ↓reduceIte,reduceCtorEq,hge,hsfx,yS,Az];first|done|rfl) ?_ (by kernel_rfl) ?_
    ·exact rC
    try refine nx (p3 @hge @yS @Az) ?_
    refine⟨k+1,by omega,by omega,?_⟩
    rw[hss,←hnx]
    exact aW
  intro hge
  have hk':k=ps.length:=by have:¬k<ps.length:=by simpa using hge
                           omega
  subst hk'
  rw[aaX,List.take_length]
  have hsl:=vN ps l ps.length
  generalize jl ps l ps.length=X at hsl hF⊢
  try refine nv ?_
  refine af ?_ ?_
  ·intro hr
   subst hr
   rw[if_pos rfl] at hF hw'
   obtain⟨b,hb⟩:∃b,l[aj ps]? =some b:=⟨_,List.getElem?_eq_getElem (by omega)⟩
   have eb:l.getD (aj ps) bz=b:=fH hb
   have hLd:l.drop (aj ps)=[b]:=by
    rw[List.drop_eq_getElem?_toList_append,hb,List.drop_eq_nil_of_le (by omega)];rfl
   rw[eb] at hF
   rw[hLd]
   have hbz:=hlb b (List.mem_of_getElem? hb)
   obtain⟨bp,br⟩:=b
   have hb1:=hbz.1
   simp only at hb1 hF
   have o2:∀l∈List.map (fun l=>List.map C.d l) (List.map encS bp),l.length=1:=by
    intro l hl
    obtain⟨y,hy,rfl⟩:=List.mem_map.1 hl
    obtain⟨z,_,rfl⟩:=List.mem_map.1 hy
    rfl
   refine aJ ?_
   refine dr ([]) ?_ ?_
   ·exact rC
   have hLI:decide ((12:Int)<(ps.length:Int)+(bp.length:Int))=decide (12<(X++bp).length):=decide_eq_decide.2 (by rw[List.length_append];omega)
   try refine nv ?_
   refine af ?_ ?_
   ·intro h12
    simp only[List.length_map] at h12
    rw[hLI] at h12
    rw[Cs,if_pos (of_decide_eq_true h12)] at hF
    try refine nv ?_
    refine rA [] ?_
    refine⟨?_,rfl⟩
    rw[hF];rfl
   ·intro h12
    simp only[List.length_map] at h12
    rw[hLI] at h12
    rw[Cs,if_neg (of_decide_eq_false h12)] at hF
    have e00:Int.toNat 0=0:=rfl
    refine aJ ?_
    refine dr ([]) ?_ ?_
    ·exact gI @o2
    refine aJ ?_
    refine aG (dY (bid:=11) (id:=106) (sz:=1) (j:=0) (ys:=X.map encS++bp.map encS) (by decide) rfl rfl (by simp[aK,Ab.put,Ab.get]) (by simp[hsl])) ?_
    refine dM ?_
    try refine nx @e00 ?_
    refine rA [] ?_
    refine⟨?_,rfl⟩
    rw[hF];simp[FB,pI]
  ·intro hr
   subst hr
   rw[if_neg (by simp)] at hF
   refine aJ ?_
   refine aG (dY (bid:=11) (id:=7) (sz:=1) (j:=0) (ys:=X.map encS) (by decide) rfl rfl rfl (by simp[hsl])) ?_
   refine dM ?_
   try refine nv ?_
   refine rA [] ?_
   refine⟨?_,rfl⟩
   rw[hF];rfl
end Go.Proofs.YtcpgicfphakdaaaGreatDoor
namespace Go.Proofs.YtcpgicfphakdaaaGreatDoor
open Go.Ab Tys
variable [zG]
theorem Aw (z:aX×Int):∃c e,FB z=(true,c)∧z.2=e∧((e=0∧c=(au z.1).map C.d)∨(¬e=0∧c=[qm, .d (.v (.bool false))])):=by
 by_cases h0:z.2=0
 ·exact⟨_,_,by simp only[FB,h0,if_true],h0, .inl ⟨rfl,rfl⟩⟩
 ·exact⟨_,_,by simp only[FB,h0,if_false],rfl, .inr ⟨h0,rfl⟩⟩
def adU.kk:=p6 kB kS Tryz.ntmps177 df fM Tryz.results177
open adU in
theorem ZT (a m b:aX) (ha:PB 10000 a) (hm:PB 10000 m) (hb:PB 10000 b):AC Tryz.prog 177 [aPat a,aPat m,aPat b] [] (fun r st=>r= .tup [FB (qE a m b),pI (qE a m b).2]∧st=[]):=by
 have h4:=YA a m (ha.mono (by omega)) (hm.mono (by omega))
 have h5:=WF b (hb.mono (by omega))
 have hbb:=fun l h=>Gw (n:=10000) (p:=a) (q:=m) (l:=l) (by omega) ha hm h
 have hR:qE a m b=if(fC b ((jd a m).getD [])).2=0 then((fC b ((jd a m).getD [])).1,0) else(bz,43):=rfl
 generalize qE a m b=R at hR
 generalize hM:jd a m=M at h4 hR
 generalize hsP:(fun l=>fC b l)=sP at*
 have hsP':∀l,fC b l=sP l:=fun l=>by rw[←hsP]
 simp only[hsP'] at h5 hR
 obtain⟨ps,rp⟩:=a
 obtain⟨qs,rq⟩:=m
 obtain⟨us,ru⟩:=b
 cases M with
 |none=>
  simp only[Hg,pB,Option.isSome] at h4
  simp only[Option.getD] at hR
  have h5:=h5 [] (by simp) (by simp)
  obtain⟨c,e,k1,k2,k3⟩:=Aw (sP [])
  rw[k1,k2] at h5
  rw[k2] at hR
  refine bV Tryz.func177 Tryz.ntmps177 fun x hx=>?_
  (repeat (first|refine nv ?_|refine cf (h4) ?_))
  refine aG (fO (i:=20) 2 rfl) ?_
  refine dM ?_
  rcases k3 with⟨rfl,rfl⟩|⟨e0,rfl⟩
  ·rw[if_pos rfl] at hR
   (repeat (first|refine nv ?_|refine cf (h5) ?_))
   refine af ?_ ?_
   ·intro h;cases h
   intro _
   try refine nv ?_
   refine rA [] ?_
   refine⟨?_,rfl⟩
   rw[hR];rfl
  ·rw[if_neg e0] at hR
   (repeat (first|refine nv ?_|refine cf (h5) ?_))
   refine af ?_ ?_
   ·intro _
    try refine nv ?_
    refine rA [] ?_
    refine⟨?_,rfl⟩
    rw[hR];rfl
   ·intro h;simp[e0] at h
 |some l=>
  have hl9:=hbb l hM
  simp only[Hg,pB,Option.isSome] at h4
  simp only[Option.getD] at hR
  have h5:=h5 l (by omega) (fun b hb=>(hl9.2 b hb).mono (by omega))
  obtain⟨c,e,k1,k2,k3⟩:=Aw (sP l)
  rw[k1,k2] at h5
  rw[k2] at hR
  rcases k3 with⟨rfl,rfl⟩|⟨e0,rfl⟩
  ·rw[if_pos rfl] at hR
   refine bV Tryz.func177 Tryz.ntmps177 fun x hx=>?_
   (repeat (first|refine nv ?_|refine cf (h4) ?_|refine cf (h5) ?_))
   refine af ?_ ?_
   ·intro h;cases h
   intro _
   try refine nv ?_
   refine rA [] ?_
   refine⟨?_,rfl⟩
   rw[hR];rfl
  ·rw[if_neg e0] at hR
   refine bV Tryz.func177 Tryz.ntmps177 fun x hx=>?_
   (repeat (first|refine nv ?_|refine cf (h4) ?_|refine cf (h5) ?_))
   refine af ?_ ?_
   ·intro _
    try refine nv ?_
    refine rA [] ?_
    refine⟨?_,rfl⟩
    rw[hR];rfl
   ·intro h;simp[e0] at h
theorem Zx (a m b:aX):(qE a m b).2=0∨(qE a m b).2=43:=by
 unfold qE;split
 ·exact .inl rfl
 ·exact .inr rfl
def aeC.kk:=p10 kB kS Tryz.ntmps128 qo df mG jY xy fM Tryz.results128
open aeC in
theorem Zo (r:Gs) (p:aX) (hl:PB 10000 r.left) (hr:PB 10000 r.right) (hp:PB 10000 p):AC Tryz.prog 128 [zY r,aPat p] [] (fun x st=>x=adx (lT r p)∧st=[]):=by
 have h1:=AY r (hl.mono (by omega)) (hr.mono (by omega))
 have h2:=lK p (hp.mono (by omega))
 have h3:=Pv r.left p (hl.mono (by omega)) (hp.mono (by omega))
 have h4:=fun m hm=>ZT r.left m r.right hl hm hr
 have hmb:=fun m=>yh (m:=m) hl hp
 have hR:=Sz r p
 have o1:okR r=decide (dN r=0):=rfl
 have o2:fG p=decide (aS p=0):=rfl
 generalize lT r p=R at hR
 generalize dN r=er at h1 o1 hR
 generalize aS p=ep at h2 o2 hR
 obtain⟨ex,lf,rg⟩:=r
 simp only at h1 h3 h4 hmb hR
 generalize hM:gz lf p=M at h3 hR
 obtain⟨ps,rp⟩:=lf
 obtain⟨qs,rq⟩:=rg
 obtain⟨us,ru⟩:=p
 refine bV Tryz.func128 Tryz.ntmps128 fun x hx=>?_
 (repeat (first|refine nv ?_|refine cf (h1) ?_))
 refine af ?_ ?_
 ·intro h
  have e:¬er=0:=by simpa using h
  rw[o1,decide_eq_false e,if_neg (by simp)] at hR
  try refine nv ?_
  refine rA [] ?_
  refine⟨?_,rfl⟩
  rw[hR];rfl
 intro h
 have e:er=0:=by simpa using h
 rw[o1,decide_eq_true e,if_pos rfl] at hR
 (repeat (first|refine nv ?_|refine cf (h2) ?_))
 refine af ?_ ?_
 ·intro h
  have e:¬ep=0:=by simpa using h
  rw[o2,decide_eq_false e,if_neg (by simp)] at hR
  try refine nv ?_
  refine rA [] ?_
  refine⟨?_,rfl⟩
  rw[hR];rfl
 intro h
 have e:ep=0:=by simpa using h
 rw[o2,decide_eq_true e,if_pos rfl] at hR
 cases M with
 |none=>
  simp only[Af,pB,Option.isSome] at h3
  simp only at hR
  (repeat (first|refine nv ?_|refine cf (h3) ?_))
  refine af ?_ ?_
  ·intro _
   try refine nv ?_
   refine rA [] ?_
   refine⟨?_,rfl⟩
   rw[hR];rfl
  ·intro h;cases h
 |some m=>
  have hm:=hmb m hM
  have h4:=h4 m hm
  simp only at hR
  obtain⟨c,e,k1,k2,k3⟩:=Aw (qE ⟨ps,rp⟩ m ⟨qs,rq⟩)
  have k4:=Zx ⟨ps,rp⟩ m ⟨qs,rq⟩
  rw[k2] at k4
  rw[k1,k2] at h4
  rw[k2] at hR
  generalize qE ⟨ps,rp⟩ m ⟨qs,rq⟩=cz at k3 hR
  obtain⟨ms,rm⟩:=m
  simp only[Af,pB,Option.isSome] at h3
  (repeat (first|refine nv ?_|refine cf (h3) ?_))
  refine af ?_ ?_
  ·intro h;cases h
  intro _
  rcases k3 with⟨rfl,rfl⟩|⟨e0,rfl⟩
  ·rw[if_pos rfl] at hR
   (repeat (first|refine nv ?_|refine cf (h4) ?_))
   refine af ?_ ?_
   ·intro h;cases h
   intro _
   try refine nv ?_
   refine rA [] ?_
   refine⟨?_,rfl⟩
   rw[hR];rfl
  ·rw[if_neg e0] at hR
   obtain rfl:e=43:=by rcases k4 with k4|k4;exact absurd k4 e0;exact k4
   (repeat (first|refine nv ?_|refine cf (h4) ?_))
   refine af ?_ ?_
   ·intro _
    try refine nv ?_
    refine rA [] ?_
    refine⟨?_,rfl⟩
    rw[hR];rfl
   ·intro h;cases h
end Go.Proofs.YtcpgicfphakdaaaGreatDoor
