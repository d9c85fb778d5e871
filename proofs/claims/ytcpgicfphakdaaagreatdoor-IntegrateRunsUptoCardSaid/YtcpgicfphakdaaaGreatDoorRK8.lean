/- A part of the proof. -/
import Derived.Test.YtcpgicfphakdaaaGreatDoorRK18
import Derived.Test.YtcpgicfphakdaaaGreatDoorRK7
import Derived.Test.YtcpgicfphakdaaaGreatDoorRX16
import Derived.Ground.Names8Prog
import Derived.Shelf.Lay
set_option maxRecDepth 100000
set_option maxHeartbeats 16000000
set_option linter.all false
namespace Go.Proofs.YtcpgicfphakdaaaGreatDoor
open Go.Ab Tys
variable [yF]
def Nr (ps:List ByteArray) (l:List bH) (k:Nat):List ByteArray:=oN ps l k++ps.drop k
theorem aao {ps:List ByteArray} {l:List bH} {k:Nat} (hk:k≤ps.length):(Nr ps l k).length=ps.length:=by
 rw[Nr,List.length_append,xC,List.length_drop];omega
theorem abb {ps:List ByteArray} {l:List bH} {k:Nat} (hk:k<ps.length):(Nr ps l k).getD k noS=ps.getD k noS:=by
 have:=xC ps l k
 rw[Nr,List.getD_eq_getElem?_getD,List.getElem?_append_right (by omega),List.getElem?_drop,List.getD_eq_getElem?_getD]
 congr 2;omega
theorem YP {ps:List ByteArray} {l:List bH} {k:Nat} (hk:k<ps.length) (hs:aX (ps.getD k noS)=true):(Nr ps l k).set k (((l.getD (aC (ps.take k)) dm).parts.getD 0 noS)++jY (ps.getD k noS))=Nr ps l (k+1):=by
 have:=xC ps l k
 rw[Nr,Nr,oN,if_pos hs,List.set_append_right _ _ (by omega),List.drop_eq_getElem_cons hk,this,Nat.sub_self,List.set_cons_zero,List.append_assoc]
 rfl
theorem U4 {ps:List ByteArray} {l:List bH} {k:Nat} (hk:k<ps.length) (hs:aX (ps.getD k noS)=false):Nr ps l k=Nr ps l (k+1):=by
 rw[Nr,Nr,oN,if_neg (by rw[hs];simp),List.drop_eq_getElem_cons hk,List.append_assoc,List.getD_eq_getElem?_getD,List.getElem?_eq_getElem hk]
 rfl
theorem aan (ps:List ByteArray) (l:List bH):Nr ps l ps.length=oN ps l ps.length:=by rw[Nr,List.drop_length,List.append_nil]
def adO.kk:=p2 (p11 kB kG kS Tryz.ntmps230 Tryz.underlying286 Tryz.underlying74 Tryz.underlying9 Rl gG Zd iC) (p11 H7 H8 jR pV abn X3 MH pX lI kC Tryz.results230)
open adO in
theorem U7 (p:bH) (hp:PB 100000 p) (l:List bH) (hll:l.length≤100000) (hlb:∀b∈l,PB 100000 b):AC Tryz.prog 230 [aPat p,iY l] [] (fun r st=>r= .tup [Rt (iI p l),pI (iI p l).2]∧st=[]):=by
 have hki:=yA p (hp.mono (by omega))
 have hF:=OT p l
 have hok:gz p=decide (bV p=0):=rfl
 have hwd:qN p=aC p.parts+(if p.rest then 1 else 0):=rfl
 have hpo:=fun h=>dE (p:=p) h
 have hne:gz p=true→p.parts≠[]:=fun h=>by
  have:=(oG.1 h).1
  intro e;rw[e] at this;simp at this
 generalize bV p=cp at hki hF hok
 generalize gz p=op at hki hF hok hpo hne
 obtain⟨ps,rs⟩:=p
 have h1:=hp.1
 have hpg:=hp.get
 simp only[dC] at h1 hF hki hpo hne hwd hpg
 generalize iI ⟨ps,rs⟩ l=R at hF
 cases op with
 |false=>
  have hcp:¬cp=0:=by intro e;rw[e] at hok;cases hok
  simp only[Bool.false_and,Bool.false_eq_true,if_false] at hki hF
  refine dA Tryz.func230 Tryz.ntmps230 fun x hx=>?_
  (repeat (first|refine nv ?_|refine cf (hki) ?_))
  refine aj ?_ ?_
  rotate_left
  ·intro h;simp at h;exact absurd h hcp
  intro _
  try refine nv ?_
  refine rA [] ?_
  refine⟨?_,rfl⟩
  rw[hF];simp[Rt,hcp]
 |true=>
  have hcp:cp=0:=by have:=hok.symm;simpa using this
  subst hcp
  have hpo:=hpo rfl
  have hne:=hne rfl
  simp only[Bool.true_and,if_true] at hki hF
  have hs9:aC ps≤ps.length:=List.length_filter_le ..
  refine dA Tryz.func230 Tryz.ntmps230 fun x hx=>?_
  (repeat (first|refine nv ?_|refine cf (hki) ?_))
  refine aj ?_ ?_
  ·intro h;cases h
  intro _
  try refine nv ?_
  refine aj ?_ ?_
  ·intro hw
   have hw':¬l.length=qN ⟨ps,rs⟩:=by
    intro e
    rw[hwd] at e
    cases rs
    ·simp only[Bool.false_eq_true,if_false,Nat.add_zero] at e;simp[e] at hw
    ·simp only[if_true] at e;simp[e] at hw
   rw[if_neg hw'] at hF
   try refine nv ?_
   refine rA [] ?_
   refine⟨?_,rfl⟩
   rw[hF];rfl
  intro hw
  have hw':l.length=qN ⟨ps,rs⟩:=by
   rw[hwd]
   cases rs
   ·simp at hw
    simp only[Bool.false_eq_true,if_false];omega
   ·simp at hw
    simp only[if_true];omega
  rw[if_pos hw'] at hF
  rw[hwd] at hw'
  have hcl:=Cj ps hne (Nat.le_trans h1 (by omega))
  clear hki hok hwd hw
  try refine nv ?_
  refine ax (ι:=Nat) (I:=fun k=>⟨114,[(1,iY l),(2, .c (.ptr 2 0)),(4, .c (.ptr 4 0)),(6,I .i64 (aC ps)),(7,B rs),(43,iY l),(44,I .i64 l.length),(45,I .i64 k)],
   [(2, .box ((bF ⟨ps,rs⟩).map C.d)),(4, .box [G9, .d (.v (.bool false))])]⟩)
   (Inv:=fun k=>k≤l.length∧∀i,i<k→BQ (l.getD i dm) (decide (i=aC ps))=true) (μ:=fun k=>l.length-k) 0 ⟨by omega,by omega⟩ ?_ ?_
  ·exact cO
  rintro k ⟨hk,hall⟩
  try refine nv ?_
  refine aj ?_ ?_
  ·intro hlt
   have hlt':k<l.length:=by simpa using hlt
   obtain⟨b,hb,he,_⟩:=round bF l k dm hlt'
   have eb:=oH (z:=dm) hb
   have hib:AC Tryz.prog 255 [aPat b,B (decide ((k:Int)=(aC ps:Nat)))] [] (fun r st=>r=B (BQ b (decide (k=aC ps)))∧st=[]):=by
    have e:decide ((k:Int)=(aC ps:Nat))=decide (k=aC ps):=decide_eq_decide.2 (by omega)
    rw[e]
    exact Lj b _ ((hlb b (List.mem_of_getElem? hb)).mono (by omega))
   generalize hbb:BQ b (decide (k=aC ps))=bb at hib
   obtain⟨bp,br⟩:=b
   (repeat (first|refine nx @he ?_|refine cf (hib) ?_))
   refine aj ?_ ?_
   ·intro h
    have h':bb=false:=by simpa using h
    have hn:¬((List.range l.length).all fun i=>BQ (l.getD i dm) (decide (i=aC ps)))=true:=by
     intro e
     have h5:=jm _ k _ hlt' e
     rw[eb,hbb,h'] at h5;cases h5
    rw[if_neg hn] at hF
    try refine nv ?_
    refine rA [] ?_
    refine⟨?_,rfl⟩
    rw[hF];rfl
   ·intro h
    have h':bb=true:=by simpa using h
    try refine nv ?_
    refine⟨k+1,⟨by omega,fun i hi=>?_⟩,by omega,?_⟩
    ·rcases Nat.lt_succ_iff_lt_or_eq.1 hi with hi|rfl
     ·exact hall i hi
     ·rw[eb,hbb];exact h'
    ·exact cO
  intro hge
  have hk':k=l.length:=by have:¬k<l.length:=by simpa using hge
                          omega
  subst hk'
  rw[if_pos (List.all_eq_true.2 fun i hi=>hall i (List.mem_range.1 hi))] at hF
  try refine nv ?_
  refine tX [] (hcl) ?_
  rintro r st' ⟨rfl,rfl⟩<;>refine uo ?_
  try refine nv ?_
  refine ax (ι:=Nat) (I:=fun k=>⟨114,[(1,iY (l.drop (aC (ps.take k)))),(4, .c (.ptr 4 0)),(7,B rs),(11, .c (.ptr 11 0)),(63, .c (.ms 7 1 0 ps.length)),(64,I .i64 ps.length),(65,I .i64 k)],
   [(4, .box [G9, .d (.v (.bool false))]),(7,aK 1 ((Nr ps l k).map encS)),(11, .box [.ms 7 1 0 ps.length, .d (.v (.bool false))])]⟩)
   (Inv:=fun k=>k≤ps.length) (μ:=fun k=>ps.length-k) 0 (by omega) ?_ ?_
  ·(refine bI (fun i=>i) rfl ?_ ⟨?_,?_,?_,di hx (by simp[ae,Ab.get])⟩<;>first|(simp only[kE,aK, ↓reduceIte,Nat.reduceEqDiff,reduceCtorEq,Nr,oN,tY,List.nil_append,List.drop_zero];done)|simp[aW,aA,ag,Ab.get,aH,cu,aB,bD,aS,aQ,aU,aP,aT,ae,List.flatten,Nr,oN,tY,List.nil_append,List.drop_zero])
  intro k hk
  have hsl:=aao (l:=l) hk
  try refine nv ?_
  refine aj ?_ ?_
  ·intro hlt
   have hlt':k<ps.length:=by simpa using hlt
   obtain⟨u,hu,he,_⟩:=round encS ps k noS hlt'
   have eu:=oH (z:=noS) hu
   have hus:u.size≤100000:=by rw[←eu];exact hpg k
   have hst:=lN u
   rw[oK (by rw[←eu];exact hpo k hlt')] at hst
   have hge:=tJ encS (Nr ps l k) k noS (by omega)
   rw[abb hlt',eu] at hge
   have hss:=F6 hu
   cases hsu:aX u with
   |false=>
    rw[hsu] at hst hss
    rw[if_neg (by simp),Nat.add_zero] at hss
    have hnx:=U4 (l:=l) hlt' (by rw[eu];exact hsu)
    (repeat (first|refine nx @hge ?_|refine cf (hst) ?_))
    refine aj ?_ ?_
    ·intro h;cases h
    intro _
    try refine nv ?_
    refine⟨k+1,by omega,by omega,?_⟩
    rw[hss,←hnx]
    exact cO
   |true=>
    rw[hsu] at hst hss
    rw[if_pos rfl] at hss
    have hlt2:=yz ps k hlt' (by rw[eu];exact hsu)
    have hj:aC (ps.take k)<l.length:=by rw[hw'];omega
    obtain⟨b,hb⟩:∃b,l[aC (ps.take k)]? =some b:=⟨_,List.getElem?_eq_getElem hj⟩
    have eb:l.getD (aC (ps.take k)) dm=b:=oH hb
    have hbb:=hall (aC (ps.take k)) hj
    rw[eb,decide_eq_false (by omega),NZ] at hbb
    have hLd:l.drop (aC (ps.take k))=b::l.drop (aC (ps.take k)+1):=by
     rw[List.drop_eq_getElem?_toList_append,hb];rfl
    have hnx:=YP (l:=l) hlt' (by rw[eu];exact hsu)
    rw[eb,eu] at hnx
    have hbz:=(hlb b (List.mem_of_getElem? hb)).2
    obtain⟨c,rfl⟩:∃c,b=⟨[c],false⟩:=by
     obtain⟨bp,br⟩:=b
     unfold Iu at hbb
     simp only[Bool.and_eq_true,decide_eq_true_eq,Bool.not_eq_true'] at hbb
     obtain⟨⟨h1,rfl⟩,_⟩:=hbb
     obtain⟨c,rfl⟩:=List.length_eq_one_iff.1 h1
     exact⟨c,rfl⟩
    have hcz:c.size≤100000:=hbz c (by simp)
    simp only[List.getD_cons_zero] at hnx
    rw[hLd]
    have hsz1:1≤u.size:=(fG hsu).1
    have hsfx:=tq hsu
    have hsfl:=wO u
    (repeat (first|refine nx @hge ?_|refine cf (hst) ?_))
    refine aj ?_ ?_
    rotate_left
    ·intro h;cases h
    intro _
    refine bC ?_
    refine sD (wr:=true) ([]:List (Nat×AV)) (by kernel_rfl) (by simp only[kD,kk,Nat.reduceAdd,Nat.reduceLT,Nat.reduceEqDiff, ↓reduceIte,reduceCtorEq,hge,hsfx,zn,zO];first|done|rfl) ?_ (by kernel_rfl) ?_
    ·exact vO
    try refine nx (p3 @hge @zn @zO) ?_
    refine⟨k+1,by omega,by omega,?_⟩
    rw[hss,←hnx]
    exact cO
  intro hge
  have hk':k=ps.length:=by have:¬k<ps.length:=by simpa using hge
                           omega
  subst hk'
  rw[aan,List.take_length]
  have hsl:=xC ps l ps.length
  generalize oN ps l ps.length=X at hsl hF⊢
  try refine nv ?_
  refine aj ?_ ?_
  ·intro hr
   subst hr
   rw[if_pos rfl] at hF hw'
   obtain⟨b,hb⟩:∃b,l[aC ps]? =some b:=⟨_,List.getElem?_eq_getElem (by omega)⟩
   have eb:l.getD (aC ps) dm=b:=oH hb
   have hLd:l.drop (aC ps)=[b]:=by
    rw[List.drop_eq_getElem?_toList_append,hb,List.drop_eq_nil_of_le (by omega)];rfl
   rw[eb] at hF
   rw[hLd]
   have hbz:=hlb b (List.mem_of_getElem? hb)
   obtain⟨bp,br⟩:=b
   have hb1:=hbz.1
   simp only at hb1 hF
   have o2:∀l∈List.map (fun l=>List.map C.d l) (List.map encS bp),l.length=1:=by
    intro l hl
    obtain⟨y,hy,rfl⟩:=List.mem_map.1 hl
    obtain⟨z,_,rfl⟩:=List.mem_map.1 hy
    rfl
   refine bC ?_
   refine dr ([]) ?_ ?_
   ·exact vO
   have hLI:decide ((12:Int)<(ps.length:Int)+(bp.length:Int))=decide (12<(X++bp).length):=decide_eq_decide.2 (by rw[List.length_append];omega)
   try refine nv ?_
   refine aj ?_ ?_
   ·intro h12
    simp only[List.length_map] at h12
    rw[hLI] at h12
    rw[IU,if_pos (of_decide_eq_true h12)] at hF
    try refine nv ?_
    refine rA [] ?_
    refine⟨?_,rfl⟩
    rw[hF];rfl
   ·intro h12
    simp only[List.length_map] at h12
    rw[hLI] at h12
    rw[IU,if_neg (of_decide_eq_false h12)] at hF
    have e00:Int.toNat 0=0:=rfl
    refine bC ?_
    refine dr ([]) ?_ ?_
    ·exact iw @o2
    refine bC ?_
    refine bz (gY (bid:=11) (id:=106) (sz:=1) (j:=0) (ys:=X.map encS++bp.map encS) (by decide) rfl rfl (by simp[aF,Ab.put,Ab.get]) (by simp[hsl])) ?_
    refine dZ ?_
    try refine nx @e00 ?_
    refine rA [] ?_
    refine⟨?_,rfl⟩
    rw[hF];simp[Rt,pI]
  ·intro hr
   subst hr
   rw[if_neg (by simp)] at hF
   refine bC ?_
   refine bz (gY (bid:=11) (id:=7) (sz:=1) (j:=0) (ys:=X.map encS) (by decide) rfl rfl rfl (by simp[hsl])) ?_
   refine dZ ?_
   try refine nv ?_
   refine rA [] ?_
   refine⟨?_,rfl⟩
   rw[hF];rfl
end Go.Proofs.YtcpgicfphakdaaaGreatDoor
namespace Go.Proofs.YtcpgicfphakdaaaGreatDoor
open Go.Ab Tys
variable [Dr]
def z229.kk:=p2 (p11 kB kS Tryz.ntmps229 Tryz.underlying286 Tryz.underlying74 Tryz.underlying9 Rl gG Zd iC H7) (p10 H8 jR pV abn X3 MH pX lI kC Tryz.results229)
open z229 in
theorem Yj (p q:bH) (hp:PB 1000000 p) (hq:PB 1000000 q):AC Tryz.prog 229 [aPat p,aPat q] [] (fun r st=>r= .tup [Yk (jS p q),pB (jS p q).isSome]∧st=[]):=by
 have hw:=Ro q p hq hp
 have hfr:=fun h=>aa8 (p:=p) (q:=q) 7 h
 have hB0:jS p q=if fP q p then jS p q else none:=by
  unfold jS;split<;>rfl
 have hok:fP q p=true→gz p=true∧gz q=true:=fun h=>by
  simp only[fP,Bool.and_eq_true] at h
  exact⟨h.1.1.1.1.2,h.1.1.1.1.1⟩
 have hBs:fP q p=true→(jS p q).isSome=true:=fun h=>by unfold jS;rw[if_pos h];rfl
 have hp1:=hp.1
 have hq1:=hq.1
 have hpg:=hp.get
 have hqg:=hq.get
 generalize jS p q=M at hfr hB0 hBs
 generalize fP q p=wb at hw hfr hB0 hok hBs
 obtain⟨ps,rp⟩:=p
 obtain⟨qs,rq⟩:=q
 simp only at hfr hp1 hq1 hpg hqg
 refine dA Tryz.func229 Tryz.ntmps229 fun x hx=>?_
 (repeat (first|refine nv ?_|refine cf (hw) ?_))
 refine aj ?_ ?_
 ·intro h
  have h':wb=false:=by simpa using h
  rw[h',if_neg (by simp)] at hB0
  try refine nv ?_
  refine rA [] ?_
  refine⟨?_,rfl⟩
  rw[hB0];rfl
 intro h
 have h':wb=true:=by simpa using h
 obtain⟨op,oq⟩:=hok h'
 obtain⟨hlen,hfr⟩:=hfr h'
 have hBs:=hBs h'
 obtain⟨bl,rfl⟩:=Option.isSome_iff_exists.1 hBs
 simp only[Option.getD_some] at hfr
 have hqne:qs≠[]:=by
  have:=(oG.1 oq).1
  intro e;rw[e] at this;simp at this
 have hcl:=Cj qs hqne hq1
 have hpo:=dE op
 clear hB0 hw hBs
 try refine nv ?_
 refine tX [] (hcl) ?_
 rintro r st' ⟨rfl,rfl⟩<;>refine uo ?_
 try refine nv ?_
 refine nH (jM (i:=7) (id:=100) (sz:=2) rfl rfl (by omega)) ?_
 refine dZ ?_
 try refine nv ?_
 refine ax (ι:=Nat) (I:=fun k=>⟨69,[(2, .c (.ptr 2 0)),(3, .c (.ptr 3 0)),(6, .c (.ms 7 1 0 qs.length)),(7, .c (.ms 100 2 0 (MK 7 ps k).length)),(19,iy ps),(20,I .i64 ps.length),(21,I .i64 k)],
  [(2, .box ((bF ⟨ps,rp⟩).map C.d)),(3, .box ((bF ⟨qs,rq⟩).map C.d)),(7,aK 1 ((zo ps qs k).map encS)),(100, .arr 2 (MK 7 ps k))]⟩)
  (Inv:=fun k=>k≤ps.length) (μ:=fun k=>ps.length-k) 0 (by omega) ?_ ?_
 ·(refine bI (fun i=>i) rfl ?_ ⟨?_,?_,?_,di hx (by simp[ae,Ab.get])⟩<;>first|(simp only[kE,aK, ↓reduceIte,Nat.reduceEqDiff,reduceCtorEq,zo,MK,Hm];done)|simp[aW,aA,ag,Ab.get,aH,cu,aB,bD,aS,aQ,aU,aP,aT,ae,List.flatten,zo,MK,Hm])
 intro k hk
 have hrl:=Lu 7 ps k
 try refine nv ?_
 refine aj ?_ ?_
 ·intro hlt
  have hlt':k<ps.length:=by simpa using hlt
  obtain⟨u,hu,he,_⟩:=round encS ps k noS hlt'
  have eu:=oH (z:=noS) hu
  have hus:u.size≤1000000:=by rw[←eu];exact hpg k
  have hst:=lN u
  rw[oK (by rw[←eu];exact hpo k hlt')] at hst
  have hv9:=Gf ps qs k k (Nat.le_refl _)
  have hln:=yH ps qs k
  have hsz:((zo ps qs k).getD k noS).size≤1000000:=by rw[List.getD_eq_getElem?_getD,hv9,←List.getD_eq_getElem?_getD];exact hqg k
  have htx:zo ps qs (k+1)=if aX u then(zo ps qs k).set k (trimS ((zo ps qs k).getD k noS) (jY u)) else zo ps qs k:=by rw[zo,eu]
  have hrw:MK 7 ps (k+1)=MK 7 ps k++(if aX u then [[.mv 7 1 k 1, .d (.v (.bool false))]] else []):=by rw[MK,eu]
  have hge:=tJ encS (zo ps qs k) k noS (by omega)
  have htr:=aar ((zo ps qs k).getD k noS) (jY u) hsz (Nat.le_trans (wO u) hus)
  generalize (zo ps qs k).getD k noS=v at hsz htx hge htr
  cases hsu:aX u with
  |false=>
   rw[hsu] at hst htx hrw
   rw[if_neg (by simp)] at htx hrw
   rw[List.append_nil] at hrw
   (repeat (first|refine nx @he ?_|refine cf (hst) ?_))
   refine aj ?_ ?_
   ·intro h;cases h
   intro _
   try refine nv ?_
   refine⟨k+1,by omega,by omega,?_⟩
   rw[htx,hrw]
   exact EH @Hm
  |true=>
   rw[hsu] at hst htx hrw
   rw[if_pos rfl] at htx hrw
   have hsz1:1≤u.size:=(fG hsu).1
   have hsfx:=tq hsu
   (repeat (first|refine nx @he ?_|refine cf (hst) ?_))
   refine aj ?_ ?_
   rotate_left
   ·intro h;cases h
   intro _
   refine bC ?_
   have e9:((k:Int)+1-k).toNat=1:=by omega
   refine dx ([(36,Str (trimS v (jY u)))]) (p3 @hge @hsfx @zO) ?_ ?_
   ·exact iw @htr
   try refine nx @e9 ?_
   refine⟨k+1,by omega,by omega,?_⟩
   rw[htx,hrw]
   generalize (zo ps qs k).set k (trimS v (jY u))=Y
   exact enS (p3 @ah @Hm @Uo) (fun i=>if i=100 then 48 else i)
 intro hge
 have hk':k=ps.length:=by have:¬k<ps.length:=by simpa using hge
                          omega
 subst hk'
 have hln:=yH ps qs ps.length
 have hrl:=Lu 7 ps ps.length
 generalize hX:zo ps qs ps.length=X at hfr hln
 try refine nv ?_
 refine aj ?_ ?_
 ·intro hr
  subst hr
  have e8:((qs.length:Int)-ps.length).toNat=qs.length-ps.length:=by omega
  refine dx ([]) @e8 ?_ ?_
  ·exact vO
  rw[if_pos rfl] at hfr
  refine bC ?_
  refine bz (A8 (bid:=67) (id:=7) (sz2:=1) (ys:=X.map encS) (by decide) rfl rfl (hfr.trans (by rw[List.map_map];rfl:_=(bl.map bF).map fun l=>l.map C.d))) ?_
  refine dZ ?_
  refine bz (aZ (i:=7) (id:=67) (sz:=2) (ys:=bl.map bF) rfl rfl ?_) ?_
  ·have:=congrArg List.length hfr
   simpa using this
  refine dZ ?_
  try refine nv ?_
  refine rA [] ?_
  refine⟨?_,rfl⟩
  rfl
 ·intro hr
  subst hr
  rw[if_neg (by simp),List.append_nil] at hfr
  refine bC ?_
  refine bz (A8 (bid:=100) (id:=7) (sz2:=1) (ys:=X.map encS) (by decide) rfl rfl (hfr.trans (by rw[List.map_map];rfl:_=(bl.map bF).map fun l=>l.map C.d))) ?_
  refine dZ ?_
  refine bz (aZ (i:=7) (id:=100) (sz:=2) (ys:=bl.map bF) rfl rfl ?_) ?_
  ·have:=congrArg List.length hfr
   simpa using this
  refine dZ ?_
  try refine nv ?_
  refine rA [] ?_
  refine⟨?_,rfl⟩
  rfl
end Go.Proofs.YtcpgicfphakdaaaGreatDoor
namespace Go.Proofs
open Go.Shelf
shelf_lay_g Lays8.n4 Nm8 4 at Tryz 182 as Tryz.growP
end Go.Proofs
namespace Go.Proofs.YtcpgicfphakdaaaGreatDoor
open Go.Ab Tys
variable [yF]
theorem Xn (id n:Nat) (hn:n≤1000000):AC Tryz.prog 182 [.c (.d (.v (.slice none 0 0))),I .i64 n] [] (fun r st=>r= .c (.ms id 2 0 0)∧st=[(id, .arr 2 [])]):=by
 obtain⟨i,u,z,h1,h2,h3,h4,h5,h6,h7,h8,h9,h10,h11⟩:=iG (P:=Tryz.prog) (T:=76) lI
 have ht:Tryz.growP_ren.t 25=76:=by kernel_rfl
 have h4':i.size=2:=h4
 have h:=YE (P:=Tryz.prog) (f:=182) ⟨_,Tryz.func182,by kernel_rfl,by kernel_rfl⟩ (by kernel_rfl) Tryz.growP i z (by rw[ht];exact h1) h3 (by omega) (by rw[←Array.length_toList,h6,h7];exact h4.symm) id n (by rw[h5];simp only;omega) (by omega)
 rw[h4'] at h
 exact h
@[reducible] def DN (l:List bH):List D:=[.ps 2 (l.map bF)]
def z131.kk:=p12 kB kS Tryz.ntmps131 Tryz.underlying264 Tryz.underlying77 gG Xv Jr abI lI Lc Tryz.results131
open z131 in
theorem Su (ls:List (List bH)) (hl:ls.length≤1000) (hn:∀l∈ls,l.length≤1000):AC Tryz.prog 131 [.c (.ms 22 1 0 ls.length)] [(22,aK 1 (ls.map DN))] (fun r st=>r=iY ls.flatten∧st=[(22, .dead)]):=by
 have hfl:∀k,(ls.take k).flatten.length≤k*1000:=by
  intro k
  induction k with
  |zero=>simp
  |succ k ih=>
   by_cases h:k<ls.length
   ·rw[List.take_succ_eq_append_getElem h,List.flatten_append,List.length_append]
    have:=hn _ (List.getElem_mem h)
    simp only[List.flatten_cons,List.flatten_nil,List.append_nil]
    omega
   ·rw[List.take_of_length_le (by omega)];rw[List.take_of_length_le (by omega)] at ih;omega
 have hsn:∀k v,ls[k]? =some v→(ls.take (k+1)).flatten=(ls.take k).flatten++v:=by
  intro k v h
  rw[List.take_succ,h];simp
 refine dA Tryz.func131 Tryz.ntmps131 fun x hx=>?_
 refine nH (aZ (i:=0) (id:=22) (ys:=ls.map DN) rfl rfl (by rw[List.length_map])) ?_
 refine dZ ?_
 try refine nv ?_
 refine ax (ι:=Nat) (I:=fun k=>⟨36,[(0, .c (.d (.ps 1 (ls.map DN)))),(3,I .i64 (ls.take k).flatten.length),(9, .c (.d (.ps 1 (ls.map DN)))),(10,I .i64 ls.length),(11,I .i64 k)],[(22, .dead)]⟩)
  (Inv:=fun k=>k≤ls.length) (μ:=fun k=>ls.length-k) 0 (by omega) ?_ ?_
 ·exact cO
 intro k hk
 have hk0:=hfl k
 try refine nv ?_
 refine aj ?_ ?_
 ·intro hlt
  have hlt':k<ls.length:=by simpa using hlt
  obtain⟨v,hv,he,_⟩:=round DN ls k [] hlt'
  have hvn:=hn v (List.mem_of_getElem? hv)
  have hs1:=hsn k v hv
  have hadd:(((ls.take k).flatten.length:Nat):Int)+((v.length:Nat):Int)=(((ls.take (k+1)).flatten.length:Nat):Int):=by rw[hs1,List.length_append];omega
  try refine nx (p2 @he @hadd) ?_
  refine aj ?_ ?_
  ·intro h;simp at h;omega
  intro _
  try refine nv ?_
  refine⟨k+1,by omega,by omega,?_⟩
  exact cO
 intro hge
 have hk':k=ls.length:=by have:¬k<ls.length:=by simpa using hge
                          omega
 rw[hk',List.take_length] at hk0⊢
 try refine nv ?_
 refine tX [] (Xn 46 ls.flatten.length (by omega)) ?_
 rintro r st' ⟨rfl,rfl⟩<;>refine uo ?_
 try refine nv ?_
 refine ax (ι:=Nat) (I:=fun k=>⟨36,[(6, .c (.ms 46 2 0 (ls.take k).flatten.length)),(25, .c (.d (.ps 1 (ls.map DN)))),(26,I .i64 ls.length),(27,I .i64 k)],[(22, .dead),(46,aK 2 ((ls.take k).flatten.map bF))]⟩)
  (Inv:=fun k=>k≤ls.length) (μ:=fun k=>ls.length-k) 0 (by omega) ?_ ?_
 ·exact cO
 intro k hk
 have hk1:=hfl k
 try refine nv ?_
 refine aj ?_ ?_
 ·intro hlt
  have hlt':k<ls.length:=by simpa using hlt
  obtain⟨v,hv,he,_⟩:=round DN ls k [] hlt'
  have hvn:=hn v (List.mem_of_getElem? hv)
  have hs1:=hsn k v hv
  have o1:∀l∈List.map (fun l=>List.map C.d l) (List.map bF v),l.length=2:=by
   intro l hl
   obtain⟨y,hy,rfl⟩:=List.mem_map.1 hl
   obtain⟨z,_,rfl⟩:=List.mem_map.1 hy
   rfl
  generalize hA:(ls.take k).flatten=A at hs1 hk1
  refine bC ?_
  refine gx @he ?_
  refine bC ?_
  refine gq ?_ ?_
  ·exact iw @o1
  try refine nv ?_
  refine⟨k+1,by omega,by omega,?_⟩
  rw[hs1]
  exact Af (fun i=>if i=46 then 33 else i)
 intro hge2
 have hk2:k=ls.length:=by have:¬k<ls.length:=by simpa using hge2
                          omega
 rw[hk2,List.take_length]
 generalize ls.flatten=A
 refine bC ?_
 refine bz (aZ (i:=6) (id:=46) (ys:=A.map bF) rfl rfl (by rw[List.length_map])) ?_
 refine dZ ?_
 try refine nv ?_
 refine rA ([(22, .dead)]) ?_
 refine⟨?_,rfl⟩
 rfl
def z62.kk:=RJ kB kG kS Tryz.ntmps62 GR gG Xv Bz BN NJ abI lI Lc Tryz.results62
open z62 in
theorem Hf (a b:Iz) (ha:PB 100000 a.base) (hb:PB 100000 b.base) (hal:a.holes.length≤1000) (hbl:b.holes.length≤1000) (hah:∀h∈a.holes,PB 100000 h∧gz h=true) (hbh:∀h∈b.holes,PB 100000 h∧gz h=true):
 AC Tryz.prog 62 [RX a,RX b] [] (fun r st=>r=B (kT a b)∧st=[]):=by
 have hC:kT a b=match jF a.base b.base with|none=>false|some m=>decide (0<Ec ⟨m,a.holes++b.holes⟩):=rfl
 have hme:=PY a.base b.base (ha.mono (by omega)) (hb.mono (by omega))
 have hmp:=fun m=>Hu (m:=m) ha hb
 have hmo:=fun m=>Gs (m:=m) (p:=a.base) (q:=b.base)
 generalize kT a b=R at hC
 generalize jF a.base b.base=M at hC hme hmp hmo
 have hcc:AC Tryz.prog 131 [.c (.ms 22 1 0 2)] [(22, .arr 1 [[.d (.ps 2 (a.holes.map bF))],[.d (.ps 2 (b.holes.map bF))]])] (fun r st=>r=iY (a.holes++b.holes)∧st=[(22, .dead)]):=by
  have hls:∀l∈[a.holes,b.holes],l.length≤1000:=by
   intro l hl
   simp only[List.mem_cons,List.not_mem_nil,or_false] at hl
   rcases hl with rfl|rfl
   ·omega
   ·omega
  have:=Su [a.holes,b.holes] (by simp) hls
  simpa[aK,DN] using this
 cases M with
 |none=>
  simp only at hC
  refine dA Tryz.func62 Tryz.ntmps62 fun x hx=>?_
  (repeat (first|refine nv ?_|refine cf (hme) ?_))
  refine bC ?_
  refine Ui (wr:=false) [(23, .c (.d (.v (.int .i64 0)))),(24,B false)] [(22,([],none))] (by kernel_rfl) (by simp only[PW.eq_1,PW.eq_2,DK.eq_def,WL.eq_def,BD.eq_def,Option.getD,kD,kk,Nat.reduceAdd,Nat.reduceLT,Nat.reduceEqDiff, ↓reduceIte,reduceCtorEq];first|done|rfl) ?_ (by kernel_rfl) ?_
  ·(simp only[All,List.cons_append,List.nil_append,dG,List.mem_cons,List.not_mem_nil,or_false,forall_eq_or_imp,forall_eq,and_true,true_and,implies_true,List.length_map,List.length_cons,List.length_nil];repeat' (first|exact trivial|exact hcc|refine And.intro ?_ ?_|(intro h;cases h;done)|(rintro _ ⟨⟩;done)|assumption|rfl|omega|intro _|(simp[dN,bD,aS,aQ,aU,aP,aT,ag,aB,cu,aH,bP,ae,Ab.get];done)))
  try refine nv ?_
  refine rA [] ?_
  refine⟨?_,rfl⟩
  rw[hC];rfl
 |some m=>
  simp only at hC
  have hv:=aaR m (a.holes++b.holes) (hmp m rfl) (by simp;omega) (fun h hh=>by rcases List.mem_append.1 hh with hh|hh;exact(hah h hh).1;exact(hbh h hh).1) (hmo m rfl).1 (fun h hh=>by rcases List.mem_append.1 hh with hh|hh;exact dE (hah h hh).2;exact dE (hbh h hh).2)
  generalize Ec ⟨m,a.holes++b.holes⟩=n at hv hC
  refine dA Tryz.func62 Tryz.ntmps62 fun x hx=>?_
  (repeat (first|refine nv ?_|refine cf (hme) ?_))
  refine bC ?_
  refine Ui (wr:=false) [(23,iY (a.holes++b.holes)),(24,B (decide (n=0)))] [(23,([(22, .arr 1 [[.d (.ps 2 (a.holes.map bF))],[.d (.ps 2 (b.holes.map bF))]])],some [(22, .dead)]))] (by kernel_rfl) (by simp only[PW.eq_1,PW.eq_2,DK.eq_def,WL.eq_def,BD.eq_def,Option.getD,kD,kk,Nat.reduceAdd,Nat.reduceLT,Nat.reduceEqDiff, ↓reduceIte,reduceCtorEq];first|done|rfl) ?_ (by kernel_rfl) ?_
  ·(simp only[All,List.cons_append,List.nil_append,dG,List.mem_cons,List.not_mem_nil,or_false,forall_eq_or_imp,forall_eq,and_true,true_and,implies_true,List.length_map,List.length_cons,List.length_nil];repeat' (first|exact trivial|exact hcc|exact hv|refine And.intro ?_ ?_|(intro h;cases h;done)|(rintro _ ⟨⟩;done)|assumption|rfl|omega|intro _|(simp[dN,bD,aS,aQ,aU,aP,aT,ag,aB,cu,aH,bP,ae,Ab.get];done)))
  try refine nv ?_
  refine rA [] ?_
  refine⟨?_,rfl⟩
  rw[hC]
  cases n<;>rfl
end Go.Proofs.YtcpgicfphakdaaaGreatDoor
