/- A part of the proof. -/
import Derived.Test.YtcpgicfphakdaaaGreatDoorRY20
set_option maxRecDepth 100000
set_option maxHeartbeats 32000000
set_option linter.all false
namespace Go.Proofs.YtcpgicfphakdaaaGreatDoor
section
open Go.Ab
section
variable {d n:aW} (hD:Pv d) {t:jo} {ch:Int} {w:y9} (hR:vH d t ch w) (hk:pG d (dA d t ch w)) (ha:Yj d (dA d t ch w) n)
include hD hR hk ha
theorem adc:∃u,n.revs[(n.revs.length)]? =none∧u∈n.revs∧¬u.act=5∧fileOf u=⟨(dI d t ch w).to,(dI d t ch w).num⟩:=by
 obtain⟨a,e,hI,_⟩:=sQ hD hR
 have hn:=Yv hD.good hD.N hk ha (a:=a) hI.lt
 rw[show(dA d t ch w).edits.getD a bZ=e from hI.at'] at hn
 exact⟨_,by simp,aem hn,hI.a5,hI.file.symm⟩
theorem aaU:∃l,mF n ⟨t.frm,t.last⟩ ⟨(dI d t ch w).to,(dI d t ch w).num⟩=some l∧l.length≤512∧∀f∈l,¬(f.path=t.frm∧t.first≤f.num∧f.num≤t.last):=by
 have hg':=EN hD.good hD.N hk ha
 obtain⟨u,_,hu,u5,ef⟩:=adc hD hR hk ha
 obtain⟨j,hj⟩:=af7 hu
 obtain⟨s1,s2,s3,s4⟩:=src_ok hD.good hR.fits.le hR.fits.run
 obtain⟨i,hi,es⟩:=(dL hD.good).1 s2
 have m1:kY n t.frm t.last=some (fH d t):=(gJ hg' (f:=⟨t.frm,t.last⟩)).2 ⟨i,Qx ha hi,es,s3⟩
 have m2:kY n (dI d t ch w).to (dI d t ch w).num=some u:=(gJ hg' (f:=⟨(dI d t ch w).to,(dI d t ch w).num⟩)).2 ⟨j,hj,ef,u5⟩
 refine⟨_,by unfold mF;simp only;rw[m1,m2],?_,?_⟩
 ·have:=Ye hD.good hD.N hk ha
  rw[Ib,ae1]
  exact ajo (ajy ..) this
 ·rintro f hf ⟨f1,f2,f3⟩
  obtain⟨jx,ux,x1,x2,x3,x4,x5,x6⟩:=acC hf
  obtain⟨jz,z,z1,z2,z3,z4⟩:=(lY hD.good).1 (hR.fits.run f.num f2 f3)
  have e:fileOf ux=fileOf z:=by rw[x2,z2,←f1]
  have:=bP hg' x1 (Qx ha z1) e
  subst this
  rw[Qx ha z1] at x1;cases x1
  exact UW hD hR hk ha (aem z1) (congrArg bJ.path z2) (by rw[show ux.num=f.num from congrArg bJ.num z2];exact f2) (by rw[show ux.num=f.num from congrArg bJ.num z2];exact f3) x6
end
end
section
open Go.Ab Tys
variable [Dr]
def z41.kk:=p2 (p9 kB kG kM Tryz.ntmps41 oG vG uf BJ vP) (p8 yV Om mG xK DU Y3 Em Tryz.results41)
open z41 in
theorem Nq (L:jA) (hL:zi L) (la:List (akK×Int)) (me:List (Int×List Int)) (f:bJ):
 AC Tryz.prog 41 [.c (.pp (uw L la me)),BO f] [] (fun r st=>(∃i:Int,r= .tup [pI i,pB (uF L f).isSome]∧∀k,uF L f=some k→i=k)∧st=[]):=by
 cases hk:ai L.index f with
 |none=>
  have hm:uF L f=none:=by simp[uF,hk]
  rw[hm]
  cases hf:L.fst with
  |nil=>
   refine df Tryz.func41 Tryz.ntmps41 fun x hx=>?_
   try refine nv ?_
   refine Bg (wr:=false) ([]:List (Nat×AV)) (by simp only[kD,kk,Nat.reduceAdd,Nat.reduceLT,Nat.reduceEqDiff, ↓reduceIte,reduceCtorEq,nY,hk,Option.map_none,Option.isSome];first|done|rfl) ?_ ?_
   ·exact eQ @zU
   refine aZ ?_
   refine dx ([]) (p2 @hf @List.getD_nil.{0}) ?_ ?_
   ·exact qP
   try refine nv ?_
   refine rA [] ?_
   refine⟨?_,rfl⟩
   exact⟨0,rfl,fun k h=>by cases h⟩
  |cons a l=>
   refine df Tryz.func41 Tryz.ntmps41 fun x hx=>?_
   try refine nv ?_
   refine Bg (wr:=false) ([]:List (Nat×AV)) (by simp only[kD,kk,Nat.reduceAdd,Nat.reduceLT,Nat.reduceEqDiff, ↓reduceIte,reduceCtorEq,nY,hk,Option.map_none,Option.isSome];first|done|rfl) ?_ ?_
   ·exact eQ @zU
   refine aZ ?_
   refine dx ([]) (p2 @hf @Int.toNat_zero) ?_ ?_
   ·exact qP
   try refine nv ?_
   refine rA [] ?_
   refine⟨?_,rfl⟩
   exact⟨0,rfl,fun k h=>by cases h⟩
 |some i=>
  obtain⟨i1,i2⟩:=hL.ix _ _ hk
  have hcl:=hL.fst
  have hil:i.toNat<L.fst.length:=by omega
  have hi2:i<(L.fst.length:Int):=by omega
  have eg:=bH eI L.fst i.toNat 0 hil
  refine df Tryz.func41 Tryz.ntmps41 fun x hx=>?_
  try refine nv ?_
  refine Bg (wr:=false) ([]:List (Nat×AV)) (by simp only[kD,kk,Nat.reduceAdd,Nat.reduceLT,Nat.reduceEqDiff, ↓reduceIte,reduceCtorEq,nY,hk,Option.isSome];first|done|rfl) ?_ ?_
  ·exact eQ @zU
  refine aZ ?_
  refine dx ([]) @eg ?_ ?_
  ·exact qP
  try refine nv ?_
  refine rA [] ?_
  refine⟨?_,rfl⟩
  refine⟨i,?_,fun k h=>?_⟩
  ·simp only[uF,hk]
   generalize L.fst.getD i.toNat 0=z
   by_cases h:0≤z<;>simp[h]
  ·simp only[uF,hk] at h
   split at h
   ·cases h;rfl
   ·cases h
@[reducible] def aaQ (l:List bJ):Bool×List C:=(false,[.d (.ps 2 (l.map iR))])
noncomputable def ab4 (d:aW) (s t:bJ):AV:= .tup [aaQ ((mF d s t).getD []),pI (if(mF d s t).isSome then 0 else 150)]
theorem OA {d:aW} {s t:bJ} (h:mF d s t=none): .tup [aaQ [],pI 150]=ab4 d s t:=by simp[ab4,h]
theorem OW {d:aW} {s t:bJ} {l:List bJ} (h:mF d s t=some l): .tup [aaQ l,pI 0]=ab4 d s t:=by simp[ab4,h]
theorem Rz {d:aW} (hg:Good d.revs) {L:jA} {me:List (Int×List Int)} (hI:nT d d.revs.length L me) {s:bJ} (hs:uF L s=none):kY d s.path s.num=none:=by
 cases h:kY d s.path s.num with
 |none=>rfl
 |some w=>
  obtain⟨j,h1,h2,h3⟩:=(gJ hg).1 h
  have:=(Kt hI).2 ⟨j,w,rfl,(adK.1 h1).1,h1,h2,h3⟩
  rw[hs] at this;cases this
def BR (L:jA) (j:Int) (U:List Int):List bJ:=(U.filter (jh L j)).map fun x=>fileOf (L.revs.getD x.toNat ag)
theorem ada (L:jA) (j:Int) (U:List Int):(BR L j U).length≤U.length:=by simp only[BR,ae1];exact ajy ..
theorem Td:∀(l:List Int) (s:Int),(upto l s).length≤l.length
 |[],s=>by simp[upto]
 |a::l,s=>by
  have:=Td l s
  simp only[upto];split<;>simp;omega
theorem LZ:∀{l:List Int} {s x:Int},x∈upto l s→x∈l
 |[],s,x,h=>by simp[upto] at h
 |a::l,s,x,h=>by
  simp only[upto] at h
  split at h
  ·simp at h;simp[h]
  ·rcases afr.1 h with rfl|h
   ·simp
   ·exact ajl _ (LZ h)
def z14.kk:=p2 (p13 kB kS Tryz.ntmps14 Tryz.underlying43 Tryz.underlying55 iH oG dM vG PH jQ afM uf) (p12 vS Yb qU mG ny xK IP ahg iq DU Em Tryz.results14)
open z14 in
theorem Qa (d:aW) (hg:Good d.revs) (hn:d.revs.length≤512) (hm:d.recs.length≤512) (s t:bJ):
 AC Tryz.prog 14 [lT d,BO s,BO t] [] (fun r st=>r=ab4 d s t∧st=[]):=by
 refine df Tryz.func14 Tryz.ntmps14 fun x hx=>?_
 try refine nv ?_
 refine nJ [] (Ew d hg hn hm) ?_
 rintro r st' ⟨⟨L,la,me,hrun,_,rfl⟩,rfl⟩<;>refine nP ?_
 have hI:=hrun.inv hg
 have hL:zi L:=⟨by rw[hI.revs];exact hn,by rw[hI.lp,hI.revs],by rw[hI.lf,hI.revs],by rw[hI.lc,hI.revs],by rw[hI.lo,hI.revs],by rw[hI.lr,hI.revs],fun p i h=>by
  obtain⟨j,v,rfl,h1,h2,h3⟩:=(hI.ix p i).1 h
  rw[hI.revs];omega⟩
 try refine nv ?_
 refine aj ?_ ?_
 ·intro h;cases h
 intro _
 try refine nv ?_
 refine nJ [] (Nq L hL la me s) ?_
 rintro r st' ⟨⟨i,rfl,hi⟩,rfl⟩<;>refine nP ?_
 cases hs:uF L s with
 |none=>
  have hs2:=Rz hg hI hs
  try refine nv ?_
  refine aj ?_ ?_
  rotate_left
  ·intro h;cases h
  intro _
  refine aZ ?_
  refine gg ?_
  refine bC (jf (i:=6) 2 rfl) ?_
  refine fE ?_
  try refine nv ?_
  refine rA [] ?_
  refine⟨?_,rfl⟩
  exact OA (by simp[mF,hs2])
 |some i'=>
  have e:=hi i' hs
  subst e
  obtain⟨iN,v,rfl,i1,i2,i3,i4⟩:=(Kt hI).1 hs
  have hs2:=(gJ hg).2 ⟨iN,i2,i3,i4⟩
  try refine nv ?_
  refine aj ?_ ?_
  ·intro h;cases h
  intro _
  try refine nv ?_
  refine nJ [] (Nq L hL la me t) ?_
  rintro r st' ⟨⟨j,rfl,hj⟩,rfl⟩<;>refine nP ?_
  cases ht:uF L t with
  |none=>
   have ht2:=Rz hg hI ht
   try refine nv ?_
   refine aj ?_ ?_
   rotate_left
   ·intro h;cases h
   intro _
   refine aZ ?_
   refine gg ?_
   refine bC (jf (i:=6) 2 rfl) ?_
   refine fE ?_
   try refine nv ?_
   refine rA [] ?_
   refine⟨?_,rfl⟩
   exact OA (by simp[mF,hs2,ht2])
  |some j'=>
   have e:=hj j' ht
   subst e
   obtain⟨jN,w,rfl,j1,j2,j3,j4⟩:=(Kt hI).1 ht
   have ht2:=(gJ hg).2 ⟨jN,j2,j3,j4⟩
   obtain⟨ms,hms,hml⟩:=hI.ac1 i1 (hI.fm iN v i1 i2 i4).1
   have hmem:∀x∈ms,0≤x∧x<(L.revs.length:Int)∧∃l,L.con.getD x.toNat none=some l:=by
    have h1:=hI.mem (L.fst.getD iN 0) (hI.fm iN v i1 i2 i4).1
    rw[hms] at h1
    simp only[Option.getD] at h1
    intro x hx
    rw[h1] at hx
    obtain⟨y,hy,rfl⟩:=agh.1 hx
    obtain⟨hy1,hy2⟩:=ahI.1 hy
    have hy1:y<d.revs.length:=by simpa using hy1
    have hyv:=adH hy1
    have hf:L.fst.getD y 0=L.fst.getD iN 0:=agw hy2
    have y5:¬(d.revs[y]).act=5:=by
     intro h5
     have:=(hI.f5 y _ hy1 hyv h5).1
     have:=(hI.fm iN v i1 i2 i4).1
     omega
    obtain⟨c,m,cr,_,hc,_⟩:=hI.sets y _ hy1 hyv y5
    exact⟨by omega,by rw[hI.revs];omega,m,by rw[Int.toNat_natCast];exact hc⟩
   obtain⟨c,m,cr,_,_,hcr⟩:=hI.sets jN w j1 j2 j4
   have hrem:=adv hg hn hrun i2 j2 i4 j4
   rw[PD,Int.toNat_natCast,hms] at hrem
   simp only[Option.getD] at hrem
   have hrl:L.revs.length=d.revs.length:=by rw[hI.revs]
   have hac:=CE L hL la me iN jN (by omega) (by omega) ms (by rw[Int.toNat_natCast];exact hms) hmem ⟨cr,by rw[Int.toNat_natCast];exact hcr⟩ (by omega)
   have hU1:=Td ms iN
   have hU2:∀x∈upto ms iN,0≤x∧x<(L.revs.length:Int):=fun x hx=>⟨(hmem x (LZ hx)).1,(hmem x (LZ hx)).2.1⟩
   generalize upto ms iN=U at hrem hac hU1 hU2
   change BR L jN U=Ib d v (fileOf w) at hrem
   rw[j3] at hrem
   try refine nv ?_
   refine aj ?_ ?_
   ·intro h;cases h
   intro _
   (repeat (first|refine nv ?_|refine cf (hac) ?_))
   refine mQ (kH (i:=12) (id:=100) (sz:=2) rfl rfl (by omega)) ?_
   refine fE ?_
   refine au (ι:=Nat) (I:=fun k=>⟨71,[(8, .c (.pp (uw L la me))),(12, .c (.ms 100 2 0 (BR L jN (U.take k)).length)),(14, .c (.d (.ps 1 ((U.map (jh L jN)).map eB)))),(47, .c (.d (.ps 1 (U.map eI)))),(48,I .i64 U.length),(49,I .i64 k)],[(100,ay 2 ((BR L jN (U.take k)).map iR))]⟩)
    (Inv:=fun k=>k≤U.length) (μ:=fun k=>U.length-k) 0 (by simp) ?_ ?_
   ·(refine bi (fun i=>i) rfl ?_ ⟨?_,?_,?_,bW hx (by simp[ae,Ab.get])⟩<;>first|(simp only[kE,ay, ↓reduceIte,Nat.reduceEqDiff,reduceCtorEq,BR];done)|simp[aH,ax,ah,Ab.get,aJ,cZ,aB,bF,aS,aO,aQ,aT,aP,ae,List.flatten,BR])
   intro k hk
   have hF:=ada L jN (U.take k)
   have hF2:(U.take k).length≤512:=by simp;omega
   try refine nv ?_
   refine aj ?_ ?_
   ·intro hlt
    have hlt':k<U.length:=by simpa using hlt
    obtain⟨y,hy,he,htk⟩:=round eI U k 0 hlt'
    obtain⟨y1,y2⟩:=hU2 y (aem hy)
    have hl2:k<(U.map (jh L jN)).length:=by simpa using hlt'
    have hob:((U.map (jh L jN)).map eB).getD k []=eB (jh L jN y):=by
     rw[bH eB _ k false hl2]
     simp[List.getD,hy]
    have er:=bH aA L.revs y.toNat ag (by omega)
    try refine nx (p2 @he @hob) ?_
    refine aj ?_ ?_
    ·intro ho
     (repeat (first|refine nx @er ?_|refine cf (xC (L.revs.getD y.toNat ag)) ?_))
     refine⟨k+1,by omega,by omega,?_⟩
     have e:BR L jN (U.take (k+1))=BR L jN (U.take k)++[fileOf (L.revs.getD y.toNat ag)]:=by rw[htk,BR,ahk,ajA];simp[BR,ho]
     rw[e]
     exact uZ (fun i=>if i=100 then 68 else i)
    ·intro ho
     try refine nv ?_
     refine⟨k+1,by omega,by omega,?_⟩
     have e:BR L jN (U.take (k+1))=BR L jN (U.take k):=by rw[htk,BR,ahk,ajA];simp[BR,ho]
     rw[e]
     exact bQ
   ·intro hge
    have hge':k=U.length:=by have:¬k<U.length:=by simpa using hge
                             omega
    refine aZ ?_
    refine bC (aY (i:=12) (id:=100) (ys:=(BR L jN (U.take k)).map iR) rfl rfl (by simp)) ?_
    refine fE ?_
    try refine nv ?_
    refine rA [] ?_
    refine⟨?_,rfl⟩
    rw[hge',afu,hrem]
    exact OW (by simp[mF,hs2,ht2])
end
section
open Go.Ab Tys
variable [zg]
def ajb:jo:=⟨0,noS,0,noS,0,0,noS,0,noS,0,noS⟩
def z6.kk:=p3 (U6 kB kG kS Tryz.ntmps6 Tryz.underlying28 Tryz.underlying32 Tryz.underlying43 Tryz.underlying55 Tryz.underlying9 iH oG wM Ea pY lq) (U6 pW UZ afM uf kQ kT Bq BB Bh sK xO A7 lQ qx rQ) (MP xY wu mG ny aew xK FB ahg QG BP y7 sD jB Tryz.results6)
open z6 in
theorem JG (l:List iZ) (hf:Few l) (m:List fA) (hm:m.length≤1048576) (hb:∀e∈m,EB 1048576 e∧e.holes.length≤1000000) (pick ch:Int) (w:y9):
 AC Tryz.prog 6 [.c (.d (.ps 5 (l.map gm))),iV m,I .i64 pick,I .i64 ch,PT w] [] (fun r st=>r=B true∧st=[]):=by
 have haw:=Jv
 have hsm:=Ku m hm (fun e he=>(hb e he).1)
 have hsz:=fun h=>NW (m:=m) h hb
 generalize tX m=sb at hsm hsz
 refine df Tryz.func6 Tryz.ntmps6 fun x hx=>?_
 try refine nv ?_
 refine nJ [] (Q3 l hf) ?_
 rintro r st' ⟨⟨b,rfl,hb1⟩,rfl⟩<;>refine nP ?_
 try refine nv ?_
 refine so ([(28,B sb)]) ?_ ?_
 ·exact eQ @hsm
 try refine nv ?_
 refine aj ?_ ?_
 ·intro _
  (repeat (first|refine nv ?_|refine cf (haw) ?_))
  refine rA [] ?_
  refine⟨?_,rfl⟩
  rfl
 intro hc
 have hb2:b=true:=by cases b<;>simp_all
 have hs1:sb=true:=by cases sb<;>simp_all
 obtain⟨b1,b2,b3⟩:=hb1 hb2
 obtain⟨m1,m2⟩:=hsz hs1
 try refine nv ?_
 refine nJ [] (Q7 l (by omega) (afv b2 b3)) ?_
 rintro r st' ⟨⟨d,rfl,hB⟩,rfl⟩<;>refine nP ?_
 have hD:=hB.dok
 clear hB
 have o1:=hD.N
 have o2:=hD.M
 have hA:=Nu d hD.good o1 o2 hD.pth hD.frm m m1 m2
 by_cases hM:Cc m
 rotate_left
 ·have h1:AC Tryz.prog 11 [lT d,iV m] [] (fun r st=>r= .tup [Ht [],pI 151]∧st=[]):=hA.mono fun r st h=>⟨by rcases h.1 with h|h;exact absurd h.1 hM;exact h.2,h.2⟩
  clear hA
  (repeat (first|refine nv ?_|refine cf (h1) ?_))
  refine aj ?_ ?_
  rotate_left
  ·intro h;simp at h
  intro _
  (repeat (first|refine nv ?_|refine cf (haw) ?_))
  refine rA [] ?_
  refine⟨?_,rfl⟩
  rfl
 have h1:AC Tryz.prog 11 [lT d,iV m] [] (fun r st=>r= .tup [Ht (xw d m),pI 0]∧st=[]):=hA.mono fun r st h=>⟨by rcases h.1 with h|h;exact h.2;exact absurd hM h.1,h.2⟩
 clear hA
 have hTB:=Vb hD.good o1 hD.frm hD.pth m
 generalize xw d m=ts at h1 hTB
 (repeat (first|refine nv ?_|refine cf (h1) ?_))
 refine aj ?_ ?_
 ·intro _
  (repeat (first|refine nv ?_|refine cf (haw) ?_))
  refine rA [] ?_
  refine⟨?_,rfl⟩
  rfl
 intro hc2
 have hpk:0≤pick∧pick<ts.length:=by
  simp at hc2;omega
 obtain⟨t,ht,hte,_⟩:=round ik ts pick.toNat ajb (by omega)
 have hxB:=hTB t (aem ht)
 try refine nx @hte ?_
 refine aj ?_ ?_
 ·intro _
  (repeat (first|refine nv ?_|refine cf (haw) ?_))
  refine rA [] ?_
  refine⟨?_,rfl⟩
  rfl
 intro hsz2
 have hts:t.to.size≤200∧t.move.size≤200:=by
  simp at hsz2;omega
 have hF:Fits d t:=hxB.fits hts.1 hts.2
 have hfb:mf d t=true:=by simp[mf,hF]
 have hCh:=Ji d hD.good o1 hD.num t (by omega) (by omega)
 rw[hfb] at hCh
 simp only[if_true] at hCh
 have hRs:=xU d hD.good o1 hD.num t (by omega) (by omega) ch w
 have hcp:=Xi t.kind
 have hcl:=PP t.kind
 generalize Lc t.kind=es at hCh hcp hcl
 (repeat (first|refine nv ?_|refine cf (hCh) ?_))
 refine aj ?_ ?_
 ·intro h;exfalso
  have:es=[]:=by simpa using h
  rw[this] at hcp;simp at hcp
 intro _
 by_cases hok:(iD t.kind ch&&lC t ch w)=true
 rotate_left
 ·rw[DK hfb (by simpa using hok)] at hRs
  (repeat (first|refine nv ?_|refine cf (hRs) ?_))
  refine aj ?_ ?_
  rotate_left
  ·intro h;cases h
  intro _
  try refine nv ?_
  refine so ([(95,B true)]) ?_ ?_
  ·exact eQ @haw
  try refine nv ?_
  refine rA [] ?_
  refine⟨?_,rfl⟩
  rfl
 have hok2:iD t.kind ch=true∧lC t ch w=true:=by simpa using hok
 rw[D6 hfb hok2.1 hok2.2] at hRs
 have hR:vH d t ch w:=⟨hF,hok2.1,hok2.2⟩
 obtain⟨s1,s2,s3,s4⟩:=src_ok hD.good hF.le hF.run
 have hne:d.revs≠[]:=List.ne_nil_of_mem s1
 have hnx:=Yc d (by omega) (fun v hv=>by have:=hD.chg v hv;omega)
 rw[show d.revs.foldl (fun n v=>max n (v.chg+1)) 1=IR d from rfl] at hnx
 have hRm:=fun n (ha:Yj d (dA d t ch w) n) (ht:LG d (dA d t ch w)) hn=>aaU (n:=n) hD hR (Iy hD hR hn ht.1 ht.2) ha
 have hAp:=fun hn=>Yf hD (XT hD hR hn) hne (fun r hr=>aa7 hD hR hr)
 have hGd:=fun n (ha:Yj d (dA d t ch w) n) (ht:LG d (dA d t ch w)) hn=>EN hD.good hD.N (Iy hD hR hn ht.1 ht.2) ha
 have hNd:=fun n (ha:Yj d (dA d t ch w) n) (ht:LG d (dA d t ch w)) hn=>Ye hD.good hD.N (Iy hD hR hn ht.1 ht.2) ha
 have hcE:dA d t ch w=⟨IR d,ByteArray.empty,ByteArray.empty,iy d t ch w,[dI d t ch w]⟩:=rfl
 generalize iy d t ch w=els at hRs hcE
 generalize dI d t ch w=rc at hRs hcE hRm
 generalize dA d t ch w=c at hAp hcE hRm hGd hNd
 (repeat (first|refine nv ?_|refine cf (hRs) ?_))
 refine aj ?_ ?_
 ·intro h;cases h
 intro _
 try refine nv ?_
 refine aj ?_ ?_
 ·intro h;simp at h
 intro _
 (repeat (first|refine nv ?_|refine cf (hnx) ?_))
 refine aj ?_ ?_
 ·intro _
  (repeat (first|refine nv ?_|refine cf (haw) ?_))
  refine rA [] ?_
  refine⟨?_,rfl⟩
  rfl
 intro hn
 have hn:IR d≤1073741824:=by simpa using hn
 have hAp:=hAp hn
 have hRm:=fun n ha ht=>hRm n ha ht hn
 have hGd:=fun n ha ht=>hGd n ha ht hn
 have hNd:=fun n ha ht=>hNd n ha ht hn
 have hAp2:AC Tryz.prog 21 [lT d, .agg [.d (.v (.int .i64 (IR d))), .d (.v (.string ByteArray.empty)), .d (.v (.string ByteArray.empty)), .d (.ps 12 (els.map bK)), .d (.ps 6 [af rc])]] [] (fun r st=>(∃x,Uu d c x∧r= .tup [(true,[.d x.1, .d x.2.1]),pI x.2.2])∧st=[]):=by
  rw[hcE] at hAp⊢;exact hAp
 refine aZ ?_
 refine YH (wr:=false) [(107,I .i64 (IR d))] [] [0,1,2,3,4,5,10] 6 111 (fun x:D×D×Int=> .tup [(true,[.d x.1, .d x.2.1]),pI x.2.2]) (Uu d c) (.v (.slice none 0 0), .v (.slice none 0 0),110) (.inr rfl) (by kernel_rfl) (fun x=>by simp only[kZ,kD,kk,Nat.reduceAdd,Nat.reduceLT,Nat.reduceEqDiff, ↓reduceIte,reduceCtorEq];first|done|rfl) ?_ (fun x=>by kernel_rfl) (by kernel_rfl) (fun _ _=>by kernel_rfl) (by kernel_rfl) (fun _ _=>by simp only[agV,aj0,List.getElem?_cons_zero,List.getElem?_cons_succ];repeat' (first|(with_reducible rfl)|refine congr (congrArg List.cons ?_) ?_|refine congrArg some ?_|kernel_rfl)) ?_
 ·intro x hx
  (simp only[All,List.cons_append,List.nil_append,dB,afr,agW,ajr,forall_eq_or_imp,forall_eq,ahu,ajG,implies_true,ae1,List.length_cons,List.length_nil];repeat' (first|exact trivial|exact hnx|exact hAp2|refine And.intro ?_ ?_|(rintro _ ⟨⟩;done)|assumption|rfl|omega|(simp[bF,aS,aO,aQ,aT,aP,ah,aB,cZ,aJ,bM,ae,Ab.get];done)))
 rintro⟨c1,c2,c3⟩ hcr
 rcases hcr with⟨n,ha,hnl,htot,hx⟩|hx
 ·cases hx
  obtain⟨l',r1,r2,r3⟩:=hRm n ha htot
  have hrl:n.recs.length≤512:=by
   have:=htot.2
   rw[hcE] at hnl;simp at hnl;rw[hcE] at this;simp at this;omega
  have hRem:=Qa n (hGd n ha htot) (hNd n ha htot) hrl ⟨t.frm,t.last⟩ ⟨rc.to,rc.num⟩
  rw[←OW r1] at hRem
  try refine nv ?_
  refine aj ?_ ?_
  ·intro h;cases h
  intro _
  refine aZ ?_
  refine dx ([]) (p2 @Int.toNat_zero @List.getD_cons_zero.{0}) ?_ ?_
  ·exact qP
  (repeat (first|refine nv ?_|refine cf (hRem) ?_))
  refine aj ?_ ?_
  ·intro h;cases h
  intro _
  try refine nv ?_
  refine au (ι:=Nat) (I:=fun k=>⟨170,[(14, .c (.ptr 14 0)),(143,ag6 l'),(144,I .i64 l'.length),(145,I .i64 k)],[(14, .box ((ik t).map C.d))]⟩)
   (Inv:=fun k=>k≤l'.length) (μ:=fun k=>l'.length-k) 0 (by omega) ?_ ?_
  ·exact bQ
  intro k hk
  try refine nv ?_
  refine aj ?_ ?_
  ·intro hlt
   have hlt':k<l'.length:=by simpa using hlt
   obtain⟨f,hf1,hfe,_⟩:=round iR l' k uI hlt'
   have hno:=r3 f (aem hf1)
   try refine nx @hfe ?_
   refine aj ?_ ?_
   ·intro h;exfalso
    apply hno
    simp at h
    exact⟨h.1.1,h.1.2,h.2⟩
   intro _
   try refine nv ?_
   refine⟨k+1,by omega,by omega,?_⟩
   exact bQ
  intro _
  (repeat (first|refine nv ?_|refine cf (haw) ?_))
  refine rA [] ?_
  refine⟨?_,rfl⟩
  rfl
 ·cases hx
  try refine nv ?_
  refine aj ?_ ?_
  rotate_left
  ·intro h;cases h
  intro _
  try refine nv ?_
  refine so ([(119,B true)]) ?_ ?_
  ·exact eQ @haw
  try refine nv ?_
  refine rA [] ?_
  refine⟨?_,rfl⟩
  rfl
end
end Go.Proofs.YtcpgicfphakdaaaGreatDoor
