/- A part of the proof. -/
import Derived.Test.YtcpgicfphakdaaaGreatDoorRU14
import Derived.Test.YtcpgicfphakdaaaGreatDoorRT3
import Derived.Test.YtcpgicfphakdaaaGreatDoorRT7
set_option maxRecDepth 100000
set_option maxHeartbeats 16000000
set_option linter.all false
namespace Go.Proofs.YtcpgicfphakdaaaGreatDoor
section
open Go.Ab
def uJ (d:aW) (m:List fA) (ln:List Rev):Nat→Option (Rev×akK)
 |0=>none
 |k+1=>
  if 0<k∧(ln.getD (k-1) ag).path=(ln.getD k ag).path then uJ d m ln k
  else match rH d m (fileOf (ln.getD 0 ag)) (ln.getD k ag).path with
   |some w=>some (w,(ln.getD k ag).path)
   |none=>uJ d m ln k
def orT (d:aW) (m:List fA) (f:bJ) (q:akK) (X:Option (Rev×akK)):Option (Rev×akK):=match rH d m f q with|some w=>some (w,q)|none=>X
theorem XM (d:aW) (m:List fA) (ln:List Rev) (k:Nat):xh d m ln (k+1)=if k+1<ln.length∧(ln.getD (k+1) ag).path=(ln.getD k ag).path then xh d m ln k else orT d m (fileOf (ln.getD 0 ag)) (ln.getD k ag).path (xh d m ln k):=by
 rw[xh,orT]<;>(split<;>first|rfl|(cases rH d m (fileOf (ln.getD 0 ag)) (ln.getD k ag).path<;>rfl))
theorem ae3 (d:aW) (m:List fA) (ln:List Rev) (k:Nat):uJ d m ln (k+1)=if 0<k∧(ln.getD (k-1) ag).path=(ln.getD k ag).path then uJ d m ln k else orT d m (fileOf (ln.getD 0 ag)) (ln.getD k ag).path (uJ d m ln k):=by
 rw[uJ,orT]
theorem afw (d:aW) (m:List fA) (ln:List Rev):∀k,k≤ln.length→
 (¬(k<ln.length∧0<k∧(ln.getD (k-1) ag).path=(ln.getD k ag).path)→xh d m ln k=uJ d m ln k)∧
 ((k<ln.length∧0<k∧(ln.getD (k-1) ag).path=(ln.getD k ag).path)→orT d m (fileOf (ln.getD 0 ag)) (ln.getD (k-1) ag).path (xh d m ln k)=uJ d m ln k)
 |0,_=>⟨fun _=>rfl,fun h=>by omega⟩
 |k+1,hk=>by
  obtain⟨ih1,ih2⟩:=afw d m ln k (by omega)
  have hkl:k<ln.length:=by omega
  simp only[akb]
  have hL:=ae3 d m ln k
  have hs2:(0<k∧(ln.getD (k-1) ag).path=(ln.getD k ag).path)→orT d m (fileOf (ln.getD 0 ag)) (ln.getD k ag).path (xh d m ln k)=uJ d m ln (k+1):=fun hs=>by
   rw[hL,if_pos hs,←ih2 ⟨hkl,hs⟩,hs.2]
  have hs3:¬(0<k∧(ln.getD (k-1) ag).path=(ln.getD k ag).path)→orT d m (fileOf (ln.getD 0 ag)) (ln.getD k ag).path (xh d m ln k)=uJ d m ln (k+1):=fun hs=>by
   rw[hL,if_neg hs,ih1 (fun h=>hs h.2)]
  have hb:orT d m (fileOf (ln.getD 0 ag)) (ln.getD k ag).path (xh d m ln k)=uJ d m ln (k+1):=by
   by_cases hs:0<k∧(ln.getD (k-1) ag).path=(ln.getD k ag).path
   ·exact hs2 hs
   ·exact hs3 hs
  constructor
  ·intro h
   rw[XM,if_neg (by rintro⟨a,b⟩;exact h ⟨a,by omega,b.symm⟩)]
   exact hb
  ·rintro⟨a,_,b⟩
   rw[XM,if_pos ⟨a,b.symm⟩]
   exact hb
theorem agj (d:aW) (m:List fA) (ln:List Rev):uJ d m ln ln.length=oV d m ln:=((afw d m ln ln.length (afJ _)).1 (fun h=>by omega)).symm
theorem aaf {d:aW} {m:List fA} {ln:List Rev} {k:Nat} (h:0<k) (he:(ln.getD (k-1) ag).path=(ln.getD k ag).path):uJ d m ln (k+1)=uJ d m ln k:=by
 rw[uJ,if_pos ⟨h,he⟩]
theorem aal {d:aW} {m:List fA} {ln:List Rev} {k:Nat} (h:¬(0<k∧(ln.getD (k-1) ag).path=(ln.getD k ag).path)) (ht:rH d m (fileOf (ln.getD 0 ag)) (ln.getD k ag).path=none):uJ d m ln (k+1)=uJ d m ln k:=by
 rw[uJ,if_neg h,ht]
theorem VG {d:aW} {m:List fA} {ln:List Rev} {k:Nat} {w:Rev} (h:¬(0<k∧(ln.getD (k-1) ag).path=(ln.getD k ag).path)) (ht:rH d m (fileOf (ln.getD 0 ag)) (ln.getD k ag).path=some w):uJ d m ln (k+1)=some (w,(ln.getD k ag).path):=by
 rw[uJ,if_neg h,ht]
def stF (ln:List Rev) (p:akK):Nat→Nat
 |0=>0
 |k+1=>if(ln.getD k ag).path=p then stF ln p k else k+1
theorem aa2 {d:aW} (hg:Good d.revs) (hN:d.revs.length≤512) (hf:zq d) {f:bJ} {p:akK}:∀k,k<(line d f).length→((line d f).getD k ag).path=p→ZK p (line d f) k ((line d f).getD k ag).num=((line d f).getD (stF (line d f) p k) ag).num
 |0,_,_=>rfl
 |k+1,hk,hp=>by
  have ih:=aa2 hg hN hf (f:=f) (p:=p) k (by omega)
  rw[ZK,stF]
  by_cases hq:((line d f).getD k ag).path=p
  ·have e:=mY hg hN f
   have b1:(lZ d f)[k]? =some ((line d f).getD k ag):=by rw[←e];exact getD_at (by omega)
   have b2:(lZ d f)[k+1]? =some ((line d f).getD (k+1) ag):=by rw[←e];exact getD_at hk
   have hn:=O0 hg hN hf b1 b2 (by rw[hp,hq])
   rw[if_pos hq,if_pos ⟨hq,by omega⟩,ih hq]
  ·rw[if_neg hq,if_neg (fun h=>hq h.1)]
theorem acQ {p:akK} {ln:List Rev} {k:Nat} (hk:ln.length=k+1) (hp:(ln.getD k ag).path=p):ZK p ln ln.length (ln.getD k ag).num=ZK p ln k (ln.getD k ag).num:=by
 rw[hk,ZK,if_pos ⟨hp,by omega⟩]
section
variable {d:aW} (hg:Good d.revs) (hN:d.revs.length≤512) {L:jA} {me:List (Int×List Int)} (hI:nT d d.revs.length L me) {la:List (akK×Int)} (hla:yD d d.revs.length la)
include hg hN hI hla
theorem ahS (t:akK):(ai la t=none∧Hf d t=none)∨∃(j:Nat) (v:Rev),ai la t=some (j:Int)∧d.revs[j]? =some v∧aU d t=some v∧
 ((¬v.act=5∧Hf d t=some v)∨(v.act=5∧((ai L.index ⟨t,v.num-1⟩=none∧Hf d t=none)∨∃(i:Nat) (u:Rev),ai L.index ⟨t,v.num-1⟩=some (i:Int)∧d.revs[i]? =some u∧¬u.act=5∧Hf d t=some u))):=by
 rcases hla.last t with⟨h1,h2⟩|⟨j,v,h1,h2,h3⟩
 ·exact .inl ⟨h1,by unfold Hf;rw[h2]⟩
 ·refine .inr ⟨j,v,h1,h2,h3,?_⟩
  by_cases h5:v.act=5
  ·refine .inr ⟨h5,?_⟩
   have hu:Hf d t=iE d t (v.num-1):=by unfold Hf;rw[h3];simp only;rw[if_pos h5]
   cases hk:ai L.index ⟨t,v.num-1⟩ with
   |none=>
    refine .inl ⟨rfl,?_⟩
    rw[hu]
    cases hc:iE d t (v.num-1) with
    |none=>rfl
    |some w=>
     obtain⟨i,i1,i2⟩:=(dL hg).1 hc
     rw[(hI.ix _ (i:Int)).2 ⟨i,w,rfl,(adK.1 i1).1,i1,i2⟩] at hk
     cases hk
   |some x=>
    obtain⟨i,u,rfl,i1,i2,i3⟩:=(hI.ix _ _).1 hk
    have hc:Hf d t=some u:=by rw[hu];exact(dL hg).2 ⟨i,i2,i3⟩
    exact .inr ⟨i,u,rfl,i2,(IY hg hc).2,hc⟩
  ·exact .inl ⟨h5,by unfold Hf;rw[h3];simp only;rw[if_neg h5]⟩
theorem ajc {i:Nat} {u:Rev} (hu:d.revs[i]? =some u) (u5:¬u.act=5):∃is,UG d L me (first d u) (L.fst.getD i 0) is∧0<is.length∧∃(w:Nat) (j:Nat),is[is.length-1]? =some w∧atR d w=iG d u∧w<d.revs.length∧ai la (iG d u).path=some (j:Int)∧j<d.revs.length∧
 (j=w↔(aU d (iG d u).path).getD ag=iG d u):=by
 obtain⟨is,h,hin⟩:=acS hg hN hI hu u5
 have hp:0<is.length:=List.length_pos_of_mem hin
 have hw:is[is.length-1]? =some (is[is.length-1]):=adH (by omega)
 generalize is[is.length-1]=w at hw
 have hwm:=aem hw
 have hwl:=h.lt w hwm
 have hlw:atR d w=iG d u:=by
  unfold iG
  rw[h.ln,ae1,adI,ag5,hw];rfl
 refine⟨is,h,hp,w,?_⟩
 have hr:=jU hwl
 rw[hlw] at hr
 rcases hla.last (iG d u).path with⟨_,h2⟩|⟨j,v,h1,h2,h3⟩
 ·exact absurd rfl (last_none h2 _ (aem hr))
 ·refine⟨j,hw,hlw,hwl,h1,(adK.1 h2).1,?_⟩
  rw[h3,Option.getD_some]
  constructor
  ·rintro rfl
   rw[hr] at h2;cases h2;rfl
  ·intro e
   exact bP hg h2 hr (by rw[e])
end
theorem abY {is:List Nat} {i:Nat} (ho:is.Pairwise (· <·)) (hl:is[is.length-1]? =some i):∀x∈is,x≤i:=by
 intro x hx
 obtain⟨k,hk⟩:=af7 hx
 obtain⟨k1,k2⟩:=adK.1 hk
 obtain⟨z1,z2⟩:=adK.1 hl
 by_cases e:k=is.length-1
 ·subst e;omega
 ·have:=ajV.1 ho k (is.length-1) k1 z1 (by omega)
  omega
theorem upto_all {is:List Nat} {i:Nat} (ho:is.Pairwise (· <·)) (hl:is[is.length-1]? =some i):upto (is.map fun x:Nat=>(x:Int)) (i:Int)=is.map fun x:Nat=>(x:Int):=by
 rw[zL ho (aem hl),akH.2 fun x hx=>ajk (abY ho hl x hx)]
section
variable {d:aW} (hg:Good d.revs) (hN:d.revs.length≤512) {L:jA} {me:List (Int×List Int)} (hr:lG d d.revs.length L me) {i j:Nat} {v w:Rev} (hv:d.revs[i]? =some v) (v5:¬v.act=5) (hw:d.revs[j]? =some w) (w5:¬w.act=5) {is:List Nat} (hx:UG d L me (first d v) (L.fst.getD i 0) is) (hl:is[is.length-1]? =some i)
include hg hN hr hv v5 hw w5 hx hl
theorem Xc:(mF d (fileOf v) (fileOf w)).getD []=(is.filter fun e:Nat=>jh L (j:Int) (e:Int)).map fun e=>fileOf (atR d e):=by
 have h1:kY d (fileOf v).path (fileOf v).num=some v:=(gJ hg).2 ⟨i,hv,rfl,v5⟩
 have h2:kY d (fileOf w).path (fileOf w).num=some w:=(gJ hg).2 ⟨j,hw,rfl,w5⟩
 have h3:(mF d (fileOf v) (fileOf w)).getD []=Ib d v (fileOf w):=by unfold mF;rw[h1,h2];rfl
 rw[h3,←adv hg hN hr hv hw v5 w5,PD,Int.toNat_natCast,hx.me,Option.getD_some,upto_all hx.ord hl,List.filter_map,ajM]
 have hI:=hr.inv hg
 refine ajZ fun e _=>?_
 simp only[Function.comp,Int.toNat_natCast,hI.revs];rfl
theorem aaz {e:Nat} (he:e∈is):jh L (j:Int) (e:Int)=true↔fileOf (atR d e)∈(mF d (fileOf v) (fileOf w)).getD []:=by
 rw[Xc hg hN hr hv v5 hw w5 hx hl,agh]
 constructor
 ·intro h;exact⟨e,ahI.2 ⟨he,h⟩,rfl⟩
 ·rintro⟨x,h1,h2⟩
  obtain⟨h1,h3⟩:=ahI.1 h1
  have:=bP hg (jU (hx.lt x h1)) (jU (hx.lt e he)) h2
  subst this;exact h3
theorem aaB:(mF d (fileOf v) (fileOf w)).getD []=[]↔¬true∈is.map fun e:Nat=>jh L (j:Int) (e:Int):=by
 rw[Xc hg hN hr hv v5 hw w5 hx hl,List.map_eq_nil_iff,ajO]
 simp
end
section
variable {d:aW} (hg:Good d.revs) (hN:d.revs.length≤512)
include hg hN
theorem yg {v:Rev} (v5:¬v.act=5) (hl:aU d v.path=some v):iG d v=v∧0<(line d (first d v)).length:=by
 have hm:=(lJ hl).1
 obtain⟨i,hv⟩:=af7 hm
 obtain⟨L,me,hr⟩:=abZ (d:=d) (afJ _)
 have hI:=hr.inv hg
 obtain⟨is,hx,hin⟩:=acS hg hN hI hv v5
 obtain⟨h0,h1⟩:=W9 hg hN hI hv v5 hl hx hin
 refine⟨?_,by rw[hx.ln,ae1];exact h0⟩
 unfold iG
 rw[hx.ln,ae1,adI,ag5,h1]
 exact KF hv
omit hN in
theorem abQ (f:bJ):∀u∈line d f,∀v∈line d f,fileOf u=fileOf v→u=v:=by
 intro u hu v hv e
 obtain⟨i,hi⟩:=af7 (lV.1 hu).1
 obtain⟨j,hj⟩:=af7 (lV.1 hv).1
 have:=bP hg hi hj e
 subst this;rw[hi] at hj;cases hj;rfl
open Classical in
theorem ZL {v w:Rev} (v5:¬v.act=5) (hl:aU d v.path=some v) (hw:w∈d.revs) (w5:¬w.act=5):mF d (fileOf v) (fileOf w)=some (((line d (first d v)).filter fun u=>decide (Open d (fileOf w) u)).map fileOf):=by
 have hm:=(lJ hl).1
 obtain⟨i,hv⟩:=af7 hm
 obtain⟨j,hj⟩:=af7 hw
 have h1:kY d (fileOf v).path (fileOf v).num=some v:=(gJ hg).2 ⟨i,hv,rfl,v5⟩
 have h2:kY d (fileOf w).path (fileOf w).num=some w:=(gJ hg).2 ⟨j,hj,rfl,w5⟩
 obtain⟨e,h0⟩:=yg hg hN v5 hl
 have hp:(lZ d (first d v))[(line d (first d v)).length-1]? =some v:=by
  rw[←mY hg hN,getD_at (z:=ag) (by omega)]
  exact congrArg some e
 unfold mF
 rw[h1,h2]
 show some (Ib d v (fileOf w))=_
 rw[aaN hg hN (fileOf w) hp,←mY hg hN,ahH (by omega)]
end
section
variable {d e:aW} (h:d.revs=e.revs)
include h
theorem aby (p:akK):log d p=log e p:=by simp only[log,h]
theorem agK (p:akK) (n:Int):iE d p n=iE e p n:=by simp only[iE,aby h]
theorem XL (v:Rev):gB d v=gB e v:=by simp only[gB,agK h]
theorem OG:∀(n:Nat) (v:Rev),lN d n v=lN e n v
 |0,_=>rfl
 |n+1,v=>by
  simp only[lN,XL h]
  split
  ·rfl
  ·split
   ·rfl
   ·exact OG n _
theorem acs (v:Rev):first d v=first e v:=by simp only[first,cnt,h,OG h]
end
structure Yj (d:aW) (c:iZ) (n:aW):Prop where
 revs:n.revs=d.revs++c.edits.map (made c)
 recs:∀r,r∈n.recs↔r∈d.recs∨r∈c.recs
section
variable {d n:aW} {c:iZ} (hg:Good d.revs) (hN:d.revs.length≤512) (hk:pG d c) (ha:Yj d c n)
include ha
omit hg hN hk in
theorem Yj.rv:n.revs=(eG d c).revs:=ha.revs
theorem Qx {i:Nat} {v:Rev} (hv:d.revs[i]? =some v):n.revs[i]? =some v:=by
 rw[ha.revs,ah5 (adK.1 hv).1];exact hv
theorem Yj.into (f:bJ) (r:dZ):r∈jF n f↔r∈jF (eG d c) f:=by
 simp only[jF,ahI,eG,xq,afs,ha.recs]
theorem Yj.sa (f:bJ):wI (SA n f) (SA (eG d c) f):=by
 unfold SA
 rw[ha.rv]
 exact Fh (fun i _=>by rw[ha.rv]) (fun i v _ _ r=>ha.into _ r) f
include hg hN hk
theorem EN:Good n.revs:=by rw[ha.rv];exact uu hg hN hk
theorem Ye:n.revs.length≤512:=by rw[ha.rv];exact abr hg hN hk
theorem FQ {v:Rev} (hv:v∈d.revs) (v5:¬v.act=5):first n v=first d v:=by
 obtain⟨i,hi⟩:=af7 hv
 rw[acs ha.rv]
 exact O3 hg hN hk (i+1) i v (by omega) hi v5
theorem adh {v:Rev} (hv:v∈d.revs):wI (SA n (fileOf v)) (SA d (fileOf v)):=by
 obtain⟨i,hi⟩:=af7 hv
 exact(ha.sa _).trans (Ws hg hN hk hi)
theorem adu {v:Rev} (hv:v∈d.revs) {a:Nat} (h:a<c.edits.length):fileOf v≠fileOf (made c (c.edits.getD a bZ)):=by
 obtain⟨i,hi⟩:=af7 hv
 exact PX hg hN hk hi h
theorem Yv {a:Nat} (h:a<c.edits.length):n.revs[d.revs.length+a]? =some (made c (c.edits.getD a bZ)):=by
 rw[ha.rv];exact yL hg hN hk h
theorem XH {v:Rev} (hv:v∈d.revs) {a:Nat} (h:a≤c.edits.length):wI (fF (eG d c) (d.revs.length+a) (fileOf v)) (SA d (fileOf v)):=by
 have e:fF (eG d c) (d.revs.length+a) (fileOf v)=fF (eG d c) d.revs.length (fileOf v):=by
  refine uo (by omega) fun i u h1 h2 hu=>?_
  obtain⟨b,rfl⟩:∃b,i=d.revs.length+b:=⟨i-d.revs.length,by omega⟩
  rw[yL hg hN hk (by omega)] at hu
  cases hu
  exact adu hg hN hk ha hv (by omega)
 rw[e]
 exact Ud hg hN hk _
variable (ht:Vx d) {r:dZ} (hr:c.recs=[r]) {a:Nat} (hal:a<c.edits.length) (h5:¬(c.edits.getD a bZ).act=5) (hto:(⟨r.to,r.num⟩:bJ)=fileOf (made c (c.edits.getD a bZ)))
include ht hr hal h5 hto
theorem adR {w:Rev} (hw:w∈d.revs) (w5:¬w.act=5) (hb:di (made c (c.edits.getD a bZ))=fileOf w) {g:bJ} (h:(SA d (fileOf w)).cre g):(SA n (fileOf (made c (c.edits.getD a bZ)))).cre g:=by
 refine((ha.sa _).2.2 g).2 ?_
 rw[BH (uu hg hN hk) (yL hg hN hk hal) h5]
 refine .inl ?_
 rw[hb]
 exact((XH hg hN hk ha hw (by omega)).2.2 g).2 h
theorem aeC (hls:∃s,iE d r.frm r.last=some s) {u:Rev} (hu:u∈d.revs) (hp:u.path=r.frm) (h1:r.first≤u.num) (h2:u.num≤r.last) {g:bJ} (h:(SA d (fileOf u)).con g):(SA n (fileOf (made c (c.edits.getD a bZ)))).cre g:=by
 refine((ha.sa _).2.2 g).2 ?_
 have hg':=uu hg hN hk
 have hn:=yL hg hN hk hal
 have hri:r∈jF (eG d c) (fileOf (made c (c.edits.getD a bZ))):=(Eg hg hN hk ht hal r).2 ⟨by rw[hr];simp,hto⟩
 have hRc:=hk.recd 0 (by rw[hr];simp)
 rw[show c.recs.getD 0 dS=r by rw[hr];rfl] at hRc
 obtain⟨i,hi⟩:=af7 hu
 have efu:(⟨r.frm,u.num⟩:bJ)=fileOf u:=by rw[←hp];rfl
 by_cases hh3:r.how=3
 ·rw[BH hg' hn h5]
  refine .inr (.inl ⟨r,hri,hh3,u.num,h1,h2,?_⟩)
  rw[efu]
  exact((XH hg hN hk ha hu (by omega)).2.1 g).2 h
 ·refine ags hg' hn h5 g ?_
  rw[BH hg' hn h5]
  refine .inr (.inl ⟨r,hri,?_⟩)
  by_cases hh1:r.how=1
  ·refine .inl ⟨hh1,?_⟩
   obtain⟨s,hs⟩:=hls
   obtain⟨j,hj,es⟩:=(dL hg).1 hs
   have hsm:=aem hj
   have gs:∀x z,iE d r.frm x=some z→oD d r.frm x=z:=fun x z hz=>by rw[oD,hz];rfl
   have gu:iE d r.frm u.num=some u:=(dL hg).2 ⟨i,hi,efu.symm⟩
   obtain⟨l1,l2⟩:=hRc.okLine u.num h1 h2
   obtain⟨l3,_⟩:=hRc.okLine r.last hRc.okLe (akA _)
   rw[gs _ _ gu] at l1 l2
   rw[gs _ _ hs] at l2 l3
   have hij:i≤j:=by
    rcases ajE j i with hlt|hge
    ·exfalso
     have e1:s.path=r.frm:=congrArg bJ.path es
     have e2:s.num=r.last:=congrArg bJ.num es
     have:=(hg.path j i s u hlt hj hi (by rw[e1,hp])).2
     omega
    ·exact hge
   rw[←es]
   refine((XH hg hN hk ha hsm (by omega)).1 g).2 ?_
   exact Uh hg hN (j+1) (by omega) hij hi hj l1 l3 l2 g ((agB hg hi l1 g).1 h).1
  ·refine .inr ⟨hh1,hh3,u.num,h1,h2,?_⟩
   rw[efu]
   exact((XH hg hN hk ha hu (by omega)).2.1 g).2 h
theorem abe (hls:∃s,iE d r.frm r.last=some s) {u:Rev} (hu:u∈d.revs) (hp:u.path=r.frm) (h1:r.first≤u.num) (h2:u.num≤r.last):¬Open n (fileOf (made c (c.edits.getD a bZ))) u:=by
 intro ho
 refine ho fun g hgc=>?_
 exact aeC hg hN hk ha ht hr hal h5 hto hls hu hp h1 h2 (((adh hg hN hk ha hu).2.1 g).1 hgc)
theorem acA {w:Rev} (hw:w∈d.revs) (w5:¬w.act=5) (hb:di (made c (c.edits.getD a bZ))=fileOf w) {u:Rev} (hu:u∈d.revs) (ho:Open n (fileOf (made c (c.edits.getD a bZ))) u):Open d (fileOf w) u:=by
 intro hall
 refine ho fun g hgc=>?_
 exact adR hg hN hk ha ht hr hal h5 hto hw w5 hb (hall g (((adh hg hN hk ha hu).2.1 g).1 hgc))
end
theorem agE {p q:akK} (hp:(aG p).isSome=true) (hq:(aG q).isSome=true) (h:ord p q=0):p=q:=by
 obtain⟨a,b,ea,eb,e⟩:=uz hp hq
 rw[e] at h
 have:=cmpL_eq _ _ h
 subst this
 exact TT ea eb
theorem RQ {p q:akK} (hp:(aG p).isSome=true) (hq:(aG q).isSome=true) (hne:¬p=q) (h:¬ord p q<0):ord q p<0:=by
 have h0:¬ord p q=0:=fun e=>hne (agE hp hq e)
 exact adM.pos ⟨p,hp⟩ ⟨q,hq⟩ (by show 0<ord p q;omega)
def Yn (d:aW):Prop:=∀v∈d.revs,gQ v.base v.kw v.xe=false∧0≤v.size
structure Pv (d:aW):Prop where
 good:Good d.revs
 N:d.revs.length≤512
 M:d.recs.length≤512
 num:rM d
 frm:zq d
 pth:Jw d
 to:Vx d
 del:X4 d
 typ:Yn d
 rok:∀r∈d.recs,IM r
 chg:∀v∈d.revs,1≤v.chg∧v.chg≤1073741824
theorem XJ {c:iZ} {e:ou} (he:e∈c.edits) {P:Nat→ou→Prop} (h:∀i,i<c.edits.length→P i (c.edits.getD i bZ)):∃i,P i e:=by
 obtain⟨i,hi,e2⟩:=ahN.1 he
 have:=h i hi
 rw[show c.edits.getD i bZ=e by simp[List.getD,hi,e2]] at this
 exact⟨i,this⟩
theorem Nw {d:aW} {c:iZ} (h:Yn d) (hk:pG d c):Yn (eG d c):=by
 intro v hv
 simp only[eG,afs] at hv
 rcases hv with hv|hv
 ·exact h v hv
 ·obtain⟨e,he,rfl⟩:=agh.1 hv
  obtain⟨i,hE⟩:=XJ he hk.edit
  exact hE.okTyp
theorem gY.ahp {l:List iZ} {d:aW} (h:gY l d):Yn d:=by
 induction h with
 |nil=>intro r hr;simp[Ee] at hr
 |skip c h ih=>exact ih
 |app h hc hk ih=>exact Nw ih hk
theorem gY.dok {l:List iZ} {d:aW} (h:gY l d):Pv d:=
 ⟨h.good,h.ok.1,h.ok.2.1,h.afm,h.ag8,h.aiY,h.to,h.ahm,h.ahp,h.ok.2.2,h.ahx⟩
theorem Pv.IR {d:aW} (h:Pv d):1≤Go.Proofs.YtcpgicfphakdaaaGreatDoor.IR d∧Go.Proofs.YtcpgicfphakdaaaGreatDoor.IR d≤1073741825:=
 ⟨(zC d.revs 1).1,(zC d.revs 1).2.2 _ (by omega) fun v hv=>by have:=h.chg v hv;omega⟩
theorem src_ok {d:aW} (hg:Good d.revs) {t:jo} (h:t.first≤t.last) (hr:OE d t):fH d t∈d.revs∧iE d t.frm t.last=some (fH d t)∧¬(fH d t).act=5∧first d (fH d t)=t.line:=by
 obtain⟨j,v,h1,h2,h3,h4⟩:=(lY hg).1 (hr t.last h (akA _))
 have e:iE d t.frm t.last=some v:=(dL hg).2 ⟨j,h1,h2⟩
 have e2:fH d t=v:=by unfold fH;rw[e];rfl
 rw[e2]
 exact⟨aem h1,e,h3,h4⟩
theorem qW {d:aW} (hg:Good d.revs) {t:jo} (hl:live d t.to=true) (hh:bf d t.to=t.head):dK d t∈d.revs∧aU d t.to=some (dK d t)∧(dK d t).path=t.to∧(dK d t).num=t.head∧¬(dK d t).act=3∧¬(dK d t).act=5∧iE d t.to t.head=some (dK d t):=by
 obtain⟨v,j,g1,g2,g3,g4,g5,g6⟩:=Fg hl
 have e2:dK d t=v:=by unfold dK;rw[g1];rfl
 rw[e2]
 have en:v.num=t.head:=by rw[←g6,hh]
 refine⟨aem g2,g1,g3,en,g4,g5,(dL hg).2 ⟨j,g2,?_⟩⟩
 rw[←g3,←en];rfl
theorem QA {d:aW} (hg:Good d.revs) (hN:d.revs.length≤512) (p:akK):wr (bf d p+1)=bf d p+1:=by
 have:=jV hg p
 exact O8 (by omega) (by omega)
def dA (d:aW) (t:jo) (ch:Int) (w:y9):iZ:=⟨IR d,ByteArray.empty,ByteArray.empty,iy d t ch w,[dI d t ch w]⟩
structure afF (d:aW) (t:jo) (ch:Int) (w:y9) (e:ou):Prop where
 typ:gQ e.base e.kw e.xe=false∧0≤e.size
 gone:e.act=3→e.sum=0∧e.size=0∧e.base=(dK d t).base∧e.kw=(dK d t).kw∧e.ex=(dK d t).ex∧e.xe=(dK d t).xe
 act:(t.kind=1∧e.act=1)∨(¬t.kind=1∧(e.act=2∨e.act=3))
 del:e.act=3→t.kind=3
 path:e.path=t.to
 prev:e.prev=t.head
 frm:e.frm=noS∧e.fnum=0
 how:1≤(gU d t ch w).2∧(gU d t ch w).2≤4
 copy:(gU d t ch w).2=1→if(fH d t).act=3 then e.act=3 else ¬e.act=3∧e.base=(fH d t).base∧e.kw=(fH d t).kw∧e.ex=(fH d t).ex∧e.xe=(fH d t).xe∧e.sum=(fH d t).sum∧e.size=(fH d t).size
 ign:(gU d t ch w).2=3→ch=1∧e.act=2∧e.base=(dK d t).base∧e.kw=(dK d t).kw∧e.ex=(dK d t).ex∧e.xe=(dK d t).xe∧e.sum=(dK d t).sum∧e.size=(dK d t).size
theorem aeL {d:aW} (hD:Pv d) {t:jo} {ch:Int} {w:y9} (hF:Fits d t) (hal:iD t.kind ch=true) (hp:lC t ch w=true):afF d t ch w (gU d t ch w).1:=by
 obtain⟨s1,s2,s3,s4⟩:=src_ok hD.good hF.le hF.run
 have ts:=hD.typ _ s1
 have hk:=hF.kind
 have hr:=hF.rest
 unfold zt at hr
 by_cases k1:t.kind=1
 ·rw[if_pos k1] at hr
  simp only[afA,afU,aeB] at hr
  have sd:¬(fH d t).act=3:=by have:=hr.1.2;simpa[MF] using this
  have e:gU d t ch w=(⟨t.to,1,(fH d t).base,(fH d t).kw,(fH d t).ex,(fH d t).xe,(fH d t).sum,(fH d t).size,t.head,noS,0,0⟩,1):=by simp[gU,k1]
  constructor<;>rw[e]<;>simp_all
 rw[if_neg k1] at hr
 simp only[afA,afU,beq_iff_eq] at hr
 obtain⟨⟨⟨hl,hi⟩,hd⟩,hm⟩:=hr
 obtain⟨t1,t2,t3,t4,t5,t6,t7⟩:=qW hD.good hl hF.head
 have tt:=hD.typ _ t1
 have sd:(fH d t).act=3↔t.kind=3:=by unfold MF at hd;simpa using hd
 have tg:dK d t=(aU d t.to).getD ag:=rfl
 by_cases c1:ch=1
 ·have e:gU d t ch w=(⟨t.to,2,(dK d t).base,(dK d t).kw,(dK d t).ex,(dK d t).xe,(dK d t).sum,(dK d t).size,t.head,noS,0,0⟩,3):=by simp[gU,k1,c1]
  exact⟨by rw[e];exact tt,by rw[e];intro h;simp at h, .inr ⟨k1,by rw[e];exact .inl rfl⟩,by rw[e];intro h;simp at h,by rw[e],by rw[e],by rw[e];exact⟨rfl,rfl⟩,by rw[e];simp,
   by rw[e];intro h;simp at h,by rw[e];exact fun _=>⟨c1,rfl,rfl,rfl,rfl,rfl,rfl,rfl⟩⟩
 by_cases k3:t.kind=3
 ·have e:gU d t ch w=(⟨t.to,3,(dK d t).base,(dK d t).kw,(dK d t).ex,(dK d t).xe,0,0,t.head,noS,0,0⟩,1):=by simp[gU,k3,c1]
  have sd3:=sd.2 k3
  exact⟨by rw[e];exact⟨tt.1,akA _⟩,by rw[e];exact fun _=>⟨rfl,rfl,rfl,rfl,rfl,rfl⟩, .inr ⟨k1,by rw[e];exact .inr rfl⟩,fun _=>k3,by rw[e],by rw[e],by rw[e];exact⟨rfl,rfl⟩,by rw[e];simp,
   by rw[e,if_pos sd3];exact fun _=>rfl,by rw[e];intro h;simp at h⟩
 have sd3:¬(fH d t).act=3:=fun h=>k3 (sd.1 h)
 by_cases c2:ch=2
 ·have e:gU d t ch w=(⟨t.to,2,(fH d t).base,(fH d t).kw,(fH d t).ex,(fH d t).xe,(fH d t).sum,(fH d t).size,t.head,noS,0,0⟩,1):=by simp[gU,k1,k3,c2]
  exact⟨by rw[e];exact ts,by rw[e];intro h;simp at h, .inr ⟨k1,by rw[e];exact .inl rfl⟩,by rw[e];intro h;simp at h,by rw[e],by rw[e],by rw[e];exact⟨rfl,rfl⟩,by rw[e];simp,
   by rw[e,if_neg sd3];exact fun _=>⟨by simp,rfl,rfl,rfl,rfl,rfl,rfl⟩,by rw[e];intro h;simp at h⟩
 have hal2:ch=3∨ch=4:=by
  unfold iD at hal
  rw[if_neg k1,if_neg k3] at hal
  simp at hal;omega
 have hw:gQ w.base w.kw w.xe=false∧0≤w.size:=by
  unfold lC at hp
  rw[if_pos hal2] at hp
  simp at hp
  exact hp.2
 have e:gU d t ch w=(⟨t.to,2,w.base,w.kw,w.ex,w.xe,w.sum,w.size,t.head,noS,0,0⟩,if ch=4 then 4 else 2):=by simp[gU,k1,k3,c1,c2]
 have hh:((if ch=4 then 4 else 2:Int)=4∨(if ch=4 then 4 else 2:Int)=2):=by split<;>simp
 generalize (if ch=4 then 4 else 2:Int)=ho at e hh
 exact⟨by rw[e];exact hw,by rw[e];intro h;simp at h, .inr ⟨k1,by rw[e];exact .inl rfl⟩,by rw[e];intro h;simp at h,by rw[e],by rw[e],by rw[e];exact⟨rfl,rfl⟩,by rw[e];exact⟨by show 1≤ho;omega,by show ho≤4;omega⟩,
  by rw[e];intro h;have h:ho=1:=h;omega,by rw[e];intro h;have h:ho=3:=h;omega⟩
structure vH (d:aW) (t:jo) (ch:Int) (w:y9):Prop where
 fits:Fits d t
 al:iD t.kind ch=true
 pm:lC t ch w=true
section
variable {d:aW} (hD:Pv d) {t:jo} {ch:Int} {w:y9} (hR:vH d t ch w)
include hD hR
theorem vH.main:afF d t ch w (gU d t ch w).1:=aeL hD hR.fits hR.al hR.pm
omit hD in
theorem vH.live:(t.kind=1→live d t.to=false)∧(¬t.kind=1→live d t.to=true∧¬yf d t.to t.head=some t.line):=by
 have hr:=hR.fits.rest
 unfold zt at hr
 constructor
 ·intro h;rw[if_pos h] at hr;simp at hr;exact hr.1.1
 ·intro h
  rw[if_neg h] at hr
  simp only[afA,afU,agZ] at hr
  exact hr.1.1
omit hD in
theorem vH.use:(aG t.to).isSome=true∧t.to.size≤200:=by
 have:=hR.fits.use
 simpa[eX] using this
omit hD in
theorem vH.mv (h:w.mv=true):¬t.kind=1∧¬t.kind=3∧¬ch=1∧(aG t.move).isSome=true∧t.move.size≤200∧Go.Proofs.YtcpgicfphakdaaaGreatDoor.live d t.move=false∧¬t.move=t.to:=by
 have hp:=hR.pm
 unfold lC at hp
 rw[h] at hp
 simp only[ajq,afA,afU,ajQ,agZ] at hp
 obtain⟨⟨⟨m1,m2⟩,m3⟩,_⟩:=hp
 have hr:=hR.fits.rest
 unfold zt at hr
 by_cases k1:t.kind=1
 ·rw[if_pos k1] at hr
  simp at hr
  exact absurd hr.2 m1
 ·rw[if_neg k1] at hr
  simp only[afA,V5,ajK,aeB,eX,afU,agZ] at hr
  rcases hr.2 with h|h
  ·exact absurd h m1
  ·exact⟨k1,m3,m2,h.1.1.1,h.1.1.2,h.1.2,h.2⟩
theorem Y8 {c:iZ} {i:Nat} (ho:0<i→ord (c.edits.getD (i-1) bZ).path t.to<0):wK d c i (gU d t ch w).1:=by
 have hm:=hR.main hD
 obtain⟨l1,l2⟩:=hR.live
 obtain⟨u1,u2⟩:=hR.use
 have ha:=hm.act
 refine⟨by rw[hm.path];exact u1,by rw[hm.path];exact ho,by omega,by omega,?_,by rw[hm.prev,hm.path];exact hR.fits.head.symm,fun h=>by omega,fun h=>?_,hm.typ⟩
 ·rw[hm.path]
  rcases ha with⟨k,a⟩|⟨k,a⟩
  ·rw[l1 k];simp[a]
  ·rw[(l2 k).1]
   simp;omega
 ·rcases h with h|h
  ·exact⟨(hm.gone h).1,(hm.gone h).2.1⟩
  ·omega
theorem OO {c:iZ} {i:Nat} (hmv:w.mv=true) (ho:0<i→ord (c.edits.getD (i-1) bZ).path t.to<0):wK d c i (eP d t):=by
 obtain⟨m1,m3,mc,mp,ms,ml,mt⟩:=hR.mv hmv
 obtain⟨u1,u2⟩:=hR.use
 obtain⟨l,_⟩:=hR.live.2 m1
 obtain⟨t1,t2,t3,t4,t5,t6,t7⟩:=qW hD.good l hR.fits.head
 refine⟨u1,ho,by simp[eP],by simp[eP],by simp[eP,l],hR.fits.head.symm,fun h=>by simp[eP] at h,fun _=>⟨rfl,rfl⟩,(hD.typ _ t1).1,akA _⟩
theorem Oy {c:iZ} {i:Nat} (hmv:w.mv=true) (ho:0<i→ord (c.edits.getD (i-1) bZ).path t.move<0):wK d c i (dW d t (gU d t ch w).1):=by
 obtain⟨m1,m3,mc,mp,ms,ml,mt⟩:=hR.mv hmv
 obtain⟨l,_⟩:=hR.live.2 m1
 have hm:=hR.main hD
 exact⟨mp,ho,by simp[dW],by simp[dW],by simp[dW,ml],rfl,fun _=>⟨l,hR.fits.head,fun e=>mt e.symm⟩,fun h=>by simp[dW] at h,hm.typ⟩
omit hD in
theorem afV {c:iZ} {e:ou} (hg:Good d.revs) (hn:rM d) (hh:1≤(dI d t ch w).how∧(dI d t ch w).how≤4) (he:e∈c.edits) (h1:e.path=(dI d t ch w).to) (h2:wr (e.prev+1)=(dI d t ch w).num) (h5:¬e.act=5)
 (hpv:¬e.act=1→gB d (made c e)=some (dK d t)) (hk:e.act=1↔t.kind=1):Hq d c (dI d t ch w):=by
 obtain⟨s1,s2,s3,s4⟩:=src_ok hg hR.fits.le hR.fits.run
 obtain⟨n1,n2,n3⟩:=UT hg hn hR.fits.le hR.fits.run
 have hsl:oD d t.frm t.last=fH d t:=by rw[oD,s2];rfl
 refine⟨hh,hR.fits.lo,hR.fits.le,n2,?_,e,he,⟨h1,h2,h5⟩,?_⟩
 ·intro x x1 x2
  obtain⟨j,v,a1,a2,a3,a4⟩:=(lY hg).1 (hR.fits.run x x1 x2)
  have hz:oD d t.frm x=v:=by rw[oD,(dL hg).2 ⟨j,a1,a2⟩];rfl
  show ¬(oD d t.frm x).act=5∧first d (oD d t.frm x)=first d (oD d t.frm t.last)
  rw[hz,hsl,s4]
  exact⟨a3,a4⟩
 ·intro ha
  rw[hpv ha]
  show ¬first d (dK d t)=first d (oD d t.frm t.last)
  rw[hsl,s4]
  have k1:¬t.kind=1:=fun h=>ha (hk.2 h)
  obtain⟨l,li⟩:=hR.live.2 k1
  obtain⟨t1,t2,t3,t4,t5,t6,t7⟩:=qW hg l hR.fits.head
  intro e
  apply li
  obtain⟨j,hj⟩:=af7 t1
  exact(lY hg).2 ⟨j,_,hj,by rw[←t3,←t4];rfl,t6,e⟩
theorem vH.head:wr (t.head+1)=t.head+1:=by rw[←hR.fits.head];exact QA hD.good hD.N _
structure afB (d:aW) (t:jo) (ch:Int) (w:y9) (a:Nat) (e:ou):Prop where
 lt:a<(iy d t ch w).length
 at':(iy d t ch w).getD a bZ=e
 a5:¬e.act=5
 file:(⟨(dI d t ch w).to,(dI d t ch w).num⟩:bJ)=fileOf (made (dA d t ch w) e)
 one:e.act=1↔t.kind=1
 bef:¬t.kind=1→di (made (dA d t ch w) e)=fileOf (dK d t)
 pv:¬e.act=1→gB d (made (dA d t ch w) e)=some (dK d t)
theorem sQ:∃a e,afB d t ch w a e∧((w.mv=false∧iy d t ch w=[e]∧e=(gU d t ch w).1∧a=0)∨(w.mv=true∧e=dW d t (gU d t ch w).1∧(iy d t ch w=[eP d t,e]∨iy d t ch w=[e,eP d t]))):=by
 have hm:=hR.main hD
 have hh:=hR.head hD
 cases hmv:w.mv with
 |false=>
  have e1:iy d t ch w=[(gU d t ch w).1]:=by simp[iy,hmv]
  refine⟨0,_,⟨by rw[e1];simp,by rw[e1];rfl,?_,?_,?_,?_,?_⟩, .inl ⟨rfl,e1,rfl,rfl⟩⟩
  ·have:=hm.act;omega
  ·simp only[dI,hmv,fileOf,made,hm.path,hm.prev,hh];simp
  ·have:=hm.act
   constructor
   ·intro h;rcases this with⟨k,_⟩|⟨_,a⟩
    ·exact k
    ·omega
   ·intro h;rcases this with⟨_,a⟩|⟨k,_⟩
    ·exact a
    ·exact absurd h k
  ·intro k1
   obtain⟨l,li⟩:=hR.live.2 k1
   obtain⟨t1,t2,t3,t4,t5,t6,t7⟩:=qW hD.good l hR.fits.head
   have n1:¬(gU d t ch w).1.act=1:=by have:=hm.act;omega
   have n4:¬(gU d t ch w).1.act=4:=by have:=hm.act;omega
   simp only[di,made,if_neg n1,if_neg n4,hm.path,hm.prev,hh,fileOf,t3,t4]
   congr 1;omega
  ·intro n1
   have k1:¬t.kind=1:=by have:=hm.act;omega
   obtain⟨l,li⟩:=hR.live.2 k1
   obtain⟨t1,t2,t3,t4,t5,t6,t7⟩:=qW hD.good l hR.fits.head
   have n4:¬(gU d t ch w).1.act=4:=by have:=hm.act;omega
   have hb:=jV hD.good t.to
   have hN:=hD.N
   have hd:=hR.fits.head
   simp only[gB,made,if_neg n1,if_neg n4,hm.path,hm.prev,hh]
   rw[show wr (t.head+1-1)=t.head by rw[Int.add_sub_cancel];exact O8 (by omega) (by omega)]
   exact t7
 |true=>
  obtain⟨m1,m3,mc,mp,ms,ml,mt⟩:=hR.mv hmv
  obtain⟨l,li⟩:=hR.live.2 m1
  obtain⟨t1,t2,t3,t4,t5,t6,t7⟩:=qW hD.good l hR.fits.head
  have e1:iy d t ch w=MG d t (gU d t ch w).1:=by simp[iy,hmv]
  have hw:=QA hD.good hD.N t.move
  have core:∀a,a<(iy d t ch w).length→(iy d t ch w).getD a bZ=dW d t (gU d t ch w).1→afB d t ch w a (dW d t (gU d t ch w).1):=by
   intro a h1 h2
   refine⟨h1,h2,by simp[dW],?_,?_,fun _=>?_,fun _=>?_⟩
   ·simp only[dI,hmv,fileOf,made,dW,hw];simp
   ·simp[dW,m1]
   ·simp[di,made,dW,fileOf,t3,t4]
   ·simp only[gB,made,dW]
    simpa using t7
  unfold MG at e1
  split at e1
  ·exact⟨1,_,core 1 (by rw[e1];simp) (by rw[e1];rfl), .inr ⟨rfl,rfl, .inl e1⟩⟩
  ·exact⟨0,_,core 0 (by rw[e1];simp) (by rw[e1];rfl), .inr ⟨rfl,rfl, .inr e1⟩⟩
theorem Iy (hn:IR d≤1073741824) (h1:d.revs.length+(iy d t ch w).length≤512) (h2:d.recs.length+1≤512):pG d (dA d t ch w):=by
 have hm:=hR.main hD
 obtain⟨a,e,hI,hcase⟩:=sQ hD hR
 have hrec:∀i,i<(dA d t ch w).recs.length→Hq d (dA d t ch w) ((dA d t ch w).recs.getD i dS):=by
  intro i hi
  have i0:i=0:=by simp[dA] at hi;omega
  subst i0
  show Hq d (dA d t ch w) (dI d t ch w)
  have he:e∈(dA d t ch w).edits:=by
   have:=hI.at'
   rw[adI,adH hI.lt] at this
   simp at this
   rw[←this];exact ajI _
  have hf:=hI.file
  simp only[fileOf,made,bJ.mk.injEq] at hf
  exact afV hR hD.good hD.num hm.how he hf.1.symm hf.2.symm hI.a5 hI.pv hI.one
 obtain⟨nx1,nx2⟩:=hD.IR
 rcases hcase with⟨hmv,e1,e2,e3⟩|⟨hmv,e2,e1⟩
 ·refine⟨by simp[dA,e1],by simp[dA,e1],by simp[dA],⟨nx1,hn⟩,JB d,?_,?_,hrec,by simpa[dA] using h1,by simpa[dA] using h2⟩
  ·intro i hi
   have i0:i=0:=by simp[dA,e1] at hi;omega
   subst i0
   rw[show(dA d t ch w).edits.getD 0 bZ=(gU d t ch w).1 by simp[dA,e1,e2]]
   exact Y8 hD hR fun h=>by omega
  ·intro y hy
   simp only[dA,e1,aft] at hy
   subst hy
   have:=hm.act
   rw[←e2] at this
   have y5:¬y.act=5:=by omega
   have y4:¬y.act=4:=by omega
   simp[wH,y5,y4]
 ·obtain⟨m1,m3,mc,mp,ms,ml,mt⟩:=hR.mv hmv
  obtain⟨u1,u2⟩:=hR.use
  have em:iy d t ch w=MG d t (gU d t ch w).1:=by simp[iy,hmv]
  have hmate:∀es:List ou,(es=[eP d t,e]∨es=[e,eP d t])→(es.filter (rP (eP d t))).length=1∧(es.filter (rP e)).length=1:=by
   have a1:rP (eP d t) (eP d t)=false:=by simp[rP,eP]
   have a2:rP (eP d t) e=true:=by rw[e2];simp[rP,eP,dW]
   have a3:rP e (eP d t)=true:=by rw[e2];simp[rP,eP,dW]
   have a4:rP e e=false:=by rw[e2];simp[rP,dW]
   rintro es (rfl|rfl)<;>simp[a1,a2,a3,a4]
  refine⟨by rcases e1 with e1|e1<;>simp[dA,e1],by rcases e1 with e1|e1<;>simp[dA,e1],by simp[dA],⟨nx1,hn⟩,JB d,?_,?_,hrec,by simpa[dA] using h1,by simpa[dA] using h2⟩
  ·intro i hi
   unfold MG at em
   split at em
   ·rename_i ho
    have i2:i=0∨i=1:=by simp[dA,em] at hi;omega
    rcases i2 with rfl|rfl
    ·rw[show(dA d t ch w).edits.getD 0 bZ=eP d t by simp[dA,em]]
     exact OO hD hR hmv fun h=>by omega
    ·rw[show(dA d t ch w).edits.getD 1 bZ=dW d t (gU d t ch w).1 by simp[dA,em]]
     refine Oy hD hR hmv fun _=>?_
     rw[show(dA d t ch w).edits.getD (1-1) bZ=eP d t by simp[dA,em]]
     exact ho
   ·rename_i ho
    have i2:i=0∨i=1:=by simp[dA,em] at hi;omega
    rcases i2 with rfl|rfl
    ·rw[show(dA d t ch w).edits.getD 0 bZ=dW d t (gU d t ch w).1 by simp[dA,em]]
     exact Oy hD hR hmv fun h=>by omega
    ·rw[show(dA d t ch w).edits.getD 1 bZ=eP d t by simp[dA,em]]
     refine OO hD hR hmv fun _=>?_
     rw[show(dA d t ch w).edits.getD (1-1) bZ=dW d t (gU d t ch w).1 by simp[dA,em]]
     exact RQ u1 mp (fun h=>mt h.symm) ho
  ·intro y hy
   obtain⟨q1,q2⟩:=hmate _ e1
   have hy2:y=eP d t∨y=e:=by
    simp only[dA] at hy
    rcases e1 with e1|e1
    ·rw[e1] at hy;simpa using hy
    ·rw[e1] at hy;simp at hy;exact hy.symm
   rcases hy2 with h|h
   ·rw[h];simp only[wH,Nb,dA,q1];simp
   ·rw[h];simp only[wH,Nb,dA,q2];simp
end
section
variable {d n:aW} (hD:Pv d) {t:jo} {ch:Int} {w:y9} (hR:vH d t ch w) (hk:pG d (dA d t ch w)) (ha:Yj d (dA d t ch w) n)
include hD hR hk ha
theorem ad7 (hl:n.recs.length≤512):Pv n:=by
 have hA:=abr hD.good hD.N hk
 have inv:∀{Q:Rev→Prop},(∀v∈(eG d (dA d t ch w)).revs,Q v)→∀v∈n.revs,Q v:=fun h v hv=>h v (by rw[←ha.rv];exact hv)
 refine⟨EN hD.good hD.N hk ha,Ye hD.good hD.N hk ha,hl,?_,inv (Oz hD.frm hk),?_,?_,inv (Np hD.del hk),inv (Nw hD.typ hk),?_,?_⟩
 ·intro v hv
  rw[aby ha.rv]
  exact ND hD.good hD.N hD.num hk v (by rw[←ha.rv];exact hv)
 ·intro v hv
  rw[ha.revs,afs] at hv
  rcases hv with hv|hv
  ·exact hD.pth v hv
  ·obtain⟨e,he,rfl⟩:=agh.1 hv
   obtain⟨i,hE⟩:=XJ he hk.edit
   refine⟨hE.okPath,?_⟩
   show e.path.size≤100000
   obtain⟨u1,u2⟩:=hR.use
   obtain⟨b,z,hI,hc⟩:=sQ hD hR
   rcases hc with⟨hmv,e1,e2,e3⟩|⟨hmv,e2,e1⟩
   ·simp only[dA,e1,aft] at he
    subst he
    rw[e2,(hR.main hD).path];omega
   ·obtain⟨m1,m3,mc,mp,ms,ml,mt⟩:=hR.mv hmv
    have:e=eP d t∨e=z:=by
     simp only[dA] at he
     rcases e1 with e1|e1
     ·rw[e1] at he;simpa using he
     ·rw[e1] at he;simp at he;exact he.symm
    rcases this with h|h
    ·rw[h];show t.to.size≤100000;omega
    ·rw[h,e2];show t.move.size≤100000;omega
 ·intro r hr
  have hrm:r∈(eG d (dA d t ch w)).recs:=by
   simp only[eG,xq,afs];exact(ha.recs r).1 hr
  obtain⟨v,h1,h2⟩:=TA hD.to hk r hrm
  exact⟨v,by rw[ha.rv];exact h1,h2⟩
 ·intro r hr
  rcases(ha.recs r).1 hr with h|h
  ·exact hD.rok r h
  ·simp only[dA,aft] at h
   subst h
   obtain⟨s1,s2,s3,s4⟩:=src_ok hD.good hR.fits.le hR.fits.run
   obtain⟨j,hj,e⟩:=(dL hD.good).1 s2
   have ep:(fH d t).path=t.frm:=congrArg bJ.path e
   have hp:=(hD.pth _ s1).2
   rw[ep] at hp
   refine⟨hp,?_⟩
   obtain⟨u1,u2⟩:=hR.use
   simp only[dI]
   split
   ·rename_i hmv
    obtain⟨m1,m3,mc,mp,ms,ml,mt⟩:=hR.mv hmv
    omega
   ·omega
 ·intro v hv
  rw[ha.revs,afs] at hv
  rcases hv with hv|hv
  ·exact hD.chg v hv
  ·obtain⟨e,he,rfl⟩:=agh.1 hv
   exact hk.num
theorem UW {u:Rev} (hu:u∈d.revs) (hp:u.path=t.frm) (h1:t.first≤u.num) (h2:u.num≤t.last):¬Open n ⟨(dI d t ch w).to,(dI d t ch w).num⟩ u:=by
 obtain⟨a,e,hI,_⟩:=sQ hD hR
 obtain⟨s1,s2,s3,s4⟩:=src_ok hD.good hR.fits.le hR.fits.run
 have ea:(dA d t ch w).edits.getD a bZ=e:=hI.at'
 have:=abe hD.good hD.N hk ha hD.to (r:=dI d t ch w) rfl (a:=a) hI.lt (by rw[ea];exact hI.a5) (by rw[ea];exact hI.file) ⟨_,s2⟩ hu hp h1 h2
 rw[ea,←hI.file] at this
 exact this
theorem abI (k1:¬t.kind=1) {u:Rev} (hu:u∈d.revs) (ho:Open n ⟨(dI d t ch w).to,(dI d t ch w).num⟩ u):Open d (fileOf (dK d t)) u:=by
 obtain⟨a,e,hI,_⟩:=sQ hD hR
 obtain⟨l,li⟩:=hR.live.2 k1
 obtain⟨t1,t2,t3,t4,t5,t6,t7⟩:=qW hD.good l hR.fits.head
 have ea:(dA d t ch w).edits.getD a bZ=e:=hI.at'
 refine acA hD.good hD.N hk ha hD.to (r:=dI d t ch w) rfl (a:=a) hI.lt (by rw[ea];exact hI.a5) (by rw[ea];exact hI.file) t1 t6 (by rw[ea];exact hI.bef k1) hu ?_
 rw[ea,←hI.file];exact ho
end
theorem aaD {d:aW} {c:iZ} (hg:Good d.revs) (hN:d.revs.length≤512) (hk:pG d c) {u w:Rev} (h:gB d u=some w):gB (eG d c) u=some w:=by
 unfold gB at h⊢
 split at h
 ·cases h
 ·rename_i h1
  rw[if_neg h1]
  split at h
  ·rename_i h4
   rw[if_pos h4];exact Yk hg hN hk h
  ·rename_i h4
   rw[if_neg h4];exact Yk hg hN hk h
theorem Ox {d:aW} (hg:Good d.revs) (hN:d.revs.length≤512) {v:Rev} (hv:v∈d.revs) (v5:¬v.act=5):∃r∈d.revs,fileOf r=first d v:=by
 have h:=EZ hv v5
 have h0:(lZ d (first d v))[0]? =some ((line d (first d v)).getD 0 ag):=by
  rw[←mY hg hN];exact getD_at h
 exact⟨_,((yG hg hN).1 (aem h0)).1,xG hg hN h0⟩
theorem ac3 {d:aW} (hg:Good d.revs) (hN:d.revs.length≤512) {f:bJ} {u:Rev} (hu:u∈line d f) (h3:u.act=3):u=(line d f).getD ((line d f).length-1) ag:=by
 obtain⟨k,hk⟩:=af7 hu
 have hl:=(adK.1 hk).1
 by_cases e:k+1<(line d f).length
 ·exfalso
  have hr:(line d f)[k+1]? =some (line d f)[k+1]:=adH e
  generalize (line d f)[k+1]=r at hr
  have hrm:=(lV.1 (aem hr)).1
  rw[mY hg hN] at hk hr
  have hn:=WA d f k u r hk hr
  obtain⟨j,hj⟩:=af7 hrm
  obtain⟨r5,r1,hb⟩:=(BK hg hN hj).1 hn
  have hum:=(lV.1 hu).1
  obtain⟨i,hi⟩:=af7 hum
  by_cases r4:r.act=4
  ·obtain⟨a,y,a1,a2,a3,a4,a5,_⟩:=hg.mov j r hj r4
   have:fileOf y=fileOf u:=by rw[←hb];simp[di,r4,fileOf,a3,a4]
   have:=bP hg a2 hi this
   subst this;rw[hi] at a2;cases a2;exact a5 h3
  ·obtain⟨a,y,a1,a2,a3,a4,a5,_⟩:=hg.prv j r hj r1 r4
   have:fileOf y=fileOf u:=by rw[←hb];simp[di,r4,r1,fileOf,a3,a4]
   have:=bP hg a2 hi this
   subst this;rw[hi] at a2;cases a2;exact a5 h3
 ·have:k=(line d f).length-1:=by omega
  rw[←this,adI,hk];rfl
theorem filter_lt {α:Type} {P Q:α→Bool}:∀{l:List α},(∀x∈l,P x=true→Q x=true)→(∃x∈l,Q x=true∧P x=false)→(l.filter P).length<(l.filter Q).length
 |[],_,h=>by obtain⟨x,hx,_⟩:=h;cases hx
 |a::l,h1,h2=>by
  have hle:(l.filter P).length≤(l.filter Q).length:=by
   have:∀m:List α,(∀x∈m,P x=true→Q x=true)→(m.filter P).length≤(m.filter Q).length:=by
    intro m
    induction m with
    |nil=>intro _;simp
    |cons b m ih=>
     intro h
     have ih:=ih fun x hx=>h x (ajl _ hx)
     rw[ajj,ajj]
     by_cases hp:P b=true
     ·rw[if_pos hp,if_pos (h b aj2 hp)];simpa using ih
     ·rw[if_neg hp];split
      ·simp;omega
      ·exact ih
   exact this l fun x hx=>h1 x (ajl _ hx)
  obtain⟨x,hx,q,p⟩:=h2
  rw[ajj,ajj]
  rcases afr.1 hx with rfl|hx
  ·rw[if_neg (by rw[p];simp),if_pos q];simp;omega
  ·have ih:=filter_lt (fun x hx=>h1 x (ajl _ hx)) ⟨x,hx,q,p⟩
   by_cases hp:P a=true
   ·rw[if_pos hp,if_pos (h1 a aj2 hp)];simpa using ih
   ·rw[if_neg hp];split
    ·simp;omega
    ·exact ih
def agb (d:aW) (f:bJ):Rev:=(line d f).getD ((line d f).length-1) ag
structure ai9 (d:aW) (m:List fA) (v:Rev) (t:jo) (w:Rev) (q:akK):Prop where
 tgt:oV d m (line d t.line)=some (w,q)
 w3:¬w.act=3
 to:t.to=w.path
 head:t.head=w.num
 mov:t.move=S9 d m v.path (nG m v.path).1 w q
 one:¬t.kind=1
 del:t.kind=3→v.act=3
 run:∃u∈line d t.line,fileOf u∈zS d (fileOf v) (some (w,q))∧u.path=t.frm∧t.first≤u.num∧u.num≤t.last
structure agz (d:aW) (m:List fA) (t:jo) (v:Rev):Prop where
 last:aU d v.path=some v
 v5:¬v.act=5
 fst:first d v=t.line
 by':(nG m v.path).2=true
 end':agb d t.line=v
 sort:(t.kind=1∧¬v.act=3∧t.to=(nG m v.path).1∧(oV d m (line d t.line)=none∨∃w q,oV d m (line d t.line)=some (w,q)∧w.act=3))∨∃w q,ai9 d m v t w q
theorem KT {f:bJ} {rest:List bJ} {ln:List Rev} {w:Rev} {mv:akK}:∀(n i:Nat),∀x∈CW f rest ln w mv n i,∃j,j<ln.length∧fileOf (ln.getD j ag)∈rest∧x=runT f ln w mv j (uD rest ln (ln.getD j ag).path j)
 |0,i,x,h=>by cases h
 |n+1,i,x,h=>by
  rw[CW] at h
  split at h
  ·rename_i hi
   split at h
   ·rename_i hr
    rcases afr.1 h with rfl|h
    ·exact⟨i,hi,hr,rfl⟩
    ·exact KT n _ x h
   ·exact KT n _ x h
  ·cases h
theorem Xf {d:aW} (hD:Pv d) {m:List fA} {t:jo} (ht:t∈xw d m):∃v,agz d m t v:=by
 obtain⟨p,hp,hx⟩:=akm.1 ht
 obtain⟨v0,hv0,rfl⟩:=CZ hp
 obtain⟨v,hv⟩:=DJ hv0
 obtain⟨vm,vp⟩:=lJ hv
 rw[←vp] at hv hx
 unfold rC at hx
 rw[hv] at hx
 simp only[Option.getD_some] at hx
 split at hx
 ·cases hx
 rename_i hc
 rw[not_or] at hc
 obtain⟨hc1,v5⟩:=hc
 have hby:(nG m v.path).2=true:=by
  cases hb:(nG m v.path).2 with
  |true=>rfl
  |false=>exact absurd hb hc1
 have he:=(yg hD.good hD.N v5 hv).1
 split at hx
 ·rename_i htg
  split at hx
  ·cases hx
  ·rename_i h
   rw[not_or] at h
   rw[aft] at hx
   subst hx
   exact⟨v,hv,v5,rfl,hby,he, .inl ⟨rfl,h.1,rfl, .inl htg⟩⟩
 ·rename_i w q htg
  split at hx
  ·rename_i w3
   split at hx
   ·cases hx
   ·rename_i h
    rw[not_or] at h
    rw[aft] at hx
    subst hx
    exact⟨v,hv,v5,rfl,hby,he, .inl ⟨rfl,h.1,rfl, .inr ⟨w,q,htg,w3⟩⟩⟩
  ·rename_i w3
   rw[htg] at hx
   have hB:=Vb hD.good hD.N hD.frm hD.pth m t ht
   obtain⟨i,hi,hr,e⟩:=KT _ _ t hx
   have hge:=PV (zS d (fileOf v) (some (w,q))) (line d (first d v)) ((line d (first d v)).getD i ag).path (line d (first d v)).length i hi
   have mem:∀k,k<(line d (first d v)).length→(line d (first d v)).getD k ag∈line d (first d v):=fun k hk=>by
    rw[adI,adH hk];exact ajI _
   have hle:=hB.le
   rw[e] at hle⊢
   refine⟨v,hv,v5,rfl,hby,he, .inr ⟨w,q,htg,w3,rfl,rfl,rfl,?_,?_,_,mem i hi,hr,rfl,akA _,hle⟩⟩
   ·simp only[runT];split<;>omega
   ·intro k3
    simp only[runT] at k3
    split at k3
    ·rename_i h3
     have hd:=ac3 hD.good hD.N (mem _ hge) h3
     have:(line d (first d v)).getD ((line d (first d v)).length-1) ag=v:=he
     rw[this] at hd
     rw[←hd];exact h3
    ·omega
structure ahs (d n:aW) (t:jo) (ch:Int) (w:y9) (u:Rev):Prop where
 mem:u∈n.revs
 u5:¬u.act=5
 file:(⟨(dI d t ch w).to,(dI d t ch w).num⟩:bJ)=fileOf u
 one:u.act=1↔t.kind=1
 del:u.act=3→t.kind=3
 chg:u.chg=IR d
 pv:¬u.act=1→gB d u=some (dK d t)
 old:∀x∈d.revs,fileOf x≠fileOf u
 sort:(w.mv=false∧u.path=t.to∧n.revs=d.revs++[u])∨(w.mv=true∧u.path=t.move∧¬t.move=t.to∧∃z:Rev,z.act=5∧z.path=t.to∧(n.revs=d.revs++[z,u]∨n.revs=d.revs++[u,z]))
section
variable {d n:aW} (hD:Pv d) {t:jo} {ch:Int} {w:y9} (hR:vH d t ch w) (hk:pG d (dA d t ch w)) (ha:Yj d (dA d t ch w) n)
include hD hR hk ha
theorem ae5:∃u,ahs d n t ch w u:=by
 obtain⟨a,e,hI,hc⟩:=sQ hD hR
 have ea:(dA d t ch w).edits.getD a bZ=e:=hI.at'
 have hn:=Yv hD.good hD.N hk ha (a:=a) hI.lt
 rw[ea] at hn
 have hm:=hR.main hD
 refine⟨made (dA d t ch w) e,aem hn,hI.a5,hI.file,hI.one,?_,rfl,hI.pv,?_,?_⟩
 ·intro h3
  have h3:e.act=3:=h3
  rcases hc with⟨_,_,e2,_⟩|⟨_,e2,_⟩
  ·rw[e2] at h3;exact hm.del h3
  ·rw[e2] at h3;simp[dW] at h3
 ·intro x hx
  have:=adu hD.good hD.N hk ha hx (a:=a) hI.lt
  rw[ea] at this
  exact this
 ·rcases hc with⟨hmv,e1,e2,_⟩|⟨hmv,e2,e1⟩
  ·refine .inl ⟨hmv,?_,?_⟩
   ·show e.path=t.to
    rw[e2,hm.path]
   ·rw[ha.revs];simp[dA,e1]
  ·obtain⟨m1,m3,mc,mp,ms,ml,mt⟩:=hR.mv hmv
   refine .inr ⟨hmv,?_,mt,made (dA d t ch w) (eP d t),rfl,rfl,?_⟩
   ·show e.path=t.move
    rw[e2];rfl
   ·rw[ha.revs]
    rcases e1 with e1|e1
    ·exact .inl (by simp[dA,e1])
    ·exact .inr (by simp[dA,e1])
variable {u:Rev} (hu:ahs d n t ch w u)
include hu
theorem LW:(t.kind=1→first n u=fileOf u)∧(¬t.kind=1→first n u=first d (dK d t)):=by
 constructor
 ·intro k1
  exact fM (iI (hu.one.2 k1))
 ·intro k1
  have h1:¬u.act=1:=fun h=>k1 (hu.one.1 h)
  obtain⟨l,li⟩:=hR.live.2 k1
  obtain⟨t1,t2,t3,t4,t5,t6,t7⟩:=qW hD.good l hR.fits.head
  have hp:=aaD hD.good hD.N hk (hu.pv h1)
  rw[←XL ha.rv] at hp
  rw[qj hp (by rw[hu.chg];exact JB d _ t1)]
  exact FQ hD.good hD.N hk ha t1 t6
theorem PZ {g:bJ} (hg:¬first n u=g):line n g=line d g:=by
 have hold:d.revs.filter (o7 n g)=d.revs.filter (o7 d g):=aki fun x hx=>by
  by_cases x5:x.act=5
  ·simp[o7,x5]
  ·simp only[o7,FQ hD.good hD.N hk ha hx x5]
 have hun:o7 n g u=false:=by simp[o7,hg]
 unfold line
 rcases hu.sort with⟨_,_,e⟩|⟨_,_,_,z,z5,_,e⟩
 ·conv=>lhs;rw[e]
  rw[ahk,hold];simp[hun]
 ·have hz:o7 n g z=false:=by simp[o7,z5]
  rcases e with e|e
  ·conv=>lhs;rw[e]
   rw[ahk,hold];simp[hun,hz]
  ·conv=>lhs;rw[e]
   rw[ahk,hold];simp[hun,hz]
theorem PQ:¬first n u=t.line:=by
 obtain⟨f1,f2⟩:=LW hD hR hk ha hu
 obtain⟨s1,s2,s3,s4⟩:=src_ok hD.good hR.fits.le hR.fits.run
 by_cases k1:t.kind=1
 ·rw[f1 k1]
  obtain⟨r,r1,r2⟩:=Ox hD.good hD.N s1 s3
  rw[s4] at r2
  rw[←r2]
  exact fun h=>hu.old r r1 h.symm
 ·rw[f2 k1]
  obtain⟨l,li⟩:=hR.live.2 k1
  obtain⟨t1,t2,t3,t4,t5,t6,t7⟩:=qW hD.good l hR.fits.head
  intro e
  apply li
  obtain⟨j,hj⟩:=af7 t1
  exact(lY hD.good).2 ⟨j,_,hj,by rw[←t3,←t4];rfl,t6,e⟩
omit hD hR hk ha in
theorem Ja:aU n u.path=some u:=by
 unfold aU log
 rcases hu.sort with⟨_,_,e⟩|⟨_,h1,h2,z,z5,zp,e⟩
 ·rw[e,ahk];simp
 ·have hz:¬z.path=u.path:=by rw[zp,h1];exact fun h=>h2 h.symm
  rcases e with e|e
  ·rw[e,ahk];simp[hz]
  ·rw[e,ahk];simp[hz]
omit hD hR hk ha in
theorem abL (hm:w.mv=false) {p:akK} (hp:¬p=u.path):log n p=log d p:=by
 rcases hu.sort with⟨_,_,e⟩|⟨h,_⟩
 ·unfold log
  rw[e,ahk]
  have:¬u.path=p:=fun h=>hp h.symm
  simp[this]
 ·rw[hm] at h;cases h
theorem aci:iG n u=u:=(yg (EN hD.good hD.N hk ha) (Ye hD.good hD.N hk ha) hu.u5 (Ja hu)).1
theorem Xn {m:List fA} {v:Rev} (hv:agz d m t v) (hto:(nG m v.path).1=u.path):oV n m (line n t.line)=some (u,v.path):=by
 have hl:=PZ hD hR hk ha hu (PQ hD hR hk ha hu)
 rw[hl]
 have hpos:0<(line d t.line).length:=by rw[←hv.fst];exact EZ (lJ hv.last).1 hv.v5
 have h0:fileOf ((line d t.line).getD 0 ag)=t.line:=by
  refine xG hD.good hD.N (f:=t.line) (u:=(line d t.line).getD 0 ag) ?_
  rw[←mY hD.good hD.N];exact getD_at hpos
 have he:(line d t.line).getD ((line d t.line).length-1) ag=v:=hv.end'
 unfold oV
 obtain⟨k,hk'⟩:∃k,(line d t.line).length=k+1:=⟨(line d t.line).length-1,by omega⟩
 rw[hk',akb] at he
 rw[hk',xh,if_neg (by omega),he,h0]
 have hU:Hf n (nG m v.path).1=some u:=by
  unfold Hf
  rw[hto,Ja hu]
  simp only
  rw[if_neg hu.u5]
 have:rH n m t.line v.path=some u:=by
  unfold rH
  rw[if_pos hv.by',hU]
  simp only
  rw[aci hD hR hk ha hu,Ja hu,if_pos ⟨PQ hD hR hk ha hu,rfl⟩]
 rw[this]
theorem Y2 {m:List fA} (hm:w.mv=false) (k1:¬t.kind=1) {self:bJ} (hs:¬first d (dK d t)=self) (q:akK):rH n m self q=(rH d m self q).map fun x=>if x=dK d t then u else x:=by
 obtain⟨l,li⟩:=hR.live.2 k1
 obtain⟨t1,t2,t3,t4,t5,t6,t7⟩:=qW hD.good l hR.fits.head
 have hup:u.path=t.to:=by
  rcases hu.sort with⟨_,h,_⟩|⟨h,_⟩
  ·exact h
  ·rw[hm] at h;cases h
 have hfu:=(LW hD hR hk ha hu).2 k1
 have hue:=aci hD hR hk ha hu
 have hul:=Ja hu
 have hwl:aU d (dK d t).path=some (dK d t):=by rw[t3];exact t2
 have hwe:=(yg hD.good hD.N t6 hwl).1
 unfold rH
 by_cases hb:(nG m q).2=true
 rotate_left
 ·rw[if_neg hb,if_neg hb];rfl
 rw[if_pos hb,if_pos hb]
 by_cases hp:(nG m q).1=u.path
 ·have U1:Hf n (nG m q).1=some u:=by
   unfold Hf
   rw[hp,hul]
   simp only
   rw[if_neg hu.u5]
  have U2:Hf d (nG m q).1=some (dK d t):=by
   unfold Hf
   rw[hp,hup,t2]
   simp only
   rw[if_neg t6]
  rw[U1,U2]
  simp only
  rw[hue,hul,hwe,hwl,hfu,if_pos ⟨hs,rfl⟩,if_pos ⟨hs,rfl⟩]
  simp
 ·have hlg:=abL hu hm hp
  have U:Hf n (nG m q).1=Hf d (nG m q).1:=by simp only[Hf,aU,iE,hlg]
  rw[U]
  cases hx:Hf d (nG m q).1 with
  |none=>rfl
  |some x=>
   simp only
   obtain⟨x1,x5⟩:=IY hD.good hx
   have hfx:=FQ hD.good hD.N hk ha x1 x5
   rw[hfx]
   by_cases e:first d x=first d (dK d t)
   ·have e1:iG n x=u:=by
     rw[←hue];unfold iG;rw[hfx,e,hfu]
    have e2:iG d x=dK d t:=by
     rw[←hwe];unfold iG;rw[e]
    rw[e1,e2,hul,hwl,e,if_pos ⟨hs,rfl⟩,if_pos ⟨hs,rfl⟩]
    simp
   ·have e1:iG n x=iG d x:=by
     unfold iG
     rw[hfx,PZ hD hR hk ha hu (by rw[hfu];exact fun h=>e h.symm)]
    obtain⟨y1,y5,y3⟩:=FK x1 x5
    rw[e1]
    generalize iG d x=y at y1 y5 y3
    have hyw:¬y=dK d t:=fun h=>e (by rw[←y3,h])
    by_cases hyp:y.path=u.path
    ·rw[hyp,hul]
     have n1:¬u=y:=fun h=>hu.old y y1 (by rw[h])
     have n2:¬(aU d u.path).getD ag=y:=by rw[hup,t2];exact fun h=>hyw h.symm
     rw[if_neg (fun h=>n1 h.2),if_neg (fun h=>n2 h.2)];rfl
    ·have:aU n y.path=aU d y.path:=by simp only[aU,abL hu hm hyp]
     rw[this]
     split
     ·simp[hyw]
     ·rfl
theorem JH {m:List fA} (hm:w.mv=false) (k1:¬t.kind=1) {ln:List Rev} (hs:¬first d (dK d t)=fileOf (ln.getD 0 ag)):∀k,xh n m ln k=(xh d m ln k).map fun x=>(if x.1=dK d t then u else x.1,x.2)
 |0=>rfl
 |k+1=>by
  rw[xh,xh]
  split
  ·exact JH hm k1 hs k
  ·rw[Y2 hD hR hk ha hu hm k1 hs]
   cases rH d m (fileOf (ln.getD 0 ag)) (ln.getD k ag).path with
   |none=>exact JH hm k1 hs k
   |some x=>rfl
end
structure aar (d:aW) (z:ou):Prop where
 lo:1≤z.act
 hi:z.act≤5
 lv:(z.act=1∨z.act=4)↔live d z.path=false
 prev:z.prev=bf d z.path
 frm4:z.act=4→live d z.frm=true∧¬z.frm=z.path∧z.fnum=bf d z.frm
 frm0:¬z.act=4→z.frm=noS∧z.fnum=0
 typ:gQ z.base z.kw z.xe=false∧0≤z.size
 gone:z.act=3∨z.act=5→z.base=((aU d z.path).getD ag).base∧z.kw=((aU d z.path).getD ag).kw∧z.ex=((aU d z.path).getD ag).ex∧z.xe=((aU d z.path).getD ag).xe∧z.sum=0∧z.size=0
 path:(aG z.path).isSome=true
 size:z.path.size≤200
def MK (l:List ou):List (akK×ou):=l.foldl (fun m e=>eH m e.path e) []
theorem acX (l:List ou) (e:ou):MK (l++[e])=eH (MK l) e.path e:=by simp[MK,aj9]
def QN (l:List ou):List (akK×Int):=l.foldl (fun m e=>if e.act=4 then eH m e.frm ((ai m e.frm).getD 0+1) else m) []
theorem acN (l:List ou) (e:ou):QN (l++[e])=if e.act=4 then eH (QN l) e.frm ((ai (QN l) e.frm).getD 0+1) else QN l:=by simp[QN,aj9]
theorem afC:∀(l:List ou) (m:List (akK×Int)) (n:Int),(∀p,0≤(ai m p).getD 0∧(ai m p).getD 0≤n)→∀p,0≤(ai (l.foldl (fun m e=>if e.act=4 then eH m e.frm ((ai m e.frm).getD 0+1) else m) m) p).getD 0∧(ai (l.foldl (fun m e=>if e.act=4 then eH m e.frm ((ai m e.frm).getD 0+1) else m) m) p).getD 0≤n+(l.length:Int)
 |[],m,n,h,p=>by simpa using h p
 |e::l,m,n,h,p=>by
  rw[List.foldl_cons]
  have:=afC l (if e.act=4 then eH m e.frm ((ai m e.frm).getD 0+1) else m) (n+1) (fun q=>by
   have h1:=h q
   have h2:=h e.frm
   split
   ·rw[fJ]
    split
    ·simp;omega
    ·omega
   ·omega) p
  simp only[List.length_cons] at this⊢
  omega
theorem agv (l:List ou) (p:akK):0≤(ai (QN l) p).getD 0∧(ai (QN l) p).getD 0≤(l.length:Int):=by
 have:=afC l [] 0 (fun q=>by simp[ai]) p
 simpa[QN] using this
structure agc (d:aW) (z:ou) (r:dZ) (s:Rev) (f:bJ):Prop where
 to:z.path=r.to
 num:r.num=z.prev+1
 a5:¬z.act=5
 how:1≤r.how∧r.how≤4
 lo:1≤r.first
 le:r.first≤r.last
 hi:r.last≤d.revs.length
 src:iE d r.frm r.last=some s
 run:∀x:Int,r.first≤x→x≤r.last→yf d r.frm x=some f
 copy:r.how=1→if s.act=3 then z.act=3 else ¬z.act=3∧z.base=s.base∧z.kw=s.kw∧z.ex=s.ex∧z.xe=s.xe∧z.sum=s.sum∧z.size=s.size
 ign:r.how=3→z.act=2∧z.base=((aU d z.path).getD ag).base∧z.kw=((aU d z.path).getD ag).kw∧z.ex=((aU d z.path).getD ag).ex∧z.xe=((aU d z.path).getD ag).xe∧z.sum=((aU d z.path).getD ag).sum∧z.size=((aU d z.path).getD ag).size
 tgt:¬(if z.act=1 then(⟨z.path,bf d z.path+1⟩:bJ) else if z.act=4 then(yf d z.frm z.fnum).getD uI else(yf d z.path (bf d z.path)).getD uI)=f
structure adX (d:aW) (c:iZ) (r:dZ) (s:Rev) (f:bJ):Prop where
 len:1≤c.edits.length∧c.edits.length≤64
 rc:c.recs=[r]
 num:1≤c.num∧c.num≤1073741824
 old:∀v∈d.revs,v.chg<c.num
 ed:∀e∈c.edits,aar d e
 ord:∀i,i+1<c.edits.length→Go.Proofs.YtcpgicfphakdaaaGreatDoor.ord (c.edits.getD i bZ).path (c.edits.getD (i+1) bZ).path<0
 away:∀e∈c.edits,e.act=5→(ai (QN c.edits) e.path).getD 0=1
 here:∀e∈c.edits,e.act=4→∃y,ai (MK c.edits) e.frm=some y∧y.act=5
 rcd:∃z,ai (MK c.edits) r.to=some z∧z∈c.edits∧agc d z r s f
end
section
open Go.Ab Tys
variable [Dr]
variable {l0:List dZ}
def z117.kk:=p3 kB Tryz.ntmps117 Tryz.results117
open z117 in
theorem VZ (len:Nat) (hl:len≤1000000) (l:List dZ) (hR:EP l0 len l):
 AC Tryz.prog 117 [.c (.ms 46 6 0 len),I .i64 len,yz] [(46,ay 6 (l.map af))] (fun r st=>∃l',EP l0 len l'∧st=[(46,ay 6 (l'.map af))]):=by
 refine df Tryz.func117 Tryz.ntmps117 fun x hx=>?_
 try refine nv ?_
 refine au (ι:=Nat×List dZ) (I:=fun i=>⟨63,[(0, .c (.ms 46 6 0 len)),(1,I .i64 len),(2,yz),(6,I .i64 (20:Nat)),(7,I .i64 i.1),(8,I .i64 (i.1+20:Nat))],[(46,ay 6 (i.2.map af))]⟩)
  (Inv:=fun i=>i.1≤len∧EP l0 len i.2) (μ:=fun i=>len-i.1) (0,l) ⟨by simp,hR⟩ ?_ ?_
 ·exact bQ
 rintro⟨a,t⟩ ⟨h1,h2⟩
 simp only at h1 h2⊢
 try refine nv ?_
 refine aj ?_ ?_
 ·intro hle
  have hle':a+20≤len:=by simp at hle;omega
  try refine nv ?_
  refine nJ ([(46,ay 6 (t.map af))]) (YD len t hl h2 a (a+20) (by omega) hle') ?_
  rintro rv9 st' ⟨t1,ht1,rfl⟩<;>refine nP ?_
  have c1:((a+20:Nat):Int)+((20:Nat):Int)=((a+20+20:Nat):Int):=by omega
  try refine nx @c1 ?_
  refine⟨(a+20,t1),⟨hle',ht1⟩,by simp;omega,?_⟩
  exact Dc @c1
 intro _
 try refine nv ?_
 refine nJ ([(46,ay 6 (t.map af))]) (YD len t hl h2 a len h1 (afJ _)) ?_
 rintro rv9 st' ⟨t1,ht1,rfl⟩<;>refine nP ?_
 try refine nv ?_
 refine au (ι:=Nat×List dZ) (I:=fun i=>⟨63,[(0, .c (.ms 46 6 0 len)),(1,I .i64 len),(2,yz),(6,I .i64 i.1)],[(46,ay 6 (i.2.map af))]⟩)
  (Inv:=fun i=>20≤i.1∧i.1≤2*len+20∧EP l0 len i.2) (μ:=fun i=>2*len+20-i.1) (20,t1) ⟨by simp,by simp,ht1⟩ ?_ ?_
 ·exact bQ
 rintro⟨bs,u⟩ ⟨g1,g2,g3⟩
 simp only at g1 g2 g3⊢
 try refine nv ?_
 refine aj ?_ ?_
 rotate_left
 ·intro _
  try refine nv ?_
  refine rN ([(46,ay 6 (u.map af))]) ?_
  exact⟨u,g3,rfl⟩
 intro hlt
 have hlt':bs<len:=by simpa using hlt
 have c2:(2:Int)*((bs:Nat):Int)=((2*bs:Nat):Int):=by omega
 have c2':((bs:Nat):Int)*2=((2*bs:Nat):Int):=by omega
 try refine nx @c2 ?_
 refine au (ι:=Nat×List dZ) (I:=fun i=>⟨63,[(0, .c (.ms 46 6 0 len)),(1,I .i64 len),(2,yz),(6,I .i64 bs),(7,I .i64 i.1),(8,I .i64 (i.1+2*bs:Nat))],[(46,ay 6 (i.2.map af))]⟩)
  (Inv:=fun i=>i.1≤len∧EP l0 len i.2) (μ:=fun i=>len-i.1) (0,u) ⟨by simp,g3⟩ ?_ ?_
 ·exact bQ
 rintro⟨a,v⟩ ⟨f1,f2⟩
 simp only at f1 f2⊢
 have c3:((a:Nat):Int)+((bs:Nat):Int)=((a+bs:Nat):Int):=by omega
 try refine nv ?_
 refine aj ?_ ?_
 ·intro hle
  have hle':a+2*bs≤len:=by simp at hle;omega
  try refine nx @c3 ?_
  refine nJ ([(46,ay 6 (v.map af))]) (XU len hl _ v f2 a (a+bs) (a+2*bs) (by omega) (by omega) hle' (afJ _)) ?_
  rintro rv9 st' ⟨v1,hv1,rfl⟩<;>refine nP ?_
  have c4:((a+2*bs:Nat):Int)+((2*bs:Nat):Int)=((a+2*bs+2*bs:Nat):Int):=by omega
  try refine nx (p2 @c2 @c4) ?_
  refine⟨(a+2*bs,v1),⟨hle',hv1⟩,by simp;omega,?_⟩
  exact Dc @c4
 intro _
 try refine nx @c3 ?_
 refine kL (ι:=List dZ) (fun t=>⟨63,[(0, .c (.ms 46 6 0 len)),(1,I .i64 len),(2,yz),(6,I .i64 bs)],[(46,ay 6 (t.map af))]⟩) (fun t=>EP l0 len t) ?_ ?_
 ·refine aj ?_ ?_
  ·intro h
   have h':a+bs<len:=by simp at h;omega
   try refine nv ?_
   refine nJ ([(46,ay 6 (v.map af))]) (XU len hl _ v f2 a (a+bs) len (by omega) h' (afJ _) (afJ _)) ?_
   rintro rv9 st' ⟨v1,hv1,rfl⟩<;>refine nP ?_
   try refine nv ?_
   refine⟨rfl,v1,hv1,?_⟩
   exact bQ
  ·intro _
   refine aZ ?_
   refine⟨rfl,v,f2,?_⟩
   exact bQ
 intro v2 hv2
 try refine nx @c2' ?_
 refine⟨(2*bs,v2),⟨by simp;omega,by simp;omega,hv2⟩,by simp;omega,?_⟩
 exact bQ
def z55.kk:=p7 kB Tryz.ntmps55 Tryz.underlying28 lq pW sD Tryz.results55
open z55 in
theorem MC (len:Nat) (hl:len≤1000000) (l:List dZ) (hR:EP l0 len l):
 AC Tryz.prog 55 [.c (.ms 46 6 0 len),yz] [(46,ay 6 (l.map af))] (fun r st=>∃l',EP l0 len l'∧st=[(46,ay 6 (l'.map af))]):=by
 refine df Tryz.func55 Tryz.ntmps55 fun x hx=>?_
 try refine nv ?_
 refine nJ ([(46,ay 6 (l.map af))]) (VZ len hl l hR) ?_
 rintro rv9 st' ⟨t,ht,rfl⟩<;>refine nP ?_
 try refine nv ?_
 refine rN ([(46,ay 6 (t.map af))]) ?_
 exact⟨t,ht,rfl⟩
end
section
open Go.Ab Tys
variable [Dr]
@[reducible] def fnC (f:Nat):List C:=[.fb f [.ptr 2000 0]]
@[reducible] def FY:List Nat:=[111,112,113,114,115]
def z51.kk:=p8 kB kS WL Tryz.ntmps51 abd afE afy Tryz.results51
open z51 in
theorem acI (d:aW) (c:iZ) (L:List (akK×Rev)) (E:List (akK×ou)) (N:List (bJ×bJ)):
 AC Tryz.prog 51 [.c (.ptr 2000 0)] (ku d c L E N) (fun r st=>r= .c (.ms 13 1 0 5)∧st=ku d c L E N++[(13, .arr 1 (FY.map fnC))]):=by
 refine df Tryz.func51 Tryz.ntmps51 fun x hx=>?_
 try refine nv ?_
 refine rA ((ku d c L E N++[(13, .arr 1 (FY.map fnC))])) ?_
 exact⟨rfl,rfl⟩
end
section
open Go.Ab
section
variable {d:aW} (hD:Pv d) {t:jo} {ch:Int} {w:y9} (hR:vH d t ch w)
include hD hR
theorem aag:aar d (gU d t ch w).1:=by
 have hm:=hR.main hD
 obtain⟨l1,l2⟩:=hR.live
 obtain⟨u1,u2⟩:=hR.use
 have ha:=hm.act
 refine⟨by omega,by omega,?_,by rw[hm.prev,hm.path];exact hR.fits.head.symm,fun h=>by omega,fun _=>hm.frm,hm.typ,fun h=>?_,by rw[hm.path];exact u1,by rw[hm.path];exact u2⟩
 ·rw[hm.path]
  rcases ha with⟨k,a⟩|⟨k,a⟩
  ·rw[l1 k];simp[a]
  ·rw[(l2 k).1]
   simp;omega
 ·rcases h with h|h
  ·obtain⟨a,b,c,e,f,g⟩:=hm.gone h
   rw[hm.path]
   exact⟨c,e,f,g,a,b⟩
  ·omega
theorem Zv (hmv:w.mv=true):aar d (eP d t):=by
 obtain⟨m1,m3,mc,mp,ms,ml,mt⟩:=hR.mv hmv
 obtain⟨u1,u2⟩:=hR.use
 obtain⟨l,_⟩:=hR.live.2 m1
 obtain⟨t1,t2,t3,t4,t5,t6,t7⟩:=qW hD.good l hR.fits.head
 exact⟨by simp[eP],by simp[eP],by simp[eP,l],hR.fits.head.symm,fun h=>by simp[eP] at h,fun _=>⟨rfl,rfl⟩,⟨(hD.typ _ t1).1,akA _⟩,fun _=>⟨rfl,rfl,rfl,rfl,rfl,rfl⟩,u1,u2⟩
theorem Zq (hmv:w.mv=true):aar d (dW d t (gU d t ch w).1):=by
 obtain⟨m1,m3,mc,mp,ms,ml,mt⟩:=hR.mv hmv
 obtain⟨l,_⟩:=hR.live.2 m1
 have hm:=hR.main hD
 exact⟨by simp[dW],by simp[dW],by simp[dW,ml],rfl,fun _=>⟨l,fun e=>mt e.symm,hR.fits.head.symm⟩,fun h=>absurd rfl h,hm.typ,fun h=>by simp[dW] at h,mp,ms⟩
theorem adx:¬(⟨t.to,bf d t.to+1⟩:bJ)=t.line:=by
 obtain⟨s1,s2,s3,s4⟩:=src_ok hD.good hR.fits.le hR.fits.run
 obtain⟨r,r1,r2⟩:=Ox hD.good hD.N s1 s3
 rw[s4] at r2
 intro e
 rw[←r2] at e
 obtain⟨j,hj⟩:=af7 r1
 have hp:r.path=t.to:=(congrArg bJ.path e).symm
 have hn:bf d t.to+1=r.num:=congrArg bJ.num e
 have:=Dj hD.good hj hp
 omega
theorem SK (k1:¬t.kind=1):¬(yf d t.to t.head).getD uI=t.line:=by
 obtain⟨l,li⟩:=hR.live.2 k1
 obtain⟨t1,t2,t3,t4,t5,t6,t7⟩:=qW hD.good l hR.fits.head
 obtain⟨j,hj⟩:=af7 t1
 have hi:yf d t.to t.head=some (first d (dK d t)):=(lY hD.good).2 ⟨j,_,hj,by rw[←t3,←t4];rfl,t6,rfl⟩
 rw[hi] at li⊢
 exact fun e=>li (congrArg some e)
theorem XT (hn:IR d≤1073741824):adX d (dA d t ch w) (dI d t ch w) (fH d t) t.line:=by
 have hm:=hR.main hD
 obtain⟨s1,s2,s3,s4⟩:=src_ok hD.good hR.fits.le hR.fits.run
 obtain⟨n1,n2,n3⟩:=UT hD.good hD.num hR.fits.le hR.fits.run
 obtain⟨nx1,nx2⟩:=hD.IR
 obtain⟨u1,u2⟩:=hR.use
 have ha:=hm.act
 cases hmv:w.mv with
 |false=>
  have e1:(dA d t ch w).edits=[(gU d t ch w).1]:=by simp[dA,iy,hmv]
  have n4:¬(gU d t ch w).1.act=4:=by omega
  refine⟨by rw[e1];simp,rfl,⟨nx1,hn⟩,JB d,?_,?_,?_,?_,(gU d t ch w).1,?_,by rw[e1];simp,?_⟩
  ·intro e he
   rw[e1,aft] at he
   subst he;exact aag hD hR
  ·intro i hi;rw[e1] at hi;simp at hi
  ·intro e he h
   rw[e1,aft] at he
   subst he;omega
  ·intro e he h
   rw[e1,aft] at he
   subst he;omega
  ·rw[e1];simp[MK,eH,ai,dI,hmv,hm.path]
  ·refine⟨by rw[hm.path];simp[dI,hmv],by rw[hm.prev];simp[dI,hmv],by omega,hm.how,hR.fits.lo,hR.fits.le,n3,s2,hR.fits.run,hm.copy,fun h=>?_,?_⟩
   ·rw[hm.path];exact(hm.ign h).2
   ·rw[hm.path]
    split
    ·exact adx hD hR
    ·rename_i h1
     try rw[if_neg n4]
     have k1:¬t.kind=1:=by omega
     have:=SK hD hR k1
     rw[←hR.fits.head] at this;exact this
 |true=>
  obtain⟨m1,m3,mc,mp,ms,ml,mt⟩:=hR.mv hmv
  have em:(dA d t ch w).edits=[eP d t,dW d t (gU d t ch w).1]∧ord t.to t.move<0∨(dA d t ch w).edits=[dW d t (gU d t ch w).1,eP d t]∧ord t.move t.to<0:=by
   have:(dA d t ch w).edits=MG d t (gU d t ch w).1:=by simp[dA,iy,hmv]
   rw[this]
   unfold MG
   split
   ·rename_i ho;exact .inl ⟨rfl,ho⟩
   ·rename_i ho;exact .inr ⟨rfl,RQ u1 mp (fun h=>mt h.symm) ho⟩
  have hmem:∀e,e∈(dA d t ch w).edits→e=eP d t∨e=dW d t (gU d t ch w).1:=by
   intro e he
   rcases em with⟨em,_⟩|⟨em,_⟩
   ·rw[em] at he;simpa using he
   ·rw[em] at he;simp at he;exact he.symm
  have mt':¬t.to=t.move:=fun h=>mt h.symm
  have rto:(dI d t ch w).to=t.move:=by simp[dI,hmv]
  refine⟨by rcases em with⟨em,_⟩|⟨em,_⟩<;>rw[em]<;>simp,rfl,⟨nx1,hn⟩,JB d,?_,?_,?_,?_,dW d t (gU d t ch w).1,?_,by rcases em with⟨em,_⟩|⟨em,_⟩<;>rw[em]<;>simp,?_⟩
  ·intro e he
   rcases hmem e he with h|h
   ·rw[h];exact Zv hD hR hmv
   ·rw[h];exact Zq hD hR hmv
  ·intro i hi
   rcases em with⟨em,ho⟩|⟨em,ho⟩
   ·rw[em] at hi⊢
    have:i=0:=by simp at hi;omega
    subst this;exact ho
   ·rw[em] at hi⊢
    have:i=0:=by simp at hi;omega
    subst this;exact ho
  ·intro e he h
   rcases hmem e he with q|q
   ·rw[q]
    rcases em with⟨em,_⟩|⟨em,_⟩<;>rw[em]<;>simp[QN,eP,dW,eH,ai]
   ·rw[q] at h;simp[dW] at h
  ·intro e he h
   rcases hmem e he with q|q
   ·rw[q] at h;simp[eP] at h
   ·rw[q]
    refine⟨eP d t,?_,rfl⟩
    rcases em with⟨em,_⟩|⟨em,_⟩<;>rw[em]<;>simp[MK,eP,dW,eH,ai,mt,mt']
  ·rw[rto]
   rcases em with⟨em,_⟩|⟨em,_⟩<;>rw[em]<;>simp[MK,eP,dW,eH,ai,mt,mt']
  ·refine⟨rto.symm,by simp[dI,hmv,dW],by simp[dW],hm.how,hR.fits.lo,hR.fits.le,n3,s2,hR.fits.run,fun h=>?_,fun h=>absurd (hm.ign h).1 mc,?_⟩
   ·have hc:=hm.copy h
    split
    ·rename_i h3
     rw[if_pos h3] at hc
     exact absurd (hm.del hc) m3
    ·rename_i h3
     rw[if_neg h3] at hc
     exact⟨by simp[dW],hc.2⟩
   ·simp only[dW]
    rw[if_neg (by decide),if_pos trivial]
    exact SK hD hR m1
theorem aa7 {r:dZ} (h:r∈(dA d t ch w).recs):IM r:=by
 simp only[dA,aft] at h
 subst h
 obtain⟨s1,s2,s3,s4⟩:=src_ok hD.good hR.fits.le hR.fits.run
 obtain⟨j,hj,e⟩:=(dL hD.good).1 s2
 have ep:(fH d t).path=t.frm:=congrArg bJ.path e
 have hp:=(hD.pth _ s1).2
 rw[ep] at hp
 refine⟨hp,?_⟩
 obtain⟨u1,u2⟩:=hR.use
 simp only[dI]
 split
 ·rename_i hmv
  obtain⟨m1,m3,mc,mp,ms,ml,mt⟩:=hR.mv hmv
  omega
 ·omega
end
def LG (d:aW) (c:iZ):Prop:=d.revs.length+c.edits.length≤512∧d.recs.length+c.recs.length≤512
end
end Go.Proofs.YtcpgicfphakdaaaGreatDoor
namespace Go.Ab
variable [Dr]
def Rj (P:Program) (f:FuncId) (args:List AV) (r:AV) (Rel:AV→Prop) (ln:List (Nat×AO)) (ob:Nat→Option AO):Option Out:=
 some ⟨r,ln.map fun p=>(p.1, .dead),[∀p∈ln,ob p.1=some p.2,∀p∈ln,bF (ae ln) p.2,∀a∈args,aJ (ae ln) a,AC P f args ln (fun r' st'=>Rel r'∧st'=ln.map fun p=>(p.1, .dead))]⟩
def ES (P:Program) (wr:Bool) (ops:List Oper) (cs:List (Nat×AV)) (d0:Nat) (r:AV) (Rel:AV→Prop) (ln:List (Nat×AO)) (o:Oper) (s:S):Option Out:=
 if o.dst=some d0 then
  match o.guard,o.op with
  |none, .call {callee:= .value (.func f),args:=⟨asq⟩,argTypes:=_}=>
   match jv s asq with
   |some args=>Rj P f args r Rel ln (get s.st)
   |none=>none
  |_,_=>none
 else lM P wr ops cs o s
def Gi (ops:List Oper) (ln:List (Nat×AO)) (d0:Nat) (o:Oper) (s:S):List (Ik×Option Ct):=
 readsOf ops o s++(if o.dst=some d0 then ln.map fun q=>((false,q.1),look s (false,q.1)) else [])
def a1Z (ops:List Oper) (ln:List (Nat×AO)) (d0:Nat) (o:Oper) (s:S) (out:Out):A1:=⟨Gi ops ln d0 o s,o.dst.map fun d=>(d,out.v),out.upd⟩
def Uf (P:Program) (wr:Bool) (ops:List Oper) (cs:List (Nat×AV)) (d0:Nat) (r:AV) (Rel:AV→Prop) (ln:List (Nat×AO)):List Oper→S→Option (List A1×List Prop×S)
 |[],s=>some ([],[],s)
 |o::l,s=>
  if pO o s.n then
   match ES P wr ops cs d0 r Rel ln o s with
   |some out=>
    match Uf P wr ops cs d0 r Rel ln l ⟨s.n,fZ s.env o.dst out.v,aN s.st out.upd⟩ with
    |some (As,ps,s')=>some (a1Z ops ln d0 o s out::As,out.obl++ps,s')
    |none=>none
   |none=>none
  else none
section
variable {P:Program} {x:X} {ops:List Oper} {o:Oper} {s s1:S} {wr:Bool} {cs:List (Nat×AV)} {d0:Nat} {r:AV} {Rel:AV→Prop} {ln:List (Nat×AO)}
omit [Dr] in
theorem Xj {out:Out} {s':S} (hn:s'.n=s.n):(a1Z ops ln d0 o s out).app s'=⟨s.n,fZ s'.env o.dst out.v,aN s'.st out.upd⟩:=by
 simp only[A1.app,a1Z,hn]
 cases o.dst<;>rfl
omit [Dr] in
theorem Zz (h:∀p∈Gi ops ln d0 o s,look s1 p.1=p.2):∀p∈readsOf ops o s,look s1 p.1=p.2:=fun p hp=>h p (akC _ hp)
omit [Dr] in
theorem SL {q:Ik×Option Ct} (h:q∈Gi ops ln d0 o s):q.2=look s q.1:=by
 unfold Gi at h
 rcases afs.1 h with h|h
 ·exact Ef.reads_self h
 ·split at h
  ·obtain⟨y,_,rfl⟩:=agh.1 h;rfl
  ·cases h
theorem Gq (h:∀p∈Gi ops ln d0 o s,look s1 p.1=p.2):ES P wr ops cs d0 r Rel ln o s1=ES P wr ops cs d0 r Rel ln o s:=by
 have h0:=Zz h
 unfold ES
 split
 ·rename_i hdd
  have hob:∀q∈ln,get s1.st q.1=get s.st q.1:=by
   intro q hq
   refine IK (h ((false,q.1),look s (false,q.1)) ?_)
   unfold Gi
   rw[if_pos hdd]
   exact aky _ (agh.2 ⟨q,hq,rfl⟩)
  split
  ·rename_i f asq ats hg hop
   rw[oJ h0 fun y hy=>by rw[hop];simp[Op.operands,Call.operands,hy]]
   split
   ·unfold Rj
    have e1:(∀q∈ln,get s1.st q.1=some q.2)=(∀q∈ln,get s.st q.1=some q.2):=
     propext ⟨fun g q hq=>by rw[←hob q hq];exact g q hq,fun g q hq=>by rw[hob q hq];exact g q hq⟩
    rw[e1]
   ·rfl
  ·rfl
 ·exact uS h0
def ahr (P:Program) (x:X) (n:Nat) (ops:Array Oper) (o:Oper) (A:A1) (Rel:AV→Prop):Prop:=
 ∀s a w,s.n=n→Sat x s a w→A.Fits s→∀(K:Act→World→Prop) (Q:Exit→Act→World→Prop),(∀r',Rel r'→∀a w,Sat x ⟨s.n,fZ s.env o.dst r',aN s.st A.sw⟩ a w→K a w)→
  if Region.wanted o (yielded ops a.tmps) then o.wp P a w K Q else K (a.put o.dst undef) w
theorem Vm {out:Out} (hdd:o.dst=some d0) (h:ES P wr ops cs d0 r Rel ln o s=some out) (ho:All out.obl) (hdst:pO o s.n=true) {a:Act} {w:World} (hsat:Sat x s a w)
 {K:Act→World→Prop} {Q:Exit→Act→World→Prop} (hK:∀r',Rel r'→∀a w,Sat x ⟨s.n,fZ s.env o.dst r',aN s.st out.upd⟩ a w→K a w):
 if Region.wanted o (yielded ops.toArray a.tmps) then o.wp P a w K Q else K (a.put o.dst undef) w:=by
 have hd:∀i,o.dst=some i→i<s.n:=fun i hi=>by simpa[pO,hi] using hdst
 unfold ES at h
 rw[if_pos hdd] at h
 split at h
 ·rename_i f asq ats hg hop
  rw[if_pos (by simp[Region.wanted,hg])]
  obtain⟨bl,cap,hs,henv,hdf,hsz⟩:=hsat
  split at h
  ·rename_i args hargs
   unfold Rj at h
   cases h
   simp only[All] at ho
   obtain⟨o1,o2,o3,o4, -⟩:=ho
   refine vK (st0:=ln) hop hd ⟨o1,o2,o3⟩ o4 hs henv hdf hsz (jH henv hargs) ?_
   rintro r' st' ⟨hr',rfl⟩
   refine⟨fun q hq=> .inl ?_,fun a w h=>hK r' hr' a w h⟩
   obtain⟨p,hp,rfl⟩:=agh.1 hq
   exact Qr (q:=p) hp
  ·cases h
 ·cases h
theorem OM:∀{l:List Oper} {s s':S} {As:List A1} {ps:List Prop},Uf P wr ops cs d0 r Rel ln l s=some (As,ps,s')→
 As.length=l.length∧lh As s l.length=s'∧(∀(i:Nat) (A:A1),As[i]? =some A→A.Fits (lh As s i))
 |[],s,s',As,ps,h=>by cases h;exact⟨rfl,rfl,by simp⟩
 |o::l,s,s',As,ps,h=>by
  simp only[Uf] at h
  split at h
  ·rename_i hd
   split at h
   ·rename_i out hout
    split at h
    ·rename_i As' ps' s'' hrec
     cases h
     obtain⟨i1,i2,i3⟩:=OM hrec
     have shift:∀i,lh (a1Z ops ln d0 o s out::As') s (i+1)=lh As' ⟨s.n,fZ s.env o.dst out.v,aN s.st out.upd⟩ i:=by
      intro i
      induction i with
      |zero=>simp only[lh,List.getElem?_cons_zero];exact Xj rfl
      |succ i ih=>
       rw[lh,ih]
       simp only[List.getElem?_cons_succ]
       rfl
     refine⟨by simp[i1],by rw[List.length_cons,shift];exact i2,?_⟩
     intro i A hA
     cases i with
     |zero=>simp at hA;subst hA;intro p hp;exact(SL hp).symm
     |succ i=>rw[shift];exact i3 i A (by simpa using hA)
    ·cases h
   ·cases h
  ·cases h
theorem Iz:∀{l:List Oper} {s s':S} {As:List A1} {ps:List Prop},Uf P wr ops cs d0 r Rel ln l s=some (As,ps,s')→All ps→
 ∀(i:Nat) (o:Oper) (A:A1),l[i]? =some o→As[i]? =some A→(o.dst≠some d0→A.Jt P x s.n ops.toArray o)∧(o.dst=some d0→ahr P x s.n ops.toArray o A Rel∧A.ew=some (d0,r))
 |[],s,s',As,ps,h,_=>by cases h;simp
 |o::l,s,s',As,ps,h,hp=>by
  simp only[Uf] at h
  split at h
  ·rename_i hd
   split at h
   ·rename_i out hout
    split at h
    ·rename_i As' ps' s'' hrec
     cases h
     obtain⟨p1,p2⟩:=All.append hp
     have i4:=Iz hrec p2
     intro i o' A ho' hA
     cases i with
     |zero=>
      simp at ho' hA;subst ho';subst hA
      constructor
      ·intro hne s1 a w hnn hs1 hf K Q hk
       have hloc:=Gq (P:=P) (wr:=wr) (cs:=cs) (ops:=ops) (o:=o) (s:=s) (s1:=s1) (d0:=d0) (r:=r) (Rel:=Rel) (ln:=ln) hf
       rw[hout] at hloc
       unfold ES at hloc
       rw[if_neg hne] at hloc
       refine qG hloc p1 (by rw[hnn];exact hd) hs1 fun a w h=>hk a w ?_
       rw[Xj hnn,←hnn];exact h
      ·intro he
       refine⟨?_,?_⟩
       ·intro s1 a w hnn hs1 hf K Q hk
        have hloc:=Gq (P:=P) (wr:=wr) (cs:=cs) (ops:=ops) (o:=o) (s:=s) (s1:=s1) (d0:=d0) (r:=r) (Rel:=Rel) (ln:=ln) hf
        rw[hout] at hloc
        exact Vm he hloc p1 (by rw[hnn];exact hd) hs1 fun r' hr' a w h=>hk r' hr' a w h
       ·have hv:out.v=r:=by
         unfold ES at hout
         rw[if_pos he] at hout
         split at hout
         ·split at hout
          ·unfold Rj at hout
           cases hout;rfl
          ·cases hout
         ·cases hout
        simp[a1Z,he,hv]
     |succ i=>exact i4 i o' A (by simpa using ho') (by simpa using hA)
    ·cases h
   ·cases h
  ·cases h
end
theorem YH {P:Program} {x:X} {ι:Type} {wr:Bool} {id:Nat} {l:List Oper} {s:S} {Q:Exit→S→Prop} (cs:List (Nat×AV)) (ln:List (Nat×AO)) (ks:List Nat) (j d0:Nat) (ans:ι→AV) (Rel:ι→Prop) (i0:ι) (h0:Rel i0) {As:ι→List A1} {ps:ι→List Prop} {s':ι→S}
 (hm:P.follows .mixedOrders=true) (h:∀c,Uf P wr l cs d0 (ans c) (fun v=>∃c,Rel c∧v=ans c) ln l s=some (As c,ps c,s' c)) (ho:∀c,Rel c→All (ps c)) (hc:∀c,ww l (As c)=true)
 (hu:EI l j d0=true) (hsw:∀c c',sws j (As c)=sws j (As c')) (hks:(((List.range l.length).filter fun k=>decide (k≠j)&&!((Ic l []).getD k []).contains j).all fun k=>ks.contains k)=true) (hse:∀c c',ks.map (fun k=>(As c)[k]?)=ks.map (fun k=>(As c')[k]?)) (hQ:∀c,Rel c→Q .normal (s' c)):T P x (.region id l.toArray true) s Q:=by
 have hf:=fun c=>OM (h c)
 have hord:=fun c=>EL (hf c).1 (hf c).2.2 (hc c)
 simp only[EI,afA,aeB,agr,aht] at hu
 obtain⟨hj,hu⟩:=hu
 have huniq:∀(i:Nat) (o:Oper),l[i]? =some o→(o.dst=some d0↔i=j):=by
  intro i o hi
  have hlt:i<l.length:=(adK.1 hi).1
  have:=hu i hlt
  rw[hi] at this
  simpa using this
 intro a w hs
 refine wp_region_any hm ?_
 refine acZ (As:=As) (Rel:=Rel) (j:=j) (s0:=s) (by simpa using hj) i0 hord ?_ ?_ ?_ (fun c hcr=>by simpa[(hf c).2.1] using hQ c hcr) _ _ s a _ (by simp) ?_ rfl ?_ ?_ ?_ (hs.drew _ (by first|exact Nat.le_succ _|exact Nat.le_add_right _ _|(simp;done)|omega))
 ·intro c c' k hk hnr
  by_cases hlt:k<l.length
  ·have hnc:((Ic l []).getD k []).contains j=false:=by
    cases hcn:((Ic l []).getD k []).contains j with
    |false=>rfl
    |true=>
     exact absurd (IZ l (l:=l) (acc:=[]) (by simp) (by simp) k j (by simpa using hcn)) hnr
   have hmem:k∈(List.range l.length).filter fun k=>decide (k≠j)&&!((Ic l []).getD k []).contains j:=by
    simp only[ahI,aht,afA,aeB,afU]
    exact⟨hlt,hk,hnc⟩
   have:=agr.1 hks k hmem
   exact List.map_inj_left.1 (hse c c') k (by simpa using this)
  ·rw[ajv (by rw[(hf c).1];omega),ajv (by rw[(hf c').1];omega)]
 ·intro c hcr i o A hij _ hi hA
  have hcr':Rel c:=by rcases hcr with h|rfl;exact h;exact h0
  have hi':l[i]? =some o:=by simpa using hi
  exact(Iz (x:=x) (h c) (ho c hcr') i o A hi' hA).1 (fun e=>hij ((huniq i o hi').1 e))
 ·intro o hi s1 a w hn hs1 hfit K Q hk
  have hi':l[j]? =some o:=by simpa using hi
  have hdo:=(huniq j o hi').2 rfl
  obtain⟨A0,hA0⟩:∃A,(As i0)[j]? =some A:=⟨(As i0)[j]'(by rw[(hf i0).1];exact hj),by simp[adH (by rw[(hf i0).1];exact hj:j<(As i0).length)]⟩
  obtain⟨hcall, -⟩:=(Iz (x:=x) (h i0) (ho i0 h0) j o A0 hi' hA0).2 hdo
  refine hcall s1 a w hn hs1 (hfit i0 A0 hA0) K Q ?_
  rintro r' ⟨c,hcr,rfl⟩ a w hsat
  obtain⟨A,hA⟩:∃A,(As c)[j]? =some A:=⟨(As c)[j]'(by rw[(hf c).1];exact hj),by simp[adH (by rw[(hf c).1];exact hj:j<(As c).length)]⟩
  refine hk c A hcr hA a w ?_
  obtain⟨-,hew⟩:=(Iz (x:=x) (h c) (ho c hcr) j o A hi' hA).2 hdo
  have hsw':A.sw=A0.sw:=by
   have:=hsw c i0
   simp only[sws,hA,hA0,Option.map_some,akF] at this
   exact this
  unfold A1.app
  rw[hew,hsw']
  rw[hdo] at hsat
  exact hsat
 ·intro i o e hi hL he hb
  have hlt:i<l.length:=by simpa using(aku.1 hi).1
  rw[getD_in (by simpa using hlt) true false] at hL
  simp[Array.getD,hlt] at hL
 ·intro c r
  have hz:∀i,(Array.replicate l.toArray.size false).getD i false=false:=by
   intro i;simp[Array.getD]
  have:cont (As c) s (fun i=>(Array.replicate l.toArray.size false).getD i false) r l.toArray.size=cont (As c) s (fun i=>(Array.replicate l.toArray.size false).getD i false) r 0:=
   lW (aj8 _) (fun i _ _ _=>hz i)
  rw[this];rfl
 ·exact yx
 ·simp[Array.getD]
end Go.Ab
namespace Go.Proofs.YtcpgicfphakdaaaGreatDoor
section
open Go.Ab
theorem KZ {l:List bV} {h:bV}:h∈l↔∃i,i<l.length∧l.getD i dG=h:=by
 rw[ahN]
 constructor
 ·rintro⟨i,hi,e⟩;exact⟨i,hi,by rw[adI,adH hi];exact e⟩
 ·rintro⟨i,hi,e⟩;exact⟨i,hi,by rw[adI,adH hi] at e;exact e⟩
theorem YO {l:List bV} {k:Nat} (hk:k+1<l.length) (h:bV):h∈(l.set (k+1) (l.getD k dG)).set k (l.getD (k+1) dG)↔h∈l:=by
 have a:l.getD k dG=l[k]:=by rw[adI,adH (by omega)];rfl
 have b:l.getD (k+1) dG=l[k+1]:=by rw[adI,adH hk];rfl
 rw[a,b]
 constructor
 ·intro hm
  rcases ajN hm with hm|rfl
  ·rcases ajN hm with hm|rfl
   ·exact hm
   ·exact ajI _
  ·exact ajI _
 ·intro hm
  obtain⟨i,hi,rfl⟩:=ahN.1 hm
  rw[ahN]
  by_cases e1:i=k
  ·subst e1
   refine⟨i+1,by simpa using hk,?_⟩
   rw[List.getElem_set_ne (by omega),List.getElem_set_self]
  ·by_cases e2:i=k+1
   ·subst e2
    refine⟨k,by simp;omega,?_⟩
    rw[List.getElem_set_self]
   ·refine⟨i,by simpa using hi,?_⟩
    rw[List.getElem_set_ne (by omega),List.getElem_set_ne (by omega)]
theorem KE:∀(k:Nat) (l:List bV),(NU k l).length=l.length
 |0,l=>rfl
 |k+1,l=>by
  simp only[NU]
  split
  ·rw[KE k];simp
  ·rfl
theorem Dp (l:List bV):∀k,(KN l k).length=l.length
 |0=>rfl
 |k+1=>by simp only[KN];rw[KE,Dp l k]
theorem NE (h:bV):∀(k:Nat) (l:List bV),k<l.length→(h∈NU k l↔h∈l)
 |0,l,_=>Iff.rfl
 |k+1,l,hk=>by
  simp only[NU]
  split
  ·rw[NE h k _ (by simp;omega),YO hk]
  ·exact Iff.rfl
theorem N8 (l:List bV) (h:bV):∀k,k≤l.length→(h∈KN l k↔h∈l)
 |0,_=>Iff.rfl
 |k+1,hk=>by simp only[KN];rw[NE h k _ (by rw[Dp];omega),N8 l h k (by omega)]
theorem Bo {l:List bV} {h:bV}:∀k,h∈Hg l k↔∃i,i<k∧(List.range l.length).any (pX l i)=false∧l.getD i dG=h
 |0=>by simp[Hg]
 |k+1=>by
  simp only[Hg,afs,Bo k]
  constructor
  ·rintro(⟨i,h1,h2⟩|h1)
   ·exact⟨i,by omega,h2⟩
   ·split at h1
    ·cases h1
    ·rename_i hd
     simp only[aft] at h1
     exact⟨k,by omega,by simpa using hd,h1.symm⟩
  ·rintro⟨i,h1,h2,h3⟩
   by_cases e:i=k
   ·subst e
    refine .inr ?_
    rw[if_neg (by rw[h2];simp),aft]
    exact h3.symm
   ·exact .inl ⟨i,by omega,h2,h3⟩
theorem acR {l:List bV} (ho:∀h∈l,iU h=true) {h:bV} (hm:h∈l):∃k∈Hg l l.length,yX h k:=by
 have ok:∀i,i<l.length→iU (l.getD i dG)=true:=fun i hi=>ho _ (KZ.2 ⟨i,hi,rfl⟩)
 have dr:∀i j,i<l.length→j<l.length→(pX l i j=true↔¬i=j∧yX (l.getD i dG) (l.getD j dG)∧(j<i∨¬l.getD i dG=l.getD j dG)):=by
  intro i j hi hj
  simp only[pX,afA,afU,agZ,ajK,aeB,within_iff (ok i hi) (ok j hj)]
  exact and_assoc
 have tr:∀i j m,i<l.length→j<l.length→m<l.length→pX l i j=true→pX l j m=true→pX l i m=true:=by
  intro i j m hi hj hm h1 h2
  rw[dr i j hi hj] at h1
  rw[dr j m hj hm] at h2
  rw[dr i m hi hm]
  obtain⟨a1,a2,a3⟩:=h1
  obtain⟨b1,b2,b3⟩:=h2
  have hw:=yX.trans (dO (ok i hi)) a2 b2
  refine⟨?_,hw,?_⟩
  ·rintro rfl
   have e:=yX.ahq a2 b2
   rcases a3 with a3|a3
   ·rcases b3 with b3|b3
    ·omega
    ·exact b3 e.symm
   ·exact a3 e
  ·by_cases e:l.getD i dG=l.getD m dG
   ·left
    have e1:l.getD i dG=l.getD j dG:=yX.ahq a2 (by rw[e];exact b2)
    have e2:l.getD j dG=l.getD m dG:=by rw[←e1,e]
    rcases a3 with a3|a3
    ·rcases b3 with b3|b3
     ·omega
     ·exact absurd e2 b3
    ·exact absurd e1 a3
   ·exact .inr e
 have ir:∀i,pX l i i=false:=by intro i;simp[pX]
 have key:∀(n i:Nat),i<l.length→((List.range l.length).filter (pX l i)).length≤n→∃k∈Hg l l.length,yX (l.getD i dG) k:=by
  intro n
  induction n with
  |zero=>
   intro i hi hc
   refine⟨l.getD i dG,(Bo _).2 ⟨i,hi,?_,rfl⟩,yX.refl (dO (ok i hi))⟩
   have:(List.range l.length).filter (pX l i)=[]:=ajw.1 (by omega)
   rw[ajO] at this
   rw[List.any_eq_false]
   exact this
  |succ n ih=>
   intro i hi hc
   cases ha:(List.range l.length).any (pX l i) with
   |false=>exact⟨l.getD i dG,(Bo _).2 ⟨i,hi,ha,rfl⟩,yX.refl (dO (ok i hi))⟩
   |true=>
    rw[List.any_eq_true] at ha
    obtain⟨j,hj,hd⟩:=ha
    have hj:=aht.1 hj
    have hlt:((List.range l.length).filter (pX l j)).length<((List.range l.length).filter (pX l i)).length:=by
     have e:(List.range l.length).filter (pX l j)=((List.range l.length).filter (pX l i)).filter (pX l j):=by
      rw[List.filter_filter]
      apply aki
      intro m hm
      have hm:=aht.1 hm
      cases h:pX l j m with
      |false=>rfl
      |true=>rw[tr i j m hi hj hm hd h];rfl
     rw[e,List.length_filter_lt_length_iff_exists]
     exact⟨j,ahI.2 ⟨aht.2 hj,hd⟩,by rw[ir j];simp⟩
    obtain⟨k,hk,hw⟩:=ih j hj (by omega)
    exact⟨k,hk,yX.trans (dO (ok i hi)) ((dr i j hi hj).1 hd).2.1 hw⟩
 obtain⟨i,hi,rfl⟩:=KZ.1 hm
 exact key _ i hi (afJ _)
theorem aaH {l:List bV} {h:bV} (hm:h∈Hg l l.length):h∈l:=by
 obtain⟨i,h1,_,h3⟩:=(Bo _).1 hm
 exact KZ.2 ⟨i,h1,h3⟩
theorem RD {b h:bV} (hb:iU b=true) (hh:iU h=true) (hw:yX h b):lK b h=some h:=by
 have hl:=hw.len
 have key:∀p q:bV,iU p=true→iU q=true→(∀i,i<q.parts.length→i<p.parts.length→bI (p.parts.getD i noS) (q.parts.getD i noS)=true)→(q.parts.length≤p.parts.length)→(q.rest=false→p.parts.length=q.parts.length)→(p.parts.length=q.parts.length→p.rest=q.rest)→
  zh p q=some p:=by
  intro p q hp hq hi hl hf hr
  unfold zh
  rw[if_neg,if_pos]
  ·have:∀k,k≤p.parts.length→jM p q k=p.parts.take k:=by
    intro k
    induction k with
    |zero=>intro _;simp[jM]
    |succ k ih=>
     intro hk
     rw[jM,ih (by omega),ajC,adH (by omega)]
     rw[if_pos]
     ·simp[adI,adH (by omega:k<p.parts.length)]
     ·by_cases e:q.parts.length≤k
      ·simp[e]
      ·rw[hi k (by omega) (by omega)];simp
   rw[this _ (afJ _),afu]
  ·rw[agr]
   intro i hm
   have hm:=aht.1 hm
   unfold zH
   by_cases e:q.parts.length≤i
   ·simp[e]
   ·rw[hi i (by omega) hm];simp
  ·rintro(⟨h1,h2⟩|⟨h1,h2⟩)
   ·have:=hf h2;omega
   ·exact h2 (hr h1)
 unfold lK
 rw[hb,hh]
 simp only[Bool.and_self,if_true]
 by_cases e:b.parts.length<h.parts.length
 ·rw[if_pos e]
  exact key h b hh hb (fun i a _=>hw.ins i a) hl (fun hr=>(hw.fix hr).2) (fun h=>by omega)
 ·rw[if_neg e]
  have el:h.parts.length=b.parts.length:=by omega
  have er:h.rest=b.rest:=by
   cases hr:b.rest with
   |true=>exact hw.rst hr el
   |false=>exact(hw.fix hr).1
  unfold zh
  rw[if_neg,if_pos]
  ·have:∀k,k≤b.parts.length→jM b h k=h.parts.take k:=by
    intro k
    induction k with
    |zero=>intro _;simp[jM]
    |succ k ih=>
     intro hk
     rw[jM,ih (by omega),ajC,adH (by omega:k<h.parts.length)]
     have hv:h.parts.getD k noS=h.parts[k]'(by omega):=by simp[adI,adH (by omega:k<h.parts.length)]
     have hin:=hw.ins k (by omega)
     simp only[show ¬h.parts.length≤k by omega,akd,aks,Option.toList_some]
     congr 2
     split
     ·rename_i h1
      rw[←hv]
      exact Gv h1 hin
     ·exact hv
   rw[this _ (afJ _),←el,afu,←er]
  ·rw[agr]
   intro i hm
   have hm:=aht.1 hm
   unfold zH
   rw[hw.ins i (by omega)];simp
  ·rintro(⟨h1,h2⟩|⟨h1,h2⟩)
   ·omega
   ·exact h2 er.symm
theorem Oj {b x:akK} (hb:bG b=true) (hx:bG x=true):bG (b++l9 x)=true:=by
 obtain⟨b1,b2⟩:=gV hb
 obtain⟨x1,x2⟩:=gV hx
 have hb3:=hb
 simp only[bG,afA,afU,ajQ,agZ] at hb3
 have h0:=hb3.1.2
 simp at h0
 simp only[bG,afA,afU,ajQ,agZ,agr,aht,ajK,aeB]
 refine⟨⟨?_,?_⟩,?_⟩
 ·intro e
  have:=congrArg ByteArray.size e
  rw[ajH] at this
  have e3:(({data:= #[]}:akK)).size=0:=rfl
  have e4:noS.size=0:=rfl
  omega
 ·rw[uO (by omega),h0];simp
 ·intro k hk
  rw[ajH,UL hx] at hk
  by_cases k0:k=0
  ·exact .inl k0
  right
  by_cases h:k<b.size
  ·rw[uO h];exact b2 k (by omega) h
  ·rw[GN (by omega),l9,if_pos hx,L9 (by omega)]
   exact x2 _ (by omega) (by omega)
theorem afd {b x:akK} (hb:bG b=true) (hx:bG x=true):l9 (b++l9 x)=l9 b++l9 x:=by
 have h1:=(gV hb).1
 rw[l9,if_pos (Oj hb hx)]
 rw[ByteArray.extract_append]
 conv=>rhs;rw[l9,if_pos hb]
 congr 1
 ·rw[ajH]
  apply ByteArray.ext
  simp only[aj7]
  apply Array.ext
  ·simp;try omega
  ·intro i a c;simp
 ·rw[ajH,show 1-b.size=0 by omega,show b.size+(l9 x).size-b.size=(l9 x).size by omega]
  simp
theorem acO {b x:akK} (hb:fP b=true) (hx:bG x=true):fP (b++l9 x)=true∧bI (b++l9 x) x=true:=by
 rcases qJ hb with h|⟨h,hc⟩
 ·have h1:=Oj h hx
  refine⟨by simp[fP,h1],?_⟩
  simp only[bI,hx,h1,if_true,afd h hx]
  exact oh.2 ⟨_,rfl⟩
 ·have h1:=Rt hc hx
  have h2:=NK h1
  refine⟨by simp[fP,h1],?_⟩
  simp only[bI,hx,h2,if_true,agF,if_false]
  rw[BD hx h1,oh.2 ⟨b,rfl⟩,ajH]
  have:=(EO hc).1
  simp;omega
theorem dH (ps:List akK) (l:List bV):∀k,(qH ps l k).length=k
 |0=>rfl
 |k+1=>by simp[qH,dH ps l k]
theorem J6 (ps:List akK) (l:List bV):∀k i,i<k→(qH ps l k).getD i noS=if bG (ps.getD i noS) then((l.getD (aK (ps.take i)) dG).parts.getD 0 noS)++l9 (ps.getD i noS) else ps.getD i noS
 |0,i,h=>by omega
 |k+1,i,h=>by
  simp only[qH,adI]
  by_cases e:i<k
  ·rw[ah5 (by rw[dH];exact e)]
   have:=J6 ps l k i e
   simpa only[adI] using this
  ·have:i=k:=by omega
   subst this
   rw[ajm (by rw[dH];exact afJ _),dH]
   simp[adI]
theorem ab3 {p:bV} (h1:1≤p.parts.length) (h2:p.rest=false→2≤p.parts.length) (h3:comp (p.parts.getD 0 noS)=true) (h4:dN p) (h5:p.parts.length≤12):iU p=true:=by
 refine qA.2 ⟨h1,h2,h3,?_,h5⟩
 rw[agr]
 intro x hx
 obtain⟨i,hi,rfl⟩:=ahN.1 hx
 simp only[ajz] at hi
 have:=h4 (i+1) (by omega)
 rw[adI,adH (by omega)] at this
 simpa[List.getElem_drop,Nat.add_comm] using this
theorem YI {p:bV} {l:List bV} (h:(jL p l).2=0):iU (jL p l).1=true∧yX (jL p l).1 p:=by
 unfold jL at h⊢
 split at h
 rotate_left
 ·rename_i hp;unfold iU at hp;rw[if_neg (by simpa[iU] using hp)] at*;exact absurd h (by simpa using hp)
 rename_i hp
 rw[if_pos hp]
 split at h
 rotate_left
 ·simp at h
 rename_i hw
 rw[if_pos hw]
 split at h
 rotate_left
 ·simp at h
 rename_i hs
 rw[if_pos hs]
 obtain⟨o1,o2,o3,o4,o5⟩:=qA.1 hp
 have hpo:=dO hp
 have hsub:∀i,i<p.parts.length→bG (p.parts.getD i noS)=true→fP ((l.getD (aK (p.parts.take i)) dG).parts.getD 0 noS)=true:=by
  intro i hi hst
  unfold Sv at hs
  rw[agr] at hs
  have:=hs i (aht.2 hi)
  rw[hst] at this
  simp only[Bool.not_true,aks,JL,afA] at this
  exact this.2
 have hget:∀i,i<p.parts.length→fP ((qH p.parts l p.parts.length).getD i noS)=true∧bI ((qH p.parts l p.parts.length).getD i noS) (p.parts.getD i noS)=true:=by
  intro i hi
  rw[J6 _ _ _ _ hi]
  cases hst:bG (p.parts.getD i noS) with
  |true=>rw[if_pos rfl];exact acO (hsub i hi hst) hst
  |false=>rw[if_neg (by simp)];exact⟨hpo i hi,zu (hpo i hi)⟩
 have h0:comp ((qH p.parts l p.parts.length).getD 0 noS)=true:=by
  rw[J6 _ _ _ _ o1,if_neg (by rw[NK o3];simp)];exact o3
 cases hr:p.rest with
 |false=>
  rw[hr] at h
  simp only[agF,if_false] at h⊢
  unfold Me at h⊢
  simp only[dH] at h⊢
  rw[if_neg (by omega)] at h⊢
  refine⟨ab3 (by simp only[dH];exact o1) (fun _=>by simp only[dH];exact o2 hr) h0 (fun i hi=>?_) (by simp only[dH];exact o5),?_⟩
  ·simp only[dH] at hi;exact(hget i hi).1
  ·exact⟨by simp only[dH];exact afJ _,fun _=>⟨rfl,by simp only[dH]⟩,fun h=>(by rw[hr] at h;cases h),fun i hi=>(hget i hi).2⟩
 |true=>
  rw[hr] at h
  simp only[if_true] at h⊢
  split at h
  rotate_left
  ·simp at h
  rename_i hc
  rw[if_pos hc]
  simp only[afA] at hc
  generalize hB:l.getD (aK p.parts) dG=b at h hc⊢
  unfold Me at h⊢
  simp only[afI,dH] at h⊢
  split at h
  ·simp at h
  rename_i hlen
  rw[if_neg hlen]
  have hg1:∀i,i<p.parts.length→(qH p.parts l p.parts.length++b.parts).getD i noS=(qH p.parts l p.parts.length).getD i noS:=by
   intro i hi
   simp only[adI]
   rw[ah5 (by rw[dH];exact hi)]
  refine⟨ab3 (by simp only[afI,dH];omega) ?_ ?_ ?_ (by simp only[afI,dH];omega),?_⟩
  ·intro hbr
   simp only at hbr
   have:b.parts.isEmpty=false:=by
    rcases ajK _ _▸hc.1 with h|h
    ·simpa using h
    ·rw[hbr] at h;cases h
   have:1≤b.parts.length:=by
    cases hbp:b.parts with
    |nil=>rw[hbp] at this;simp at this
    |cons a t=>simp
   simp only[afI,dH];omega
  ·simp only;rw[hg1 0 o1];exact h0
  ·intro i hi
   simp only[afI,dH] at hi
   simp only
   by_cases e:i<p.parts.length
   ·rw[hg1 i e];exact(hget i e).1
   ·simp only[adI]
    rw[ajm (by rw[dH];omega),dH,adH (by omega),Option.getD_some]
    exact agr.1 hc.2 _ (ajI _)
  ·refine⟨by simp only[afI,dH];omega,fun h=>(by rw[hr] at h;cases h),?_,?_⟩
   ·intro _ hl
    simp only[afI,dH] at hl
    have hb0:b.parts=[]:=ajw.1 (by omega)
    simp only
    rcases ajK _ _▸hc.1 with h|h
    ·rw[hb0] at h;simp at h
    ·exact h
   ·intro i hi
    simp only
    rw[hg1 i hi];exact(hget i hi).2
theorem adq {r:MB} {p:bV} (h:(qX r p).2.1=true):iU (qX r p).1.right=true∧yX (qX r p).1.right r.right:=by
 unfold qX at h⊢
 split at h
 rotate_left
 ·simp at h
 rename_i h1
 rw[if_pos h1]
 split at h
 rotate_left
 ·simp at h
 rename_i h2
 rw[if_pos h2]
 cases hm:lK r.left p with
 |none=>rw[hm] at h;simp at h
 |some m=>
  rw[hm] at h
  simp only at h⊢
  split at h
  ·rename_i h3
   rw[if_pos h3]
   exact YI h3
  ·simp at h
theorem x9 (x:fA):∀(l a:List bV),mi x l=some a→∀h∈a,iU h=true∧yX h x.right
 |[],a,h,k,hk=>by simp[mi] at h;subst h;cases hk
 |p::l,a,h,k,hk=>by
  unfold mi at h
  split at h
  ·obtain⟨t,ht,rfl⟩:=ahL.1 h
   have ih:=x9 x l t ht
   split at hk
   ·rename_i hs
    rcases afr.1 hk with rfl|hk
    ·exact adq (r:=x.line) hs
    ·exact ih k hk
   ·exact ih k hk
  ·cases h
theorem Jy {p q m:bV} (h:lK p q=some m):dN m∧1≤m.parts.length:=by
 have key:∀p q:bV,iU p=true→iU q=true→∀m,zh p q=some m→dN m∧1≤m.parts.length:=by
  intro p q hp hq m hm
  have mlen:∀k,(jM p q k).length=k:=by
   intro k
   induction k with
   |zero=>rfl
   |succ k ih=>simp[jM,ih]
  have mget:∀k i,i<k→(jM p q k).getD i noS=if decide (q.parts.length≤i)||bI (p.parts.getD i noS) (q.parts.getD i noS) then p.parts.getD i noS else q.parts.getD i noS:=by
   intro k
   induction k with
   |zero=>intro i h;omega
   |succ k ih=>
    intro i h
    simp only[jM]
    by_cases e:i<k
    ·rw[←ih i e]
     simp only[adI]
     rw[ah5 (by rw[mlen];exact e)]
    ·have:i=k:=by omega
     subst this
     simp only[adI]
     rw[ajm (by rw[mlen];exact afJ _),mlen]
     simp
  unfold zh at hm
  split at hm
  ·cases hm
  split at hm
  ·cases hm
   refine⟨fun i hi=>?_,by simp only[mlen];exact(qA.1 hp).1⟩
   simp only[mlen] at hi
   simp only
   rw[mget _ _ hi]
   split
   ·exact dO hp i hi
   ·rename_i hc
    have:¬q.parts.length≤i:=by intro h;simp[h] at hc
    exact dO hq i (by omega)
  ·cases hm
 unfold lK at h
 split at h
 ·rename_i ho
  simp only[afA] at ho
  split at h
  ·exact key q p ho.2 ho.1 m h
  ·exact key p q ho.1 ho.2 m h
 ·cases h
theorem WB {m:bV} (hm:dN m) {a b:List bV} (h1:∀h∈a,∃k∈b,yX h k) (h2:∀h∈b,∃k∈a,yX h k) (n:Nat):oK ⟨m,a⟩ n=oK ⟨m,b⟩ n:=by
 rw[ajx,KO,KO]
 constructor
 ·rintro⟨h,hh,hc⟩;obtain⟨k,hk,hw⟩:=h1 h hh;exact⟨k,hk,Gp hm hw hc⟩
 ·rintro⟨h,hh,hc⟩;obtain⟨k,hk,hw⟩:=h2 h hh;exact⟨k,hk,Gp hm hw hc⟩
theorem Wj {m:bV} (hm:dN m) (hl:1≤m.parts.length) {a b:List bV} (h1:∀h∈a,∃k∈b,yX h k) (h2:∀h∈b,∃k∈a,yX h k):decide (0<Hz ⟨m,a⟩)=decide (0<Hz ⟨m,b⟩):=by
 rw[ajs,Rw hl,Rw hl]
 simp only[WB hm h1 h2]
theorem JX {b:bV} {a:List bV} (hb:iU b=true) (ha:∀h∈a,iU h=true∧yX h b):(∀h∈(Gu b a).holes,h∈a)∧∀h∈a,∃k∈(Gu b a).holes,yX h k:=by
 have hmet:aa3 b a=a:=by
  unfold aa3
  have:∀l:List bV,(∀h∈l,iU h=true∧yX h b)→l.filterMap (lK b)=l:=by
   intro l
   induction l with
   |nil=>intro _;rfl
   |cons h t ih=>
    intro hl
    have h0:=hl h aj2
    rw[List.filterMap_cons,RD hb h0.1 h0.2,ih fun k hk=>hl k (ajl _ hk)]
  exact this a ha
 have hs:=N8 a
 have hlen:=Dp a a.length
 simp only[Gu,hmet]
 generalize hS:KN a a.length=s at hlen
 rw[←hlen]
 have hmem:∀h,h∈s↔h∈a:=fun h=>by rw[←hS];exact hs h _ (afJ _)
 refine⟨fun h hh=>(hmem h).1 ?_,fun h hh=>?_⟩
 ·exact aaH hh
 ·exact acR (fun k hk=>(ha k ((hmem k).1 hk)).1) ((hmem h).2 hh)
theorem TF {x y:fA} (hx:iU x.right=true) (hy:iU y.right=true) {a b:List bV} (ha:mi x x.holes=some a) (hb:mi y y.holes=some b):
 nI (Gu x.right a) (Gu y.right b)=nI ⟨x.right,a⟩ ⟨y.right,b⟩:=by
 have wa:=x9 x _ _ ha
 have wb:=x9 y _ _ hb
 obtain⟨a1,a2⟩:=JX hx wa
 obtain⟨b1,b2⟩:=JX hy wb
 unfold nI
 simp only[show(Gu x.right a).base=x.right from rfl,show(Gu y.right b).base=y.right from rfl]
 cases hm:lK x.right y.right with
 |none=>rfl
 |some m=>
  obtain⟨m1,m2⟩:=Jy hm
  simp only
  refine Wj m1 m2 ?_ ?_
  ·intro h hh
   rcases afs.1 hh with hh|hh
   ·exact⟨h,akC _ (a1 h hh),yX.refl (dO (wa h (a1 h hh)).1)⟩
   ·exact⟨h,aky _ (b1 h hh),yX.refl (dO (wb h (b1 h hh)).1)⟩
  ·intro h hh
   rcases afs.1 hh with hh|hh
   ·obtain⟨k,hk,hw⟩:=a2 h hh;exact⟨k,akC _ hk,hw⟩
   ·obtain⟨k,hk,hw⟩:=b2 h hh;exact⟨k,aky _ hk,hw⟩
end
section
open Go.Ab Tys
variable [Dr]
theorem ad6 {p q:bV}:yX p q↔((q.rest=true∨(p.rest=false∧p.parts.length=q.parts.length))∧q.parts.length≤p.parts.length∧(q.rest=true→p.parts.length=q.parts.length→p.rest=true))∧∀i,i<q.parts.length→bI (p.parts.getD i noS) (q.parts.getD i noS)=true:=by
 constructor
 ·rintro⟨h1,h2,h3,h4⟩
  refine⟨⟨?_,h1,h3⟩,h4⟩
  cases hr:q.rest with
  |true=>exact .inl rfl
  |false=>exact .inr (h2 hr)
 ·rintro⟨⟨h1,h2,h3⟩,h4⟩
  refine⟨h2,fun hr=>?_,h3,h4⟩
  rcases h1 with h1|h1
  ·rw[hr] at h1;cases h1
  ·exact h1
def ahY.kk:=p13 kB kG Tryz.ntmps269 Tryz.underlying74 iW jy lU sG IP rZ nU jB Tryz.results269
open ahY in
theorem V8 (p q:bV) (hp:PB 1000000 p) (hq:PB 1000000 q) (ho:dN p) (hoq:dN q) (W:Bool) (hW:W=true↔yX p q):AC Tryz.prog 269 [aPat p,aPat q] [] (fun r st=>r=B W∧st=[]):=by
 have hpg:=hp.get
 have hqg:=hq.get
 have hp1:=hp.1
 have hq1:=hq.1
 have hWd:=ad6 (p:=p) (q:=q)
 obtain⟨ps,rp⟩:=p
 obtain⟨qs,rq⟩:=q
 simp only[dN] at ho hoq
 simp only at hp1 hq1 hpg hqg hWd
 have g1:decide ((ps.length:Int)<qs.length)=decide (ps.length<qs.length):=ajs.2 (by omega)
 have g2:decide ((ps.length:Int)=qs.length)=decide (ps.length=qs.length):=ajs.2 (by omega)
 refine df Tryz.func269 Tryz.ntmps269 fun x hx=>?_
 try refine nv ?_
 refine dr ([]) ?_ ?_
 ·exact qP
 try refine nv ?_
 have hno:¬yX ⟨ps,rp⟩ ⟨qs,rq⟩→W=false:=fun h=>by
  cases W with
  |false=>rfl
  |true=>exact absurd (hW.1 rfl) h
 refine kL (ι:=Bool) (fun b=>⟨64,[(2, .c (.ptr 2 0)),(3, .c (.ptr 3 0)),(15,B b)],[(2, .box ((bU ⟨ps,rp⟩).map C.d)),(3, .box ((bU ⟨qs,rq⟩).map C.d))]⟩)
  (fun b=>(b=true→¬yX ⟨ps,rp⟩ ⟨qs,rq⟩)∧(b=false→(rq=true∨(rp=false∧ps.length=qs.length))∧qs.length≤ps.length∧(rq=true→ps.length=qs.length→rp=true))) ?_ ?_
 ·refine aj ?_ ?_
  ·intro h
   try refine nv ?_
   refine⟨rfl,true,⟨fun _=>?_,fun h'=>by cases h'⟩,?_⟩
   rotate_left
   ·rw[h]
    exact bQ
   rw[g2] at h
   rw[hWd]
   rintro⟨⟨h1,h2,h3⟩,_⟩
   rcases h1 with h1|⟨h1,h4⟩
   ·rw[h1] at h;cases h
   ·cases rq<;>simp[h1,h4] at h
  intro h
  try refine nv ?_
  refine aj ?_ ?_
  ·intro h1
   try refine nv ?_
   refine⟨rfl,true,⟨fun _=>?_,fun h'=>by cases h'⟩,?_⟩
   rotate_left
   ·rw[h1]
    exact bQ
   rw[g1] at h1
   rw[hWd]
   rintro⟨⟨_,h2,h3⟩,_⟩
   have:¬ps.length<qs.length:=by omega
   rw[ahK this] at h1
   cases rq<;>simp at h1
  intro h1
  try refine nv ?_
  refine⟨rfl,(bif bif rq then !rp else false then decide ((ps.length:Int)=qs.length) else false),⟨fun h2=>?_,fun h2=>?_⟩,?_⟩
  rotate_left
  rotate_left
  ·exact bQ
  ·rw[g2] at h2
   rw[hWd]
   rintro⟨⟨_,h4,h3⟩,_⟩
   cases rq with
   |false=>simp at h2
   |true=>
    by_cases e:ps.length=qs.length
    ·have:=h3 rfl e
     subst this
     simp at h2
    ·rw[ahK e] at h2
     cases rp<;>simp at h2
  ·rw[g2] at h h2
   rw[g1] at h1
   cases rq with
   |false=>
    cases rp with
    |true=>simp at h
    |false=>
     have e:ps.length=qs.length:=by simpa using h
     exact⟨.inr ⟨rfl,e⟩,by omega,fun h=>by cases h⟩
   |true=>
    have e:¬ps.length<qs.length:=by
     intro e;rw[ajk e] at h1;simp at h1
    refine⟨.inl rfl,by omega,fun _ e2=>?_⟩
    rw[ajk e2] at h2
    cases rp with
    |true=>rfl
    |false=>simp at h2
 rintro b ⟨hb1,hb2⟩
 try refine nv ?_
 refine aj ?_ ?_
 ·intro h
  try refine nv ?_
  refine rA [] ?_
  refine⟨?_,rfl⟩
  rw[hno (hb1 h)]
 intro h
 have hC:=hb2 h
 try refine nv ?_
 refine au (ι:=Nat) (I:=fun k=>⟨64,[(2, .c (.ptr 2 0)),(48,jr qs),(49,I .i64 qs.length),(50,I .i64 k)],[(2, .box ((bU ⟨ps,rp⟩).map C.d))]⟩)
  (Inv:=fun k=>k≤qs.length∧∀i,i<k→bI (ps.getD i noS) (qs.getD i noS)=true) (μ:=fun k=>qs.length-k) 0 ⟨by omega,by omega⟩ ?_ ?_
 ·exact bQ
 rintro k ⟨hk,hall⟩
 try refine nv ?_
 refine aj ?_ ?_
 ·intro hlt
  have hlt':k<qs.length:=by simpa using hlt
  obtain⟨v,hv,he,_⟩:=round encS qs k noS hlt'
  have hlt2:k<ps.length:=by omega
  obtain⟨u,hu,he2,_⟩:=round encS ps k noS hlt2
  have eu:=qy (z:=noS) hu
  have ev:=qy (z:=noS) hv
  have hpw:=qC u v (by rw[←eu];exact hpg k) (by rw[←ev];exact hqg k) (by rw[←eu];exact ho k hlt2) (by rw[←ev];exact hoq k hlt')
  (repeat (first|refine nx (p2 @he @he2) ?_|refine cf (hpw) ?_))
  refine aj ?_ ?_
  ·intro hb
   have hn:¬yX ⟨ps,rp⟩ ⟨qs,rq⟩:=by
    rintro⟨_,_,_,h5⟩
    have:=h5 k hlt'
    simp only[eu,ev] at this
    rw[this] at hb;cases hb
   try refine nv ?_
   refine rA [] ?_
   refine⟨?_,rfl⟩
   rw[hno hn]
  ·intro hb
   try refine nv ?_
   refine⟨k+1,⟨by omega,?_⟩,by omega,?_⟩
   ·intro i hi
    rcases ajB.1 hi with hi|rfl
    ·exact hall i hi
    ·rw[eu,ev];simpa using hb
   ·exact bQ
 intro hge
 have hk':k=qs.length:=by have:¬k<qs.length:=by simpa using hge
                          omega
 subst hk'
 try refine nv ?_
 refine rA [] ?_
 refine⟨?_,rfl⟩
 rw[hW.2 (hWd.2 ⟨hC,hall⟩)]
theorem Uj (p q:bV) (hp:PB 1000000 p) (hq:PB 1000000 q) (ho:iU p=true) (hoq:iU q=true):AC Tryz.prog 269 [aPat p,aPat q] [] (fun r st=>r=B (iC p q)∧st=[]):=by
 exact V8 p q hp hq (dO ho) (dO hoq) (iC p q) (within_iff ho hoq)
def ah9.kk:=p6 kB kG Tryz.ntmps253 iW nU Tryz.results253
open ah9 in
theorem VC (p q:bV) (hp:PB 1000000 p) (hq:PB 1000000 q):AC Tryz.prog 253 [aPat p,aPat q] [] (fun r st=>r=B (iC p q)∧st=[]):=by
 have hcp:=lX p hp
 have hcq:=lX q hq
 have hin:(bif decide (dm p=0) then decide (dm q=0) else false)=true→AC Tryz.prog 269 [aPat p,aPat q] [] (fun r st=>r=B (iC p q)∧st=[]):=fun h=>by
  rw[cond_eq_ite] at h
  split at h
  ·rename_i h1;exact Uj p q hp hq h1 h
  ·cases h
 have hW:iC p q=(decide (dm p=0)&&decide (dm q=0)&&iC p q):=by
  rw[show decide (dm p=0)=iU p from rfl,show decide (dm q=0)=iU q from rfl]
  simp only[iC]
  cases iU p<;>cases iU q<;>simp
 generalize iC p q=W at hin hW
 generalize dm p=c1 at hcp hin hW
 generalize dm q=c2 at hcq hin hW
 refine df Tryz.func253 Tryz.ntmps253 fun x hx=>?_
 (repeat (first|refine nv ?_|refine cf (hcp) ?_))
 refine so ([(10,I .i64 c2)]) ?_ ?_
 ·exact eQ @hcq
 try refine nv ?_
 refine so ([(16,B W)]) ?_ ?_
 ·exact eQ @hin
 try refine nv ?_
 refine rA [] ?_
 refine⟨?_,rfl⟩
 rw[hW]
 cases decide (c1=0)<;>cases decide (c2=0)<;>simp
def aiz.kk:=p8 kB kS Tryz.ntmps179 Tryz.underlying74 jy rZ jB Tryz.results179
open aiz in
theorem Fp (l:List akK) (h0:l≠[]) (hl:l.length≤1000000):AC Tryz.prog 179 [jr l] [] (fun r st=>r= .c (.ms 7 1 0 l.length)∧st=[(7,ay 1 (l.map encS))]):=by
 have o1:∀y∈List.map (fun l=>List.map C.d l) (List.map encS l),y.length=1:=by
  intro l hl
  obtain⟨y,hy,rfl⟩:=agh.1 hl
  obtain⟨z,_,rfl⟩:=agh.1 hy
  rfl
 refine df Tryz.func179 Tryz.ntmps179 fun x hx=>?_
 try refine nv ?_
 refine Ti (sz:=1) (xs:=l.map encS) (by simp) Tryz.underlying74 (by simp only[kV, ↓reduceIte,Nat.reduceEqDiff,reduceCtorEq];first|done|rfl) (by simpa using h0) ?_
 refine fE ?_
 try refine nv ?_
 refine aj ?_ ?_
 ·intro h;cases h
 intro _
 refine aZ ?_
 refine gq ?_ ?_
 ·exact eQ @o1
 try refine nv ?_
 refine rA ([(7,ay 1 (l.map encS))]) ?_
 exact⟨rfl,rfl⟩
end
section
open Go.Ab
def trimS (s t:akK):akK:=if dX s t then s.extract 0 (s.size-t.size) else s
theorem VP {a b:akK} (h:bI a b=true) (hb:bG b=true):dX a (l9 b)=true:=by
 unfold bI at h
 rw[if_pos hb] at h
 split at h
 ·rename_i ha
  refine yF ?_ h
  exact oh.2 ⟨a.extract 0 1,by rw[l9,if_pos ha,akw];simp⟩
 ·unfold uA at h
  rw[if_pos hb] at h
  split at h
  ·assumption
  ·simp at h
def CG (ps qs:List akK):Nat→List akK
 |0=>qs
 |k+1=>if bG (ps.getD k noS) then(CG ps qs k).set k (trimS ((CG ps qs k).getD k noS) (l9 (ps.getD k noS))) else CG ps qs k
theorem AZ (ps qs:List akK):∀k,(CG ps qs k).length=qs.length
 |0=>rfl
 |k+1=>by simp only[CG];split<;>simp[AZ ps qs k]
theorem Jr (ps qs:List akK):∀k i,k≤i→(CG ps qs k)[i]? =qs[i]?
 |0,i,_=>rfl
 |k+1,i,h=>by
  simp only[CG]
  split
  ·rw[List.getElem?_set_ne (by omega),Jr ps qs k i (by omega)]
  ·exact Jr ps qs k i (by omega)
theorem acr (ps qs:List akK):∀k i,i<k→i<qs.length→(CG ps qs k)[i]? =some (if bG (ps.getD i noS) then trimS (qs.getD i noS) (l9 (ps.getD i noS)) else qs.getD i noS)
 |0,i,h,_=>by omega
 |k+1,i,h,hi=>by
  have hg:=Jr ps qs k k (afJ _)
  have hl:=AZ ps qs k
  by_cases e:i=k
  ·subst e
   have e2:(CG ps qs i).getD i noS=qs.getD i noS:=by rw[adI,hg,←adI]
   simp only[CG]
   split
   ·rw[List.getElem?_set_self (by omega),e2]
   ·rw[hg,adI,adH hi];rfl
  ·have ih:=acr ps qs k i (by omega) hi
   simp only[CG]
   split
   ·rw[List.getElem?_set_ne (by omega),ih]
   ·exact ih
theorem ab2 (ps qs:List akK) (k:Nat):(CG ps qs k).drop k=qs.drop k:=by
 apply ajS
 intro i
 rw[ajn,ajn,Jr ps qs k _ (by omega)]
def P8 (id:Nat) (ps:List akK):Nat→List (List C)
 |0=>[]
 |k+1=>P8 id ps k++(if bG (ps.getD k noS) then [[.mv id 1 k 1, .d (.v (.bool false))]] else [])
theorem Lh (dom:Nat→Bool) (id:Nat) (ps:List akK) (h:dom id=true):∀k,aB dom (P8 id ps k).flatten=True
 |0=>by simp[P8,aB]
 |k+1=>by
  simp only[P8,akG,aI,Lh dom id ps h k,ajG]
  split<;>simp[aB,cZ,h]
theorem Xu (ρ:Nat→Nat) (id:Nat) (ps:List akK):∀k,(P8 id ps k).map (fun l=>l.map (gK ρ))=P8 (ρ id) ps k
 |0=>rfl
 |k+1=>by
  simp only[P8,ajA,Xu ρ id ps k]
  split<;>simp[gK]
theorem Qv (id:Nat) (ps:List akK):∀k,(P8 id ps k).length≤k
 |0=>afJ _
 |k+1=>by
  have:=Qv id ps k
  simp only[P8,afI]
  split<;>simp<;>omega
theorem acD {l:List (List D)} {i:Nat} {v:List D} (h:l[i]? =some v):(l.drop i).take 1=[v]:=by
 obtain⟨hi,e⟩:=adK.1 h
 rw[aiu hi,e];rfl
theorem abf {p q:bV} (id:Nat) (hs:∀i,i<p.parts.length→bG (p.parts.getD i noS)=true→dX (q.parts.getD i noS) (l9 (p.parts.getD i noS))=true) (hl:p.parts.length≤q.parts.length):
 ∀k,k≤p.parts.length→(P8 id p.parts k).map (fun l=>l.map (frV id 1 ((CG p.parts q.parts p.parts.length).map encS)))=(EK p q k).map fun b=>(bU b).map C.d
 |0,_=>rfl
 |k+1,hk=>by
  simp only[P8,EK,ajA,abf id hs hl k (by omega)]
  congr 1
  split
  ·rename_i h
   have hlt:=acr p.parts q.parts p.parts.length k (by omega) (by omega)
   rw[if_pos h,trimS,if_pos (hs k (by omega) h)] at hlt
   have h1:k+1≤((CG p.parts q.parts p.parts.length).map encS).length:=by rw[ae1,AZ];omega
   simp only[agV,aj0,frV,if_pos (⟨rfl,rfl,h1⟩:id=id∧1=1∧k+1≤((CG p.parts q.parts p.parts.length).map encS).length)]
   rw[if_pos ⟨trivial,trivial,h1⟩,acD (v:=encS ((q.parts.getD k noS).extract 0 ((q.parts.getD k noS).size-(l9 (p.parts.getD k noS)).size))) (by rw[ag5,hlt];rfl)]
  ·rfl
theorem aek {p q:bV} (id:Nat) (hw:iC q p=true):p.parts.length≤q.parts.length∧
 (P8 id p.parts p.parts.length++(if p.rest then [[C.mv id 1 p.parts.length (q.parts.length-p.parts.length), .d (.v (.bool q.rest))]] else [])).map (fun l=>l.map (frV id 1 ((CG p.parts q.parts p.parts.length).map encS)))
   =((l7 p q).getD []).map fun b=>(bU b).map C.d:=by
 have hw':=hw
 unfold iC at hw'
 simp only[afA,aeB,agr,aht] at hw'
 obtain⟨⟨⟨⟨_,hl⟩,_⟩,_⟩,hi⟩:=hw'
 refine⟨hl,?_⟩
 rw[l7,if_pos hw,Option.getD_some,ajA,ajA,abf id (fun i h1 h2=>VP (hi i h1) h2) hl _ (afJ _)]
 congr 1
 split
 ·have h1:p.parts.length+(q.parts.length-p.parts.length)≤((CG p.parts q.parts p.parts.length).map encS).length:=by rw[ae1,AZ];omega
  simp only[agV,aj0,frV,if_pos (⟨rfl,rfl,h1⟩:id=id∧1=1∧p.parts.length+(q.parts.length-p.parts.length)≤((CG p.parts q.parts p.parts.length).map encS).length)]
  rw[if_pos ⟨trivial,trivial,h1⟩,←List.map_drop,ab2,ahH (by rw[ae1,ajz];exact afJ _)]
 ·rfl
theorem IE:∀(ps:List akK) (j:Nat),j<aK ps→∃i,i<ps.length∧bG (ps.getD i noS)=true∧aK (ps.take i)=j
 |[],j,h=>by simp[aK] at h
 |a::ps,j,h=>by
  by_cases ha:bG a=true
  ·match j with
   |0=>exact⟨0,by simp,by simpa using ha,rfl⟩
   |j+1=>
    obtain⟨i,h1,h2,h3⟩:=IE ps j (by simp only[aK,ajj,ha,if_true,List.length_cons] at h⊢;omega)
    exact⟨i+1,by simpa using h1,by simpa using h2,by simp only[List.take_succ_cons,aK,ajj,ha,if_true,List.length_cons] at h3⊢;omega⟩
  ·obtain⟨i,h1,h2,h3⟩:=IE ps j (by simp only[aK,ajj,ha] at h⊢;simpa using h)
   exact⟨i+1,by simpa using h1,by simpa using h2,by simp only[List.take_succ_cons,aK,ajj,ha] at h3⊢;simpa using h3⟩
theorem Bi:∀(ps:List akK) (i:Nat),i<ps.length→bG (ps.getD i noS)=true→aK (ps.take i)<aK ps
 |[],i,h,_=>by simp at h
 |a::ps,0,_,h=>by
  have h:bG a=true:=by simpa using h
  simp only[List.take_zero,aK,List.filter_nil,ajj,h,if_true,List.length_cons,List.length_nil];omega
 |a::ps,i+1,hi,h=>by
  have:=Bi ps i (by simpa using hi) (by simpa using h)
  simp only[List.take_succ_cons,aK,ajj] at this⊢
  split<;>simp<;>omega
def Fq (b:bV) (rest:Bool):Bool:=!((!rest&&(!decide (b.parts.length=1)||b.rest))||(decide (b.parts.length=0)&&!b.rest))&&b.parts.all fP
theorem TE (b:bV):Fq b false=JL b:=by
 obtain⟨l,r⟩:=b
 rw[Fq,JL]
 match l with
 |[]=>cases r<;>rfl
 |[a]=>cases r<;>simp
 |a::b::l=>cases r<;>simp
theorem aan (b:bV):Fq b true=((!b.parts.isEmpty||b.rest)&&b.parts.all fP):=by
 obtain⟨l,r⟩:=b
 rw[Fq]
 match l with
 |[]=>cases r<;>rfl
 |a::l=>cases r<;>simp
theorem adV {p:bV} {l:List bV} (hl:l.length=tH p):((List.range l.length).all fun i=>Fq (l.getD i dG) (decide (i=aK p.parts)))=
 (Sv p.parts l p.parts.length&&(!p.rest||((!(l.getD (aK p.parts) dG).parts.isEmpty||(l.getD (aK p.parts) dG).rest)&&(l.getD (aK p.parts) dG).parts.all fP))):=by
 rw[←aan,ajx]
 simp only[afA,Sv,agr,aht,ajK,afU,←TE]
 unfold tH at hl
 constructor
 ·intro h
  refine⟨fun i hi=>?_,?_⟩
  ·cases hs:bG (p.parts.getD i noS) with
   |false=>exact .inl rfl
   |true=>
    have hlt:=Bi _ i hi hs
    have:=h (aK (p.parts.take i)) (by omega)
    rw[ahK (by omega)] at this
    exact .inr this
  ·cases hr:p.rest with
   |false=>exact .inl rfl
   |true=>
    rw[hr,if_pos rfl] at hl
    have:=h (aK p.parts) (by omega)
    rw[ajk rfl] at this
    exact .inr this
 ·rintro⟨h1,h2⟩ j hj
  by_cases e:j=aK p.parts
  ·subst e
   rw[ajk rfl]
   rcases h2 with h2|h2
   ·rw[h2] at hl;simp at hl;omega
   ·exact h2
  ·rw[ahK e]
   have hlt:j<aK p.parts:=by split at hl<;>omega
   obtain⟨i,a1,a2,a3⟩:=IE _ j hlt
   have:=h1 i a1
   rw[a2,a3] at this
   simpa using this
theorem TG (p:bV) (l:List bV):jL p l=
 if iU p then(if l.length=tH p then(if((List.range l.length).all fun i=>Fq (l.getD i dG) (decide (i=aK p.parts))) then
  (if p.rest then Me ⟨qH p.parts l p.parts.length++(l.getD (aK p.parts) dG).parts,(l.getD (aK p.parts) dG).rest⟩ else(⟨qH p.parts l p.parts.length,false⟩,0)) else(dG,33)) else(dG,33)) else(dG,dm p):=by
 unfold jL
 by_cases h1:iU p=true
 ·rw[if_pos h1,if_pos h1]
  by_cases h2:l.length=tH p
  ·rw[if_pos h2,if_pos h2,adV h2]
   cases h3:Sv p.parts l p.parts.length with
   |false=>rfl
   |true=>
    simp only[if_true,ajq]
    cases h4:p.rest with
    |false=>
     simp only[aj6,Bool.true_or,if_true]
     have:¬12<p.parts.length:=by have:=(qA.1 h1).2.2.2.2;omega
     simp only[Me,dH,if_neg this]
     rfl
    |true=>simp only[Bool.not_true,aks];rfl
  ·rw[if_neg h2,if_neg h2]
 ·rw[if_neg h1,if_neg h1]
def qV (a m b:bV):bV×Int:=if(jL b ((l7 a m).getD [])).2=0 then((jL b ((l7 a m).getD [])).1,0) else(dG,43)
theorem WQ (r:MB) (p:bV):qX r p=if okR r then(if iU p then(match lK r.left p with
 |none=>(RY,false,0)
 |some m=>if(qV r.left m r.right).2=0 then(⟨false,m,(qV r.left m r.right).1⟩,true,0) else(RY,false,43)) else(RY,false,dm p)) else(RY,false,iQ r):=by
 unfold qX qV
 split
 ·split
  ·cases lK r.left p with
   |none=>rfl
   |some m=>
    simp only
    by_cases h:(jL r.right ((l7 r.left m).getD [])).2=0
    ·simp only[h,if_true]
    ·simp only[h,if_false];rfl
  ·rfl
 ·rfl
end
section
open Go.Ab Tys
variable [Dr]
def aiN.kk:=p6 kB kS Tryz.ntmps270 Tryz.underlying9 jB Tryz.results270
open aiN in
theorem aam (s t:akK) (hs:s.size≤1000000) (ht:t.size≤1000000):AC Tryz.prog 270 [Str s,Str t] [] (fun r st=>r=Str (trimS s t)∧st=[]):=by
 refine df Tryz.func270 Tryz.ntmps270 fun x hx=>?_
 (repeat (first|refine nv ?_|refine cf (Aj s t hs ht) ?_))
 refine aj ?_ ?_
 ·intro h
  have h':dX s t=true:=by simpa using h
  have hl:=OL h'
  have e:((s.size:Int)-t.size).toNat=s.size-t.size:=by omega
  try refine nx @e ?_
  refine rA [] ?_
  refine⟨?_,rfl⟩
  simp only[trimS,h',if_true]
 ·intro h
  have h':dX s t=false:=by simpa using h
  try refine nv ?_
  refine rA [] ?_
  refine⟨?_,rfl⟩
  simp only[trimS,h',if_false,agF]
def ai8.kk:=p3 kB Tryz.ntmps254 Tryz.results254
open ai8 in
theorem ael (s t:akK) (hs:s.size≤1000000) (ht:t.size≤1000000):AC Tryz.prog 254 [Str s,Str t] [] (fun r st=>r=Str (trimS s t)∧st=[]):=by
 refine df Tryz.func254 Tryz.ntmps254 fun x hx=>?_
 (repeat (first|refine nv ?_|refine cf (aam s t hs ht) ?_))
 refine rA [] ?_
 refine⟨?_,rfl⟩
 rfl
theorem aeu (s:akK):decide (yY s=0)=!fP s:=by
 unfold yY fP
 cases comp s<;>cases bG s<;>rfl
def ahW.kk:=p13 kB kG Tryz.ntmps255 Tryz.underlying74 We jy JK JO abB IP rZ jB Tryz.results255
open ahW in
theorem QE (b:bV) (rest:Bool) (hb:PB 1000000 b):AC Tryz.prog 255 [aPat b,B rest] [] (fun r st=>r=B (Fq b rest)∧st=[]):=by
 have hR:Fq b rest=(!((!rest&&(!decide (b.parts.length=1)||b.rest))||(decide (b.parts.length=0)&&!b.rest))&&b.parts.all fP):=rfl
 generalize Fq b rest=R at hR
 have hb1:=hb.1
 have hb2:=hb.2
 obtain⟨ps,rp⟩:=b
 simp only at hR hb1 hb2
 refine df Tryz.func255 Tryz.ntmps255 fun x hx=>?_
 try refine nv ?_
 refine aj ?_ ?_
 ·intro h
  have h':((!rest&&(!decide (ps.length=1)||rp))||(decide (ps.length=0)&&!rp))=true:=by
   have e1:decide ((ps.length:Int)=1)=decide (ps.length=1):=ajs.2 (by omega)
   have e2:decide ((ps.length:Int)=0)=decide (ps.length=0):=ajs.2 (by omega)
   rw[e1,e2] at h
   revert h
   cases rest<;>cases rp<;>cases decide (ps.length=1)<;>cases decide (ps.length=0)<;>simp
  rw[h'] at hR
  try refine nv ?_
  refine rA [] ?_
  refine⟨?_,rfl⟩
  rw[hR];rfl
 intro h
 have h':((!rest&&(!decide (ps.length=1)||rp))||(decide (ps.length=0)&&!rp))=false:=by
  have e1:decide ((ps.length:Int)=1)=decide (ps.length=1):=ajs.2 (by omega)
  have e2:decide ((ps.length:Int)=0)=decide (ps.length=0):=ajs.2 (by omega)
  rw[e1,e2] at h
  revert h
  cases rest<;>cases rp<;>cases decide (ps.length=1)<;>cases decide (ps.length=0)<;>simp
 rw[h',aj6,ajq] at hR
 try refine nv ?_
 refine au (ι:=Nat) (I:=fun k=>⟨41,[(31,jr ps),(32,I .i64 ps.length),(33,I .i64 k)],[]⟩)
  (Inv:=fun k=>k≤ps.length∧(ps.take k).all fP=true) (μ:=fun k=>ps.length-k) 0 ⟨by omega,rfl⟩ ?_ ?_
 ·exact bQ
 rintro k ⟨hk,hall⟩
 try refine nv ?_
 refine aj ?_ ?_
 ·intro hlt
  have hlt':k<ps.length:=by simpa using hlt
  obtain⟨u,hu,he,htk⟩:=round encS ps k noS hlt'
  have hum:=aem hu
  have hf:=OC u (hb2 u hum)
  have h0:=aeu u
  generalize yY u=fm at hf h0
  (repeat (first|refine nx @he ?_|refine cf (hf) ?_))
  refine aj ?_ ?_
  ·intro hc
   rw[hc] at h0
   have hR2:R=false:=by
    rw[hR,Bool.eq_false_iff]
    intro e
    rw[agr.1 e u hum] at h0;cases h0
   try refine nv ?_
   refine rA [] ?_
   refine⟨?_,rfl⟩
   rw[hR2]
  ·intro hc
   rw[hc] at h0
   try refine nv ?_
   refine⟨k+1,⟨by omega,?_⟩,by omega,?_⟩
   ·rw[htk,ajY,hall]
    simp only[List.all_cons,List.all_nil,akt,ajq]
    cases hp:fP u
    ·rw[hp] at h0;cases h0
    ·rfl
   ·exact bQ
 intro hge
 have hk':k=ps.length:=by have:¬k<ps.length:=by simpa using hge
                          omega
 rw[hk',afu] at hall
 try refine nv ?_
 refine rA [] ?_
 refine⟨?_,rfl⟩
 rw[hR,hall]
end
section
open Go.Ab Tys
variable [zg]
end
section
open Go.Ab Tys
variable [zg]
theorem G7:∀(l:List bV) (h:bV) (m:Nat),qm (l++[h]) m=max (qm l m) h.parts.length
 |[],_,_=>rfl
 |a::l,h,m=>G7 l h _
theorem XE:∀(l:List bV) (m:Nat),m≤qm l m
 |[],_=>afJ _
 |a::l,m=>ajo (Nat.le_max_left _ _) (XE l _)
theorem XO {n:Nat}:∀(l:List bV) (m:Nat),m≤n→(∀h∈l,h.parts.length≤n)→qm l m≤n
 |[],_,h,_=>h
 |a::l,m,h,hl=>XO l _ (Nat.max_le.2 ⟨h,hl a (by simp)⟩) fun b hb=>hl b (by simp[hb])
theorem find_range {p:Nat→Bool} {M j:Nat} (hj:j<M) (hp:p j=true) (hn:∀i,i<j→p i=false):(List.range M).find? p=some j:=by
 rw[List.find?_eq_some_iff_append]
 refine⟨hp,(List.range M).take j,(List.range M).drop (j+1),?_,?_⟩
 ·have h1:=agu j (List.range M)
  rw[ajF,akp hj] at h1
  exact h1.symm
 ·intro a ha
  rw[List.take_range] at ha
  have:=aht.1 ha
  rw[hn a (by omega)];rfl
end
section
open Go.Ab
theorem Aw (L:List akK):(dR L slash).data.toList=Lib.join (L.map (·.data.toList)) [47]:=by simp[dR,slash]
theorem Ec (X:List (List UInt8)):∀(A:List (List UInt8)),X≠[]→Lib.join (A++X) [47]=Lib.join (A++[Lib.join X [47]]) [47]
 |[],h=>by rw[List.nil_append,List.nil_append,Lib.join_one]
 |a::A,h=>by
  have ih:=Ec X A h
  obtain⟨b,B,e⟩:=List.exists_cons_of_ne_nil (show A++X≠[] by simp[h])
  obtain⟨c,C,e2⟩:=List.exists_cons_of_ne_nil (show A++[Lib.join X [47]]≠[] by simp)
  have step:∀(m:List UInt8) (r:List (List UInt8)),Lib.join (a::m::r) [47]=a++47::Lib.join (m::r) [47]:=by
   intro m r
   rw[Lib.join_cons,Lib.join_cons]
   simp[Lib.joinTail]
  rw[List.cons_append,List.cons_append]
  rw[e,e2] at ih⊢
  rw[step,step,ih]
theorem Q8 (A:List akK) (s:akK):dR (A++split s) slash=dR (A++[s]) slash:=by
 have h:∀L M:List akK,Lib.join (L.map (·.data.toList)) [47]=Lib.join (M.map (·.data.toList)) [47]→dR L slash=dR M slash:=by
  intro L M e
  rw[←Aw,←Aw] at e
  have:=congrArg Hl e
  rwa [ac6,ac6] at this
 apply h
 rw[ajA,ajA,vU]
 have e:((dn s.data.toList).map Hl).map (·.data.toList)=dn s.data.toList:=by
  rw[ajM]
  conv=>rhs;rw[←List.map_id (dn s.data.toList)]
  exact ajZ fun _ _=>rfl
 obtain⟨a,t,e2⟩:=je s.data.toList
 rw[e,Ec _ _ (by rw[e2];simp),Ae]
 rfl
theorem WG {L:List akK} (h0:L≠[]) (hc:L.all comp=true):split (dR L slash)=L:=by
 rw[vU,Aw,zl _ (by intro h;rw[List.map_eq_nil_iff] at h;exact h0 h) ?_,Pz]
 intro l hl x hx
 obtain⟨s,hs,rfl⟩:=agh.1 hl
 exact YC (qg (agr.1 hc s hs)) x hx
theorem Zw {ps:List akK} {k:Nat} (h:k<ps.length):aK (ps.take (k+1))=aK (ps.take k)+(if bG (ps.getD k noS) then 1 else 0):=by
 rw[ajC,adH h,aK,aK,ahk,afI,adI,adH h]
 simp only[Option.toList_some,Option.getD_some,ajj,List.filter_nil]
 split<;>rfl
theorem Dw (ps ls:List akK):∀k,k≤ps.length→(jG ps ls k).length=aK (ps.take k)
 |0,_=>rfl
 |k+1,h=>by
  simp only[jG,afI,Dw ps ls k (by omega),Zw (show k<ps.length by omega)]
  split<;>rfl
theorem Ou (ps ls:List akK):∀k i,k≤ps.length→i<k→bG (ps.getD i noS)=true→(jG ps ls k)[aK (ps.take i)]? =some (uA (ps.getD i noS) (ls.getD i noS)).1
 |k+1,i,hk,hi,hs=>by
  have hl:=Dw ps ls k (by omega)
  simp only[jG]
  by_cases e:i=k
  ·subst e
   rw[if_pos hs,ajm (by omega),hl,akq];rfl
  ·have hlt:aK (ps.take i)<aK (ps.take k):=by
    have:=Bi (ps.take k) i (by rw[ajD];omega) (by rw[adI,ag2,if_pos (by omega),←adI];exact hs)
    rwa [List.take_take,Nat.min_eq_left (by omega)] at this
   rw[ah5 (by omega),Ou ps ls k i (by omega) (by omega) hs]
theorem Zx {r:MB} (hr:okR r=true) {s:akK} {l:List akK} (hm:fQ r.left s=some l):(rF r.right l).2=0:=by
 simp only[okR,aeB] at hr
 unfold iQ at hr
 have h1:iU r.left=true:=by
  cases h:iU r.left with
  |true=>rfl
  |false=>rw[h] at hr;simp at hr
 rw[if_pos h1] at hr
 have h2:iU r.right=true:=by
  cases h:iU r.right with
  |true=>rfl
  |false=>rw[h] at hr;simp at hr
 rw[if_pos h2] at hr
 have h3:aK r.left.parts=aK r.right.parts∧r.left.rest=r.right.rest:=akl fun h=>by rw[if_neg h] at hr;cases hr
 obtain⟨h3,h4⟩:=h3
 unfold fQ at hm
 cases hp:aG s with
 |none=>rw[hp] at hm;cases hm
 |some ls=>
  rw[hp] at hm
  simp only at hm
  have hf:(Ah r.left ls&&wF r.left.parts ls r.left.parts.length)=true:=akl fun h=>by rw[if_neg h] at hm;cases hm
  rw[if_pos hf] at hm
  rw[afA] at hf
  obtain⟨hf,hcap⟩:=hf
  cases hm
  have hlc:ls.all comp=true:=by
   unfold aG jm at hp
   repeat' split at hp
   all_goals first
    |cases hp;done
    |(rename_i hx;repeat' split at hx)
    |skip
   all_goals simp_all
  have hlen:=Dw r.left.parts ls r.left.parts.length (afJ _)
  rw[afu] at hlen
  have hw:(jG r.left.parts ls r.left.parts.length++if r.left.rest=true then [dR (ls.drop r.left.parts.length) slash] else []).length=tH r.right:=by
   rw[afI,hlen,tH,←h3,←h4];split<;>rfl
  have hfo:qQ r.right.parts (jG r.left.parts ls r.left.parts.length++if r.left.rest=true then [dR (ls.drop r.left.parts.length) slash] else []) r.right.parts.length=true:=by
   simp only[qQ,agr,aht,ajK,afU]
   intro i hi
   cases hs:bG (r.right.parts.getD i noS) with
   |false=>exact .inl rfl
   |true=>
    refine .inr ?_
    have hlt:=Bi _ i hi hs
    rw[←h3] at hlt
    obtain⟨j,j1,j2,j3⟩:=IE _ _ hlt
    have hg:=Ou r.left.parts ls _ j (afJ _) j1 j2
    rw[j3] at hg
    rw[adI,ah5 (by omega),hg,Option.getD_some]
    simp only[wF,agr,aht] at hcap
    have:=hcap j j1
    unfold uA at this⊢
    rw[if_pos j2] at this⊢
    split at this
    ·rename_i hh;rw[if_pos hh];exact this
    ·cases this
  unfold rF
  rw[if_pos h2,if_pos hw,if_pos hfo]
  split
  ·rename_i hre
   have hre':r.left.rest=true:=by rw[h4];exact hre
   rw[if_pos hre']
   have e:(jG r.left.parts ls r.left.parts.length++[dR (ls.drop r.left.parts.length) slash]).getD (aK r.right.parts) noS=dR (ls.drop r.left.parts.length) slash:=by
    rw[adI,ajm (by omega),hlen,h3,akq];rfl
   rw[e]
   have hd:ls.drop r.left.parts.length≠[]:=by
    intro h
    have hl:=List.drop_eq_nil_iff.1 h
    unfold Ah at hf
    rw[hre'] at hf
    simp only[Bool.not_true,aka,Bool.or_false,ajq,afA,afU,ajQ,agZ] at hf
    omega
   have hda:(ls.drop r.left.parts.length).all comp=true:=agr.2 fun x hx=>agr.1 hlc x (akc hx)
   rw[WG hd hda,if_pos hda]
  ·rfl
theorem aah {r:MB} (hr:okR r=true) (s:akK):(XA r s).2=(fQ r.left s).isSome:=by
 unfold XA
 rw[if_pos hr]
 cases hm:fQ r.left s with
 |none=>rfl
 |some l=>simp only[Zx hr hm];rfl
def FO (x:fA) (s:akK):Bool:=(XA x.line s).2&&!x.holes.any fun h=>(fQ h s).isSome
theorem afj {m:List fA} (hm:∀e∈m,iQ e.line=0) (s:akK):nG m s=match m.find? (fun x=>FO x s) with|none=>(noS,false)|some x=>((XA x.line s).1,true):=by
 have e:m.find? (fun x=>abh x.F7 s)=m.find? (fun x=>FO x s):=by
  induction m with
  |nil=>rfl
  |cons a m ih=>
   have h1:abh a.F7 s=FO a s:=by
    unfold abh FO
    rw[aah (by rw[okR,hm a (by simp)];rfl)]
    rfl
   simp only[List.find?_cons,h1,ih fun e he=>hm e (ajl _ he)]
 unfold nG
 rw[e]
 cases h:m.find? (fun x=>FO x s) with
 |none=>rfl
 |some x=>
  have:=List.find?_some h
  simp only[FO,afA] at this
  simp only
  rw[←this.1]
theorem abj {p:bV} {cs:List akK}:rF p cs=
 if iU p then(if cs.length=tH p then(if qQ p.parts cs p.parts.length then
  (if p.rest then(if(split (cs.getD (aK p.parts) noS)).all comp then(fD++dR (jX p.parts cs p.parts.length++[cs.getD (aK p.parts) noS]) slash,0) else(noS,32))
    else(fD++dR (jX p.parts cs p.parts.length) slash,0)) else(noS,32)) else(noS,32)) else(noS,dm p):=by
 rw[←Q8];rfl
end
section
open Go.Ab Tys
variable [Dr]
structure SV where
 og:Bool
 car:List bJ
 con:List bJ
 cre:List bJ
structure agl (A:List (bJ×SV)) (S:bJ→SS):Prop where
 car:∀f g,(S f).car g↔g∈((ai A f).map SV.car).getD []
 con:∀f g,(S f).con g↔g∈((ai A f).map SV.con).getD []
 cre:∀f g,(S f).cre g↔g∈((ai A f).map SV.cre).getD []
def ZA (d:aW) (k:Nat) (A:List (bJ×SV)):Prop:=∀(j:Nat) (w:Rev),j<k→d.revs[j]? =some w→¬w.act=5→∃x,ai A (fileOf w)=some x
theorem ZA.away {d:aW} {k:Nat} {A:List (bJ×SV)} (h:ZA d k A) {v:Rev} (hv:d.revs[k]? =some v) (h5:v.act=5):ZA d (k+1) A:=by
 intro j w hj hw w5
 by_cases e:j=k
 ·subst e;rw[hv] at hw;cases hw;exact absurd h5 w5
 ·exact h j w (by omega) hw w5
theorem ZA.aa4 {d:aW} {k:Nat} {A:List (bJ×SV)} (h:ZA d k A) {v:Rev} (hv:d.revs[k]? =some v) (x:SV):ZA d (k+1) (eH A (fileOf v) x):=by
 intro j w hj hw w5
 rw[fJ]
 by_cases e:fileOf w=fileOf v
 ·exact⟨x,if_pos e⟩
 ·rw[if_neg e]
  have:j≠k:=by rintro rfl;rw[hv] at hw;cases hw;exact e rfl
  exact h j w (by omega) hw w5
structure WY (S:bJ→SS) (b:bJ) (rs:List dZ) (og:Bool) (n:Int) (c r:List bJ):Prop where
 car:∀g,g∈c↔(S b).car g∨∃r∈rs,(r.how=1∧(S ⟨r.frm,r.last⟩).car g)∨(¬r.how=1∧¬r.how=3∧∃n,r.first≤n∧n≤r.last∧(S ⟨r.frm,n⟩).con g)
 cre:∀g,g∈r↔(S b).cre g∨∃r∈rs,r.how=3∧∃n,r.first≤n∧n≤r.last∧(S ⟨r.frm,n⟩).con g
 og:og=true↔rs=[]∨∃r∈rs,r.how=4
 n0:0≤n
 nz:n=0↔rs=[]
 nb:n≤2+rs.length
theorem WY.step {S:bJ→SS} {b:bJ} {rs:List dZ} {og:Bool} {n:Int} {c r1 c1 c2 r2:List bJ} (h:WY S b rs og n c r1) (q:dZ) (h4:1≤q.how∧q.how≤4)
 (hc1:∀g,g∈c1↔g∈c∨(q.how=1∧(S ⟨q.frm,q.last⟩).car g)) (hc2:∀g,g∈c2↔g∈c1∨((q.how=2∨q.how=4)∧∃m,q.first≤m∧m<q.last+1∧(S ⟨q.frm,m⟩).con g))
 (hr2:∀g,g∈r2↔g∈r1∨(q.how=3∧∃m,q.first≤m∧m<q.last+1∧(S ⟨q.frm,m⟩).con g)):
 WY S b (rs++[q]) (bif decide (q.how=4) then true else(bif decide (n+1=1) then false else og)) (bif decide (q.how=4) then 2 else n+1) c2 r2:=by
 have ex:∀g,(∃m,q.first≤m∧m<q.last+1∧(S ⟨q.frm,m⟩).con g)↔∃m,q.first≤m∧m≤q.last∧(S ⟨q.frm,m⟩).con g:=fun g=>
  ⟨fun⟨m,a1,a2,a3⟩=>⟨m,a1,by omega,a3⟩,fun⟨m,a1,a2,a3⟩=>⟨m,a1,by omega,a3⟩⟩
 have hn0:=h.n0
 have hnz:=h.nz
 have hnb:=h.nb
 refine⟨fun g=>?_,fun g=>?_,?_,?_,?_,?_⟩
 ·have:(q.how=2∨q.how=4)↔(¬q.how=1∧¬q.how=3):=by omega
  rw[hc2 g,hc1 g,h.car g,ex g,this]
  simp only[afs,aft,or_and_right,exists_or,exists_eq_left,or_assoc,and_assoc]
 ·rw[hr2 g,h.cre g,ex g]
  simp only[afs,aft,or_and_right,exists_or,exists_eq_left,or_assoc]
 ·by_cases q4:q.how=4
  ·simp[q4]
  ·rw[ahK q4]
   simp only[cond_false,List.append_eq_nil_iff,List.cons_ne_nil,and_false,false_or,afs,aft,or_and_right,exists_or,exists_eq_left,q4,ajr]
   by_cases e:n=0
   ·have hr:=hnz.1 e
    subst hr
    rw[e];simp
   ·rw[ahK (by omega:¬n+1=1)]
    simp only[cond_false,h.og]
    have:¬rs=[]:=fun hr=>e (hnz.2 hr)
    simp[this]
 ·by_cases q4:q.how=4
  ·simp[q4]
  ·rw[ahK q4];simp only[cond_false];omega
 ·by_cases q4:q.how=4
  ·simp[q4]
  ·rw[ahK q4];simp only[cond_false,List.append_eq_nil_iff,List.cons_ne_nil,and_false,iff_false];omega
 ·by_cases q4:q.how=4
  ·simp[q4];omega
  ·rw[ahK q4];simp only[cond_false,afI,List.length_singleton];omega
theorem agl.step {A:List (bJ×SV)} {d:aW} {k:Nat} (h:agl A (fF d k)) {v:Rev} (hv:d.revs[k]? =some v) (h5:¬v.act=5) (x:SV) (hc:∀g,g∈x.car↔Ld (jF d (fileOf v)) (fF d k) (di v) (fileOf v) g)
 (hn:∀g,g∈x.con↔g∈x.car∧¬(fF d k (di v)).car g) (hr:∀g,g∈x.cre↔((fF d k (di v)).cre g∨∃r∈jF d (fileOf v),r.how=3∧∃n,r.first≤n∧n≤r.last∧(fF d k ⟨r.frm,n⟩).con g)∨g∈x.car):
 agl (eH A (fileOf v) x) (fF d (k+1)):=by
 have hs:fF d (k+1)=fun f=>if f=fileOf v then stepS (jF d (fileOf v)) (fF d k) v else fF d k f:=by simp only[fF,hv,h5,if_false]
 rw[hs]
 refine⟨fun f g=>?_,fun f g=>?_,fun f g=>?_⟩<;>rw[fJ]<;>by_cases e:f=fileOf v
 ·simp only[if_pos e,stepS];exact(hc g).symm
 ·simp only[if_neg e];exact h.car f g
 ·simp only[if_pos e,stepS];rw[←hc g];exact(hn g).symm
 ·simp only[if_neg e];exact h.con f g
 ·simp only[if_pos e,stepS];rw[←hc g,←or_assoc];exact(hr g).symm
 ·simp only[if_neg e];exact h.cre f g
@[reducible] def rB:akK:={data:= #[47,47,109,47,102]}
@[reducible] def rD:akK:={data:= #[47,47,100,47,102]}
@[reducible] def rw1:Rev:=⟨rB,1,1,1,1,false,false,false,0,0,ByteArray.empty,0⟩
@[reducible] def e0:aW:=⟨[rw1],[]⟩
@[reducible] def t0:jo:=⟨1,rB,1,rB,1,1,rD,0,noS,0,noS⟩
@[reducible] def w0:y9:=⟨0,false,false,false,0,0,false⟩
theorem mZ {i:Nat} {v:Rev} (h:e0.revs[i]? =some v):i=0∧v=rw1:=by
 rcases i with _|i
 ·simp at h;exact⟨rfl,h.symm⟩
 ·simp at h
theorem aeM:Good e0.revs:=by
 constructor
 ·intro i v h;obtain⟨rfl,rfl⟩:=mZ h;simp
 ·intro i v h;obtain⟨rfl,rfl⟩:=mZ h;simp
 ·intro i j u v hij hu hv;obtain⟨rfl,rfl⟩:=mZ hu;obtain⟨rfl,rfl⟩:=mZ hv;omega
 ·intro i j u v hij hu hv;obtain⟨rfl,rfl⟩:=mZ hu;obtain⟨rfl,rfl⟩:=mZ hv;omega
 ·intro i v h h1 h4;obtain⟨rfl,rfl⟩:=mZ h;exact absurd rfl h1
 ·intro i v h h4;obtain⟨rfl,rfl⟩:=mZ h;exact absurd h4 (by decide)
 ·intro i v h h4;obtain⟨rfl,rfl⟩:=mZ h;exact absurd h4 (by decide)
 ·intro i j u v hij hu hv u4;obtain⟨rfl,rfl⟩:=mZ hu;exact absurd u4 (by decide)
theorem af0:rM e0:=by
 intro v hv
 simp only[e0,aft] at hv
 subst hv
 decide
theorem agP:eX rD=true:=by kernel_rfl
theorem aeY:Fits e0 t0:=by
 refine⟨by decide,by decide,by decide,?_,agP,by decide,by decide⟩
 intro n h1 h2
 have:n=1:=by simp only[t0] at h1 h2;omega
 subst this
 decide
theorem agS:Qw e0 t0 2 w0= .tup [(false,[.d (.ps 12 ([⟨rD,1,1,false,false,false,0,0,0,noS,0,0⟩].map bK))]),(false,[.d (.ps 6 [af ⟨rB,1,1,rD,1,1⟩])]),pI 0]:=by
 rw[D6 (by simp[mf,aeY]) (by decide) (by decide)]
 have h1:iy e0 t0 2 w0=[⟨rD,1,1,false,false,false,0,0,0,noS,0,0⟩]:=by decide
 have h2:dI e0 t0 2 w0=⟨rB,1,1,rD,1,1⟩:=by decide
 rw[h1,h2]
def z17.kk:=p3 (p16 kB kG kS Tryz.ntmps17 Tryz.underlying28 Tryz.underlying60 iH oG wM qM dM Ea lq mJ jQ pW) (p16 vT kW kQ kT sH Ez Bq BB Bh sK Qs jg fK yB iF nH) (p16 BA nM qU wu mG ny xK FB Au iq QG BP sD wo jB Tryz.results17)
open z17 in
theorem Jv:AC Tryz.prog 17 [] [] (fun r st=>r=B true∧st=[]):=by
 have hR:=xU e0 aeM (by decide) af0 t0 (by decide) (by decide) 2 w0
 rw[agS] at hR
 refine df Tryz.func17 Tryz.ntmps17 fun x hx=>?_
 refine aZ ?_
 refine gg ?_
 refine aZ ?_
 refine gg ?_
 refine aZ ?_
 refine dD (wr:=false) 2 (by simp only[kk,Nat.reduceAdd,Nat.reduceLT,Nat.reduceEqDiff, ↓reduceIte,reduceCtorEq];first|done|rfl) ?_ ?_
 ·exact qP
 refine bC (aY (i:=10) (id:=10) (ys:=e0.revs.map aA) rfl rfl rfl) ?_
 refine fE ?_
 refine gg ?_
 refine aZ ?_
 refine bC (Az (bid:=2) (j:=1) 6 rfl rfl) ?_
 refine fE ?_
 refine gg ?_
 refine aZ ?_
 (repeat (first|refine nv ?_|refine cf (hR) ?_))
 refine dD (wr:=false) 400 (by simp only[kk,Nat.reduceAdd,Nat.reduceLT,Nat.reduceEqDiff, ↓reduceIte,reduceCtorEq,Int.toNat_zero,bK,af,cond_true,show((1:Nat):Int)=1 from rfl];first|done|rfl) ?_ ?_
 ·simp[All,dB,rW,dU,strip]
 try refine nv ?_
 refine rA [] ?_
 refine⟨?_,rfl⟩
 rfl
end
section
open Go.Ab
theorem aev:aG noS=none:=by unfold aG jm hasPrefix;rfl
open Classical in
theorem VV {d:aW} (hg:Good d.revs) (hN:d.revs.length≤512) {v w:Rev} (v5:¬v.act=5) (hl:aU d v.path=some v) (hw:w∈d.revs) (w5:¬w.act=5):∃P:Rev→Bool,mF d (fileOf v) (fileOf w)=some (((line d (first d v)).filter P).map fileOf)∧∀x,P x=true↔Open d (fileOf w) x:=
 ⟨_,ZL hg hN v5 hl hw w5,fun x=>by simp⟩
open Classical in
noncomputable def Zb (d:aW) (m:List fA) (f:bJ):Nat:=
 if ∃t∈xw d m,t.line=f then
  match oV d m (line d f) with
  |some (w,_)=>if w.act=3 then(line d f).length+1 else((mF d (fileOf (agb d f)) (fileOf w)).getD []).length
  |none=>(line d f).length+1
 else 0
section
variable {d:aW} (hD:Pv d) {m:List fA} {t:jo} (ht:t∈xw d m) {v:Rev} (hv:agz d m t v)
include ht
theorem BG (h:oV d m (line d t.line)=none∨∃w q,oV d m (line d t.line)=some (w,q)∧w.act=3):Zb d m t.line=(line d t.line).length+1:=by
 unfold Zb
 rw[if_pos ⟨t,ht,rfl⟩]
 rcases h with h|⟨w,q,h,w3⟩
 ·rw[h]
 ·rw[h];simp only;rw[if_pos w3]
include hv
theorem zT {w:Rev} {q:akK} (h:oV d m (line d t.line)=some (w,q)) (w3:¬w.act=3):Zb d m t.line=((mF d (fileOf v) (fileOf w)).getD []).length:=by
 unfold Zb
 rw[if_pos ⟨t,ht,rfl⟩,h]
 simp only
 rw[if_neg w3,hv.end']
include hD
omit ht in
theorem XV {w:Rev} (hw:w∈d.revs) (w5:¬w.act=5):((mF d (fileOf v) (fileOf w)).getD []).length≤(line d t.line).length:=by
 obtain⟨P,hP,_⟩:=VV hD.good hD.N hv.v5 hv.last hw w5
 rw[hP,hv.fst,Option.getD_some,ae1]
 exact ajy ..
theorem ahn:Zb d m t.line≤(line d t.line).length+1:=by
 cases h:oV d m (line d t.line) with
 |none=>rw[BG ht (.inl h)];omega
 |some x=>
  obtain⟨w,q⟩:=x
  by_cases w3:w.act=3
  ·rw[BG ht (.inr ⟨w,q,h,w3⟩)];omega
  ·rw[zT ht hv h w3]
   obtain⟨t1,t2,_⟩:=xu hD.good h
   have:=XV hD hv (lJ t1).1 t2
   omega
omit hD in
theorem agH:1≤Zb d m t.line:=by
 rcases hv.sort with⟨_,_,_,h⟩|⟨w,q,h⟩
 ·rw[BG ht h];omega
 ·rw[zT ht hv h.tgt h.w3]
  obtain⟨u,_,h2,_⟩:=h.run
  exact List.length_pos_of_mem h2
end
section
variable {d n:aW} (hD:Pv d) {t:jo} {ch:Int} {w:y9} (hR:vH d t ch w) (hk:pG d (dA d t ch w)) (ha:Yj d (dA d t ch w) n)
include hD hR hk ha
theorem mu_step (hDn:Pv n) {m:List fA} (ht:t∈xw d m):Zb n m t.line<Zb d m t.line∧line n t.line=line d t.line:=by
 obtain⟨v,hv⟩:=Xf hD ht
 obtain⟨u,hu⟩:=ae5 hD hR hk ha
 have hs:=PQ hD hR hk ha hu
 have hl:=PZ hD hR hk ha hu hs
 refine⟨?_,hl⟩
 by_cases hx:∃t'∈xw n m,t'.line=t.line
 rotate_left
 ·have:Zb n m t.line=0:=by unfold Zb;rw[if_neg hx]
  have:=agH ht hv
  omega
 obtain⟨t',ht',e'⟩:=hx
 obtain⟨v',hv'⟩:=Xf hDn ht'
 have ev:v'=v:=by
  rw[←hv'.end',←hv.end',e'];unfold agb;rw[hl]
 subst ev
 rcases hv.sort with⟨k1,v3,hto,hbr⟩|⟨w0,q,hM⟩
 ·rw[BG ht hbr]
  have hmv:w.mv=false:=by
   cases h:w.mv with
   |false=>rfl
   |true=>exact absurd k1 (hR.mv h).1
  have hup:u.path=t.to:=by
   rcases hu.sort with⟨_,h,_⟩|⟨h,_⟩
   ·exact h
   ·rw[hmv] at h;cases h
  have htg:=Xn hD hR hk ha hu hv (hto▸hup.symm)
  rw[←e'] at htg⊢
  rw[zT ht' hv' htg (by rw[hu.one.2 k1];decide)]
  have:=XV hDn hv' hu.mem hu.u5
  rw[e',hl] at this
  rw[e'];omega
 ·have k1:=hM.one
  obtain⟨g1,g2,g3⟩:=xu hD.good hM.tgt
  have hw0:dK d t=w0:=by unfold dK;rw[hM.to,g1];rfl
  have htg:∃q',oV n m (line n t.line)=some (u,q'):=by
   cases hmv:w.mv with
   |true=>
    obtain⟨m1,m3,mc,mp,ms,ml,mt⟩:=hR.mv hmv
    have hup:u.path=t.move:=by
     rcases hu.sort with⟨h,_⟩|⟨_,h,_⟩
     ·rw[hmv] at h;cases h
     ·exact h
    have hto:(nG m v'.path).1=u.path:=by
     have hmo:=hM.mov
     unfold S9 at hmo
     split at hmo
     ·rw[hup,hmo]
     ·rw[hmo,aev] at mp;cases mp
    exact⟨_,Xn hD hR hk ha hu hv hto⟩
   |false=>
    have hff:=(LW hD hR hk ha hu).2 k1
    have h0:fileOf ((line d t.line).getD 0 ag)=t.line:=by
     have hpos:0<(line d t.line).length:=by rw[←hv.fst];exact EZ (lJ hv.last).1 hv.v5
     refine xG hD.good hD.N (f:=t.line) (u:=(line d t.line).getD 0 ag) ?_
     rw[←mY hD.good hD.N];exact getD_at hpos
    have:=JH hD hR hk ha hu (m:=m) hmv k1 (ln:=line d t.line) (by rw[h0,←hff];exact hs) (line d t.line).length
    have hM2:xh d m (line d t.line) (line d t.line).length=some (w0,q):=hM.tgt
    rw[hM2] at this
    refine⟨q,?_⟩
    rw[hl]
    unfold oV
    rw[this];simp[hw0]
  obtain⟨q',htg⟩:=htg
  have hnu:¬u.act=3:=by
   intro u3
   have v3:=hM.del (hu.del u3)
   rw[←e'] at htg
   rcases hv'.sort with⟨_,h,_⟩|⟨w1,q1,h1⟩
   ·exact h v3
   ·have:=h1.tgt
    rw[htg] at this
    cases this
    exact h1.w3 u3
  rw[zT ht hv hM.tgt hM.w3]
  have e2:Zb n m t.line=((mF n (fileOf v') (fileOf u)).getD []).length:=by
   rw[←e'] at htg⊢
   exact zT ht' hv' htg hnu
  rw[e2]
  obtain⟨P,hP,hPo⟩:=VV hDn.good hDn.N hv'.v5 hv'.last hu.mem hu.u5
  obtain⟨Q,hQ,hQo⟩:=VV hD.good hD.N hv.v5 hv.last (lJ g1).1 g2
  rw[hP,hQ,Option.getD_some,Option.getD_some,ae1,ae1,hv'.fst,hv.fst,e',hl]
  refine filter_lt ?_ ?_
  ·intro x hx hp
   rw[hQo,←hw0]
   have:=(hPo x).1 hp
   rw[←hu.file] at this
   exact abI hD hR hk ha k1 (lV.1 hx).1 this
  ·obtain⟨u0,a1,a2,a3,a4,a5⟩:=hM.run
   refine⟨u0,a1,?_,?_⟩
   ·have h2:fileOf u0∈(mF d (fileOf v') (fileOf w0)).getD []:=a2
    rw[hQ,Option.getD_some,hv.fst] at h2
    obtain⟨y,y1,y2⟩:=agh.1 h2
    obtain⟨y1,y3⟩:=ahI.1 y1
    rw[←abQ hD.good _ y y1 u0 a1 y2];exact y3
   ·cases h:P u0 with
    |false=>rfl
    |true=>
     exfalso
     have:=(hPo u0).1 h
     rw[←hu.file] at this
     exact UW hD hR hk ha (lV.1 a1).1 a3 a4 a5 this
end
end
end Go.Proofs.YtcpgicfphakdaaaGreatDoor
