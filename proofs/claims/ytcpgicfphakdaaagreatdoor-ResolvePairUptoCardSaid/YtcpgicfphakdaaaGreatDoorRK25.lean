/- A part of the proof. -/
import Derived.Test.YtcpgicfphakdaaaGreatDoorRK19
import Derived.Test.YtcpgicfphakdaaaGreatDoorRX19
set_option linter.all false
namespace Go.Proofs.YtcpgicfphakdaaaGreatDoor
section
open Go.Ab Tys
variable [zg]
theorem afH (l:List Bool) (i:Nat):((l.map eB).getD i []).getD 0 (D.v (.bool false))=D.v (.bool (l.getD i false)):=by
 simp only[adI,ag5]
 cases l[i]?<;>rfl
structure LnX (d:aW) (L:jA) (me:List (Int×List Int)) (i0:Nat) (v0:Rev) (is:List Nat):Prop where
 get:d.revs[i0]? =some v0
 n5:¬v0.act=5
 ix:UG d L me (first d v0) (L.fst.getD i0 0) is
 last:is[is.length-1]? =some i0
 pos:0<is.length
section
variable {d:aW} {L:jA} {la:List (akK×Int)} {me:List (Int×List Int)} (hX:LX d L la me) {i0:Nat} {v0:Rev} {is:List Nat} (hx:LnX d L me i0 v0 is)
include hX hx
theorem LnX.mem:∀x∈is.map (fun j:Nat=>(j:Int)),0≤x∧x<(L.revs.length:Int)∧∃l,L.con.getD x.toNat none=some l:=by
 have hI:=hX.run.inv hX.good
 intro x hm
 obtain⟨y,hy,rfl⟩:=agh.1 hm
 have hyl:=hx.ix.lt y hy
 obtain⟨c,m,cr,_,hc,_⟩:=hI.sets y _ hyl (jU hyl) (hx.ix.act y hy)
 refine⟨by omega,by rw[hI.revs];omega,m,by rw[Int.toNat_natCast];exact hc⟩
theorem LnX.rem {j:Nat} {w:Rev} (hw:d.revs[j]? =some w) (w5:¬w.act=5):AC Tryz.prog 42 [.c (.pp (uw L la me)),I .i64 i0,I .i64 j] []
 (fun r st=>r= .tup [(false,[.d (.ps 1 ((is.map fun j:Nat=>(j:Int)).map eI))]),(false,[.d (.ps 1 ((is.map fun e:Nat=>jh L (j:Int) (e:Int)).map eB))])]∧st=[]):=by
 have hg:=hX.good
 have hI:=hX.run.inv hg
 have hL:zi L:=⟨by rw[hI.revs];exact hX.len,by rw[hI.lp,hI.revs],by rw[hI.lf,hI.revs],by rw[hI.lc,hI.revs],by rw[hI.lo,hI.revs],by rw[hI.lr,hI.revs],fun p i h=>by
  obtain⟨j,v,rfl,h1,h2,h3⟩:=(hI.ix p i).1 h
  rw[hI.revs];omega⟩
 have hi:=(adK.1 hx.get).1
 have hj:=(adK.1 hw).1
 obtain⟨c,m,cr,_,_,hcr⟩:=hI.sets j w hj hw w5
 have hl:=hx.ix.len
 have h:=CE L hL la me i0 j ⟨by omega,by rw[hI.revs];omega⟩ ⟨by omega,by rw[hI.revs];omega⟩ (is.map fun j:Nat=>(j:Int)) (by rw[Int.toNat_natCast];exact hx.ix.me) (hx.mem hX) ⟨cr,by rw[Int.toNat_natCast];exact hcr⟩ (by rw[ae1];omega)
 have e:(is.map fun j:Nat=>(j:Int)).map (jh L (j:Int))=is.map fun e:Nat=>jh L (j:Int) (e:Int):=by rw[ajM];rfl
 rw[upto_all hx.ix.ord hx.last,e] at h
 exact h
theorem LnX.fst:∃(r:Nat) (w:Rev),L.fst.getD i0 0=(r:Int)∧d.revs[r]? =some w∧fileOf w=first d v0∧(L.revs.map aA).getD r []=aA w∧(r:Int)<(L.revs.length:Int):=by
 have hg:=hX.good
 have hI:=hX.run.inv hg
 obtain⟨r,w,a1,a2,a3⟩:=AY hg hX.len hI (i0+1) i0 v0 (by omega) hx.get hx.n5
 have hr:=(adK.1 a2).1
 have e:=bH aA L.revs r ag (by rw[hI.revs];exact hr)
 rw[hI.revs,nK a2,←hI.revs] at e
 exact⟨r,w,a1,a2,a3.symm,e,by rw[hI.revs];omega⟩
end
@[reducible] def ag3 (wi:Int) (q pl:akK):AV:= .agg (Ol wi q pl)
@[reducible] def ahz (f:bJ) (v w:Rev) (k ls:Int) (bp:akK) (bn:Int) (mv:akK):jo:=⟨k,f.path,f.num,v.path,v.num,ls,w.path,w.num,bp,bn,mv⟩
def z75.kk:=p4 (p13 kB kG kS Tryz.ntmps75 Tryz.underlying32 Tryz.underlying55 VY oG wM dM Tu vG PH) (p13 jQ UZ uf LC Rk SH sH Ez Bq BB Bh sK Es) (p13 aeU xO jg fK iF IG vS Bd vP Yb abz qU mG) (p11 aew xK FB IP iq DU aeI abG jB Em Tryz.results75)
set_option maxRecDepth 100000 in
set_option maxHeartbeats 32000000 in
open z75 in
theorem acd (d:aW) (L:jA) (la:List (akK×Int)) (me:List (Int×List Int)) (hX:LX d L la me) (m:List fA) (i0:Nat) (v0:Rev) (is:List Nat) (hx:LnX d L me i0 v0 is) (jw:Nat) (w:Rev) (hw:d.revs[jw]? =some w) (w5:¬w.act=5) (hlw:aU d w.path=some w) (t q pl mv:akK)
 (hmv:mv=if ¬q=v0.path∧pl=w.path∧¬t=w.path∧live d t=false then t else noS):
 AC Tryz.prog 75 [adY L la me m,I .i64 i0,Str t,ag3 jw q pl] [] (fun r st=>r=aaG (zF (first d v0) ((mF d (fileOf v0) (fileOf w)).getD []) (line d (first d v0)) w mv 0)∧st=[]):=by
 have hg:=hX.good
 have hI:=hX.run.inv hg
 have hrl:L.revs=d.revs:=hI.revs
 have hi0:=(adK.1 hx.get).1
 have hjw:=(adK.1 hw).1
 have hrem:=hx.rem hX hw w5
 have hopen:=fun {e:Nat}=>aaz hg hX.len hX.run hx.get hx.n5 hw w5 hx.ix hx.last (e:=e)
 obtain⟨r0,wr,f1,f2,f3,f4,f5⟩:=hx.fst hX
 have hfo:=xC wr
 rw[f3] at hfo
 have hlv:=UR d (by omega) L hrl la me hX.la t
 have hhd:=QZ d (by omega) L hrl la me hX.la w.path
 have hlw2:bf d w.path=w.num:=by unfold bf;rw[hlw];rfl
 rw[hlw2] at hhd
 have hln:=hx.ix.ln
 have hlen:=hx.ix.len
 have hlg:∀j,j<is.length→(line d (first d v0)).getD j ag=atR d (is.getD j 0):=fun j hj=>by
  rw[hln,adI,ag5,getD_at hj];rfl
 have hll:(line d (first d v0)).length=is.length:=by rw[hln,ae1]
 have hsk:=fun i=> @Zf (first d v0) ((mF d (fileOf v0) (fileOf w)).getD []) (line d (first d v0)) w mv i
 have hrn:=fun i=> @aaI (first d v0) ((mF d (fileOf v0) (fileOf w)).getD []) (line d (first d v0)) w mv i
 have hen:= @adC (first d v0) ((mF d (fileOf v0) (fileOf w)).getD []) (line d (first d v0)) w mv is.length (by omega)
 have hes:=fun p i=> @YV ((mF d (fileOf v0) (fileOf w)).getD []) (line d (first d v0)) p i
 have het:=fun p i=> @Zr ((mF d (fileOf v0) (fileOf w)).getD []) (line d (first d v0)) p i
 have hpv:=fun j=>hx.ix.pv (j:=j)
 have hia:∀j,j<is.length→is.getD j 0<d.revs.length:=fun j hj=>hx.ix.lt _ (aem (getD_at hj))
 have hM:(zF (first d v0) ((mF d (fileOf v0) (fileOf w)).getD []) (line d (first d v0)) w mv 0).length≤is.length:=by rw[←hll];exact EH ..
 have hOp:∀j,j<is.length→((is.map fun e:Nat=>jh L (jw:Int) (e:Int)).getD j false=true↔fileOf ((line d (first d v0)).getD j ag)∈(mF d (fileOf v0) (fileOf w)).getD []):=fun j hj=>by
  rw[hlg j hj,←hopen (aem (getD_at hj)),adI,ag5,getD_at (z:=0) hj];rfl
 have hOl:(is.map fun e:Nat=>jh L (jw:Int) (e:Int)).length=is.length:=ae1 ..
 have hMl:(is.map fun j:Nat=>(j:Int)).length=is.length:=ae1 ..
 have hix:∀j,0≤(is.map fun j:Nat=>(j:Int)).getD j 0∧(is.map fun j:Nat=>(j:Int)).getD j 0<(L.revs.length:Int):=fun j=>by
  rw[adI,ag5]
  cases h:is[j]? with
  |none=>simp;rw[hrl];omega
  |some x=>have:=hx.ix.lt x (aem h);simp;rw[hrl];omega
 have hixe:∀j,j<is.length→(is.map fun j:Nat=>(j:Int)).getD j 0=((is.getD j 0:Nat):Int):=fun j hj=>by
  rw[adI,ag5,getD_at (z:=0) hj];rfl
 have erw_:=bH aA L.revs jw ag (by rw[hrl];exact hjw)
 rw[hrl,nK hw,←hrl] at erw_
 have hjw2:(jw:Int)<(L.revs.length:Int):=by rw[hrl];omega
 have ei0:=bH aA L.revs i0 ag (by rw[hrl];exact hi0)
 rw[hrl,nK hx.get,←hrl] at ei0
 have hi02:(i0:Int)<(L.revs.length:Int):=by rw[hrl];omega
 have hpl:L.prev.length=L.revs.length:=by rw[hI.lp,hrl]
 have hfl:L.fst.length=L.revs.length:=by rw[hI.lf,hrl]
 have hi03:(i0:Int)<(L.fst.length:Int):=by rw[hfl];exact hi02
 have hrg:∀j,j<is.length→L.revs.getD (is.getD j 0) ag=(line d (first d v0)).getD j ag:=fun j hj=>by rw[hlg j hj,hrl];rfl
 generalize (mF d (fileOf v0) (fileOf w)).getD []=rest at*
 generalize line d (first d v0)=ln at*
 generalize first d v0=f at*
 generalize hMM:zF f rest ln w mv 0=MM at hM
 generalize (is.map fun e:Nat=>jh L (jw:Int) (e:Int))=O at*
 generalize hms:(is.map fun j:Nat=>(j:Int))=ms at hrem hMl hix hixe
 generalize live d t=lv at hlv hmv
 refine df Tryz.func75 Tryz.ntmps75 fun x hx=>?_
 try refine nv ?_
 refine adW Z9 ?_
 refine aZ ?_
 refine dx ([]) @erw_ ?_ ?_
 ·exact qP
 try refine nv ?_
 refine dx ([(56,B lv)]) @ei0 ?_ ?_
 ·exact eQ @hlv
 refine aZ ?_
 refine nZ ⟨193,[(1,I .i64 i0),(4, .c (.ptr 4 0)),(7, .c (.ptr 7 0)),(9,Str w.path),(10,Str mv)],[(4, .box [.pp (uw L la me), .d (.ps 5 (m.map fV))]),(7, .box (Ol jw q pl))]⟩ ?_ ?_
 ·refine aj ?_ ?_
  ·intro h
   have h':¬q=v0.path∧pl=w.path∧¬t=w.path∧lv=false:=by
    by_cases a:q=v0.path<;>by_cases b:w.path=pl<;>by_cases c:t=w.path<;>cases lv<;>simp_all
   rw[if_pos h'] at hmv
   subst hmv
   try refine nv ?_
   refine⟨rfl,?_⟩
   exact bQ
  ·intro h
   have h':¬(¬q=v0.path∧pl=w.path∧¬t=w.path∧lv=false):=by
    rintro⟨a,b,c,rfl⟩
    subst b
    simp[a,c] at h
   rw[if_neg h'] at hmv
   subst hmv
   try refine nv ?_
   refine⟨rfl,?_⟩
   exact bQ
 clear hlv hmv erw_ ei0
 (repeat (first|refine nv ?_|refine cf (hrem) ?_))
 refine aed ?_
 refine aZ ?_
 refine mQ (kH (i:=11) (id:=100) (sz:=11) rfl rfl (by omega)) ?_
 refine fE ?_
 refine au (ι:=Nat×List jo) (I:=fun i=>⟨193,[(1,I .i64 i0),(4, .c (.ptr 4 0)),(9,Str w.path),(10,Str mv),(11, .c (.ms 100 11 0 i.2.length)),(12, .c (.d (.ps 1 (ms.map eI)))),(13, .c (.d (.ps 1 (O.map eB)))),(14,I .i64 i.1)],[(4, .box [.pp (uw L la me), .d (.ps 5 (m.map fV))]),(100,ay 11 (i.2.map ik))]⟩)
  (Inv:=fun i=>i.1≤is.length∧i.2++zF f rest ln w mv i.1=MM) (μ:=fun i=>is.length-i.1) (0,[]) ⟨by simp,by simpa using hMM⟩ ?_ ?_
 ·exact bQ
 rintro⟨i1,Q⟩ ⟨q1,q2⟩
 simp only at q1 q2⊢
 have hQl:Q.length≤1000000:=by
  have h1:Q.length≤MM.length:=by rw[←q2];simp
  omega
 refine aZ ?_
 refine au (ι:=Nat) (I:=fun k=>⟨193,[(1,I .i64 i0),(4, .c (.ptr 4 0)),(9,Str w.path),(10,Str mv),(11, .c (.ms 100 11 0 Q.length)),(12, .c (.d (.ps 1 (ms.map eI)))),(13, .c (.d (.ps 1 (O.map eB)))),(14,I .i64 k)],[(4, .box [.pp (uw L la me), .d (.ps 5 (m.map fV))]),(100,ay 11 (Q.map ik))]⟩)
  (Inv:=fun k=>i1≤k∧k≤is.length∧Q++zF f rest ln w mv k=MM) (μ:=fun k=>is.length-k) i1 ⟨afJ _,q1,q2⟩ ?_ ?_
 ·exact bQ
 rintro k ⟨k0,k1,k2⟩
 try refine nv ?_
 refine aj ?_ ?_
 ·intro hh
  have hk':k=is.length:=by have:=agw hh;omega
  rw[hk',hen,ajt] at k2
  subst k2
  refine aZ ?_
  refine bC (aY (i:=11) (id:=100) (ys:=Q.map ik) rfl rfl (by simp)) ?_
  refine fE ?_
  try refine nv ?_
  refine rA [] ?_
  refine⟨?_,rfl⟩
  rfl
 intro hh
 have hkl:k<is.length:=by have:=ajJ hh;omega
 have hOk:=hOp k hkl
 try refine nx (afH O) ?_
 refine aj ?_ ?_
 rotate_left
 ·intro ho
  have hni:¬fileOf (ln.getD k ag)∈rest:=fun h=>by rw[hOk.2 h] at ho;cases ho
  try refine nv ?_
  refine⟨k+1,⟨by omega,by omega,by rw[←hsk k (by omega) hni];exact k2⟩,by omega,?_⟩
  exact bQ
 intro ho
 have hin:=hOk.1 ho
 have hru:=hrn k (by omega) hin
 have hxl:=hia k hkl
 have hxe:=hixe k hkl
 have emk:=FP ms k
 rw[hxe] at emk
 have hrk:=hrg k hkl
 have erx:=bH aA L.revs (is.getD k 0) ag (by rw[hrl];exact hxl)
 rw[hrk] at erx
 have epx:=FP L.prev (is.getD k 0)
 rw[hpv k hkl] at epx
 have efx:=FP L.fst i0
 rw[f1] at efx
 have hxl2:((is.getD k 0:Nat):Int)<(L.revs.length:Int):=by rw[hrl];omega
 have hxl3:((is.getD k 0:Nat):Int)<(L.prev.length:Int):=by rw[hpl];exact hxl2
 have hkm:(k:Int)<(ms.length:Int):=by omega
 have hgk:ln.getD k ag=ln.getD k ag:=rfl
 generalize hvk:ln.getD k ag=v at erx hin hru hgk
 generalize is.getD k 0=xk at emk erx epx hxl2 hxl3
 have hbs:∀j,runT f ln w mv k j=⟨if(ln.getD j ag).act=3 then 3 else 2,f.path,f.num,v.path,v.num,(ln.getD j ag).num,w.path,w.num,bsP ln k,bsN ln k,mv⟩:=fun j=>by
  unfold runT bsP bsN;rw[hvk]
 rw[hru] at k2
 refine aZ ?_
 refine dx ([]) (p2 @emk @erx) ?_ ?_
 ·exact qP
 refine aZ ?_
 refine dx ([(106,BO f),(115,I .i64 w.num)]) (p2 @efx @f4) ?_ ?_
 ·exact ob2 @hfo @hhd
 refine aZ ?_
 refine dx ([]) (p2 @emk @epx) ?_ ?_
 ·exact qP
 try refine nv ?_
 refine nZ ⟨193,[(1,I .i64 i0),(4, .c (.ptr 4 0)),(9,Str w.path),(10,Str mv),(11, .c (.ms 100 11 0 Q.length)),(12, .c (.d (.ps 1 (ms.map eI)))),(13, .c (.d (.ps 1 (O.map eB)))),(14,I .i64 k),(15, .c (.ptr 15 0)),(16, .c (.ptr 16 0)),(17, .c (.ptr 17 0))],
  [(4, .box [.pp (uw L la me), .d (.ps 5 (m.map fV))]),(15, .box ((aA v).map C.d)),(16, .box ((aA v).map C.d)),(17, .box ((ik (ahz f v w 2 0 (bsP ln k) (bsN ln k) mv)).map C.d)),(100,ay 11 (Q.map ik))]⟩ ?_ ?_
 ·refine aj ?_ ?_
  ·intro h0
   obtain⟨k',rfl⟩:∃k',k=k'+1:=by
    cases k with
    |zero=>simp[BM] at h0
    |succ k'=>exact⟨k',rfl⟩
   have hrk2:=hrg k' (by omega)
   have hxl4:=hia k' (by omega)
   have ery:=bH aA L.revs (is.getD k' 0) ag (by rw[hrl];exact hxl4)
   rw[hrk2] at ery
   have hbp:bsP ln (k'+1)=(ln.getD k' ag).path:=by rw[bsP,if_pos (by omega)];rfl
   have hbn:bsN ln (k'+1)=(ln.getD k' ag).num:=by rw[bsN,if_pos (by omega)];rfl
   have hxl5:((is.getD k' 0:Nat):Int)<(L.revs.length:Int):=by rw[hrl];omega
   simp only[BM]
   obtain⟨y,hy⟩:∃y,y=ln.getD k' ag:=⟨_,rfl⟩
   rw[←hy] at ery hbp hbn
   (repeat (first|refine nx @ery ?_|refine cf (xC y) ?_))
   refine⟨rfl,?_⟩
   (refine bi (fun i=>i) rfl ?_ ⟨?_,?_,?_,bW hx (by simp[ae,Ab.get])⟩<;>first|(simp only[kE,ay, ↓reduceIte,Nat.reduceEqDiff,reduceCtorEq,hbp,hbn,fileOf];done)|simp[aH,ax,ah,Ab.get,aJ,cZ,aB,bF,aS,aO,aQ,aT,aP,ae,List.flatten,hbp,hbn,fileOf])
  ·intro h0
   have hk0:k=0:=by
    cases k with
    |zero=>rfl
    |succ k'=>simp[BM] at h0<;>omega
   subst hk0
   have hbp:bsP ln 0=noS:=rfl
   have hbn:bsN ln 0=0:=rfl
   try refine nv ?_
   refine⟨rfl,?_⟩
   exact Dc (p3 @hbp @hbn @emptyS)
 generalize bsP ln k=bp at hbs
 generalize bsN ln k=bn at hbs
 refine aZ ?_
 refine au (ι:=Nat) (I:=fun c=>⟨193,[(1,I .i64 i0),(4, .c (.ptr 4 0)),(9,Str w.path),(10,Str mv),(11, .c (.ms 100 11 0 Q.length)),(12, .c (.d (.ps 1 (ms.map eI)))),(13, .c (.d (.ps 1 (O.map eB)))),(14,I .i64 c),(15, .c (.ptr 15 0)),(16, .c (.ptr 16 0)),(17, .c (.ptr 17 0))],
  [(4, .box [.pp (uw L la me), .d (.ps 5 (m.map fV))]),(15, .box ((aA v).map C.d)),(16, .box ((aA (ln.getD (if k<c then c-1 else k) ag)).map C.d)),(17, .box ((ik (ahz f v w 2 0 bp bn mv)).map C.d)),(100,ay 11 (Q.map ik))]⟩)
  (Inv:=fun c=>k≤c∧c≤is.length∧uD rest ln v.path k=uD rest ln v.path (if k<c then c-1 else k)) (μ:=fun c=>is.length-c) k ⟨afJ _,by omega,by rw[if_neg (by omega)]⟩ ?_ ?_
 ·rw[if_neg (by omega:¬k<k),hvk]
  exact bQ
 rintro c ⟨c1,c2,c3⟩
 have hC:(bif bif decide ((c:Int)<(ms.length:Int)) then O.getD c false else false then decide ((L.revs.getD (ms.getD c 0).toNat ag).path=v.path) else false)=decide (c<is.length∧fileOf (ln.getD c ag)∈rest∧(ln.getD c ag).path=v.path):=by
  by_cases hc:c<is.length
  ·have a:=hOp c hc
   have b:=hixe c hc
   have e:=hrg c hc
   rw[ajk (by omega:(c:Int)<(ms.length:Int)),cond_true,b,Int.toNat_natCast,e]
   cases ho:O.getD c false with
   |false=>
    have hn:¬fileOf (ln.getD c ag)∈rest:=fun h=>by rw[a.2 h] at ho;cases ho
    exact(ahK fun h=>hn h.2.1).symm
   |true=>exact ajs.2 ⟨fun h=>⟨hc,a.1 ho,h⟩,fun h=>h.2.2⟩
  ·rw[ahK (by omega:¬(c:Int)<(ms.length:Int))]
   exact(ahK fun h=>hc h.1).symm
 have hxc:=hix c
 generalize hy:ln.getD (if k<c then c-1 else k) ag=y
 refine aZ ?_
 refine dx ([]) (p3 (afH O) (FP ms) (abu L.revs)) ?_ ?_
 ·exact qP
 refine aZ ?_
 refine aj ?_ ?_
 ·intro hq
  rw[hC] at hq
  obtain⟨r1,r2,r3⟩:=agw hq
  have hxce:=hixe c r1
  have emc:=FP ms c
  rw[hxce] at emc
  have hrc:=hrg c r1
  have hxcl:=hia c r1
  have erc:=bH aA L.revs (is.getD c 0) ag (by rw[hrl];exact hxcl)
  rw[hrc] at erc
  have hxc2:((is.getD c 0:Nat):Int)<(L.revs.length:Int):=by rw[hrl];omega
  have hcm:(c:Int)<(ms.length:Int):=by omega
  have e9:(if k<c+1 then c+1-1 else k)=c:=by rw[if_pos (by omega)];rfl
  have hnx:uD rest ln v.path k=uD rest ln v.path c:=by
   by_cases h:k<c
   ·rw[if_pos h] at c3
    rw[c3,hes v.path (c-1) (by rw[show c-1+1=c by omega];exact⟨by omega,r2,r3⟩),show c-1+1=c by omega]
   ·rw[show c=k by omega]
  generalize is.getD c 0=xc at emc erc hxc2
  refine aZ ?_
  refine dx ([]) (p2 @emc @erc) ?_ ?_
  ·exact qP
  try refine nv ?_
  refine⟨c+1,⟨by omega,by omega,by rw[e9];exact hnx⟩,by omega,?_⟩
  rw[e9]
  exact bQ
 intro hq
 rw[hC] at hq
 have hq:=ajJ hq
 have hkc:k<c:=by
  rcases ajE k c with h|h
  ·exact h
  ·exfalso
   have e:c=k:=by omega
   subst e
   exact hq ⟨hkl,by rw[hvk];exact hin,by rw[hvk]⟩
 rw[if_pos hkc] at c3 hy
 have hstop:=het v.path (c-1) (by rw[show c-1+1=c by omega];rintro⟨a,b⟩;exact hq ⟨by omega,b⟩)
 rw[hstop] at c3
 rw[c3,hbs,hy,show c-1+1=c by omega] at k2
 try refine nv ?_
 refine aj ?_ ?_
 ·intro h3
  have h3':y.act=3:=by simpa using h3
  rw[if_pos h3'] at k2
  try refine nv ?_
  refine⟨(c,Q++[⟨3,f.path,f.num,v.path,v.num,y.num,w.path,w.num,bp,bn,mv⟩]),⟨by simp;omega,by rw[←k2,ahJ];rfl⟩,by simp;omega,?_⟩
  exact uZ (fun i=>if i=100 then 191 else i)
 ·intro h3
  have h3':¬y.act=3:=by simpa using h3
  rw[if_neg h3'] at k2
  try refine nv ?_
  refine⟨(c,Q++[⟨2,f.path,f.num,v.path,v.num,y.num,w.path,w.num,bp,bn,mv⟩]),⟨by simp;omega,by rw[←k2,ahJ];rfl⟩,by simp;omega,?_⟩
  exact uZ (fun i=>if i=100 then 191 else i)
end
section
open Go.Ab Tys
variable [zg]
section
variable {d:aW} {L:jA} {la:List (akK×Int)} {me:List (Int×List Int)} (hX:LX d L la me) {i0:Nat} {v0:Rev} {is:List Nat} (hx:LnX d L me i0 v0 is)
include hX hx
theorem LnX.agJ {j:Nat} (hj:j<is.length):(line d (first d v0)).getD j ag=atR d (is.getD j 0):=by
 rw[hx.ix.ln,adI,ag5,getD_at hj];rfl
theorem LnX.stay {j:Nat} (hj:j<is.length) (p:akK):(bif decide (0≤BM is j) then decide ((L.revs.getD (BM is j).toNat ag).path=p) else false)=decide (0<j∧((line d (first d v0)).getD (j-1) ag).path=p):=by
 have hI:=hX.run.inv hX.good
 cases j with
 |zero=>simp[BM]
 |succ j'=>
  have h2:=hx.agJ hX (j:=j') (by omega)
  have:(0:Int)≤BM is (j'+1):=by simp only[BM];omega
  rw[ajk this,cond_true,akb,h2,hI.revs]
  simp only[BM,Int.toNat_natCast]
  exact ajs.2 ⟨fun h=>⟨by omega,h⟩,fun h=>h.2⟩
theorem LnX.ZK (p:akK) (hp:v0.path=p):Go.Proofs.YtcpgicfphakdaaaGreatDoor.ZK p (line d (first d v0)) (line d (first d v0)).length v0.num=((line d (first d v0)).getD (stF (line d (first d v0)) p (is.length-1)) ag).num:=by
 have hp0:=hx.pos
 have hll:(line d (first d v0)).length=is.length:=by rw[hx.ix.ln,ae1]
 have e:(line d (first d v0)).getD (is.length-1) ag=v0:=by
  rw[hx.agJ hX (by omega),nK hx.last,KF hx.get]
 have h1:=acQ (p:=p) (ln:=line d (first d v0)) (k:=is.length-1) (by omega) (by rw[e];exact hp)
 rw[e] at h1
 have h2:=aa2 hX.good hX.len hX.frm (f:=first d v0) (p:=p) (is.length-1) (by omega) (by rw[e];exact hp)
 rw[e] at h2
 rw[h1,h2]
end
def z27.kk:=p3 (MP kB kG kS Tryz.ntmps27 VY oG wM dM Tu vG jQ UZ uf LC) (MP sH Ez Bq BB Bh sK Es jg fK iF IG vS Bd vP) (p13 abz qU mG aew xK FB iq DU aeI abG jB Em Tryz.results27)
set_option maxRecDepth 100000 in
set_option maxHeartbeats 32000000 in
open z27 in
theorem Z4 (d:aW) (L:jA) (la:List (akK×Int)) (me:List (Int×List Int)) (hX:LX d L la me) (m:List fA) (hm:MX m) (i0:Nat) (v0:Rev) (is:List Nat) (hx:LnX d L me i0 v0 is) (hlp:aU d v0.path=some v0) (t:akK) (hby:nG m v0.path=(t,true)):
 AC Tryz.prog 27 [adY L la me m,I .i64 i0,Str t] [] (fun r st=>r=aaG (rC d m v0.path)∧st=[]):=by
 have hg:=hX.good
 have hI:=hX.run.inv hg
 have hrl:L.revs=d.revs:=hI.revs
 have hi0:=(adK.1 hx.get).1
 have hon:¬((nG m v0.path).2=false∨v0.act=5):=by rw[hby];rintro(h|h);cases h;exact hx.n5 h
 have hbr:=fun h=>aeO hlp hon h
 have hmg:=fun w q h1 h2=>abO (w:=w) (q:=q) hlp hon h1 h2
 have hbrT:brT d v0.path (nG m v0.path).1 v0=brX (first d v0) v0.path (ZK v0.path (line d (first d v0)) (line d (first d v0)).length v0.num) v0.num (nG m v0.path).1 (bf d (nG m v0.path).1):=rfl
 rw[hx.ZK hX _ rfl] at hbrT
 rw[hbrT] at hbr
 have hmvd:∀w q,S9 d m v0.path (nG m v0.path).1 w q=if ¬q=v0.path∧(nG m q).1=w.path∧¬(nG m v0.path).1=w.path∧live d (nG m v0.path).1=false then(nG m v0.path).1 else noS:=fun w q=>rfl
 rw[hby] at hbr hmg hmvd
 simp only at hbr hmg hmvd
 have htg:=Vz d L la me hX m hm i0 v0 hx.get hx.n5 is hx.ix hx.last hx.pos
 have hrn:=fun jw w h1 h2 h3 q=>acd d L la me hX m i0 v0 is hx jw w h1 h2 h3 t q (nG m q).1 (S9 d m v0.path t w q) (hmvd w q)
 have hlv:=UR d (by omega) L hrl la me hX.la t
 have hhd:=QZ d (by omega) L hrl la me hX.la t
 obtain⟨r0,wr,f1,f2,f3,f4,f5⟩:=hx.fst hX
 have hfo:=xC wr
 rw[f3] at hfo
 have ei0:=bH aA L.revs i0 ag (by rw[hrl];exact hi0)
 rw[hrl,nK hx.get,←hrl] at ei0
 have hi02:(i0:Int)<(L.revs.length:Int):=by rw[hrl];omega
 have hfl:L.fst.length=L.revs.length:=by rw[hI.lf,hrl]
 have hpl:L.prev.length=L.revs.length:=by rw[hI.lp,hrl]
 have hi03:(i0:Int)<(L.fst.length:Int):=by rw[hfl];exact hi02
 have hi04:(i0:Int)<(L.prev.length:Int):=by rw[hpl];exact hi02
 have h0l:(0:Int)<(L.revs.length:Int):=by rw[hrl];omega
 have hrem:=fun {j:Nat} {w:Rev} h1 h2=>hx.rem hX (j:=j) (w:=w) h1 h2
 have hnil:=fun {j:Nat} {w:Rev} h1 h2=>aaB hg hX.len hX.run hx.get hx.n5 h1 h2 hx.ix hx.last (j:=j) (w:=w)
 have hres:∀w q,zS d (fileOf v0) (some (w,q))=(mF d (fileOf v0) (fileOf w)).getD []:=fun _ _=>rfl
 have hres0:zS d (fileOf v0) none=[]:=rfl
 have hlen:=hx.ix.len
 have hp0:=hx.pos
 have hlAt:=fun {j:Nat} h=>hx.agJ hX (j:=j) h
 have hstay:=fun {j:Nat} h p=>hx.stay hX (j:=j) h p
 have hpv:=fun {j:Nat} h=>hx.ix.pv (j:=j) h
 have hia:∀j,j<is.length→is.getD j 0<d.revs.length:=fun j hj=>hx.ix.lt _ (aem (getD_at hj))
 have hpvl:=fun {j:Nat} h=>adA (is:=is) (n:=d.revs.length) hia (j:=j) h (by omega)
 have hlast:is.getD (is.length-1) 0=i0:=nK hx.last
 have hv0e:(line d (first d v0)).getD (is.length-1) ag=v0:=by rw[hlAt (by omega),hlast,KF hx.get]
 generalize rC d m v0.path=R at hbr hmg
 generalize oV d m (line d (first d v0))=tg at htg hbr hmg
 clear hmvd
 generalize live d t=lv at hlv hbr
 generalize bf d t=hd at hhd hbr
 generalize hfn:((line d (first d v0)).getD (stF (line d (first d v0)) v0.path (is.length-1)) ag).num=fn at hbr
 refine df Tryz.func27 Tryz.ntmps27 fun x hx=>?_
 try refine nv ?_
 refine nJ [] (htg) ?_
 rintro r st' ⟨⟨wi,q,pl,hT,rfl⟩,rfl⟩<;>refine nP ?_
 have hq0:∀pv:Int,pv<(L.revs.length:Int)→decide (0≤pv)=true→0<((L.revs.map aA).getD pv.toNat []).length:=fun pv h1 h=>by
  have h0:=agw h
  rw[bH aA L.revs pv.toNat ag (by omega)];simp
 have hrl2:L.revs.length=d.revs.length:=by rw[hrl]
 have e8:BM is is.length=(i0:Int):=by
  obtain⟨n,hn⟩:∃n,is.length=n+1:=⟨is.length-1,by omega⟩
  rw[hn,BM]
  have:is.getD n 0=i0:=by rw[←hlast,hn];rfl
  rw[this]
 have hzb:0<((L.revs.map aA).getD 0 []).length:=by rw[bH aA L.revs 0 ag (by omega)];simp
 have hlnl:is.length-1<is.length:=by omega
 by_cases hbb:tg.isSome=false∨(tgW tg).act=3
 rotate_left
 ·obtain⟨w,p,rfl,w3⟩:∃w p,tg=some (w,p)∧¬w.act=3:=by
   cases tg with
   |none=>exact absurd (.inl rfl) hbb
   |some x=>exact⟨x.1,x.2,rfl,fun h=>hbb (.inr h)⟩
  obtain⟨rfl,rfl,w5,hlw,jw,rfl,hjw⟩:=hT
  have hmg:=hmg w q rfl w3
  have hru:=hrn jw w hjw w5 hlw q
  have hjl:=(adK.1 hjw).1
  have erw_:=bH aA L.revs jw ag (by omega)
  rw[hrl,nK hjw,←hrl] at erw_
  have hjw2:(jw:Int)<(L.revs.length:Int):=by omega
  simp only[Option.isSome_some]
  try refine nv ?_
  refine dx ([]) @erw_ ?_ ?_
  ·exact qP
  refine aZ ?_
  refine aj ?_ ?_
  rotate_left
  ·intro h;simp[w3] at h
  intro _
  (repeat (first|refine nv ?_|refine cf (hru) ?_))
  refine rA [] ?_
  refine⟨?_,rfl⟩
  rw[hmg];rfl
 have hbr:=hbr hbb
 try refine nv ?_
 refine nZ ⟨158,[(1,I .i64 i0),(2,Str t),(3, .c (.ptr 3 0)),(7, .c (.ptr 7 0)),(8,B tg.isSome),(32,B false)],[(3, .box [.pp (uw L la me), .d (.ps 5 (m.map fV))]),(7, .box (Ol wi q pl))]⟩ ?_ ?_
 ·cases tg with
  |none=>
   obtain⟨rfl,rfl,rfl⟩:=hT
   simp only[Option.isSome_none]
   refine aZ ?_
   refine dx ([]) (p2 (aiy L.revs) @i00) ?_ ?_
   ·exact eQ @hzb
   refine aZ ?_
   refine⟨rfl,?_⟩
   exact bQ
  |some x=>
   obtain⟨w,p⟩:=x
   obtain⟨rfl,rfl,w5,hlw,jw,rfl,hjw⟩:=hT
   have w3:w.act=3:=by simpa[tgW] using hbb
   have hjl:=(adK.1 hjw).1
   have erw_:=bH aA L.revs jw ag (by omega)
   rw[hrl,nK hjw,←hrl] at erw_
   have hjw2:(jw:Int)<(L.revs.length:Int):=by omega
   have hb3:decide (w.act=3)=true:=ajk w3
   simp only[Option.isSome_some]
   refine aZ ?_
   refine dx ([]) (p2 @erw_ @hb3) ?_ ?_
   ·exact qP
   refine aZ ?_
   refine⟨rfl,?_⟩
   exact bQ
 refine aZ ?_
 refine aj ?_ ?_
 ·intro h;cases h
 intro _
 try refine nx @ei0 ?_
 refine so ([(52,B lv)]) ?_ ?_
 ·exact eQ @hlv
 try refine nv ?_
 refine aj ?_ ?_
 ·intro hc
  have hoff:v0.act=3∨lv=true∨(tg.isSome=true∧zS d (fileOf v0) tg=[]):=by
   by_cases a:v0.act=3
   ·exact .inl a
   ·cases lv with
    |true=>exact .inr (.inl rfl)
    |false=>simp[a] at hc
  rw[if_pos hoff] at hbr
  refine aZ ?_
  refine gg ?_
  refine bC (jf (i:=6) 11 rfl) ?_
  refine fE ?_
  try refine nv ?_
  refine rA [] ?_
  refine⟨?_,rfl⟩
  rw[hbr];rfl
 intro hc
 have hv3:¬v0.act=3∧lv=false:=by
  by_cases a:v0.act=3
  ·simp[a] at hc
  ·cases lv with
   |true=>simp[a] at hc
   |false=>exact⟨a,rfl⟩
 by_cases hem:tg.isSome=true∧zS d (fileOf v0) tg=[]
 ·have hR0:R=[]:=by rw[hbr];exact if_pos (.inr (.inr hem))
  obtain⟨x,rfl⟩:=ahM.1 hem.1
  obtain⟨w,p⟩:=x
  obtain⟨rfl,rfl,w5,hlw,jw,rfl,hjw⟩:=hT
  have hre:=hrem hjw w5
  have hni:=(hnil hjw w5).1 (by rw[←hres w q];exact hem.2)
  have hOl:(is.map fun e:Nat=>jh L (jw:Int) (e:Int)).length≤1000000:=by rw[ae1];omega
  generalize (is.map fun e:Nat=>jh L (jw:Int) (e:Int))=O at hre hni hOl
  have hcb:=U4 O hOl
  rw[ahK hni] at hcb
  simp only[Option.isSome_some]
  try refine nv ?_
  refine aj ?_ ?_
  rotate_left
  ·intro h;cases h
  intro _
  (repeat (first|refine nv ?_|refine cf (hre) ?_|refine cf (hcb) ?_))
  refine aj ?_ ?_
  rotate_left
  ·intro h;cases h
  intro _
  refine aZ ?_
  refine gg ?_
  refine bC (jf (i:=6) 11 rfl) ?_
  refine fE ?_
  try refine nv ?_
  refine rA [] ?_
  refine⟨?_,rfl⟩
  rw[hR0];rfl
 rw[if_neg (by rintro(a|a|a);exact hv3.1 a;rw[hv3.2] at a;cases a;exact hem a)] at hbr
 try refine nv ?_
 refine nZ ⟨158,[(1,I .i64 i0),(2,Str t),(3, .c (.ptr 3 0))],[(3, .box [.pp (uw L la me), .d (.ps 5 (m.map fV))])]⟩ ?_ ?_
 ·cases tg with
  |none=>
   simp only[Option.isSome_none]
   refine aj ?_ ?_
   ·intro h;cases h
   intro _
   refine aZ ?_
   refine⟨rfl,?_⟩
   exact bQ
  |some x=>
   obtain⟨w,p⟩:=x
   obtain⟨rfl,rfl,w5,hlw,jw,rfl,hjw⟩:=hT
   have hre:=hrem hjw w5
   have hni:true∈is.map fun e:Nat=>jh L (jw:Int) (e:Int):=akl fun h=>hem ⟨rfl,by rw[hres w q];exact(hnil hjw w5).2 h⟩
   have hOl:(is.map fun e:Nat=>jh L (jw:Int) (e:Int)).length≤1000000:=by rw[ae1];omega
   generalize (is.map fun e:Nat=>jh L (jw:Int) (e:Int))=O at hre hni hOl
   have hcb:=U4 O hOl
   rw[ajk hni] at hcb
   simp only[Option.isSome_some]
   refine aj ?_ ?_
   rotate_left
   ·intro h;cases h
   intro _
   (repeat (first|refine nv ?_|refine cf (hre) ?_|refine cf (hcb) ?_))
   refine aj ?_ ?_
   ·intro h;cases h
   intro _
   refine aZ ?_
   refine⟨rfl,?_⟩
   exact bQ
 clear hbb hT hem hmg hrn hrem hnil hres hres0
 have epx:=FP L.prev i0
 have hpl0:=hpv hlnl
 rw[hlast] at hpl0
 rw[hpl0] at epx
 have efx:=FP L.fst i0
 rw[f1] at efx
 have hlpe:is.getD (is.length-1) 0=i0:=hlast
 try refine nx @epx ?_
 refine au (ι:=Nat) (I:=fun j=>⟨158,[(1,I .i64 i0),(2,Str t),(3, .c (.ptr 3 0)),(11,I .i64 ((is.getD j 0:Nat):Int)),(12,I .i64 (BM is j))],[(3, .box [.pp (uw L la me), .d (.ps 5 (m.map fV))])]⟩)
  (Inv:=fun j=>j<is.length∧stF (line d (first d v0)) v0.path j=stF (line d (first d v0)) v0.path (is.length-1)) (μ:=fun j=>j) (is.length-1) ⟨hlnl,rfl⟩ ?_ ?_
 ·rw[hlpe]
  exact bQ
 rintro j ⟨hj,hst⟩
 have hsy:=hstay hj v0.path
 have hpb:=hpvl (j:=j) (by omega)
 have hpb2:BM is j<(L.revs.length:Int):=by omega
 have hqj:=hq0 (BM is j) hpb2
 have hxl:=hia j hj
 have erj:=bH aA L.revs (is.getD j 0) ag (by omega)
 have hrj:L.revs.getD (is.getD j 0) ag=(line d (first d v0)).getD j ag:=by rw[hlAt hj,hrl];rfl
 rw[hrj] at erj
 have hxl2:((is.getD j 0:Nat):Int)<(L.revs.length:Int):=by omega
 refine aZ ?_
 refine dx ([]) (p2 (abu L.revs) @ei0) ?_ ?_
 ·exact eQ @hqj
 refine aZ ?_
 refine aj ?_ ?_
 ·intro hq
  rw[hsy] at hq
  obtain⟨q1,q2⟩:=agw hq
  obtain⟨j',rfl⟩:∃j',j=j'+1:=⟨j-1,by omega⟩
  rw[akb] at q2
  have epj:=FP L.prev (is.getD j' 0)
  rw[hpv (by omega:j'<is.length)] at epj
  have hxl4:=hia j' (by omega)
  have hxl5:((is.getD j' 0:Nat):Int)<(L.prev.length:Int):=by omega
  rw[show BM is (j'+1)=((is.getD j' 0:Nat):Int) from rfl]
  try refine nx @epj ?_
  refine⟨j',⟨by omega,by rw[←hst,stF,if_pos q2]⟩,by omega,?_⟩
  exact bQ
 intro hq
 rw[hsy] at hq
 have hq:=ajJ hq
 have hsj:stF (line d (first d v0)) v0.path j=j:=by
  cases j with
  |zero=>rfl
  |succ j'=>rw[stF,if_neg (fun h=>hq ⟨by omega,by rw[akb];exact h⟩)]
 rw[←hst,hsj] at hfn
 generalize (line d (first d v0)).getD j ag=u at erj hfn
 refine aZ ?_
 refine dx ([(123,BO (first d v0)),(155,I .i64 hd)]) (p4 @efx @f4 @ei0 @erj) ?_ ?_
 ·exact ob2 @hfo @hhd
 refine vw ?_
 refine mQ (aY (i:=6) (id:=157) (sz:=11) (ys:=[ik (brX (first d v0) v0.path u.num v0.num t hd)]) rfl (by simp[aN,Ab.put,Ab.get,emS]) (by simp)) ?_
 refine fE ?_
 try refine nv ?_
 refine rA [] ?_
 refine⟨?_,rfl⟩
 rw[hbr,hfn];rfl
end
end Go.Proofs.YtcpgicfphakdaaaGreatDoor
