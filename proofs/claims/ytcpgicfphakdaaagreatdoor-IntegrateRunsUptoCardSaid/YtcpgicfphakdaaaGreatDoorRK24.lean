/- A part of the proof. -/
import Derived.Test.YtcpgicfphakdaaaGreatDoorRK19
import Derived.Test.YtcpgicfphakdaaaGreatDoorRX19
set_option linter.all false
namespace Go.Proofs.YtcpgicfphakdaaaGreatDoor
open Go.Ab Tys
variable [yF]
theorem abq (l:List Bool) (i:Nat):((l.map eB).getD i []).getD 0 (D.v (.bool false))=D.v (.bool (l.getD i false)):=by
 simp only[List.getD_eq_getElem?_getD,List.getElem?_map]
 cases l[i]?<;>rfl
structure ZM (d:bJ) (L:iE) (me:List (Int×List Int)) (i0:Nat) (v0:Rev) (is:List Nat):Prop where
 get:d.revs[i0]? =some v0
 n5:¬v0.act=5
 ix:Qe d L me (first d v0) (L.fst.getD i0 0) is
 last:is[is.length-1]? =some i0
 pos:0<is.length
section
variable {d:bJ} {L:iE} {la:List (ByteArray×Int)} {me:List (Int×List Int)} (hX:LX d L la me) {i0:Nat} {v0:Rev} {is:List Nat} (hx:ZM d L me i0 v0 is)
include hX hx
theorem ZM.mem:∀x∈is.map (fun j:Nat=>(j:Int)),0≤x∧x<(L.revs.length:Int)∧∃l,L.con.getD x.toNat none=some l:=by
 have hI:=hX.run.inv hX.good
 intro x hm
 obtain⟨y,hy,rfl⟩:=List.mem_map.1 hm
 have hyl:=hx.ix.lt y hy
 obtain⟨c,m,cr,_,hc,_⟩:=hI.sets y _ hyl (je hyl) (hx.ix.act y hy)
 refine⟨by omega,by rw[hI.revs];omega,m,by rw[Int.toNat_natCast];exact hc⟩
theorem ZM.rem {j:Nat} {w:Rev} (hw:d.revs[j]? =some w) (w5:¬w.act=5):AC Tryz.prog 42 [.c (.pp (qK L la me)),I .i64 i0,I .i64 j] []
 (fun r st=>r= .tup [(false,[.d (.ps 1 ((is.map fun j:Nat=>(j:Int)).map eI))]),(false,[.d (.ps 1 ((is.map fun e:Nat=>gZ L (j:Int) (e:Int)).map eB))])]∧st=[]):=by
 have hg:=hX.good
 have hI:=hX.run.inv hg
 have hL:xK L:=⟨by rw[hI.revs];exact hX.len,by rw[hI.lp,hI.revs],by rw[hI.lf,hI.revs],by rw[hI.lc,hI.revs],by rw[hI.lo,hI.revs],by rw[hI.lr,hI.revs],fun p i h=>by
  obtain⟨j,v,rfl,h1,h2,h3⟩:=(hI.ix p i).1 h
  rw[hI.revs];omega⟩
 have hi:=(List.getElem?_eq_some_iff.1 hx.get).1
 have hj:=(List.getElem?_eq_some_iff.1 hw).1
 obtain⟨c,m,cr,_,_,hcr⟩:=hI.sets j w hj hw w5
 have hl:=hx.ix.len
 have h:=zh L hL la me i0 j ⟨by omega,by rw[hI.revs];omega⟩ ⟨by omega,by rw[hI.revs];omega⟩ (is.map fun j:Nat=>(j:Int)) (by rw[Int.toNat_natCast];exact hx.ix.me) (hx.mem hX) ⟨cr,by rw[Int.toNat_natCast];exact hcr⟩ (by rw[List.length_map];omega)
 have e:(is.map fun j:Nat=>(j:Int)).map (gZ L (j:Int))=is.map fun e:Nat=>gZ L (j:Int) (e:Int):=by rw[List.map_map];rfl
 rw[upto_all hx.ix.ord hx.last,e] at h
 exact h
theorem ZM.fst:∃(r:Nat) (w:Rev),L.fst.getD i0 0=(r:Int)∧d.revs[r]? =some w∧fileOf w=first d v0∧(L.revs.map aI).getD r []=aI w∧(r:Int)<(L.revs.length:Int):=by
 have hg:=hX.good
 have hI:=hX.run.inv hg
 obtain⟨r,w,a1,a2,a3⟩:=yh hg hX.len hI (i0+1) i0 v0 (by omega) hx.get hx.n5
 have hr:=(List.getElem?_eq_some_iff.1 a2).1
 have e:=bg aI L.revs r af (by rw[hI.revs];exact hr)
 rw[hI.revs,kZ a2,←hI.revs] at e
 exact⟨r,w,a1,a2,a3.symm,e,by rw[hI.revs];omega⟩
end
@[reducible] def acI (wi:Int) (q pl:ByteArray):AV:= .agg (KI wi q pl)
@[reducible] def ac5 (f:bf) (v w:Rev) (k ls:Int) (bp:ByteArray) (bn:Int) (mv:ByteArray):pz:=⟨k,f.path,f.num,v.path,v.num,ls,w.path,w.num,bp,bn,mv⟩
def z75.kk:=p4 (p13 kB kG kS Tryz.ntmps75 Tryz.underlying32 Tryz.underlying55 Rf pM Us iK Qh qW Lm) (p13 nI TW zt Gi NV Qa L9 LD Mc MC Lt MS Nb) (p13 aaP aa9 jq gU kW Ez qU yE qR TB YA x8 uz) (p11 acb vT aaw MH nT IR aap Za kC AX Tryz.results75)
set_option maxRecDepth 100000 in
set_option maxHeartbeats 32000000 in
open z75 in
theorem ZH (d:bJ) (L:iE) (la:List (ByteArray×Int)) (me:List (Int×List Int)) (hX:LX d L la me) (m:List eQ) (i0:Nat) (v0:Rev) (is:List Nat) (hx:ZM d L me i0 v0 is) (jw:Nat) (w:Rev) (hw:d.revs[jw]? =some w) (w5:¬w.act=5) (hlw:dD d w.path=some w) (t q pl mv:ByteArray)
 (hmv:mv=if ¬q=v0.path∧pl=w.path∧¬t=w.path∧live d t=false then t else noS):
 AC Tryz.prog 75 [Z4 L la me m,I .i64 i0,Str t,acI jw q pl] [] (fun r st=>r=UG (ut (first d v0) ((lm d (fileOf v0) (fileOf w)).getD []) (line d (first d v0)) w mv 0)∧st=[]):=by
 have hg:=hX.good
 have hI:=hX.run.inv hg
 have hrl:L.revs=d.revs:=hI.revs
 have hi0:=(List.getElem?_eq_some_iff.1 hx.get).1
 have hjw:=(List.getElem?_eq_some_iff.1 hw).1
 have hrem:=hx.rem hX hw w5
 have hopen:=fun {e:Nat}=>WH hg hX.len hX.run hx.get hx.n5 hw w5 hx.ix hx.last (e:=e)
 obtain⟨r0,wr,f1,f2,f3,f4,f5⟩:=hx.fst hX
 have hfo:=uu wr
 rw[f3] at hfo
 have hlv:=PO d (by omega) L hrl la me hX.la t
 have hhd:=PS d (by omega) L hrl la me hX.la w.path
 have hlw2:dh d w.path=w.num:=by unfold dh;rw[hlw];rfl
 rw[hlw2] at hhd
 have hln:=hx.ix.ln
 have hlen:=hx.ix.len
 have hlg:∀j,j<is.length→(line d (first d v0)).getD j af=atR d (is.getD j 0):=fun j hj=>by
  rw[hln,List.getD_eq_getElem?_getD,List.getElem?_map,getD_at hj];rfl
 have hll:(line d (first d v0)).length=is.length:=by rw[hln,List.length_map]
 have hsk:=fun i=> @VH (first d v0) ((lm d (fileOf v0) (fileOf w)).getD []) (line d (first d v0)) w mv i
 have hrn:=fun i=> @XO (first d v0) ((lm d (fileOf v0) (fileOf w)).getD []) (line d (first d v0)) w mv i
 have hen:= @Zf (first d v0) ((lm d (fileOf v0) (fileOf w)).getD []) (line d (first d v0)) w mv is.length (by omega)
 have hes:=fun p i=> @Wu ((lm d (fileOf v0) (fileOf w)).getD []) (line d (first d v0)) p i
 have het:=fun p i=> @Vd ((lm d (fileOf v0) (fileOf w)).getD []) (line d (first d v0)) p i
 have hpv:=fun j=>hx.ix.pv (j:=j)
 have hia:∀j,j<is.length→is.getD j 0<d.revs.length:=fun j hj=>hx.ix.lt _ (List.mem_of_getElem? (getD_at hj))
 have hM:(ut (first d v0) ((lm d (fileOf v0) (fileOf w)).getD []) (line d (first d v0)) w mv 0).length≤is.length:=by rw[←hll];exact Ap ..
 have hOp:∀j,j<is.length→((is.map fun e:Nat=>gZ L (jw:Int) (e:Int)).getD j false=true↔fileOf ((line d (first d v0)).getD j af)∈(lm d (fileOf v0) (fileOf w)).getD []):=fun j hj=>by
  rw[hlg j hj,←hopen (List.mem_of_getElem? (getD_at hj)),List.getD_eq_getElem?_getD,List.getElem?_map,getD_at (z:=0) hj];rfl
 have hOl:(is.map fun e:Nat=>gZ L (jw:Int) (e:Int)).length=is.length:=List.length_map ..
 have hMl:(is.map fun j:Nat=>(j:Int)).length=is.length:=List.length_map ..
 have hix:∀j,0≤(is.map fun j:Nat=>(j:Int)).getD j 0∧(is.map fun j:Nat=>(j:Int)).getD j 0<(L.revs.length:Int):=fun j=>by
  rw[List.getD_eq_getElem?_getD,List.getElem?_map]
  cases h:is[j]? with
  |none=>simp;rw[hrl];omega
  |some x=>have:=hx.ix.lt x (List.mem_of_getElem? h);simp;rw[hrl];omega
 have hixe:∀j,j<is.length→(is.map fun j:Nat=>(j:Int)).getD j 0=((is.getD j 0:Nat):Int):=fun j hj=>by
  rw[List.getD_eq_getElem?_getD,List.getElem?_map,getD_at (z:=0) hj];rfl
 have erw_:=bg aI L.revs jw af (by rw[hrl];exact hjw)
 rw[hrl,kZ hw,←hrl] at erw_
 have hjw2:(jw:Int)<(L.revs.length:Int):=by rw[hrl];omega
 have ei0:=bg aI L.revs i0 af (by rw[hrl];exact hi0)
 rw[hrl,kZ hx.get,←hrl] at ei0
 have hi02:(i0:Int)<(L.revs.length:Int):=by rw[hrl];omega
 have hpl:L.prev.length=L.revs.length:=by rw[hI.lp,hrl]
 have hfl:L.fst.length=L.revs.length:=by rw[hI.lf,hrl]
 have hi03:(i0:Int)<(L.fst.length:Int):=by rw[hfl];exact hi02
 have hrg:∀j,j<is.length→L.revs.getD (is.getD j 0) af=(line d (first d v0)).getD j af:=fun j hj=>by rw[hlg j hj,hrl];rfl
 generalize (lm d (fileOf v0) (fileOf w)).getD []=rest at*
 generalize line d (first d v0)=ln at*
 generalize first d v0=f at*
 generalize hMM:ut f rest ln w mv 0=MM at hM
 generalize (is.map fun e:Nat=>gZ L (jw:Int) (e:Int))=O at*
 generalize hms:(is.map fun j:Nat=>(j:Int))=ms at hrem hMl hix hixe
 generalize live d t=lv at hlv hmv
 refine dA Tryz.func75 Tryz.ntmps75 fun x hx=>?_
 try refine nv ?_
 refine aa2 VL ?_
 refine bC ?_
 refine dx ([]) @erw_ ?_ ?_
 ·exact vO
 try refine nv ?_
 refine dx ([(56,B lv)]) @ei0 ?_ ?_
 ·exact iw @hlv
 refine bC ?_
 refine uT ⟨193,[(1,I .i64 i0),(4, .c (.ptr 4 0)),(7, .c (.ptr 7 0)),(9,Str w.path),(10,Str mv)],[(4, .box [.pp (qK L la me), .d (.ps 5 (m.map eY))]),(7, .box (KI jw q pl))]⟩ ?_ ?_
 ·refine aj ?_ ?_
  ·intro h
   have h':¬q=v0.path∧pl=w.path∧¬t=w.path∧lv=false:=by
    by_cases a:q=v0.path<;>by_cases b:w.path=pl<;>by_cases c:t=w.path<;>cases lv<;>simp_all
   rw[if_pos h'] at hmv
   subst hmv
   try refine nv ?_
   refine⟨rfl,?_⟩
   exact cO
  ·intro h
   have h':¬(¬q=v0.path∧pl=w.path∧¬t=w.path∧lv=false):=by
    rintro⟨a,b,c,rfl⟩
    subst b
    simp[a,c] at h
   rw[if_neg h'] at hmv
   subst hmv
   try refine nv ?_
   refine⟨rfl,?_⟩
   exact cO
 clear hlv hmv erw_ ei0
 (repeat (first|refine nv ?_|refine cf (hrem) ?_))
 refine aaE ?_
 refine bC ?_
 refine nH (jM (i:=11) (id:=100) (sz:=11) rfl rfl (by omega)) ?_
 refine dZ ?_
 refine ax (ι:=Nat×List pz) (I:=fun i=>⟨193,[(1,I .i64 i0),(4, .c (.ptr 4 0)),(9,Str w.path),(10,Str mv),(11, .c (.ms 100 11 0 i.2.length)),(12, .c (.d (.ps 1 (ms.map eI)))),(13, .c (.d (.ps 1 (O.map eB)))),(14,I .i64 i.1)],[(4, .box [.pp (qK L la me), .d (.ps 5 (m.map eY))]),(100,aK 11 (i.2.map lM))]⟩)
  (Inv:=fun i=>i.1≤is.length∧i.2++ut f rest ln w mv i.1=MM) (μ:=fun i=>is.length-i.1) (0,[]) ⟨by simp,by simpa using hMM⟩ ?_ ?_
 ·exact cO
 rintro⟨i1,Q⟩ ⟨q1,q2⟩
 simp only at q1 q2⊢
 have hQl:Q.length≤1000000:=by
  have h1:Q.length≤MM.length:=by rw[←q2];simp
  omega
 refine bC ?_
 refine ax (ι:=Nat) (I:=fun k=>⟨193,[(1,I .i64 i0),(4, .c (.ptr 4 0)),(9,Str w.path),(10,Str mv),(11, .c (.ms 100 11 0 Q.length)),(12, .c (.d (.ps 1 (ms.map eI)))),(13, .c (.d (.ps 1 (O.map eB)))),(14,I .i64 k)],[(4, .box [.pp (qK L la me), .d (.ps 5 (m.map eY))]),(100,aK 11 (Q.map lM))]⟩)
  (Inv:=fun k=>i1≤k∧k≤is.length∧Q++ut f rest ln w mv k=MM) (μ:=fun k=>is.length-k) i1 ⟨Nat.le_refl _,q1,q2⟩ ?_ ?_
 ·exact cO
 rintro k ⟨k0,k1,k2⟩
 try refine nv ?_
 refine aj ?_ ?_
 ·intro hh
  have hk':k=is.length:=by have:=of_decide_eq_true hh;omega
  rw[hk',hen,List.append_nil] at k2
  subst k2
  refine bC ?_
  refine bz (aZ (i:=11) (id:=100) (ys:=Q.map lM) rfl rfl (by simp)) ?_
  refine dZ ?_
  try refine nv ?_
  refine rA [] ?_
  refine⟨?_,rfl⟩
  rfl
 intro hh
 have hkl:k<is.length:=by have:=of_decide_eq_false hh;omega
 have hOk:=hOp k hkl
 try refine nx (abq O) ?_
 refine aj ?_ ?_
 rotate_left
 ·intro ho
  have hni:¬fileOf (ln.getD k af)∈rest:=fun h=>by rw[hOk.2 h] at ho;cases ho
  try refine nv ?_
  refine⟨k+1,⟨by omega,by omega,by rw[←hsk k (by omega) hni];exact k2⟩,by omega,?_⟩
  exact cO
 intro ho
 have hin:=hOk.1 ho
 have hru:=hrn k (by omega) hin
 have hxl:=hia k hkl
 have hxe:=hixe k hkl
 have emk:=Cs ms k
 rw[hxe] at emk
 have hrk:=hrg k hkl
 have erx:=bg aI L.revs (is.getD k 0) af (by rw[hrl];exact hxl)
 rw[hrk] at erx
 have epx:=Cs L.prev (is.getD k 0)
 rw[hpv k hkl] at epx
 have efx:=Cs L.fst i0
 rw[f1] at efx
 have hxl2:((is.getD k 0:Nat):Int)<(L.revs.length:Int):=by rw[hrl];omega
 have hxl3:((is.getD k 0:Nat):Int)<(L.prev.length:Int):=by rw[hpl];exact hxl2
 have hkm:(k:Int)<(ms.length:Int):=by omega
 have hgk:ln.getD k af=ln.getD k af:=rfl
 generalize hvk:ln.getD k af=v at erx hin hru hgk
 generalize is.getD k 0=xk at emk erx epx hxl2 hxl3
 have hbs:∀j,runT f ln w mv k j=⟨if(ln.getD j af).act=3 then 3 else 2,f.path,f.num,v.path,v.num,(ln.getD j af).num,w.path,w.num,bsP ln k,bsN ln k,mv⟩:=fun j=>by
  unfold runT bsP bsN;rw[hvk]
 rw[hru] at k2
 refine bC ?_
 refine dx ([]) (p2 @emk @erx) ?_ ?_
 ·exact vO
 refine bC ?_
 refine dx ([(106,D9 f),(115,I .i64 w.num)]) (p2 @efx @f4) ?_ ?_
 ·exact ob2 @hfo @hhd
 refine bC ?_
 refine dx ([]) (p2 @emk @epx) ?_ ?_
 ·exact vO
 try refine nv ?_
 refine uT ⟨193,[(1,I .i64 i0),(4, .c (.ptr 4 0)),(9,Str w.path),(10,Str mv),(11, .c (.ms 100 11 0 Q.length)),(12, .c (.d (.ps 1 (ms.map eI)))),(13, .c (.d (.ps 1 (O.map eB)))),(14,I .i64 k),(15, .c (.ptr 15 0)),(16, .c (.ptr 16 0)),(17, .c (.ptr 17 0))],
  [(4, .box [.pp (qK L la me), .d (.ps 5 (m.map eY))]),(15, .box ((aI v).map C.d)),(16, .box ((aI v).map C.d)),(17, .box ((lM (ac5 f v w 2 0 (bsP ln k) (bsN ln k) mv)).map C.d)),(100,aK 11 (Q.map lM))]⟩ ?_ ?_
 ·refine aj ?_ ?_
  ·intro h0
   obtain⟨k',rfl⟩:∃k',k=k'+1:=by
    cases k with
    |zero=>simp[yR] at h0
    |succ k'=>exact⟨k',rfl⟩
   have hrk2:=hrg k' (by omega)
   have hxl4:=hia k' (by omega)
   have ery:=bg aI L.revs (is.getD k' 0) af (by rw[hrl];exact hxl4)
   rw[hrk2] at ery
   have hbp:bsP ln (k'+1)=(ln.getD k' af).path:=by rw[bsP,if_pos (by omega)];rfl
   have hbn:bsN ln (k'+1)=(ln.getD k' af).num:=by rw[bsN,if_pos (by omega)];rfl
   have hxl5:((is.getD k' 0:Nat):Int)<(L.revs.length:Int):=by rw[hrl];omega
   simp only[yR]
   obtain⟨y,hy⟩:∃y,y=ln.getD k' af:=⟨_,rfl⟩
   rw[←hy] at ery hbp hbn
   (repeat (first|refine nx @ery ?_|refine cf (uu y) ?_))
   refine⟨rfl,?_⟩
   (refine bI (fun i=>i) rfl ?_ ⟨?_,?_,?_,di hx (by simp[ae,Ab.get])⟩<;>first|(simp only[kE,aK, ↓reduceIte,Nat.reduceEqDiff,reduceCtorEq,hbp,hbn,fileOf];done)|simp[aW,aA,ag,Ab.get,aH,cu,aB,bD,aS,aQ,aU,aP,aT,ae,List.flatten,hbp,hbn,fileOf])
  ·intro h0
   have hk0:k=0:=by
    cases k with
    |zero=>rfl
    |succ k'=>simp[yR] at h0<;>omega
   subst hk0
   have hbp:bsP ln 0=noS:=rfl
   have hbn:bsN ln 0=0:=rfl
   try refine nv ?_
   refine⟨rfl,?_⟩
   exact EH (p3 @hbp @hbn @emptyS)
 generalize bsP ln k=bp at hbs
 generalize bsN ln k=bn at hbs
 refine bC ?_
 refine ax (ι:=Nat) (I:=fun c=>⟨193,[(1,I .i64 i0),(4, .c (.ptr 4 0)),(9,Str w.path),(10,Str mv),(11, .c (.ms 100 11 0 Q.length)),(12, .c (.d (.ps 1 (ms.map eI)))),(13, .c (.d (.ps 1 (O.map eB)))),(14,I .i64 c),(15, .c (.ptr 15 0)),(16, .c (.ptr 16 0)),(17, .c (.ptr 17 0))],
  [(4, .box [.pp (qK L la me), .d (.ps 5 (m.map eY))]),(15, .box ((aI v).map C.d)),(16, .box ((aI (ln.getD (if k<c then c-1 else k) af)).map C.d)),(17, .box ((lM (ac5 f v w 2 0 bp bn mv)).map C.d)),(100,aK 11 (Q.map lM))]⟩)
  (Inv:=fun c=>k≤c∧c≤is.length∧qB rest ln v.path k=qB rest ln v.path (if k<c then c-1 else k)) (μ:=fun c=>is.length-c) k ⟨Nat.le_refl _,by omega,by rw[if_neg (by omega)]⟩ ?_ ?_
 ·rw[if_neg (by omega:¬k<k),hvk]
  exact cO
 rintro c ⟨c1,c2,c3⟩
 have hC:(bif bif decide ((c:Int)<(ms.length:Int)) then O.getD c false else false then decide ((L.revs.getD (ms.getD c 0).toNat af).path=v.path) else false)=decide (c<is.length∧fileOf (ln.getD c af)∈rest∧(ln.getD c af).path=v.path):=by
  by_cases hc:c<is.length
  ·have a:=hOp c hc
   have b:=hixe c hc
   have e:=hrg c hc
   rw[decide_eq_true (by omega:(c:Int)<(ms.length:Int)),cond_true,b,Int.toNat_natCast,e]
   cases ho:O.getD c false with
   |false=>
    have hn:¬fileOf (ln.getD c af)∈rest:=fun h=>by rw[a.2 h] at ho;cases ho
    exact(decide_eq_false fun h=>hn h.2.1).symm
   |true=>exact decide_eq_decide.2 ⟨fun h=>⟨hc,a.1 ho,h⟩,fun h=>h.2.2⟩
  ·rw[decide_eq_false (by omega:¬(c:Int)<(ms.length:Int))]
   exact(decide_eq_false fun h=>hc h.1).symm
 have hxc:=hix c
 generalize hy:ln.getD (if k<c then c-1 else k) af=y
 refine bC ?_
 refine dx ([]) (p3 (abq O) (Cs ms) (XZ L.revs)) ?_ ?_
 ·exact vO
 refine bC ?_
 refine aj ?_ ?_
 ·intro hq
  rw[hC] at hq
  obtain⟨r1,r2,r3⟩:=of_decide_eq_true hq
  have hxce:=hixe c r1
  have emc:=Cs ms c
  rw[hxce] at emc
  have hrc:=hrg c r1
  have hxcl:=hia c r1
  have erc:=bg aI L.revs (is.getD c 0) af (by rw[hrl];exact hxcl)
  rw[hrc] at erc
  have hxc2:((is.getD c 0:Nat):Int)<(L.revs.length:Int):=by rw[hrl];omega
  have hcm:(c:Int)<(ms.length:Int):=by omega
  have e9:(if k<c+1 then c+1-1 else k)=c:=by rw[if_pos (by omega)];rfl
  have hnx:qB rest ln v.path k=qB rest ln v.path c:=by
   by_cases h:k<c
   ·rw[if_pos h] at c3
    rw[c3,hes v.path (c-1) (by rw[show c-1+1=c by omega];exact⟨by omega,r2,r3⟩),show c-1+1=c by omega]
   ·rw[show c=k by omega]
  generalize is.getD c 0=xc at emc erc hxc2
  refine bC ?_
  refine dx ([]) (p2 @emc @erc) ?_ ?_
  ·exact vO
  try refine nv ?_
  refine⟨c+1,⟨by omega,by omega,by rw[e9];exact hnx⟩,by omega,?_⟩
  rw[e9]
  exact cO
 intro hq
 rw[hC] at hq
 have hq:=of_decide_eq_false hq
 have hkc:k<c:=by
  rcases Nat.lt_or_ge k c with h|h
  ·exact h
  ·exfalso
   have e:c=k:=by omega
   subst e
   exact hq ⟨hkl,by rw[hvk];exact hin,by rw[hvk]⟩
 rw[if_pos hkc] at c3 hy
 have hstop:=het v.path (c-1) (by rw[show c-1+1=c by omega];rintro⟨a,b⟩;exact hq ⟨by omega,b⟩)
 rw[hstop] at c3
 rw[c3,hbs,hy,show c-1+1=c by omega] at k2
 try refine nv ?_
 refine aj ?_ ?_
 ·intro h3
  have h3':y.act=3:=by simpa using h3
  rw[if_pos h3'] at k2
  try refine nv ?_
  refine⟨(c,Q++[⟨3,f.path,f.num,v.path,v.num,y.num,w.path,w.num,bp,bn,mv⟩]),⟨by simp;omega,by rw[←k2,List.append_assoc];rfl⟩,by simp;omega,?_⟩
  exact Af (fun i=>if i=100 then 191 else i)
 ·intro h3
  have h3':¬y.act=3:=by simpa using h3
  rw[if_neg h3'] at k2
  try refine nv ?_
  refine⟨(c,Q++[⟨2,f.path,f.num,v.path,v.num,y.num,w.path,w.num,bp,bn,mv⟩]),⟨by simp;omega,by rw[←k2,List.append_assoc];rfl⟩,by simp;omega,?_⟩
  exact Af (fun i=>if i=100 then 191 else i)
end Go.Proofs.YtcpgicfphakdaaaGreatDoor
