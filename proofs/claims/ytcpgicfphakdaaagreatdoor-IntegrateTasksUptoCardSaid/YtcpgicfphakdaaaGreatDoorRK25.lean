/- A part of the proof. -/
import Derived.Test.YtcpgicfphakdaaaGreatDoorRK19
import Derived.Test.YtcpgicfphakdaaaGreatDoorRX19
set_option linter.all false
namespace Go.Proofs.YtcpgicfphakdaaaGreatDoor
open Go.Ab Tys
variable [zG]
theorem abX (l:List Bool) (i:Nat):((l.map eB).getD i []).getD 0 (D.v (.bool false))=D.v (.bool (l.getD i false)):=by
 simp only[List.getD_eq_getElem?_getD,List.getElem?_map]
 cases l[i]?<;>rfl
structure LnX (d:bK) (L:jv) (me:List (Int×List Int)) (i0:Nat) (v0:Rev) (is:List Nat):Prop where
 get:d.revs[i0]? =some v0
 n5:¬v0.act=5
 ix:QF d L me (first d v0) (L.fst.getD i0 0) is
 last:is[is.length-1]? =some i0
 pos:0<is.length
section
variable {d:bK} {L:jv} {la:List (ByteArray×Int)} {me:List (Int×List Int)} (hX:LX d L la me) {i0:Nat} {v0:Rev} {is:List Nat} (hx:LnX d L me i0 v0 is)
include hX hx
theorem LnX.mem:∀x∈is.map (fun j:Nat=>(j:Int)),0≤x∧x<(L.revs.length:Int)∧∃l,L.con.getD x.toNat none=some l:=by
 have hI:=hX.run.inv hX.good
 intro x hm
 obtain⟨y,hy,rfl⟩:=List.mem_map.1 hm
 have hyl:=hx.ix.lt y hy
 obtain⟨c,m,cr,_,hc,_⟩:=hI.sets y _ hyl (jU hyl) (hx.ix.act y hy)
 refine⟨by omega,by rw[hI.revs];omega,m,by rw[Int.toNat_natCast];exact hc⟩
theorem LnX.rem {j:Nat} {w:Rev} (hw:d.revs[j]? =some w) (w5:¬w.act=5):AC Tryz.prog 42 [.c (.pp (sG L la me)),I .i64 i0,I .i64 j] []
 (fun r st=>r= .tup [(false,[.d (.ps 1 ((is.map fun j:Nat=>(j:Int)).map eI))]),(false,[.d (.ps 1 ((is.map fun e:Nat=>iU L (j:Int) (e:Int)).map eB))])]∧st=[]):=by
 have hg:=hX.good
 have hI:=hX.run.inv hg
 have hL:yY L:=⟨by rw[hI.revs];exact hX.len,by rw[hI.lp,hI.revs],by rw[hI.lf,hI.revs],by rw[hI.lc,hI.revs],by rw[hI.lo,hI.revs],by rw[hI.lr,hI.revs],fun p i h=>by
  obtain⟨j,v,rfl,h1,h2,h3⟩:=(hI.ix p i).1 h
  rw[hI.revs];omega⟩
 have hi:=(List.getElem?_eq_some_iff.1 hx.get).1
 have hj:=(List.getElem?_eq_some_iff.1 hw).1
 obtain⟨c,m,cr,_,_,hcr⟩:=hI.sets j w hj hw w5
 have hl:=hx.ix.len
 have h:=Au L hL la me i0 j ⟨by omega,by rw[hI.revs];omega⟩ ⟨by omega,by rw[hI.revs];omega⟩ (is.map fun j:Nat=>(j:Int)) (by rw[Int.toNat_natCast];exact hx.ix.me) (hx.mem hX) ⟨cr,by rw[Int.toNat_natCast];exact hcr⟩ (by rw[List.length_map];omega)
 have e:(is.map fun j:Nat=>(j:Int)).map (iU L (j:Int))=is.map fun e:Nat=>iU L (j:Int) (e:Int):=by rw[List.map_map];rfl
 rw[upto_all hx.ix.ord hx.last,e] at h
 exact h
theorem LnX.fst:∃(r:Nat) (w:Rev),L.fst.getD i0 0=(r:Int)∧d.revs[r]? =some w∧fileOf w=first d v0∧(L.revs.map ax).getD r []=ax w∧(r:Int)<(L.revs.length:Int):=by
 have hg:=hX.good
 have hI:=hX.run.inv hg
 obtain⟨r,w,a1,a2,a3⟩:=zB hg hX.len hI (i0+1) i0 v0 (by omega) hx.get hx.n5
 have hr:=(List.getElem?_eq_some_iff.1 a2).1
 have e:=bi ax L.revs r ai (by rw[hI.revs];exact hr)
 rw[hI.revs,gK a2,←hI.revs] at e
 exact⟨r,w,a1,a2,a3.symm,e,by rw[hI.revs];omega⟩
end
@[reducible] def adk (wi:Int) (q pl:ByteArray):AV:= .agg (KN wi q pl)
@[reducible] def adv (f:bP) (v w:Rev) (k ls:Int) (bp:ByteArray) (bn:Int) (mv:ByteArray):Fv:=⟨k,f.path,f.num,v.path,v.num,ls,w.path,w.num,bp,bn,mv⟩
def z75.kk:=p4 (p13 kB kG kS Tryz.ntmps75 Tryz.underlying32 Tryz.underlying55 TA lL O6 iI Qx sV MV) (p13 mf PH Aj Hq O8 Oz NG Nq NZ Oi NV NM Nl) (p13 Uz Us jD jf jA FX tC zA uq UN XR uO uK) (p11 aa9 sK aaf yR ny Ji abo Yq jy CJ Tryz.results75)
set_option maxRecDepth 100000 in
set_option maxHeartbeats 32000000 in
open z75 in
theorem Zv (d:bK) (L:jv) (la:List (ByteArray×Int)) (me:List (Int×List Int)) (hX:LX d L la me) (m:List dU) (i0:Nat) (v0:Rev) (is:List Nat) (hx:LnX d L me i0 v0 is) (jw:Nat) (w:Rev) (hw:d.revs[jw]? =some w) (w5:¬w.act=5) (hlw:eQ d w.path=some w) (t q pl mv:ByteArray)
 (hmv:mv=if ¬q=v0.path∧pl=w.path∧¬t=w.path∧live d t=false then t else noS):
 AC Tryz.prog 75 [abx L la me m,I .i64 i0,Str t,adk jw q pl] [] (fun r st=>r=UC (xM (first d v0) ((l7 d (fileOf v0) (fileOf w)).getD []) (line d (first d v0)) w mv 0)∧st=[]):=by
 have hg:=hX.good
 have hI:=hX.run.inv hg
 have hrl:L.revs=d.revs:=hI.revs
 have hi0:=(List.getElem?_eq_some_iff.1 hx.get).1
 have hjw:=(List.getElem?_eq_some_iff.1 hw).1
 have hrem:=hx.rem hX hw w5
 have hopen:=fun {e:Nat}=>VA hg hX.len hX.run hx.get hx.n5 hw w5 hx.ix hx.last (e:=e)
 obtain⟨r0,wr,f1,f2,f3,f4,f5⟩:=hx.fst hX
 have hfo:=uT wr
 rw[f3] at hfo
 have hlv:=QE d (by omega) L hrl la me hX.la t
 have hhd:=OV d (by omega) L hrl la me hX.la w.path
 have hlw2:dh d w.path=w.num:=by unfold dh;rw[hlw];rfl
 rw[hlw2] at hhd
 have hln:=hx.ix.ln
 have hlen:=hx.ix.len
 have hlg:∀j,j<is.length→(line d (first d v0)).getD j ai=atR d (is.getD j 0):=fun j hj=>by
  rw[hln,List.getD_eq_getElem?_getD,List.getElem?_map,getD_at hj];rfl
 have hll:(line d (first d v0)).length=is.length:=by rw[hln,List.length_map]
 have hsk:=fun i=> @JF (first d v0) ((l7 d (fileOf v0) (fileOf w)).getD []) (line d (first d v0)) w mv i
 have hrn:=fun i=> @OB (first d v0) ((l7 d (fileOf v0) (fileOf w)).getD []) (line d (first d v0)) w mv i
 have hen:= @Qj (first d v0) ((l7 d (fileOf v0) (fileOf w)).getD []) (line d (first d v0)) w mv is.length (by omega)
 have hes:=fun p i=> @KZ ((l7 d (fileOf v0) (fileOf w)).getD []) (line d (first d v0)) p i
 have het:=fun p i=> @DT ((l7 d (fileOf v0) (fileOf w)).getD []) (line d (first d v0)) p i
 have hpv:=fun j=>hx.ix.pv (j:=j)
 have hia:∀j,j<is.length→is.getD j 0<d.revs.length:=fun j hj=>hx.ix.lt _ (List.mem_of_getElem? (getD_at hj))
 have hM:(xM (first d v0) ((l7 d (fileOf v0) (fileOf w)).getD []) (line d (first d v0)) w mv 0).length≤is.length:=by rw[←hll];exact Dn ..
 have hOp:∀j,j<is.length→((is.map fun e:Nat=>iU L (jw:Int) (e:Int)).getD j false=true↔fileOf ((line d (first d v0)).getD j ai)∈(l7 d (fileOf v0) (fileOf w)).getD []):=fun j hj=>by
  rw[hlg j hj,←hopen (List.mem_of_getElem? (getD_at hj)),List.getD_eq_getElem?_getD,List.getElem?_map,getD_at (z:=0) hj];rfl
 have hOl:(is.map fun e:Nat=>iU L (jw:Int) (e:Int)).length=is.length:=List.length_map ..
 have hMl:(is.map fun j:Nat=>(j:Int)).length=is.length:=List.length_map ..
 have hix:∀j,0≤(is.map fun j:Nat=>(j:Int)).getD j 0∧(is.map fun j:Nat=>(j:Int)).getD j 0<(L.revs.length:Int):=fun j=>by
  rw[List.getD_eq_getElem?_getD,List.getElem?_map]
  cases h:is[j]? with
  |none=>simp;rw[hrl];omega
  |some x=>have:=hx.ix.lt x (List.mem_of_getElem? h);simp;rw[hrl];omega
 have hixe:∀j,j<is.length→(is.map fun j:Nat=>(j:Int)).getD j 0=((is.getD j 0:Nat):Int):=fun j hj=>by
  rw[List.getD_eq_getElem?_getD,List.getElem?_map,getD_at (z:=0) hj];rfl
 have erw_:=bi ax L.revs jw ai (by rw[hrl];exact hjw)
 rw[hrl,gK hw,←hrl] at erw_
 have hjw2:(jw:Int)<(L.revs.length:Int):=by rw[hrl];omega
 have ei0:=bi ax L.revs i0 ai (by rw[hrl];exact hi0)
 rw[hrl,gK hx.get,←hrl] at ei0
 have hi02:(i0:Int)<(L.revs.length:Int):=by rw[hrl];omega
 have hpl:L.prev.length=L.revs.length:=by rw[hI.lp,hrl]
 have hfl:L.fst.length=L.revs.length:=by rw[hI.lf,hrl]
 have hi03:(i0:Int)<(L.fst.length:Int):=by rw[hfl];exact hi02
 have hrg:∀j,j<is.length→L.revs.getD (is.getD j 0) ai=(line d (first d v0)).getD j ai:=fun j hj=>by rw[hlg j hj,hrl];rfl
 generalize (l7 d (fileOf v0) (fileOf w)).getD []=rest at*
 generalize line d (first d v0)=ln at*
 generalize first d v0=f at*
 generalize hMM:xM f rest ln w mv 0=MM at hM
 generalize (is.map fun e:Nat=>iU L (jw:Int) (e:Int))=O at*
 generalize hms:(is.map fun j:Nat=>(j:Int))=ms at hrem hMl hix hixe
 generalize live d t=lv at hlv hmv
 refine bV Tryz.func75 Tryz.ntmps75 fun x hx=>?_
 try refine nv ?_
 refine aaU Wj ?_
 refine aJ ?_
 refine dx ([]) @erw_ ?_ ?_
 ·exact rC
 try refine nv ?_
 refine dx ([(56,B lv)]) @ei0 ?_ ?_
 ·exact gI @hlv
 refine aJ ?_
 refine lW ⟨193,[(1,I .i64 i0),(4, .c (.ptr 4 0)),(7, .c (.ptr 7 0)),(9,Str w.path),(10,Str mv)],[(4, .box [.pp (sG L la me), .d (.ps 5 (m.map dK))]),(7, .box (KN jw q pl))]⟩ ?_ ?_
 ·refine af ?_ ?_
  ·intro h
   have h':¬q=v0.path∧pl=w.path∧¬t=w.path∧lv=false:=by
    by_cases a:q=v0.path<;>by_cases b:w.path=pl<;>by_cases c:t=w.path<;>cases lv<;>simp_all
   rw[if_pos h'] at hmv
   subst hmv
   try refine nv ?_
   refine⟨rfl,?_⟩
   exact aW
  ·intro h
   have h':¬(¬q=v0.path∧pl=w.path∧¬t=w.path∧lv=false):=by
    rintro⟨a,b,c,rfl⟩
    subst b
    simp[a,c] at h
   rw[if_neg h'] at hmv
   subst hmv
   try refine nv ?_
   refine⟨rfl,?_⟩
   exact aW
 clear hlv hmv erw_ ei0
 (repeat (first|refine nv ?_|refine cf (hrem) ?_))
 refine aay ?_
 refine aJ ?_
 refine mg (eG (i:=11) (id:=100) (sz:=11) rfl rfl (by omega)) ?_
 refine dM ?_
 refine ag (ι:=Nat×List Fv) (I:=fun i=>⟨193,[(1,I .i64 i0),(4, .c (.ptr 4 0)),(9,Str w.path),(10,Str mv),(11, .c (.ms 100 11 0 i.2.length)),(12, .c (.d (.ps 1 (ms.map eI)))),(13, .c (.d (.ps 1 (O.map eB)))),(14,I .i64 i.1)],[(4, .box [.pp (sG L la me), .d (.ps 5 (m.map dK))]),(100,aQ 11 (i.2.map ik))]⟩)
  (Inv:=fun i=>i.1≤is.length∧i.2++xM f rest ln w mv i.1=MM) (μ:=fun i=>is.length-i.1) (0,[]) ⟨by simp,by simpa using hMM⟩ ?_ ?_
 ·exact aW
 rintro⟨i1,Q⟩ ⟨q1,q2⟩
 simp only at q1 q2⊢
 have hQl:Q.length≤1000000:=by
  have h1:Q.length≤MM.length:=by rw[←q2];simp
  omega
 refine aJ ?_
 refine ag (ι:=Nat) (I:=fun k=>⟨193,[(1,I .i64 i0),(4, .c (.ptr 4 0)),(9,Str w.path),(10,Str mv),(11, .c (.ms 100 11 0 Q.length)),(12, .c (.d (.ps 1 (ms.map eI)))),(13, .c (.d (.ps 1 (O.map eB)))),(14,I .i64 k)],[(4, .box [.pp (sG L la me), .d (.ps 5 (m.map dK))]),(100,aQ 11 (Q.map ik))]⟩)
  (Inv:=fun k=>i1≤k∧k≤is.length∧Q++xM f rest ln w mv k=MM) (μ:=fun k=>is.length-k) i1 ⟨Nat.le_refl _,q1,q2⟩ ?_ ?_
 ·exact aW
 rintro k ⟨k0,k1,k2⟩
 try refine nv ?_
 refine af ?_ ?_
 ·intro hh
  have hk':k=is.length:=by have:=of_decide_eq_true hh;omega
  rw[hk',hen,List.append_nil] at k2
  subst k2
  refine aJ ?_
  refine aG (aI (i:=11) (id:=100) (ys:=Q.map ik) rfl rfl (by simp)) ?_
  refine dM ?_
  try refine nv ?_
  refine rA [] ?_
  refine⟨?_,rfl⟩
  rfl
 intro hh
 have hkl:k<is.length:=by have:=of_decide_eq_false hh;omega
 have hOk:=hOp k hkl
 try refine nx (abX O) ?_
 refine af ?_ ?_
 rotate_left
 ·intro ho
  have hni:¬fileOf (ln.getD k ai)∈rest:=fun h=>by rw[hOk.2 h] at ho;cases ho
  try refine nv ?_
  refine⟨k+1,⟨by omega,by omega,by rw[←hsk k (by omega) hni];exact k2⟩,by omega,?_⟩
  exact aW
 intro ho
 have hin:=hOk.1 ho
 have hru:=hrn k (by omega) hin
 have hxl:=hia k hkl
 have hxe:=hixe k hkl
 have emk:=D9 ms k
 rw[hxe] at emk
 have hrk:=hrg k hkl
 have erx:=bi ax L.revs (is.getD k 0) ai (by rw[hrl];exact hxl)
 rw[hrk] at erx
 have epx:=D9 L.prev (is.getD k 0)
 rw[hpv k hkl] at epx
 have efx:=D9 L.fst i0
 rw[f1] at efx
 have hxl2:((is.getD k 0:Nat):Int)<(L.revs.length:Int):=by rw[hrl];omega
 have hxl3:((is.getD k 0:Nat):Int)<(L.prev.length:Int):=by rw[hpl];exact hxl2
 have hkm:(k:Int)<(ms.length:Int):=by omega
 have hgk:ln.getD k ai=ln.getD k ai:=rfl
 generalize hvk:ln.getD k ai=v at erx hin hru hgk
 generalize is.getD k 0=xk at emk erx epx hxl2 hxl3
 have hbs:∀j,runT f ln w mv k j=⟨if(ln.getD j ai).act=3 then 3 else 2,f.path,f.num,v.path,v.num,(ln.getD j ai).num,w.path,w.num,Rn ln k,Rw ln k,mv⟩:=fun j=>by
  unfold runT Rn Rw;rw[hvk]
 rw[hru] at k2
 refine aJ ?_
 refine dx ([]) (p2 @emk @erx) ?_ ?_
 ·exact rC
 refine aJ ?_
 refine dx ([(106,uI f),(115,I .i64 w.num)]) (p2 @efx @f4) ?_ ?_
 ·exact ob2 @hfo @hhd
 refine aJ ?_
 refine dx ([]) (p2 @emk @epx) ?_ ?_
 ·exact rC
 try refine nv ?_
 refine lW ⟨193,[(1,I .i64 i0),(4, .c (.ptr 4 0)),(9,Str w.path),(10,Str mv),(11, .c (.ms 100 11 0 Q.length)),(12, .c (.d (.ps 1 (ms.map eI)))),(13, .c (.d (.ps 1 (O.map eB)))),(14,I .i64 k),(15, .c (.ptr 15 0)),(16, .c (.ptr 16 0)),(17, .c (.ptr 17 0))],
  [(4, .box [.pp (sG L la me), .d (.ps 5 (m.map dK))]),(15, .box ((ax v).map C.d)),(16, .box ((ax v).map C.d)),(17, .box ((ik (adv f v w 2 0 (Rn ln k) (Rw ln k) mv)).map C.d)),(100,aQ 11 (Q.map ik))]⟩ ?_ ?_
 ·refine af ?_ ?_
  ·intro h0
   obtain⟨k',rfl⟩:∃k',k=k'+1:=by
    cases k with
    |zero=>simp[zZ] at h0
    |succ k'=>exact⟨k',rfl⟩
   have hrk2:=hrg k' (by omega)
   have hxl4:=hia k' (by omega)
   have ery:=bi ax L.revs (is.getD k' 0) ai (by rw[hrl];exact hxl4)
   rw[hrk2] at ery
   have hbp:Rn ln (k'+1)=(ln.getD k' ai).path:=by rw[Rn,if_pos (by omega)];rfl
   have hbn:Rw ln (k'+1)=(ln.getD k' ai).num:=by rw[Rw,if_pos (by omega)];rfl
   have hxl5:((is.getD k' 0:Nat):Int)<(L.revs.length:Int):=by rw[hrl];omega
   simp only[zZ]
   obtain⟨y,hy⟩:∃y,y=ln.getD k' ai:=⟨_,rfl⟩
   rw[←hy] at ery hbp hbn
   (repeat (first|refine nx @ery ?_|refine cf (uT y) ?_))
   refine⟨rfl,?_⟩
   (refine fZ (fun i=>i) rfl ?_ ⟨?_,?_,?_,gu hx (by simp[ae,Ab.get])⟩<;>first|(simp only[kE,aQ, ↓reduceIte,Nat.reduceEqDiff,reduceCtorEq,hbp,hbn,fileOf];done)|simp[di,bf,aA,Ab.get,aZ,dH,aN,bY,bG,bH,bD,bI,bC,ae,List.flatten,hbp,hbn,fileOf])
  ·intro h0
   have hk0:k=0:=by
    cases k with
    |zero=>rfl
    |succ k'=>simp[zZ] at h0<;>omega
   subst hk0
   have hbp:Rn ln 0=noS:=rfl
   have hbn:Rw ln 0=0:=rfl
   try refine nv ?_
   refine⟨rfl,?_⟩
   exact tK (p3 @hbp @hbn @emptyS)
 generalize Rn ln k=bp at hbs
 generalize Rw ln k=bn at hbs
 refine aJ ?_
 refine ag (ι:=Nat) (I:=fun c=>⟨193,[(1,I .i64 i0),(4, .c (.ptr 4 0)),(9,Str w.path),(10,Str mv),(11, .c (.ms 100 11 0 Q.length)),(12, .c (.d (.ps 1 (ms.map eI)))),(13, .c (.d (.ps 1 (O.map eB)))),(14,I .i64 c),(15, .c (.ptr 15 0)),(16, .c (.ptr 16 0)),(17, .c (.ptr 17 0))],
  [(4, .box [.pp (sG L la me), .d (.ps 5 (m.map dK))]),(15, .box ((ax v).map C.d)),(16, .box ((ax (ln.getD (if k<c then c-1 else k) ai)).map C.d)),(17, .box ((ik (adv f v w 2 0 bp bn mv)).map C.d)),(100,aQ 11 (Q.map ik))]⟩)
  (Inv:=fun c=>k≤c∧c≤is.length∧qp rest ln v.path k=qp rest ln v.path (if k<c then c-1 else k)) (μ:=fun c=>is.length-c) k ⟨Nat.le_refl _,by omega,by rw[if_neg (by omega)]⟩ ?_ ?_
 ·rw[if_neg (by omega:¬k<k),hvk]
  exact aW
 rintro c ⟨c1,c2,c3⟩
 have hC:(bif bif decide ((c:Int)<(ms.length:Int)) then O.getD c false else false then decide ((L.revs.getD (ms.getD c 0).toNat ai).path=v.path) else false)=decide (c<is.length∧fileOf (ln.getD c ai)∈rest∧(ln.getD c ai).path=v.path):=by
  by_cases hc:c<is.length
  ·have a:=hOp c hc
   have b:=hixe c hc
   have e:=hrg c hc
   rw[decide_eq_true (by omega:(c:Int)<(ms.length:Int)),cond_true,b,Int.toNat_natCast,e]
   cases ho:O.getD c false with
   |false=>
    have hn:¬fileOf (ln.getD c ai)∈rest:=fun h=>by rw[a.2 h] at ho;cases ho
    exact(decide_eq_false fun h=>hn h.2.1).symm
   |true=>exact decide_eq_decide.2 ⟨fun h=>⟨hc,a.1 ho,h⟩,fun h=>h.2.2⟩
  ·rw[decide_eq_false (by omega:¬(c:Int)<(ms.length:Int))]
   exact(decide_eq_false fun h=>hc h.1).symm
 have hxc:=hix c
 generalize hy:ln.getD (if k<c then c-1 else k) ai=y
 refine aJ ?_
 refine dx ([]) (p3 (abX O) (D9 ms) (JG L.revs)) ?_ ?_
 ·exact rC
 refine aJ ?_
 refine af ?_ ?_
 ·intro hq
  rw[hC] at hq
  obtain⟨r1,r2,r3⟩:=of_decide_eq_true hq
  have hxce:=hixe c r1
  have emc:=D9 ms c
  rw[hxce] at emc
  have hrc:=hrg c r1
  have hxcl:=hia c r1
  have erc:=bi ax L.revs (is.getD c 0) ai (by rw[hrl];exact hxcl)
  rw[hrc] at erc
  have hxc2:((is.getD c 0:Nat):Int)<(L.revs.length:Int):=by rw[hrl];omega
  have hcm:(c:Int)<(ms.length:Int):=by omega
  have e9:(if k<c+1 then c+1-1 else k)=c:=by rw[if_pos (by omega)];rfl
  have hnx:qp rest ln v.path k=qp rest ln v.path c:=by
   by_cases h:k<c
   ·rw[if_pos h] at c3
    rw[c3,hes v.path (c-1) (by rw[show c-1+1=c by omega];exact⟨by omega,r2,r3⟩),show c-1+1=c by omega]
   ·rw[show c=k by omega]
  generalize is.getD c 0=xc at emc erc hxc2
  refine aJ ?_
  refine dx ([]) (p2 @emc @erc) ?_ ?_
  ·exact rC
  try refine nv ?_
  refine⟨c+1,⟨by omega,by omega,by rw[e9];exact hnx⟩,by omega,?_⟩
  rw[e9]
  exact aW
 intro hq
 rw[hC] at hq
 have hq:=of_decide_eq_false hq
 have hkc:k<c:=by
  rcases Nat.lt_or_ge k c with h|h
  ·exact h
  ·exfalso
   have e:c=k:=by omega
   subst e
   exact hq ⟨hkl,by rw[hvk];exact hin,by rw[hvk]⟩
 rw[if_pos hkc] at c3 hy
 have hstop:=het v.path (c-1) (by rw[show c-1+1=c by omega];rintro⟨a,b⟩;exact hq ⟨by omega,b⟩)
 rw[hstop] at c3
 rw[c3,hbs,hy,show c-1+1=c by omega] at k2
 try refine nv ?_
 refine af ?_ ?_
 ·intro h3
  have h3':y.act=3:=by simpa using h3
  rw[if_pos h3'] at k2
  try refine nv ?_
  refine⟨(c,Q++[⟨3,f.path,f.num,v.path,v.num,y.num,w.path,w.num,bp,bn,mv⟩]),⟨by simp;omega,by rw[←k2,List.append_assoc];rfl⟩,by simp;omega,?_⟩
  exact uY (fun i=>if i=100 then 191 else i)
 ·intro h3
  have h3':¬y.act=3:=by simpa using h3
  rw[if_neg h3'] at k2
  try refine nv ?_
  refine⟨(c,Q++[⟨2,f.path,f.num,v.path,v.num,y.num,w.path,w.num,bp,bn,mv⟩]),⟨by simp;omega,by rw[←k2,List.append_assoc];rfl⟩,by simp;omega,?_⟩
  exact uY (fun i=>if i=100 then 191 else i)
end Go.Proofs.YtcpgicfphakdaaaGreatDoor
namespace Go.Proofs.YtcpgicfphakdaaaGreatDoor
open Go.Ab Tys
variable [zG]
section
variable {d:bK} {L:jv} {la:List (ByteArray×Int)} {me:List (Int×List Int)} (hX:LX d L la me) {i0:Nat} {v0:Rev} {is:List Nat} (hx:LnX d L me i0 v0 is)
include hX hx
theorem LnX.acZ {j:Nat} (hj:j<is.length):(line d (first d v0)).getD j ai=atR d (is.getD j 0):=by
 rw[hx.ix.ln,List.getD_eq_getElem?_getD,List.getElem?_map,getD_at hj];rfl
theorem LnX.stay {j:Nat} (hj:j<is.length) (p:ByteArray):(bif decide (0≤zZ is j) then decide ((L.revs.getD (zZ is j).toNat ai).path=p) else false)=decide (0<j∧((line d (first d v0)).getD (j-1) ai).path=p):=by
 have hI:=hX.run.inv hX.good
 cases j with
 |zero=>simp[zZ]
 |succ j'=>
  have h2:=hx.acZ hX (j:=j') (by omega)
  have:(0:Int)≤zZ is (j'+1):=by simp only[zZ];omega
  rw[decide_eq_true this,cond_true,Nat.add_sub_cancel,h2,hI.revs]
  simp only[zZ,Int.toNat_natCast]
  exact decide_eq_decide.2 ⟨fun h=>⟨by omega,h⟩,fun h=>h.2⟩
theorem LnX.Ld (p:ByteArray) (hp:v0.path=p):Go.Proofs.YtcpgicfphakdaaaGreatDoor.Ld p (line d (first d v0)) (line d (first d v0)).length v0.num=((line d (first d v0)).getD (stF (line d (first d v0)) p (is.length-1)) ai).num:=by
 have hp0:=hx.pos
 have hll:(line d (first d v0)).length=is.length:=by rw[hx.ix.ln,List.length_map]
 have e:(line d (first d v0)).getD (is.length-1) ai=v0:=by
  rw[hx.acZ hX (by omega),gK hx.last,O4 hx.get]
 have h1:=X3 (p:=p) (ln:=line d (first d v0)) (k:=is.length-1) (by omega) (by rw[e];exact hp)
 rw[e] at h1
 have h2:=XN hX.good hX.len hX.frm (f:=first d v0) (p:=p) (is.length-1) (by omega) (by rw[e];exact hp)
 rw[e] at h2
 rw[h1,h2]
end
def z27.kk:=p3 (LK kB kG kS Tryz.ntmps27 TA lL O6 iI Qx sV mf PH Aj Hq) (LK NG Nq NZ Oi NV NM Nl jD jf jA FX tC zA uq) (p13 XR uO uK aa9 sK aaf ny Ji abo Yq jy CJ Tryz.results27)
set_option maxRecDepth 100000 in
set_option maxHeartbeats 32000000 in
open z27 in
theorem WO (d:bK) (L:jv) (la:List (ByteArray×Int)) (me:List (Int×List Int)) (hX:LX d L la me) (m:List dU) (hm:MX m) (i0:Nat) (v0:Rev) (is:List Nat) (hx:LnX d L me i0 v0 is) (hlp:eQ d v0.path=some v0) (t:ByteArray) (hby:nP m v0.path=(t,true)):
 AC Tryz.prog 27 [abx L la me m,I .i64 i0,Str t] [] (fun r st=>r=UC (oO d m v0.path)∧st=[]):=by
 have hg:=hX.good
 have hI:=hX.run.inv hg
 have hrl:L.revs=d.revs:=hI.revs
 have hi0:=(List.getElem?_eq_some_iff.1 hx.get).1
 have hon:¬((nP m v0.path).2=false∨v0.act=5):=by rw[hby];rintro(h|h);cases h;exact hx.n5 h
 have hbr:=fun h=>Vb hlp hon h
 have hmg:=fun w q h1 h2=>Qu (w:=w) (q:=q) hlp hon h1 h2
 have hbrT:brT d v0.path (nP m v0.path).1 v0=brX (first d v0) v0.path (Ld v0.path (line d (first d v0)) (line d (first d v0)).length v0.num) v0.num (nP m v0.path).1 (dh d (nP m v0.path).1):=rfl
 rw[hx.Ld hX _ rfl] at hbrT
 rw[hbrT] at hbr
 have hmvd:∀w q,RN d m v0.path (nP m v0.path).1 w q=if ¬q=v0.path∧(nP m q).1=w.path∧¬(nP m v0.path).1=w.path∧live d (nP m v0.path).1=false then(nP m v0.path).1 else noS:=fun w q=>rfl
 rw[hby] at hbr hmg hmvd
 simp only at hbr hmg hmvd
 have htg:=TG d L la me hX m hm i0 v0 hx.get hx.n5 is hx.ix hx.last hx.pos
 have hrn:=fun jw w h1 h2 h3 q=>Zv d L la me hX m i0 v0 is hx jw w h1 h2 h3 t q (nP m q).1 (RN d m v0.path t w q) (hmvd w q)
 have hlv:=QE d (by omega) L hrl la me hX.la t
 have hhd:=OV d (by omega) L hrl la me hX.la t
 obtain⟨r0,wr,f1,f2,f3,f4,f5⟩:=hx.fst hX
 have hfo:=uT wr
 rw[f3] at hfo
 have ei0:=bi ax L.revs i0 ai (by rw[hrl];exact hi0)
 rw[hrl,gK hx.get,←hrl] at ei0
 have hi02:(i0:Int)<(L.revs.length:Int):=by rw[hrl];omega
 have hfl:L.fst.length=L.revs.length:=by rw[hI.lf,hrl]
 have hpl:L.prev.length=L.revs.length:=by rw[hI.lp,hrl]
 have hi03:(i0:Int)<(L.fst.length:Int):=by rw[hfl];exact hi02
 have hi04:(i0:Int)<(L.prev.length:Int):=by rw[hpl];exact hi02
 have h0l:(0:Int)<(L.revs.length:Int):=by rw[hrl];omega
 have hrem:=fun {j:Nat} {w:Rev} h1 h2=>hx.rem hX (j:=j) (w:=w) h1 h2
 have hnil:=fun {j:Nat} {w:Rev} h1 h2=>XO hg hX.len hX.run hx.get hx.n5 h1 h2 hx.ix hx.last (j:=j) (w:=w)
 have hres:∀w q,yP d (fileOf v0) (some (w,q))=(l7 d (fileOf v0) (fileOf w)).getD []:=fun _ _=>rfl
 have hres0:yP d (fileOf v0) none=[]:=rfl
 have hlen:=hx.ix.len
 have hp0:=hx.pos
 have hlAt:=fun {j:Nat} h=>hx.acZ hX (j:=j) h
 have hstay:=fun {j:Nat} h p=>hx.stay hX (j:=j) h p
 have hpv:=fun {j:Nat} h=>hx.ix.pv (j:=j) h
 have hia:∀j,j<is.length→is.getD j 0<d.revs.length:=fun j hj=>hx.ix.lt _ (List.mem_of_getElem? (getD_at hj))
 have hpvl:=fun {j:Nat} h=>YI (is:=is) (n:=d.revs.length) hia (j:=j) h (by omega)
 have hlast:is.getD (is.length-1) 0=i0:=gK hx.last
 have hv0e:(line d (first d v0)).getD (is.length-1) ai=v0:=by rw[hlAt (by omega),hlast,O4 hx.get]
 generalize oO d m v0.path=R at hbr hmg
 generalize sN d m (line d (first d v0))=tg at htg hbr hmg
 clear hmvd
 generalize live d t=lv at hlv hbr
 generalize dh d t=hd at hhd hbr
 generalize hfn:((line d (first d v0)).getD (stF (line d (first d v0)) v0.path (is.length-1)) ai).num=fn at hbr
 refine bV Tryz.func27 Tryz.ntmps27 fun x hx=>?_
 try refine nv ?_
 refine qQ [] (htg) ?_
 rintro r st' ⟨⟨wi,q,pl,hT,rfl⟩,rfl⟩<;>refine qU ?_
 have hq0:∀pv:Int,pv<(L.revs.length:Int)→decide (0≤pv)=true→0<((L.revs.map ax).getD pv.toNat []).length:=fun pv h1 h=>by
  have h0:=of_decide_eq_true h
  rw[bi ax L.revs pv.toNat ai (by omega)];simp
 have hrl2:L.revs.length=d.revs.length:=by rw[hrl]
 have e8:zZ is is.length=(i0:Int):=by
  obtain⟨n,hn⟩:∃n,is.length=n+1:=⟨is.length-1,by omega⟩
  rw[hn,zZ]
  have:is.getD n 0=i0:=by rw[←hlast,hn];rfl
  rw[this]
 have hzb:0<((L.revs.map ax).getD 0 []).length:=by rw[bi ax L.revs 0 ai (by omega)];simp
 have hlnl:is.length-1<is.length:=by omega
 by_cases hbb:tg.isSome=false∨(tgW tg).act=3
 rotate_left
 ·obtain⟨w,p,rfl,w3⟩:∃w p,tg=some (w,p)∧¬w.act=3:=by
   cases tg with
   |none=>exact absurd (.inl rfl) hbb
   |some x=>exact⟨x.1,x.2,rfl,fun h=>hbb (.inr h)⟩
  obtain⟨rfl,rfl,w5,hlw,jw,rfl,hjw⟩:=hT
  have hmg:=hmg w q rfl w3
  have hru:=hrn jw w hjw w5 hlw q
  have hjl:=(List.getElem?_eq_some_iff.1 hjw).1
  have erw_:=bi ax L.revs jw ai (by omega)
  rw[hrl,gK hjw,←hrl] at erw_
  have hjw2:(jw:Int)<(L.revs.length:Int):=by omega
  simp only[Option.isSome_some]
  try refine nv ?_
  refine dx ([]) @erw_ ?_ ?_
  ·exact rC
  refine aJ ?_
  refine af ?_ ?_
  rotate_left
  ·intro h;simp[w3] at h
  intro _
  (repeat (first|refine nv ?_|refine cf (hru) ?_))
  refine rA [] ?_
  refine⟨?_,rfl⟩
  rw[hmg];rfl
 have hbr:=hbr hbb
 try refine nv ?_
 refine lW ⟨158,[(1,I .i64 i0),(2,Str t),(3, .c (.ptr 3 0)),(7, .c (.ptr 7 0)),(8,B tg.isSome),(32,B false)],[(3, .box [.pp (sG L la me), .d (.ps 5 (m.map dK))]),(7, .box (KN wi q pl))]⟩ ?_ ?_
 ·cases tg with
  |none=>
   obtain⟨rfl,rfl,rfl⟩:=hT
   simp only[Option.isSome_none]
   refine aJ ?_
   refine dx ([]) (p2 (aeP L.revs) @i00) ?_ ?_
   ·exact gI @hzb
   refine aJ ?_
   refine⟨rfl,?_⟩
   exact aW
  |some x=>
   obtain⟨w,p⟩:=x
   obtain⟨rfl,rfl,w5,hlw,jw,rfl,hjw⟩:=hT
   have w3:w.act=3:=by simpa[tgW] using hbb
   have hjl:=(List.getElem?_eq_some_iff.1 hjw).1
   have erw_:=bi ax L.revs jw ai (by omega)
   rw[hrl,gK hjw,←hrl] at erw_
   have hjw2:(jw:Int)<(L.revs.length:Int):=by omega
   have hb3:decide (w.act=3)=true:=decide_eq_true w3
   simp only[Option.isSome_some]
   refine aJ ?_
   refine dx ([]) (p2 @erw_ @hb3) ?_ ?_
   ·exact rC
   refine aJ ?_
   refine⟨rfl,?_⟩
   exact aW
 refine aJ ?_
 refine af ?_ ?_
 ·intro h;cases h
 intro _
 try refine nx @ei0 ?_
 refine so ([(52,B lv)]) ?_ ?_
 ·exact gI @hlv
 try refine nv ?_
 refine af ?_ ?_
 ·intro hc
  have hoff:v0.act=3∨lv=true∨(tg.isSome=true∧yP d (fileOf v0) tg=[]):=by
   by_cases a:v0.act=3
   ·exact .inl a
   ·cases lv with
    |true=>exact .inr (.inl rfl)
    |false=>simp[a] at hc
  rw[if_pos hoff] at hbr
  refine aJ ?_
  refine gg ?_
  refine aG (fO (i:=6) 11 rfl) ?_
  refine dM ?_
  try refine nv ?_
  refine rA [] ?_
  refine⟨?_,rfl⟩
  rw[hbr];rfl
 intro hc
 have hv3:¬v0.act=3∧lv=false:=by
  by_cases a:v0.act=3
  ·simp[a] at hc
  ·cases lv with
   |true=>simp[a] at hc
   |false=>exact⟨a,rfl⟩
 by_cases hem:tg.isSome=true∧yP d (fileOf v0) tg=[]
 ·have hR0:R=[]:=by rw[hbr];exact if_pos (.inr (.inr hem))
  obtain⟨x,rfl⟩:=Option.isSome_iff_exists.1 hem.1
  obtain⟨w,p⟩:=x
  obtain⟨rfl,rfl,w5,hlw,jw,rfl,hjw⟩:=hT
  have hre:=hrem hjw w5
  have hni:=(hnil hjw w5).1 (by rw[←hres w q];exact hem.2)
  have hOl:(is.map fun e:Nat=>iU L (jw:Int) (e:Int)).length≤1000000:=by rw[List.length_map];omega
  generalize (is.map fun e:Nat=>iU L (jw:Int) (e:Int))=O at hre hni hOl
  have hcb:=Q5 O hOl
  rw[decide_eq_false hni] at hcb
  simp only[Option.isSome_some]
  try refine nv ?_
  refine af ?_ ?_
  rotate_left
  ·intro h;cases h
  intro _
  (repeat (first|refine nv ?_|refine cf (hre) ?_|refine cf (hcb) ?_))
  refine af ?_ ?_
  rotate_left
  ·intro h;cases h
  intro _
  refine aJ ?_
  refine gg ?_
  refine aG (fO (i:=6) 11 rfl) ?_
  refine dM ?_
  try refine nv ?_
  refine rA [] ?_
  refine⟨?_,rfl⟩
  rw[hR0];rfl
 rw[if_neg (by rintro(a|a|a);exact hv3.1 a;rw[hv3.2] at a;cases a;exact hem a)] at hbr
 try refine nv ?_
 refine lW ⟨158,[(1,I .i64 i0),(2,Str t),(3, .c (.ptr 3 0))],[(3, .box [.pp (sG L la me), .d (.ps 5 (m.map dK))])]⟩ ?_ ?_
 ·cases tg with
  |none=>
   simp only[Option.isSome_none]
   refine af ?_ ?_
   ·intro h;cases h
   intro _
   refine aJ ?_
   refine⟨rfl,?_⟩
   exact aW
  |some x=>
   obtain⟨w,p⟩:=x
   obtain⟨rfl,rfl,w5,hlw,jw,rfl,hjw⟩:=hT
   have hre:=hrem hjw w5
   have hni:true∈is.map fun e:Nat=>iU L (jw:Int) (e:Int):=Classical.byContradiction fun h=>hem ⟨rfl,by rw[hres w q];exact(hnil hjw w5).2 h⟩
   have hOl:(is.map fun e:Nat=>iU L (jw:Int) (e:Int)).length≤1000000:=by rw[List.length_map];omega
   generalize (is.map fun e:Nat=>iU L (jw:Int) (e:Int))=O at hre hni hOl
   have hcb:=Q5 O hOl
   rw[decide_eq_true hni] at hcb
   simp only[Option.isSome_some]
   refine af ?_ ?_
   rotate_left
   ·intro h;cases h
   intro _
   (repeat (first|refine nv ?_|refine cf (hre) ?_|refine cf (hcb) ?_))
   refine af ?_ ?_
   ·intro h;cases h
   intro _
   refine aJ ?_
   refine⟨rfl,?_⟩
   exact aW
 clear hbb hT hem hmg hrn hrem hnil hres hres0
 have epx:=D9 L.prev i0
 have hpl0:=hpv hlnl
 rw[hlast] at hpl0
 rw[hpl0] at epx
 have efx:=D9 L.fst i0
 rw[f1] at efx
 have hlpe:is.getD (is.length-1) 0=i0:=hlast
 try refine nx @epx ?_
 refine ag (ι:=Nat) (I:=fun j=>⟨158,[(1,I .i64 i0),(2,Str t),(3, .c (.ptr 3 0)),(11,I .i64 ((is.getD j 0:Nat):Int)),(12,I .i64 (zZ is j))],[(3, .box [.pp (sG L la me), .d (.ps 5 (m.map dK))])]⟩)
  (Inv:=fun j=>j<is.length∧stF (line d (first d v0)) v0.path j=stF (line d (first d v0)) v0.path (is.length-1)) (μ:=fun j=>j) (is.length-1) ⟨hlnl,rfl⟩ ?_ ?_
 ·rw[hlpe]
  exact aW
 rintro j ⟨hj,hst⟩
 have hsy:=hstay hj v0.path
 have hpb:=hpvl (j:=j) (by omega)
 have hpb2:zZ is j<(L.revs.length:Int):=by omega
 have hqj:=hq0 (zZ is j) hpb2
 have hxl:=hia j hj
 have erj:=bi ax L.revs (is.getD j 0) ai (by omega)
 have hrj:L.revs.getD (is.getD j 0) ai=(line d (first d v0)).getD j ai:=by rw[hlAt hj,hrl];rfl
 rw[hrj] at erj
 have hxl2:((is.getD j 0:Nat):Int)<(L.revs.length:Int):=by omega
 refine aJ ?_
 refine dx ([]) (p2 (JG L.revs) @ei0) ?_ ?_
 ·exact gI @hqj
 refine aJ ?_
 refine af ?_ ?_
 ·intro hq
  rw[hsy] at hq
  obtain⟨q1,q2⟩:=of_decide_eq_true hq
  obtain⟨j',rfl⟩:∃j',j=j'+1:=⟨j-1,by omega⟩
  rw[Nat.add_sub_cancel] at q2
  have epj:=D9 L.prev (is.getD j' 0)
  rw[hpv (by omega:j'<is.length)] at epj
  have hxl4:=hia j' (by omega)
  have hxl5:((is.getD j' 0:Nat):Int)<(L.prev.length:Int):=by omega
  rw[show zZ is (j'+1)=((is.getD j' 0:Nat):Int) from rfl]
  try refine nx @epj ?_
  refine⟨j',⟨by omega,by rw[←hst,stF,if_pos q2]⟩,by omega,?_⟩
  exact aW
 intro hq
 rw[hsy] at hq
 have hq:=of_decide_eq_false hq
 have hsj:stF (line d (first d v0)) v0.path j=j:=by
  cases j with
  |zero=>rfl
  |succ j'=>rw[stF,if_neg (fun h=>hq ⟨by omega,by rw[Nat.add_sub_cancel];exact h⟩)]
 rw[←hst,hsj] at hfn
 generalize (line d (first d v0)).getD j ai=u at erj hfn
 refine aJ ?_
 refine dx ([(123,uI (first d v0)),(155,I .i64 hd)]) (p4 @efx @f4 @ei0 @erj) ?_ ?_
 ·exact ob2 @hfo @hhd
 refine yf ?_
 refine mg (aI (i:=6) (id:=157) (sz:=11) (ys:=[ik (brX (first d v0) v0.path u.num v0.num t hd)]) rfl (by simp[aK,Ab.put,Ab.get,emS]) (by simp)) ?_
 refine dM ?_
 try refine nv ?_
 refine rA [] ?_
 refine⟨?_,rfl⟩
 rw[hbr,hfn];rfl
end Go.Proofs.YtcpgicfphakdaaaGreatDoor
