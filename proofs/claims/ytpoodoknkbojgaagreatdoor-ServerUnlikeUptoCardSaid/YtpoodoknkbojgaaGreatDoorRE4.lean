/- A part of the proof. -/
import Derived.Test.YtpoodoknkbojgaaGreatDoorRE3
import Derived.Test.YtpoodoknkbojgaaGreatDoorRK1
import Derived.Test.YtpoodoknkbojgaaGreatDoorRX3
set_option maxRecDepth 100000
set_option maxHeartbeats 4000000
set_option linter.all false
namespace Go.Proofs.YtpoodoknkbojgaaGreatDoor
open Go.Ab Tys
variable [Ez]
def PS (p:fJ):Prop:=p.parts.length≤20∧∀s∈p.parts,s.size≤2000000
theorem PS.pb {p:fJ} (h:PS p):PB 4000000 p:=⟨Ur h.1 (by omega),fun s hs=>Ur (h.2 s hs) (by omega)⟩
theorem Nj (ps:List VJ) (n:Nat) (h:∀s∈ps,s.size≤n):(jQ ps slash).size≤ps.length*(n+1):=by
 have h1:(jQ ps slash).size=(Lib.join (ps.map (·.data.toList)) [47]).length:=by simp[jQ,slash,ByteArray.size]
 have h2:=xK (ps.map (·.data.toList))
 have h3:((ps.map (·.data.toList)).map fun x=>x.length+1).sum≤ps.length*(n+1):=by
  clear h1 h2
  induction ps with
  |nil=>simp
  |cons a ps ih=>
   have:=ih fun s hs=>h s (by simp[hs])
   have ha:=h a (by simp)
   simp only[Un,List.sum_cons,List.length_cons,Uz]
   have e:a.data.toList.length=a.size:=by simp
   omega
 omega
def Sl.kk:=p9 kB Tryz.ntmps215 jW lI uP Gu FQ qP Tryz.results215
open Sl in
theorem J3 (p:fJ) (hp:PS p):AC Tryz.prog 215 [aPat p] [] (fun r st=>r=Str (gG p)∧st=[]):=by
 obtain⟨ps,rs⟩:=p
 have hbig:=Nj ps 2000000 hp.2
 have hbig2:ps.length*(2000000+1)≤20*(2000000+1):=Ul _ hp.1
 have hds:ByteArray.size {data:= #[47,47]}=2:=rfl
 have hds2:ByteArray.size {data:= #[47,46,46,46]}=4:=rfl
 have hpl:ps.length≤20:=hp.1
 refine jH Tryz.func215 Tryz.ntmps215 fun x hx=>?_
 (repeat (first|refine nv ?_|refine cf (JU ps slash (by omega) (by omega)) ?_))
 refine zK (by simp) (by simp only[kV, ↓reduceIte,Nat.reduceEqDiff,reduceCtorEq];first|done|rfl) (by simp only[kV, ↓reduceIte,Nat.reduceEqDiff,reduceCtorEq];first|done|rfl) ?_ ?_
 ·omega
 try refine nv ?_
 refine bV ?_ ?_
 ·intro h
  try refine nv ?_
  refine zK (by simp) (by simp only[kV, ↓reduceIte,Nat.reduceEqDiff,reduceCtorEq];first|done|rfl) (by simp only[kV, ↓reduceIte,Nat.reduceEqDiff,reduceCtorEq];first|done|rfl) ?_ ?_
  ·rw[Vo];omega
  try refine nv ?_
  refine rA [] ?_
  refine⟨?_,rfl⟩
  simp only[gG,h,if_true]
 ·intro h
  try refine nv ?_
  refine rA [] ?_
  refine⟨?_,rfl⟩
  simp only[gG,h,if_false,Um]
def z173.kk:=p5 kB Tryz.ntmps173 jW qP Tryz.results173
open z173 in
theorem FT (p:fJ) (hp:PS p):AC Tryz.prog 173 [aPat p] [] (fun r st=>r= .tup [pS (if Ef p then gG p else noS),pI (ik p)]∧st=[]):=by
 have hc:=Fb p hp.pb
 have ht:=J3 p hp
 have hok:Ef p=decide (ik p=0):=rfl
 generalize Ef p=op at hok
 generalize ik p=cp at hc hok
 refine jH Tryz.func173 Tryz.ntmps173 fun x hx=>?_
 (repeat (first|refine nv ?_|refine cf (hc) ?_))
 refine bV ?_ ?_
 ·intro h
  have h':¬cp=0:=by simpa using h
  try refine nv ?_
  refine rA [] ?_
  refine⟨?_,rfl⟩
  rw[hok,UW h'];rfl
 ·intro h
  have h':cp=0:=by simpa using h
  subst h'
  (repeat (first|refine nv ?_|refine cf (ht) ?_))
  refine rA [] ?_
  refine⟨?_,rfl⟩
  rw[hok];rfl
def pJ (ps:List VJ) (k:Nat):Nat:=5+((ps.take k).map fun x=>x.size+1).sum
theorem Qe (ps:List VJ) (k:Nat):pJ ps k≤pJ ps ps.length:=by
 unfold pJ
 rw[UQ (Ui _)]
 have:((ps.take k).map fun x=>x.size+1).sum+((ps.drop k).map fun x=>x.size+1).sum=(ps.map fun x=>x.size+1).sum:=by
  rw[←List.sum_append,←Vb,UF]
 omega
theorem Ad (p:fJ):kC p=decide (pJ p.parts p.parts.length≤200):=by
 unfold kC pJ
 rw[UQ (Ui _)]
def z139.kk:=p11 kB Tryz.ntmps139 Tryz.underlying53 Tryz.underlying9 jW zB lI FQ qP Ej Tryz.results139
open z139 in
theorem EH (p:fJ) (hp:PS p):AC Tryz.prog 139 [aPat p] [] (fun r st=>r=B (kC p)∧st=[]):=by
 obtain⟨ps,rs⟩:=p
 have h1:ps.length≤20:=hp.1
 rw[Ad]
 simp only
 refine jH Tryz.func139 Tryz.ntmps139 fun x hx=>?_
 try refine nv ?_
 refine bP (ι:=Nat) (I:=fun k=>⟨21,[(1, .c (.ptr 1 0)),(3,I .i64 (pJ ps k)),(7,Ec ps),(8,I .i64 ps.length),(9,I .i64 k)],[(1, .box ((kz ⟨ps,rs⟩).map C.d))]⟩)
  (Inv:=fun k=>k≤ps.length∧pJ ps k≤200) (μ:=fun k=>ps.length-k) 0 ⟨by omega,by simp[pJ]⟩ ?_ ?_
 ·(refine bD (fun i=>i) rfl ?_ ⟨?_,?_,?_,eU hx (by simp[ae,Ab.get])⟩<;>first|(simp only[kE,aC, ↓reduceIte,Nat.reduceEqDiff,reduceCtorEq,pJ,List.take_zero,U3,List.sum_nil,Nat.add_zero];done)|simp[aQ,aG,aj,Ab.get,ax,bC,ay,aH,aN,aO,aI,aK,aJ,ae,List.flatten,pJ,List.take_zero,U3,List.sum_nil,Nat.add_zero])
 rintro k ⟨hk,hall⟩
 try refine nv ?_
 refine bV ?_ ?_
 ·intro hlt
  have hlt':k<ps.length:=by simpa using hlt
  obtain⟨v,hv,he,htk⟩:=round encS ps k noS hlt'
  have hvs:v.size≤2000000:=hp.2 v (TZ hv)
  have hsn:pJ ps (k+1)=pJ ps k+(v.size+1):=by
   unfold pJ
   rw[htk,Vb,List.sum_append]
   simp only[Un,U3,List.sum_cons,List.sum_nil]
   omega
  have hadd:((pJ ps k:Nat):Int)+((v.size:Nat)+1:Int)=((pJ ps (k+1):Nat):Int):=by rw[hsn];omega
  try refine nx (p2 @he @hadd) ?_
  refine bV ?_ ?_
  ·intro hb
   have hb':200<pJ ps (k+1):=by have:(200:Int)<pJ ps (k+1):=(by simpa using hb);omega
   have:=Qe ps (k+1)
   try refine nv ?_
   refine rA [] ?_
   refine⟨?_,rfl⟩
   rw[UW (by omega)]
  ·intro hb
   have hb':pJ ps (k+1)≤200:=by have:(pJ ps (k+1):Int)≤200:=(by simpa using hb);omega
   try refine nv ?_
   refine⟨k+1,⟨by omega,hb'⟩,by omega,?_⟩
   exact jG
 ·intro hge
  have hk':k=ps.length:=by have:¬k<ps.length:=(by simpa using hge);omega
  subst hk'
  try refine nv ?_
  refine rA [] ?_
  refine⟨?_,rfl⟩
  rw[Vm hall]
end Go.Proofs.YtpoodoknkbojgaaGreatDoor
