/- A part of the proof. -/
import Derived.Test.YtpoodoknkbojgaaGreatDoorRE17
import Derived.Test.YtpoodoknkbojgaaGreatDoorRK1
import Derived.Test.YtpoodoknkbojgaaGreatDoorRX3
set_option maxRecDepth 100000
set_option maxHeartbeats 4000000
set_option linter.all false
namespace Go.Proofs.YtpoodoknkbojgaaGreatDoor
open Go.Ab Tys
variable [wJ]
def PS (p:fZ):Prop:=p.parts.length≤20∧∀s∈p.parts,s.size≤2000000
theorem PS.pb {p:fZ} (h:PS p):PB 4000000 p:=⟨aav h.1 (by omega),fun s hs=>aav (h.2 s hs) (by omega)⟩
theorem U6 (ps:List abW) (n:Nat) (h:∀s∈ps,s.size≤n):(eX ps slash).size≤ps.length*(n+1):=by
 have h1:(eX ps slash).size=(Lib.join (ps.map (·.data.toList)) [47]).length:=by simp[eX,slash,ByteArray.size]
 have h2:=Dl (ps.map (·.data.toList))
 have h3:((ps.map (·.data.toList)).map fun x=>x.length+1).sum≤ps.length*(n+1):=by
  clear h1 h2
  induction ps with
  |nil=>simp
  |cons a ps ih=>
   have:=ih fun s hs=>h s (by simp[hs])
   have ha:=h a (by simp)
   simp only[aax,List.sum_cons,List.length_cons,aaI]
   have e:a.data.toList.length=a.size:=by simp
   omega
 omega
def Y2.kk:=p9 kB Tryz.ntmps215 iF jF oJ vO CO lS Tryz.results215
open Y2 in
theorem SH (p:fZ) (hp:PS p):AC Tryz.prog 215 [aPat p] [] (fun r st=>r=Str (eF p)∧st=[]):=by
 obtain⟨ps,rs⟩:=p
 have hbig:=U6 ps 2000000 hp.2
 have hbig2:ps.length*(2000000+1)≤20*(2000000+1):=aau _ hp.1
 have hds:ByteArray.size {data:= #[47,47]}=2:=rfl
 have hds2:ByteArray.size {data:= #[47,46,46,46]}=4:=rfl
 have hpl:ps.length≤20:=hp.1
 refine dI Tryz.func215 Tryz.ntmps215 fun x hx=>?_
 (repeat (first|refine nv ?_|refine cf (Sv ps slash (by omega) (by omega)) ?_))
 refine EX (by simp) (by simp only[kV, ↓reduceIte,Nat.reduceEqDiff,reduceCtorEq];first|done|rfl) (by simp only[kV, ↓reduceIte,Nat.reduceEqDiff,reduceCtorEq];first|done|rfl) ?_ ?_
 ·omega
 try refine nv ?_
 refine aU ?_ ?_
 ·intro h
  try refine nv ?_
  refine EX (by simp) (by simp only[kV, ↓reduceIte,Nat.reduceEqDiff,reduceCtorEq];first|done|rfl) (by simp only[kV, ↓reduceIte,Nat.reduceEqDiff,reduceCtorEq];first|done|rfl) ?_ ?_
  ·rw[aa9];omega
  try refine nv ?_
  refine rA [] ?_
  refine⟨?_,rfl⟩
  simp only[eF,h,if_true]
 ·intro h
  try refine nv ?_
  refine rA [] ?_
  refine⟨?_,rfl⟩
  simp only[eF,h,if_false,aak]
def z173.kk:=p5 kB Tryz.ntmps173 iF lS Tryz.results173
open z173 in
theorem Lh (p:fZ) (hp:PS p):AC Tryz.prog 173 [aPat p] [] (fun r st=>r= .tup [pS (if G7 p then eF p else noS),pI (dR p)]∧st=[]):=by
 have hc:=BD p hp.pb
 have ht:=SH p hp
 have hok:G7 p=decide (dR p=0):=rfl
 generalize G7 p=op at hok
 generalize dR p=cp at hc hok
 refine dI Tryz.func173 Tryz.ntmps173 fun x hx=>?_
 (repeat (first|refine nv ?_|refine cf (hc) ?_))
 refine aU ?_ ?_
 ·intro h
  have h':¬cp=0:=by simpa using h
  try refine nv ?_
  refine rA [] ?_
  refine⟨?_,rfl⟩
  rw[hok,aaE h'];rfl
 ·intro h
  have h':cp=0:=by simpa using h
  subst h'
  (repeat (first|refine nv ?_|refine cf (ht) ?_))
  refine rA [] ?_
  refine⟨?_,rfl⟩
  rw[hok];rfl
def uj (ps:List abW) (k:Nat):Nat:=5+((ps.take k).map fun x=>x.size+1).sum
theorem WS (ps:List abW) (k:Nat):uj ps k≤uj ps ps.length:=by
 unfold uj
 rw[aaP (aat _)]
 have:((ps.take k).map fun x=>x.size+1).sum+((ps.drop k).map fun x=>x.size+1).sum=(ps.map fun x=>x.size+1).sum:=by
  rw[←List.sum_append,←aa2,aaO]
 omega
theorem Fh (p:fZ):gQ p=decide (uj p.parts p.parts.length≤200):=by
 unfold gQ uj
 rw[aaP (aat _)]
def z139.kk:=p11 kB Tryz.ntmps139 Tryz.underlying53 Tryz.underlying9 iF uA jF CO lS sQ Tryz.results139
open z139 in
theorem AL (p:fZ) (hp:PS p):AC Tryz.prog 139 [aPat p] [] (fun r st=>r=B (gQ p)∧st=[]):=by
 obtain⟨ps,rs⟩:=p
 have h1:ps.length≤20:=hp.1
 rw[Fh]
 simp only
 refine dI Tryz.func139 Tryz.ntmps139 fun x hx=>?_
 try refine nv ?_
 refine aW (ι:=Nat) (I:=fun k=>⟨21,[(1, .c (.ptr 1 0)),(3,I .i64 (uj ps k)),(7,yw ps),(8,I .i64 ps.length),(9,I .i64 k)],[(1, .box ((iG ⟨ps,rs⟩).map C.d))]⟩)
  (Inv:=fun k=>k≤ps.length∧uj ps k≤200) (μ:=fun k=>ps.length-k) 0 ⟨by omega,by simp[uj]⟩ ?_ ?_
 ·(refine aY (fun i=>i) rfl ?_ ⟨?_,?_,?_,dK hx (by simp[ae,Ab.get])⟩<;>first|(simp only[kE,aC, ↓reduceIte,Nat.reduceEqDiff,reduceCtorEq,uj,List.take_zero,aa5,List.sum_nil,Nat.add_zero];done)|simp[aO,aB,ag,Ab.get,aA,bi,ax,aN,aF,aI,aG,aJ,aH,ae,List.flatten,uj,List.take_zero,aa5,List.sum_nil,Nat.add_zero])
 rintro k ⟨hk,hall⟩
 try refine nv ?_
 refine aU ?_ ?_
 ·intro hlt
  have hlt':k<ps.length:=by simpa using hlt
  obtain⟨v,hv,he,htk⟩:=round encS ps k noS hlt'
  have hvs:v.size≤2000000:=hp.2 v (aah hv)
  have hsn:uj ps (k+1)=uj ps k+(v.size+1):=by
   unfold uj
   rw[htk,aa2,List.sum_append]
   simp only[aax,aa5,List.sum_cons,List.sum_nil]
   omega
  have hadd:((uj ps k:Nat):Int)+((v.size:Nat)+1:Int)=((uj ps (k+1):Nat):Int):=by rw[hsn];omega
  try refine nx (p2 @he @hadd) ?_
  refine aU ?_ ?_
  ·intro hb
   have hb':200<uj ps (k+1):=by have:(200:Int)<uj ps (k+1):=(by simpa using hb);omega
   have:=WS ps (k+1)
   try refine nv ?_
   refine rA [] ?_
   refine⟨?_,rfl⟩
   rw[aaE (by omega)]
  ·intro hb
   have hb':uj ps (k+1)≤200:=by have:(uj ps (k+1):Int)≤200:=(by simpa using hb);omega
   try refine nv ?_
   refine⟨k+1,⟨by omega,hb'⟩,by omega,?_⟩
   exact fM
 ·intro hge
  have hk':k=ps.length:=by have:¬k<ps.length:=(by simpa using hge);omega
  subst hk'
  try refine nv ?_
  refine rA [] ?_
  refine⟨?_,rfl⟩
  rw[aaV hall]
end Go.Proofs.YtpoodoknkbojgaaGreatDoor
