/- A part of the proof. -/
import Derived.Test.YtcpgicfphakdaaaGreatDoorRPD
set_option maxRecDepth 100000
set_option maxHeartbeats 8000000
set_option linter.all false
namespace Go.Proofs.YtcpgicfphakdaaaGreatDoor
open Go.Ab Tys
variable [Dr]
def aeb.kk:=p3 kB Tryz.ntmps215 Tryz.results215
open aeb in
theorem LZ (a b:ByteArray):AC Tryz.prog 215 [Str a,Str b] [] (fun r st=>r=I .i64 (Lib.compareBytes a.data.toList b.data.toList)∧st=[]):=by
 refine bV Tryz.func215 Tryz.ntmps215 fun x hx=>?_
 try refine nv ?_
 refine Sm [.string a, .string b] (by simp) (by simp only[iV,kk,Nat.reduceAdd,Nat.reduceLT,Nat.reduceEqDiff, ↓reduceIte,reduceCtorEq];first|done|rfl) (fun w=>by rw[run_callFunc_extern Tryz.func249 (by kernel_rfl) (by kernel_rfl) (by kernel_rfl) (e:=Extern.BytealgCompare.compare) (by kernel_rfl)];simp only[Lib.run_compareString,Result.andThen];first|done|rfl) rfl ?_
 simp only[iy,Ab.put,Nat.reduceEqDiff, ↓reduceIte,reduceCtorEq]
 try refine nv ?_
 refine rA [] ?_
 refine⟨?_,rfl⟩
 rfl
def z154.kk:=p3 kB Tryz.ntmps154 Tryz.results154
open z154 in
theorem Ap (a b:ByteArray):AC Tryz.prog 154 [Str a,Str b] [] (fun r st=>r=I .i64 (Lib.compareBytes a.data.toList b.data.toList)∧st=[]):=by
 refine bV Tryz.func154 Tryz.ntmps154 fun x hx=>?_
 (repeat (first|refine nv ?_|refine cf (LZ a b) ?_))
 refine rA [] ?_
 refine⟨?_,rfl⟩
 rfl
def aeJ.kk:=p3 kB Tryz.ntmps263 Tryz.results263
open aeJ in
theorem yM (a:ByteArray) (c:Int):AC Tryz.prog 263 [Str a,I .u8 c] [] (fun r st=>r=I .i64 (Lib.indexByte a.data.toList c.toNat.toUInt8)∧st=[]):=by
 refine bV Tryz.func263 Tryz.ntmps263 fun x hx=>?_
 try refine nv ?_
 refine Sm [.string a, .int .u8 c] (by simp) (by simp only[iV,kk,Nat.reduceAdd,Nat.reduceLT,Nat.reduceEqDiff, ↓reduceIte,reduceCtorEq];first|done|rfl) (fun w=>by rw[run_callFunc_extern Tryz.func272 (by kernel_rfl) (by kernel_rfl) (by kernel_rfl) (e:=Extern.BytealgIndexByte.indexByte) (by kernel_rfl)];simp only[Lib.run_indexByteString,Result.andThen];first|done|rfl) rfl ?_
 simp only[iy,Ab.put,Nat.reduceEqDiff, ↓reduceIte,reduceCtorEq]
 try refine nv ?_
 refine rA [] ?_
 refine⟨?_,rfl⟩
 rfl
def aeY.kk:=p3 kB Tryz.ntmps246 Tryz.results246
open aeY in
theorem Cm (a:ByteArray) (c:Int):AC Tryz.prog 246 [Str a,I .u8 c] [] (fun r st=>r=I .i64 (Lib.indexByte a.data.toList c.toNat.toUInt8)∧st=[]):=by
 refine bV Tryz.func246 Tryz.ntmps246 fun x hx=>?_
 (repeat (first|refine nv ?_|refine cf (yM a c) ?_))
 refine rA [] ?_
 refine⟨?_,rfl⟩
 rfl
def aeu.kk:=p7 kB kG kS Tryz.ntmps240 Tryz.underlying9 jy Tryz.results240
open aeu in
theorem yj (s p:ByteArray):AC Tryz.prog 240 [Str s,Str p] [] (fun r st=>r=B (hasPrefix s p)∧st=[]):=by
 refine bV Tryz.func240 Tryz.ntmps240 fun x hx=>?_
 try refine nv ?_
 refine gq ?_ ?_
 ·exact gI @of_decide_eq_true
 refine aJ ?_
 refine rA [] ?_
 refine⟨?_,rfl⟩
 cases h:decide (p.size≤s.size)<;>simp_all[hasPrefix]
def z194.kk:=p3 kB Tryz.ntmps194 Tryz.results194
open z194 in
theorem qK (s p:ByteArray):AC Tryz.prog 194 [Str s,Str p] [] (fun r st=>r=B (hasPrefix s p)∧st=[]):=by
 refine bV Tryz.func194 Tryz.ntmps194 fun x hx=>?_
 (repeat (first|refine nv ?_|refine cf (yj s p) ?_))
 refine rA [] ?_
 refine⟨?_,rfl⟩
 rfl
def aet.kk:=p6 kB kS Tryz.ntmps267 Tryz.underlying9 jy Tryz.results267
open aet in
theorem Zp (a:ByteArray):AC Tryz.prog 267 [Str a,Str slash] [] (fun r st=>r=I .i64 (ou a)∧st=[]):=by
 refine bV Tryz.func267 Tryz.ntmps267 fun x hx=>?_
 try refine nx @pG ?_
 refine af ?_ ?_
 ·intro h;simp at h
 intro _
 try refine nx @pG ?_
 refine af ?_ ?_
 rotate_left
 ·intro h;simp at h
 intro _
 try refine nx @pG ?_
 refine Sm [.string a, .int .u8 (((slash.data.getD (Int.toNat 0) 0).toNat:Nat):Int)] (by simp) (by simp only[iV,kk,Nat.reduceAdd,Nat.reduceLT,Nat.reduceEqDiff, ↓reduceIte,reduceCtorEq];first|done|rfl) (fun w=>by rw[run_callFunc_extern Tryz.func275 (by kernel_rfl) (by kernel_rfl) (by kernel_rfl) (e:=Extern.BytealgCount.count) (by kernel_rfl)];simp only[Lib.run_countString,Result.andThen];first|done|rfl) rfl ?_
 simp only[iy,Ab.put,Nat.reduceEqDiff, ↓reduceIte,reduceCtorEq]
 try refine nv ?_
 refine rA [] ?_
 refine⟨?_,rfl⟩
 first|rfl|(simp only[RH];rfl)|(simp[ou];done)
def aeg.kk:=p8 kB kG kS Tryz.ntmps276 Tryz.underlying9 uK jy Tryz.results276
open aeg in
theorem RX (a:ByteArray):AC Tryz.prog 276 [Str a,Str slash] [] (fun r st=>r=I .i64 (sO a)∧st=[]):=by
 refine bV Tryz.func276 Tryz.ntmps276 fun x hx=>?_
 try refine nx @pG ?_
 refine af ?_ ?_
 ·intro h
  have h':slash=a:=by simpa using h
  try refine nv ?_
  refine rA [] ?_
  refine⟨?_,rfl⟩
  rw[←h',show sO slash=0 by decide]
 intro h
 try refine nv ?_
 refine af ?_ ?_
 rotate_left
 ·intro h;simp at h
 intro _
 (repeat (first|refine nx @pG ?_|refine cf (yM a (((slash.data.getD (Int.toNat 0) 0).toNat:Nat):Int)) ?_))
 refine rA [] ?_
 refine⟨?_,rfl⟩
 simp only[Int.toNat_natCast,sO]
 rfl
def aer.kk:=p3 kB Tryz.ntmps268 Tryz.results268
open aer in
theorem Zz (a:ByteArray):AC Tryz.prog 268 [Str a,Str slash] [] (fun r st=>r=I .i64 (sO a)∧st=[]):=by
 refine bV Tryz.func268 Tryz.ntmps268 fun x hx=>?_
 (repeat (first|refine nv ?_|refine cf (RX a) ?_))
 refine rA [] ?_
 refine⟨?_,rfl⟩
 rfl
def aeQ.kk:=p9 kB kS Tryz.ntmps250 Tryz.underlying74 Tryz.underlying9 eH jO jy Tryz.results250
open aeQ in
theorem Q4 (s0:ByteArray) (hs:s0.size≤1000000):AC Tryz.prog 250 [Str s0,Str slash,I .i64 0,I .i64 (-1)] [] (fun r st=>r=dJ (split s0)∧st=[]):=by
 have hc:=TW s0
 have hmin:min ((ou s0:Int)+1) ((s0.size:Int)+1)=(ou s0:Int)+1:=by omega
 have hnat:((ou s0:Int)+1).toNat=ou s0+1:=by omega
 refine bV Tryz.func250 Tryz.ntmps250 fun x hx=>?_
 try refine nv ?_
 refine af ?_ ?_
 ·intro h;simp at h
 intro _
 try refine nv ?_
 refine af ?_ ?_
 ·intro h;exact absurd h (by decide)
 intro _
 try refine nv ?_
 refine af ?_ ?_
 rotate_left
 ·intro h;simp at h
 intro _
 (repeat (first|refine nx (p2 @hmin @hnat) ?_|refine cf (Zp s0) ?_))
 refine ag (ι:=List ByteArray×ByteArray) (I:=fun i=>⟨66,[(0,Str i.2),(1,Str slash),(2,I .i64 0),(3,I .i64 (ou s0)),(9, .c (.ms 31 1 0 (ou s0+1))),(10,I .i64 i.1.length)],
  [(31,aQ 1 ((i.1++List.replicate (ou s0+1-i.1.length) ByteArray.empty).map encS))]⟩)
  (Inv:=fun i=>i.1.length≤ou s0∧i.2.size≤1000000∧i.1++splitN (ou s0-i.1.length) i.2=split s0) (μ:=fun i=>ou s0-i.1.length) ([],s0) ⟨by simp,hs,by simp[split]⟩ ?_ ?_
 ·(refine fZ (fun i=>i) rfl ?_ ⟨?_,?_,?_,gu hx (by simp[ae,Ab.get])⟩<;>first|(simp only[kE,aQ, ↓reduceIte,Nat.reduceEqDiff,reduceCtorEq,List.replicate_succ];done)|simp[di,bf,aA,Ab.get,aZ,dH,aN,bY,bG,bH,bD,bI,bC,ae,List.flatten,List.replicate_succ])
 ·rintro⟨done,rest⟩ ⟨h1,h2,h3⟩
  simp only at h1 h2 h3⊢
  have hi:=abd rest
  have hg:=aa7 rest
  try refine nv ?_
  refine af ?_ ?_
  ·intro hlt
   have hlt':done.length<ou s0:=by simpa using hlt
   (repeat (first|refine nv ?_|refine cf (Zz rest) ?_))
   refine af ?_ ?_
   ·intro hneg
    have hneg':sO rest<0:=by simpa using hneg
    have ht:=Pi done (ou s0+1-done.length) rest (by omega)
    have hn:((done.length:Int)+1).toNat=done.length+1:=by omega
    try refine nx @yS ?_
    refine aG (aI (i:=62) (id:=31) (sz:=1) (ys:=((done++List.replicate (ou s0+1-done.length) ByteArray.empty).set done.length rest).map encS) rfl rfl (by simp;omega)) ?_
    refine dM ?_
    try refine nx @hn ?_
    refine rA [] ?_
    refine⟨?_,rfl⟩
    rw[Ho hneg'] at h3
    rw[←List.map_take,ht,h3]
   ·intro hpos
    have hpos':0≤sO rest:=by simpa using hpos
    have e0:(sO rest+0).toNat=(sO rest).toNat:=by omega
    have e1:(sO rest+((1:Nat):Int)).toNat=(sO rest).toNat+1:=by omega
    have hk:ou s0+1-done.length=(ou s0-done.length)+1:=by omega
    have hk':ou s0-done.length=(ou s0-(done.length+1))+1:=by omega
    (repeat (first|refine xO ?_|refine wX (wr:=false) (by simp only[kk,Nat.reduceAdd,Nat.reduceLT,Nat.reduceEqDiff, ↓reduceIte,reduceCtorEq,pG,yS,e0,e1,hk,Kv];first|done|rfl) ?_))
    refine⟨(done++[rest.extract 0 (sO rest).toNat],rest.extract ((sO rest).toNat+1) rest.size),⟨by simp;omega,by simp;omega,?_⟩,by simp;omega,?_⟩
    ·rw[←h3,hk',splitN,if_neg (by omega)];simp
    ·have hk2:ou s0+1-(done.length+1)=ou s0-done.length:=by omega
     exact tK @hk2
  ·intro hge
   have hge':done.length=ou s0:=by have:¬done.length<ou s0:=by simpa using hge
                                   omega
   have ht:=Pi done (ou s0+1-done.length) rest (by omega)
   have hn:((done.length:Int)+1).toNat=done.length+1:=by omega
   try refine nx @yS ?_
   refine aG (aI (i:=62) (id:=31) (sz:=1) (ys:=((done++List.replicate (ou s0+1-done.length) ByteArray.empty).set done.length rest).map encS) rfl rfl (by simp;omega)) ?_
   refine dM ?_
   try refine nx @hn ?_
   refine rA [] ?_
   refine⟨?_,rfl⟩
   rw[show ou s0-done.length=0 by omega,splitN] at h3
   rw[←List.map_take,ht,h3]
def z218.kk:=p3 kB Tryz.ntmps218 Tryz.results218
open z218 in
theorem CU (s0:ByteArray) (hs:s0.size≤1000000):AC Tryz.prog 218 [Str s0,Str slash] [] (fun r st=>r=dJ (split s0)∧st=[]):=by
 refine bV Tryz.func218 Tryz.ntmps218 fun x hx=>?_
 (repeat (first|refine nv ?_|refine cf (Q4 s0 hs) ?_))
 refine rA [] ?_
 refine⟨?_,rfl⟩
 rfl
end Go.Proofs.YtcpgicfphakdaaaGreatDoor
