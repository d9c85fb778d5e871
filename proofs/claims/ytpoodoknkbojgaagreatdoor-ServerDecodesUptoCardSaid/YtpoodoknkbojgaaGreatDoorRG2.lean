/- A part of the proof. -/
import Derived.Test.YtpoodoknkbojgaaGreatDoorRG1
set_option maxRecDepth 100000
set_option maxHeartbeats 8000000
set_option linter.all false
namespace Go.Proofs.YtpoodoknkbojgaaGreatDoor
open Go.Ab Tys
variable [Dr]
def Zy.kk:=p6 kB kS Tryz.ntmps323 Tryz.underlying9 sQ Tryz.results323
open Zy in
theorem QR (a:abW):AC Tryz.prog 323 [Str a,Str slash] [] (fun r st=>r=I .i64 (jg a)∧st=[]):=by
 refine dI Tryz.func323 Tryz.ntmps323 fun x hx=>?_
 try refine nx @jE ?_
 refine aU ?_ ?_
 ·intro h;simp at h
 intro _
 try refine nx @jE ?_
 refine aU ?_ ?_
 rotate_left
 ·intro h;simp at h
 intro _
 try refine nx @jE ?_
 refine RF [.string a, .int .u8 (((slash.data.getD (Int.toNat 0) 0).toNat:Nat):Int)] (by simp) (by simp only[gz,kk,Nat.reduceAdd,Nat.reduceLT,Nat.reduceEqDiff, ↓reduceIte,reduceCtorEq];first|done|rfl) (fun w=>by rw[run_callFunc_extern Tryz.func343 (by kernel_rfl) (by kernel_rfl) (by kernel_rfl) (e:=Extern.BytealgCount.count) (by kernel_rfl)];simp only[Lib.run_countString,Result.andThen];first|done|rfl) rfl ?_
 simp only[dB,Ab.put,Nat.reduceEqDiff, ↓reduceIte,reduceCtorEq]
 try refine nv ?_
 refine rA [] ?_
 refine⟨?_,rfl⟩
 first|rfl|(simp only[JL];rfl)|(simp[jg];done)
def Y5.kk:=p8 kB kG kS Tryz.ntmps344 Tryz.underlying9 pg sQ Tryz.results344
open Y5 in
theorem Lu (a:abW):AC Tryz.prog 344 [Str a,Str slash] [] (fun r st=>r=I .i64 (lU a)∧st=[]):=by
 refine dI Tryz.func344 Tryz.ntmps344 fun x hx=>?_
 try refine nx @jE ?_
 refine aU ?_ ?_
 ·intro h
  have h':slash=a:=by simpa using h
  try refine nv ?_
  refine rA [] ?_
  refine⟨?_,rfl⟩
  rw[←h',show lU slash=0 by decide]
 intro h
 try refine nv ?_
 refine aU ?_ ?_
 rotate_left
 ·intro h;simp at h
 intro _
 (repeat (first|refine nx @jE ?_|refine cf (pY a (((slash.data.getD (Int.toNat 0) 0).toNat:Nat):Int)) ?_))
 refine rA [] ?_
 refine⟨?_,rfl⟩
 simp only[Int.toNat_natCast,lU]
 rfl
def Zb.kk:=p3 kB Tryz.ntmps324 Tryz.results324
open Zb in
theorem RG (a:abW):AC Tryz.prog 324 [Str a,Str slash] [] (fun r st=>r=I .i64 (lU a)∧st=[]):=by
 refine dI Tryz.func324 Tryz.ntmps324 fun x hx=>?_
 (repeat (first|refine nv ?_|refine cf (Lu a) ?_))
 refine rA [] ?_
 refine⟨?_,rfl⟩
 rfl
def Yz.kk:=p9 kB kS Tryz.ntmps305 Tryz.underlying53 Tryz.underlying9 uA CO sQ Tryz.results305
open Yz in
theorem Ic (s0:abW) (hs:s0.size≤1000000):AC Tryz.prog 305 [Str s0,Str slash,I .i64 0,I .i64 (-1)] [] (fun r st=>r=yw (split s0)∧st=[]):=by
 have hc:=Nk s0
 have hmin:min ((jg s0:Int)+1) ((s0.size:Int)+1)=(jg s0:Int)+1:=by omega
 have hnat:((jg s0:Int)+1).toNat=jg s0+1:=by omega
 refine dI Tryz.func305 Tryz.ntmps305 fun x hx=>?_
 try refine nv ?_
 refine aU ?_ ?_
 ·intro h;simp at h
 intro _
 try refine nv ?_
 refine aU ?_ ?_
 ·intro h;exact absurd h (by decide)
 intro _
 try refine nv ?_
 refine aU ?_ ?_
 rotate_left
 ·intro h;simp at h
 intro _
 (repeat (first|refine nx (p2 @hmin @hnat) ?_|refine cf (QR s0) ?_))
 refine aW (ι:=List abW×abW) (I:=fun i=>⟨66,[(0,Str i.2),(1,Str slash),(2,I .i64 0),(3,I .i64 (jg s0)),(9, .c (.ms 31 1 0 (jg s0+1))),(10,I .i64 i.1.length)],
  [(31,aC 1 ((i.1++List.replicate (jg s0+1-i.1.length) ByteArray.empty).map encS))]⟩)
  (Inv:=fun i=>i.1.length≤jg s0∧i.2.size≤1000000∧i.1++splitN (jg s0-i.1.length) i.2=split s0) (μ:=fun i=>jg s0-i.1.length) ([],s0) ⟨by simp,hs,by simp[split]⟩ ?_ ?_
 ·(refine aY (fun i=>i) rfl ?_ ⟨?_,?_,?_,dK hx (by simp[ae,Ab.get])⟩<;>first|(simp only[kE,aC, ↓reduceIte,Nat.reduceEqDiff,reduceCtorEq,List.replicate_succ];done)|simp[aO,aB,ag,Ab.get,aA,bi,ax,aN,aF,aI,aG,aJ,aH,ae,List.flatten,List.replicate_succ])
 ·rintro⟨done,rest⟩ ⟨h1,h2,h3⟩
  simp only at h1 h2 h3⊢
  have hi:=Vo rest
  have hg:=U7 rest
  try refine nv ?_
  refine aU ?_ ?_
  ·intro hlt
   have hlt':done.length<jg s0:=by simpa using hlt
   (repeat (first|refine nv ?_|refine cf (RG rest) ?_))
   refine aU ?_ ?_
   ·intro hneg
    have hneg':lU rest<0:=by simpa using hneg
    have ht:=Ie done (jg s0+1-done.length) rest (by omega)
    have hn:((done.length:Int)+1).toNat=done.length+1:=by omega
    try refine nx @TB ?_
    refine dm (ay (i:=62) (id:=31) (sz:=1) (ys:=((done++List.replicate (jg s0+1-done.length) ByteArray.empty).set done.length rest).map encS) rfl rfl (by simp;omega)) ?_
    refine dQ ?_
    try refine nx @hn ?_
    refine rA [] ?_
    refine⟨?_,rfl⟩
    rw[Aa hneg'] at h3
    rw[←List.map_take,ht,h3]
   ·intro hpos
    have hpos':0≤lU rest:=by simpa using hpos
    have e0:(lU rest+0).toNat=(lU rest).toNat:=by omega
    have e1:(lU rest+((1:Nat):Int)).toNat=(lU rest).toNat+1:=by omega
    have hk:jg s0+1-done.length=(jg s0-done.length)+1:=by omega
    have hk':jg s0-done.length=(jg s0-(done.length+1))+1:=by omega
    (repeat (first|refine Ym ?_|refine XO (wr:=false) (by simp only[kk,Nat.reduceAdd,Nat.reduceLT,Nat.reduceEqDiff, ↓reduceIte,reduceCtorEq,jE,TB,e0,e1,hk,ED];first|done|rfl) ?_))
    refine⟨(done++[rest.extract 0 (lU rest).toNat],rest.extract ((lU rest).toNat+1) rest.size),⟨by simp;omega,by simp;omega,?_⟩,by simp;omega,?_⟩
    ·rw[←h3,hk',splitN,if_neg (by omega)];simp
    ·have hk2:jg s0+1-(done.length+1)=jg s0-done.length:=by omega
     exact WF @hk2
  ·intro hge
   have hge':done.length=jg s0:=by have:¬done.length<jg s0:=by simpa using hge
                                   omega
   have ht:=Ie done (jg s0+1-done.length) rest (by omega)
   have hn:((done.length:Int)+1).toNat=done.length+1:=by omega
   try refine nx @TB ?_
   refine dm (ay (i:=62) (id:=31) (sz:=1) (ys:=((done++List.replicate (jg s0+1-done.length) ByteArray.empty).set done.length rest).map encS) rfl rfl (by simp;omega)) ?_
   refine dQ ?_
   try refine nx @hn ?_
   refine rA [] ?_
   refine⟨?_,rfl⟩
   rw[show jg s0-done.length=0 by omega,splitN] at h3
   rw[←List.map_take,ht,h3]
def Zq.kk:=p3 kB Tryz.ntmps262 Tryz.results262
open Zq in
theorem Qc (s0:abW) (hs:s0.size≤1000000):AC Tryz.prog 262 [Str s0,Str slash] [] (fun r st=>r=yw (split s0)∧st=[]):=by
 refine dI Tryz.func262 Tryz.ntmps262 fun x hx=>?_
 (repeat (first|refine nv ?_|refine cf (Ic s0 hs) ?_))
 refine rA [] ?_
 refine⟨?_,rfl⟩
 rfl
end Go.Proofs.YtpoodoknkbojgaaGreatDoor
