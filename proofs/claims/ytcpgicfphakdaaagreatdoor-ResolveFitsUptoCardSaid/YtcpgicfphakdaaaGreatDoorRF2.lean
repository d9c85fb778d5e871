/- A part of the proof. -/
import Derived.Test.YtcpgicfphakdaaaGreatDoorRPD
set_option maxRecDepth 100000
set_option maxHeartbeats 8000000
set_option linter.all false
namespace Go.Proofs.YtcpgicfphakdaaaGreatDoor
open Go.Ab Tys
variable [Dr]
def ajf.kk:=p3 kB Tryz.ntmps215 Tryz.results215
open ajf in
theorem PK (a b:akK):AC Tryz.prog 215 [Str a,Str b] [] (fun r st=>r=I .i64 (Lib.compareBytes a.data.toList b.data.toList)∧st=[]):=by
 refine df Tryz.func215 Tryz.ntmps215 fun x hx=>?_
 try refine nv ?_
 refine Vp [.string a, .string b] (by simp) (by simp only[jv,kk,Nat.reduceAdd,Nat.reduceLT,Nat.reduceEqDiff, ↓reduceIte,reduceCtorEq];first|done|rfl) (fun w=>by rw[run_callFunc_extern Tryz.func249 (by kernel_rfl) (by kernel_rfl) (by kernel_rfl) (e:=Extern.BytealgCompare.compare) (by kernel_rfl)];simp only[Lib.run_compareString,Result.andThen];first|done|rfl) rfl ?_
 simp only[fZ,Ab.put,Nat.reduceEqDiff, ↓reduceIte,reduceCtorEq]
 try refine nv ?_
 refine rA [] ?_
 refine⟨?_,rfl⟩
 rfl
def z154.kk:=p3 kB Tryz.ntmps154 Tryz.results154
open z154 in
theorem BV (a b:akK):AC Tryz.prog 154 [Str a,Str b] [] (fun r st=>r=I .i64 (Lib.compareBytes a.data.toList b.data.toList)∧st=[]):=by
 refine df Tryz.func154 Tryz.ntmps154 fun x hx=>?_
 (repeat (first|refine nv ?_|refine cf (PK a b) ?_))
 refine rA [] ?_
 refine⟨?_,rfl⟩
 rfl
def aja.kk:=p3 kB Tryz.ntmps263 Tryz.results263
open aja in
theorem zK (a:akK) (c:Int):AC Tryz.prog 263 [Str a,I .u8 c] [] (fun r st=>r=I .i64 (Lib.indexByte a.data.toList c.toNat.toUInt8)∧st=[]):=by
 refine df Tryz.func263 Tryz.ntmps263 fun x hx=>?_
 try refine nv ?_
 refine Vp [.string a, .int .u8 c] (by simp) (by simp only[jv,kk,Nat.reduceAdd,Nat.reduceLT,Nat.reduceEqDiff, ↓reduceIte,reduceCtorEq];first|done|rfl) (fun w=>by rw[run_callFunc_extern Tryz.func272 (by kernel_rfl) (by kernel_rfl) (by kernel_rfl) (e:=Extern.BytealgIndexByte.indexByte) (by kernel_rfl)];simp only[Lib.run_indexByteString,Result.andThen];first|done|rfl) rfl ?_
 simp only[fZ,Ab.put,Nat.reduceEqDiff, ↓reduceIte,reduceCtorEq]
 try refine nv ?_
 refine rA [] ?_
 refine⟨?_,rfl⟩
 rfl
def ah2.kk:=p3 kB Tryz.ntmps246 Tryz.results246
open ah2 in
theorem P5 (a:akK) (c:Int):AC Tryz.prog 246 [Str a,I .u8 c] [] (fun r st=>r=I .i64 (Lib.indexByte a.data.toList c.toNat.toUInt8)∧st=[]):=by
 refine df Tryz.func246 Tryz.ntmps246 fun x hx=>?_
 (repeat (first|refine nv ?_|refine cf (zK a c) ?_))
 refine rA [] ?_
 refine⟨?_,rfl⟩
 rfl
def aiZ.kk:=p7 kB kG kS Tryz.ntmps240 Tryz.underlying9 jB Tryz.results240
open aiZ in
theorem Ap (s p:akK):AC Tryz.prog 240 [Str s,Str p] [] (fun r st=>r=B (hasPrefix s p)∧st=[]):=by
 refine df Tryz.func240 Tryz.ntmps240 fun x hx=>?_
 try refine nv ?_
 refine gq ?_ ?_
 ·exact eQ @agw
 refine aZ ?_
 refine rA [] ?_
 refine⟨?_,rfl⟩
 cases h:decide (p.size≤s.size)<;>simp_all[hasPrefix]
def z194.kk:=p3 kB Tryz.ntmps194 Tryz.results194
open z194 in
theorem rU (s p:akK):AC Tryz.prog 194 [Str s,Str p] [] (fun r st=>r=B (hasPrefix s p)∧st=[]):=by
 refine df Tryz.func194 Tryz.ntmps194 fun x hx=>?_
 (repeat (first|refine nv ?_|refine cf (Ap s p) ?_))
 refine rA [] ?_
 refine⟨?_,rfl⟩
 rfl
def ai2.kk:=p6 kB kS Tryz.ntmps267 Tryz.underlying9 jB Tryz.results267
open ai2 in
theorem abD (a:akK):AC Tryz.prog 267 [Str a,Str slash] [] (fun r st=>r=I .i64 (o6 a)∧st=[]):=by
 refine df Tryz.func267 Tryz.ntmps267 fun x hx=>?_
 try refine nx @qp ?_
 refine aj ?_ ?_
 ·intro h;simp at h
 intro _
 try refine nx @qp ?_
 refine aj ?_ ?_
 rotate_left
 ·intro h;simp at h
 intro _
 try refine nx @qp ?_
 refine Vp [.string a, .int .u8 (((slash.data.getD (Int.toNat 0) 0).toNat:Nat):Int)] (by simp) (by simp only[jv,kk,Nat.reduceAdd,Nat.reduceLT,Nat.reduceEqDiff, ↓reduceIte,reduceCtorEq];first|done|rfl) (fun w=>by rw[run_callFunc_extern Tryz.func275 (by kernel_rfl) (by kernel_rfl) (by kernel_rfl) (e:=Extern.BytealgCount.count) (by kernel_rfl)];simp only[Lib.run_countString,Result.andThen];first|done|rfl) rfl ?_
 simp only[fZ,Ab.put,Nat.reduceEqDiff, ↓reduceIte,reduceCtorEq]
 try refine nv ?_
 refine rA [] ?_
 refine⟨?_,rfl⟩
 first|rfl|(simp only[U9];rfl)|(simp[o6];done)
def ah3.kk:=p8 kB kG kS Tryz.ntmps276 Tryz.underlying9 mG jB Tryz.results276
open ah3 in
theorem WS (a:akK):AC Tryz.prog 276 [Str a,Str slash] [] (fun r st=>r=I .i64 (uK a)∧st=[]):=by
 refine df Tryz.func276 Tryz.ntmps276 fun x hx=>?_
 try refine nx @qp ?_
 refine aj ?_ ?_
 ·intro h
  have h':slash=a:=by simpa using h
  try refine nv ?_
  refine rA [] ?_
  refine⟨?_,rfl⟩
  rw[←h',show uK slash=0 by decide]
 intro h
 try refine nv ?_
 refine aj ?_ ?_
 rotate_left
 ·intro h;simp at h
 intro _
 (repeat (first|refine nx @qp ?_|refine cf (zK a (((slash.data.getD (Int.toNat 0) 0).toNat:Nat):Int)) ?_))
 refine rA [] ?_
 refine⟨?_,rfl⟩
 simp only[Int.toNat_natCast,uK]
 rfl
def ahX.kk:=p3 kB Tryz.ntmps268 Tryz.results268
open ahX in
theorem abH (a:akK):AC Tryz.prog 268 [Str a,Str slash] [] (fun r st=>r=I .i64 (uK a)∧st=[]):=by
 refine df Tryz.func268 Tryz.ntmps268 fun x hx=>?_
 (repeat (first|refine nv ?_|refine cf (WS a) ?_))
 refine rA [] ?_
 refine⟨?_,rfl⟩
 rfl
def ail.kk:=p9 kB kS Tryz.ntmps250 Tryz.underlying74 Tryz.underlying9 jy rZ jB Tryz.results250
open ail in
theorem Su (s0:akK) (hs:s0.size≤1000000):AC Tryz.prog 250 [Str s0,Str slash,I .i64 0,I .i64 (-1)] [] (fun r st=>r=jr (split s0)∧st=[]):=by
 have hc:=XR s0
 have hmin:min ((o6 s0:Int)+1) ((s0.size:Int)+1)=(o6 s0:Int)+1:=by omega
 have hnat:((o6 s0:Int)+1).toNat=o6 s0+1:=by omega
 refine df Tryz.func250 Tryz.ntmps250 fun x hx=>?_
 try refine nv ?_
 refine aj ?_ ?_
 ·intro h;simp at h
 intro _
 try refine nv ?_
 refine aj ?_ ?_
 ·intro h;exact absurd h (by decide)
 intro _
 try refine nv ?_
 refine aj ?_ ?_
 rotate_left
 ·intro h;simp at h
 intro _
 (repeat (first|refine nx (p2 @hmin @hnat) ?_|refine cf (abD s0) ?_))
 refine au (ι:=List akK×akK) (I:=fun i=>⟨66,[(0,Str i.2),(1,Str slash),(2,I .i64 0),(3,I .i64 (o6 s0)),(9, .c (.ms 31 1 0 (o6 s0+1))),(10,I .i64 i.1.length)],
  [(31,ay 1 ((i.1++List.replicate (o6 s0+1-i.1.length) ByteArray.empty).map encS))]⟩)
  (Inv:=fun i=>i.1.length≤o6 s0∧i.2.size≤1000000∧i.1++splitN (o6 s0-i.1.length) i.2=split s0) (μ:=fun i=>o6 s0-i.1.length) ([],s0) ⟨by simp,hs,by simp[split]⟩ ?_ ?_
 ·(refine bi (fun i=>i) rfl ?_ ⟨?_,?_,?_,bW hx (by simp[ae,Ab.get])⟩<;>first|(simp only[kE,ay, ↓reduceIte,Nat.reduceEqDiff,reduceCtorEq,List.replicate_succ];done)|simp[aH,ax,ah,Ab.get,aJ,cZ,aB,bF,aS,aO,aQ,aT,aP,ae,List.flatten,List.replicate_succ])
 ·rintro⟨done,rest⟩ ⟨h1,h2,h3⟩
  simp only at h1 h2 h3⊢
  have hi:=aee rest
  have hg:=adU rest
  try refine nv ?_
  refine aj ?_ ?_
  ·intro hlt
   have hlt':done.length<o6 s0:=by simpa using hlt
   (repeat (first|refine nv ?_|refine cf (abH rest) ?_))
   refine aj ?_ ?_
   ·intro hneg
    have hneg':uK rest<0:=by simpa using hneg
    have ht:=Ub done (o6 s0+1-done.length) rest (by omega)
    have hn:((done.length:Int)+1).toNat=done.length+1:=by omega
    try refine nx @Cb ?_
    refine bC (aY (i:=62) (id:=31) (sz:=1) (ys:=((done++List.replicate (o6 s0+1-done.length) ByteArray.empty).set done.length rest).map encS) rfl rfl (by simp;omega)) ?_
    refine fE ?_
    try refine nx @hn ?_
    refine rA [] ?_
    refine⟨?_,rfl⟩
    rw[KA hneg'] at h3
    rw[←List.map_take,ht,h3]
   ·intro hpos
    have hpos':0≤uK rest:=by simpa using hpos
    have e0:(uK rest+0).toNat=(uK rest).toNat:=by omega
    have e1:(uK rest+((1:Nat):Int)).toNat=(uK rest).toNat+1:=by omega
    have hk:o6 s0+1-done.length=(o6 s0-done.length)+1:=by omega
    have hk':o6 s0-done.length=(o6 s0-(done.length+1))+1:=by omega
    (repeat (first|refine Io ?_|refine Gl (wr:=false) (by simp only[kk,Nat.reduceAdd,Nat.reduceLT,Nat.reduceEqDiff, ↓reduceIte,reduceCtorEq,qp,Cb,e0,e1,hk,OU];first|done|rfl) ?_))
    refine⟨(done++[rest.extract 0 (uK rest).toNat],rest.extract ((uK rest).toNat+1) rest.size),⟨by simp;omega,by simp;omega,?_⟩,by simp;omega,?_⟩
    ·rw[←h3,hk',splitN,if_neg (by omega)];simp
    ·have hk2:o6 s0+1-(done.length+1)=o6 s0-done.length:=by omega
     exact Dc @hk2
  ·intro hge
   have hge':done.length=o6 s0:=by have:¬done.length<o6 s0:=by simpa using hge
                                   omega
   have ht:=Ub done (o6 s0+1-done.length) rest (by omega)
   have hn:((done.length:Int)+1).toNat=done.length+1:=by omega
   try refine nx @Cb ?_
   refine bC (aY (i:=62) (id:=31) (sz:=1) (ys:=((done++List.replicate (o6 s0+1-done.length) ByteArray.empty).set done.length rest).map encS) rfl rfl (by simp;omega)) ?_
   refine fE ?_
   try refine nx @hn ?_
   refine rA [] ?_
   refine⟨?_,rfl⟩
   rw[show o6 s0-done.length=0 by omega,splitN] at h3
   rw[←List.map_take,ht,h3]
def z218.kk:=p3 kB Tryz.ntmps218 Tryz.results218
open z218 in
theorem Jg (s0:akK) (hs:s0.size≤1000000):AC Tryz.prog 218 [Str s0,Str slash] [] (fun r st=>r=jr (split s0)∧st=[]):=by
 refine df Tryz.func218 Tryz.ntmps218 fun x hx=>?_
 (repeat (first|refine nv ?_|refine cf (Su s0 hs) ?_))
 refine rA [] ?_
 refine⟨?_,rfl⟩
 rfl
def aiW.kk:=p2 (p9 kB kG Tryz.ntmps122 Tryz.underlying60 pY mJ vT lQ nR) (p8 nM uP mG BP y7 wo jB Tryz.results122)
open aiW in
theorem aaW (c:iZ) (z:ou) (hc:c.edits.length≤1000000):AC Tryz.prog 122 [Px c,Z7 z] [] (fun r st=>r=B (wH c z)∧st=[]):=by
 refine df Tryz.func122 Tryz.ntmps122 fun x hx=>?_
 try refine nv ?_
 refine au (ι:=Nat) (I:=fun k=>⟨62,[(3, .c (.ptr 3 0)),(5,I .i64 ((c.edits.take k).filter (rP z)).length),(9, .c (.d (.ps 12 (c.edits.map bK)))),(10,I .i64 c.edits.length),(11,I .i64 k)],[(3, .box ((bK z).map C.d))]⟩)
  (Inv:=fun k=>k≤c.edits.length) (μ:=fun k=>c.edits.length-k) 0 (by omega) ?_ ?_
 ·exact bQ
 ·intro k hk
  have hF:=tq (rP z) c.edits k
  try refine nv ?_
  refine aj ?_ ?_
  ·intro hlt
   have hlt':k<c.edits.length:=by simpa using hlt
   obtain⟨y,hy,he,htk⟩:=round bK c.edits k bZ hlt'
   try refine nx @he ?_
   refine aj ?_ ?_
   ·intro h
    have h':rP z y=true:=by
     rw[←h];simp only[rP];cases decide (z.act=5)<;>cases decide (y.act=4)<;>cases decide (y.frm=z.path)<;>cases decide (z.act=4)<;>cases decide (y.act=5)<;>cases decide (y.path=z.frm)<;>rfl
    try refine nv ?_
    refine⟨k+1,by omega,by omega,?_⟩
    (refine bi (fun i=>i) rfl ?_ ⟨?_,?_,?_,bW hx (by simp[ae,Ab.get])⟩<;>first|(simp only[kE,ay, ↓reduceIte,Nat.reduceEqDiff,reduceCtorEq,htk,h',ahk];done)|simp[aH,ax,ah,Ab.get,aJ,cZ,aB,bF,aS,aO,aQ,aT,aP,ae,List.flatten,htk,h',ahk])
   ·intro h
    have h':rP z y=false:=by
     rw[←h];simp only[rP];cases decide (z.act=5)<;>cases decide (y.act=4)<;>cases decide (y.frm=z.path)<;>cases decide (z.act=4)<;>cases decide (y.act=5)<;>cases decide (y.path=z.frm)<;>rfl
    try refine nv ?_
    refine⟨k+1,by omega,by omega,?_⟩
    (refine bi (fun i=>i) rfl ?_ ⟨?_,?_,?_,bW hx (by simp[ae,Ab.get])⟩<;>first|(simp only[kE,ay, ↓reduceIte,Nat.reduceEqDiff,reduceCtorEq,htk,h',ahk];done)|simp[aH,ax,ah,Ab.get,aJ,cZ,aB,bF,aS,aO,aQ,aT,aP,ae,List.flatten,htk,h',ahk])
  ·intro hge
   have hge':k=c.edits.length:=by have:¬k<c.edits.length:=by simpa using hge
                                  omega
   try refine nv ?_
   refine rA [] ?_
   refine⟨?_,rfl⟩
   rw[hge',afu]
   simp[wH,Nb,Bool.cond_true_left,Bool.cond_false_right];first|rfl|(congr 2;done)
def z88.kk:=MP kB kS Tryz.ntmps88 Tryz.underlying27 iH dM jQ kW jg qU ny iq jB Tryz.results88
open z88 in
theorem Vr (d:aW) (p:akK) (hd:d.revs.length≤1000000):AC Tryz.prog 88 [lT d,Str p] [] (fun r st=>r=qI (log d p)∧st=[]):=by
 refine df Tryz.func88 Tryz.ntmps88 fun x hx=>?_
 try refine nv ?_
 refine mQ (kH (i:=5) (id:=100) (sz:=12) rfl rfl (by omega)) ?_
 refine fE ?_
 refine au (ι:=Nat) (I:=fun k=>⟨25,[(1,Str p),(5, .c (.ms 100 12 0 ((d.revs.take k).filter fun v=>decide (v.path=p)).length)),(9,qI d.revs),(10,I .i64 d.revs.length),(11,I .i64 k)],
  [(100,ay 12 (((d.revs.take k).filter fun v=>decide (v.path=p)).map aA))]⟩)
  (Inv:=fun k=>k≤d.revs.length) (μ:=fun k=>d.revs.length-k) 0 (by omega) ?_ ?_
 ·exact bQ
 ·intro k hk
  have hF:=tq (fun v=>decide (v.path=p)) d.revs k
  try refine nv ?_
  refine aj ?_ ?_
  ·intro hlt
   have hlt':k<d.revs.length:=by simpa using hlt
   obtain⟨v,hv,he,htk⟩:=round aA d.revs k ag hlt'
   refine aZ ?_
   refine gx @he ?_
   try refine nv ?_
   refine aj ?_ ?_
   ·intro heq
    have heq':v.path=p:=by simpa using heq
    try refine nv ?_
    refine⟨k+1,by omega,by omega,?_⟩
    (refine bi (fun i=>if i=100 then 22 else i) rfl ?_ ⟨?_,?_,?_,keepR hx (by simp[ae,Ab.get])⟩<;>first|(intro i hi;have h0:=hx i hi;constructor<;>(revert h0;simp only[ae,Ab.get];(repeat' split)<;>simp_all);done)|(simp only[kE,ay, ↓reduceIte,Nat.reduceEqDiff,reduceCtorEq];done)|(simp only[ay,pz,o9,afr,agW,ajr,forall_eq_or_imp,forall_eq];simp[gz,gK,eU,iP,ah,Ab.get,aJ,cZ,aB,bF,aS,aO,aQ,aT,aP,ae,List.flatten,htk,heq',ahk];done)|simp[gz,gK,eU,iP,ah,Ab.get,aJ,cZ,aB,bF,aS,aO,aQ,aT,aP,ae,List.flatten,htk,heq',ahk])
   ·intro hne
    have hne':¬v.path=p:=by simpa using hne
    try refine nv ?_
    refine⟨k+1,by omega,by omega,?_⟩
    (refine bi (fun i=>i) rfl ?_ ⟨?_,?_,?_,bW hx (by simp[ae,Ab.get])⟩<;>first|(simp only[kE,ay, ↓reduceIte,Nat.reduceEqDiff,reduceCtorEq,htk,hne',ahk];done)|simp[aH,ax,ah,Ab.get,aJ,cZ,aB,bF,aS,aO,aQ,aT,aP,ae,List.flatten,htk,hne',ahk])
  ·intro hge
   have hge':k=d.revs.length:=by have:¬k<d.revs.length:=by simpa using hge
                                 omega
   refine aZ ?_
   refine bC (aY (i:=5) (id:=100) (ys:=((d.revs.take k).filter fun v=>decide (v.path=p)).map aA) rfl rfl (by simp)) ?_
   refine fE ?_
   try refine nv ?_
   refine rA [] ?_
   refine⟨?_,rfl⟩
   simp[log,hge']
end Go.Proofs.YtcpgicfphakdaaaGreatDoor
