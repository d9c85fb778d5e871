/- A part of the proof. -/
import Derived.Test.YtcpgicfphakdaaaGreatDoorRPD
import Derived.Test.YtcpgicfphakdaaaGreatDoorRH1
import Derived.Test.YtcpgicfphakdaaaGreatDoorRAbRm
import Derived.Test.YtcpgicfphakdaaaGreatDoorRU7
import Derived.Ground.Names8Prog
import Derived.Shelf.Lay
set_option maxRecDepth 100000
set_option maxHeartbeats 16000000
set_option linter.all false
namespace Go.Proofs.YtcpgicfphakdaaaGreatDoor
section
open Go.Ab Tys
variable [Dr]
def z7.kk:=p2 (MP kB kG Tryz.ntmps7 Tryz.underlying22 Tryz.underlying28 Tryz.underlying60 Tryz.underlying9 pY lq mJ afD pW vT lQ) (p13 qx uY rQ nR uP ahb wu BP y7 sD wo jB Tryz.results7)
open z7 in
theorem Q3 (l:List iZ) (hf:Few l):
 AC Tryz.prog 7 [.c (.d (.ps 5 (l.map gm)))] [] (fun r st=>(∃b:Bool,r=B b∧(b=true→l.length≤40∧tot l≤200∧∀c∈l,sC c))∧st=[]):=by
 have hlen:=hf.len
 have htot:=hf.tot
 refine df Tryz.func7 Tryz.ntmps7 fun x hx=>?_
 try refine nv ?_
 refine au (ι:=Nat) (I:=fun k=>⟨65,[(0, .c (.d (.ps 5 (l.map gm)))),(3,I .i64 (tot (l.take k))),(10, .c (.d (.ps 5 (l.map gm)))),(11,I .i64 l.length),(12,I .i64 k)],[]⟩)
  (Inv:=fun k=>k≤l.length∧∀c∈l.take k,sC c) (μ:=fun k=>l.length-k) 0 ⟨by omega,by simp⟩ ?_ ?_
 ·(refine bi (fun i=>i) rfl ?_ ⟨?_,?_,?_,bW hx (by simp[ae,Ab.get])⟩<;>first|(simp only[kE,ay, ↓reduceIte,Nat.reduceEqDiff,reduceCtorEq,tot];done)|simp[aH,ax,ah,Ab.get,aJ,cZ,aB,bF,aS,aO,aQ,aT,aP,ae,List.flatten,tot])
 rintro k ⟨hk,hall⟩
 have htk0:=SB l k
 try refine nv ?_
 refine aj ?_ ?_
 ·intro hlt
  have hlt':k<l.length:=by simpa using hlt
  obtain⟨c,hc,he,htk⟩:=round gm l k ag4 hlt'
  have hm:=aem hc
  have htm:=YA hm
  have htk1:=SB l (k+1)
  have e1:tot (l.take (k+1))=tot (l.take k)+(c.edits.length+c.recs.length):=by rw[htk,Lp];simp[tot]
  have e2:(((tot (l.take k):Nat):Int)+(((c.edits.length:Nat):Int)+((c.recs.length:Nat):Int)))=((tot (l.take (k+1)):Nat):Int):=by rw[e1];omega
  try refine nx (p2 @he @e2) ?_
  refine au (ι:=Nat) (I:=fun j=>⟨65,[(0, .c (.d (.ps 5 (l.map gm)))),(3,I .i64 (tot (l.take (k+1)))),(5, .c (.ptr 5 0)),(10, .c (.d (.ps 5 (l.map gm)))),(11,I .i64 l.length),(12,I .i64 k),(26, .c (.d (.ps 12 (c.edits.map bK)))),(27,I .i64 c.edits.length),(28,I .i64 j)],[(5, .box ((gm c).map C.d))]⟩)
   (Inv:=fun j=>j≤c.edits.length∧∀e∈c.edits.take j,sE e) (μ:=fun j=>c.edits.length-j) 0 ⟨by omega,by simp⟩ ?_ ?_
  ·exact bQ
  rintro j ⟨hj,hej⟩
  try refine nv ?_
  refine aj ?_ ?_
  ·intro hlt2
   have hlt2':j<c.edits.length:=by simpa using hlt2
   obtain⟨y,hy,hey,hty⟩:=round bK c.edits j bZ hlt2'
   have hys:=hf.es c hm y (aem hy)
   try refine nx @hey ?_
   refine aj ?_ ?_
   ·intro _
    try refine nv ?_
    refine rA [] ?_
    refine⟨?_,rfl⟩
    exact⟨_,rfl,fun h=>by cases h⟩
   intro hb
   have hb':sE y:=by simp at hb;unfold sE;omega
   try refine nv ?_
   refine⟨j+1,⟨by omega,?_⟩,by omega,?_⟩
   ·intro u hu
    rw[hty,afs] at hu
    rcases hu with hu|hu
    ·exact hej u hu
    ·simp at hu;rw[hu];exact hb'
   ·exact bQ
  intro hge2
  have hge2':j=c.edits.length:=by have:¬j<c.edits.length:=by simpa using hge2
                                  omega
  rw[hge2',afu] at hej
  try refine nv ?_
  refine au (ι:=Nat) (I:=fun j=>⟨65,[(0, .c (.d (.ps 5 (l.map gm)))),(3,I .i64 (tot (l.take (k+1)))),(10, .c (.d (.ps 5 (l.map gm)))),(11,I .i64 l.length),(12,I .i64 k),(42, .c (.d (.ps 6 (c.recs.map af)))),(43,I .i64 c.recs.length),(44,I .i64 j)],[]⟩)
   (Inv:=fun j=>j≤c.recs.length∧∀e∈c.recs.take j,sR e) (μ:=fun j=>c.recs.length-j) 0 ⟨by omega,by simp⟩ ?_ ?_
  ·exact bQ
  rintro j2 ⟨hj2,hrj⟩
  try refine nv ?_
  refine aj ?_ ?_
  ·intro hlt2
   have hlt2':j2<c.recs.length:=by simpa using hlt2
   obtain⟨y,hy,hey,hty⟩:=round af c.recs j2 dS hlt2'
   have hys:=hf.rs c hm y (aem hy)
   try refine nx @hey ?_
   refine aj ?_ ?_
   ·intro _
    try refine nv ?_
    refine rA [] ?_
    refine⟨?_,rfl⟩
    exact⟨_,rfl,fun h=>by cases h⟩
   intro hb
   have hb':sR y:=by simp at hb;unfold sR;omega
   try refine nv ?_
   refine⟨j2+1,⟨by omega,?_⟩,by omega,?_⟩
   ·intro u hu
    rw[hty,afs] at hu
    rcases hu with hu|hu
    ·exact hrj u hu
    ·simp at hu;rw[hu];exact hb'
   ·exact bQ
  intro hge3
  have hge3':j2=c.recs.length:=by have:¬j2<c.recs.length:=by simpa using hge3
                                  omega
  rw[hge3',afu] at hrj
  try refine nv ?_
  refine⟨k+1,⟨by omega,?_⟩,by omega,?_⟩
  ·intro u hu
   rw[htk,afs] at hu
   rcases hu with hu|hu
   ·exact hall u hu
   ·simp at hu;rw[hu];exact⟨hej,hrj⟩
  ·exact bQ
 intro hge
 have hge':k=l.length:=by have:¬k<l.length:=by simpa using hge
                          omega
 rw[hge',afu] at hall
 try refine nv ?_
 refine rA [] ?_
 refine⟨?_,rfl⟩
 refine⟨_,rfl,fun h=>?_⟩
 rw[hge',afu] at h
 simp at h
 exact⟨by omega,by omega,hall⟩
end
section
open Go.Ab Tys
variable [Dr]
variable {l0:List dZ}
@[reducible] def yz:AV:= .c (.d (.v (.func (.func 56) #[] #[])))
def EP (l0:List dZ) (n:Nat) (l:List dZ):Prop:=l.length=n∧l.Perm l0∧∀r∈l,IM r
theorem EP.swap {n:Nat} {l:List dZ} (h:EP l0 n l) {i j:Nat} (hi:i<n) (hj:j<n):EP l0 n ((l.set i (l.getD j dS)).set j (l.getD i dS)):=by
 have m1:l.getD i dS∈l:=by rw[adI,adH (by rw[h.1];exact hi)];simp
 have m2:l.getD j dS∈l:=by rw[adI,adH (by rw[h.1];exact hj)];simp
 refine⟨by simp[h.1],(Q6 l i j dS (by rw[h.1];exact hi) (by rw[h.1];exact hj)).trans h.2.1,fun r hr=>?_⟩
 rcases ajN hr with h1|rfl
 ·rcases ajN h1 with h2|rfl
  ·exact h.2.2 r h2
  ·exact h.2.2 _ m2
 ·exact h.2.2 _ m1
def aiK.kk:=p7 kB Tryz.ntmps252 lq pW wu sD Tryz.results252
open aiK in
theorem JA (len:Nat) (l:List dZ) (hl:len≤1000000) (hR:EP l0 len l) (a b n:Nat) (ha:a+n≤len) (hb:b+n≤len):
 AC Tryz.prog 252 [.c (.ms 46 6 0 len),I .i64 a,I .i64 b,I .i64 n,yz] [(46,ay 6 (l.map af))] (fun r st=>∃l',EP l0 len l'∧st=[(46,ay 6 (l'.map af))]):=by
 refine df Tryz.func252 Tryz.ntmps252 fun x hx=>?_
 try refine nv ?_
 refine au (ι:=Nat×List dZ) (I:=fun i=>⟨38,[(0, .c (.ms 46 6 0 len)),(1,I .i64 a),(2,I .i64 b),(3,I .i64 n),(10,I .i64 i.1)],[(46,ay 6 (i.2.map af))]⟩)
  (Inv:=fun i=>i.1≤n∧EP l0 len i.2) (μ:=fun i=>n-i.1) (0,l) ⟨by simp,hR⟩ ?_ ?_
 ·exact bQ
 rintro⟨k,t⟩ ⟨h1,h2⟩
 simp only at h1 h2⊢
 try refine nv ?_
 refine aj ?_ ?_
 rotate_left
 ·intro _
  try refine nv ?_
  refine rN ([(46,ay 6 (t.map af))]) ?_
  exact⟨t,h2,rfl⟩
 intro hlt
 have hlt':k<n:=by simpa using hlt
 have hj1:(((a:Nat):Int)+((k:Nat):Int)).toNat=a+k:=by omega
 have hj2:(((b:Nat):Int)+((k:Nat):Int)).toNat=b+k:=by omega
 have e1:=lI af t (a+k) dS (by rw[h2.1];omega)
 have e2:=lI af t (b+k) dS (by rw[h2.1];omega)
 have hsw:=h2.swap (i:=a+k) (j:=b+k) (by omega) (by omega)
 have htl:=h2.1
 generalize t.getD (a+k) dS=v at e1 hsw
 generalize t.getD (b+k) dS=w at e2 hsw
 try refine nv ?_
 refine pM (wr:=false) ([]:List (Nat×AV)) (by kernel_rfl) (by simp only[kD,kk,Nat.reduceAdd,Nat.reduceLT,Nat.reduceEqDiff, ↓reduceIte,reduceCtorEq,hj1,hj2,e1,e2,Tt,L8];first|done|rfl) (by first|exact trivial|(simp only[kO];omega)|(simp[All,dB];first|done|omega)|(simp+contextual [All,dB];first|done|grind)) (by kernel_rfl) ?_
 try refine nv ?_
 refine⟨(k+1,(t.set (a+k) w).set (b+k) v),⟨by simp;omega,hsw⟩,by simp;omega,?_⟩
 exact bQ
def z228.kk:=p3 kB Tryz.ntmps228 Tryz.results228
open z228 in
theorem aeR (len:Nat) (l:List dZ) (hl:len≤1000000) (hR:EP l0 len l) (a m b:Nat) (ha:a<m) (hm:m<b) (hb:b≤len):
 AC Tryz.prog 228 [.c (.ms 46 6 0 len),I .i64 a,I .i64 m,I .i64 b,yz] [(46,ay 6 (l.map af))] (fun r st=>∃l',EP l0 len l'∧st=[(46,ay 6 (l'.map af))]):=by
 refine df Tryz.func228 Tryz.ntmps228 fun x hx=>?_
 try refine nv ?_
 refine au (ι:=Nat×Nat×List dZ) (I:=fun i=>⟨58,[(0, .c (.ms 46 6 0 len)),(2,I .i64 m),(4,yz),(10,I .i64 i.1),(11,I .i64 i.2.1)],[(46,ay 6 (i.2.2.map af))]⟩)
  (Inv:=fun i=>0<i.1∧0<i.2.1∧i.1≤m∧m+i.2.1≤len∧EP l0 len i.2.2) (μ:=fun i=>i.1+i.2.1) (m-a,b-m,l) ⟨by simp;omega,by simp;omega,by simp,by simp;omega,hR⟩ ?_ ?_
 ·have c1:((m:Nat):Int)-((a:Nat):Int)=((m-a:Nat):Int):=by omega
  have c2:((b:Nat):Int)-((m:Nat):Int)=((b-m:Nat):Int):=by omega
  exact Dc (p2 @c1 @c2)
 rintro⟨i,j,t⟩ ⟨h1,h2,h3,h4,h5⟩
 simp only at h1 h2 h3 h4 h5⊢
 have c1:((m:Nat):Int)-((i:Nat):Int)=((m-i:Nat):Int):=by omega
 try refine nv ?_
 refine aj ?_ ?_
 ·intro hne
  have hne':¬i=j:=by intro e;subst e;simp at hne
  try refine nv ?_
  refine aj ?_ ?_
  ·intro hgt
   have hgt':j<i:=by simpa using hgt
   try refine nx @c1 ?_
   refine nJ ([(46,ay 6 (t.map af))]) (JA len t hl h5 (m-i) m j (by omega) (by omega)) ?_
   rintro rv9 st' ⟨t',ht',rfl⟩<;>refine nP ?_
   try refine nv ?_
   refine⟨(i-j,j,t'),⟨by simp;omega,h2,by simp;omega,h4,ht'⟩,by simp;omega,?_⟩
   have c3:((i:Nat):Int)-((j:Nat):Int)=((i-j:Nat):Int):=by omega
   exact Dc @c3
  ·intro hgt
   have hgt':i≤j:=by have:¬j<i:=by simpa using hgt
                     omega
   have c4:((m:Nat):Int)+((j:Nat):Int)-((i:Nat):Int)=((m+j-i:Nat):Int):=by omega
   try refine nx (p2 @c1 @c4) ?_
   refine nJ ([(46,ay 6 (t.map af))]) (JA len t hl h5 (m-i) (m+j-i) i (by omega) (by omega)) ?_
   rintro rv9 st' ⟨t',ht',rfl⟩<;>refine nP ?_
   try refine nv ?_
   refine⟨(i,j-i,t'),⟨h1,by simp;omega,h3,by simp;omega,ht'⟩,by simp;omega,?_⟩
   have c3:((j:Nat):Int)-((i:Nat):Int)=((j-i:Nat):Int):=by omega
   exact Dc @c3
 intro heq
 have heq':i=j:=by
  simp at heq
  omega
 subst heq'
 try refine nx @c1 ?_
 refine nJ ([(46,ay 6 (t.map af))]) (JA len t hl h5 (m-i) m i (by omega) (by omega)) ?_
 rintro rv9 st' ⟨t',ht',rfl⟩<;>refine nP ?_
 try refine nv ?_
 refine rN ([(46,ay 6 (t'.map af))]) ?_
 exact⟨t',ht',rfl⟩
end
end Go.Proofs.YtcpgicfphakdaaaGreatDoor
namespace Go.Proofs
open Go.Shelf
shelf_lay_g Lays8.n4 Nm8 4 at Tryz 116 as Tryz.growR
end Go.Proofs
namespace Go.Proofs.YtcpgicfphakdaaaGreatDoor
section
open Go.Ab Tys
variable [Dr]
theorem ab1 (id n:Nat) (hn:n≤1000000):AC Tryz.prog 116 [.c (.d (.v (.slice none 0 0))),I .i64 n] [] (fun r st=>r= .c (.ms id 6 0 0)∧st=[(id, .arr 6 [])]):=by
 obtain⟨i,u,z,h1,h2,h3,h4,h5,h6,h7,h8,h9,h10,h11⟩:=jE (P:=Tryz.prog) (T:=70) sD
 have ht:Tryz.growR_ren.t 25=70:=by kernel_rfl
 have h4':i.size=6:=h4
 have h:=SQ (P:=Tryz.prog) (f:=116) ⟨_,Tryz.func116,by kernel_rfl,by kernel_rfl⟩ (by kernel_rfl) Tryz.growR i z (by rw[ht];exact h1) h3 (by omega) (by rw[←Array.length_toList,h6,h7];exact h4.symm) id n (by rw[h5];simp only;omega) (by omega)
 rw[h4'] at h
 exact h
@[reducible] def GU (l:List dZ):List D:=[.ps 6 (l.map af)]
def z53.kk:=p12 kB kS Tryz.ntmps53 Tryz.underlying206 Tryz.underlying28 lq adl pW afp wu sD Tryz.results53
def z52.kk:=p9 kB kS Tryz.ntmps52 Tryz.underlying27 dM jQ qU iq Tryz.results52
open z52 in
theorem Y4 (l:List Rev) (h0:l≠[]) (hl:l.length≤1000):AC Tryz.prog 52 [qI l] [] (fun r st=>r= .c (.ms 7 12 0 l.length)∧st=[(7,ay 12 (l.map aA))]):=by
 have o1:∀y∈List.map (fun l=>List.map C.d l) (List.map aA l),y.length=12:=by
  intro l hl
  obtain⟨y,hy,rfl⟩:=agh.1 hl
  obtain⟨z,_,rfl⟩:=agh.1 hy
  rfl
 refine df Tryz.func52 Tryz.ntmps52 fun x hx=>?_
 try refine nv ?_
 refine Ti (sz:=12) (xs:=l.map aA) (by simp) Tryz.underlying27 (by simp only[kV, ↓reduceIte,Nat.reduceEqDiff,reduceCtorEq];first|done|rfl) (by simpa using h0) ?_
 refine fE ?_
 try refine nv ?_
 refine aj ?_ ?_
 ·intro h;cases h
 intro _
 refine aZ ?_
 refine gq ?_ ?_
 ·exact eQ @o1
 try refine nv ?_
 refine rA ([(7,ay 12 (l.map aA))]) ?_
 exact⟨rfl,rfl⟩
end
section
open Go.Ab Tys
variable [Dr]
@[reducible] def acu (L:jA):AO:= .box [.d (.ps 12 (L.revs.map aA)), .mp 1001, .mp 1002, .ms 1003 1 0 L.revs.length, .ms 1004 1 0 L.revs.length, .mp 1005, .ms 1006 1 0 L.revs.length, .ms 1007 1 0 L.revs.length, .ms 1008 1 0 L.revs.length]
@[reducible] def jZ (L:jA) (el em:List jq):List (Nat×AO):=
 [(1000,acu L),(1001, .map ((bz kF vI L.index).map dJ)),(1002, .map (el.map dJ)),(1003,ay 1 (L.prev.map eI)),(1004,ay 1 (L.fst.map eI)),(1005, .map (em.map dJ)),(1006,ay 1 (L.car.map jP)),(1007,ay 1 (L.con.map jP)),(1008,ay 1 (L.cre.map jP))]
theorem nY (m:List (bJ×Int)) (p:akK) (n:Int):dC [C.d (.v (.string p)),C.d (.v (.int .i64 n))] ((bz kF vI m).map dJ)=(ai m ⟨p,n⟩).map fun v=>(false,[C.d (.v (.int .i64 v))]):=
 gX (ve:=vI) yQ m ⟨p,n⟩
theorem zU (m:List (bJ×Int)):∀e∈(bz kF vI m).map dJ,e.1.1=true∧cu [.str, .int .i64] e.1.2:=by
 intro e he
 simp only[bz,agh] at he
 obtain⟨_,⟨f,_,rfl⟩,rfl⟩:=he
 exact⟨rfl,by simp[dJ,jY,cu]⟩
def aiA.kk:=p2 (MP kB kS kM Tryz.ntmps132 Tryz.underlying91 oG lq vG QX kQ kT uY BC D9) (p13 BJ I7 yV Om KD mG xK sD Y3 jB aaJ Em Tryz.results132)
open aiA in
theorem xM (L:jA) (hL:zi L) (el em:List jq) (r:dZ):
 AC Tryz.prog 132 [.c (.ptr 1000 0),ab5 r] (jZ L el em) (fun r' st=>r'= .c (.d (.ps 1 ((kU L r).map jP)))∧st=jZ L el em):=by
 have hN:=hL.n
 refine df Tryz.func132 Tryz.ntmps132 fun x hx=>?_
 try refine nv ?_
 refine mQ (kH (i:=5) (id:=100) (sz:=1) rfl rfl (by omega)) ?_
 refine fE ?_
 refine au (ι:=Int×List (Option (List Int))) (I:=fun i=>⟨43,[(0, .c (.ptr 1000 0)),(3, .c (.ptr 3 0)),(5, .c (.ms 100 1 0 i.2.length)),(6,I .i64 i.1)],jZ L el em++[(3, .box ((af r).map C.d)),(100,ay 1 (i.2.map jP))]⟩)
  (Inv:=fun i=>max r.first 1≤i.1∧i.2.length≤512∧i.2.length≤i.1-1∧i.2++pR L r.frm i.1 (min r.last 512-i.1+1).toNat=kU L r) (μ:=fun i=>(min r.last 512-i.1+1).toNat) (max r.first 1,[]) ⟨by simp,by simp,by simp;omega,by simp[kU]⟩ ?_ ?_
 ·exact bQ
 rintro⟨n,l⟩ ⟨h1,h2,h3,h4⟩
 simp only at h1 h2 h3 h4⊢
 try refine nv ?_
 refine aj ?_ ?_
 ·intro hlt
  have hlt':n≤min r.last 512:=by simpa using hlt
  have hn1:n≤512:=by omega
  obtain⟨q,hq⟩:∃q,(min r.last 512-n+1).toNat=q+1:=⟨(min r.last 512-n).toNat,by omega⟩
  have hq2:(min r.last 512-(n+1)+1).toNat=q:=by omega
  rw[hq,pR] at h4
  cases hk:ai L.index ⟨r.frm,n⟩ with
  |none=>
   rw[hk] at h4
   simp only[List.nil_append] at h4
   refine aZ ?_
   refine Bg (wr:=false) ([]:List (Nat×AV)) (by simp only[kD,kk,Nat.reduceAdd,Nat.reduceLT,Nat.reduceEqDiff, ↓reduceIte,reduceCtorEq,nY,hk,Option.map_none,Option.isSome];first|done|rfl) ?_ ?_
   ·exact eQ @zU
   try refine nv ?_
   refine aj ?_ ?_
   ·intro h;cases h
   intro _
   try refine nv ?_
   refine⟨(n+1,l),⟨by simp;omega,h2,by simp;omega,by rw[hq2];exact h4⟩,by simp;omega,?_⟩
   exact bQ
  |some i=>
   rw[hk] at h4
   simp only at h4
   obtain⟨i1,i2⟩:=hL.ix _ _ hk
   have hcl:=hL.con
   have hil:i.toNat<L.con.length:=by omega
   have hi2:i<(L.con.length:Int):=by omega
   have eg:=uG jP L.con i.toNat none hil
   generalize hoo:L.con.getD i.toNat none=o at eg h4
   refine aZ ?_
   refine Bg (wr:=false) ([]:List (Nat×AV)) (by simp only[kD,kk,Nat.reduceAdd,Nat.reduceLT,Nat.reduceEqDiff, ↓reduceIte,reduceCtorEq,nY,hk,Option.isSome];first|done|rfl) ?_ ?_
   ·exact eQ @zU
   try refine nv ?_
   refine aj ?_ ?_
   rotate_left
   ·intro h;cases h
   intro _
   try refine nx (p2 @eg @ajR) ?_
   refine⟨(n+1,l++[o]),⟨by simp;omega,by simp;omega,by simp;omega,by rw[hq2];simpa using h4⟩,by simp;omega,?_⟩
   exact uZ (fun i=>if i=100 then 41 else i)
 intro hge
 have hge':¬n≤min r.last 512:=by simpa using hge
 have hz:(min r.last 512-n+1).toNat=0:=by omega
 rw[hz,pR,ajt] at h4
 refine aZ ?_
 refine bC (aY (i:=5) (id:=100) (ys:=l.map jP) rfl rfl (by simp)) ?_
 refine fE ?_
 try refine nv ?_
 refine rA ((jZ L el em)) ?_
 refine⟨?_,rfl⟩
 rw[h4]
end
end Go.Proofs.YtcpgicfphakdaaaGreatDoor
