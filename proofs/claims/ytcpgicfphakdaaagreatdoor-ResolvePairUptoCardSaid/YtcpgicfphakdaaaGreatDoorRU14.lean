/- A part of the proof. -/
import Derived.Test.YtcpgicfphakdaaaGreatDoorRT4
import Derived.Test.YtcpgicfphakdaaaGreatDoorRK17
import Derived.Test.YtcpgicfphakdaaaGreatDoorRU12
import Derived.Test.YtcpgicfphakdaaaGreatDoorRU6
set_option maxRecDepth 100000
set_option maxHeartbeats 32000000
set_option linter.all false
namespace Go.Proofs.YtcpgicfphakdaaaGreatDoor
section
open Go.Ab Tys
variable [Dr]
theorem YS (l:List Rev) (v:Rev) (p:akK):((l++[v]).filter fun u=>decide (u.path=p)).getLast? =if p=v.path then some v else(l.filter fun u=>decide (u.path=p)).getLast?:=by
 rw[ahk]
 by_cases h:p=v.path
 ·subst h;simp
 ·have:¬v.path=p:=fun e=>h e.symm
  simp[this,h]
def z50.kk:=p3 (MP kB kG kS kM Tryz.ntmps50 Tryz.underlying27 rE iH oG dM pY mJ jQ DV) (MP uB D8 Ac JE kW kQ kT jg fK iF yV EY Pm L6) (MP Vf XK Q4 aaT yR qU mG ny xK iq y7 wo jB Tryz.results50)
end
section
open Go.Ab Tys
variable [Dr]
variable {l0:List dZ}
def z173.kk:=p13 kB kG WL Tryz.ntmps173 Tryz.underlying199 Tryz.underlying3 lq pW afL wu mG sD Tryz.results173
open z173 in
theorem XU (len:Nat) (hl:len≤1000000) (N:Nat):∀(l:List dZ),EP l0 len l→∀(a m b:Nat),a<m→m<b→b≤len→b-a≤N→
 AC Tryz.prog 173 [.c (.ms 46 6 0 len),I .i64 a,I .i64 m,I .i64 b,yz] [(46,ay 6 (l.map af))] (fun r st=>∃l',EP l0 len l'∧st=[(46,ay 6 (l'.map af))]):=by
 induction N with
 |zero=>intro l _ a m b h1 h2 _ h4;omega
 |succ N ih=>
 intro l hR a m b ham hmb hb hN
 have hll:=hR.1
 refine df Tryz.func173 Tryz.ntmps173 fun x hx=>?_
 try refine nv ?_
 refine aj ?_ ?_
 ·intro h1
  have h1':m=a+1:=by simp at h1;omega
  try refine nv ?_
  refine au (ι:=Nat×Nat) (I:=fun i=>⟨220,[(0, .c (.ms 46 6 0 len)),(1,I .i64 a),(4,yz),(10,I .i64 i.1),(11,I .i64 i.2)],[(46,ay 6 (l.map af))]⟩)
   (Inv:=fun i=>m≤i.1∧i.1≤i.2∧i.2≤b) (μ:=fun i=>i.2-i.1) (m,b) ⟨by simp,by simp;omega,by simp⟩ ?_ ?_
  ·exact bQ
  rintro⟨i,j⟩ ⟨g1,g2,g3⟩
  simp only at g1 g2 g3⊢
  try refine nv ?_
  refine aj ?_ ?_
  ·intro hlt
   have hlt':i<j:=by simpa using hlt
   have hs:((i:Nat):Int)+((j:Nat):Int)=((i+j:Nat):Int):=by omega
   try refine nx @hs ?_
   refine uX (n:=i+j) (by simp) (by simp only[kV, ↓reduceIte,Nat.reduceEqDiff,reduceCtorEq];first|done|rfl) (by simp only[dB];omega) ?_
   refine fE ?_
   obtain⟨h,hh⟩:∃h,h=(i+j)/2:=⟨_,rfl⟩
   rw[←hh]
   have e1:=lI af l h dS (by omega)
   have e2:=lI af l a dS (by omega)
   have hc1:=Iq _ _ (hR.get (i:=h) (by omega)) (hR.get (i:=a) (by omega))
   generalize l.getD h dS=v at e1 hc1
   generalize l.getD a dS=w at e2 hc1
   try refine nv ?_
   refine dx ([(49,I .i64 (cmR v w))]) (p2 @e1 @e2) ?_ ?_
   ·exact eQ @hc1
   refine aZ ?_
   refine aj ?_ ?_
   ·intro _
    try refine nv ?_
    refine⟨(h+1,j),⟨by simp;omega,by simp;omega,g3⟩,by simp;omega,?_⟩
    exact bQ
   ·intro _
    try refine nv ?_
    refine⟨(i,h),⟨g1,by simp;omega,by simp;omega⟩,by simp;omega,?_⟩
    exact bQ
  intro _
  try refine nv ?_
  refine au (ι:=Nat×List dZ) (I:=fun k=>⟨220,[(0, .c (.ms 46 6 0 len)),(10,I .i64 i),(13,I .i64 k.1)],[(46,ay 6 (k.2.map af))]⟩)
   (Inv:=fun k=>EP l0 len k.2) (μ:=fun k=>i-k.1) (a,l) hR ?_ ?_
  ·exact bQ
  rintro⟨k,t⟩ hT
  simp only at hT⊢
  try refine nv ?_
  refine aj ?_ ?_
  ·intro hlt
   have hlt':k+1<i:=by simp at hlt;omega
   have htl:=hT.1
   have hk1:(((k:Nat):Int)+1).toNat=k+1:=by omega
   have e1:=lI af t k dS (by omega)
   have e2:=lI af t (k+1) dS (by omega)
   have hsw:=hT.swap (i:=k) (j:=k+1) (by omega) (by omega)
   generalize t.getD k dS=v at e1 hsw
   generalize t.getD (k+1) dS=w at e2 hsw
   try refine nv ?_
   refine pM (wr:=false) ([]:List (Nat×AV)) (by kernel_rfl) (by simp only[kD,kk,Nat.reduceAdd,Nat.reduceLT,Nat.reduceEqDiff, ↓reduceIte,reduceCtorEq,hk1,e1,e2,Tt,L8];first|done|rfl) (by first|exact trivial|(simp only[kO];omega)|(simp[All,dB];first|done|omega)|(simp+contextual [All,dB];first|done|grind)) (by kernel_rfl) ?_
   try refine nv ?_
   refine⟨(k+1,(t.set k w).set (k+1) v),hsw,by simp;omega,?_⟩
   exact bQ
  intro _
  try refine nv ?_
  refine rV ([(46,ay 6 (t.map af))]) ?_
  exact⟨t,hT,rfl⟩
 intro h1
 try refine nv ?_
 refine aj ?_ ?_
 ·intro h2
  have h2':b=m+1:=by simp at h2;omega
  try refine nv ?_
  refine au (ι:=Nat×Nat) (I:=fun i=>⟨220,[(0, .c (.ms 46 6 0 len)),(2,I .i64 m),(4,yz),(14,I .i64 i.1),(15,I .i64 i.2)],[(46,ay 6 (l.map af))]⟩)
   (Inv:=fun i=>a≤i.1∧i.1≤i.2∧i.2≤m) (μ:=fun i=>i.2-i.1) (a,m) ⟨by simp,by simp;omega,by simp⟩ ?_ ?_
  ·exact bQ
  rintro⟨i,j⟩ ⟨g1,g2,g3⟩
  simp only at g1 g2 g3⊢
  try refine nv ?_
  refine aj ?_ ?_
  ·intro hlt
   have hlt':i<j:=by simpa using hlt
   have hs:((i:Nat):Int)+((j:Nat):Int)=((i+j:Nat):Int):=by omega
   try refine nx @hs ?_
   refine uX (n:=i+j) (by simp) (by simp only[kV, ↓reduceIte,Nat.reduceEqDiff,reduceCtorEq];first|done|rfl) (by simp only[dB];omega) ?_
   refine fE ?_
   obtain⟨h,hh⟩:∃h,h=(i+j)/2:=⟨_,rfl⟩
   rw[←hh]
   have e1:=lI af l m dS (by omega)
   have e2:=lI af l h dS (by omega)
   have hc1:=Iq _ _ (hR.get (i:=m) (by omega)) (hR.get (i:=h) (by omega))
   generalize l.getD m dS=v at e1 hc1
   generalize l.getD h dS=w at e2 hc1
   try refine nv ?_
   refine dx ([(101,I .i64 (cmR v w))]) (p2 @e1 @e2) ?_ ?_
   ·exact eQ @hc1
   refine aZ ?_
   refine aj ?_ ?_
   ·intro _
    try refine nv ?_
    refine⟨(h+1,j),⟨by simp;omega,by simp;omega,g3⟩,by simp;omega,?_⟩
    exact bQ
   ·intro _
    try refine nv ?_
    refine⟨(i,h),⟨g1,by simp;omega,by simp;omega⟩,by simp;omega,?_⟩
    exact bQ
  intro _
  try refine nv ?_
  refine au (ι:=Nat×List dZ) (I:=fun k=>⟨220,[(0, .c (.ms 46 6 0 len)),(14,I .i64 i),(17,I .i64 k.1)],[(46,ay 6 (k.2.map af))]⟩)
   (Inv:=fun k=>k.1≤m∧EP l0 len k.2) (μ:=fun k=>k.1) (m,l) ⟨by simp,hR⟩ ?_ ?_
  ·exact bQ
  rintro⟨k,t⟩ ⟨hkm,hT⟩
  simp only at hkm hT⊢
  try refine nv ?_
  refine aj ?_ ?_
  ·intro hlt
   have hlt':i<k:=by simpa using hlt
   have htl:=hT.1
   have hk1:(((k:Nat):Int)-1).toNat=k-1:=by omega
   have hk2:((k:Nat):Int)-1=((k-1:Nat):Int):=by omega
   have e1:=lI af t k dS (by omega)
   have e2:=lI af t (k-1) dS (by omega)
   have hsw:=hT.swap (i:=k) (j:=k-1) (by omega) (by omega)
   generalize t.getD k dS=v at e1 hsw
   generalize t.getD (k-1) dS=w at e2 hsw
   try refine nv ?_
   refine pM (wr:=false) ([]:List (Nat×AV)) (by kernel_rfl) (by simp only[kD,kk,Nat.reduceAdd,Nat.reduceLT,Nat.reduceEqDiff, ↓reduceIte,reduceCtorEq,hk1,e1,e2,Tt,L8];first|done|rfl) (by first|exact trivial|(simp only[kO];omega)|(simp[All,dB];first|done|omega)|(simp+contextual [All,dB];first|done|grind)) (by kernel_rfl) ?_
   try refine nv ?_
   refine⟨(k-1,(t.set k w).set (k-1) v),⟨by simp;omega,hsw⟩,by simp;omega,?_⟩
   exact Dc @hk2
  intro _
  try refine nv ?_
  refine rV ([(46,ay 6 (t.map af))]) ?_
  exact⟨t,hT,rfl⟩
 intro h2
 have hs0:((a:Nat):Int)+((b:Nat):Int)=((a+b:Nat):Int):=by omega
 try refine nx @hs0 ?_
 refine uX (n:=a+b) (by simp) (by simp only[kV, ↓reduceIte,Nat.reduceEqDiff,reduceCtorEq];first|done|rfl) (by simp only[dB];omega) ?_
 refine fE ?_
 obtain⟨mid,hmid⟩:∃h,h=(a+b)/2:=⟨_,rfl⟩
 rw[←hmid]
 have hs1:((mid:Nat):Int)+((m:Nat):Int)=((mid+m:Nat):Int):=by omega
 try refine nx @hs1 ?_
 refine kL (ι:=Nat×Nat) (fun i=>⟨220,[(0, .c (.ms 46 6 0 len)),(1,I .i64 a),(2,I .i64 m),(3,I .i64 b),(4,yz),(18,I .i64 mid),(19,I .i64 (mid+m:Nat)),(20,I .i64 i.1),(21,I .i64 i.2)],[(46,ay 6 (l.map af))]⟩)
  (fun i=>a≤i.1∧i.1≤i.2∧i.2≤mid∧i.2≤m∧mid+m≤i.1+b) ?_ ?_
 ·refine aj ?_ ?_
  ·intro h
   have h':mid<m:=by simpa using h
   have c1:((mid+m:Nat):Int)-((b:Nat):Int)=((mid+m-b:Nat):Int):=by omega
   try refine nx @c1 ?_
   refine⟨rfl,(mid+m-b,mid),⟨by simp;omega,by simp;omega,by simp,by simp;omega,by simp;omega⟩,?_⟩
   exact bQ
  ·intro h
   have h':m≤mid:=by simp at h;omega
   try refine nv ?_
   refine⟨rfl,(a,m),⟨by simp,by simp;omega,by simp;omega,by simp,by simp;omega⟩,?_⟩
   exact bQ
 rintro⟨s0,r0⟩ ⟨j1,j2,j3,j4,j5⟩
 simp only at j1 j2 j3 j4 j5⊢
 have c2:((mid+m:Nat):Int)-1=((mid+m-1:Nat):Int):=by omega
 try refine nx @c2 ?_
 refine au (ι:=Nat×Nat) (I:=fun i=>⟨220,[(0, .c (.ms 46 6 0 len)),(1,I .i64 a),(2,I .i64 m),(3,I .i64 b),(4,yz),(18,I .i64 mid),(19,I .i64 (mid+m:Nat)),(20,I .i64 i.1),(21,I .i64 i.2),(22,I .i64 (mid+m-1:Nat))],[(46,ay 6 (l.map af))]⟩)
  (Inv:=fun i=>a≤i.1∧i.1≤i.2∧i.2≤mid∧i.2≤m∧mid+m≤i.1+b) (μ:=fun i=>i.2-i.1) (s0,r0) ⟨j1,j2,j3,j4,j5⟩ ?_ ?_
 ·exact bQ
 rintro⟨s,r⟩ ⟨g1,g2,g3,g4,g5⟩
 simp only at g1 g2 g3 g4 g5⊢
 try refine nv ?_
 refine aj ?_ ?_
 ·intro hlt
  have hlt':s<r:=by simpa using hlt
  have hs:((s:Nat):Int)+((r:Nat):Int)=((s+r:Nat):Int):=by omega
  try refine nx @hs ?_
  refine uX (n:=s+r) (by simp) (by simp only[kV, ↓reduceIte,Nat.reduceEqDiff,reduceCtorEq];first|done|rfl) (by simp only[dB];omega) ?_
  refine fE ?_
  obtain⟨h,hh⟩:∃h,h=(s+r)/2:=⟨_,rfl⟩
  rw[←hh]
  have hp:(((mid+m-1:Nat):Int)-((h:Nat):Int)).toNat=mid+m-1-h:=by omega
  have e1:=lI af l (mid+m-1-h) dS (by omega)
  have e2:=lI af l h dS (by omega)
  have hc1:=Iq _ _ (hR.get (i:=mid+m-1-h) (by omega)) (hR.get (i:=h) (by omega))
  generalize l.getD (mid+m-1-h) dS=v at e1 hc1
  generalize l.getD h dS=w at e2 hc1
  try refine nv ?_
  refine dx ([(169,I .i64 (cmR v w))]) (p3 @hp @e1 @e2) ?_ ?_
  ·exact eQ @hc1
  refine aZ ?_
  refine aj ?_ ?_
  ·intro _
   try refine nv ?_
   refine⟨(h+1,r),⟨by simp;omega,by simp;omega,g3,g4,by simp;omega⟩,by simp;omega,?_⟩
   exact bQ
  ·intro _
   try refine nv ?_
   refine⟨(s,h),⟨g1,by simp;omega,by simp;omega,by simp;omega,g5⟩,by simp;omega,?_⟩
   exact bQ
 intro _
 have c3:((mid+m:Nat):Int)-((s:Nat):Int)=((mid+m-s:Nat):Int):=by omega
 try refine nx @c3 ?_
 refine kL (ι:=List dZ) (fun t=>⟨220,[(0, .c (.ms 46 6 0 len)),(1,I .i64 a),(3,I .i64 b),(4,yz),(18,I .i64 mid),(20,I .i64 s),(24,I .i64 (mid+m-s:Nat))],[(46,ay 6 (t.map af))]⟩) (fun t=>EP l0 len t) ?_ ?_
 ·refine aj ?_ ?_
  ·intro h
   have h':s<m∧m<mid+m-s:=by
    by_cases q:s<m
    ·refine⟨q,?_⟩
     have:((s:Nat):Int)<((m:Nat):Int):=by omega
     simp[this] at h;omega
    ·have:¬((s:Nat):Int)<((m:Nat):Int):=by omega
     simp[this] at h
   try refine nv ?_
   refine nJ ([(46,ay 6 (l.map af))]) (aeR len l hl hR s m (mid+m-s) (by omega) (by omega) (by omega)) ?_
   rintro rv9 st' ⟨t,ht,rfl⟩<;>refine nP ?_
   try refine nv ?_
   refine⟨rfl,t,ht,?_⟩
   exact bQ
  ·intro _
   refine aZ ?_
   refine⟨rfl,l,hR,?_⟩
   exact bQ
 intro t ht
 try refine nv ?_
 refine kL (ι:=List dZ) (fun t=>⟨220,[(0, .c (.ms 46 6 0 len)),(3,I .i64 b),(4,yz),(18,I .i64 mid),(24,I .i64 (mid+m-s:Nat))],[(46,ay 6 (t.map af))]⟩) (fun t=>EP l0 len t) ?_ ?_
 ·refine aj ?_ ?_
  ·intro h
   have h':a<s∧s<mid:=by
    by_cases q:a<s
    ·refine⟨q,?_⟩
     have:((a:Nat):Int)<((s:Nat):Int):=by omega
     simp[this] at h;omega
    ·have:¬((a:Nat):Int)<((s:Nat):Int):=by omega
     simp[this] at h
   try refine nv ?_
   refine nJ ([(46,ay 6 (t.map af))]) (ih t ht a s mid h'.1 h'.2 (by omega) (by omega)) ?_
   rintro rv9 st' ⟨t2,ht2,rfl⟩<;>refine nP ?_
   try refine nv ?_
   refine⟨rfl,t2,ht2,?_⟩
   exact bQ
  ·intro _
   refine aZ ?_
   refine⟨rfl,t,ht,?_⟩
   exact bQ
 intro t3 ht3
 try refine nv ?_
 refine aj ?_ ?_
 ·intro h
  have h':mid<mid+m-s∧mid+m-s<b:=by
   by_cases q:mid<mid+m-s
   ·refine⟨q,?_⟩
    have:((mid:Nat):Int)<((mid+m-s:Nat):Int):=by omega
    simp[this] at h;omega
   ·have:¬((mid:Nat):Int)<((mid+m-s:Nat):Int):=by omega
    simp[this] at h
  try refine nv ?_
  refine nJ ([(46,ay 6 (t3.map af))]) (ih t3 ht3 mid (mid+m-s) b h'.1 h'.2 (by omega) (by omega)) ?_
  rintro rv9 st' ⟨t4,ht4,rfl⟩<;>refine nP ?_
  try refine nv ?_
  refine rN ([(46,ay 6 (t4.map af))]) ?_
  exact⟨t4,ht4,rfl⟩
 ·intro _
  try refine nv ?_
  refine rN ([(46,ay 6 (t3.map af))]) ?_
  exact⟨t3,ht3,rfl⟩
end
section
open Go.Ab Tys
variable [Dr]
@[reducible] def vW (w:Int×Int×Nat):Bool×List D:=(true,[.v (.int .i64 w.1), .v (.int .i64 w.2.1), .v (.func (.func w.2.2) #[] #[])])
def H7 (k:Int):List (Int×(Int×Int×Nat)):=if k=1 then [(2,(1,1,102))] else if k=3 then [(1,(2,3,103)),(2,(3,1,104))] else [(1,(2,3,103)),(2,(2,1,102)),(3,(2,2,105)),(4,(2,4,105))]
theorem adr (m:List (Int×(Int×Int×Nat))) (n:Int):dC [C.d (.v (.int .i64 n))] ((bz kN vW m).map dJ)=(ai m n).map fun v=>jY (vW v):=gX (ve:=vW) GK m n
theorem aha (m:List (Int×(Int×Int×Nat))):∀e∈(bz kN vW m).map dJ,e.1.1=false∧cu [.int .i64] e.1.2:=by
 intro e he
 simp only[bz,agh] at he
 obtain⟨_,⟨f,_,rfl⟩,rfl⟩:=he
 exact⟨rfl,by simp[dJ,jY,cu]⟩
def z45.kk:=U6 kB kS kM Tryz.ntmps45 Wp UB Rf RH J7 VI acM afG adG mG Tryz.results45
open z45 in
theorem Xz (k:Int):AC Tryz.prog 45 [I .i64 k] [] (fun r st=>r= .c (.d (.pm (bz kN vW (H7 k))))∧st=[]):=by
 refine df Tryz.func45 Tryz.ntmps45 fun x hx=>?_
 try refine nv ?_
 refine aj ?_ ?_
 ·intro h
  have h':k=1:=by simpa using h
  refine aZ ?_
  refine dD (wr:=false) 400 (by simp only[kk,Nat.reduceAdd,Nat.reduceLT,Nat.reduceEqDiff, ↓reduceIte,reduceCtorEq,dF,kK,DD];first|done|rfl) ?_ ?_
  ·simp[All,dB,cu,dF,kK,DD]
  refine bC (iO (i:=2) (id:=6) (es:=bz kN vW [(2,(1,1,102))]) rfl rfl) ?_
  refine fE ?_
  try refine nv ?_
  refine rA [] ?_
  refine⟨?_,rfl⟩
  simp[H7,h']
 intro h
 have h':¬k=1:=by simpa using h
 try refine nv ?_
 refine aj ?_ ?_
 ·intro h3
  have h3':k=3:=by simpa using h3
  refine aZ ?_
  refine dD (wr:=false) 400 (by simp only[kk,Nat.reduceAdd,Nat.reduceLT,Nat.reduceEqDiff, ↓reduceIte,reduceCtorEq,dF,kK,DD];first|done|rfl) ?_ ?_
  ·simp[All,dB,cu,dF,kK,DD]
  refine bC (iO (i:=2) (id:=11) (es:=bz kN vW [(1,(2,3,103)),(2,(3,1,104))]) rfl rfl) ?_
  refine fE ?_
  try refine nv ?_
  refine rA [] ?_
  refine⟨?_,rfl⟩
  simp[H7,h3']
 intro h3
 have h3':¬k=3:=by simpa using h3
 refine aZ ?_
 refine dD (wr:=false) 400 (by simp only[kk,Nat.reduceAdd,Nat.reduceLT,Nat.reduceEqDiff, ↓reduceIte,reduceCtorEq,dF,kK,DD];first|done|rfl) ?_ ?_
 ·simp[All,dB,cu,dF,kK,DD]
 refine bC (iO (i:=2) (id:=15) (es:=bz kN vW [(1,(2,3,103)),(2,(2,1,102)),(3,(2,2,105)),(4,(2,4,105))]) rfl rfl) ?_
 refine fE ?_
 try refine nv ?_
 refine rA [] ?_
 refine⟨?_,rfl⟩
 simp[H7,h',h3']
theorem adb {k ch:Int} (h:ai (H7 k) ch=none):iD k ch=false:=by
 unfold H7 at h
 unfold iD
 by_cases k1:k=1
 ·rw[if_pos k1] at h⊢
  by_cases c2:ch=2
  ·simp[ai,c2] at h
  ·simp[c2]
 rw[if_neg k1] at h⊢
 by_cases c1:ch=1
 ·exfalso;revert h;split<;>simp[ai,c1]
 by_cases c2:ch=2
 ·exfalso;revert h;split<;>simp[ai,c2]
 by_cases k3:k=3
 ·rw[if_pos k3]
  simp[c1,c2]
 rw[if_neg k3] at h⊢
 by_cases c3:ch=3
 ·simp[ai,c3] at h
 by_cases c4:ch=4
 ·simp[ai,c4] at h
 simp;omega
theorem acb {d:aW} {t:jo} {ch:Int} {w:y9} {a h:Int} {F:Nat} (hw:ai (H7 t.kind) ch=some (a,h,F)):iD t.kind ch=true∧∃(b:Int) (kw ex xe:Bool) (sm sz:Int),
 gU d t ch w=(⟨t.to,a,b,kw,ex,xe,sm,sz,t.head,noS,0,0⟩,h)∧AC Tryz.prog F [.agg ((Dn d t (fH d t) (dK d t)).map C.d),PT w] [] (fun r st=>r= .tup [(true,[.d (.v (.int .i64 b)), .d (.v (.bool kw)), .d (.v (.bool ex)), .d (.v (.bool xe))]),(true,[.d (.v (.int .u64 sm)), .d (.v (.int .i64 sz))])]∧st=[]):=by
 unfold H7 at hw
 by_cases k1:t.kind=1
 ·rw[if_pos k1] at hw
  by_cases c2:ch=2
  ·subst c2
   simp[ai] at hw
   obtain⟨rfl,rfl,rfl⟩:=hw
   exact⟨by simp[iD,k1],_,_,_,_,_,_,by simp[gU,k1]<;>rfl,Ho d t (fH d t) (dK d t) w⟩
  ·simp[ai,c2] at hw
 rw[if_neg k1] at hw
 by_cases k3:t.kind=3
 ·rw[if_pos k3] at hw
  by_cases c1:ch=1
  ·subst c1
   simp[ai] at hw
   obtain⟨rfl,rfl,rfl⟩:=hw
   exact⟨by simp[iD,k3],_,_,_,_,_,_,by simp[gU,k3]<;>rfl,Hm d t (fH d t) (dK d t) w⟩
  by_cases c2:ch=2
  ·subst c2
   simp[ai] at hw
   obtain⟨rfl,rfl,rfl⟩:=hw
   exact⟨by simp[iD,k3],_,_,_,_,_,_,by simp[gU,k3]<;>rfl,Py d t (fH d t) (dK d t) w⟩
  ·simp[ai,c1,c2] at hw
 rw[if_neg k3] at hw
 by_cases c1:ch=1
 ·subst c1
  simp[ai] at hw
  obtain⟨rfl,rfl,rfl⟩:=hw
  exact⟨by simp[iD,k1,k3],_,_,_,_,_,_,by simp[gU,k1]<;>rfl,Hm d t (fH d t) (dK d t) w⟩
 by_cases c2:ch=2
 ·subst c2
  simp[ai] at hw
  obtain⟨rfl,rfl,rfl⟩:=hw
  exact⟨by simp[iD,k1,k3],_,_,_,_,_,_,by simp[gU,k1,k3]<;>rfl,Ho d t (fH d t) (dK d t) w⟩
 by_cases c3:ch=3
 ·subst c3
  simp[ai] at hw
  obtain⟨rfl,rfl,rfl⟩:=hw
  exact⟨by simp[iD,k1,k3],_,_,_,_,_,_,by simp[gU,k1,k3]<;>rfl,Ko d t (fH d t) (dK d t) w⟩
 by_cases c4:ch=4
 ·subst c4
  simp[ai] at hw
  obtain⟨rfl,rfl,rfl⟩:=hw
  exact⟨by simp[iD,k1,k3],_,_,_,_,_,_,by simp[gU,k1,k3]<;>rfl,Ko d t (fH d t) (dK d t) w⟩
 ·simp[ai,c1,c2,c3,c4] at hw
def z48.kk:=p3 (p12 kB kS Tryz.ntmps48 zB iH wM qM dM mJ vT Rn Ua) (p12 EM sK Es xO fK nH nR nM sN yE uP EU) (p10 GH mG ny FB Au iq BP wo jB Tryz.results48)
open z48 in
theorem ZG (d:aW) (hg:Good d.revs) (hd:d.revs.length≤1000000) (t:jo) (s:Rev) (e:ou) (hto:eX t.to=true) (hmv:eX t.move=true) (ht:t.to.size≤1500) (hm:t.move.size≤1500):
 AC Tryz.prog 48 [.agg ((Dn d t s (dK d t)).map C.d),Z7 e] [] (fun r st=>r= .c (.d (.ps 12 ((MG d t e).map bK)))∧st=[]):=by
 have hL:=Eo d hg hd t.move
 have hC:=zJ t.to t.move (by omega) (by omega)
 have v1:(aG t.to).isSome=true:=by
  cases h:(aG t.to).isSome with
  |true=>rfl
  |false=>simp[eX,h] at hto
 have v2:(aG t.move).isSome=true:=by
  cases h:(aG t.move).isSome with
  |true=>rfl
  |false=>simp[eX,h] at hmv
 rw[v1,v2] at hC
 simp only[Bool.and_self,if_true] at hC
 have hln:bf d t.move=((aU d t.move).getD ag).num:=rfl
 generalize (aU d t.move).getD ag=lm at hL hln
 generalize (aU d t.move).isSome=lb at hL
 refine df Tryz.func48 Tryz.ntmps48 fun x hx=>?_
 (repeat (first|refine nv ?_|refine cf (hL) ?_))
 refine dr ([]) ?_ ?_
 ·exact qP
 refine aZ ?_
 refine dr ([]) ?_ ?_
 ·exact qP
 refine aZ ?_
 (repeat (first|refine nv ?_|refine cf (hC) ?_))
 refine aj ?_ ?_
 ·intro h
  have h':ord t.to t.move<0:=by simpa using h
  refine aZ ?_
  refine gg ?_
  refine bC (aY (i:=4) (id:=56) (ys:=[bK (eP d t),bK (dW d t e)]) rfl ?_ rfl) ?_
  ·simp only[eP,dW,hln];rfl
  refine fE ?_
  try refine nv ?_
  refine rA [] ?_
  refine⟨?_,rfl⟩
  simp only[MG,if_pos h',List.map]
 intro h
 have h':¬ord t.to t.move<0:=by simpa using h
 refine aZ ?_
 refine gg ?_
 refine bC (aY (i:=4) (id:=59) (ys:=[bK (dW d t e),bK (eP d t)]) rfl ?_ rfl) ?_
 ·simp only[eP,dW,hln];rfl
 refine fE ?_
 try refine nv ?_
 refine rA [] ?_
 refine⟨?_,rfl⟩
 simp only[MG,if_neg h',List.map]
theorem OB {d:aW} {t:jo} {ch:Int} {w:y9} (hF:Fits d t) (hp:lC t ch w=true) (hm:w.mv=true):eX t.to=true∧eX t.move=true:=by
 refine⟨hF.use,?_⟩
 have h1:¬t.move=noS:=by
  intro e;simp[lC,hm,e] at hp
 have h2:=hF.rest
 unfold zt V5 at h2
 split at h2
 ·simp[h1] at h2
 ·simp[h1] at h2
  exact h2.2.1.1
def z19.kk:=p4 (p16 kB kG kS kM WL Tryz.ntmps19 zB Wp iH wM qM wY dM Ea lq mJ) (p16 pW vT UB Rf RH sH Bq BB Bh sK Es xO fK Ya uY BC) (p16 D9 rQ xY BA nR nM sN vC yE J7 VI GH acM afG adG wu) (p13 mG ny FB IP Au Gh iq QG BP sD wo jB Tryz.results19)
open z19 in
theorem xU (d:aW) (hg:Good d.revs) (hN:d.revs.length≤512) (hn:rM d) (t:jo) (ht:t.to.size≤1500) (hm:t.move.size≤1500) (ch:Int) (w:y9):AC Tryz.prog 19 [lT d,Z8 t,I .i64 ch,PT w] [] (fun r st=>r=Qw d t ch w∧st=[]):=by
 have hO:=Xd d hg hN hn t (by omega) (by omega)
 refine df Tryz.func19 Tryz.ntmps19 fun x hx=>?_
 try refine nv ?_
 refine nJ [] (hO) ?_
 rintro r st' ⟨⟨rfl,hf⟩|rfl,rfl⟩<;>refine nP ?_
 ·try refine nv ?_
  refine aj ?_ ?_
  rotate_left
  ·intro h;cases h
  intro _
  try refine nv ?_
  refine rA [] ?_
  refine⟨?_,rfl⟩
  simp[Qw,hf]
 cases hf:mf d t with
 |false=>
  try refine nv ?_
  refine aj ?_ ?_
  rotate_left
  ·intro h;cases h
  intro _
  try refine nv ?_
  refine rA [] ?_
  refine⟨?_,rfl⟩
  simp[Qw,hf]
 |true=>
 have hF:Fits d t:=by simpa[mf] using hf
 have hW:=Xz t.kind
 have hP:=PI t ch w
 have hhd:=jV hg t.to
 rw[hF.head] at hhd
 have hbs:=jV hg t.move
 try refine nv ?_
 refine aj ?_ ?_
 ·intro h;cases h
 intro _
 (repeat (first|refine nv ?_|refine cf (hW) ?_))
 cases hw:ai (H7 t.kind) ch with
 |none=>
  refine dD (wr:=false) 400 (by simp only[kk,Nat.reduceAdd,Nat.reduceLT,Nat.reduceEqDiff, ↓reduceIte,reduceCtorEq,adr,hw,Option.map_none,Option.isSome];first|done|rfl) ?_ ?_
  ·exact eQ @aha
  try refine nv ?_
  refine so ([(41,B (lC t ch w))]) ?_ ?_
  ·exact eQ @hP
  try refine nv ?_
  refine aj ?_ ?_
  rotate_left
  ·intro h;cases h
  intro _
  try refine nv ?_
  refine rA [] ?_
  refine⟨?_,rfl⟩
  exact(DK hf (by rw[adb hw];rfl)).symm
 |some v=>
 obtain⟨a,h,F⟩:=v
 obtain⟨hal,b,kw,ex,xe,sm,sz,hE,hC⟩:=acb (d:=d) (w:=w) hw
 refine dD (wr:=false) 400 (by simp only[kk,Nat.reduceAdd,Nat.reduceLT,Nat.reduceEqDiff, ↓reduceIte,reduceCtorEq,adr,hw,Option.map_some,jY,Option.isSome];first|done|rfl) ?_ ?_
 ·exact eQ @aha
 try refine nv ?_
 refine so ([(41,B (lC t ch w))]) ?_ ?_
 ·exact eQ @hP
 try refine nv ?_
 refine aj ?_ ?_
 ·intro h2
  try refine nv ?_
  refine rA [] ?_
  refine⟨?_,rfl⟩
  refine(DK hf ?_).symm
  have:lC t ch w=false:=by simpa using h2
  rw[this,Bool.and_false]
 intro h2
 have hperm:lC t ch w=true:=by simpa using h2
 rw[D6 hf hal hperm]
 try refine nv ?_
 refine KC [] (by simp) (by simp only[kV, ↓reduceIte,Nat.reduceEqDiff,reduceCtorEq];first|done|rfl) (by simp only[WL,List.map];first|done|rfl) (by simp only[kV, ↓reduceIte,Nat.reduceEqDiff,reduceCtorEq];first|done|rfl) ⟨by simp,by simp,by simp[aJ,cZ,aB,aV,bT]⟩ (hC) ?_
 rintro r st' ⟨rfl,rfl⟩<;>(refine⟨by simp[lH],?_⟩;simp only[kP,Nat.reduceEqDiff, ↓reduceIte,reduceCtorEq])
 try refine nv ?_
 refine mQ (aY (i:=15) (id:=62) (ys:=[bK ⟨t.to,a,b,kw,ex,xe,sm,sz,t.head,noS,0,0⟩]) rfl rfl rfl) ?_
 refine fE ?_
 refine nZ ⟨101,[(4, .c (.ptr 4 0)),(5, .c (.ptr 5 0)),(7, .c (.ptr 7 0)),(13, .c (.ptr 13 0)),(15, .c (.d (.ps 12 ((iy d t ch w).map bK))))],
  [(4, .box ((iY d).map C.d)),(5, .box ((ik t).map C.d)),(7, .box ((Ai w).map C.d)),(13, .box [.d (.v (.int .i64 a)), .d (.v (.int .i64 h)), .d (.v (.func (.func F) #[] #[]))])]⟩ ?_ ?_
 ·refine aj ?_ ?_
  ·intro hmv
   have hM:=ZG d hg (by omega) t (fH d t) ⟨t.to,a,b,kw,ex,xe,sm,sz,t.head,noS,0,0⟩ (OB hF hperm hmv).1 (OB hF hperm hmv).2 ht hm
   (repeat (first|refine nv ?_|refine cf (hM) ?_))
   refine⟨rfl,?_⟩
   (refine bi (fun i=>i) rfl ?_ ⟨?_,?_,?_,bW hx (by simp[ae,Ab.get])⟩<;>first|(simp only[kE,ay, ↓reduceIte,Nat.reduceEqDiff,reduceCtorEq,iy,hmv,hE];done)|simp[aH,ax,ah,Ab.get,aJ,cZ,aB,bF,aS,aO,aQ,aT,aP,ae,List.flatten,iy,hmv,hE])
  intro hmv
  refine aZ ?_
  refine⟨rfl,?_⟩
  (refine bi (fun i=>i) rfl ?_ ⟨?_,?_,?_,bW hx (by simp[ae,Ab.get])⟩<;>first|(simp only[kE,ay, ↓reduceIte,Nat.reduceEqDiff,reduceCtorEq,iy,hmv,hE];done)|simp[aH,ax,ah,Ab.get,aJ,cZ,aB,bF,aS,aO,aQ,aT,aP,ae,List.flatten,iy,hmv,hE])
 have hL:=Eo d hg (by omega) t.move
 have hln:bf d t.move=((aU d t.move).getD ag).num:=rfl
 rw[hln] at hbs
 generalize (aU d t.move).getD ag=lm at hL hln hbs
 generalize (aU d t.move).isSome=lb at hL
 try refine nv ?_
 refine nZ ⟨101,[(15, .c (.d (.ps 12 ((iy d t ch w).map bK)))),(16, .c (.ptr 16 0))],[(16, .box ((af (dI d t ch w)).map C.d))]⟩ ?_ ?_
 ·refine aj ?_ ?_
  ·intro hmv
   (repeat (first|refine nv ?_|refine cf (hL) ?_))
   refine dr ([]) ?_ ?_
   ·exact qP
   refine aZ ?_
   refine⟨rfl,?_⟩
   (refine bi (fun i=>i) rfl ?_ ⟨?_,?_,?_,bW hx (by simp[ae,Ab.get])⟩<;>first|(simp only[kE,ay, ↓reduceIte,Nat.reduceEqDiff,reduceCtorEq,dI,hmv,hE,hln];done)|simp[aH,ax,ah,Ab.get,aJ,cZ,aB,bF,aS,aO,aQ,aT,aP,ae,List.flatten,dI,hmv,hE,hln])
  intro hmv
  refine aZ ?_
  refine⟨rfl,?_⟩
  (refine bi (fun i=>i) rfl ?_ ⟨?_,?_,?_,bW hx (by simp[ae,Ab.get])⟩<;>first|(simp only[kE,ay, ↓reduceIte,Nat.reduceEqDiff,reduceCtorEq,dI,hmv,hE];done)|simp[aH,ax,ah,Ab.get,aJ,cZ,aB,bF,aS,aO,aQ,aT,aP,ae,List.flatten,dI,hmv,hE])
 refine aZ ?_
 refine dr ([]) ?_ ?_
 ·exact qP
 try refine vw ?_
 refine mQ (aY (i:=9) (id:=100) (ys:=[af (dI d t ch w)]) rfl rfl rfl) ?_
 refine fE ?_
 refine aZ ?_
 refine rA [] ?_
 refine⟨?_,rfl⟩
 rfl
end
end Go.Proofs.YtcpgicfphakdaaaGreatDoor
