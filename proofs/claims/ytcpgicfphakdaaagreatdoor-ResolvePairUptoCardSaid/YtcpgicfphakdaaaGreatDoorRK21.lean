/- A part of the proof. -/
import Derived.Test.YtcpgicfphakdaaaGreatDoorRU9
set_option linter.all false
namespace Go.Proofs.YtcpgicfphakdaaaGreatDoor
open Go.Ab Tys
variable [Dr]
def z68.kk:=p3 kB Tryz.ntmps68 Tryz.results68
set_option maxRecDepth 100000 in
set_option maxHeartbeats 8000000 in
open z68 in
theorem IW (p q:akK) (hp:(aG p).isSome=true∧p.size≤100000) (hq:(aG q).isSome=true∧q.size≤100000):AC Tryz.prog 68 [Str p,Str q] [] (fun r st=>r=I .i64 (pC p q)∧st=[]):=by
 have h:=zJ p q hp.2 hq.2
 rw[hp.1,hq.1] at h
 simp only[Bool.and_self,if_true] at h
 rw[ab8 hp.1 hq.1]
 refine df Tryz.func68 Tryz.ntmps68 fun x hx=>?_
 (repeat (first|refine nv ?_|refine cf (h) ?_))
 refine rA [] ?_
 refine⟨?_,rfl⟩
 rfl
def z193.kk:=p12 kB kG WL Tryz.ntmps193 Tryz.underlying199 Tryz.underlying3 jy afL mG rZ jB Tryz.results193
set_option maxRecDepth 100000 in
set_option maxHeartbeats 32000000 in
open z193 in
theorem ae9 (len:Nat) (hl:len≤1000000) (N:Nat):∀(P x0 y0 S:List akK),bg pC x0→bg pC y0→VS (P++(x0++(y0++S)))→0<x0.length→0<y0.length→∀(a m b:Nat),a=P.length→m=a+x0.length→b=m+y0.length→b+S.length=len→b-a≤N→
 AC Tryz.prog 193 [.c (.ms 46 1 0 len),I .i64 a,I .i64 m,I .i64 b,wE] (stA (P++(x0++(y0++S)))) (fun _ st=>∃z,(z.Perm (x0++y0)∧bg pC z)∧st=stA (P++(z++S))):=by
 induction N with
 |zero=>intro P x0 y0 S _ _ _ h1 h2 a m b _ _ _ _ h;omega
 |succ N ih=>
 intro P x0 y0 S hx0 hy0 hV hpx hpy a m b ha hm hb hlen hN
 have hvg:=fun i=>hV.get (i:=i)
 obtain⟨hgx,hgy⟩:=aeT (l:=P++(x0++(y0++S))) rfl ha hm hb
 have hll:(P++(x0++(y0++S))).length=len:=by simp only[afI];omega
 have hvl:∀i,i<len→(aG ((P++(x0++(y0++S))).getD i noS)).isSome=true∧((P++(x0++(y0++S))).getD i noS).size≤100000:=fun i hi=>hvg i (by omega)
 generalize hL:P++(x0++(y0++S))=l at hgx hgy hll hvl
 refine df Tryz.func193 Tryz.ntmps193 fun x hx=>?_
 try refine nv ?_
 refine aj ?_ ?_
 ·intro h1
  have h1':m=a+1:=by simp at h1;omega
  obtain⟨e0,rfl⟩:∃e,x0=[e]:=List.length_eq_one_iff.1 (by omega)
  have hla:l.getD a noS=e0:=by rw[hgx a (by omega) (by omega),akq];rfl
  try refine nv ?_
  refine au (ι:=Nat×Nat) (I:=fun i=>⟨220,[(0, .c (.ms 46 1 0 len)),(1,I .i64 a),(4,wE),(10,I .i64 i.1),(11,I .i64 i.2)],stA l⟩)
   (Inv:=fun i=>m≤i.1∧i.1≤i.2∧i.2≤b∧(∀h,m≤h→h<i.1→pC (l.getD h noS) e0<0)∧∀h,i.2≤h→h<b→¬pC (l.getD h noS) e0<0) (μ:=fun i=>i.2-i.1) (m,b) ⟨by simp,by simp;omega,by simp,by simp only;omega,by simp only;omega⟩ ?_ ?_
  ·exact bQ
  rintro⟨i,j⟩ ⟨g1,g2,g3,g4,g5⟩
  simp only at g1 g2 g3 g4 g5⊢
  try refine nv ?_
  refine aj ?_ ?_
  ·intro hlt
   have hlt':i<j:=by simpa using hlt
   have hs:((i:Nat):Int)+((j:Nat):Int)=((i+j:Nat):Int):=by omega
   try refine nx @hs ?_
   refine uX (n:=i+j) (by simp) (by simp only[kV, ↓reduceIte,Nat.reduceEqDiff,reduceCtorEq];first|done|rfl) (by simp only[dB];omega) ?_
   refine fE ?_
   obtain⟨h,hh⟩:∃h,h=(i+j)/2:=⟨_,rfl⟩
   rw[←hh]
   have e1:=lI encS l h noS (by omega)
   have e2:=lI encS l a noS (by omega)
   have hc1:=IW _ _ (hvl h (by omega)) (hvl a (by omega))
   rw[hla] at e2 hc1
   have hmo1:∀h',m≤h'→h'≤h→pC (l.getD h noS) e0<0→pC (l.getD h' noS) e0<0:=fun h' k1 k2 k3=>by
    rw[hgy h' k1 (by omega)]
    rw[hgy h (by omega) (by omega)] at k3
    exact iw.QR (jS iw hy0 (by omega) (by omega)) k3
   have hmo2:∀h',h≤h'→h'<b→¬pC (l.getD h noS) e0<0→¬pC (l.getD h' noS) e0<0:=fun h' k1 k2 k3 k4=>by
    rw[hgy h' (by omega) k2] at k4
    rw[hgy h (by omega) (by omega)] at k3
    exact k3 (iw.QR (jS iw hy0 (by omega) (by omega)) k4)
   generalize l.getD h noS=v at e1 hc1 hmo1 hmo2
   try refine nv ?_
   refine dx ([(49,I .i64 (pC v e0))]) (p2 @e1 @e2) ?_ ?_
   ·exact eQ @hc1
   refine aZ ?_
   refine aj ?_ ?_
   ·intro hp
    have hp':pC v e0<0:=by simpa using hp
    try refine nv ?_
    refine⟨(h+1,j),⟨by simp;omega,by simp;omega,g3,fun h' k1 k2=>hmo1 h' k1 (by simp only at k2;omega) hp',g5⟩,by simp;omega,?_⟩
    exact bQ
   ·intro hp
    have hp':¬pC v e0<0:=by simpa using hp
    try refine nv ?_
    refine⟨(i,h),⟨g1,by simp;omega,by simp;omega,g4,fun h' k1 k2=>hmo2 h' k1 k2 hp'⟩,by simp;omega,?_⟩
    exact bQ
  intro hge
  have hij:i=j:=by have:¬i<j:=by simpa using hge
                   omega
  subst hij
  obtain⟨hz1,hz2⟩:=adz iw (x0:=e0) (y1:=y0.take (i-m)) (y2:=y0.drop (i-m)) (by rw[agu];exact hy0)
   (fun q hq=>by
     obtain⟨k,k1,k2,rfl⟩:=zN hq
     have:=g4 (m+k) (by omega) (by omega)
     rw[hgy (m+k) (by omega) (by omega),ajT] at this
     exact this)
   (fun q hq=>by
     obtain⟨k,k1,k2,rfl⟩:=zX hq
     have:=g5 (m+k) (by omega) (by omega)
     rw[hgy (m+k) (by omega) (by omega),ajT] at this
     exact this)
  rw[agu] at hz1
  try refine nv ?_
  refine au (ι:=Nat) (I:=fun k=>⟨220,[(0, .c (.ms 46 1 0 len)),(10,I .i64 i),(13,I .i64 (a+k:Nat))],stA (P++(y0.take k++e0::(y0.drop k++S)))⟩)
   (Inv:=fun k=>k≤i-m) (μ:=fun k=>i-m-k) 0 (by omega) ?_ ?_
  ·have e9:P++(y0.take 0++e0::(y0.drop 0++S))=l:=by rw[←hL];simp
   rw[e9]
   exact Dc @Nat.add_zero
  intro k hk
  have hlk:(P++(y0.take k++e0::(y0.drop k++S))).length=len:=by simp only[afI,List.length_cons,ajD,ajz];simp only[List.length_singleton] at hm;omega
  have hi1:((i:Nat):Int)-1=((i-1:Nat):Int):=by omega
  try refine nx @hi1 ?_
  refine aj ?_ ?_
  ·intro hlt
   have hlt':a+k<i-1:=by have h9:=agw hlt;omega
   have hk1:(((a+k:Nat):Int)+1).toNat=a+k+1:=by omega
   have hk0:(((a+k:Nat):Int)).toNat=a+k:=by omega
   obtain⟨w1,w2,w3⟩:=agD (P:=P) (y:=y0) (S:=S) (x0:=e0) (k:=k) (i:=a+k) (by omega) (by omega) noS
   have e1:=lI encS (P++(y0.take k++e0::(y0.drop k++S))) (a+k) noS (by omega)
   have e2:=lI encS (P++(y0.take k++e0::(y0.drop k++S))) (a+k+1) noS (by omega)
   rw[w1] at e1
   rw[w2] at e2
   generalize y0.getD k noS=w at e2 w3
   generalize P++(y0.take k++e0::(y0.drop k++S))=t at e1 e2 w3 hlk
   try refine nv ?_
   refine pM (wr:=false) ([]:List (Nat×AV)) (by kernel_rfl) (by simp only[kD,kk,Nat.reduceAdd,Nat.reduceLT,Nat.reduceEqDiff, ↓reduceIte,reduceCtorEq,hk1,hk0,e1,e2,Cb,CO];first|done|rfl) (by first|exact trivial|(simp only[kO];omega)|(simp[All,dB];first|done|omega)|(simp+contextual [All,dB];first|done|grind)) (by kernel_rfl) ?_
   try refine nv ?_
   refine⟨k+1,by omega,by omega,?_⟩
   rw[←w3]
   have e9:((a+(k+1):Nat):Int)=((a+k:Nat):Int)+1:=by omega
   exact Dc @e9
  intro hge
  have hk':k=i-m:=by have h9:=ajJ hge
                     omega
  subst hk'
  have e9:P++(y0.take (i-m)++e0::(y0.drop (i-m)++S))=P++((y0.take (i-m)++e0::y0.drop (i-m))++S):=by simp
  rw[e9]
  generalize y0.take (i-m)++e0::y0.drop (i-m)=z at hz1 hz2
  generalize hF:P++(z++S)=F
  try refine nv ?_
  refine rV ((stA F)) ?_
  exact⟨z,⟨hz1,hz2⟩,by rw[hF]⟩
 intro h1
 try refine nv ?_
 refine aj ?_ ?_
 ·intro h2
  have h2':b=m+1:=by simp at h2;omega
  obtain⟨e0,rfl⟩:∃e,y0=[e]:=List.length_eq_one_iff.1 (by omega)
  have hlm:l.getD m noS=e0:=by rw[hgy m (by omega) (by omega),akq];rfl
  try refine nv ?_
  refine au (ι:=Nat×Nat) (I:=fun i=>⟨220,[(0, .c (.ms 46 1 0 len)),(2,I .i64 m),(4,wE),(14,I .i64 i.1),(15,I .i64 i.2)],stA l⟩)
   (Inv:=fun i=>a≤i.1∧i.1≤i.2∧i.2≤m∧(∀h,a≤h→h<i.1→¬pC e0 (l.getD h noS)<0)∧∀h,i.2≤h→h<m→pC e0 (l.getD h noS)<0) (μ:=fun i=>i.2-i.1) (a,m) ⟨by simp,by simp;omega,by simp,by simp only;omega,by simp only;omega⟩ ?_ ?_
  ·exact bQ
  rintro⟨i,j⟩ ⟨g1,g2,g3,g4,g5⟩
  simp only at g1 g2 g3 g4 g5⊢
  try refine nv ?_
  refine aj ?_ ?_
  ·intro hlt
   have hlt':i<j:=by simpa using hlt
   have hs:((i:Nat):Int)+((j:Nat):Int)=((i+j:Nat):Int):=by omega
   try refine nx @hs ?_
   refine uX (n:=i+j) (by simp) (by simp only[kV, ↓reduceIte,Nat.reduceEqDiff,reduceCtorEq];first|done|rfl) (by simp only[dB];omega) ?_
   refine fE ?_
   obtain⟨h,hh⟩:∃h,h=(i+j)/2:=⟨_,rfl⟩
   rw[←hh]
   have e1:=lI encS l m noS (by omega)
   have e2:=lI encS l h noS (by omega)
   have hc1:=IW _ _ (hvl m (by omega)) (hvl h (by omega))
   rw[hlm] at e1 hc1
   have hmo1:∀h',a≤h'→h'≤h→¬pC e0 (l.getD h noS)<0→¬pC e0 (l.getD h' noS)<0:=fun h' k1 k2 k3=>by
    rw[hgx h' k1 (by omega)]
    rw[hgx h (by omega) (by omega)] at k3
    exact iw.le_trans (jS iw hx0 (by omega) (by omega)) k3
   have hmo2:∀h',h≤h'→h'<m→pC e0 (l.getD h noS)<0→pC e0 (l.getD h' noS)<0:=fun h' k1 k2 k3=>by
    apply akl
    intro k4
    rw[hgx h' (by omega) k2] at k4
    rw[hgx h (by omega) (by omega)] at k3
    exact(iw.le_trans (jS iw hx0 (by omega) (by omega)) k4) k3
   generalize l.getD h noS=v at e2 hc1 hmo1 hmo2
   try refine nv ?_
   refine dx ([(101,I .i64 (pC e0 v))]) (p2 @e1 @e2) ?_ ?_
   ·exact eQ @hc1
   refine aZ ?_
   refine aj ?_ ?_
   ·intro hp
    have hp':¬pC e0 v<0:=by simpa using hp
    try refine nv ?_
    refine⟨(h+1,j),⟨by simp;omega,by simp;omega,g3,fun h' k1 k2=>hmo1 h' k1 (by simp only at k2;omega) hp',g5⟩,by simp;omega,?_⟩
    exact bQ
   ·intro hp
    have hp':pC e0 v<0:=by simpa using hp
    try refine nv ?_
    refine⟨(i,h),⟨g1,by simp;omega,by simp;omega,g4,fun h' k1 k2=>hmo2 h' k1 k2 hp'⟩,by simp;omega,?_⟩
    exact bQ
  intro hge
  have hij:i=j:=by have:¬i<j:=by simpa using hge
                   omega
  subst hij
  obtain⟨hz1,hz2⟩:=Ny iw (y0:=e0) (x1:=x0.take (i-a)) (x2:=x0.drop (i-a)) (by rw[agu];exact hx0)
   (fun q hq=>by
     obtain⟨k,k1,k2,rfl⟩:=zN hq
     have:=g4 (a+k) (by omega) (by omega)
     rw[hgx (a+k) (by omega) (by omega),ajT] at this
     exact this)
   (fun q hq=>by
     obtain⟨k,k1,k2,rfl⟩:=zX hq
     have:=g5 (a+k) (by omega) (by omega)
     rw[hgx (a+k) (by omega) (by omega),ajT] at this
     exact this)
  rw[agu] at hz1
  try refine nv ?_
  refine au (ι:=Nat) (I:=fun k=>⟨220,[(0, .c (.ms 46 1 0 len)),(14,I .i64 i),(17,I .i64 (a+k:Nat))],stA (P++(x0.take k++e0::(x0.drop k++S)))⟩)
   (Inv:=fun k=>i-a≤k∧k≤x0.length) (μ:=fun k=>k) x0.length ⟨by omega,by omega⟩ ?_ ?_
  ·have e9:P++(x0.take x0.length++e0::(x0.drop x0.length++S))=l:=by rw[←hL];simp
   rw[e9,←hm]
   exact bQ
  rintro k ⟨hk0,hk⟩
  have hlk:(P++(x0.take k++e0::(x0.drop k++S))).length=len:=by simp only[afI,List.length_cons,ajD,ajz];simp only[List.length_singleton] at hb;omega
  try refine nv ?_
  refine aj ?_ ?_
  ·intro hlt
   have hlt':i<a+k:=by have h9:=agw hlt;omega
   have hk1:(((a+k:Nat):Int)-1).toNat=a+k-1:=by omega
   have hk2:((a+k:Nat):Int)-1=((a+(k-1):Nat):Int):=by omega
   have hk3:(((a+k:Nat):Int)).toNat=a+k:=by omega
   obtain⟨w1,w2,w3⟩:=XF (P:=P) (x:=x0) (S:=S) (y0:=e0) (j:=k) (k:=a+k) (by omega) hk (by omega) noS
   have e1:=lI encS (P++(x0.take k++e0::(x0.drop k++S))) (a+k) noS (by omega)
   have e2:=lI encS (P++(x0.take k++e0::(x0.drop k++S))) (a+k-1) noS (by omega)
   rw[w1] at e1
   rw[w2] at e2
   generalize x0.getD (k-1) noS=w at e2 w3
   generalize P++(x0.take k++e0::(x0.drop k++S))=t at e1 e2 w3 hlk
   try refine nv ?_
   refine pM (wr:=false) ([]:List (Nat×AV)) (by kernel_rfl) (by simp only[kD,kk,Nat.reduceAdd,Nat.reduceLT,Nat.reduceEqDiff, ↓reduceIte,reduceCtorEq,hk1,hk3,e1,e2,Cb,CO];first|done|rfl) (by first|exact trivial|(simp only[kO];omega)|(simp[All,dB];first|done|omega)|(simp+contextual [All,dB];first|done|grind)) (by kernel_rfl) ?_
   try refine nv ?_
   refine⟨k-1,⟨by omega,by omega⟩,by omega,?_⟩
   rw[←w3]
   have hk4:(a:Int)+(k:Int)-1=(a:Int)+((k-1:Nat):Int):=by omega
   exact Dc @hk4
  intro hge
  have hk':k=i-a:=by have h9:=ajJ hge
                     omega
  subst hk'
  have e9:P++(x0.take (i-a)++e0::(x0.drop (i-a)++S))=P++((x0.take (i-a)++e0::x0.drop (i-a))++S):=by simp
  rw[e9]
  generalize x0.take (i-a)++e0::x0.drop (i-a)=z at hz1 hz2
  generalize hF:P++(z++S)=F
  try refine nv ?_
  refine rV ((stA F)) ?_
  exact⟨z,⟨hz1,hz2⟩,by rw[hF]⟩
 intro h2
 have hs0:((a:Nat):Int)+((b:Nat):Int)=((a+b:Nat):Int):=by omega
 try refine nx @hs0 ?_
 refine uX (n:=a+b) (by simp) (by simp only[kV, ↓reduceIte,Nat.reduceEqDiff,reduceCtorEq];first|done|rfl) (by simp only[dB];omega) ?_
 refine fE ?_
 obtain⟨mid,hmid⟩:∃h,h=(a+b)/2:=⟨_,rfl⟩
 rw[←hmid]
 have hs1:((mid:Nat):Int)+((m:Nat):Int)=((mid+m:Nat):Int):=by omega
 try refine nx @hs1 ?_
 refine kL (ι:=Nat×Nat) (fun i=>⟨220,[(0, .c (.ms 46 1 0 len)),(1,I .i64 a),(2,I .i64 m),(3,I .i64 b),(4,wE),(18,I .i64 mid),(19,I .i64 (mid+m:Nat)),(20,I .i64 i.1),(21,I .i64 i.2)],stA l⟩)
  (fun i=>(a≤i.1∧i.1≤i.2∧i.2≤mid∧i.2≤m∧mid+m≤i.1+b)∧(i.1=a∨i.1+b=mid+m)∧(i.2=m∨i.2=mid)) ?_ ?_
 ·refine aj ?_ ?_
  ·intro h
   have h':mid<m:=by simpa using h
   have c1:((mid+m:Nat):Int)-((b:Nat):Int)=((mid+m-b:Nat):Int):=by omega
   try refine nx @c1 ?_
   refine⟨rfl,(mid+m-b,mid),⟨⟨by simp;omega,by simp;omega,by simp,by simp;omega,by simp;omega⟩, .inr (by simp only;omega), .inr rfl⟩,?_⟩
   exact bQ
  ·intro h
   have h':m≤mid:=by simp at h;omega
   try refine nv ?_
   refine⟨rfl,(a,m),⟨⟨by simp,by simp;omega,by simp;omega,by simp,by simp;omega⟩, .inl rfl, .inl rfl⟩,?_⟩
   exact bQ
 rintro⟨s0,r0⟩ ⟨⟨j1,j2,j3,j4,j5⟩,j6,j7⟩
 simp only at j1 j2 j3 j4 j5 j6 j7⊢
 have c2:((mid+m:Nat):Int)-1=((mid+m-1:Nat):Int):=by omega
 try refine nx @c2 ?_
 refine au (ι:=Nat×Nat) (I:=fun i=>⟨220,[(0, .c (.ms 46 1 0 len)),(1,I .i64 a),(2,I .i64 m),(3,I .i64 b),(4,wE),(18,I .i64 mid),(19,I .i64 (mid+m:Nat)),(20,I .i64 i.1),(21,I .i64 i.2),(22,I .i64 (mid+m-1:Nat))],stA l⟩)
  (Inv:=fun i=>s0≤i.1∧i.1≤i.2∧i.2≤r0∧(s0<i.1→¬pC (l.getD (mid+m-i.1) noS) (l.getD (i.1-1) noS)<0)∧(i.2<r0→pC (l.getD (mid+m-1-i.2) noS) (l.getD i.2 noS)<0)) (μ:=fun i=>i.2-i.1) (s0,r0) ⟨by simp,j2,by simp,fun h=>by simp only at h;omega,fun h=>by simp only at h;omega⟩ ?_ ?_
 ·exact bQ
 rintro⟨s,r⟩ ⟨g1,g2,g3,g4,g5⟩
 simp only at g1 g2 g3 g4 g5⊢
 try refine nv ?_
 refine aj ?_ ?_
 ·intro hlt
  have hlt':s<r:=by simpa using hlt
  have hs:((s:Nat):Int)+((r:Nat):Int)=((s+r:Nat):Int):=by omega
  try refine nx @hs ?_
  refine uX (n:=s+r) (by simp) (by simp only[kV, ↓reduceIte,Nat.reduceEqDiff,reduceCtorEq];first|done|rfl) (by simp only[dB];omega) ?_
  refine fE ?_
  obtain⟨h,hh⟩:∃h,h=(s+r)/2:=⟨_,rfl⟩
  rw[←hh]
  have hp:(((mid+m-1:Nat):Int)-((h:Nat):Int)).toNat=mid+m-1-h:=by omega
  have e1:=lI encS l (mid+m-1-h) noS (by omega)
  have e2:=lI encS l h noS (by omega)
  have hc1:=IW _ _ (hvl (mid+m-1-h) (by omega)) (hvl h (by omega))
  have q1:¬pC (l.getD (mid+m-1-h) noS) (l.getD h noS)<0→s0<h+1→¬pC (l.getD (mid+m-(h+1)) noS) (l.getD (h+1-1) noS)<0:=fun k1 _=>by
   rw[show mid+m-(h+1)=mid+m-1-h by omega,akb];exact k1
  have q2:pC (l.getD (mid+m-1-h) noS) (l.getD h noS)<0→h<r0→pC (l.getD (mid+m-1-h) noS) (l.getD h noS)<0:=fun k _=>k
  generalize hvv:l.getD (mid+m-1-h) noS=v at e1 hc1 q1 q2
  generalize hww:l.getD h noS=w at e2 hc1 q1 q2
  try refine nv ?_
  refine dx ([(169,I .i64 (pC v w))]) (p3 @hp @e1 @e2) ?_ ?_
  ·exact eQ @hc1
  refine aZ ?_
  refine aj ?_ ?_
  ·intro hq
   have hq':¬pC v w<0:=by simpa using hq
   try refine nv ?_
   refine⟨(h+1,r),⟨by simp;omega,by simp;omega,g3,q1 hq',g5⟩,by simp;omega,?_⟩
   exact bQ
  ·intro hq
   have hq':pC v w<0:=by simpa using hq
   try refine nv ?_
   refine⟨(s,h),⟨g1,by simp;omega,by simp;omega,g4,fun k=>by rw[hvv,hww];exact hq'⟩,by simp;omega,?_⟩
   exact bQ
 intro hge
 have hsr:s=r:=by have:¬s<r:=by simpa using hge
                  omega
 subst hsr
 clear hge
 have lx1:(x0.take (s-a)).length=s-a:=by simp;omega
 have lx2:(x0.drop (s-a)).length=m-s:=by simp;omega
 have ly1:(y0.take (mid-s)).length=mid-s:=by simp;omega
 have ly2:(y0.drop (mid-s)).length=b-(mid+m-s):=by simp;omega
 have H1:∀p∈x0.take (s-a),∀q∈y0.drop (mid-s),MO pC p q:=by
  intro p hp q hq
  obtain⟨i,i1,i2,rfl⟩:=zN hp
  obtain⟨k,k1,k2,rfl⟩:=zX hq
  have hs0s:s0<s:=by rcases j6 with e|e<;>omega
  have h3:=g4 hs0s
  rw[hgy (mid+m-s) (by omega) (by omega),hgx (s-1) (by omega) (by omega)] at h3
  refine iw.le_trans (jS iw hx0 (j:=s-1-a) (by omega) (by omega)) (iw.le_trans h3 ?_)
  exact jS iw hy0 (by omega) k2
 have H2:∀p∈x0.drop (s-a),∀q∈y0.take (mid-s),MO pC q p:=by
  intro p hp q hq
  obtain⟨i,i1,i2,rfl⟩:=zX hp
  obtain⟨k,k1,k2,rfl⟩:=zN hq
  have hr0s:s<r0:=by rcases j7 with e|e<;>omega
  have h3:=g5 hr0s
  rw[hgy (mid+m-1-s) (by omega) (by omega),hgx s (by omega) (by omega)] at h3
  refine iw.le_trans (jS iw hy0 (j:=mid+m-1-s-m) (by omega) (by omega)) (iw.le_trans (iw.le_of_lt h3) ?_)
  exact jS iw hx0 (by omega) i2
 have ex:x0.take (s-a)++x0.drop (s-a)=x0:=agu _ _
 have ey:y0.take (mid-s)++y0.drop (mid-s)=y0:=agu _ _
 generalize x0.take (s-a)=x1 at lx1 H1 ex
 generalize x0.drop (s-a)=x2 at lx2 H2 ex
 generalize y0.take (mid-s)=y1 at ly1 H2 ey
 generalize y0.drop (mid-s)=y2 at ly2 H1 ey
 have hlx:=hm
 have hly:=hb
 clear hgx hgy g4 g5
 have hsx1:bg pC x1:=by rw[←ex,bg,ajP] at hx0;exact hx0.1
 have hsx2:bg pC x2:=by rw[←ex,bg,ajP] at hx0;exact hx0.2.1
 have hsy1:bg pC y1:=by rw[←ey,bg,ajP] at hy0;exact hy0.1
 have hsy2:bg pC y2:=by rw[←ey,bg,ajP] at hy0;exact hy0.2.1
 have hfin:∀z1 z2,z1.Perm (x1++y1)→bg pC z1→z2.Perm (x2++y2)→bg pC z2→(z1++z2).Perm (x0++y0)∧bg pC (z1++z2):=fun z1 z2 p1 s1 p2 s2=>by
  rw[←ex] at hx0⊢
  rw[←ey] at hy0⊢
  exact Pn hx0 hy0 H1 H2 p1 s1 p2 s2
 have hVl:VS l:=by rw[←hL];exact hV
 have el:(P++x1)++(x2++(y1++(y2++S)))=l:=by rw[←hL,←ex,←ey];simp
 have hV2:VS (P++(x1++(y1++(x2++(y2++S))))):=by
  intro q hq
  refine hVl q ?_
  rw[←el]
  simp only[afs] at hq⊢
  rcases hq with h|h|h|h|h|h
  ·exact .inl (.inl h)
  ·exact .inl (.inr h)
  ·exact .inr (.inr (.inl h))
  ·exact .inr (.inl h)
  ·exact .inr (.inr (.inr (.inl h)))
  ·exact .inr (.inr (.inr (.inr h)))
 have c3:((mid+m:Nat):Int)-((s:Nat):Int)=((mid+m-s:Nat):Int):=by omega
 have et:(P++x1)++(y1++(x2++(y2++S)))=P++(x1++(y1++(x2++(y2++S)))):=by simp
 have hrot:=fun(k1:0<x2.length) (k2:0<y1.length)=>adL (P++x1) x2 y1 (y2++S) len s m (mid+m-s) k1 k2 (by simp;omega) hl (by simp;omega) (by simp;omega) (by simp;omega)
 rw[el,et] at hrot
 have hle:x2=[]∨y1=[]→l=P++(x1++(y1++(x2++(y2++S)))):=by
  rw[←el]
  rintro(e|e)<;>subst e<;>simp
 have hleft:=fun(k1:0<x1.length) (k2:0<y1.length)=>ih P x1 y1 (x2++(y2++S)) hsx1 hsy1 hV2 k1 k2 a s mid ha (by omega) (by omega) (by simp;omega) (by omega)
 generalize hT:P++(x1++(y1++(x2++(y2++S))))=t at hrot hle hleft hV2
 try refine nx @c3 ?_
 refine nZ ⟨220,[(0, .c (.ms 46 1 0 len)),(1,I .i64 a),(3,I .i64 b),(4,wE),(18,I .i64 mid),(20,I .i64 s),(24,I .i64 (mid+m-s:Nat))],stA t⟩ ?_ ?_
 ·refine aj ?_ ?_
  ·intro h
   have h':s<m∧m<mid+m-s:=by
    by_cases q:s<m
    ·refine⟨q,?_⟩
     have:((s:Nat):Int)<((m:Nat):Int):=by omega
     simp[this] at h;omega
    ·have:¬((s:Nat):Int)<((m:Nat):Int):=by omega
     simp[this] at h
   have hro:=hrot (by omega) (by omega)
   try refine nv ?_
   refine nJ ((stA l)) (hro) ?_
   rintro rv9 st' rfl<;>refine nP ?_
   try refine nv ?_
   refine⟨rfl,?_⟩
   exact bQ
  ·intro h
   have h':x2=[]∨y1=[]:=by
    by_cases q:s<m
    ·right
     have:((s:Nat):Int)<((m:Nat):Int):=by omega
     simp[this] at h
     exact ajw.1 (by omega)
    ·exact .inl (ajw.1 (by omega))
   rw[hle h']
   refine aZ ?_
   refine⟨rfl,?_⟩
   exact bQ
 try refine nv ?_
 refine kL (ι:=List akK) (fun z1=>⟨220,[(0, .c (.ms 46 1 0 len)),(3,I .i64 b),(4,wE),(18,I .i64 mid),(24,I .i64 (mid+m-s:Nat))],stA (P++(z1++(x2++(y2++S))))⟩) (fun z1=>z1.Perm (x1++y1)∧bg pC z1) ?_ ?_
 ·refine aj ?_ ?_
  ·intro h
   have h':a<s∧s<mid:=by
    by_cases q:a<s
    ·refine⟨q,?_⟩
     have:((a:Nat):Int)<((s:Nat):Int):=by omega
     simp[this] at h;omega
    ·have:¬((a:Nat):Int)<((s:Nat):Int):=by omega
     simp[this] at h
   have hlf:=hleft (by omega) (by omega)
   try refine nv ?_
   refine nJ ((stA t)) (hlf) ?_
   rintro rv9 st' ⟨z1,hz1,rfl⟩<;>refine nP ?_
   generalize hB:P++(z1++(x2++(y2++S)))=B
   try refine nv ?_
   refine⟨rfl,z1,hz1,?_⟩
   rw[hB]
   exact bQ
  ·intro h
   have h':x1=[]∨y1=[]:=by
    by_cases q:a<s
    ·right
     have:((a:Nat):Int)<((s:Nat):Int):=by omega
     simp[this] at h
     exact ajw.1 (by omega)
    ·exact .inl (ajw.1 (by omega))
   have hso:bg pC (x1++y1):=by
    rcases h' with e|e<;>subst e
    ·simpa using hsy1
    ·simpa using hsx1
   refine aZ ?_
   refine⟨rfl,x1++y1,⟨akI _,hso⟩,?_⟩
   rw[show P++((x1++y1)++(x2++(y2++S)))=t from by rw[←hT];simp]
   exact bQ
 rintro z1 ⟨hz1,hzs1⟩
 have lz1:z1.length=mid-a:=by rw[hz1.length_eq];simp;omega
 have hV3:VS ((P++z1)++(x2++(y2++S))):=by
  intro q hq
  refine hV2 q ?_
  rw[←hT]
  simp only[afs] at hq⊢
  rcases hq with(h|h)|h|h|h
  ·exact .inl h
  ·rcases afs.1 (hz1.mem_iff.1 h) with h|h
   ·exact .inr (.inl h)
   ·exact .inr (.inr (.inl h))
  ·exact .inr (.inr (.inr (.inl h)))
  ·exact .inr (.inr (.inr (.inr (.inl h))))
  ·exact .inr (.inr (.inr (.inr (.inr h))))
 have hright:=fun(k1:0<x2.length) (k2:0<y2.length)=>ih (P++z1) x2 y2 S hsx2 hsy2 hV3 k1 k2 mid (mid+m-s) b (by simp;omega) (by omega) (by omega) hlen (by omega)
 have e5:(P++z1)++(x2++(y2++S))=P++(z1++(x2++(y2++S))):=by simp
 rw[e5] at hright
 have hno:bg pC (x2++y2)→∃z,(z.Perm (x0++y0)∧bg pC z)∧stA (P++(z1++(x2++(y2++S))))=stA (P++(z++S)):=fun hso=>by
  refine⟨z1++(x2++y2),hfin z1 (x2++y2) hz1 hzs1 (akI _) hso,?_⟩
  simp
 generalize P++(z1++(x2++(y2++S)))=t3 at hright hno
 try refine nv ?_
 refine aj ?_ ?_
 ·intro h
  have h':mid<mid+m-s∧mid+m-s<b:=by
   by_cases q:mid<mid+m-s
   ·refine⟨q,?_⟩
    have:((mid:Nat):Int)<((mid+m-s:Nat):Int):=by omega
    simp[this] at h;omega
   ·have:¬((mid:Nat):Int)<((mid+m-s:Nat):Int):=by omega
    simp[this] at h
  have hri:=hright (by omega) (by omega)
  try refine nv ?_
  refine nJ ((stA t3)) (hri) ?_
  rintro rv9 st' ⟨z2,⟨hz2,hzs2⟩,rfl⟩<;>refine nP ?_
  have hF:=hfin z1 z2 hz1 hzs1 hz2 hzs2
  have e6:(P++z1)++(z2++S)=P++((z1++z2)++S):=by simp
  rw[e6]
  generalize z1++z2=z at hF
  generalize hG:P++(z++S)=G
  try refine nv ?_
  refine rN ((stA G)) ?_
  exact⟨z,hF,by rw[hG]⟩
 ·intro h
  have h':x2=[]∨y2=[]:=by
   by_cases q:mid<mid+m-s
   ·right
    have:((mid:Nat):Int)<((mid+m-s:Nat):Int):=by omega
    simp[this] at h
    exact ajw.1 (by omega)
   ·exact .inl (ajw.1 (by omega))
  have hso:bg pC (x2++y2):=by
   rcases h' with e|e<;>subst e
   ·simpa using hsy2
   ·simpa using hsx2
  try refine nv ?_
  refine rN ((stA t3)) ?_
  exact hno hso
end Go.Proofs.YtcpgicfphakdaaaGreatDoor
