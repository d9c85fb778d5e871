/- A part of the proof. -/
import Derived.Test.YtcpgicfphakdaaaGreatDoorRT4
import Derived.Test.YtcpgicfphakdaaaGreatDoorRK21
import Derived.Ground.NamesProg
import Derived.Shelf.Lay
import Derived.Shelf.Sort.Plain
import Derived.Shelf.Slices.In.SortNone
set_option maxRecDepth 100000
set_option maxHeartbeats 16000000
set_option linter.all false
namespace Go.Proofs.YtcpgicfphakdaaaGreatDoor
section
open Go.Ab Tys
variable [Dr]
variable {l0:List dZ}
theorem EP.get {n:Nat} {l:List dZ} (h:EP l0 n l) {i:Nat} (hi:i<n):IM (l.getD i dS):=by
 rw[adI,adH (by rw[h.1];exact hi)]
 exact h.2.2 _ (by simp)
def aiq.kk:=p9 kB kG WL Tryz.ntmps172 lq pW wu sD Tryz.results172
open aiq in
theorem YD (len:Nat) (l:List dZ) (hl:len≤1000000) (hR:EP l0 len l) (a b:Nat) (ha:a≤b) (hb:b≤len):
 AC Tryz.prog 172 [.c (.ms 46 6 0 len),I .i64 a,I .i64 b,yz] [(46,ay 6 (l.map af))] (fun r st=>∃l',EP l0 len l'∧st=[(46,ay 6 (l'.map af))]):=by
 refine df Tryz.func172 Tryz.ntmps172 fun x hx=>?_
 try refine nv ?_
 refine au (ι:=Nat×List dZ) (I:=fun i=>⟨53,[(0, .c (.ms 46 6 0 len)),(1,I .i64 a),(2,I .i64 b),(3,yz),(8,I .i64 i.1)],[(46,ay 6 (i.2.map af))]⟩)
  (Inv:=fun i=>a<i.1∧i.1≤b+1∧EP l0 len i.2) (μ:=fun i=>b+1-i.1) (a+1,l) ⟨by simp,by simp;omega,hR⟩ ?_ ?_
 ·exact bQ
 rintro⟨i,t⟩ ⟨h1,h2,h3⟩
 simp only at h1 h2 h3⊢
 try refine nv ?_
 refine aj ?_ ?_
 rotate_left
 ·intro _
  try refine nv ?_
  refine rN ([(46,ay 6 (t.map af))]) ?_
  exact⟨t,h3,rfl⟩
 intro hlt
 have hlt':i<b:=by simpa using hlt
 try refine nv ?_
 refine au (ι:=Nat×List dZ) (I:=fun j=>⟨53,[(0, .c (.ms 46 6 0 len)),(1,I .i64 a),(2,I .i64 b),(3,yz),(8,I .i64 i),(9,I .i64 j.1)],[(46,ay 6 (j.2.map af))]⟩)
  (Inv:=fun j=>a≤j.1∧j.1≤i∧EP l0 len j.2) (μ:=fun j=>j.1) (i,t) ⟨by simp;omega,by simp,h3⟩ ?_ ?_
 ·exact bQ
 rintro⟨j,u⟩ ⟨g1,g2,g3⟩
 simp only at g1 g2 g3⊢
 have hj1:((j:Int)-1).toNat=j-1:=by omega
 have hul:=g3.1
 have hju:j<u.length:=by omega
 have hju1:j-1<u.length:=by omega
 have e1:=lI af u j dS hju
 have e2:=lI af u (j-1) dS hju1
 have hc1:=Iq _ _ (g3.get (i:=j) (by omega)) (g3.get (i:=j-1) (by omega))
 have hsw:=g3.swap (i:=j) (j:=j-1) (by omega) (by omega)
 generalize u.getD j dS=v at e1 hc1 hsw
 generalize u.getD (j-1) dS=w at e2 hc1 hsw
 refine aZ ?_
 refine dx ([(32,I .i64 (cmR v w))]) (p3 @hj1 @e1 @e2) ?_ ?_
 ·exact eQ @hc1
 refine aZ ?_
 refine aj ?_ ?_
 ·intro hc
  have hj:a<j:=by
   by_cases h:a<j
   ·exact h
   ·have:¬((a:Nat):Int)<((j:Nat):Int):=by omega
    simp[this] at hc
  have e3:=lI af (u.set j w) (j-1) dS (by simp;omega)
  refine aZ ?_
  refine pM (wr:=false) ([]:List (Nat×AV)) (by kernel_rfl) (by simp only[kD,kk,Nat.reduceAdd,Nat.reduceLT,Nat.reduceEqDiff, ↓reduceIte,reduceCtorEq,hj1,e1,e2,Tt,L8];first|done|rfl) (by first|exact trivial|(simp only[kO];omega)|(simp[All,dB];first|done|omega)|(simp+contextual [All,dB];first|done|grind)) (by kernel_rfl) ?_
  try refine nv ?_
  refine⟨(j-1,(u.set j w).set (j-1) v),⟨by simp;omega,by simp;omega,hsw⟩,by simp;omega,?_⟩
  have hcast:((j:Nat):Int)-1=((j-1:Nat):Int):=by omega
  exact Dc @hcast
 ·intro _
  try refine nv ?_
  refine⟨(i+1,u),⟨by simp;omega,by simp;omega,g3⟩,by simp;omega,?_⟩
  exact bQ
end
section
open Go.Ab Tys
variable [Dr]
def ait.kk:=p8 kB kG WL Tryz.ntmps192 jy rZ jB Tryz.results192
open ait in
theorem aeQ (len:Nat) (hl:len≤1000000) (P x0 S:List akK) (hV:VS (P++(x0++S))) (a b:Nat) (ha:a=P.length) (hb:b=a+x0.length) (hlen:b+S.length=len):
 AC Tryz.prog 192 [.c (.ms 46 1 0 len),I .i64 a,I .i64 b,wE] (stA (P++(x0++S))) (fun _ st=>∃z,(z.Perm x0∧bg pC z)∧st=stA (P++(z++S))):=by
 refine df Tryz.func192 Tryz.ntmps192 fun x hx=>?_
 try refine nv ?_
 refine au (ι:=Nat×List akK) (I:=fun i=>⟨53,[(0, .c (.ms 46 1 0 len)),(1,I .i64 a),(2,I .i64 b),(3,wE),(8,I .i64 i.1)],stA (P++(i.2++(x0.drop (i.1-a)++S)))⟩)
  (Inv:=fun i=>a<i.1∧i.1≤b+1∧i.2.Perm (x0.take (i.1-a))∧bg pC i.2) (μ:=fun i=>b+1-i.1) (a+1,x0.take 1) ⟨by simp,by simp;omega,by simp,?_⟩ ?_ ?_
 ·cases x0 with
  |nil=>simp
  |cons e t=>simp
 ·have e9:P++(x0.take 1++(x0.drop (a+1-a)++S))=P++(x0++S):=by
   rw[ajT,←ahJ (x0.take 1),agu]
  rw[e9]
  generalize P++(x0++S)=l
  exact bQ
 rintro⟨i,w⟩ ⟨h1,h2,h3,h4⟩
 simp only at h1 h2 h3 h4⊢
 try refine nv ?_
 refine aj ?_ ?_
 rotate_left
 ·intro hge
  have hib:b≤i:=by have:¬i<b:=by simpa using hge
                   omega
  have e9:x0.drop (i-a)=[]:=List.drop_of_length_le (by omega)
  have e8:x0.take (i-a)=x0:=ahH (by omega)
  rw[e8] at h3
  rw[e9,List.nil_append]
  generalize hG:P++(w++S)=G
  try refine nv ?_
  refine rN ((stA G)) ?_
  exact⟨w,⟨h3,h4⟩,by rw[hG]⟩
 intro hlt
 have hlt':i<b:=by simpa using hlt
 have hix:i-a<x0.length:=by omega
 have lw:w.length=i-a:=by rw[h3.length_eq];simp;omega
 have ed:x0.drop (i-a)=x0.getD (i-a) noS::x0.drop (i+1-a):=by
  rw[aiu hix,show i+1-a=i-a+1 by omega];simp[adI,adH hix]
 have et:x0.take (i+1-a)=x0.take (i-a)++[x0.getD (i-a) noS]:=by
  rw[show i+1-a=i-a+1 by omega,ajC,adH hix];simp[adI,adH hix]
 have hex:x0=x0.take (i-a)++(x0.getD (i-a) noS::x0.drop (i+1-a)):=by rw[←ed,agu]
 have lS:(x0.drop (i+1-a)).length=b-(i+1):=by simp;omega
 generalize x0.getD (i-a) noS=e0 at ed et hex
 rw[ed]
 generalize hS1:x0.drop (i+1-a)++S=S1
 have lS1:S1.length+i+1=len:=by rw[←hS1];simp;omega
 have hVw:∀n,VS (P++(w.take n++e0::(w.drop n++S1))):=by
  intro n q hq
  refine hV q ?_
  have he0:e0∈x0:=by rw[hex];simp
  have hwm:∀q,q∈w→q∈x0:=fun q h=>akB (h3.mem_iff.1 h)
  rw[←hS1] at hq
  simp only[afs,afr] at hq⊢
  rcases hq with h|h|h|h|h|h
  ·exact .inl h
  ·exact .inr (.inl (hwm q (akB h)))
  ·subst h;exact .inr (.inl he0)
  ·exact .inr (.inl (hwm q (akc h)))
  ·exact .inr (.inl (akc h))
  ·exact .inr (.inr h)
 rw[show P++(w++(e0::x0.drop (i+1-a)++S))=P++(w++e0::S1) from by rw[←hS1];rfl]
 generalize hl0:P++(w++e0::S1)=l0
 try refine nv ?_
 refine au (ι:=Nat) (I:=fun j=>⟨53,[(0, .c (.ms 46 1 0 len)),(1,I .i64 a),(2,I .i64 b),(3,wE),(8,I .i64 i),(9,I .i64 (a+j:Nat))],stA (P++(w.take j++e0::(w.drop j++S1)))⟩)
  (Inv:=fun j=>j≤w.length∧∀k,j≤k→k<w.length→pC e0 (w.getD k noS)<0) (μ:=fun j=>j) w.length ⟨by omega,by omega⟩ ?_ ?_
 ·have e9:P++(w.take w.length++e0::(w.drop w.length++S1))=l0:=by rw[←hl0];simp
  have e8:a+w.length=i:=by omega
  rw[e9,e8]
  exact bQ
 rintro j ⟨g1,g2⟩
 have hlt2:(P++(w.take j++e0::(w.drop j++S1))).length=len:=by simp only[afI,List.length_cons,ajD,ajz];omega
 have hj0:(((a+j:Nat):Int)).toNat=a+j:=by omega
 have hj1:(((a+j:Nat):Int)-1).toNat=a+j-1:=by omega
 have ge0:=afX (P:=P) (A:=w.take j) (B:=w.drop j++S1) (e0:=e0) (z:=noS) (i:=a+j) (by simp;omega)
 have hwl:=fun(hj:0<j)=>XF (P:=P) (x:=w) (S:=S1) (y0:=e0) (j:=j) (k:=a+j) hj g1 (by omega) noS
 have hv1:=(hVw j).get (i:=a+j) (by omega)
 have hv2:=(hVw j).get (i:=a+j-1) (by omega)
 rw[ge0] at hv1
 have hc1:=IW _ _ hv1 hv2
 generalize hT:P++(w.take j++e0::(w.drop j++S1))=t at hlt2 ge0 hwl hc1
 have e1:=lI encS t (a+j) noS (by omega)
 have e2:=lI encS t (a+j-1) noS (by omega)
 rw[ge0] at e1
 generalize hvv:t.getD (a+j-1) noS=v at e2 hc1 hwl
 refine aZ ?_
 refine dx ([(32,I .i64 (pC e0 v))]) (p4 @hj0 @hj1 @e1 @e2) ?_ ?_
 ·exact eQ @hc1
 refine aZ ?_
 have hjd:decide ((a:Int)<((a+j:Nat):Int))=decide (0<j):=ajs.2 (by omega)
 refine aj ?_ ?_
 ·intro hc
  have hcc:0<j∧pC e0 v<0:=by
   by_cases h:0<j
   ·refine⟨h,?_⟩
    have:((a:Nat):Int)<((a+j:Nat):Int):=by omega
    simp[this] at hc
    exact hc.2
   ·have:¬((a:Nat):Int)<((a+j:Nat):Int):=by omega
    simp[this] at hc
    omega
  obtain⟨hj,hp⟩:=hcc
  obtain⟨_,w2,w3⟩:=hwl hj
  rw[←w2] at w3
  refine aZ ?_
  refine pM (wr:=false) ([]:List (Nat×AV)) (by kernel_rfl) (by simp only[kD,kk,Nat.reduceAdd,Nat.reduceLT,Nat.reduceEqDiff, ↓reduceIte,reduceCtorEq,hj0,hj1,e1,e2,Cb,CO];first|done|rfl) (by first|exact trivial|(simp only[kO];omega)|(simp[All,dB];first|done|omega)|(simp+contextual [All,dB];first|done|grind)) (by kernel_rfl) ?_
  try refine nv ?_
  refine⟨j-1,⟨by omega,fun k k1 k2=>?_⟩,by omega,?_⟩
  ·by_cases e:k=j-1
   ·subst e;rw[←w2];exact hp
   ·exact g2 k (by omega) k2
  ·rw[←w3]
   have hcast:(a:Int)+(j:Int)-1=(a:Int)+((j-1:Nat):Int):=by omega
   exact Dc @hcast
 ·intro hc
  have hno:∀k,k<j→¬pC e0 (w.getD k noS)<0:=by
   intro k hk
   have hj:0<j:=by omega
   obtain⟨_,w2,_⟩:=hwl hj
   have hp:¬pC e0 v<0:=by
    intro h
    have:((a:Nat):Int)<((a+j:Nat):Int):=by omega
    simp[this,h] at hc
    omega
   rw[w2] at hp
   exact iw.le_trans (jS iw h4 (j:=j-1) (by omega) (by omega)) hp
  obtain⟨z1,z2⟩:=Ny iw (y0:=e0) (x1:=w.take j) (x2:=w.drop j) (by rw[agu];exact h4)
   (fun q hq=>by obtain⟨k,k1,k2,rfl⟩:=zN hq;exact hno k k1)
   (fun q hq=>by obtain⟨k,k1,k2,rfl⟩:=zX hq;exact g2 k k1 k2)
  rw[agu] at z1
  try refine nv ?_
  refine⟨(i+1,w.take j++e0::w.drop j),⟨by simp;omega,by simp;omega,?_,z2⟩,by simp;omega,?_⟩
  ·simp only
   rw[et]
   exact z1.trans (List.Perm.append_right _ h3)
  ·simp only
   rw[show P++((w.take j++e0::w.drop j)++(x0.drop (i+1-a)++S))=t from by rw[←hT,hS1];simp]
   exact bQ
theorem oI {k q c:Nat} (h:q<k):q*c+c≤k*c:=by
 have:=ajp c h
 rw[ajL] at this;exact this
theorem aey {t:List akK} {a m e:Nat} (h1:a≤m) (h2:m≤e):yh t a (m-a)++yh t m (e-m)=yh t a (e-a):=by
 unfold yh
 have h:=agu (m-a) ((t.drop a).take (e-a))
 rw[List.take_take,Nat.min_eq_left (by omega),List.drop_take,List.drop_drop] at h
 rw[show e-a-(m-a)=e-m by omega,show a+(m-a)=m by omega] at h
 exact h
theorem Xh {t:List akK} {a n k:Nat} (h1:t.length-a≤n) (h2:t.length-a≤k):yh t a n=yh t a k:=by
 unfold yh
 rw[ahH (by simp;omega),ahH (by simp;omega)]
section
variable (len:Nat) (hl:len≤1000000) (l0:List akK) (hlen:l0.length=len) (hV:VS l0)
include hl hlen hV
theorem aen {t:List akK} (hp:t.Perm l0) {a e:Nat} (h1:a≤e) (h2:e≤len):
 AC Tryz.prog 192 [.c (.ms 46 1 0 len),I .i64 a,I .i64 e,wE] (stA t) (fun _ st=>∃z,(z.Perm (yh t a (e-a))∧bg pC z)∧st=stA (rep t a e z)):=by
 have ht:t.length=len:=by rw[hp.length_eq,hlen]
 have hs:=KH (l:=t) h1
 have h:=aeQ len hl (t.take a) (yh t a (e-a)) (t.drop e) (by rw[hs];exact hV.perm hp) a e (by simp;omega) (by rw[sJ];omega) (by simp;omega)
 rw[hs] at h
 exact h
theorem adZ {t:List akK} (hp:t.Perm l0) {a m e:Nat} (h1:a<m) (h2:m<e) (h3:e≤len) (s1:bg pC (yh t a (m-a))) (s2:bg pC (yh t m (e-m))):
 AC Tryz.prog 193 [.c (.ms 46 1 0 len),I .i64 a,I .i64 m,I .i64 e,wE] (stA t) (fun _ st=>∃z,(z.Perm (yh t a (e-a))∧bg pC z)∧st=stA (rep t a e z)):=by
 have ht:t.length=len:=by rw[hp.length_eq,hlen]
 have ha:=aey (t:=t) (a:=a) (m:=m) (e:=e) (by omega) (by omega)
 have hs:t.take a++(yh t a (m-a)++(yh t m (e-m)++t.drop e))=t:=by
  rw[←ahJ (yh t a (m-a)),ha]
  exact KH (by omega)
 have h:=ae9 len hl (e-a) (t.take a) (yh t a (m-a)) (yh t m (e-m)) (t.drop e) s1 s2 (by rw[hs];exact hV.perm hp) (by rw[sJ];omega) (by rw[sJ];omega) a m e (by simp;omega) (by rw[sJ];omega) (by rw[sJ];omega) (by simp;omega) (afJ _)
 rw[hs,ha] at h
 exact h
end
def aiJ.kk:=p3 kB Tryz.ntmps136 Tryz.results136
open aiJ in
theorem Vo (len:Nat) (hl:len≤1000000) (l0:List akK) (hlen:l0.length=len) (hV:VS l0):
 AC Tryz.prog 136 [.c (.ms 46 1 0 len),I .i64 len,wE] (stA l0) (fun _ st=>∃z,(z.Perm l0∧bg pC z)∧st=stA z):=by
 have hins:=fun t (hp:t.Perm l0) a e h1 h2=>aen len hl l0 hlen hV (t:=t) hp (a:=a) (e:=e) h1 h2
 have hsym:=fun t (hp:t.Perm l0) a m e h1 h2 h3 s1 s2=>adZ len hl l0 hlen hV (t:=t) hp (a:=a) (m:=m) (e:=e) h1 h2 h3 s1 s2
 refine df Tryz.func136 Tryz.ntmps136 fun x hx=>?_
 try refine nv ?_
 refine au (ι:=Nat×List akK) (I:=fun i=>⟨63,[(0, .c (.ms 46 1 0 len)),(1,I .i64 len),(2,wE),(6,I .i64 (20:Nat)),(7,I .i64 i.1),(8,I .i64 (i.1+20:Nat))],stA i.2⟩)
  (Inv:=fun i=>i.1≤len∧(∃q,i.1=q*20)∧i.2.Perm l0∧∀k,(k+1)*20≤i.1→bg pC (yh i.2 (k*20) 20)) (μ:=fun i=>len-i.1) (0,l0) ⟨by simp,⟨0,rfl⟩,akI _,fun k h=>by simp only at h;omega⟩ ?_ ?_
 ·exact bQ
 rintro⟨a,t⟩ ⟨h1,⟨q,hq⟩,h2,h3⟩
 simp only at h1 hq h2 h3⊢
 have ht:t.length=len:=by rw[h2.length_eq,hlen]
 try refine nv ?_
 refine aj ?_ ?_
 ·intro hle
  have hle':a+20≤len:=by simp at hle;omega
  have hi:=hins t h2 a (a+20) (by omega) hle'
  try refine nv ?_
  refine nJ ((stA t)) (hi) ?_
  rintro rv9 st' ⟨z,⟨hz1,hz2⟩,rfl⟩<;>refine nP ?_
  have hzl:z.length=a+20-a:=by rw[hz1.length_eq,sJ];omega
  have hrp:=(ET (l:=t) (z:=z) (a:=a) (e:=a+20) (by omega) hz1).trans h2
  have hrb:=fun i n=>xR (l:=t) (z:=z) (a:=a) (e:=a+20) (by omega) (by omega) hzl (i:=i) (n:=n)
  have hra:=PS (l:=t) (z:=z) (a:=a) (e:=a+20) (by omega) (by omega) hzl (n:=20) (.inl (by omega))
  generalize rep t a (a+20) z=t1 at hrp hrb hra
  have c1:((a+20:Nat):Int)+((20:Nat):Int)=((a+20+20:Nat):Int):=by omega
  try refine nx @c1 ?_
  refine⟨(a+20,t1),⟨hle',⟨q+1,by simp only;omega⟩,hrp,fun k hk=>?_⟩,by simp;omega,?_⟩
  ·simp only at hk⊢
   by_cases e:(k+1)*20≤a
   ·rw[hrb (k*20) 20 (by omega)];exact h3 k e
   ·rw[show k*20=a by omega,hra];exact hz2
  ·exact Dc @c1
 intro hgt
 have hgt':len<a+20:=by simp at hgt;omega
 have hi:=hins t h2 a len h1 (afJ _)
 try refine nv ?_
 refine nJ ((stA t)) (hi) ?_
 rintro rv9 st' ⟨z,⟨hz1,hz2⟩,rfl⟩<;>refine nP ?_
 have hzl:z.length=len-a:=by rw[hz1.length_eq,sJ];omega
 have hrp:=(ET (l:=t) (z:=z) (a:=a) (e:=len) (by omega) hz1).trans h2
 have hrb:=fun i n=>xR (l:=t) (z:=z) (a:=a) (e:=len) (by omega) (by omega) hzl (i:=i) (n:=n)
 have hra:=PS (l:=t) (z:=z) (a:=a) (e:=len) (by omega) (by omega) hzl (n:=20) (.inr ⟨ht.symm,by omega⟩)
 have hrl:=Yd (l:=t) (z:=z) (a:=a) (e:=len) (by omega) (by omega) hzl
 generalize rep t a len z=t1 at hrp hrb hra hrl
 have hB:Blk 20 t1:=by
  intro k
  rcases akn k q with e|e|e
  ·have:=oI (c:=20) e
   rw[hrb (k*20) 20 (by omega)];exact h3 k (by omega)
  ·rw[e,←hq,hra];exact hz2
  ·have:=oI (c:=20) e
   rw[QJ (by omega)];exact List.Pairwise.nil
 clear hi hrb hra hz1 hz2 h3
 try refine nv ?_
 refine au (ι:=Nat×List akK) (I:=fun i=>⟨63,[(0, .c (.ms 46 1 0 len)),(1,I .i64 len),(2,wE),(6,I .i64 i.1)],stA i.2⟩)
  (Inv:=fun i=>20≤i.1∧i.1≤2*len+20∧i.2.Perm l0∧Blk i.1 i.2) (μ:=fun i=>2*len+20-i.1) (20,t1) ⟨by simp,by simp,hrp,hB⟩ ?_ ?_
 ·exact bQ
 rintro⟨bs,u⟩ ⟨g1,g2,g3,g4⟩
 simp only at g1 g2 g3 g4⊢
 have hul:u.length=len:=by rw[g3.length_eq,hlen]
 try refine nv ?_
 refine aj ?_ ?_
 rotate_left
 ·intro hge
  have hge':len≤bs:=by have:¬bs<len:=by simpa using hge
                       omega
  try refine nv ?_
  refine rN ((stA u)) ?_
  exact⟨u,⟨g3,g4.whole (by omega)⟩,rfl⟩
 intro hlt
 have hlt':bs<len:=by simpa using hlt
 have c2:(2:Int)*((bs:Nat):Int)=((2*bs:Nat):Int):=by omega
 have c2':((bs:Nat):Int)*2=((2*bs:Nat):Int):=by omega
 try refine nx @c2 ?_
 refine au (ι:=Nat×List akK) (I:=fun i=>⟨63,[(0, .c (.ms 46 1 0 len)),(1,I .i64 len),(2,wE),(6,I .i64 bs),(7,I .i64 i.1),(8,I .i64 (i.1+2*bs:Nat))],stA i.2⟩)
  (Inv:=fun i=>i.1≤len∧(∃q,i.1=q*(2*bs))∧i.2.Perm l0∧(∀k,k*(2*bs)+2*bs≤i.1→bg pC (yh i.2 (k*(2*bs)) (2*bs)))∧∀k,i.1≤k*bs→bg pC (yh i.2 (k*bs) bs)) (μ:=fun i=>len-i.1) (0,u)
  ⟨by simp,⟨0,by simp⟩,g3,fun k h=>by simp only at h;omega,fun k _=>g4 k⟩ ?_ ?_
 ·exact bQ
 rintro⟨a,v⟩ ⟨f1,⟨q,f2⟩,f3,f4,f5⟩
 simp only at f1 f2 f3 f4 f5⊢
 have hvl:v.length=len:=by rw[f3.length_eq,hlen]
 have e1:(2*q)*bs=a:=by rw[f2,Nat.mul_comm 2 q,Nat.mul_assoc]
 have e2:(2*q+1)*bs=a+bs:=by rw[ajL,e1]
 have sa:bg pC (yh v a bs):=by have:=f5 (2*q) (by omega);rw[e1] at this;exact this
 have sb:bg pC (yh v (a+bs) bs):=by have:=f5 (2*q+1) (by omega);rw[e2] at this;exact this
 have c3:((a:Nat):Int)+((bs:Nat):Int)=((a+bs:Nat):Int):=by omega
 try refine nv ?_
 refine aj ?_ ?_
 ·intro hle
  have hle':a+2*bs≤len:=by simp at hle;omega
  have hi:=hsym v f3 a (a+bs) (a+2*bs) (by omega) (by omega) hle' (by rw[show a+bs-a=bs by omega];exact sa) (by rw[show a+2*bs-(a+bs)=bs by omega];exact sb)
  try refine nx @c3 ?_
  refine nJ ((stA v)) (hi) ?_
  rintro rv9 st' ⟨z,⟨hz1,hz2⟩,rfl⟩<;>refine nP ?_
  have hzl:z.length=a+2*bs-a:=by rw[hz1.length_eq,sJ];omega
  have hrp:=(ET (l:=v) (z:=z) (a:=a) (e:=a+2*bs) (by omega) hz1).trans f3
  have hrb:=fun i n=>xR (l:=v) (z:=z) (a:=a) (e:=a+2*bs) (by omega) (by omega) hzl (i:=i) (n:=n)
  have hrf:=fun i n=>aav (l:=v) (z:=z) (a:=a) (e:=a+2*bs) (by omega) (by omega) hzl (i:=i) (n:=n)
  have hra:=PS (l:=v) (z:=z) (a:=a) (e:=a+2*bs) (by omega) (by omega) hzl (n:=2*bs) (.inl (by omega))
  generalize rep v a (a+2*bs) z=v1 at hrp hrb hra hrf
  have c4:((a+2*bs:Nat):Int)+((2*bs:Nat):Int)=((a+2*bs+2*bs:Nat):Int):=by omega
  try refine nx (p2 @c2 @c4) ?_
  refine⟨(a+2*bs,v1),⟨hle',⟨q+1,by show a+2*bs=(q+1)*(2*bs);rw[akg q 1 (2*bs),Nat.one_mul,←f2]⟩,hrp,fun k hk=>?_,fun k hk=>?_⟩,by simp;omega,?_⟩
  ·simp only at hk⊢
   rcases akn k q with e|e|e
   ·have:=oI (c:=2*bs) e
    rw[hrb _ _ (by omega)];exact f4 k (by omega)
   ·rw[e,←f2,hra];exact hz2
   ·have:=oI (c:=2*bs) e
    omega
  ·simp only at hk⊢
   rw[hrf _ _ hk];exact f5 k (by omega)
  ·exact Dc @c4
 intro hgt
 have hgt':len<a+2*bs:=by simp at hgt;omega
 try refine nx @c3 ?_
 refine kL (ι:=List akK) (fun t=>⟨63,[(0, .c (.ms 46 1 0 len)),(1,I .i64 len),(2,wE),(6,I .i64 bs)],stA t⟩) (fun t=>t.Perm l0∧Blk (2*bs) t) ?_ ?_
 ·refine aj ?_ ?_
  ·intro h
   have h':a+bs<len:=by simp at h;omega
   have hi:=hsym v f3 a (a+bs) len (by omega) h' (afJ _) (by rw[show a+bs-a=bs by omega];exact sa) (by rw[Xh (n:=len-(a+bs)) (k:=bs) (by omega) (by omega)];exact sb)
   try refine nv ?_
   refine nJ ((stA v)) (hi) ?_
   rintro rv9 st' ⟨z,⟨hz1,hz2⟩,rfl⟩<;>refine nP ?_
   have hzl:z.length=len-a:=by rw[hz1.length_eq,sJ];omega
   have hrp:=(ET (l:=v) (z:=z) (a:=a) (e:=len) (by omega) hz1).trans f3
   have hrb:=fun i n=>xR (l:=v) (z:=z) (a:=a) (e:=len) (by omega) (by omega) hzl (i:=i) (n:=n)
   have hra:=PS (l:=v) (z:=z) (a:=a) (e:=len) (by omega) (by omega) hzl (n:=2*bs) (.inr ⟨hvl.symm,by omega⟩)
   have hrl:=Yd (l:=v) (z:=z) (a:=a) (e:=len) (by omega) (by omega) hzl
   generalize rep v a len z=v1 at hrp hrb hra hrl
   try refine nv ?_
   refine⟨rfl,v1,⟨hrp,fun k=>?_⟩,?_⟩
   ·rcases akn k q with e|e|e
    ·have:=oI (c:=2*bs) e
     rw[hrb _ _ (by omega)];exact f4 k (by omega)
    ·rw[e,←f2,hra];exact hz2
    ·have:=oI (c:=2*bs) e
     rw[QJ (by omega)];exact List.Pairwise.nil
   ·exact bQ
  ·intro h
   have h':len≤a+bs:=by have h9:=ajJ h;omega
   refine aZ ?_
   refine⟨rfl,v,⟨f3,fun k=>?_⟩,?_⟩
   ·rcases akn k q with e|e|e
    ·have:=oI (c:=2*bs) e
     exact f4 k (by omega)
    ·rw[e,←f2,Xh (n:=2*bs) (k:=bs) (by omega) (by omega)];exact sa
    ·have:=oI (c:=2*bs) e
     rw[QJ (by omega)];exact List.Pairwise.nil
   ·exact bQ
 rintro v2 ⟨hv2,hB2⟩
 try refine nx @c2' ?_
 refine⟨(2*bs,v2),⟨by simp;omega,by simp;omega,hv2,hB2⟩,by simp;omega,?_⟩
 exact bQ
def z67.kk:=p6 kB Tryz.ntmps67 Tryz.underlying74 jy jB Tryz.results67
open z67 in
theorem Jk (len:Nat) (hl:len≤1000000) (l0:List akK) (hlen:l0.length=len) (hV:VS l0):
 AC Tryz.prog 67 [.c (.ms 46 1 0 len),wE] (stA l0) (fun _ st=>∃z,(z.Perm l0∧bg pC z)∧st=stA z):=by
 have h:=Vo len hl l0 hlen hV
 refine df Tryz.func67 Tryz.ntmps67 fun x hx=>?_
 try refine nv ?_
 refine nJ ((stA l0)) (h) ?_
 rintro rv9 st' ⟨z,hz,rfl⟩<;>refine nP ?_
 try refine nv ?_
 refine rN ((stA z)) ?_
 exact⟨z,hz,rfl⟩
@[reducible] def vL (l:List Int):Bool×List D:=(false,[.ps 1 (l.map eI)])
@[reducible] def uw (L:jA) (la:List (akK×Int)) (me:List (Int×List Int)):List D:=
 [.ps 12 (L.revs.map aA), .pm (bz kF vI L.index), .pm (bz pV vI la), .ps 1 (L.prev.map eI), .ps 1 (L.fst.map eI), .pm (bz kN vL me), .ps 1 (L.car.map jP), .ps 1 (L.con.map jP), .ps 1 (L.cre.map jP)]
end
end Go.Proofs.YtcpgicfphakdaaaGreatDoor
namespace Go.Proofs
open Go.Shelf
shelf_lay Lays.n190 Nm 190 at Tryz as Tryz.lays190
end Go.Proofs
namespace Go.Proofs.YtcpgicfphakdaaaGreatDoor
open Go.Ab Tys
variable [Dr]
variable [Dr]
theorem aeK {κ ν:Type} {ke:κ→Bool×List D} {ve:ν→Bool×List D} {l:List (κ×ν)} {a:List jq} {e:jq} {b:List jq} (h:bz ke ve l=a++e::b):∃x k y,l=x++k::y∧a=bz ke ve x∧e=(ke k.1,ve k.2)∧b=bz ke ve y:=by
 obtain⟨x,r,rfl,rfl,h2⟩:=List.map_eq_append_iff.1 h
 obtain⟨k,y,rfl,rfl,rfl⟩:=List.map_eq_cons_iff.1 h2
 exact⟨x,k,y,rfl,rfl,rfl,rfl⟩
noncomputable def WF (l:List akK):List akK:=((l.map (·.data.toList)).mergeSort fun x y=>decide (x≤y)).map Hl
theorem Gn (l:List akK):(WF l).Perm l:=by
 have h:=(List.mergeSort_perm (l.map (·.data.toList)) fun x y=>decide (x≤y)).map Hl
 rwa [Pz] at h
theorem ais (blk off cap:Nat) (l:List (List UInt8)) (w:World) (hH:Sort.Holds encStr w blk off l.toArray) (hb:blk<w.heap.size) (h:l.length<4611686018427387904):
 Calls Tryz.prog 66 #[.slice (some ⟨blk,off,none⟩) l.length cap] w fun e w'=>e= .returned (.tuple #[])∧∃n os,w'=Sort.grow (Sort.putRow encStr (Sort.ahead w n) blk off (l.mergeSort fun x y=>decide (x≤y)).toArray) os:=
 Any.slices_Sort_string Tryz.lays190 blk off cap l w hH hb h
theorem aiC (p:Option Addr) (cap:Nat) (w:World):Calls Tryz.prog 66 #[.slice p 0 cap] w fun e w'=>e= .returned (.tuple #[])∧w'=w:=
 Any.slices_Sort_string_none Tryz.lays190 p cap w
theorem acJ (l:List akK) (hl:l.length≤1000000) (id:Nat):
 AC Tryz.prog 66 [.c (.ms id 1 0 l.length)] [(id,ay 1 (l.map encS))] (fun r st=>r= .tup []∧st=[(id,ay 1 ((WF l).map encS))]):=by
 have hlen:(l.map fun s:akK=>s.data.toList).length=l.length:=ae1 ..
 have e1:(l.map encS).map (fun l=>l.map C.d)=(l.map fun s:akK=>s.data.toList).map fun z=>[C.d (.v (encStr z))]:=by
  rw[ajM,ajM];rfl
 have e2:((WF l).map encS).map (fun l=>l.map C.d)=((l.map fun s:akK=>s.data.toList).mergeSort fun x y=>decide (x≤y)).map fun z=>[C.d (.v (encStr z))]:=by
  rw[WF,ajM,ajM];rfl
 simp only[ay,e1,e2]
 generalize (l.map fun s:akK=>s.data.toList)=ss at hlen
 rw[←hlen]
 exact Rq (P:=Tryz.prog) (f:=66) (enc:=encStr) (fun _=>rfl) (l:=ss) (l':=ss.mergeSort fun x y=>decide (x≤y)) (by simp) ⟨_,Tryz.func66,by kernel_rfl,by kernel_rfl⟩
  (fun blk off cap w hH hb=>ais blk off cap ss w hH hb (by omega)) (fun _ p cap w=>aiC p cap w) id
def z25.kk:=p2 (p9 kB kS kM Tryz.ntmps25 Tryz.underlying74 Tryz.underlying89 vG jy Bz) (p8 EY KW mG rZ Va jB Em Tryz.results25)
open z25 in
theorem Zu (d:aW) (hN:d.revs.length≤512) (hpt:Jw d) (L:jA) (la:List (akK×Int)) (me:List (Int×List Int)) (hla:yD d d.revs.length la):
 AC Tryz.prog 25 [.c (.pp (uw L la me))] [] (fun r st=>r=jr (oz d)∧st=[]):=by
 have hk:=hla.keys
 rw[afu] at hk
 have hV:VS (BQ d.revs):=by
  intro s hs
  obtain⟨v,h1,h2⟩:=Rh hs
  rw[←h2];exact hpt v h1
 have hll:la.length≤512:=by
  have h1:=congrArg List.length hk
  have h2:=RF d.revs
  rw[ae1] at h1
  omega
 have hme:(bz pV vI la).length=la.length:=by simp[bz]
 refine df Tryz.func25 Tryz.ntmps25 fun x hx=>?_
 refine aZ ?_
 refine gg ?_
 refine aZ ?_
 refine dD (wr:=false) 4 (by simp only[kk,Nat.reduceAdd,Nat.reduceLT,Nat.reduceEqDiff, ↓reduceIte,reduceCtorEq,hme];first|done|rfl) (by first|exact trivial|(simp[All,dB];done)|(simp[All,dB];omega)) ?_
 refine TQ jy jB (by simp) (by simp only[kV, ↓reduceIte,Nat.reduceEqDiff,reduceCtorEq];first|done|rfl) (by simp only[kV, ↓reduceIte,Nat.reduceEqDiff,reduceCtorEq];first|done|rfl) (by simp[Ab.get]) (by omega) (by show(16:Int)*_≤_;omega) (by omega) ?_
 refine fE ?_
 try refine nv ?_
 refine au (ι:=Option jq×List (akK×Int)×List akK) (I:=fun i=>⟨29,[(3, .c (.ms 46 1 0 i.2.2.length)),(15, .c (.ptr 15 0))],[(15, .iter i.1 (bz pV vI i.2.1)),(46,ay 1 (i.2.2.map encS))]⟩)
  (Inv:=fun i=>(i.2.2++i.2.1.map (·.1)).Perm (BQ d.revs)) (μ:=fun i=>i.2.1.length) (none,la,[]) (by simp[hk]) ?_ ?_
 ·exact uZ (fun i=>if i=46 then 10 else i)
 rintro⟨cur,rest,m⟩ h
 simp only at h⊢
 have hlen:=h.length_eq
 rw[←hk] at hlen
 simp only[afI,ae1] at hlen
 refine aZ ?_
 refine yM (id:=15) (by simp) (by simp only[kV, ↓reduceIte,Nat.reduceEqDiff,reduceCtorEq];first|done|rfl) rfl ?_ ?_
 ·intro h0
  refine fE ?_
  try refine nv ?_
  refine aj ?_ ?_
  ·intro hh;cases hh
  intro _
  have:rest=[]:=by simpa[bz] using h0
  subst this
  simp only[aj0,ajt] at h
  have hVm:VS (WF m):=hV.perm ((Gn m).trans h)
  have hsl:=(Gn m).length_eq
  refine aZ ?_
  refine gg ?_
  refine nJ ([(46,ay 1 (m.map encS))]) (acJ m (by omega) 46) ?_
  rintro rv9 st' ⟨rfl,rfl⟩<;>refine nP ?_
  refine aZ ?_
  refine gg ?_
  refine nJ ((stA (WF m))) (Jk m.length (by omega) (WF m) hsl hVm) ?_
  rintro rv9 st' ⟨z,⟨hz1,hz2⟩,rfl⟩<;>refine nP ?_
  have hz:=aad hV (hz1.trans ((Gn m).trans h)) hz2
  have hzl:m.length=z.length:=by rw[hz1.length_eq,hsl]
  subst hz
  rw[hzl]
  refine bC (aY (i:=3) (id:=46) (ys:=(oz d).map encS) rfl rfl (by rw[ae1])) ?_
  refine fE ?_
  try refine nv ?_
  refine rA [] ?_
  refine⟨?_,rfl⟩
  rfl
 intro l1 e l2 hsp
 obtain⟨xs,k,y,rfl,rfl,rfl,rfl⟩:=aeK hsp
 refine fE ?_
 (repeat (first|refine Io ?_|refine Gl (wr:=false) (by simp only[kk,Nat.reduceAdd,Nat.reduceLT,Nat.reduceEqDiff, ↓reduceIte,reduceCtorEq,jY];first|done|rfl) ?_))
 refine aj ?_ ?_
 rotate_left
 ·intro hh;cases hh
 intro _
 (repeat (first|refine Io ?_|refine Gl (wr:=false) (by simp only[kk,Nat.reduceAdd,Nat.reduceLT,Nat.reduceEqDiff, ↓reduceIte,reduceCtorEq,jY];first|done|rfl) ?_))
 refine⟨(some (pV k.1,vI k.2),xs++y,m++[k.1]),?_,by simp,?_⟩
 ·refine List.Perm.trans ?_ h
  simp only[ajA,agV,ahJ,List.cons_append,List.nil_append]
  exact List.Perm.append_left _ (List.perm_middle.symm)
 ·exact uZ (fun i=>if i=46 then 23 else i)
end Go.Proofs.YtcpgicfphakdaaaGreatDoor
