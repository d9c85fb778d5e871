/- A part of the proof. -/
import Derived.Test.YtcpgicfphakdaaaGreatDoorRK18
import Derived.Test.YtcpgicfphakdaaaGreatDoorRL2
import Derived.Ground.NamesProg
import Derived.Shelf.Lay
import Derived.Shelf.Sort.Plain
import Derived.Shelf.Slices.In.SortNone
set_option maxRecDepth 100000
set_option maxHeartbeats 16000000
set_option linter.all false
namespace Go.Proofs.YtcpgicfphakdaaaGreatDoor
open Go.Ab Tys
variable [Dr]
def z229.kk:=p2 (p11 kB kS Tryz.ntmps229 Tryz.underlying286 Tryz.underlying74 Tryz.underlying9 Hf df NH eH yw) (p10 yl dW gV UO Qn yR jO fM jy Tryz.results229)
open z229 in
theorem YA (p q:aX) (hp:PB 1000000 p) (hq:PB 1000000 q):AC Tryz.prog 229 [aPat p,aPat q] [] (fun r st=>r= .tup [Hg (jd p q),pB (jd p q).isSome]∧st=[]):=by
 have hw:=TF q p hq hp
 have hfr:=fun h=>abj (p:=p) (q:=q) 7 h
 have hB0:jd p q=if dG q p then jd p q else none:=by
  unfold jd;split<;>rfl
 have hok:dG q p=true→fG p=true∧fG q=true:=fun h=>by
  simp only[dG,Bool.and_eq_true] at h
  exact⟨h.1.1.1.1.2,h.1.1.1.1.1⟩
 have hBs:dG q p=true→(jd p q).isSome=true:=fun h=>by unfold jd;rw[if_pos h];rfl
 have hp1:=hp.1
 have hq1:=hq.1
 have hpg:=hp.get
 have hqg:=hq.get
 generalize jd p q=M at hfr hB0 hBs
 generalize dG q p=wb at hw hfr hB0 hok hBs
 obtain⟨ps,rp⟩:=p
 obtain⟨qs,rq⟩:=q
 simp only at hfr hp1 hq1 hpg hqg
 refine bV Tryz.func229 Tryz.ntmps229 fun x hx=>?_
 (repeat (first|refine nv ?_|refine cf (hw) ?_))
 refine af ?_ ?_
 ·intro h
  have h':wb=false:=by simpa using h
  rw[h',if_neg (by simp)] at hB0
  try refine nv ?_
  refine rA [] ?_
  refine⟨?_,rfl⟩
  rw[hB0];rfl
 intro h
 have h':wb=true:=by simpa using h
 obtain⟨op,oq⟩:=hok h'
 obtain⟨hlen,hfr⟩:=hfr h'
 have hBs:=hBs h'
 obtain⟨bl,rfl⟩:=Option.isSome_iff_exists.1 hBs
 simp only[Option.getD_some] at hfr
 have hqne:qs≠[]:=by
  have:=(sW.1 oq).1
  intro e;rw[e] at this;simp at this
 have hcl:=Eb qs hqne hq1
 have hpo:=dO op
 clear hB0 hw hBs
 try refine nv ?_
 refine qQ [] (hcl) ?_
 rintro r st' ⟨rfl,rfl⟩<;>refine qU ?_
 try refine nv ?_
 refine mg (eG (i:=7) (id:=100) (sz:=2) rfl rfl (by omega)) ?_
 refine dM ?_
 try refine nv ?_
 refine ag (ι:=Nat) (I:=fun k=>⟨69,[(2, .c (.ptr 2 0)),(3, .c (.ptr 3 0)),(6, .c (.ms 7 1 0 qs.length)),(7, .c (.ms 100 2 0 (Ol 7 ps k).length)),(19,dJ ps),(20,I .i64 ps.length),(21,I .i64 k)],
  [(2, .box ((au ⟨ps,rp⟩).map C.d)),(3, .box ((au ⟨qs,rq⟩).map C.d)),(7,aQ 1 ((AX ps qs k).map encS)),(100, .arr 2 (Ol 7 ps k))]⟩)
  (Inv:=fun k=>k≤ps.length) (μ:=fun k=>ps.length-k) 0 (by omega) ?_ ?_
 ·(refine fZ (fun i=>i) rfl ?_ ⟨?_,?_,?_,gu hx (by simp[ae,Ab.get])⟩<;>first|(simp only[kE,aQ, ↓reduceIte,Nat.reduceEqDiff,reduceCtorEq,AX,Ol,LY];done)|simp[di,bf,aA,Ab.get,aZ,dH,aN,bY,bG,bH,bD,bI,bC,ae,List.flatten,AX,Ol,LY])
 intro k hk
 have hrl:=Oh 7 ps k
 try refine nv ?_
 refine af ?_ ?_
 ·intro hlt
  have hlt':k<ps.length:=by simpa using hlt
  obtain⟨u,hu,he,_⟩:=round encS ps k noS hlt'
  have eu:=fH (z:=noS) hu
  have hus:u.size≤1000000:=by rw[←eu];exact hpg k
  have hst:=nR u
  rw[qj (by rw[←eu];exact hpo k hlt')] at hst
  have hv9:=Ht ps qs k k (Nat.le_refl _)
  have hln:=zN ps qs k
  have hsz:((AX ps qs k).getD k noS).size≤1000000:=by rw[List.getD_eq_getElem?_getD,hv9,←List.getD_eq_getElem?_getD];exact hqg k
  have htx:AX ps qs (k+1)=if aP u then(AX ps qs k).set k (trimS ((AX ps qs k).getD k noS) (jq u)) else AX ps qs k:=by rw[AX,eu]
  have hrw:Ol 7 ps (k+1)=Ol 7 ps k++(if aP u then [[.mv 7 1 k 1, .d (.v (.bool false))]] else []):=by rw[Ol,eu]
  have hge:=pY encS (AX ps qs k) k noS (by omega)
  have htr:=abu ((AX ps qs k).getD k noS) (jq u) hsz (Nat.le_trans (oJ u) hus)
  generalize (AX ps qs k).getD k noS=v at hsz htx hge htr
  cases hsu:aP u with
  |false=>
   rw[hsu] at hst htx hrw
   rw[if_neg (by simp)] at htx hrw
   rw[List.append_nil] at hrw
   (repeat (first|refine nx @he ?_|refine cf (hst) ?_))
   refine af ?_ ?_
   ·intro h;cases h
   intro _
   try refine nv ?_
   refine⟨k+1,by omega,by omega,?_⟩
   rw[htx,hrw]
   exact tK @LY
  |true=>
   rw[hsu] at hst htx hrw
   rw[if_pos rfl] at htx hrw
   have hsz1:1≤u.size:=(gY hsu).1
   have hsfx:=vM hsu
   (repeat (first|refine nx @he ?_|refine cf (hst) ?_))
   refine af ?_ ?_
   rotate_left
   ·intro h;cases h
   intro _
   refine aJ ?_
   have e9:((k:Int)+1-k).toNat=1:=by omega
   refine dx ([(36,Str (trimS v (jq u)))]) (p3 @hge @hsfx @Az) ?_ ?_
   ·exact gI @htr
   try refine nx @e9 ?_
   refine⟨k+1,by omega,by omega,?_⟩
   rw[htx,hrw]
   generalize (AX ps qs k).set k (trimS v (jq u))=Y
   exact enS (p3 @ay @LY @Vo) (fun i=>if i=100 then 48 else i)
 intro hge
 have hk':k=ps.length:=by have:¬k<ps.length:=by simpa using hge
                          omega
 subst hk'
 have hln:=zN ps qs ps.length
 have hrl:=Oh 7 ps ps.length
 generalize hX:AX ps qs ps.length=X at hfr hln
 try refine nv ?_
 refine af ?_ ?_
 ·intro hr
  subst hr
  have e8:((qs.length:Int)-ps.length).toNat=qs.length-ps.length:=by omega
  refine dx ([]) @e8 ?_ ?_
  ·exact rC
  rw[if_pos rfl] at hfr
  refine aJ ?_
  refine aG (BN (bid:=67) (id:=7) (sz2:=1) (ys:=X.map encS) (by decide) rfl rfl (hfr.trans (by rw[List.map_map];rfl:_=(bl.map au).map fun l=>l.map C.d))) ?_
  refine dM ?_
  refine aG (aI (i:=7) (id:=67) (sz:=2) (ys:=bl.map au) rfl rfl ?_) ?_
  ·have:=congrArg List.length hfr
   simpa using this
  refine dM ?_
  try refine nv ?_
  refine rA [] ?_
  refine⟨?_,rfl⟩
  rfl
 ·intro hr
  subst hr
  rw[if_neg (by simp),List.append_nil] at hfr
  refine aJ ?_
  refine aG (BN (bid:=100) (id:=7) (sz2:=1) (ys:=X.map encS) (by decide) rfl rfl (hfr.trans (by rw[List.map_map];rfl:_=(bl.map au).map fun l=>l.map C.d))) ?_
  refine dM ?_
  refine aG (aI (i:=7) (id:=100) (sz:=2) (ys:=bl.map au) rfl rfl ?_) ?_
  ·have:=congrArg List.length hfr
   simpa using this
  refine dM ?_
  try refine nv ?_
  refine rA [] ?_
  refine⟨?_,rfl⟩
  rfl
theorem nM {k q c:Nat} (h:q<k):q*c+c≤k*c:=by
 have:=Nat.mul_le_mul_right c h
 rw[Nat.succ_mul] at this;exact this
theorem aaH {t:List ByteArray} {a m e:Nat} (h1:a≤m) (h2:m≤e):vZ t a (m-a)++vZ t m (e-m)=vZ t a (e-a):=by
 unfold vZ
 have h:=List.take_append_drop (m-a) ((t.drop a).take (e-a))
 rw[List.take_take,Nat.min_eq_left (by omega),List.drop_take,List.drop_drop] at h
 rw[show e-a-(m-a)=e-m by omega,show a+(m-a)=m by omega] at h
 exact h
theorem Vt {t:List ByteArray} {a n k:Nat} (h1:t.length-a≤n) (h2:t.length-a≤k):vZ t a n=vZ t a k:=by
 unfold vZ
 rw[List.take_of_length_le (by simp;omega),List.take_of_length_le (by simp;omega)]
section
variable (len:Nat) (hl:len≤1000000) (l0:List ByteArray) (hlen:l0.length=len) (hV:VS l0)
include hl hlen hV
theorem aaI {t:List ByteArray} (hp:t.Perm l0) {a e:Nat} (h1:a≤e) (h2:e≤len):
 AC Tryz.prog 192 [.c (.ms 46 1 0 len),I .i64 a,I .i64 e,uB] (stA t) (fun _ st=>∃z,(z.Perm (vZ t a (e-a))∧aT pC z)∧st=stA (rep t a e z)):=by
 have ht:t.length=len:=by rw[hp.length_eq,hlen]
 have hs:=Hz (l:=t) h1
 have h:=aaR len hl (t.take a) (vZ t a (e-a)) (t.drop e) (by rw[hs];exact hV.perm hp) a e (by simp;omega) (by rw[qO];omega) (by simp;omega)
 rw[hs] at h
 exact h
theorem aaQ {t:List ByteArray} (hp:t.Perm l0) {a m e:Nat} (h1:a<m) (h2:m<e) (h3:e≤len) (s1:aT pC (vZ t a (m-a))) (s2:aT pC (vZ t m (e-m))):
 AC Tryz.prog 193 [.c (.ms 46 1 0 len),I .i64 a,I .i64 m,I .i64 e,uB] (stA t) (fun _ st=>∃z,(z.Perm (vZ t a (e-a))∧aT pC z)∧st=stA (rep t a e z)):=by
 have ht:t.length=len:=by rw[hp.length_eq,hlen]
 have ha:=aaH (t:=t) (a:=a) (m:=m) (e:=e) (by omega) (by omega)
 have hs:t.take a++(vZ t a (m-a)++(vZ t m (e-m)++t.drop e))=t:=by
  rw[←List.append_assoc (vZ t a (m-a)),ha]
  exact Hz (by omega)
 have h:=aaz len hl (e-a) (t.take a) (vZ t a (m-a)) (vZ t m (e-m)) (t.drop e) s1 s2 (by rw[hs];exact hV.perm hp) (by rw[qO];omega) (by rw[qO];omega) a m e (by simp;omega) (by rw[qO];omega) (by rw[qO];omega) (by simp;omega) (Nat.le_refl _)
 rw[hs,ha] at h
 exact h
end
def aeB.kk:=p3 kB Tryz.ntmps136 Tryz.results136
open aeB in
theorem TS (len:Nat) (hl:len≤1000000) (l0:List ByteArray) (hlen:l0.length=len) (hV:VS l0):
 AC Tryz.prog 136 [.c (.ms 46 1 0 len),I .i64 len,uB] (stA l0) (fun _ st=>∃z,(z.Perm l0∧aT pC z)∧st=stA z):=by
 have hins:=fun t (hp:t.Perm l0) a e h1 h2=>aaI len hl l0 hlen hV (t:=t) hp (a:=a) (e:=e) h1 h2
 have hsym:=fun t (hp:t.Perm l0) a m e h1 h2 h3 s1 s2=>aaQ len hl l0 hlen hV (t:=t) hp (a:=a) (m:=m) (e:=e) h1 h2 h3 s1 s2
 refine bV Tryz.func136 Tryz.ntmps136 fun x hx=>?_
 try refine nv ?_
 refine ag (ι:=Nat×List ByteArray) (I:=fun i=>⟨63,[(0, .c (.ms 46 1 0 len)),(1,I .i64 len),(2,uB),(6,I .i64 (20:Nat)),(7,I .i64 i.1),(8,I .i64 (i.1+20:Nat))],stA i.2⟩)
  (Inv:=fun i=>i.1≤len∧(∃q,i.1=q*20)∧i.2.Perm l0∧∀k,(k+1)*20≤i.1→aT pC (vZ i.2 (k*20) 20)) (μ:=fun i=>len-i.1) (0,l0) ⟨by simp,⟨0,rfl⟩,List.Perm.refl _,fun k h=>by simp only at h;omega⟩ ?_ ?_
 ·exact aW
 rintro⟨a,t⟩ ⟨h1,⟨q,hq⟩,h2,h3⟩
 simp only at h1 hq h2 h3⊢
 have ht:t.length=len:=by rw[h2.length_eq,hlen]
 try refine nv ?_
 refine af ?_ ?_
 ·intro hle
  have hle':a+20≤len:=by simp at hle;omega
  have hi:=hins t h2 a (a+20) (by omega) hle'
  try refine nv ?_
  refine qQ ((stA t)) (hi) ?_
  rintro rv9 st' ⟨z,⟨hz1,hz2⟩,rfl⟩<;>refine qU ?_
  have hzl:z.length=a+20-a:=by rw[hz1.length_eq,qO];omega
  have hrp:=(BP (l:=t) (z:=z) (a:=a) (e:=a+20) (by omega) hz1).trans h2
  have hrb:=fun i n=>xm (l:=t) (z:=z) (a:=a) (e:=a+20) (by omega) (by omega) hzl (i:=i) (n:=n)
  have hra:=LM (l:=t) (z:=z) (a:=a) (e:=a+20) (by omega) (by omega) hzl (n:=20) (.inl (by omega))
  generalize rep t a (a+20) z=t1 at hrp hrb hra
  have c1:((a+20:Nat):Int)+((20:Nat):Int)=((a+20+20:Nat):Int):=by omega
  try refine nx @c1 ?_
  refine⟨(a+20,t1),⟨hle',⟨q+1,by simp only;omega⟩,hrp,fun k hk=>?_⟩,by simp;omega,?_⟩
  ·simp only at hk⊢
   by_cases e:(k+1)*20≤a
   ·rw[hrb (k*20) 20 (by omega)];exact h3 k e
   ·rw[show k*20=a by omega,hra];exact hz2
  ·exact tK @c1
 intro hgt
 have hgt':len<a+20:=by simp at hgt;omega
 have hi:=hins t h2 a len h1 (Nat.le_refl _)
 try refine nv ?_
 refine qQ ((stA t)) (hi) ?_
 rintro rv9 st' ⟨z,⟨hz1,hz2⟩,rfl⟩<;>refine qU ?_
 have hzl:z.length=len-a:=by rw[hz1.length_eq,qO];omega
 have hrp:=(BP (l:=t) (z:=z) (a:=a) (e:=len) (by omega) hz1).trans h2
 have hrb:=fun i n=>xm (l:=t) (z:=z) (a:=a) (e:=len) (by omega) (by omega) hzl (i:=i) (n:=n)
 have hra:=LM (l:=t) (z:=z) (a:=a) (e:=len) (by omega) (by omega) hzl (n:=20) (.inr ⟨ht.symm,by omega⟩)
 have hrl:=Uj (l:=t) (z:=z) (a:=a) (e:=len) (by omega) (by omega) hzl
 generalize rep t a len z=t1 at hrp hrb hra hrl
 have hB:Blk 20 t1:=by
  intro k
  rcases Nat.lt_trichotomy k q with e|e|e
  ·have:=nM (c:=20) e
   rw[hrb (k*20) 20 (by omega)];exact h3 k (by omega)
  ·rw[e,←hq,hra];exact hz2
  ·have:=nM (c:=20) e
   rw[N8 (by omega)];exact List.Pairwise.nil
 clear hi hrb hra hz1 hz2 h3
 try refine nv ?_
 refine ag (ι:=Nat×List ByteArray) (I:=fun i=>⟨63,[(0, .c (.ms 46 1 0 len)),(1,I .i64 len),(2,uB),(6,I .i64 i.1)],stA i.2⟩)
  (Inv:=fun i=>20≤i.1∧i.1≤2*len+20∧i.2.Perm l0∧Blk i.1 i.2) (μ:=fun i=>2*len+20-i.1) (20,t1) ⟨by simp,by simp,hrp,hB⟩ ?_ ?_
 ·exact aW
 rintro⟨bs,u⟩ ⟨g1,g2,g3,g4⟩
 simp only at g1 g2 g3 g4⊢
 have hul:u.length=len:=by rw[g3.length_eq,hlen]
 try refine nv ?_
 refine af ?_ ?_
 rotate_left
 ·intro hge
  have hge':len≤bs:=by have:¬bs<len:=by simpa using hge
                       omega
  try refine nv ?_
  refine rN ((stA u)) ?_
  exact⟨u,⟨g3,g4.whole (by omega)⟩,rfl⟩
 intro hlt
 have hlt':bs<len:=by simpa using hlt
 have c2:(2:Int)*((bs:Nat):Int)=((2*bs:Nat):Int):=by omega
 have c2':((bs:Nat):Int)*2=((2*bs:Nat):Int):=by omega
 try refine nx @c2 ?_
 refine ag (ι:=Nat×List ByteArray) (I:=fun i=>⟨63,[(0, .c (.ms 46 1 0 len)),(1,I .i64 len),(2,uB),(6,I .i64 bs),(7,I .i64 i.1),(8,I .i64 (i.1+2*bs:Nat))],stA i.2⟩)
  (Inv:=fun i=>i.1≤len∧(∃q,i.1=q*(2*bs))∧i.2.Perm l0∧(∀k,k*(2*bs)+2*bs≤i.1→aT pC (vZ i.2 (k*(2*bs)) (2*bs)))∧∀k,i.1≤k*bs→aT pC (vZ i.2 (k*bs) bs)) (μ:=fun i=>len-i.1) (0,u)
  ⟨by simp,⟨0,by simp⟩,g3,fun k h=>by simp only at h;omega,fun k _=>g4 k⟩ ?_ ?_
 ·exact aW
 rintro⟨a,v⟩ ⟨f1,⟨q,f2⟩,f3,f4,f5⟩
 simp only at f1 f2 f3 f4 f5⊢
 have hvl:v.length=len:=by rw[f3.length_eq,hlen]
 have e1:(2*q)*bs=a:=by rw[f2,Nat.mul_comm 2 q,Nat.mul_assoc]
 have e2:(2*q+1)*bs=a+bs:=by rw[Nat.succ_mul,e1]
 have sa:aT pC (vZ v a bs):=by have:=f5 (2*q) (by omega);rw[e1] at this;exact this
 have sb:aT pC (vZ v (a+bs) bs):=by have:=f5 (2*q+1) (by omega);rw[e2] at this;exact this
 have c3:((a:Nat):Int)+((bs:Nat):Int)=((a+bs:Nat):Int):=by omega
 try refine nv ?_
 refine af ?_ ?_
 ·intro hle
  have hle':a+2*bs≤len:=by simp at hle;omega
  have hi:=hsym v f3 a (a+bs) (a+2*bs) (by omega) (by omega) hle' (by rw[show a+bs-a=bs by omega];exact sa) (by rw[show a+2*bs-(a+bs)=bs by omega];exact sb)
  try refine nx @c3 ?_
  refine qQ ((stA v)) (hi) ?_
  rintro rv9 st' ⟨z,⟨hz1,hz2⟩,rfl⟩<;>refine qU ?_
  have hzl:z.length=a+2*bs-a:=by rw[hz1.length_eq,qO];omega
  have hrp:=(BP (l:=v) (z:=z) (a:=a) (e:=a+2*bs) (by omega) hz1).trans f3
  have hrb:=fun i n=>xm (l:=v) (z:=z) (a:=a) (e:=a+2*bs) (by omega) (by omega) hzl (i:=i) (n:=n)
  have hrf:=fun i n=>Vu (l:=v) (z:=z) (a:=a) (e:=a+2*bs) (by omega) (by omega) hzl (i:=i) (n:=n)
  have hra:=LM (l:=v) (z:=z) (a:=a) (e:=a+2*bs) (by omega) (by omega) hzl (n:=2*bs) (.inl (by omega))
  generalize rep v a (a+2*bs) z=v1 at hrp hrb hra hrf
  have c4:((a+2*bs:Nat):Int)+((2*bs:Nat):Int)=((a+2*bs+2*bs:Nat):Int):=by omega
  try refine nx (p2 @c2 @c4) ?_
  refine⟨(a+2*bs,v1),⟨hle',⟨q+1,by show a+2*bs=(q+1)*(2*bs);rw[Nat.add_mul q 1 (2*bs),Nat.one_mul,←f2]⟩,hrp,fun k hk=>?_,fun k hk=>?_⟩,by simp;omega,?_⟩
  ·simp only at hk⊢
   rcases Nat.lt_trichotomy k q with e|e|e
   ·have:=nM (c:=2*bs) e
    rw[hrb _ _ (by omega)];exact f4 k (by omega)
   ·rw[e,←f2,hra];exact hz2
   ·have:=nM (c:=2*bs) e
    omega
  ·simp only at hk⊢
   rw[hrf _ _ hk];exact f5 k (by omega)
  ·exact tK @c4
 intro hgt
 have hgt':len<a+2*bs:=by simp at hgt;omega
 try refine nx @c3 ?_
 refine mJ (ι:=List ByteArray) (fun t=>⟨63,[(0, .c (.ms 46 1 0 len)),(1,I .i64 len),(2,uB),(6,I .i64 bs)],stA t⟩) (fun t=>t.Perm l0∧Blk (2*bs) t) ?_ ?_
 ·refine af ?_ ?_
  ·intro h
   have h':a+bs<len:=by simp at h;omega
   have hi:=hsym v f3 a (a+bs) len (by omega) h' (Nat.le_refl _) (by rw[show a+bs-a=bs by omega];exact sa) (by rw[Vt (n:=len-(a+bs)) (k:=bs) (by omega) (by omega)];exact sb)
   try refine nv ?_
   refine qQ ((stA v)) (hi) ?_
   rintro rv9 st' ⟨z,⟨hz1,hz2⟩,rfl⟩<;>refine qU ?_
   have hzl:z.length=len-a:=by rw[hz1.length_eq,qO];omega
   have hrp:=(BP (l:=v) (z:=z) (a:=a) (e:=len) (by omega) hz1).trans f3
   have hrb:=fun i n=>xm (l:=v) (z:=z) (a:=a) (e:=len) (by omega) (by omega) hzl (i:=i) (n:=n)
   have hra:=LM (l:=v) (z:=z) (a:=a) (e:=len) (by omega) (by omega) hzl (n:=2*bs) (.inr ⟨hvl.symm,by omega⟩)
   have hrl:=Uj (l:=v) (z:=z) (a:=a) (e:=len) (by omega) (by omega) hzl
   generalize rep v a len z=v1 at hrp hrb hra hrl
   try refine nv ?_
   refine⟨rfl,v1,⟨hrp,fun k=>?_⟩,?_⟩
   ·rcases Nat.lt_trichotomy k q with e|e|e
    ·have:=nM (c:=2*bs) e
     rw[hrb _ _ (by omega)];exact f4 k (by omega)
    ·rw[e,←f2,hra];exact hz2
    ·have:=nM (c:=2*bs) e
     rw[N8 (by omega)];exact List.Pairwise.nil
   ·exact aW
  ·intro h
   have h':len≤a+bs:=by have h9:=of_decide_eq_false h;omega
   refine aJ ?_
   refine⟨rfl,v,⟨f3,fun k=>?_⟩,?_⟩
   ·rcases Nat.lt_trichotomy k q with e|e|e
    ·have:=nM (c:=2*bs) e
     exact f4 k (by omega)
    ·rw[e,←f2,Vt (n:=2*bs) (k:=bs) (by omega) (by omega)];exact sa
    ·have:=nM (c:=2*bs) e
     rw[N8 (by omega)];exact List.Pairwise.nil
   ·exact aW
 rintro v2 ⟨hv2,hB2⟩
 try refine nx @c2' ?_
 refine⟨(2*bs,v2),⟨by simp;omega,by simp;omega,hv2,hB2⟩,by simp;omega,?_⟩
 exact aW
def z67.kk:=p6 kB Tryz.ntmps67 Tryz.underlying74 eH jy Tryz.results67
open z67 in
theorem IG (len:Nat) (hl:len≤1000000) (l0:List ByteArray) (hlen:l0.length=len) (hV:VS l0):
 AC Tryz.prog 67 [.c (.ms 46 1 0 len),uB] (stA l0) (fun _ st=>∃z,(z.Perm l0∧aT pC z)∧st=stA z):=by
 have h:=TS len hl l0 hlen hV
 refine bV Tryz.func67 Tryz.ntmps67 fun x hx=>?_
 try refine nv ?_
 refine qQ ((stA l0)) (h) ?_
 rintro rv9 st' ⟨z,hz,rfl⟩<;>refine qU ?_
 try refine nv ?_
 refine rN ((stA z)) ?_
 exact⟨z,hz,rfl⟩
end Go.Proofs.YtcpgicfphakdaaaGreatDoor
namespace Go.Proofs
open Go.Shelf
shelf_lay Lays.n190 Nm 190 at Tryz as Tryz.lays190
end Go.Proofs
namespace Go.Proofs.YtcpgicfphakdaaaGreatDoor
open Go.Ab Tys
variable [Dr]
variable [Dr]
theorem aaA {κ ν:Type} {ke:κ→Bool×List D} {ve:ν→Bool×List D} {l:List (κ×ν)} {a:List iT} {e:iT} {b:List iT} (h:bJ ke ve l=a++e::b):∃x k y,l=x++k::y∧a=bJ ke ve x∧e=(ke k.1,ve k.2)∧b=bJ ke ve y:=by
 obtain⟨x,r,rfl,rfl,h2⟩:=List.map_eq_append_iff.1 h
 obtain⟨k,y,rfl,rfl,rfl⟩:=List.map_eq_cons_iff.1 h2
 exact⟨x,k,y,rfl,rfl,rfl,rfl⟩
noncomputable def Rz (l:List ByteArray):List ByteArray:=((l.map (·.data.toList)).mergeSort fun x y=>decide (x≤y)).map EF
theorem Ef (l:List ByteArray):(Rz l).Perm l:=by
 have h:=(List.mergeSort_perm (l.map (·.data.toList)) fun x y=>decide (x≤y)).map EF
 rwa [UM] at h
theorem ad6 (blk off cap:Nat) (l:List (List UInt8)) (w:World) (hH:Sort.Holds encStr w blk off l.toArray) (hb:blk<w.heap.size) (h:l.length<4611686018427387904):
 Calls Tryz.prog 66 #[.slice (some ⟨blk,off,none⟩) l.length cap] w fun e w'=>e= .returned (.tuple #[])∧∃n os,w'=Sort.grow (Sort.putRow encStr (Sort.ahead w n) blk off (l.mergeSort fun x y=>decide (x≤y)).toArray) os:=
 Any.slices_Sort_string Tryz.lays190 blk off cap l w hH hb h
theorem aeF (p:Option Addr) (cap:Nat) (w:World):Calls Tryz.prog 66 #[.slice p 0 cap] w fun e w'=>e= .returned (.tuple #[])∧w'=w:=
 Any.slices_Sort_string_none Tryz.lays190 p cap w
theorem ZA (l:List ByteArray) (hl:l.length≤1000000) (id:Nat):
 AC Tryz.prog 66 [.c (.ms id 1 0 l.length)] [(id,aQ 1 (l.map encS))] (fun r st=>r= .tup []∧st=[(id,aQ 1 ((Rz l).map encS))]):=by
 have hlen:(l.map fun s:ByteArray=>s.data.toList).length=l.length:=List.length_map ..
 have e1:(l.map encS).map (fun l=>l.map C.d)=(l.map fun s:ByteArray=>s.data.toList).map fun z=>[C.d (.v (encStr z))]:=by
  rw[List.map_map,List.map_map];rfl
 have e2:((Rz l).map encS).map (fun l=>l.map C.d)=((l.map fun s:ByteArray=>s.data.toList).mergeSort fun x y=>decide (x≤y)).map fun z=>[C.d (.v (encStr z))]:=by
  rw[Rz,List.map_map,List.map_map];rfl
 simp only[aQ,e1,e2]
 generalize (l.map fun s:ByteArray=>s.data.toList)=ss at hlen
 rw[←hlen]
 exact ZX (P:=Tryz.prog) (f:=66) (enc:=encStr) (fun _=>rfl) (l:=ss) (l':=ss.mergeSort fun x y=>decide (x≤y)) (by simp) ⟨_,Tryz.func66,by kernel_rfl,by kernel_rfl⟩
  (fun blk off cap w hH hb=>ad6 blk off cap ss w hH hb (by omega)) (fun _ p cap w=>aeF p cap w) id
def z25.kk:=p2 (p9 kB kS kM Tryz.ntmps25 Tryz.underlying74 Tryz.underlying89 sV eH zM) (p8 Ru JV uK jO Wu jy CJ Tryz.results25)
open z25 in
theorem WN (d:bK) (hN:d.revs.length≤512) (hpt:Qy d) (L:jv) (la:List (ByteArray×Int)) (me:List (Int×List Int)) (hla:wW d d.revs.length la):
 AC Tryz.prog 25 [.c (.pp (sG L la me))] [] (fun r st=>r=dJ (jm d)∧st=[]):=by
 have hk:=hla.keys
 rw[List.take_length] at hk
 have hV:VS (pz d.revs):=by
  intro s hs
  obtain⟨v,h1,h2⟩:=G6 hs
  rw[←h2];exact hpt v h1
 have hll:la.length≤512:=by
  have h1:=congrArg List.length hk
  have h2:=IQ d.revs
  rw[List.length_map] at h1
  omega
 have hme:(bJ Bg vI la).length=la.length:=by simp[bJ]
 refine bV Tryz.func25 Tryz.ntmps25 fun x hx=>?_
 refine aJ ?_
 refine gg ?_
 refine aJ ?_
 refine dR (wr:=false) 4 (by simp only[kk,Nat.reduceAdd,Nat.reduceLT,Nat.reduceEqDiff, ↓reduceIte,reduceCtorEq,hme];first|done|rfl) (by first|exact trivial|(simp[All,dI];done)|(simp[All,dI];omega)) ?_
 refine OE eH jy (by simp) (by simp only[kV, ↓reduceIte,Nat.reduceEqDiff,reduceCtorEq];first|done|rfl) (by simp only[kV, ↓reduceIte,Nat.reduceEqDiff,reduceCtorEq];first|done|rfl) (by simp[Ab.get]) (by omega) (by show(16:Int)*_≤_;omega) (by omega) ?_
 refine dM ?_
 try refine nv ?_
 refine ag (ι:=Option iT×List (ByteArray×Int)×List ByteArray) (I:=fun i=>⟨29,[(3, .c (.ms 46 1 0 i.2.2.length)),(15, .c (.ptr 15 0))],[(15, .iter i.1 (bJ Bg vI i.2.1)),(46,aQ 1 (i.2.2.map encS))]⟩)
  (Inv:=fun i=>(i.2.2++i.2.1.map (·.1)).Perm (pz d.revs)) (μ:=fun i=>i.2.1.length) (none,la,[]) (by simp[hk]) ?_ ?_
 ·exact uY (fun i=>if i=46 then 10 else i)
 rintro⟨cur,rest,m⟩ h
 simp only at h⊢
 have hlen:=h.length_eq
 rw[←hk] at hlen
 simp only[List.length_append,List.length_map] at hlen
 refine aJ ?_
 refine nV (id:=15) (by simp) (by simp only[kV, ↓reduceIte,Nat.reduceEqDiff,reduceCtorEq];first|done|rfl) rfl ?_ ?_
 ·intro h0
  refine dM ?_
  try refine nv ?_
  refine af ?_ ?_
  ·intro hh;cases hh
  intro _
  have:rest=[]:=by simpa[bJ] using h0
  subst this
  simp only[List.map_nil,List.append_nil] at h
  have hVm:VS (Rz m):=hV.perm ((Ef m).trans h)
  have hsl:=(Ef m).length_eq
  refine aJ ?_
  refine gg ?_
  refine qQ ([(46,aQ 1 (m.map encS))]) (ZA m (by omega) 46) ?_
  rintro rv9 st' ⟨rfl,rfl⟩<;>refine qU ?_
  refine aJ ?_
  refine gg ?_
  refine qQ ((stA (Rz m))) (IG m.length (by omega) (Rz m) hsl hVm) ?_
  rintro rv9 st' ⟨z,⟨hz1,hz2⟩,rfl⟩<;>refine qU ?_
  have hz:=Xw hV (hz1.trans ((Ef m).trans h)) hz2
  have hzl:m.length=z.length:=by rw[hz1.length_eq,hsl]
  subst hz
  rw[hzl]
  refine aG (aI (i:=3) (id:=46) (ys:=(jm d).map encS) rfl rfl (by rw[List.length_map])) ?_
  refine dM ?_
  try refine nv ?_
  refine rA [] ?_
  refine⟨?_,rfl⟩
  rfl
 intro l1 e l2 hsp
 obtain⟨xs,k,y,rfl,rfl,rfl,rfl⟩:=aaA hsp
 refine dM ?_
 (repeat (first|refine xO ?_|refine wX (wr:=false) (by simp only[kk,Nat.reduceAdd,Nat.reduceLT,Nat.reduceEqDiff, ↓reduceIte,reduceCtorEq,kC];first|done|rfl) ?_))
 refine af ?_ ?_
 rotate_left
 ·intro hh;cases hh
 intro _
 (repeat (first|refine xO ?_|refine wX (wr:=false) (by simp only[kk,Nat.reduceAdd,Nat.reduceLT,Nat.reduceEqDiff, ↓reduceIte,reduceCtorEq,kC];first|done|rfl) ?_))
 refine⟨(some (Bg k.1,vI k.2),xs++y,m++[k.1]),?_,by simp,?_⟩
 ·refine List.Perm.trans ?_ h
  simp only[List.map_append,List.map_cons,List.append_assoc,List.cons_append,List.nil_append]
  exact List.Perm.append_left _ (List.perm_middle.symm)
 ·exact uY (fun i=>if i=46 then 23 else i)
end Go.Proofs.YtcpgicfphakdaaaGreatDoor
