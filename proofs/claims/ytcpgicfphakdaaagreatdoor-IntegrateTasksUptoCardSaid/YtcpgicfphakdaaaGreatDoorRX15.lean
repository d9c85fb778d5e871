/- A part of the proof. -/
import Derived.Test.YtcpgicfphakdaaaGreatDoorRX10
set_option maxRecDepth 100000
set_option maxHeartbeats 16000000
set_option linter.all false
namespace Go.Proofs.YtcpgicfphakdaaaGreatDoor
open Go.Ab Tys
variable [zG]
theorem VE (b:aX) (l:List aX) (v:aX):AB b (l++[v])=AB b l++(gz b v).toList:=by
 unfold AB
 rw[List.filterMap_append,List.filterMap_cons]
 cases gz b v<;>rfl
theorem QU (b:aX) (l:List aX):(AB b l).length≤l.length:=List.length_filterMap_le ..
theorem Kq {n:Nat} {p q:aX} (hp:PB n p) (hq:PB n q):∀k,∀s∈gW p q k,s.size≤n
 |0,s,h=>by simp[gW] at h
 |k+1,s,h=>by
  simp only[gW,List.mem_append,List.mem_singleton] at h
  rcases h with h|rfl
  ·exact Kq hp hq k s h
  ·split
   ·exact hp.get k
   ·exact hq.get k
theorem Ku {n:Nat} {p q m:aX} (hp:PB n p) (hq:PB n q) (h:sD p q=some m):PB n m:=by
 unfold sD at h
 split at h
 ·cases h
 ·split at h
  ·cases h
   exact⟨by simp only[kK];exact hp.1,Kq hp hq _⟩
  ·cases h
theorem WL {n:Nat} {p q m:aX} (hp:PB n p) (hq:PB n q) (h:gz p q=some m):PB n m:=by
 unfold gz at h
 split at h
 ·split at h
  ·exact Ku hq hp h
  ·exact Ku hp hq h
 ·cases h
theorem Ud {n:Nat} {b:aX} {l:List aX} (hb:PB n b) (hl:∀h∈l,PB n h):∀m∈AB b l,PB n m:=by
 intro m hm
 obtain⟨h,h1,h2⟩:=List.mem_filterMap.1 hm
 exact WL hb (hl h h1) h2
theorem JW:∀(k:Nat) (l:List aX),(uM k l).length=l.length
 |0,l=>rfl
 |k+1,l=>by
  simp only[uM]
  split
  ·rw[JW k];simp
  ·rfl
theorem Eu (l:List aX):∀k,(uS l k).length=l.length
 |0=>rfl
 |k+1=>by rw[uS,JW,Eu l k]
theorem D8 (l:List aX):∀k,(lM l k).length≤k
 |0=>Nat.le_refl _
 |k+1=>by
  have:=D8 l k
  simp only[lM,List.length_append]
  split<;>simp<;>omega
theorem abU {P:aX→Prop} {t:List aX} {v w:aX} {i j:Nat} (hv:P v) (hw:P w) (h:∀r∈t,P r):∀r∈(t.set j w).set i v,P r:=by
 intro r hr
 rcases List.mem_or_eq_of_mem_set hr with hr|rfl
 ·rcases List.mem_or_eq_of_mem_set hr with hr|rfl
  ·exact h r hr
  ·exact hw
 ·exact hv
theorem ac4 (l:List aX) (i:Nat) (v:aX):((l.map au).map fun l=>l.map C.d).set i (C.d (.ps 1 (v.parts.map encS))::C.d (.v (.bool v.rest))::List.drop 2 (((l.map au).map fun l=>l.map C.d).getD i []))=((l.set i v).map au).map fun l=>l.map C.d:=
 CE au l i v 2 (fun _=>rfl)
theorem acY (l:List aX) (i:Nat) (v:aX):((l.map au).map fun l=>l.map C.d).set i [C.d (.ps 1 (v.parts.map encS)),C.d (.v (.bool v.rest))]=((l.set i v).map au).map fun l=>l.map C.d:=by
 simp[List.map_set]
theorem V6 {l:List aX} {i j:Nat}:(bif bif !decide ((i:Int)=j) then dG (l.getD i bz) (l.getD j bz) else false then bif decide ((j:Int)<i) then true else !decide (l.getD i bz=l.getD j bz) else false)=jJ l i j:=by
 unfold jJ
 rw[show decide ((i:Int)=j)=decide (i=j) from decide_eq_decide.2 (by omega),show decide ((j:Int)<i)=decide (j<i) from decide_eq_decide.2 (by omega)]
 generalize decide (i=j)=a
 generalize decide (j<i)=b
 generalize decide (l.getD i bz=l.getD j bz)=c
 generalize dG (l.getD i bz) (l.getD j bz)=d
 cases a<;>cases b<;>cases c<;>cases d<;>rfl
def adQ.kk:=LK kB kG kS Tryz.ntmps150 Tryz.underlying77 mQ df vU kz jX rY fM xI Tryz.results150
open adQ in
theorem Yl (b:aX) (hb:PB 100000 b) (hs:List aX) (hl:hs.length≤100000) (hh:∀h∈hs,PB 100000 h):AC Tryz.prog 150 [aPat b,eU hs] [] (fun x st=>x=xJ (sQ b hs)∧st=[]):=by
 have hmt:=fun v (hv:PB 100000 v)=>L9 b v (hb.mono (by omega)) (hv.mono (by omega))
 have hsn:=VE b
 have hml:=QU b
 have hmp:=Ud hb hh
 have hR:sQ b hs=⟨b,lM (uS (AB b hs) (AB b hs).length) (AB b hs).length⟩:=rfl
 generalize sQ b hs=R at hR
 have hm0:AB b []=[]:=rfl
 generalize hmP:AB b=mP at hsn hml hmp hR hm0
 generalize gz b=me at hmt hsn
 obtain⟨ps,rp⟩:=b
 refine bV Tryz.func150 Tryz.ntmps150 fun x hx=>?_
 refine aJ ?_
 refine gg ?_
 refine aJ ?_
 refine gg ?_
 refine aJ ?_
 refine aG (eG (i:=5) (id:=100) (sz:=2) rfl rfl (by omega)) ?_
 refine dM ?_
 try refine nv ?_
 refine ag (ι:=Nat) (I:=fun k=>⟨122,[(2, .c (.ptr 2 0)),(4, .c (.ptr 4 0)),(5, .c (.ms 100 2 0 (mP (hs.take k)).length)),(18,eU hs),(19,I .i64 hs.length),(20,I .i64 k)],
  [(2, .box ((au ⟨ps,rp⟩).map C.d)),(4, .box [qm, .d (.v (.bool false)),qm]),(100,aQ 2 ((mP (hs.take k)).map au))]⟩)
  (Inv:=fun k=>k≤hs.length) (μ:=fun k=>hs.length-k) 0 (by omega) ?_ ?_
 ·exact tK @hm0
 intro k hk
 have hlk:=hml (hs.take k)
 have hlk2:(hs.take k).length≤k:=by simp;omega
 try refine nv ?_
 refine af ?_ ?_
 ·intro hlt
  have hlt':k<hs.length:=by simpa using hlt
  obtain⟨v,hv,he,htk⟩:=round au hs k bz hlt'
  have hmv:=hmt v (hh v (List.mem_of_getElem? hv))
  have hsk:=hsn (hs.take k) v
  rw[←htk] at hsk
  cases hme:me v with
  |none=>
   rw[hme] at hmv hsk
   simp only[Af,pB,Option.isSome] at hmv
   simp only[Option.toList,List.append_nil] at hsk
   (repeat (first|refine nx @he ?_|refine cf (hmv) ?_))
   refine af ?_ ?_
   ·intro h;cases h
   intro _
   try refine nv ?_
   refine⟨k+1,by omega,by omega,?_⟩
   rw[hsk]
   exact aW
  |some m=>
   rw[hme] at hmv hsk
   obtain⟨ms,rm⟩:=m
   simp only[Af,pB,Option.isSome] at hmv
   simp only[Option.toList] at hsk
   (repeat (first|refine nx @he ?_|refine cf (hmv) ?_))
   refine af ?_ ?_
   rotate_left
   ·intro h;cases h
   intro _
   try refine nv ?_
   refine⟨k+1,by omega,by omega,?_⟩
   rw[hsk]
   exact uY (fun i=>if i=100 then 34 else i)
 intro hge
 have hk':k=hs.length:=by have:¬k<hs.length:=by simpa using hge
                          omega
 rw[hk',List.take_length] at hlk⊢
 generalize hM:mP hs=M at hlk hmp hR
 try refine nv ?_
 refine ag (ι:=Nat×List aX) (I:=fun i=>⟨122,[(2, .c (.ptr 2 0)),(4, .c (.ptr 4 0)),(5, .c (.ms 100 2 0 M.length)),(37,I .i64 M.length),(38,I .i64 i.1)],
  [(2, .box ((au ⟨ps,rp⟩).map C.d)),(4, .box [qm, .d (.v (.bool false)),qm]),(100,aQ 2 (i.2.map au))]⟩)
  (Inv:=fun i=>i.1≤M.length∧i.2.length=M.length∧(∀r∈i.2,PB 100000 r)∧i.2=uS M i.1) (μ:=fun i=>M.length-i.1) (0,M) ⟨by simp,rfl,hmp,rfl⟩ ?_ ?_
 ·exact aW
 rintro⟨k,m⟩ ⟨h1,h2,h3,h4⟩
 simp only at h1 h2 h3 h4⊢
 try refine nv ?_
 refine af ?_ ?_
 ·intro hlt
  have hlt':k<M.length:=by simpa using hlt
  try refine nv ?_
  refine ag (ι:=Nat×List aX) (I:=fun i=>⟨122,[(2, .c (.ptr 2 0)),(4, .c (.ptr 4 0)),(5, .c (.ms 100 2 0 M.length)),(11,I .i64 i.1),(37,I .i64 M.length),(38,I .i64 k)],
   [(2, .box ((au ⟨ps,rp⟩).map C.d)),(4, .box [qm, .d (.v (.bool false)),qm]),(100,aQ 2 (i.2.map au))]⟩)
   (Inv:=fun i=>i.1≤k∧i.2.length=M.length∧(∀r∈i.2,PB 100000 r)∧uM i.1 i.2=uS M (k+1)) (μ:=fun i=>i.1) (k,m) ⟨by simp,h2,h3,by rw[h4];rfl⟩ ?_ ?_
  ·exact aW
  rintro⟨j,t⟩ ⟨g1,g2,g3,g4⟩
  simp only at g1 g2 g3 g4⊢
  have hj1:((j:Int)-1).toNat=j-1:=by omega
  have hjt:j<t.length:=by omega
  have hjt2:j-1<t.length:=by omega
  have e1:=pY au t j bz hjt
  have e2:=pY au t (j-1) bz hjt2
  have m1:t.getD j bz∈t:=by rw[List.getD_eq_getElem?_getD,List.getElem?_eq_getElem hjt];simp
  have m2:t.getD (j-1) bz∈t:=by rw[List.getD_eq_getElem?_getD,List.getElem?_eq_getElem hjt2];simp
  generalize hv:t.getD j bz=v at e1 m1
  generalize hw:t.getD (j-1) bz=w at e2 m2
  have t1:=Vg v ((g3 _ m1).mono (by omega))
  have t2:=Vg w ((g3 _ m2).mono (by omega))
  refine aJ ?_
  refine Ua (wr:=false) 14 ([(49,Str (yC v)),(55,Str (yC w))]:List (Nat×AV)) (by kernel_rfl) (by simp only[List.take_succ_cons,List.take_zero,kD,kk,Nat.reduceAdd,Nat.reduceLT,Nat.reduceEqDiff, ↓reduceIte,reduceCtorEq,hj1,e1,e2];first|done|rfl) ?_ (by decide) (by kernel_rfl) (by kernel_rfl) ?_
  rotate_left
  simp only[List.drop_succ_cons,List.drop_zero]
  rotate_left
  ·exact ob2 @t1 @t2
  refine Wh (by simp) rfl rfl rfl ?_ (.inl ⟨rfl,rfl⟩) ?_
  ·intro h9
   simpa[qB,ev,Ab.get,strip,dD,All] using h9
  refine dM ?_
  try refine nv ?_
  refine af ?_ ?_
  ·intro hc
   have hc':0<j∧cb (yC v) (yC w)<0:=by
    cases j with
    |zero=>exact absurd hc (by simp)
    |succ j=>exact⟨by omega,by simpa[cb,dD] using hc⟩
   obtain⟨hj,hb⟩:=hc'
   have hjn:j-1≠j:=by omega
   have e3:=pY au (t.set j w) (j-1) bz (by simp;omega)
   refine aJ ?_
   refine qx (wr:=false) ([]:List (Nat×AV)) (by kernel_rfl) (by simp only[kD,kk,Nat.reduceAdd,Nat.reduceLT,Nat.reduceEqDiff, ↓reduceIte,reduceCtorEq,hj1,e1,e2,ac4,acY];first|done|rfl) (by first|exact trivial|(simp only[kO];omega)|(simp[All,dI];first|done|omega)|(simp+contextual [All,dI];first|done|grind)) (by kernel_rfl) ?_
   try refine nv ?_
   have hlen:((t.set j w).set (j-1) v).length=M.length:=by simp[g2]
   refine⟨(j-1,(t.set j w).set (j-1) v),⟨by simp;omega,hlen,abU (g3 _ m1) (g3 _ m2) g3,?_⟩,by simp;omega,?_⟩
   ·rw[←g4]
    obtain⟨i,rfl⟩:∃i,j=i+1:=⟨j-1,by omega⟩
    have e0:i+1-1=i:=by omega
    rw[e0] at hw
    conv=>rhs;rw[uM]
    rw[hv,hw,if_pos hb];rfl
   ·have hcast:((j-1:Nat):Int)=(j:Int)-1:=by omega
    exact tK @hcast
  ·intro hc
   try refine nv ?_
   refine⟨(k+1,t),⟨by simp;omega,g2,g3,?_⟩,by simp;omega,?_⟩
   ·rw[←g4]
    cases j with
    |zero=>rfl
    |succ i=>
     have hb:¬cb (yC v) (yC w)<0:=by simpa[cb,dD] using hc
     have e0:i+1-1=i:=by omega
     rw[e0] at hw
     simp only
     rw[uM,hv,hw,if_neg hb]
   ·exact aW
 intro hge
 have hge':k=M.length:=by have:¬k<M.length:=by simpa using hge
                          omega
 rw[hge'] at h4
 rw[←h4,←h2] at hR
 rw[←h2]
 have hkl:=D8 m
 clear hmt hsn hml hmp hm0 hM h4 h1 hge hge'
 refine aJ ?_
 refine aG (aI (i:=5) (id:=100) (ys:=m.map au) rfl rfl (by simp)) ?_
 refine dM ?_
 refine gg ?_
 refine aJ ?_
 refine aG (pW (bid:=12) (j:=2) (id:=101) (sz:=2) rfl rfl rfl (by omega)) ?_
 refine dM ?_
 try refine nv ?_
 have hm1:m.length≤100000:=by omega
 refine ag (ι:=Nat) (I:=fun k=>⟨122,[(4, .c (.ptr 4 0)),(5,eU m),(12, .c (.ptr 12 0)),(79,eU m),(80,I .i64 m.length),(81,I .i64 k)],
  [(4, .box [qm, .d (.v (.bool false)),qm]),(12, .box [.d (.ps 1 (ps.map encS)), .d (.v (.bool rp)), .ms 101 2 0 (lM m k).length]),(101,aQ 2 ((lM m k).map au))]⟩)
  (Inv:=fun k=>k≤m.length) (μ:=fun k=>m.length-k) 0 (by omega) ?_ ?_
 ·(refine fZ (fun i=>i) rfl ?_ ⟨?_,?_,?_,gu hx (by simp[ae,Ab.get])⟩<;>first|(simp only[kE,aQ, ↓reduceIte,Nat.reduceEqDiff,reduceCtorEq,lM];done)|simp[di,bf,aA,Ab.get,aZ,dH,aN,bY,bG,bH,bD,bI,bC,ae,List.flatten,lM])
 intro k hk
 have hklk:=hkl k
 try refine nv ?_
 refine af ?_ ?_
 ·intro hlt
  have hlt':k<m.length:=by simpa using hlt
  obtain⟨v,hv,he,_⟩:=round au m k bz hlt'
  have ev:=fH (z:=bz) hv
  have hvb:=h3 v (List.mem_of_getElem? hv)
  try refine nx @he ?_
  refine ag (ι:=Nat) (I:=fun j=>⟨122,[(4, .c (.ptr 4 0)),(5,eU m),(12, .c (.ptr 12 0)),(13,I .i64 k),(14, .c (.ptr 14 0)),(15,B (!(List.range j).any (jJ m k))),(79,eU m),(80,I .i64 m.length),(81,I .i64 k),(86,eU m),(87,I .i64 m.length),(88,I .i64 j)],
   [(4, .box [qm, .d (.v (.bool false)),qm]),(12, .box [.d (.ps 1 (ps.map encS)), .d (.v (.bool rp)), .ms 101 2 0 (lM m k).length]),(14, .box ((au v).map C.d)),(101,aQ 2 ((lM m k).map au))]⟩)
   (Inv:=fun j=>j≤m.length) (μ:=fun j=>m.length-j) 0 (by omega) ?_ ?_
  ·(refine fZ (fun i=>i) rfl ?_ ⟨?_,?_,?_,gu hx (by simp[ae,Ab.get])⟩<;>first|(simp only[kE,aQ, ↓reduceIte,Nat.reduceEqDiff,reduceCtorEq,List.range_zero,List.any_nil,Bool.not_false];done)|simp[di,bf,aA,Ab.get,aZ,dH,aN,bY,bG,bH,bD,bI,bC,ae,List.flatten,List.range_zero,List.any_nil,Bool.not_false])
  intro j hj
  try refine nv ?_
  refine af ?_ ?_
  ·intro hlt2
   have hlt2':j<m.length:=by simpa using hlt2
   obtain⟨u,hu,he2,_⟩:=round au m j bz hlt2'
   have eu:=fH (z:=bz) hu
   have hub:=h3 u (List.mem_of_getElem? hu)
   have hdc:=V6 (l:=m) (i:=k) (j:=j)
   rw[ev,eu] at hdc
   have hwi:=Gx v u (hvb.mono (by omega)) (hub.mono (by omega))
   have hsa:=Zd v u (Nat.le_trans hvb.1 (by omega)) (Nat.le_trans hub.1 (by omega))
   generalize hfl:(List.range j).any (jJ m k)=fl
   have hnx:(List.range (j+1)).any (jJ m k)=(fl||jJ m k j):=by rw[List.range_succ,List.any_append,hfl];simp
   generalize jJ m k j=dv at hdc hnx
   try refine nx @he2 ?_
   refine so ([(99,B (dG v u))]) ?_ ?_
   ·exact gI @hwi
   try refine nv ?_
   refine so ([(108,B (decide (v=u)))]) ?_ ?_
   ·exact gI @hsa
   try refine nv ?_
   refine af ?_ ?_
   ·intro hc
    rw[hdc] at hc
    try refine nv ?_
    refine⟨j+1,by omega,by omega,?_⟩
    rw[hnx,hc,Bool.or_true,Bool.not_true]
    exact aW
   ·intro hc
    rw[hdc] at hc
    try refine nv ?_
    refine⟨j+1,by omega,by omega,?_⟩
    rw[hnx,hc,Bool.or_false]
    exact aW
  intro hge2
  have hj':j=m.length:=by have:¬j<m.length:=by simpa using hge2
                          omega
  subst hj'
  have hkn:lM m (k+1)=lM m k++(if(List.range m.length).any (jJ m k) then [] else [m.getD k bz]):=rfl
  rw[ev] at hkn
  generalize (List.range m.length).any (jJ m k)=fl at hkn
  try refine nv ?_
  refine af ?_ ?_
  ·intro hc
   have hc':fl=false:=by simpa using hc
   rw[hc',if_neg (by simp)] at hkn
   try refine nv ?_
   refine⟨k+1,by omega,by omega,?_⟩
   rw[hkn]
   exact uY (fun i=>if i=101 then 118 else i)
  ·intro hc
   have hc':fl=true:=by simpa using hc
   rw[hc',if_pos rfl,List.append_nil] at hkn
   try refine nv ?_
   refine⟨k+1,by omega,by omega,?_⟩
   rw[hkn]
   exact aW
 intro hge
 have hk2:k=m.length:=by have:¬k<m.length:=by simpa using hge
                         omega
 subst hk2
 refine aJ ?_
 refine aG (dY (bid:=12) (id:=101) (sz:=2) (j:=2) (ys:=(lM m m.length).map au) (by decide) rfl rfl rfl (by simp)) ?_
 refine dM ?_
 try refine nv ?_
 refine rA [] ?_
 refine⟨?_,rfl⟩
 rw[hR];rfl
end Go.Proofs.YtcpgicfphakdaaaGreatDoor
namespace Go.Proofs.YtcpgicfphakdaaaGreatDoor
open Go.Ab Tys
variable [zG]
def hF (x:dU) (h:aX):Option aX:=if(lT x.line h).2.1 then some (lT x.line h).1.right else none
def Y9 (x:dU) (h:aX):Bool:=decide ((lT x.line h).2.2=0)
theorem vK (x:dU):∀l:List aX,lm x l=if l.all (Y9 x) then some (l.filterMap (hF x)) else none
 |[]=>rfl
 |h::l=>by
  have ih:=vK x l
  by_cases e:(lT x.line h).2.2=0
  ·have ha:(h::l).all (Y9 x)=l.all (Y9 x):=by simp[Y9,e]
   rw[ha,lm,if_pos e,ih]
   have hf:(h::l).filterMap (hF x)=if(lT x.line h).2.1 then(lT x.line h).1.right::l.filterMap (hF x) else l.filterMap (hF x):=by
    rw[List.filterMap_cons,hF]
    cases(lT x.line h).2.1<;>rfl
   rw[hf]
   cases(lT x.line h).2.1<;>cases l.all (Y9 x)<;>rfl
  ·have ha:(h::l).all (Y9 x)=false:=by simp[Y9,e]
   rw[ha,lm,if_neg e];rfl
theorem UK (x:dU) (l:List aX) (v:aX):(l++[v]).filterMap (hF x)=l.filterMap (hF x)++(hF x v).toList:=by
 rw[List.filterMap_append,List.filterMap_cons]
 cases hF x v<;>rfl
theorem Qa {n:Nat} {p q:aX} (h1:1≤n) (hp:PB n p) (hq:PB n q):∀b∈(jd p q).getD [],PB n b:=by
 cases h:jd p q with
 |none=>intro b hb;simp at hb
 |some l=>exact(Gw h1 hp hq h).2
theorem Og {n:Nat} {r:Gs} {p:aX} (hn:12≤n) (hl:PB n r.left) (hr:PB n r.right) (hp:PB n p):PB (2*n) (lT r p).1.right:=by
 unfold lT
 split
 ·split
  ·cases hm:gz r.left p with
   |none=>exact tH _
   |some m=>
    simp only
    split
    ·exact Xn hn hr (Qa (by omega) hl (yh hl hp hm))
    ·exact tH _
  ·exact tH _
 ·exact tH _
@[reducible] def IP:List C:=[qm, .d (.v (.bool false)),qm]
@[reducible] def EJ:Option DC→Bool×List C
 |none=>(true,IP)
 |some g=>aeU g
def z83.kk:=p2 (p9 kB kS Tryz.ntmps83 Tryz.underlying77 mQ qo df xH vU) (p9 jY xx xg rY xy fM xI Fg Tryz.results83)
open z83 in
theorem Wq (e:dU) (hb:EB 10000 e):AC Tryz.prog 83 [TR e] [] (fun r st=>r= .tup [EJ (oK e),pB (oK e).isSome]∧st=[]):=by
 have hli:=O9 e
 have hnr:=fun h hh=>aav e.line h hb.left hb.right (hb.holes h hh)
 have hR:oK e=(lm e e.holes).map (sQ e.right):=rfl
 rw[vK] at hR
 have hFs:=UK e
 have hF0:([]:List aX).filterMap (hF e)=[]:=rfl
 have hFd:∀h,hF e h=if(lT e.line h).2.1 then some (lT e.line h).1.right else none:=fun _=>rfl
 have hOd:∀h,Y9 e h=decide ((lT e.line h).2.2=0):=fun _=>rfl
 have hnp:∀h∈e.holes,PB 20000 (lT e.line h).1.right:=fun h hh=>Og (n:=10000) (by omega) hb.left hb.right (hb.holes h hh)
 have hsp:=Yl e.right (hb.right.mono (by omega))
 have hml:∀l:List aX,(l.filterMap (hF e)).length≤l.length:=fun l=>List.length_filterMap_le ..
 have hfp:∀m∈e.holes.filterMap (hF e),PB 100000 m:=by
  intro m hm
  obtain⟨h,h1,h2⟩:=List.mem_filterMap.1 hm
  rw[hFd] at h2
  split at h2
  ·cases h2;exact(hnp h h1).mono (by omega)
  ·cases h2
 have hlen:=hb.len
 generalize hme:(fun l:List aX=>l.filterMap (hF e))=mE at*
 have hmE:∀l:List aX,l.filterMap (hF e)=mE l:=fun l=>by rw[←hme]
 simp only[hmE] at hR hFs hF0 hml hfp
 generalize hF e=hf at*
 generalize Y9 e=ho at*
 generalize oK e=R at hR
 generalize lT e.line=nl at*
 obtain⟨lf,rg,hs⟩:=e
 obtain⟨ps,rp⟩:=lf
 obtain⟨qs,rq⟩:=rg
 simp only at hR hnr hnp hsp hfp hlen
 refine bV Tryz.func83 Tryz.ntmps83 fun x hx=>?_
 refine aJ ?_
 refine gg ?_
 refine aJ ?_
 refine gg ?_
 refine aJ ?_
 refine aG (eG (i:=4) (id:=100) (sz:=2) rfl rfl (by omega)) ?_
 refine dM ?_
 try refine nv ?_
 refine ag (ι:=Nat) (I:=fun k=>⟨39,[(1, .c (.ptr 1 0)),(2, .c (.ptr 2 0)),(4, .c (.ms 100 2 0 (mE (hs.take k)).length)),(11,eU hs),(12,I .i64 hs.length),(13,I .i64 k)],
  [(1, .box ((dK ⟨⟨ps,rp⟩,⟨qs,rq⟩,hs⟩).map C.d)),(2, .box IP),(100,aQ 2 ((mE (hs.take k)).map au))]⟩)
  (Inv:=fun k=>k≤hs.length∧(hs.take k).all ho=true) (μ:=fun k=>hs.length-k) 0 ⟨by omega,rfl⟩ ?_ ?_
 ·exact tK @hF0
 rintro k ⟨hk,hall⟩
 have hlk:=hml (hs.take k)
 have hlk2:(hs.take k).length≤k:=by simp;omega
 try refine nv ?_
 refine af ?_ ?_
 ·intro hlt
  have hlt':k<hs.length:=by simpa using hlt
  obtain⟨v,hv,he,htk⟩:=round au hs k bz hlt'
  have hvm:=List.mem_of_getElem? hv
  have hnv:=hnr v hvm
  have hsk:=hFs (hs.take k) v
  have hfv:=hFd v
  have hov:=hOd v
  rw[←htk] at hsk
  have hno:ho v=false→¬hs.all ho=true:=by
   intro h0 e
   rw[List.all_eq_true] at e;rw[e v hvm] at h0;cases h0
  generalize nl v=N at hnv hfv hov
  obtain⟨nr,nb,ne⟩:=N
  simp only at hfv hov
  cases nb with
  |false=>
   rw[if_neg (by simp)] at hfv
   rw[hfv,Option.toList,List.append_nil] at hsk
   have hnv':AC Tryz.prog 149 [zY (dU.line ⟨⟨ps,rp⟩,⟨qs,rq⟩,hs⟩),aPat v] [] (fun x st=>x= .tup [(true,PZ),pB false,pI ne]∧st=[]):=hnv
   try refine nx @he ?_
   refine dx ([(19,zY (dU.line ⟨⟨ps,rp⟩,⟨qs,rq⟩,hs⟩)),(21, .tup [(true,PZ),pB false,pI ne])]) @he ?_ ?_
   ·exact ob2 @hli @hnv'
   try refine nv ?_
   refine af ?_ ?_
   ·intro h
    have h':¬ne=0:=by simpa using h
    rw[decide_eq_false h'] at hov
    rw[if_neg (hno hov)] at hR
    try refine nv ?_
    refine rA [] ?_
    refine⟨?_,rfl⟩
    rw[hR];rfl
   intro h
   have h':ne=0:=by simpa using h
   rw[decide_eq_true h'] at hov
   try refine nv ?_
   refine af ?_ ?_
   ·intro h;cases h
   intro _
   try refine nv ?_
   refine⟨k+1,⟨by omega,by rw[htk,List.all_append,hall];simp[hov]⟩,by omega,?_⟩
   rw[hsk]
   exact aW
  |true=>
   rw[if_pos rfl] at hfv
   rw[hfv,Option.toList] at hsk
   have hnv':AC Tryz.prog 149 [zY (dU.line ⟨⟨ps,rp⟩,⟨qs,rq⟩,hs⟩),aPat v] [] (fun x st=>x= .tup [YB nr,pB true,pI ne]∧st=[]):=hnv
   try refine nx @he ?_
   refine dx ([(19,zY (dU.line ⟨⟨ps,rp⟩,⟨qs,rq⟩,hs⟩)),(21, .tup [YB nr,pB true,pI ne])]) @he ?_ ?_
   ·exact ob2 @hli @hnv'
   try refine nv ?_
   refine af ?_ ?_
   ·intro h
    have h':¬ne=0:=by simpa using h
    rw[decide_eq_false h'] at hov
    rw[if_neg (hno hov)] at hR
    try refine nv ?_
    refine rA [] ?_
    refine⟨?_,rfl⟩
    rw[hR];rfl
   intro h
   have h':ne=0:=by simpa using h
   rw[decide_eq_true h'] at hov
   try refine nv ?_
   refine af ?_ ?_
   rotate_left
   ·intro h;cases h
   intro _
   try refine nv ?_
   refine⟨k+1,⟨by omega,by rw[htk,List.all_append,hall];simp[hov]⟩,by omega,?_⟩
   rw[hsk]
   exact uY (fun i=>if i=100 then 33 else i)
 intro hge
 have hk':k=hs.length:=by have:¬k<hs.length:=by simpa using hge
                          omega
 subst hk'
 rw[List.take_length] at hall hlk⊢
 rw[if_pos hall] at hR
 have hsp:=hsp (mE hs) (by omega) hfp
 refine aJ ?_
 refine aG (aI (i:=4) (id:=100) (sz:=2) (ys:=(mE hs).map au) rfl rfl (by simp)) ?_
 refine dM ?_
 (repeat (first|refine nv ?_|refine cf (hsp) ?_))
 refine rA [] ?_
 refine⟨?_,rfl⟩
 rw[hR];rfl
def z84.kk:=p13 kB kS Tryz.ntmps84 Tryz.underlying77 mQ df vU kz jX rY fM xI Tryz.results84
open z84 in
theorem JR (a b:DC) (ha:PB 100000 a.base) (hb:PB 100000 b.base) (hal:a.holes.length≤50000) (hbl:b.holes.length≤50000) (hah:∀h∈a.holes,PB 100000 h) (hbh:∀h∈b.holes,PB 100000 h):
 AC Tryz.prog 84 [xJ a,xJ b] [] (fun r st=>r=B (iD a b)∧st=[]):=by
 have h1:=L9 a.base b.base (ha.mono (by omega)) (hb.mono (by omega))
 have hR:iD a b=match gz a.base b.base with|none=>false|some m=>decide (0<yK ⟨m,a.holes++b.holes⟩):=rfl
 have hmp:=fun m=>yh (m:=m) ha hb
 have h2:=fun m hm=>aa4 ⟨m,a.holes++b.holes⟩ (hmp m hm) (by simp only[List.length_append];omega) (fun h hh=>(List.mem_append.1 hh).elim (hah h) (hbh h))
 generalize iD a b=R at hR
 generalize hM:gz a.base b.base=M at h1 hR h2
 obtain⟨ab,ah⟩:=a
 obtain⟨bb,bh⟩:=b
 obtain⟨ps,rp⟩:=ab
 obtain⟨qs,rq⟩:=bb
 simp only at h1 h2 hR hal hbl
 cases M with
 |none=>
  simp only[Af,pB,Option.isSome] at h1
  simp only at hR
  refine bV Tryz.func84 Tryz.ntmps84 fun x hx=>?_
  (repeat (first|refine nv ?_|refine cf (h1) ?_))
  refine af ?_ ?_
  ·intro _
   try refine nv ?_
   refine rA [] ?_
   refine⟨?_,rfl⟩
   rw[hR]
  ·intro h;cases h
 |some m=>
  have h2:=h2 m rfl
  obtain⟨ms,rm⟩:=m
  simp only[Af,pB,Option.isSome] at h1
  simp only at hR
  generalize yK ⟨⟨ms,rm⟩,ah++bh⟩=L at h2 hR
  have o1:∀l∈List.map (fun l=>List.map C.d l) (List.map au ah),l.length=2:=by
   intro l hl
   obtain⟨y,hy,rfl⟩:=List.mem_map.1 hl
   obtain⟨z,_,rfl⟩:=List.mem_map.1 hy
   rfl
  have o2:∀l∈List.map (fun l=>List.map C.d l) (List.map au bh),l.length=2:=by
   intro l hl
   obtain⟨y,hy,rfl⟩:=List.mem_map.1 hl
   obtain⟨z,_,rfl⟩:=List.mem_map.1 hy
   rfl
  refine bV Tryz.func84 Tryz.ntmps84 fun x hx=>?_
  (repeat (first|refine nv ?_|refine cf (h1) ?_))
  refine af ?_ ?_
  ·intro h;cases h
  intro _
  refine aJ ?_
  refine dr ([]) ?_ ?_
  ·exact ob2 @o1 @o2
  refine aJ ?_
  refine aG (dY (bid:=7) (id:=24) (sz:=2) (j:=2) (ys:=(ah++bh).map au) (by decide) rfl rfl (by simp[Ab.get]) (by simp)) ?_
  refine dM ?_
  (repeat (first|refine nv ?_|refine cf (h2) ?_))
  refine rA [] ?_
  refine⟨?_,rfl⟩
  rw[hR]
  exact congrArg (fun b=>B b) (decide_eq_decide.2 (by omega))
end Go.Proofs.YtcpgicfphakdaaaGreatDoor
namespace Go.Proofs.YtcpgicfphakdaaaGreatDoor
open Go.Ab Tys
variable [zG]
theorem JM {P:aX→Prop}:∀(k:Nat) (l:List aX),k<l.length→(∀r∈l,P r)→∀r∈uM k l,P r
 |0,l,_,h=>h
 |k+1,l,hk,h=>by
  simp only[uM]
  have g:∀i,i<l.length→P (l.getD i bz):=fun i hi=>by rw[List.getD_eq_getElem?_getD,List.getElem?_eq_getElem hi];exact h _ (List.getElem_mem hi)
  split
  ·exact JM k _ (by simp;omega) (abU (g (k+1) hk) (g k (by omega)) h)
  ·exact h
theorem JK {P:aX→Prop} {l:List aX} (h:∀r∈l,P r):∀k,k≤l.length→∀r∈uS l k,P r
 |0,_=>h
 |k+1,hk=>JM k _ (by rw[Eu];omega) (JK h k (by omega))
theorem KH {P:aX→Prop} {l:List aX} (h:∀r∈l,P r):∀k,k≤l.length→∀r∈lM l k,P r
 |0,_,r,hr=>by simp[lM] at hr
 |k+1,hk,r,hr=>by
  simp only[lM,List.mem_append] at hr
  rcases hr with hr|hr
  ·exact KH h k (by omega) r hr
  ·split at hr
   ·cases hr
   ·simp only[List.mem_singleton] at hr
    subst hr
    rw[List.getD_eq_getElem?_getD,List.getElem?_eq_getElem (by omega:k<l.length)]
    exact h _ (List.getElem_mem _)
theorem KR {e:dU} (hb:EB 10000 e) {g:DC} (h:oK e=some g):PB 20000 g.base∧g.holes.length≤10000∧∀h∈g.holes,PB 20000 h:=by
 unfold oK at h
 rw[vK] at h
 split at h
 ·simp only[Option.map_some,Option.some.injEq] at h
  subst h
  have hm:∀m∈e.holes.filterMap (hF e),PB 20000 m:=by
   intro m hm
   obtain⟨h,h1,h2⟩:=List.mem_filterMap.1 hm
   unfold hF at h2
   split at h2
   ·cases h2;exact Og (n:=10000) (by omega) hb.left hb.right (hb.holes h h1)
   ·cases h2
  have hl:(e.holes.filterMap (hF e)).length≤e.holes.length:=List.length_filterMap_le ..
  have hlen:=hb.len
  have hm2:=Ud (hb.right.mono (by omega:10000≤20000)) hm
  have hl2:=QU e.right (e.holes.filterMap (hF e))
  refine⟨hb.right.mono (by omega),?_,?_⟩
  ·simp only[sQ]
   exact Nat.le_trans (D8 _ _) (by omega)
  ·simp only[sQ]
   refine KH (JK hm2 _ (Nat.le_refl _)) _ ?_
   rw[Eu];exact Nat.le_refl _
 ·cases h
theorem EB.mono {n m:Nat} {e:dU} (h:EB n e) (hm:n≤m):EB m e:=⟨h.left.mono hm,h.right.mono hm,Nat.le_trans h.len hm,fun x hx=>(h.holes x hx).mono hm⟩
def WR (x y:dU):Bool:=iD x.qR y.qR||iD ((oK x).getD acJ) ((oK y).getD acJ)
structure uN (m:List dU):Prop where
 ent:∀e∈m,dN e.line=0∧iK e.qR=0
 len:m.length≤32
 right:∀e∈m,(oK e).isSome=true
 apart:∀(i j:Nat) (x y:dU),j<i→m[i]? =some x→m[j]? =some y→WR x y=false
theorem wE {g:DC} (h:iK g=0):g.holes.length≤64:=by
 unfold iK at h
 split at h
 ·split at h
  ·split at h
   ·omega
   ·omega
  ·omega
 ·omega
structure EB1 (e:dU):Prop where
 left:PB 10000 e.left
 right:PB 10000 e.right
 len:e.holes.length≤1000000
 holes:∀h∈e.holes,PB 10000 h
theorem EB1.eb {e:dU} (h:EB1 e) (hc:iK e.qR=0):EB 10000 e:=⟨h.left,h.right,by have:=wE hc;simp only[dU.qR] at this;omega,h.holes⟩
def z28.kk:=p12 kB kG kS Tryz.ntmps28 Tryz.underlying23 mQ xH PV rY VC Fg Tryz.results28
open z28 in
theorem Xz (m:List dU) (hm:m.length≤10000) (hb:∀e∈m,EB1 e):AC Tryz.prog 28 [dZ m] [] (fun r st=>(∃i e:Int,r= .tup [pI i,pI e]∧(e=0↔uN m))∧st=[]):=by
 have hli:=fun e:dU=>O9 e
 have hle:=fun e:dU=>XG e
 have h4:=fun e he=>DJ (dU.line e) ((hb e he).left.mono (by omega)) ((hb e he).right.mono (by omega))
 have h5:=fun e he=>Vx (dU.qR e) ((hb e he).left.mono (by omega)) (hb e he).len (fun h hh=>((hb e he).holes h hh).mono (by omega))
 have hri:=fun e he hc=>Wq e ((hb e he).eb hc)
 refine bV Tryz.func28 Tryz.ntmps28 fun x hx=>?_
 try refine nv ?_
 refine ag (ι:=Nat) (I:=fun k=>⟨92,[(0,dZ m),(18,dZ m),(19,I .i64 m.length),(20,I .i64 k)],[]⟩)
  (Inv:=fun k=>k≤m.length∧∀e∈m.take k,dN e.line=0∧iK e.qR=0) (μ:=fun k=>m.length-k) 0 ⟨by omega,by simp⟩ ?_ ?_
 ·exact aW
 rintro k ⟨hk,hent⟩
 try refine nv ?_
 refine af ?_ ?_
 ·intro hlt
  have hlt':k<m.length:=by simpa using hlt
  obtain⟨v,hv,he,htk⟩:=round dK m k D7 hlt'
  have hvm:=List.mem_of_getElem? hv
  have h4:=h4 v hvm
  have h5:=h5 v hvm
  have hbad:¬(dN v.line=0∧iK v.qR=0)→¬uN m:=fun hn hM=>hn (hM.ent v hvm)
  have hnx:(dN v.line=0∧iK v.qR=0)→∀e∈m.take (k+1),dN e.line=0∧iK e.qR=0:=by
   intro h e he2
   rw[htk,List.mem_append] at he2
   rcases he2 with he2|he2
   ·exact hent e he2
   ·simp only[List.mem_singleton] at he2;subst he2;exact h
  generalize dN (dU.line v)=e4 at h4 hbad hnx
  generalize iK (dU.qR v)=e5 at h5 hbad hnx
  (repeat (first|refine nx @he ?_|refine cf (hli v) ?_|refine cf (h4) ?_))
  refine so ([(31,xJ (dU.qR v))]) ?_ ?_
  ·exact gI (hle v)
  try refine nv ?_
  refine so ([(32,I .i64 e5)]) ?_ ?_
  ·exact gI @h5
  try refine nv ?_
  refine af ?_ ?_
  ·intro hc
   have hc':¬(e4=0∧e5=0):=by
    rintro⟨rfl,rfl⟩;simp at hc
   try refine nv ?_
   refine rA [] ?_
   refine⟨?_,rfl⟩
   exact⟨_,_,rfl,by simp[hbad hc']⟩
  ·intro hc
   have hc':e4=0∧e5=0:=by
    by_cases a:e4=0<;>by_cases b:e5=0<;>simp_all
   try refine nv ?_
   refine⟨k+1,⟨by omega,hnx hc'⟩,by omega,?_⟩
   exact aW
 intro hge0
 have hk':k=m.length:=by have:¬k<m.length:=by simpa using hge0
                         omega
 rw[hk',List.take_length] at hent
 try refine nv ?_
 refine af ?_ ?_
 ·intro hc
  have hc':¬m.length≤32:=by simp at hc;omega
  try refine nv ?_
  refine rA [] ?_
  refine⟨?_,rfl⟩
  exact⟨_,_,rfl,by constructor<;>intro h<;>first|omega|exact absurd h.len hc'⟩
 intro hlen
 have hlen':m.length≤32:=by simp at hlen;omega
 try refine nv ?_
 refine ag (ι:=Nat) (I:=fun k=>⟨92,[(0,dZ m),(40,dZ m),(41,I .i64 m.length),(42,I .i64 k)],[]⟩)
  (Inv:=fun k=>k≤m.length∧∀e∈m.take k,(oK e).isSome=true) (μ:=fun k=>m.length-k) 0 ⟨by omega,by simp⟩ ?_ ?_
 ·exact aW
 rintro k2 ⟨hk2,hall⟩
 try refine nv ?_
 refine af ?_ ?_
 ·intro hlt
  have hlt':k2<m.length:=by simpa using hlt
  obtain⟨v,hv,he,htk⟩:=round dK m k2 D7 hlt'
  have hvm:=List.mem_of_getElem? hv
  have hr:=hri v hvm (hent v hvm).2
  cases hrv:oK v with
  |none=>
   rw[hrv] at hr
   simp only[EJ,pB,Option.isSome] at hr
   (repeat (first|refine nx @he ?_|refine cf (hr) ?_))
   refine af ?_ ?_
   ·intro _
    try refine nv ?_
    refine rA [] ?_
    refine⟨?_,rfl⟩
    exact⟨_,_,rfl,by constructor<;>intro h<;>first|omega|(have:=h.right v hvm;rw[hrv] at this;cases this)⟩
   ·intro h;cases h
  |some g=>
   rw[hrv] at hr
   obtain⟨gb,gh⟩:=g
   obtain⟨gp,gr⟩:=gb
   simp only[EJ,pB,Option.isSome] at hr
   (repeat (first|refine nx @he ?_|refine cf (hr) ?_))
   refine af ?_ ?_
   ·intro h;cases h
   intro _
   try refine nv ?_
   refine⟨k2+1,⟨by omega,?_⟩,by omega,?_⟩
   ·intro e he2
    rw[htk,List.mem_append] at he2
    rcases he2 with he2|he2
    ·exact hall e he2
    ·simp only[List.mem_singleton] at he2;subst he2;rw[hrv];rfl
   ·exact aW
 intro hge
 have hk2':k2=m.length:=by have:¬k2<m.length:=by simpa using hge
                           omega
 rw[hk2',List.take_length] at hall
 try refine nv ?_
 refine ag (ι:=Nat) (I:=fun k=>⟨92,[(0,dZ m),(54,dZ m),(55,I .i64 m.length),(56,I .i64 k)],[]⟩)
  (Inv:=fun k=>k≤m.length∧∀(i j:Nat) (x y:dU),i<k→j<i→m[i]? =some x→m[j]? =some y→WR x y=false) (μ:=fun k=>m.length-k) 0 ⟨by omega,fun i j x y h=>by omega⟩ ?_ ?_
 ·exact aW
 rintro k3 ⟨hk3,hap⟩
 try refine nv ?_
 refine af ?_ ?_
 ·intro hlt
  have hlt':k3<m.length:=by simpa using hlt
  obtain⟨v,hv,he,htk⟩:=round dK m k3 D7 hlt'
  have hvm:=List.mem_of_getElem? hv
  have hr:=hri v hvm (hent v hvm).2
  obtain⟨g,hg⟩:=Option.isSome_iff_exists.1 (hall v hvm)
  obtain⟨g1,g2,g3⟩:=KR ((hb v hvm).eb (hent v hvm).2) hg
  rw[hg] at hr
  simp only[EJ,pB,Option.isSome] at hr
  have hbv:=(hb v hvm).eb (hent v hvm).2
  obtain⟨gb,gh⟩:=g
  obtain⟨gp,gr⟩:=gb
  (repeat (first|refine nx @he ?_|refine cf (hr) ?_))
  refine ag (ι:=Nat) (I:=fun j=>⟨92,[(0,dZ m),(10,I .i64 k3),(11, .c (.ptr 11 0)),(12, .c (.ptr 12 0)),(54,dZ m),(55,I .i64 m.length),(56,I .i64 k3),(68, .c (.d (.ps 5 ((m.map dK).take k3)))),(69,I .i64 k3),(70,I .i64 j)],
   [(11, .box ((dK v).map C.d)),(12, .box ((rP ⟨⟨gp,gr⟩,gh⟩).map C.d))]⟩)
   (Inv:=fun j=>j≤k3∧∀(i:Nat) (y:dU),i<j→m[i]? =some y→WR v y=false) (μ:=fun j=>k3-j) 0 ⟨by omega,fun i y h=>by omega⟩ ?_ ?_
  ·(refine fZ (fun i=>i) rfl ?_ ⟨?_,?_,?_,gu hx (by simp[ae,Ab.get])⟩<;>first|(simp only[kE,aQ, ↓reduceIte,Nat.reduceEqDiff,reduceCtorEq,List.length_take,Nat.min_eq_left hk3];done)|simp[di,bf,aA,Ab.get,aZ,dH,aN,bY,bG,bH,bD,bI,bC,ae,List.flatten,List.length_take,Nat.min_eq_left hk3])
  rintro j ⟨hj,hcl⟩
  try refine nv ?_
  refine af ?_ ?_
  ·intro hlt2
   have hlt2':j<k3:=by simpa using hlt2
   obtain⟨u,hu,he2,_⟩:=round dK m j D7 (by omega)
   have hum:=List.mem_of_getElem? hu
   have hru:=hri u hum (hent u hum).2
   obtain⟨s,hs⟩:=Option.isSome_iff_exists.1 (hall u hum)
   obtain⟨s1,s2,s3⟩:=KR ((hb u hum).eb (hent u hum).2) hs
   rw[hs] at hru
   simp only[EJ,pB,Option.isSome] at hru
   have hbu:=(hb u hum).eb (hent u hum).2
   obtain⟨sb,sh⟩:=s
   obtain⟨sp,sr⟩:=sb
   have he3:((m.map dK).take k3).getD j []=dK u:=by
    rw[List.getD_eq_getElem?_getD,List.getElem?_take,if_pos hlt2',←List.getD_eq_getElem?_getD,he2]
   have hc1:=JR (dU.qR v) (dU.qR u) (hbv.left.mono (by omega)) (hbu.left.mono (by omega)) (Nat.le_trans hbv.len (by omega)) (Nat.le_trans hbu.len (by omega)) (fun h hh=>(hbv.holes h hh).mono (by omega)) (fun h hh=>(hbu.holes h hh).mono (by omega))
   have hc2:=JR ⟨⟨gp,gr⟩,gh⟩ ⟨⟨sp,sr⟩,sh⟩ (g1.mono (by omega)) (s1.mono (by omega)) (Nat.le_trans g2 (by omega)) (Nat.le_trans s2 (by omega)) (fun h hh=>(g3 h hh).mono (by omega)) (fun h hh=>(s3 h hh).mono (by omega))
   have hcB:WR v u=(iD (dU.qR v) (dU.qR u)||iD ⟨⟨gp,gr⟩,gh⟩ ⟨⟨sp,sr⟩,sh⟩):=by simp only[WR,hg,hs,Option.getD_some]
   generalize iD (dU.qR v) (dU.qR u)=b1 at hc1 hcB
   generalize iD ⟨⟨gp,gr⟩,gh⟩ ⟨⟨sp,sr⟩,sh⟩=b2 at hc2 hcB
   (repeat (first|refine nx @he3 ?_|refine cf (hru) ?_))
   refine dr ([(80,xJ (dU.qR v)),(82,xJ (dU.qR u)),(83,B b1),(87,B b2)]) ?_ ?_
   ·exact ob4 (hle v) (hle u) @hc1 @hc2
   refine aJ ?_
   refine af ?_ ?_
   ·intro hc
    have hc':WR v u=true:=by rw[hcB];cases b1<;>cases b2<;>simp_all
    try refine nv ?_
    refine rA [] ?_
    refine⟨?_,rfl⟩
    exact⟨_,_,rfl,by constructor<;>intro h<;>first|omega|(have:=h.apart k3 j v u hlt2' hv hu;rw[hc'] at this;cases this)⟩
   ·intro hc
    have hc':WR v u=false:=by rw[hcB];cases b1<;>cases b2<;>simp_all
    try refine nv ?_
    refine⟨j+1,⟨by omega,?_⟩,by omega,?_⟩
    ·intro i y h1 h2
     by_cases e:i=j
     ·subst e;rw[hu] at h2;cases h2;exact hc'
     ·exact hcl i y (by omega) h2
    ·exact aW
  intro hge4
  have hj':j=k3:=by have:¬j<k3:=by simpa using hge4
                    omega
  try refine nv ?_
  refine⟨k3+1,⟨by omega,?_⟩,by omega,?_⟩
  ·intro i j2 x y h1 h2 h3 h4
   by_cases e:i=k3
   ·subst e;rw[hv] at h3;cases h3;exact hcl j2 y (by omega) h4
   ·exact hap i j2 x y (by omega) h2 h3 h4
  ·exact aW
 intro hge5
 have hk3':k3=m.length:=by have:¬k3<m.length:=by simpa using hge5
                           omega
 try refine nv ?_
 refine rA [] ?_
 refine⟨?_,rfl⟩
 exact⟨_,_,rfl,fun _=>⟨hent,hlen',hall,fun i j x y h1 h2 h3=>hap i j x y (by have:=(List.getElem?_eq_some_iff.1 h2).1;omega) h1 h2 h3⟩,fun _=>rfl⟩
end Go.Proofs.YtcpgicfphakdaaaGreatDoor
