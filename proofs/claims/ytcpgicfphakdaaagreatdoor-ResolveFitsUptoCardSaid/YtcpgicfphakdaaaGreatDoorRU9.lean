/- A part of the proof. -/
import Derived.Test.YtcpgicfphakdaaaGreatDoorRU7
import Derived.Scope
import Derived.Test.YtcpgicfphakdaaaGreatDoorRH1
set_option maxRecDepth 100000
set_option maxHeartbeats 8000000
set_option linter.all false
namespace Go.Proofs.YtcpgicfphakdaaaGreatDoor
section
open Go.Ab
theorem qy {α:Type} {l:List α} {k:Nat} {v z:α} (h:l[k]? =some v):l.getD k z=v:=by simp[adI,h]
end
section
open Go.Ab Tys
variable [Dr]
def isM (r:Rev):Bool:=decide (¬r.act=5)
def ai1 (l:List Rev):List (bJ×Rev):=(l.filter isM).map fun r=>(fileOf r,r)
@[simp] theorem ahF:ai1 []=[]:=rfl
theorem ZO {p q:akK} {k:Nat} {x y:UInt8} (hx:p.data.toList[k]? =some x) (hy:q.data.toList[k]? =some y):(byteAt p k=byteAt q k↔x=y)∧(byteAt p k<byteAt q k↔x<y):=by
 have hk:k<p.size:=by have:=(adK.1 hx).1;simpa using this
 have hk2:k<q.size:=by have:=(adK.1 hy).1;simpa using this
 obtain⟨x',h1,h2⟩:=lL hk
 obtain⟨y',h3,h4⟩:=lL hk2
 rw[hx] at h1;cases h1
 rw[hy] at h3;cases h3
 rw[h2,h4,UInt8.lt_iff_toNat_lt]
 constructor
 ·constructor
  ·intro h;exact UInt8.toNat_inj.1 (by omega)
  ·rintro rfl;rfl
 ·omega
theorem Ux {l:List UInt8} {k:Nat} {x:UInt8} (h:l[k]? =some x):l.drop k=x::l.drop (k+1):=by
 rw[ajF,h];rfl
def z69.kk:=p6 kB kG Tryz.ntmps69 Tryz.underlying9 jB Tryz.results69
open z69 in
theorem zJ (a b:akK) (ha:a.size≤100000) (hb:b.size≤100000):AC Tryz.prog 69 [Str a,Str b] [] (fun r st=>r= .tup [pI (if(aG a).isSome&&(aG b).isSome then ord a b else 0),pI (if(aG a).isSome&&(aG b).isSome then 0 else 20)]∧st=[]):=by
 have hva:=Eb a ha
 have hvb:=Eb b hb
 refine df Tryz.func69 Tryz.ntmps69 fun x hx=>?_
 (repeat (first|refine nv ?_|refine cf (hva) ?_))
 refine so ([(12,B (aG b).isSome)]) ?_ ?_
 ·exact eQ @hvb
 try refine nv ?_
 refine aj ?_ ?_
 ·intro h
  have h':((aG a).isSome&&(aG b).isSome)=false:=by
   cases e1:(aG a).isSome<;>cases e2:(aG b).isSome<;>simp_all
  try refine nv ?_
  refine rA [] ?_
  refine⟨?_,rfl⟩
  simp[h']
 intro h
 obtain⟨e1,e2⟩:(aG a).isSome=true∧(aG b).isSome=true:=by
  cases e1:(aG a).isSome<;>cases e2:(aG b).isSome<;>simp_all
 simp only[e1,e2,Bool.and_self,if_true]
 rw[←acj e1 e2]
 try refine nv ?_
 refine au (ι:=Nat) (I:=fun k=>⟨54,[(0,Str a),(1,Str b),(19,I .i64 (min (a.size:Int) b.size)),(20,I .i64 k)],[]⟩)
  (Inv:=fun k=>k≤a.size∧k≤b.size∧y8 a.data.toList b.data.toList=y8 (a.data.toList.drop k) (b.data.toList.drop k)) (μ:=fun k=>a.size-k) 0 ⟨by omega,by omega,rfl⟩ ?_ ?_
 ·exact bQ
 rintro k ⟨k1,k2,k3⟩
 rw[k3]
 have sa:a.data.toList.length=a.size:=by simp
 have sb:b.data.toList.length=b.size:=by simp
 try refine nv ?_
 refine aj ?_ ?_
 ·intro hlt
  have hlt':k<a.size∧k<b.size:=by
   have:(k:Int)<min (a.size:Int) b.size:=by simpa using hlt
   omega
  obtain⟨u,hu,bu⟩:=lL hlt'.1
  obtain⟨v,hv,bv⟩:=lL hlt'.2
  obtain⟨q1,q2⟩:=ZO hu hv
  have x47:=wR hu
  have y47:=wR hv
  rw[Ux hu,Ux hv]
  try refine nv ?_
  refine dr ([]) ?_ ?_
  ·exact qP
  refine aZ ?_
  refine aj ?_ ?_
  ·intro he
   have he':u=v:=q1.1 (by simpa[byteAt] using he)
   try refine nv ?_
   refine⟨k+1,⟨by omega,by omega,?_⟩,by omega,?_⟩
   ·subst he';simp[y8]
   ·exact bQ
  intro he
  have he':¬u=v:=fun e=>by have:=q1.2 e;simp[byteAt] at this;simp[this] at he
  try refine nv ?_
  refine aj ?_ ?_
  ·intro h47
   have:u=47:=x47.1 (by simpa[byteAt] using h47)
   try refine nv ?_
   refine rA [] ?_
   refine⟨?_,rfl⟩
   rw[y8,if_neg he',if_pos this]
  intro h47
  have h47':¬u=47:=fun e=>by have:=x47.2 e;simp[byteAt] at this;simp[this] at h47
  try refine nv ?_
  refine aj ?_ ?_
  ·intro g47
   have:v=47:=y47.1 (by simpa[byteAt] using g47)
   try refine nv ?_
   refine rA [] ?_
   refine⟨?_,rfl⟩
   rw[y8,if_neg he',if_neg h47',if_pos this]
  intro g47
  have g47':¬v=47:=fun e=>by have:=y47.2 e;simp[byteAt] at this;simp[this] at g47
  refine aZ ?_
  refine dr ([(47,I .i64 (vY (byteAt a k) (byteAt b k)))]) ?_ ?_
  ·simp only[All,List.cons_append,List.nil_append,dB,afr,agW,ajr,forall_eq_or_imp,forall_eq,aJ,aB,cZ,aV,bT,ahu,ajG,implies_true,ae1,List.length_cons,List.length_nil,ay,jT,cu]
   repeat' (first|exact trivial|exact Vj _ _|refine And.intro ?_ ?_|intro _|assumption|rfl|omega|(rw[afU];assumption)|(simp;done)|(simp only[aeB] at*;omega)|(simp_all;done))
  refine aZ ?_
  refine rA [] ?_
  refine⟨?_,rfl⟩
  simp only[y8,he',h47',g47',if_false,vY]
  by_cases hl:u<v
  ·simp[hl,q2.2 hl]
  ·have hg:byteAt b k<byteAt a k:=by
    have h1:¬byteAt a k<byteAt b k:=fun h=>hl (q2.1 h)
    have h2:¬byteAt a k=byteAt b k:=fun h=>he' (q1.1 h)
    omega
   have:¬byteAt a k<byteAt b k:=fun h=>hl (q2.1 h)
   simp[hl,this,hg]
 ·intro hge
  have hge':k=a.size∨k=b.size:=by
   have:¬(k:Int)<min (a.size:Int) b.size:=by simpa using hge
   omega
  (repeat (first|refine nv ?_|refine cf (FT _ _) ?_))
  refine rA [] ?_
  refine⟨?_,rfl⟩
  have e3:∀l m:List UInt8,l=[]∨m=[]→y8 l m=vY l.length m.length:=by
   intro l m hlm
   cases l<;>cases m<;>simp[y8,vY]<;>first|omega|simp_all
  rw[e3 _ _ (by rcases hge' with h|h<;>simp[h])]
  have e4:vY a.size b.size=vY ((a.size-k:Nat):Int) ((b.size-k:Nat):Int):=by
   simp only[vY]
   repeat' split
   all_goals first|rfl|omega
  rw[e4]
  simp only[ajz,sa,sb]
end
section
open Go.Ab
def yh (l:List akK) (i n:Nat):List akK:=(l.drop i).take n
theorem sJ {l:List akK} {i n:Nat}:(yh l i n).length=min n (l.length-i):=by simp[yh]
def rep (l:List akK) (a e:Nat) (z:List akK):List akK:=l.take a++(z++l.drop e)
theorem KH {l:List akK} {a e:Nat} (h:a≤e):l.take a++(yh l a (e-a)++l.drop e)=l:=by
 have h2:yh l a (e-a)++l.drop e=l.drop a:=by
  have:=agu (e-a) (l.drop a)
  rw[List.drop_drop,show a+(e-a)=e by omega] at this
  exact this
 rw[h2,agu]
section
variable {l z:List akK} {a e:Nat} (hae:a≤e) (he:e≤l.length) (hz:z.length=e-a)
include hae he hz
theorem Yd:(rep l a e z).length=l.length:=by
 simp only[rep,afI,ajD,ajz];omega
theorem xR {i n:Nat} (h:i+n≤a):yh (rep l a e z) i n=yh l i n:=by
 unfold yh rep
 rw[List.drop_append_of_le_length (by simp;omega),List.take_append_of_le_length (by simp;omega),List.drop_take,List.take_take]
 congr 1
 omega
theorem aav {i n:Nat} (h:e≤i):yh (rep l a e z) i n=yh l i n:=by
 unfold yh rep
 have h1:(l.take a++z).length=e:=by simp;omega
 rw[←ahJ,List.drop_append,List.drop_of_length_le (by omega),List.nil_append,h1,List.drop_drop]
 congr 2
 omega
theorem PS {n:Nat} (h:n=e-a∨(e=l.length∧e-a≤n)):yh (rep l a e z) a n=z:=by
 unfold yh rep
 have h1:(l.take a).length=a:=by simp;omega
 rw[List.drop_append,List.drop_of_length_le (by omega),List.nil_append,h1,akq,akx]
 rcases h with h|⟨h,h2⟩
 ·rw[List.take_append_of_le_length (by omega),ahH (by omega)]
 ·rw[h,akv,ajt,ahH (by omega)]
omit he hz in
theorem ET (hp:z.Perm (yh l a (e-a))):(rep l a e z).Perm l:=by
 have:=KH (l:=l) hae
 conv=>rhs;rw[←this]
 exact List.Perm.append_left _ (List.Perm.append_right _ hp)
end
def Blk (bs:Nat) (l:List akK):Prop:=∀k,bg pC (yh l (k*bs) bs)
theorem Blk.whole {bs:Nat} {l:List akK} (h:Blk bs l) (hb:l.length≤bs):bg pC l:=by
 have:=h 0
 rw[Nat.zero_mul] at this
 simpa[yh,ahH hb] using this
theorem VS.perm {l m:List akK} (h:VS l) (p:m.Perm l):VS m:=fun s hs=>h s (p.mem_iff.1 hs)
theorem QJ {l:List akK} {i n:Nat} (h:l.length≤i):yh l i n=[]:=by simp[yh,List.drop_of_length_le h]
theorem afX {P A B:List akK} {e0 z:akK} {i:Nat} (h:i=P.length+A.length):(P++(A++e0::B)).getD i z=e0:=by
 rw[show P++(A++e0::B)=(P++A)++e0::B by simp]
 exact su (by simp[h])
theorem Ae:∀t:List UInt8,Lib.join (dn t) [47]=t
 |[]=>by simp[dn,Lib.join_one]
 |a::l=>by
  have ih:=Ae l
  simp only[dn]
  obtain⟨h,t,e⟩:=je l
  split
  ·rename_i ha
   subst ha
   rw[e] at ih⊢
   rw[Lib.join_cons]
   simp only[Lib.joinTail,List.nil_append]
   rw[Lib.join_cons] at ih
   cases t with
   |nil=>simpa[Lib.joinTail] using ih
   |cons b t=>simpa[Lib.joinTail] using ih
  ·rw[e] at ih⊢
   simp only
   rw[Lib.join_cons] at ih⊢
   rw[←ih];rfl
theorem TT {x y:akK} {l:List akK} (hx:aG x=some l) (hy:aG y=some l):x=y:=by
 have key:∀s:akK,aG s=some l→s=fD++s.extract 2 s.size∧l=split (s.extract 2 s.size):=by
  intro s h
  unfold aG at h
  split at h
  ·rename_i l' hp
   split at h
   ·cases h
   ·cases h
    unfold jm at hp
    split at hp
    ·rename_i hd
     split at hp
     ·cases hp
      simp only[hasPrefix,afA,aeB] at hd
      refine⟨?_,rfl⟩
      have h2:s.extract 0 2=fD:=hd.2
      conv=>rhs;arg 1;rw[←h2]
      rw[akw]
      simp
     ·cases hp
    ·cases hp
  ·cases h
 obtain⟨a1,a2⟩:=key x hx
 obtain⟨b1,b2⟩:=key y hy
 have e:x.extract 2 x.size=y.extract 2 y.size:=by
  rw[vU] at a2 b2
  rw[a2] at b2
  have h1:=congrArg (List.map fun b:akK=>b.data.toList) b2
  rw[ajM,ajM] at h1
  have h2:∀L:List (List UInt8),L.map ((fun b:akK=>b.data.toList)∘Hl)=L:=fun L=>by
   conv=>rhs;rw[←List.map_id L]
   exact ajZ fun _ _=>rfl
  rw[h2,h2] at h1
  have h3:=congrArg (fun L=>Lib.join L [47]) h1
  simp only[Ae] at h3
  exact ByteArray.ext (Array.ext' h3)
 rw[a1,b1,e]
theorem ad9 {x y:akK} (hx:(aG x).isSome=true) (hy:(aG y).isSome=true) (h1:MO pC x y) (h2:MO pC y x):x=y:=by
 obtain⟨a,ha⟩:=ahM.1 hx
 obtain⟨b,hb⟩:=ahM.1 hy
 have h0:pC x y=0:=by
  unfold MO at h1 h2
  by_cases h:0<pC x y
  ·exact absurd (iw.pos x y h) h1
  ·omega
 rw[pC,ha,hb] at h0
 simp only[Option.getD_some] at h0
 have:=cmpL_eq a b h0
 subst this
 exact TT ha hb
theorem Vd {l m:List akK} (hV:VS m) (p:l.Perm m) (hl:bg pC l) (hm:bg pC m):l=m:=
 p.eq_of_pairwise (fun a b ha hb h1 h2=>ad9 (hV a (p.mem_iff.1 ha)).1 (hV b hb).1 h1 h2) hl hm
theorem Gw:∀(k:Nat) (w:List akK) (e0:akK) (S:List akK),w.length=k→VS (w++[e0])→bg pC w→∃z,z.Perm (w++[e0])∧bg pC z∧GX k (w++e0::S)=z++S
 |0,w,e0,S,hw,_,_=>by
  have:w=[]:=ajw.1 hw
  subst this
  exact⟨[e0],akI _,by simp,rfl⟩
 |k+1,w,e0,S,hw,hV,hs=>by
  obtain⟨w',y,rfl⟩:∃w' y,w=w'++[y]:=by
   refine⟨w.take k,w.getD k noS,?_⟩
   have:w.take (k+1)=w:=ahH (by omega)
   conv=>lhs;rw[←this]
   rw[ajC,adH (by omega)]
   simp[adI,adH (by omega:k<w.length)]
  have hw':w'.length=k:=by simpa using hw
  have he:(aG e0).isSome=true:=(hV e0 (by simp)).1
  have hy:(aG y).isSome=true:=(hV y (by simp)).1
  have g1:(w'++[y]++e0::S).getD (k+1) noS=e0:=su (by simp[hw'])
  have g2:(w'++[y]++e0::S).getD k noS=y:=by
   rw[show w'++[y]++e0::S=w'++y::(e0::S) by simp]
   exact su hw'.symm
  rw[bg,ajP] at hs
  simp only[GX,g1,g2]
  rw[←ab8 he hy]
  split
  ·rename_i hlt
   have e1:((w'++[y]++e0::S).set (k+1) y).set k e0=w'++e0::(y::S):=by
    rw[vJ (by simp[hw'])]
    rw[show w'++[y]++y::S=w'++y::(y::S) by simp]
    exact vJ hw'.symm
   rw[e1]
   obtain⟨z,z1,z2,z3⟩:=Gw k w' e0 (y::S) hw' (fun s hs=>hV s (by simp only[afs] at hs⊢;rcases hs with h|h;exact .inl (.inl h);exact .inr h)) hs.1
   rw[z3]
   refine⟨z++[y],?_,?_,by simp⟩
   ·refine(List.Perm.append_right _ z1).trans ?_
    rw[ahJ,ahJ]
    exact List.Perm.append_left _ List.perm_append_comm
   ·rw[bg,ajP]
    refine⟨z2,by simp,?_⟩
    intro p hp q hq
    simp only[aft] at hq
    subst hq
    rcases afs.1 (z1.mem_iff.1 hp) with h|h
    ·exact hs.2.2 p h q (by simp)
    ·simp only[aft] at h
     subst h
     exact iw.le_of_lt hlt
  ·rename_i hlt
   refine⟨w'++[y]++[e0],akI _,?_,by simp⟩
   rw[bg,ajP]
   refine⟨by rw[ajP];exact hs,by simp,?_⟩
   intro p hp q hq
   simp only[aft] at hq
   subst hq
   rcases afs.1 hp with h|h
   ·exact iw.le_trans (hs.2.2 p h y (by simp)) hlt
   ·simp only[aft] at h
    subst h
    exact hlt
theorem G8 {l:List akK} (hV:VS l):∀k,k≤l.length→∃z,z.Perm (l.take k)∧bg pC z∧GV l k=z++l.drop k
 |0,_=>⟨[],by simp,List.Pairwise.nil,by simp[GV]⟩
 |k+1,hk=>by
  obtain⟨z,z1,z2,z3⟩:=G8 hV k (by omega)
  have hlz:z.length=k:=by rw[z1.length_eq];simp;omega
  rw[GV,z3,aiu (by omega:k<l.length)]
  obtain⟨y,y1,y2,y3⟩:=Gw k z l[k] (l.drop (k+1)) hlz (fun s hs=>by
   rcases afs.1 hs with h|h
   ·exact hV s (akB (z1.mem_iff.1 h))
   ·simp only[aft] at h
    subst h
    exact hV _ (ajI _)) z2
  refine⟨y,?_,y2,y3⟩
  rw[ajC,adH (by omega)]
  exact y1.trans (List.Perm.append_right _ z1)
theorem QC {d:aW} (hV:VS (BQ d.revs)):(oz d).Perm (BQ d.revs)∧bg pC (oz d):=by
 obtain⟨z,z1,z2,z3⟩:=G8 hV (BQ d.revs).length (afJ _)
 rw[afu] at z1
 rw[akv,ajt] at z3
 unfold oz
 rw[z3]
 exact⟨z1,z2⟩
theorem aad {d:aW} (hV:VS (BQ d.revs)) {l:List akK} (p:l.Perm (BQ d.revs)) (hl:bg pC l):l=oz d:=by
 obtain⟨h1,h2⟩:=QC hV
 exact Vd (hV.perm h1) (p.trans h1.symm) hl h2
structure yD (d:aW) (k:Nat) (la:List (akK×Int)):Prop where
 keys:la.map (·.1)=BQ (d.revs.take k)
 look:∀p i,ai la p=some i→∃(j:Nat) (v:Rev),i=(j:Int)∧j<k∧d.revs[j]? =some v∧v.path=p∧∀(m:Nat) (u:Rev),m<k→d.revs[m]? =some u→u.path=p→m≤j
theorem KR {κ ν:Type} [DecidableEq κ]:∀{m:List (κ×ν)} {k:κ},ai m k=none↔¬k∈m.map (·.1)
 |[],k=>by simp[ai]
 |(a,b)::m,k=>by
  simp only[ai,agV,afr,not_or]
  by_cases h:k=a
  ·subst h;simp
  ·rw[if_neg h,KR];simp[h]
theorem OV {κ ν:Type} [DecidableEq κ]:∀(m:List (κ×ν)) (k:κ) (v:ν),(eH m k v).map (·.1)=qO (m.map (·.1)) k
 |[],k,v=>by simp[eH,qO]
 |(a,b)::m,k,v=>by
  have ih:=OV m k v
  simp only[eH,qO] at ih⊢
  by_cases h:k=a
  ·subst h;simp
  ·rw[if_neg h]
   simp only[agV,afr,h,false_or]
   rw[ih]
   split<;>simp
theorem yD.zero (d:aW):yD d 0 []:=⟨rfl,fun p i h=>by simp[ai] at h⟩
theorem yD.step {d:aW} {k:Nat} {la:List (akK×Int)} {v:Rev} (h:yD d k la) (hv:d.revs[k]? =some v):yD d (k+1) (eH la v.path k):=by
 constructor
 ·rw[OV,h.keys,ajC,hv]
  exact(ZN _ v).symm
 ·intro p i hi
  rw[fJ] at hi
  split at hi
  ·rename_i e
   cases hi
   exact⟨k,v,rfl,by omega,hv,e.symm,fun m u hm _ _=>by omega⟩
  ·rename_i e
   obtain⟨j,w,h1,h2,h3,h4,h5⟩:=h.look p i hi
   refine⟨j,w,h1,by omega,h3,h4,fun m u hm hu hp=>?_⟩
   by_cases e2:m=k
   ·subst e2;rw[hv] at hu;cases hu;exact absurd hp.symm e
   ·exact h5 m u (by omega) hu hp
theorem yD.bd {d:aW} {k:Nat} {la:List (akK×Int)} (h:yD d k la) {p:akK} {i:Int} (hi:ai la p=some i):0≤i∧i<(d.revs.length:Int):=by
 obtain⟨j,v,rfl,_,h3,_⟩:=h.look p i hi
 have:=(adK.1 h3).1
 omega
theorem yD.num {d:aW} (hg:Good d.revs) {k:Nat} {la:List (akK×Int)} {v:Rev} (h:yD d k la) (hv:d.revs[k]? =some v) {i:Int} (hi:ai la v.path=some i):(d.revs.getD i.toNat ag).num<v.num:=by
 obtain⟨j,w,rfl,h2,h3,h4,_⟩:=h.look v.path i hi
 rw[Int.toNat_natCast,adI,h3]
 exact(hg.path j k w v h2 h3 hv h4).2
theorem Tp:∀(l:List Rev) (acc:List akK) (p:akK),(p∈acc∨∃v∈l,v.path=p)→p∈l.foldl (fun acc v=>qO acc v.path) acc
 |[],acc,p,h=>by rcases h with h|⟨_,h,_⟩;exact h;cases h
 |v::l,acc,p,h=>by
  refine Tp l _ p ?_
  rw[wW]
  rcases h with h|⟨u,h1,h2⟩
  ·exact .inl (.inl h)
  ·rcases afr.1 h1 with rfl|h1
   ·exact .inl (.inr h2.symm)
   ·exact .inr ⟨u,h1,h2⟩
theorem yD.last {d:aW} {la:List (akK×Int)} (h:yD d d.revs.length la) (p:akK):
 (ai la p=none∧aU d p=none)∨∃(j:Nat) (v:Rev),ai la p=some (j:Int)∧d.revs[j]? =some v∧aU d p=some v:=by
 cases ha:ai la p with
 |none=>
  refine .inl ⟨rfl,?_⟩
  have:=KR.1 ha
  rw[h.keys,afu] at this
  cases hl:aU d p with
  |none=>rfl
  |some v=>
   obtain⟨j,h1,h2,_⟩:=gZ hl
   exact absurd (Tp d.revs [] p (.inr ⟨v,aem h1,h2⟩)) this
 |some i=>
  obtain⟨j,v,rfl,h2,h3,h4,h5⟩:=h.look p i ha
  refine .inr ⟨j,v,rfl,h3,?_⟩
  cases hl:aU d p with
  |none=>exact absurd h4 (last_none hl v (aem h3))
  |some w=>
   obtain⟨m,m1,m2,m3⟩:=gZ hl
   have a:=m3 j v h3 h4
   have b:=h5 m w (adK.1 m1).1 m1 m2
   have:j=m:=by omega
   subst this
   rw[h3] at m1;cases m1;rfl
def atR (d:aW) (j:Nat):Rev:=d.revs.getD j ag
theorem KF {d:aW} {j:Nat} {u:Rev} (h:d.revs[j]? =some u):atR d j=u:=by rw[atR,adI,h];rfl
theorem jU {d:aW} {j:Nat} (h:j<d.revs.length):d.revs[j]? =some (atR d j):=by rw[atR,adI,adH h];rfl
structure UG (d:aW) (L:jA) (me:List (Int×List Int)) (f:bJ) (key:Int) (is:List Nat):Prop where
 ln:line d f=is.map (atR d)
 lt:∀j∈is,j<d.revs.length
 len:is.length≤512
 me:ai me key=some (is.map fun j:Nat=>(j:Int))
 act:∀j∈is,¬(atR d j).act=5
 fir:∀j∈is,first d (atR d j)=f
 fst:∀j∈is,L.fst.getD j 0=key
 ord:is.Pairwise (· <·)
 key:0≤key
 afN:∀j,is[0]? =some j→L.prev.getD j 0= -1
 prevS:∀(k j i:Nat),is[k]? =some j→is[k+1]? =some i→L.prev.getD i 0=(j:Int)
section
variable {d:aW} (hg:Good d.revs) (hN:d.revs.length≤512) {L:jA} {me:List (Int×List Int)} (hI:nT d d.revs.length L me)
include hg hN hI
theorem acS {i:Nat} {v:Rev} (hv:d.revs[i]? =some v) (v5:¬v.act=5):∃is,UG d L me (first d v) (L.fst.getD i 0) is∧i∈is:=by
 have hi:=(adK.1 hv).1
 have h0:=(hI.fm i v hi hv v5).1
 have hmem:∀j,j∈(List.range d.revs.length).filter (fun j=>decide (L.fst.getD j 0=L.fst.getD i 0))→j<d.revs.length∧¬(atR d j).act=5∧first d (atR d j)=first d v∧L.fst.getD j 0=L.fst.getD i 0:=by
  intro j hj
  rw[ahI,aht,aeB] at hj
  obtain⟨h1,h2⟩:=hj
  have hu:=jU h1
  have h5:¬(atR d j).act=5:=by
   intro h5
   rw[(hI.f5 j _ h1 hu h5).1] at h2
   omega
  exact⟨h1,h5,(yJ hg hN hI hu hv h5 v5).1 h2,h2⟩
 have hln:line d (first d v)=((List.range d.revs.length).filter fun j=>decide (L.fst.getD j 0=L.fst.getD i 0)).map (atR d):=by
  unfold line
  conv=>lhs;rw[NM d.revs ag]
  rw[List.filter_map]
  show((List.range d.revs.length).filter (o7 d (first d v)∘atR d)).map (atR d)=_
  congr 1
  refine aki fun j hj=>?_
  have hj:=aht.1 hj
  have hu:=jU hj
  simp only[Function.comp,o7]
  rw[ajx]
  simp only[afA,afU,agZ,aeB]
  constructor
  ·rintro⟨h5,hf⟩;exact(yJ hg hN hI hu hv h5 v5).2 hf
  ·intro h
   have:=hmem j (ahI.2 ⟨aht.2 hj,by simpa using h⟩)
   exact⟨this.2.1,this.2.2.1⟩
 have hord:((List.range d.revs.length).filter fun j=>decide (L.fst.getD j 0=L.fst.getD i 0)).Pairwise (· <·):=List.Pairwise.filter _ List.pairwise_lt_range
 have hin:i∈(List.range d.revs.length).filter fun j=>decide (L.fst.getD j 0=L.fst.getD i 0):=ahI.2 ⟨aht.2 hi,by simp⟩
 have hlen:((List.range d.revs.length).filter fun j=>decide (L.fst.getD j 0=L.fst.getD i 0)).length≤512:=ajo (ajy ..) (by simpa using hN)
 have hm:=hI.mem (L.fst.getD i 0) h0
 have hin2:∀j,j<d.revs.length→L.fst.getD j 0=L.fst.getD i 0→j∈(List.range d.revs.length).filter fun j=>decide (L.fst.getD j 0=L.fst.getD i 0):=fun j h1 h2=>ahI.2 ⟨aht.2 h1,by simpa using h2⟩
 generalize (List.range d.revs.length).filter (fun j=>decide (L.fst.getD j 0=L.fst.getD i 0))=is at hmem hln hord hin hm hlen hin2
 refine⟨is,⟨hln,fun j hj=>(hmem j hj).1,hlen,?_,fun j hj=>(hmem j hj).2.1,fun j hj=>(hmem j hj).2.2.1,fun j hj=>(hmem j hj).2.2.2,hord,h0,?_,?_⟩,hin⟩
 ·cases ha:ai me (L.fst.getD i 0) with
  |some l=>rw[ha] at hm;exact congrArg some hm
  |none=>
   rw[ha] at hm
   have:is=[]:=List.map_eq_nil_iff.1 hm.symm
   rw[this] at hin;cases hin
 ·intro j hj
  have hjm:=aem hj
  obtain⟨h1,h2,h3,h4⟩:=hmem j hjm
  rcases hI.pm j _ h1 (jU h1) h2 with⟨u,w,a1,a2,a3,a4,a5,a6,a7,a8⟩|⟨_,a2,_⟩
  ·exfalso
   have hu:=hin2 u (by omega) (by rw[←a8];exact h4)
   obtain⟨k,hk⟩:=af7 hu
   obtain⟨k1,k2⟩:=adK.1 hk
   obtain⟨z1,z2⟩:=adK.1 hj
   rcases Nat.eq_zero_or_pos k with rfl|hp
   ·rw[hj] at hk;cases hk;omega
   ·have:=ajV.1 hord 0 k z1 k1 hp
    omega
  ·exact a2
 ·intro k j i' hj hi'
  have hjm:=aem hj
  have him:=aem hi'
  obtain⟨h1,h2,h3,h4⟩:=hmem j hjm
  obtain⟨g1,g2,g3,g4⟩:=hmem i' him
  have e:=mY hg hN (first d v)
  have c1:(lZ d (first d v))[k]? =some (atR d j):=by rw[←e,hln,ag5,hj];rfl
  have c2:(lZ d (first d v))[k+1]? =some (atR d i'):=by rw[←e,hln,ag5,hi'];rfl
  have hnx:=WA d (first d v) k _ _ c1 c2
  obtain⟨_,n1,nb⟩:=(BK hg hN (jU g1)).1 hnx
  rcases hI.pm i' _ g1 (jU g1) g2 with⟨u,w,a1,a2,a3,a4,a5,a6,a7,a8⟩|⟨a1,_,_⟩
  ·have:=bP hg a3 (jU h1) (by rw[a5,nb])
   rw[a1,this]
  ·exact absurd a1 n1
theorem W9 {i:Nat} {v:Rev} (hv:d.revs[i]? =some v) (v5:¬v.act=5) (hl:aU d v.path=some v) {is:List Nat} (h:UG d L me (first d v) (L.fst.getD i 0) is) (hin:i∈is):0<is.length∧is[is.length-1]? =some i:=by
 obtain⟨j,j1,j2,j3⟩:=gZ hl
 have ej:j=i:=bP hg j1 hv rfl
 subst ej
 obtain⟨k,hk⟩:=af7 hin
 have hkl:=(adK.1 hk).1
 refine⟨by omega,?_⟩
 by_cases e:k=is.length-1
 ·rw[←e];exact hk
 ·exfalso
  have hk1:k+1<is.length:=by omega
  have hx:is[k+1]? =some is[k+1]:=adH hk1
  generalize is[k+1]=x at hx
  have hxm:=aem hx
  have hpv:=h.prevS k j x hk hx
  have g1:=h.lt x hxm
  have g2:=h.act x hxm
  have hlt:j<x:=by
   obtain⟨z1,z2⟩:=adK.1 hk
   obtain⟨y1,y2⟩:=adK.1 hx
   have:=ajV.1 h.ord k (k+1) z1 y1 (by omega)
   omega
  rcases hI.pm x _ g1 (jU g1) g2 with⟨u,w,a1,a2,a3,a4,a5,a6,a7,a8⟩|⟨_,a1,_⟩
  ·rw[hpv] at a1
   have e:u=j:=by omega
   subst e
   rw[hv] at a3;cases a3
   by_cases h4:(atR d x).act=4
   ·obtain⟨y,w,b1,b2,b3,b4⟩:=hg.away x _ (jU g1) h4
    have hb:di (atR d x)=⟨(atR d x).frm,(atR d x).fnum⟩:=by simp[di,h4]
    rw[hb] at a5
    simp only[fileOf,bJ.mk.injEq] at a5
    have hyu:=j3 y w b1 (by rw[b2];exact a5.1.symm)
    rcases ajE y u with hh|hh
    ·have:=(hg.path y u w v hh b1 hv (by rw[b2];exact a5.1.symm)).2
     omega
    ·have:y=u:=by omega
     subst this
     rw[hv] at b1;cases b1;exact v5 b4
   ·have hb:di (atR d x)=⟨(atR d x).path,(atR d x).num-1⟩:=by simp[di,h4,a6]
    rw[hb] at a5
    simp only[fileOf,bJ.mk.injEq] at a5
    have:=j3 x _ (jU g1) a5.1.symm
    omega
  ·rw[hpv] at a1;omega
end
end
section
open Go.Ab Tys
variable [Dr]
def z20.kk:=p13 kB Tryz.ntmps20 Tryz.underlying27 iH dM jQ kW yB qU mG ny iq Tryz.results20
open z20 in
theorem Yc (d:aW) (hd:d.revs.length≤1000000) (hb:∀v∈d.revs, -4000000000≤v.chg∧v.chg≤4000000000):AC Tryz.prog 20 [lT d] [] (fun r st=>r=I .i64 (d.revs.foldl (fun n v=>max n (v.chg+1)) 1)∧st=[]):=by
 have hfb:∀k,k≤d.revs.length→ -4000000001≤(d.revs.take k).foldl (fun n v=>max n (v.chg+1)) 1∧(d.revs.take k).foldl (fun n v=>max n (v.chg+1)) 1≤4000000001:=by
  intro k
  induction k with
  |zero=>intro _;simp
  |succ k ih=>
   intro hk
   rw[List.take_succ_eq_append_getElem (by omega),aj9]
   have h1:=ih (by omega)
   have h2:=hb _ (ajI (by omega:k<d.revs.length))
   simp only[List.foldl_cons,List.foldl_nil]
   omega
 refine df Tryz.func20 Tryz.ntmps20 fun x hx=>?_
 try refine nv ?_
 refine au (ι:=Nat) (I:=fun k=>⟨20,[(3,I .i64 ((d.revs.take k).foldl (fun n v=>max n (v.chg+1)) 1)),(7,qI d.revs),(8,I .i64 d.revs.length),(9,I .i64 k)],[]⟩)
  (Inv:=fun k=>k≤d.revs.length) (μ:=fun k=>d.revs.length-k) 0 (by omega) ?_ ?_
 ·exact bQ
 intro k hk
 have hf:=hfb k hk
 try refine nv ?_
 refine aj ?_ ?_
 ·intro hlt
  have hlt':k<d.revs.length:=by simpa using hlt
  obtain⟨v,hv,he,htk⟩:=round aA d.revs k ag hlt'
  have hvb:=hb v (aem hv)
  have hs:(d.revs.take (k+1)).foldl (fun n v=>max n (v.chg+1)) 1=max ((d.revs.take k).foldl (fun n v=>max n (v.chg+1)) 1) (v.chg+1):=by rw[htk,aj9];rfl
  generalize (d.revs.take k).foldl (fun n v=>max n (v.chg+1)) 1=M at hf hs⊢
  try refine nx @he ?_
  refine⟨k+1,by omega,by omega,?_⟩
  rw[hs]
  exact bQ
 intro hge
 have hk':k=d.revs.length:=by have:¬k<d.revs.length:=by simpa using hge
                              omega
 try refine nv ?_
 refine rA [] ?_
 refine⟨?_,rfl⟩
 rw[hk',afu]
end
end Go.Proofs.YtcpgicfphakdaaaGreatDoor
namespace Go.Ab
variable [Dr]
section
variable {P:Program} {x:X}
theorem uX {Q:Exit→S→Prop} {s:S} {ops l:List Oper} {d:Tmp} {T T':TypeId} {y:Operand} {ty:TypeId} {pos:String} {after:Array Edge} {k:IntKind} {n:Nat} (hd:d<s.n)
 (hy:ev s y=some (I k n)) (hn:dB k (((n/2:Nat):Int)))
 (hk:TO P x ops l ⟨s.n,put s.env d (I k ((n/2:Nat):Int)),s.st⟩ Q):TO P x ops (⟨some d, .binOp .shr T y (.const (.int .u64 1)) T',ty,pos,after,none⟩::l) s Q:=by
 rintro a w ⟨bl,cap,hs,henv,hdf,hsz⟩
 have h1:a.eval y= .int k n:=nC (fC henv hy)
 refine wpList_plain rfl fun K hK=>?_
 unfold Oper.wp
 have hrun:(execOp a.eval ⟨some d, .binOp .shr T y (.const (.int .u64 1)) T',ty,pos,after,none⟩).run P w= .ok (.value (.int k ((n/2:Nat):Int))) w:=by
  have e:Int.fdiv (n:Int) 2=((n/2:Nat):Int):=by rw[Int.fdiv_eq_ediv_of_nonneg _ (by omega)];simp
  have h2:a.eval (.const (.int .u64 1))= .int .u64 1:=rfl
  have h3:min (1:Int).toNat k.bits=1:=by cases k<;>rfl
  have h4:binOp .shr T (.int k n) (.int .u64 1)=pure (.int k ((n/2:Nat):Int)):=by
   rw[←e]
   simp[binOp,Op.shift,h3]
   cases k<;>rfl
  simp[execOp,h1,h2,eqGuard,h4]
 rw[hrun]
 exact hK _ _ (hk _ _ ⟨bl,cap,hs,henv.put (by rw[hsz];exact hd) (.v _ rfl),by rw[Act.put_defers];exact hdf,by rw[Act.iL];exact hsz⟩)
end
end Go.Ab
namespace Go.Proofs.YtcpgicfphakdaaaGreatDoor
open Go.Ab Tys
variable [Dr]
@[reducible] def wE:AV:= .c (.d (.v (.func (.func 68) #[] #[])))
@[reducible] def stA (l:List akK):List (Nat×AO):=[(46,ay 1 (l.map encS))]
def ajh.kk:=p6 kB Tryz.ntmps258 jy rZ jB Tryz.results258
open ajh in
theorem LD (P u w v S:List akK) (hv:u.length=v.length) (len a b n:Nat) (hlen:P.length+u.length+w.length+v.length+S.length=len) (hl:len≤1000000) (ha:a=P.length) (hb:b=P.length+u.length+w.length) (hn:n=u.length):
 AC Tryz.prog 258 [.c (.ms 46 1 0 len),I .i64 a,I .i64 b,I .i64 n,wE] (stA (P++(u++(w++(v++S))))) (fun _ st=>st=stA (P++(v++(w++(u++S))))):=by
 refine df Tryz.func258 Tryz.ntmps258 fun x hx=>?_
 try refine nv ?_
 refine au (ι:=Nat) (I:=fun k=>⟨38,[(0, .c (.ms 46 1 0 len)),(1,I .i64 a),(2,I .i64 b),(3,I .i64 n),(10,I .i64 k)],stA (yC P u w v S k)⟩)
  (Inv:=fun k=>k≤n) (μ:=fun k=>n-k) 0 (by omega) ?_ ?_
 ·rw[ZI]
  exact bQ
 intro k hk
 have hsl:=aaL (P:=P) (w:=w) (S:=S) (k:=k) (by omega) hv
 try refine nv ?_
 refine aj ?_ ?_
 rotate_left
 ·intro hge
  have hk':k=u.length:=by have:¬k<n:=by simpa using hge
                          omega
  subst hk'
  rw[acf hv]
  generalize P++(v++(w++(u++S)))=F
  try refine nv ?_
  refine rN ((stA F)) ?_
  rfl
 intro hlt
 have hlt':k<n:=by simpa using hlt
 have hj1:(((a:Nat):Int)+((k:Nat):Int)).toNat=a+k:=by omega
 have hj2:(((b:Nat):Int)+((k:Nat):Int)).toNat=b+k:=by omega
 obtain⟨s1,s2,s3⟩:=adf (P:=P) (u:=u) (w:=w) (v:=v) (S:=S) (k:=k) (i:=a+k) (j:=b+k) (by omega) hv (by omega) (by omega) noS
 have e1:=lI encS (yC P u w v S k) (a+k) noS (by omega)
 have e2:=lI encS (yC P u w v S k) (b+k) noS (by omega)
 rw[s1] at e1
 rw[s2] at e2
 generalize u.getD k noS=x0 at e1 s3
 generalize v.getD k noS=y0 at e2 s3
 generalize hT:yC P u w v S k=t at e1 e2 s3 hsl
 try refine nv ?_
 refine pM (wr:=false) ([]:List (Nat×AV)) (by kernel_rfl) (by simp only[kD,kk,Nat.reduceAdd,Nat.reduceLT,Nat.reduceEqDiff, ↓reduceIte,reduceCtorEq,hj1,hj2,e1,e2,Cb,CO];first|done|rfl) (by first|exact trivial|(simp only[kO];omega)|(simp[All,dB];first|done|omega)|(simp+contextual [All,dB];first|done|grind)) (by kernel_rfl) ?_
 try refine nv ?_
 refine⟨k+1,by omega,by omega,?_⟩
 rw[←s3]
 exact bQ
def ai4.kk:=p3 kB Tryz.ntmps239 Tryz.results239
open ai4 in
theorem adL (P u v S:List akK) (len a m b:Nat) (hu:0<u.length) (hv:0<v.length) (hlen:P.length+u.length+v.length+S.length=len) (hl:len≤1000000) (ha:a=P.length) (hm:m=P.length+u.length) (hb:b=P.length+u.length+v.length):
 AC Tryz.prog 239 [.c (.ms 46 1 0 len),I .i64 a,I .i64 m,I .i64 b,wE] (stA (P++(u++(v++S)))) (fun _ st=>st=stA (P++(v++(u++S)))):=by
 generalize hF:P++(v++(u++S))=F
 refine df Tryz.func239 Tryz.ntmps239 fun x hx=>?_
 try refine nv ?_
 refine au (ι:=List akK×List akK×List akK×List akK) (I:=fun q=>⟨58,[(0, .c (.ms 46 1 0 len)),(2,I .i64 m),(4,wE),(10,I .i64 q.2.1.length),(11,I .i64 q.2.2.1.length)],stA (q.1++(q.2.1++(q.2.2.1++q.2.2.2)))⟩)
  (Inv:=fun q=>0<q.2.1.length∧0<q.2.2.1.length∧q.1.length+q.2.1.length=m∧m+q.2.2.1.length+q.2.2.2.length=len∧q.1++(q.2.2.1++(q.2.1++q.2.2.2))=F) (μ:=fun q=>q.2.1.length+q.2.2.1.length) (P,u,v,S)
  ⟨hu,hv,by simp only;omega,by simp only;omega,hF⟩ ?_ ?_
 ·have c1:((m:Nat):Int)-((a:Nat):Int)=(u.length:Int):=by omega
  have c2:((b:Nat):Int)-((m:Nat):Int)=(v.length:Int):=by omega
  exact Dc (p2 @c1 @c2)
 rintro⟨P1,u1,v1,S1⟩ ⟨h1,h2,h3,h4,h5⟩
 simp only at h1 h2 h3 h4 h5⊢
 have c1:((m:Nat):Int)-(u1.length:Int)=((m-u1.length:Nat):Int):=by omega
 have hum:u1.length≤m:=by omega
 generalize hA:P1++(u1++(v1++S1))=A
 try refine nv ?_
 refine aj ?_ ?_
 ·intro hne
  have hne':¬u1.length=v1.length:=by intro e;rw[e] at hne;simp at hne
  try refine nv ?_
  refine aj ?_ ?_
  ·intro hgt
   have hgt':v1.length<u1.length:=by simpa using hgt
   have hsw:=LD P1 (u1.take v1.length) (u1.drop v1.length) v1 S1 (by simp;omega) len (m-u1.length) m v1.length (by simp;omega) hl (by omega) (by simp;omega) (by simp;omega)
   have eA:P1++(u1.take v1.length++(u1.drop v1.length++(v1++S1)))=A:=by rw[←hA,←ahJ (u1.take v1.length),agu]
   rw[eA] at hsw
   have eF:(P1++v1)++(u1.take v1.length++(u1.drop v1.length++S1))=F:=by rw[←h5,←ahJ (u1.take v1.length),agu,ahJ]
   have eB:P1++(v1++(u1.drop v1.length++(u1.take v1.length++S1)))=(P1++v1)++(u1.drop v1.length++(u1.take v1.length++S1)):=by rw[ahJ]
   rw[eB] at hsw
   have l1:(u1.take v1.length).length=v1.length:=by simp;omega
   have l2:(u1.drop v1.length).length=u1.length-v1.length:=by simp
   have c3:(u1.length:Int)-(v1.length:Int)=((u1.drop v1.length).length:Int):=by rw[l2];omega
   have c5:(v1.length:Int)=((u1.take v1.length).length:Int):=by rw[l1]
   generalize u1.take v1.length=x1 at hsw eF l1 c5
   generalize u1.drop v1.length=x2 at hsw eF l2 c3
   have l3:(P1++v1).length=P1.length+v1.length:=by simp
   generalize P1++v1=P2 at hsw eF l3
   generalize hB:P2++(x2++(x1++S1))=B at hsw
   try refine nx @c1 ?_
   refine nJ ((stA A)) (hsw) ?_
   rintro rv9 st' rfl<;>refine nP ?_
   try refine nv ?_
   refine⟨(P2,x2,x1,S1),⟨by simp only;omega,by simp only;omega,by simp only;omega,by simp only;omega,eF⟩,by simp only;omega,?_⟩
   simp only
   rw[hB]
   have c6:(u1.length:Int)-(x1.length:Int)=(x2.length:Int):=by omega
   exact Dc (p2 @c5 @c6)
  ·intro hgt
   have hgt':u1.length≤v1.length:=by have:¬v1.length<u1.length:=by simpa using hgt
                                     omega
   have hsw:=LD P1 u1 (v1.take (v1.length-u1.length)) (v1.drop (v1.length-u1.length)) S1 (by simp;omega) len (m-u1.length) (m+v1.length-u1.length) u1.length (by simp;omega) hl (by omega) (by simp;omega) rfl
   have eA:P1++(u1++(v1.take (v1.length-u1.length)++(v1.drop (v1.length-u1.length)++S1)))=A:=by rw[←hA,←ahJ (v1.take _),agu]
   rw[eA] at hsw
   have eF:P1++(v1.take (v1.length-u1.length)++(v1.drop (v1.length-u1.length)++(u1++S1)))=F:=by rw[←h5,←ahJ (v1.take _),agu]
   have l1:(v1.take (v1.length-u1.length)).length=v1.length-u1.length:=by simp
   have l2:(v1.drop (v1.length-u1.length)).length=u1.length:=by simp;omega
   have c3:(v1.length:Int)-(u1.length:Int)=((v1.take (v1.length-u1.length)).length:Int):=by rw[l1];omega
   have c4:((m:Nat):Int)+(v1.length:Int)-(u1.length:Int)=((m+v1.length-u1.length:Nat):Int):=by omega
   have c5:(u1.length:Int)=((v1.drop (v1.length-u1.length)).length:Int):=by rw[l2]
   generalize v1.take (v1.length-u1.length)=x1 at hsw eF l1 c3
   generalize v1.drop (v1.length-u1.length)=x2 at hsw eF l2 c5
   have l3:(u1++S1).length=u1.length+S1.length:=by simp
   generalize u1++S1=S2 at hsw eF l3
   generalize hB:P1++(x2++(x1++S2))=B at hsw
   try refine nx (p2 @c1 @c4) ?_
   refine nJ ((stA A)) (hsw) ?_
   rintro rv9 st' rfl<;>refine nP ?_
   try refine nv ?_
   refine⟨(P1,x2,x1,S2),⟨by simp only;omega,by simp only;omega,by simp only;omega,by simp only;omega,eF⟩,by simp only;omega,?_⟩
   simp only
   rw[hB]
   (refine bi (fun i=>i) rfl ?_ ⟨?_,?_,?_,bW hx (by simp[ae,Ab.get])⟩<;>first|(simp only[kE,ay, ↓reduceIte,Nat.reduceEqDiff,reduceCtorEq,c3,←c5];done)|simp[aH,ax,ah,Ab.get,aJ,cZ,aB,bF,aS,aO,aQ,aT,aP,ae,List.flatten,c3,←c5])
 intro heq
 have heq':u1.length=v1.length:=by
  simp at heq
  omega
 have hsw:=LD P1 u1 [] v1 S1 heq' len (m-u1.length) m u1.length (by simp;omega) hl (by omega) (by simp;omega) rfl
 simp only[List.nil_append] at hsw
 rw[hA,h5] at hsw
 try refine nx @c1 ?_
 refine nJ ((stA A)) (hsw) ?_
 rintro rv9 st' rfl<;>refine nP ?_
 try refine nv ?_
 refine rN ((stA F)) ?_
 rfl
end Go.Proofs.YtcpgicfphakdaaaGreatDoor
namespace Go.Ab
variable [Dr] {P:Program} {x:X} {s:S} {Q:Exit→S→Prop} {c:Code}
theorem adW (hQ:∀l s,Q (.goto l) s→False) (h:T P x c s Q):T P x (.scope c) s Q:=fun a w hs=>
 wp_scope_straight (wp_mono (h a w hs) fun e a w hq=>by
  cases e with
  |goto l=>obtain⟨s',h1,_⟩:=hq;exact hQ _ _ h1
  |_=>exact hq)
theorem aed {l:Nat} (h:Q .normal s):T P x (.label l) s Q:=fun a w hs=>wp_label ⟨s,h,hs⟩
omit [Dr] in
theorem Z9 {rs:List ResultVar} {R:AV→List (Nat×AO)→Prop}:∀l s,Tj P rs x R (.goto l) s→False:=fun l s h=>by
 rcases h.1 with h|h<;>cases h
end Go.Ab
namespace Go.Proofs.YtcpgicfphakdaaaGreatDoor
open Go.Ab Tys
variable [Dr]
def aiD:Option (List Int):=none
def ahV.kk:=p12 kB kM Tryz.ntmps133 Tryz.underlying91 QX J7 Qm KD mG IP aaJ Tryz.results133
open ahV in
theorem UQ (sets:List (Option (List Int))) (hn:sets.length≤100000000):AC Tryz.prog 133 [.c (.d (.ps 1 (sets.map jP)))] [] (fun r st=>(∃l,(∀k,k∈l↔∃o∈sets,k∈o.getD [])∧r= .c (.d (.pm (fG kN l))))∧st=[]):=by
 refine df Tryz.func133 Tryz.ntmps133 fun x hx=>?_
 try refine nv ?_
 refine au (ι:=Nat×List Int) (I:=fun i=>⟨24,[(3, .c (.mp 7)),(8, .c (.d (.ps 1 (sets.map jP)))),(9,I .i64 sets.length),(10,I .i64 i.1)],[(7,Wq kN i.2)]⟩)
  (Inv:=fun i=>i.1≤sets.length∧∀k,k∈i.2↔∃o∈sets.take i.1,k∈o.getD []) (μ:=fun i=>sets.length-i.1) (0,[]) ⟨by simp,by simp⟩ ?_ ?_
 ·exact bQ
 rintro⟨j,l⟩ ⟨hj,hl⟩
 simp only at hj hl⊢
 try refine nv ?_
 refine aj ?_ ?_
 ·intro hlt
  have hlt':j<sets.length:=by simpa using hlt
  obtain⟨o,ho,he,htk⟩:=round jP sets j aiD hlt'
  cases o with
  |none=>
   try refine nx @he ?_
   refine au (ι:=Option jq×List Int×List Int) (I:=fun i=>⟨24,[(3, .c (.mp 7)),(8, .c (.d (.ps 1 (sets.map jP)))),(9,I .i64 sets.length),(10,I .i64 j),(15, .c (.ptr 15 0))],[(7,Wq kN i.2.2),(15, .iter i.1 (fG kN i.2.1))]⟩)
    (Inv:=fun i=>∀k,(k∈i.2.2∨k∈i.2.1)↔(k∈l∨k∈Option.getD (none:Option (List Int)) [])) (μ:=fun i=>i.2.1.length) (none,[],l) (by simp) ?_ ?_
   ·exact bQ
   rintro⟨cur,rest,m⟩ h
   simp only at h⊢
   refine aZ ?_
   refine yM (id:=15) (by simp) (by simp only[kV, ↓reduceIte,Nat.reduceEqDiff,reduceCtorEq];first|done|rfl) rfl ?_ ?_
   ·intro h0
    refine fE ?_
    try refine nv ?_
    refine aj ?_ ?_
    ·intro hh;cases hh
    intro _
    try refine nv ?_
    have:rest=[]:=by simpa[fG] using h0
    subst this
    refine⟨(j+1,m),⟨by simp;omega,?_⟩,by simp;omega,?_⟩
    ·intro k
     have hk:=h k
     simp only[agW,ajr] at hk
     rw[hk,hl k,htk]
     simp
    ·exact bQ
   intro l1 e l2 hsp
   obtain⟨xs,k,y,rfl,rfl,rfl,rfl⟩:=tY hsp
   refine fE ?_
   (repeat (first|refine Io ?_|refine Gl (wr:=false) (by simp only[kk,Nat.reduceAdd,Nat.reduceLT,Nat.reduceEqDiff, ↓reduceIte,reduceCtorEq,jY];first|done|rfl) ?_))
   refine aj ?_ ?_
   rotate_left
   ·intro hh;cases hh
   intro _
   (repeat (first|refine Io ?_|refine Gl (wr:=false) (by simp only[kk,Nat.reduceAdd,Nat.reduceLT,Nat.reduceEqDiff, ↓reduceIte,reduceCtorEq,jY];first|done|rfl) ?_))
   refine gy @Yo ?_ ?_
   ·exact eQ (ZB m)
   try refine nv ?_
   refine⟨(some (kN k,(false,[.v (.bool true)])),xs++y,qO m k),?_,by simp,?_⟩
   ·intro i
    rw[←h i,wW]
    simp only[afs,afr]
    constructor
    ·rintro((h|h)|h|h)
     ·exact .inl h
     ·exact .inr (.inr (.inl h))
     ·exact .inr (.inl h)
     ·exact .inr (.inr (.inr h))
    ·rintro(h|h|h|h)
     ·exact .inl (.inl h)
     ·exact .inr (.inl h)
     ·exact .inl (.inr h)
     ·exact .inr (.inr h)
   ·exact bQ
  |some t=>
   try refine nx @he ?_
   refine au (ι:=Option jq×List Int×List Int) (I:=fun i=>⟨24,[(3, .c (.mp 7)),(8, .c (.d (.ps 1 (sets.map jP)))),(9,I .i64 sets.length),(10,I .i64 j),(15, .c (.ptr 15 0))],[(7,Wq kN i.2.2),(15, .iter i.1 (fG kN i.2.1))]⟩)
    (Inv:=fun i=>∀k,(k∈i.2.2∨k∈i.2.1)↔(k∈l∨k∈Option.getD (some t) [])) (μ:=fun i=>i.2.1.length) (none,t,l) (by simp) ?_ ?_
   ·exact bQ
   rintro⟨cur,rest,m⟩ h
   simp only at h⊢
   refine aZ ?_
   refine yM (id:=15) (by simp) (by simp only[kV, ↓reduceIte,Nat.reduceEqDiff,reduceCtorEq];first|done|rfl) rfl ?_ ?_
   ·intro h0
    refine fE ?_
    try refine nv ?_
    refine aj ?_ ?_
    ·intro hh;cases hh
    intro _
    try refine nv ?_
    have:rest=[]:=by simpa[fG] using h0
    subst this
    refine⟨(j+1,m),⟨by simp;omega,?_⟩,by simp;omega,?_⟩
    ·intro k
     have hk:=h k
     simp only[agW,ajr] at hk
     rw[hk,hl k,htk]
     simp
    ·exact bQ
   intro l1 e l2 hsp
   obtain⟨xs,k,y,rfl,rfl,rfl,rfl⟩:=tY hsp
   refine fE ?_
   (repeat (first|refine Io ?_|refine Gl (wr:=false) (by simp only[kk,Nat.reduceAdd,Nat.reduceLT,Nat.reduceEqDiff, ↓reduceIte,reduceCtorEq,jY];first|done|rfl) ?_))
   refine aj ?_ ?_
   rotate_left
   ·intro hh;cases hh
   intro _
   (repeat (first|refine Io ?_|refine Gl (wr:=false) (by simp only[kk,Nat.reduceAdd,Nat.reduceLT,Nat.reduceEqDiff, ↓reduceIte,reduceCtorEq,jY];first|done|rfl) ?_))
   refine gy @Yo ?_ ?_
   ·exact eQ (ZB m)
   try refine nv ?_
   refine⟨(some (kN k,(false,[.v (.bool true)])),xs++y,qO m k),?_,by simp,?_⟩
   ·intro i
    rw[←h i,wW]
    simp only[afs,afr]
    constructor
    ·rintro((h|h)|h|h)
     ·exact .inl h
     ·exact .inr (.inr (.inl h))
     ·exact .inr (.inl h)
     ·exact .inr (.inr (.inr h))
    ·rintro(h|h|h|h)
     ·exact .inl (.inl h)
     ·exact .inr (.inl h)
     ·exact .inl (.inr h)
     ·exact .inr (.inr h)
   ·exact bQ
 intro hge
 have hge':j=sets.length:=by have:¬j<sets.length:=by simpa using hge
                             omega
 rw[hge',afu] at hl
 refine aZ ?_
 refine bC (iO (i:=3) (id:=7) (es:=fG kN l) rfl rfl) ?_
 refine fE ?_
 try refine nv ?_
 refine rA [] ?_
 refine⟨?_,rfl⟩
 exact⟨l,hl,rfl⟩
theorem look0 (k:List C):dC k []=none:=rfl
theorem UI {κ:Type} (p:κ→Bool) (x:List κ) (k:κ) (y:List κ):(x++k::y).all p=(p k&&(x++y).all p):=by
 simp only[ajY,List.all_cons]
 cases x.all p<;>cases p k<;>cases y.all p<;>rfl
def z97.kk:=p9 kB kM Tryz.ntmps97 J7 Qm KD mG IP Tryz.results97
open z97 in
theorem YN (l m:List Int):AC Tryz.prog 97 [.c (.d (.pm (fG kN l))), .c (.d (.pm (fG kN m)))] [] (fun r st=>r=B (Zy l m)∧st=[]):=by
 refine df Tryz.func97 Tryz.ntmps97 fun x hx=>?_
 try refine nv ?_
 refine au (ι:=Option jq×List Int) (I:=fun i=>⟨16,[(1, .c (.d (.pm (fG kN m)))),(7, .c (.ptr 7 0))],[(7, .iter i.1 (fG kN i.2))]⟩) (Inv:=fun i=>Zy l m=i.2.all (fun k=>decide (k∈m))) (μ:=fun i=>i.2.length) (none,l) rfl ?_ ?_
 ·exact bQ
 rintro⟨cur,rest⟩ h
 simp only at h⊢
 refine aZ ?_
 refine yM (id:=7) (by simp) (by simp only[kV, ↓reduceIte,Nat.reduceEqDiff,reduceCtorEq];first|done|rfl) rfl ?_ ?_
 ·intro h0
  refine fE ?_
  try refine nv ?_
  refine aj ?_ ?_
  ·intro hh;cases hh
  intro _
  try refine nv ?_
  refine rA [] ?_
  refine⟨?_,rfl⟩
  have:rest=[]:=by simpa[fG] using h0
  rw[h,this];rfl
 intro l1 e l2 hsp
 obtain⟨xs,k,y,rfl,rfl,rfl,rfl⟩:=tY hsp
 refine fE ?_
 (repeat (first|refine Io ?_|refine Gl (wr:=false) (by simp only[kk,Nat.reduceAdd,Nat.reduceLT,Nat.reduceEqDiff, ↓reduceIte,reduceCtorEq,jY];first|done|rfl) ?_))
 refine aj ?_ ?_
 rotate_left
 ·intro hh;cases hh
 intro _
 (repeat (first|refine Io ?_|refine Gl (wr:=false) (by simp only[kk,Nat.reduceAdd,Nat.reduceLT,Nat.reduceEqDiff, ↓reduceIte,reduceCtorEq,jY];first|done|rfl) ?_))
 refine gy @ab6 ?_ ?_
 ·exact eQ (ZB m)
 try refine nv ?_
 refine aj ?_ ?_
 ·intro hk
  try refine nv ?_
  refine rA [] ?_
  refine⟨?_,rfl⟩
  rw[h,UI]
  simp at hk
  simp[hk]
 ·intro hk
  try refine nv ?_
  refine⟨(some (kN k,(false,[.v (.bool true)])),xs++y),?_,by simp,?_⟩
  ·rw[h,UI]
   simp at hk
   simp[hk]
  ·exact bQ
def aiV.kk:=p9 kB kM Tryz.ntmps134 J7 Qm KD mG IP Tryz.results134
open aiV in
theorem Vt (l:List Int) (t:Option (List Int)):AC Tryz.prog 134 [.c (.d (.pm (fG kN l))), .c (.d (TZ kN t))] [] (fun r st=>(∃m,(∀k,k∈m↔k∈l∧¬k∈t.getD [])∧r= .c (.d (.pm (fG kN m))))∧st=[]):=by
 refine df Tryz.func134 Tryz.ntmps134 fun x hx=>?_
 cases t with
 |none=>
  try refine nv ?_
  refine au (ι:=Option jq×List Int×List Int) (I:=fun i=>⟨21,[(1, .c (.d (TZ kN none))),(5, .c (.mp 7)),(9, .c (.ptr 9 0))],[(7,Wq kN i.2.2),(9, .iter i.1 (fG kN i.2.1))]⟩)
   (Inv:=fun i=>∀k,(k∈i.2.2∨k∈i.2.1∧¬k∈Option.getD (none:Option (List Int)) [])↔(k∈l∧¬k∈Option.getD (none:Option (List Int)) [])) (μ:=fun i=>i.2.1.length) (none,l,[]) (by simp) ?_ ?_
  ·exact bQ
  rintro⟨cur,rest,m⟩ h
  simp only at h⊢
  refine aZ ?_
  refine yM (id:=9) (by simp) (by simp only[kV, ↓reduceIte,Nat.reduceEqDiff,reduceCtorEq];first|done|rfl) rfl ?_ ?_
  ·intro h0
   refine fE ?_
   try refine nv ?_
   refine aj ?_ ?_
   ·intro hh;cases hh
   intro _
   refine aZ ?_
   refine bC (iO (i:=5) (id:=7) (es:=fG kN m) rfl rfl) ?_
   refine fE ?_
   try refine nv ?_
   refine rA [] ?_
   refine⟨?_,rfl⟩
   have:rest=[]:=by simpa[fG] using h0
   subst this
   exact⟨m,fun k=>by have:=h k;simpa using this,rfl⟩
  intro l1 e l2 hsp
  obtain⟨xs,k,y,rfl,rfl,rfl,rfl⟩:=tY hsp
  refine fE ?_
  (repeat (first|refine Io ?_|refine Gl (wr:=false) (by simp only[kk,Nat.reduceAdd,Nat.reduceLT,Nat.reduceEqDiff, ↓reduceIte,reduceCtorEq,jY];first|done|rfl) ?_))
  refine aj ?_ ?_
  rotate_left
  ·intro hh;cases hh
  intro _
  (repeat (first|refine Io ?_|refine Gl (wr:=false) (by simp only[kk,Nat.reduceAdd,Nat.reduceLT,Nat.reduceEqDiff, ↓reduceIte,reduceCtorEq,jY];first|done|rfl) ?_))
  refine gy @look0 ?_ ?_
  ·simp only[All,List.cons_append,List.nil_append,dB,afr,agW,ajr,forall_eq_or_imp,forall_eq,aJ,aB,cZ,aV,bT,ahu,ajG,implies_true,ae1,List.length_cons,List.length_nil,ay,jT,cu]
   repeat' (first|exact trivial|exact by simp|refine And.intro ?_ ?_|intro _|assumption|rfl|omega|(rw[afU];assumption)|(simp;done)|(simp only[aeB] at*;omega)|(simp_all;done))
  refine aZ ?_
  refine aj ?_ ?_
  ·intro _
   have hk':¬k∈Option.getD (none:Option (List Int)) []:=by simp
   try refine nv ?_
   refine gy @Yo ?_ ?_
   ·exact eQ (ZB m)
   try refine nv ?_
   refine⟨(some (kN k,(false,[.v (.bool true)])),xs++y,qO m k),?_,by simp,?_⟩
   ·intro i
    rw[←h i,wW]
    simp only[afs,afr]
    constructor
    ·rintro((h|rfl)|⟨h|h,g⟩)
     ·exact .inl h
     ·exact .inr ⟨.inr (.inl rfl),hk'⟩
     ·exact .inr ⟨.inl h,g⟩
     ·exact .inr ⟨.inr (.inr h),g⟩
    ·rintro(h|⟨h|h|h,g⟩)
     ·exact .inl (.inl h)
     ·exact .inr ⟨.inl h,g⟩
     ·exact .inl (.inr h)
     ·exact .inr ⟨.inr h,g⟩
   ·exact bQ
  ·intro hh;cases hh
 |some t=>
  try refine nv ?_
  refine au (ι:=Option jq×List Int×List Int) (I:=fun i=>⟨21,[(1, .c (.d (TZ kN (some t)))),(5, .c (.mp 7)),(9, .c (.ptr 9 0))],[(7,Wq kN i.2.2),(9, .iter i.1 (fG kN i.2.1))]⟩)
   (Inv:=fun i=>∀k,(k∈i.2.2∨k∈i.2.1∧¬k∈Option.getD (some t) [])↔(k∈l∧¬k∈Option.getD (some t) [])) (μ:=fun i=>i.2.1.length) (none,l,[]) (by simp) ?_ ?_
  ·exact bQ
  rintro⟨cur,rest,m⟩ h
  simp only at h⊢
  refine aZ ?_
  refine yM (id:=9) (by simp) (by simp only[kV, ↓reduceIte,Nat.reduceEqDiff,reduceCtorEq];first|done|rfl) rfl ?_ ?_
  ·intro h0
   refine fE ?_
   try refine nv ?_
   refine aj ?_ ?_
   ·intro hh;cases hh
   intro _
   refine aZ ?_
   refine bC (iO (i:=5) (id:=7) (es:=fG kN m) rfl rfl) ?_
   refine fE ?_
   try refine nv ?_
   refine rA [] ?_
   refine⟨?_,rfl⟩
   have:rest=[]:=by simpa[fG] using h0
   subst this
   exact⟨m,fun k=>by have:=h k;simpa using this,rfl⟩
  intro l1 e l2 hsp
  obtain⟨xs,k,y,rfl,rfl,rfl,rfl⟩:=tY hsp
  refine fE ?_
  (repeat (first|refine Io ?_|refine Gl (wr:=false) (by simp only[kk,Nat.reduceAdd,Nat.reduceLT,Nat.reduceEqDiff, ↓reduceIte,reduceCtorEq,jY];first|done|rfl) ?_))
  refine aj ?_ ?_
  rotate_left
  ·intro hh;cases hh
  intro _
  (repeat (first|refine Io ?_|refine Gl (wr:=false) (by simp only[kk,Nat.reduceAdd,Nat.reduceLT,Nat.reduceEqDiff, ↓reduceIte,reduceCtorEq,jY];first|done|rfl) ?_))
  refine gy @ab6 ?_ ?_
  ·exact eQ (ZB t)
  refine aZ ?_
  refine aj ?_ ?_
  ·intro hk
   have hk':¬k∈Option.getD (some t) []:=by simpa using hk
   try refine nv ?_
   refine gy @Yo ?_ ?_
   ·exact eQ (ZB m)
   try refine nv ?_
   refine⟨(some (kN k,(false,[.v (.bool true)])),xs++y,qO m k),?_,by simp,?_⟩
   ·intro i
    rw[←h i,wW]
    simp only[afs,afr]
    constructor
    ·rintro((h|rfl)|⟨h|h,g⟩)
     ·exact .inl h
     ·exact .inr ⟨.inr (.inl rfl),hk'⟩
     ·exact .inr ⟨.inl h,g⟩
     ·exact .inr ⟨.inr (.inr h),g⟩
    ·rintro(h|⟨h|h|h,g⟩)
     ·exact .inl (.inl h)
     ·exact .inr ⟨.inl h,g⟩
     ·exact .inl (.inr h)
     ·exact .inr ⟨.inr h,g⟩
   ·exact bQ
  ·intro hk
   have hk':k∈Option.getD (some t) []:=by simpa using hk
   try refine nv ?_
   refine⟨(some (kN k,(false,[.v (.bool true)])),xs++y,m),?_,by simp,?_⟩
   ·intro i
    rw[←h i]
    simp only[afs,afr]
    constructor
    ·rintro(h|⟨h|h,g⟩)
     ·exact .inl h
     ·exact .inr ⟨.inl h,g⟩
     ·exact .inr ⟨.inr (.inr h),g⟩
    ·rintro(h|⟨h|rfl|h,g⟩)
     ·exact .inl h
     ·exact .inr ⟨.inl h,g⟩
     ·exact absurd hk' g
     ·exact .inr ⟨.inr h,g⟩
   ·exact bQ
theorem DK {d:aW} {t:jo} {ch:Int} {w:y9} (hf:mf d t=true) (h:(iD t.kind ch&&lC t ch w)=false):Qw d t ch w= .tup [VM,VM,pI 171]:=by
 simp[Qw,hf,h]
theorem D6 {d:aW} {t:jo} {ch:Int} {w:y9} (hf:mf d t=true) (h1:iD t.kind ch=true) (h2:lC t ch w=true):Qw d t ch w= .tup [(false,[.d (.ps 12 ((iy d t ch w).map bK))]),(false,[.d (.ps 6 [af (dI d t ch w)])]),pI 0]:=by
 simp[Qw,hf,h1,h2]
end Go.Proofs.YtcpgicfphakdaaaGreatDoor
