/- A part of the proof. -/
import Derived.Test.YtpoodoknkbojgaaGreatDoorRAbFv
import Derived.Test.YtpoodoknkbojgaaGreatDoorRAbJn
set_option linter.all false
namespace Go.Proofs.YtpoodoknkbojgaaGreatDoor
section
open Go.Ab
def Gp (A B:SS):Prop:=(∀g,A.car g↔B.car g)∧(∀g,A.con g↔B.con g)∧(∀g,A.cre g↔B.cre g)
theorem Gp.refl (A:SS):Gp A A:=⟨fun _=>Iff.rfl,fun _=>Iff.rfl,fun _=>Iff.rfl⟩
theorem Gp.trans {A B C:SS} (h:Gp A B) (k:Gp B C):Gp A C:=⟨fun g=>(h.1 g).trans (k.1 g),fun g=>(h.2.1 g).trans (k.2.1 g),fun g=>(h.2.2 g).trans (k.2.2 g)⟩
theorem Gp.symm {A B:SS} (h:Gp A B):Gp B A:=⟨fun g=>(h.1 g).symm,fun g=>(h.2.1 g).symm,fun g=>(h.2.2 g).symm⟩
theorem Qs {α:Type} (l:List α) (i j:Nat) (z:α) (hi:i<l.length) (hj:j<l.length):((l.set i (l.getD j z)).set j (l.getD i z)).Perm l:=by
 have:=List.set_set_perm hi hj
 simpa[List.getD,hi,hj] using this
theorem CX:∀(k:Nat) (l:List iI),k<l.length→(yh k l).Perm l
 |0,l,_=>List.Perm.refl _
 |k+1,l,h=>by
  rw[yh]
  split
  ·exact(CX k _ (by simp;omega)).trans (Qs l (k+1) k vT h (by omega))
  ·exact List.Perm.refl _
theorem Ci (l:List iI):∀k,k≤l.length→(D8 l k).Perm l
 |0,_=>List.Perm.refl _
 |k+1,h=>(CX k _ (by rw[ry];omega)).trans (Ci l k (by omega))
theorem xM (l:List iI) (r:iI):r∈LY l↔r∈l:=(Ci l l.length (aat _)).mem_iff
section
variable {d:gI} {c:xY} (hg:Good d.revs) (hN:d.revs.length≤512) (hk:Aw d c)
include hg hN hk
theorem zU {i:Nat} (hi:i<d.revs.length):(jm d c).revs[i]? =d.revs[i]?:=by
 simp only[jm];rw[aa7 hi]
theorem Oa {a:Nat} (ha:a<c.edits.length):(jm d c).revs[d.revs.length+a]? =some (made c (c.edits.getD a dP)):=by
 simp only[jm]
 rw[abp (by omega),abd,aaH,aab ha]
 simp[List.getD,ha]
theorem TD {i a:Nat} {v:Rev} (hv:d.revs[i]? =some v) (ha:a<c.edits.length):fileOf v≠fileOf (made c (c.edits.getD a dP)):=by
 intro e
 have hi:=(aal.1 hv).1
 have:=rQ (Ib hg hN hk) (by rw[zU hg hN hk hi];exact hv) (Oa hg hN hk ha) e
 omega
theorem Tq {i:Nat} {v:Rev} (hv:d.revs[i]? =some v) (r:iI):r∈Aj (jm d c) (fileOf v)↔r∈Aj d (fileOf v):=by
 simp only[Aj,aaU,jm,xM,aay,aae]
 constructor
 ·rintro⟨h|h,e⟩
  ·exact⟨h,e⟩
  ·exfalso
   obtain⟨j,hj,er⟩:=aaL.1 h
   have h0:=hk.recd j hj
   rw[show c.recs.getD j vT=r by simp[List.getD,hj,er]] at h0
   obtain⟨x,hx,⟨t1,t2,t3⟩,_⟩:=h0.okTgt
   obtain⟨a,ha,ea⟩:=aaL.1 hx
   have hx':c.edits.getD a dP=x:=by simp[List.getD,ha,ea]
   refine TD hg hN hk hv ha ?_
   rw[hx',←e]
   simp only[fileOf,made,t1,t2]
 ·rintro⟨h,e⟩;exact⟨.inl h,e⟩
end
def P7 (d:gI):Prop:=∀r∈d.recs,∃v∈d.revs,fileOf v=⟨r.to,r.num⟩
theorem Sz {d:gI} {c:xY} (h:P7 d) (hk:Aw d c):P7 (jm d c):=by
 intro r hr
 simp only[jm,xM,aay] at hr
 rcases hr with hr|hr
 ·obtain⟨v,h1,h2⟩:=h r hr
  exact⟨v,by simp[jm,h1],h2⟩
 ·obtain⟨j,hj,er⟩:=aaL.1 hr
  have h0:=hk.recd j hj
  rw[show c.recs.getD j vT=r by simp[List.getD,hj,er]] at h0
  obtain⟨x,hx,⟨t1,t2,t3⟩,_⟩:=h0.okTgt
  exact⟨made c x,by simp only[jm,aay,aaD];exact .inr ⟨x,hx,rfl⟩,by simp only[fileOf,made,t1,t2]⟩
theorem lI.to {l:List xY} {d:gI} (h:lI l d):P7 d:=by
 induction h with
 |nil=>intro r hr;simp[Tz] at hr
 |skip c h ih=>exact ih
 |app h hc hk ih=>exact Sz ih hk
section
variable {d:gI} {c:xY} (hg:Good d.revs) (hN:d.revs.length≤512) (hk:Aw d c)
include hg hN hk
theorem Gs (ht:P7 d) {a:Nat} (ha:a<c.edits.length) (r:iI):r∈Aj (jm d c) (fileOf (made c (c.edits.getD a dP)))↔r∈c.recs∧(⟨r.to,r.num⟩:Dw)=fileOf (made c (c.edits.getD a dP)):=by
 simp only[Aj,aaU,jm,xM,aay,aae]
 constructor
 ·rintro⟨h|h,e⟩
  ·exfalso
   obtain⟨v,h1,h2⟩:=ht r h
   obtain⟨i,hi⟩:=aaX h1
   exact TD hg hN hk hi ha (h2.trans e)
  ·exact⟨h,e⟩
 ·rintro⟨h,e⟩;exact⟨.inr h,e⟩
end
section
variable {d:gI} (hg:Good d.revs) (hN:d.revs.length≤512)
include hg hN
end
structure TJ where
 kind:Int
 lpath:abW
 lnum:Int
 frm:abW
 first:Int
 last:Int
 to:abW
 head:Int
 bpath:abW
 bnum:Int
 move:abW
def TJ.line (t:TJ):Dw:=⟨t.lpath,t.lnum⟩
@[reducible] def noS:abW:={data:= #[]}
def uG (p:abW):Bool:=(iE p).isSome&&decide (p.size≤200)
def ZG (d:gI) (p:abW) (n:Int):Option Dw:=(GN d p n).map (first d)
def VJ (d:gI) (t:TJ):Prop:=∀n:Int,t.first≤n→n≤t.last→ZG d t.frm n=some t.line
def Uo (d:gI) (t:TJ):Rev:=(zi d t.frm t.last).getD Ox
def Qv (d:gI) (t:TJ):Bool:=decide ((Uo d t).act=3)
def Wu (d:gI) (t:TJ):Bool:=decide (t.move=noS)||(uG t.move&&!live d t.move&&!decide (t.move=t.to))
def RV (d:gI) (t:TJ):Bool:=if t.kind=1 then !live d t.to&&!Qv d t&&decide (t.move=noS) else live d t.to&&!decide (ZG d t.to t.head=some t.line)&&(Qv d t==decide (t.kind=3))&&Wu d t
structure Fits (d:gI) (t:TJ):Prop where
 kind:1≤t.kind∧t.kind≤3
 lo:1≤t.first
 le:t.first≤t.last
 run:VJ d t
 use:uG t.to=true
 head:dU d t.to=t.head
 rest:RV d t=true
def yc (d:gI):Prop:=∀v∈d.revs,v.num≤(log d v.path).length
theorem yc.last {d:gI} (h:yc d) (p:abW):dU d p≤(log d p).length:=by
 unfold dU
 cases hl:yB d p with
 |none=>simp[Ox]
 |some v=>
  obtain⟨j,h1,h2,_⟩:=qR hl
  have:=h v (aah h1)
  rw[h2] at this;exact this
theorem Pg {d:gI} {c:xY} (hg:Good d.revs) (hN:d.revs.length≤512) (h:yc d) (hk:Aw d c):yc (jm d c):=by
 intro v hv
 have hlog:(log (jm d c) v.path).length=(log d v.path).length+((c.edits.map (made c)).filter fun u=>decide (u.path=v.path)).length:=by
  simp only[log,jm,abx,aan]
 simp only[jm,aay] at hv
 rcases hv with hv|hv
 ·have:=h v hv;rw[hlog];omega
 ·have hpos:0<((c.edits.map (made c)).filter fun u=>decide (u.path=v.path)).length:=List.length_pos_of_mem (aaU.2 ⟨hv,by simp⟩)
  obtain⟨e,he,rfl⟩:=aaD.1 hv
  obtain⟨i,hi,e2⟩:=aaL.1 he
  have hE:=hk.edit i hi
  rw[show c.edits.getD i dP=e by simp[List.getD,hi,e2]] at hE
  have h1:=hE.okPrev
  have h2:=uw hg e.path
  have h3:=h.last e.path
  have hw:wr (e.prev+1)=e.prev+1:=SX (by omega) (by omega)
  rw[hlog]
  simp only[made] at hpos⊢
  rw[hw]
  omega
theorem lI.Yk {l:List xY} {d:gI} (h:lI l d):yc d:=by
 induction h with
 |nil=>intro r hr;simp[Tz] at hr
 |skip c h ih=>exact ih
 |app h hc hk ih=>exact Pg h.good h.ok.1 ih hk
theorem Gl {l:List Rev} (h:l.Pairwise fun u v=>u.num<v.num):∀{j i:Nat} {u v:Rev},i≤j→l[i]? =some u→l[j]? =some v→u.num+((j:Int)-i)≤v.num
 |0,i,u,v,hij,hu,hv=>by
  have:i=0:=by omega
  subst this;rw[hu] at hv;cases hv;omega
 |j+1,i,u,v,hij,hu,hv=>by
  by_cases e:i=j+1
  ·subst e;rw[hu] at hv;cases hv;omega
  ·obtain⟨hj,ev⟩:=aal.1 hv
   have hw:l[j]? =some l[j]:=aab (by omega)
   have ih:=Gl h (j:=j) (by omega) hu hw
   have:=(List.pairwise_iff_getElem.1 h) j (j+1) (by omega) hj (by omega)
   rw[ev] at this
   omega
theorem Tt {d:gI} (hg:Good d.revs) (p:abW):(log d p).Pairwise fun u v=>u.num<v.num:=by
 have h0:d.revs.Pairwise fun u v=>u.path=v.path→u.num<v.num:=
  List.pairwise_iff_getElem.2 fun i j hi hj hij e=>(hg.path i j _ _ hij (aab hi) (aab hj) e).2
 refine(h0.filter (fun v=>decide (v.path=p))).imp_of_mem ?_
 intro u v hu hv h
 have h1:=(aaU.1 hu).2
 have h2:=(aaU.1 hv).2
 simp only[aae] at h1 h2
 exact h (by rw[h1,h2])
theorem UW {d:gI} (hg:Good d.revs) (hn:yc d) (p:abW) {i:Nat} {v:Rev} (hv:(log d p)[i]? =some v):v.num=(i:Int)+1:=by
 have hp:=Tt hg p
 have hi:=(aal.1 hv).1
 have mem:∀{k:Nat} {u:Rev},(log d p)[k]? =some u→1≤u.num∧u.num≤(log d p).length:=by
  intro k u hu
  have hm:=aah hu
  obtain⟨h1,h2⟩:=aaU.1 hm
  simp only[aae] at h2
  obtain⟨j,hj⟩:=aaX h1
  have:=hg.num j u hj
  have h3:=hn u h1
  rw[h2] at h3
  omega
 have h0:(log d p)[0]? =some (log d p)[0]:=aab (by omega)
 have hl:(log d p)[(log d p).length-1]? =some (log d p)[(log d p).length-1]:=aab (by omega)
 have a:=Gl hp (by omega) h0 hv
 have b:=Gl hp (by omega) hv hl
 have c:=mem h0
 have e:=mem hl
 omega
theorem PM {d:gI} (hg:Good d.revs) (hn:yc d) {p:abW} {n:Int} (h1:1≤n) (h2:n≤(log d p).length):∃v,zi d p n=some v:=by
 have hi:(n-1).toNat<(log d p).length:=by omega
 have hv:(log d p)[(n-1).toNat]? =some (log d p)[(n-1).toNat]:=aab hi
 have:=UW hg hn p hv
 cases hf:zi d p n with
 |some v=>exact⟨v,rfl⟩
 |none=>
  exfalso
  have h3:=List.find?_eq_none.1 hf _ (aah hv)
  simp only[aae] at h3
  omega
def N8 (d:gI):Prop:=∀(k:Nat) (v:Rev),d.revs[k]? =some v→∀r∈Aj d (fileOf v),1≤r.first∧r.first≤r.last∧1≤r.how∧r.how≤4∧
 ∀n,r.first≤n→n≤r.last→∃(j:Nat) (u:Rev),j<k∧d.revs[j]? =some u∧fileOf u=⟨r.frm,n⟩∧¬u.act=5
theorem O0 {d:gI} {c:xY} (hg:Good d.revs) (hN:d.revs.length≤512) (ht:P7 d) (hn:yc d) (h:N8 d) (hk:Aw d c):N8 (jm d c):=by
 intro k v hv r hr
 rcases aaT k d.revs.length with hlt|hge
 ·rw[zU hg hN hk hlt] at hv
  obtain⟨a1,a2,a3,a4,a5⟩:=h k v hv r ((Tq hg hN hk hv r).1 hr)
  refine⟨a1,a2,a3,a4,fun n n1 n2=>?_⟩
  obtain⟨j,u,j1,j2,j3,j4⟩:=a5 n n1 n2
  exact⟨j,u,j1,by rw[zU hg hN hk (by omega)];exact j2,j3,j4⟩
 ·obtain⟨a,rfl⟩:∃a,k=d.revs.length+a:=⟨k-d.revs.length,by omega⟩
  have ha:a<c.edits.length:=by
   have:=(aal.1 hv).1
   simp only[jm,aan,aai] at this;omega
  rw[Oa hg hN hk ha] at hv
  cases hv
  obtain⟨hr1,_⟩:=(Gs hg hN hk ht ha r).1 hr
  obtain⟨j,hj,er⟩:=aaL.1 hr1
  have h0:=hk.recd j hj
  rw[show c.recs.getD j vT=r by simp[List.getD,hj,er]] at h0
  refine⟨h0.okLo,h0.okLe,h0.okHow.1,h0.okHow.2,fun n n1 n2=>?_⟩
  have hlo:=h0.okLo
  have hhi:=h0.okHi
  obtain⟨u,hu⟩:=PM hg hn (p:=r.frm) (n:=n) (by omega) (by omega)
  obtain⟨i,hi,ei⟩:=(CV hg).1 hu
  have hil:=(aal.1 hi).1
  refine⟨i,u,by omega,by rw[zU hg hN hk hil];exact hi,ei,?_⟩
  have:=(h0.okLine n n1 n2).1
  rwa [show O4 d r.frm n=u by simp[O4,hu]] at this
theorem lI.src {l:List xY} {d:gI} (h:lI l d):N8 d:=by
 induction h with
 |nil=>intro k v hv;simp[Tz] at hv
 |skip c h ih=>exact ih
 |app h hc hk ih=>exact O0 h.good h.ok.1 h.to h.Yk ih hk
section
variable {d:gI} (hg:Good d.revs) (hS:N8 d)
include hg hS
end
structure XT (d:gI) (x:TJ):Prop where
 lo:1≤x.first
 le:x.first≤x.last
 run:VJ d x
 head:dU d x.to=x.head
 kind:(x.kind=1∧live d x.to=false∧¬(Uo d x).act=3∧x.move=noS)∨
  (x.kind=(if(Uo d x).act=3 then 3 else 2)∧live d x.to=true∧¬ZG d x.to x.head=some x.line∧(x.move=noS∨(iE x.move).isSome=true∧live d x.move=false∧¬x.move=x.to))
 to:(iE x.to).isSome=true
theorem XT.fits {d:gI} {x:TJ} (h:XT d x) (ht:x.to.size≤200) (hm:x.move.size≤200):Fits d x:=by
 have hu:uG x.to=true:=by simp[uG,h.to,ht]
 rcases h.kind with⟨k,l,s,m⟩|⟨k,l,i,m⟩
 ·refine⟨by omega,h.lo,h.le,h.run,hu,h.head,?_⟩
  simp[RV,k,l,Qv,s,m]
 ·have hk:x.kind=2∨x.kind=3:=by rw[k];split<;>simp
  have hd:(Qv d x==decide (x.kind=3))=true:=by
   rw[k]
   unfold Qv
   by_cases e:(Uo d x).act=3<;>simp[e]
  refine⟨by omega,h.lo,h.le,h.run,hu,h.head,?_⟩
  have k1:¬x.kind=1:=by omega
  simp only[RV,if_neg k1,l,abg,i,abP,abC,hd]
  rcases m with m|⟨m1,m2,m3⟩
  ·simp[Wu,m]
  ·simp[Wu,uG,m1,hm,m2,m3]
structure fZ where
 parts:List abW
 rest:Bool
 deriving DecidableEq
structure yX where
 excl:Bool
 left:fZ
 right:fZ
structure ZI where
 left:fZ
 right:fZ
 holes:List fZ
@[reducible] def iG (p:fZ):List D:=[.ps 1 (p.parts.map encS), .v (.bool p.rest)]
@[reducible] def dX (r:yX):List D:=[.v (.bool r.excl), .ps 1 (r.left.parts.map encS), .v (.bool r.left.rest), .ps 1 (r.right.parts.map encS), .v (.bool r.right.rest)]
@[reducible] def aPat (p:fZ):AV:= .agg ((iG p).map C.d)
@[reducible] def XB (r:yX):AV:= .agg ((dX r).map C.d)
@[reducible] def VU (l:List fZ):AV:= .c (.d (.ps 2 (l.map iG)))
@[reducible] def pS (s:abW):Bool×List C:=(false,[.d (.v (.string s))])
@[reducible] def Zp (p:fZ):Bool×List C:=(true,(iG p).map C.d)
def jM:fZ:=⟨[],false⟩
def Rn:yX:=⟨false,jM,jM⟩
def dJ (x:abW):Bool:=!(decide (x=noS)||!decide (byteAt x 0=42))&&(List.range x.size).all fun k=>decide (k=0)||okB (byteAt x k)
def JI (x:abW):abW:=if dJ x then x.extract 1 x.size else noS
def iY (x:abW):Bool:=dJ x||comp x
def dR (p:fZ):Int:=
 if p.parts.length=0∨(p.parts.length=1∧p.rest=false)∨comp (p.parts.getD 0 noS)=false then 30
 else if(p.parts.drop 1).all iY then(if 12<p.parts.length then 31 else 0) else 30
def G7 (p:fZ):Bool:=decide (dR p=0)
def dF (s t:abW):Bool:=decide (t.size≤s.size)&&decide (s.extract (s.size-t.size) s.size=t)
def Q6 (x c:abW):abW×Bool:=
 if dJ x then(if dF c (JI x) then(c.extract 0 (c.size-(JI x).size),comp (c.extract 0 (c.size-(JI x).size))) else(noS,false)) else(noS,decide (x=c))
def eF (p:fZ):abW:=if p.rest then(fA++eX p.parts slash)++{data:= #[47,46,46,46]} else fA++eX p.parts slash
def gJ (x y:abW):Bool:=if dJ y then(if dJ x then dF (JI x) (JI y) else(Q6 y x).2) else decide (x=y)
@[reducible] def Es:abW:={data:= #[42]}
def ZI.line (x:ZI):yX:=⟨false,x.left,x.right⟩
theorem QN:okB 47=false:=by kernel_rfl
theorem Du {s:abW} (h:comp s=true):∀k,k<s.size→okB (byteAt s k)=true:=by
 intro k hk
 simp only[comp,aaj] at h
 exact nP _ k (fun k=>okB (byteAt s k)) hk h.2
theorem U9 {s:abW} (h:∀k,k<s.size→okB (byteAt s k)=true):∀x∈s.data.toList,x≠47:=by
 intro x hx e
 subst e
 obtain⟨k,hk⟩:=aaX hx
 have hl:=(aal.1 hk).1
 have hk2:k<s.size:=by simpa using hl
 have:=h k hk2
 rw[(E5 hk).2 rfl,QN] at this
 cases this
theorem lW:∀Ls:List (List UInt8),Ls≠[]→(∀l∈Ls,∀x∈l,x≠47)→dn (Lib.join Ls [47])=Ls
 |[],h,_=>absurd rfl h
 |[l],_,h=>by rw[Lib.join_one,rM (h l (by simp))]
 |l::m::r,_,h=>by
  have e:Lib.join (l::m::r) [47]=l++47::Lib.join (m::r) [47]:=by
   rw[Lib.join_cons,Lib.join_cons]
   simp[Lib.joinTail]
  rw[e,tq (h l (by simp)),lW (m::r) (by simp) fun l hl=>h l (abb _ hl)]
theorem Un (L:List abW):(L.map (·.data.toList)).map PU=L:=by
 rw[abl]
 conv=>rhs;rw[←List.map_id L]
 exact abn fun _ _=>rfl
theorem KU (a b:abW):(a++b).extract a.size (a++b).size=b:=ByteArray.extract_append_eq_right rfl aa9
theorem Ho {x:abW} (h:dJ x=true):1≤x.size∧∀k,1≤k→k<x.size→okB (byteAt x k)=true:=by
 simp only[dJ,aaj,aar,abm,aaN] at h
 refine⟨iR h.1.1,fun k h1 hk=>?_⟩
 have:=nP _ k (fun k=>decide (k=0)||okB (byteAt x k)) hk h.2
 simpa[show ¬k=0 by omega] using this
theorem SB {s:abW} (h:comp s=true):1≤s.size∧¬byteAt s 0=46:=by
 simp only[comp,aaj,aar,abm,aaN] at h
 exact⟨iR h.1.1,h.1.2⟩
theorem UG {s:abW} (h1:1≤s.size) (h2:¬byteAt s 0=46) (h3:∀k,k<s.size→okB (byteAt s k)=true):comp s=true:=by
 simp only[comp,aaj,aar,abm,aaN]
 refine⟨⟨?_,h2⟩,?_⟩
 ·rintro rfl;simp[ByteArray.size] at h1
 ·rw[aaC];intro k hk;exact h3 k (aa3.1 hk)
theorem oC {p:fZ}:G7 p=true↔(1≤p.parts.length∧(p.rest=false→2≤p.parts.length)∧comp (p.parts.getD 0 noS)=true∧(p.parts.drop 1).all iY=true∧p.parts.length≤12):=by
 unfold G7 dR
 rw[aae]
 split
 ·rename_i h
  constructor
  ·intro h;omega
  ·rintro⟨h1,h2,h3,_⟩
   rcases h with h|⟨h,h'⟩|h
   ·omega
   ·have:=h2 h';omega
   ·rw[h] at h3;cases h3
 ·rename_i h
  simp only[not_or,not_and] at h
  split
  ·rename_i ha
   split
   ·constructor
    ·intro h;omega
    ·intro h;omega
   ·refine⟨fun _=>⟨by omega,?_,by simpa using h.2.2,ha,by omega⟩,fun _=>rfl⟩
    intro hr
    have:=h.2.1
    by_cases h1:p.parts.length=1
    ·exact absurd hr (this h1)
    ·omega
  ·rename_i ha
   constructor
   ·intro h;omega
   ·rintro⟨_,_,_,h4,_⟩;exact absurd h4 ha
end
section
open Go.Ab Tys
variable [Dr]
def Yr (b:Int):Bool:=(decide (65≤b)&&decide (b≤90))||(decide (97≤b)&&decide (b≤122))||(decide (48≤b)&&decide (b≤57))||decide (b=95)||decide (b=46)||decide (b=43)||decide (b=45)
theorem Um:((List.range 256).all fun n=>okB n==Yr n)=true:=by kernel_rfl
theorem WM {b:Int} (h0:0≤b) (h1:b<256):okB b=Yr b:=by
 have:=aaC.1 Um b.toNat (aa3.2 (by omega))
 rw[show((b.toNat:Nat):Int)=b by omega] at this
 simpa using this
def YN.kk:=p4 kB kG Tryz.ntmps241 Tryz.results241
set_option maxRecDepth 100000 in
set_option maxHeartbeats 4000000 in
open YN in
theorem D9 (b:Int) (h0:0≤b) (h1:b<256):AC Tryz.prog 241 [I .u8 b] [] (fun r st=>r=B (okB b)∧st=[]):=by
 rw[WM h0 h1]
 refine dI Tryz.func241 Tryz.ntmps241 fun x hx=>?_
 try refine nv ?_
 refine Cf ⟨36,[(0,I .u8 b),(2,B false),(3,B ((decide (65≤b)&&decide (b≤90))||(decide (97≤b)&&decide (b≤122))||(decide (48≤b)&&decide (b≤57))))],[]⟩ ?_ ?_
 ·refine aU ?_ ?_
  ·intro h
   have h':(decide (65≤b)&&decide (b≤90))=true:=by rw[←h];cases decide (65≤b)<;>rfl
   refine jk ?_
   refine⟨rfl,?_⟩
   exact WF (p2 @h' @h)
  ·intro h
   have h':(decide (65≤b)&&decide (b≤90))=false:=by rw[←h];cases decide (65≤b)<;>rfl
   try refine nv ?_
   refine aU ?_ ?_
   ·intro h2
    have h2':(decide (97≤b)&&decide (b≤122))=true:=by rw[←h2];cases decide (97≤b)<;>rfl
    refine jk ?_
    refine⟨rfl,?_⟩
    exact WF (p4 @h' @h @h2' @h2)
   ·intro h2
    have h2':(decide (97≤b)&&decide (b≤122))=false:=by rw[←h2];cases decide (97≤b)<;>rfl
    try refine nv ?_
    refine⟨rfl,?_⟩
    have h3:(bif decide (48≤b) then decide (b≤57) else false)=(decide (48≤b)&&decide (b≤57)):=by cases decide (48≤b)<;>rfl
    exact WF (p5 @h' @h @h2' @h2 @h3)
 refine jk ?_
 refine aU ?_ ?_
 ·intro h
  try refine nv ?_
  refine rA [] ?_
  refine⟨?_,rfl⟩
  simp only[Yr,h,Bool.true_or]
 ·intro h
  try refine nv ?_
  refine rA [] ?_
  refine⟨?_,rfl⟩
  simp only[Yr,h,Bool.false_or]
  cases decide (b=95)<;>cases decide (b=46)<;>cases decide (b=43)<;>rfl
def Zt.kk:=p6 kB kG Tryz.ntmps195 Tryz.underlying9 sQ Tryz.results195
set_option maxRecDepth 100000 in
set_option maxHeartbeats 4000000 in
open Zt in
theorem DI (s:abW) (hs:s.size≤4000000):AC Tryz.prog 195 [Str s] [] (fun r st=>r=B (comp s)∧st=[]):=by
 refine dI Tryz.func195 Tryz.ntmps195 fun x hx=>?_
 refine jk ?_
 refine gg ?_
 refine jk ?_
 refine gq ?_ ?_
 ·simp only[All,List.cons_append,List.nil_append,aao,aaS,implies_true,forall_const,aar,aaN,cond_eq_ite]
  repeat' (first|exact trivial|refine And.intro ?_ ?_|intro _|omega|(rename_i h;exact_mod_cast iR (by simpa using h))|(simp_all;done))
 refine jk ?_
 refine aU ?_ ?_
 ·intro h
  try refine nv ?_
  refine rA [] ?_
  refine⟨?_,rfl⟩
  have h2:(decide (s={data:= #[]})||decide (byteAt s 0=46))=true:=by rw[←h];cases decide (s={data:= #[]})<;>rfl
  simp[comp,h2]
 ·intro h
  have h2:(decide (s={data:= #[]})||decide (byteAt s 0=46))=false:=by rw[←h];cases decide (s={data:= #[]})<;>rfl
  try refine nv ?_
  refine aW (ι:=Nat) (I:=fun k=>⟨22,[(0,Str s),(12,I .i64 s.size),(13,I .i64 k)],[]⟩) (Inv:=fun k=>k≤s.size∧∀j,j<k→okB (byteAt s j)=true) (μ:=fun k=>s.size-k) 0 ⟨by omega,by omega⟩ ?_ ?_
  ·exact fM
  ·rintro k ⟨hk,hall⟩
   try refine nv ?_
   refine aU ?_ ?_
   ·intro hlt
    have hlt':k<s.size:=by simpa using hlt
    have hb0:=uu hlt'
    (repeat (first|refine nv ?_|refine cf (D9 (byteAt s k) (by simp[byteAt]) (by simp only[byteAt];have:=(s.data.getD k 0).toNat_lt;omega)) ?_))
    refine aU ?_ ?_
    ·intro hb
     try refine nv ?_
     refine rA [] ?_
     refine⟨?_,rfl⟩
     have hb':okB (byteAt s k)=false:=by simpa using hb
     have:((List.range s.size).all fun k=>okB (byteAt s k))=false:=by
      cases e:(List.range s.size).all fun k=>okB (byteAt s k)
      ·rfl
      ·have:=nP _ k _ hlt' e
       rw[hb'] at this;cases this
     simp only[comp,this,Bool.and_false]
    ·intro hb
     try refine nv ?_
     refine⟨k+1,⟨by omega,?_⟩,by omega,?_⟩
     ·intro j hj
      rcases aba.1 hj with hj|rfl
      ·exact hall j hj
      ·simpa using hb
     ·exact fM
   ·intro hge
    try refine nv ?_
    refine rA [] ?_
    refine⟨?_,rfl⟩
    have hk':k=s.size:=by have:¬k<s.size:=by simpa using hge
                          omega
    have:((List.range s.size).all fun k=>okB (byteAt s k))=true:=by
     rw[aaC];intro j hj;exact hall j (by rw[hk'];exact aa3.1 hj)
    simp only[comp,this,h2];rfl
end
end Go.Proofs.YtpoodoknkbojgaaGreatDoor
set_option linter.all false
namespace Go.Ab
abbrev vU:=List (Nat×AO)
def Rj:Cap→List Nat
 | .ptr id _=>[id]
 |_=>[]
def rU:List Cap→List Nat
 |[]=>[]
 |c::cs=>Rj c++rU cs
def UM:C→List Nat
 | .ptr id _=>[id]
 | .ep id _ _ _=>[id]
 | .ms id _ _ _=>[id]
 | .mp id=>[id]
 | .mv id _ _ _=>[id]
 | .fn _ caps=>rU caps
 | .fb _ caps=>rU caps
 | .d _=>[]
 | .pp _=>[]
def sN:List C→List Nat
 |[]=>[]
 |c::cs=>UM c++sN cs
def Ai:List (List C)→List Nat
 |[]=>[]
 |c::cs=>sN c++Ai cs
def Hg:List (Bool×List C)→List Nat
 |[]=>[]
 |p::ps=>sN p.2++Hg ps
def EO:List ((Bool×List C)×(Bool×List C))→List Nat
 |[]=>[]
 |e::es=>sN e.1.2++(sN e.2.2++EO es)
def Ny:AV→List Nat
 | .c x=>UM x
 | .agg cs=>sN cs
 | .tup vs=>Hg vs
 | .cond _ x=>Ny x
def BU:List AV→List Nat
 |[]=>[]
 |v::vs=>Ny v++BU vs
def NI:AO→Option (List Nat)
 | .box cs=>some (sN cs)
 | .arr _ xs=>some (Ai xs)
 | .map es=>some (EO es)
 | .dead=>some []
 |_=>none
section
variable {dom:Nat→Bool}
theorem Bd:∀{cs:List Cap},(∀i∈rU cs,dom i=true)→ak dom cs
 |[],_=>trivial
 |c::cs,h=>⟨by cases c<;>first|trivial|exact h _ (by simp[rU,Rj]),Bd fun i hi=>h i (by simp[rU,hi])⟩
theorem MV {c:C} (h:∀i∈UM c,dom i=true):bi dom c:=by
 cases c<;>first|trivial|exact h _ (by simp[UM])|exact Bd h
theorem lN:∀{cs:List C},(∀i∈sN cs,dom i=true)→ax dom cs
 |[],_=>trivial
 |c::cs,h=>⟨MV fun i hi=>h i (by simp[sN,hi]),lN fun i hi=>h i (by simp[sN,hi])⟩
theorem EP:∀{cs:List (List C)},(∀i∈Ai cs,dom i=true)→ax dom cs.flatten
 |[],_=>trivial
 |c::cs,h=>by rw[List.flatten_cons];exact au.2 ⟨lN fun i hi=>h i (by simp[Ai,hi]),EP fun i hi=>h i (by simp[Ai,hi])⟩
theorem Jc:∀{ps:List (Bool×List C)},(∀i∈Hg ps,dom i=true)→bC dom ps
 |[],_=>trivial
 |p::ps,h=>⟨lN fun i hi=>h i (by simp[Hg,hi]),Jc fun i hi=>h i (by simp[Hg,hi])⟩
theorem IX:∀{es:List ((Bool×List C)×(Bool×List C))},(∀i∈EO es,dom i=true)→bC dom (es.map (·.1))∧bC dom (es.map (·.2))
 |[],_=>⟨trivial,trivial⟩
 |e::es,h=>by
  have:=IX (es:=es) fun i hi=>h i (by simp[EO,hi])
  exact⟨⟨lN fun i hi=>h i (by simp[EO,hi]),this.1⟩,⟨lN fun i hi=>h i (by simp[EO,hi]),this.2⟩⟩
theorem BQ:∀{v:AV},(∀i∈Ny v,dom i=true)→aA dom v
 | .c x,h=>MV h
 | .agg cs,h=>lN h
 | .tup vs,h=>Jc h
 | .cond b x,h=>BQ (v:=x) h
theorem EM:∀{vs:List AV},(∀i∈BU vs,dom i=true)→∀v∈vs,aA dom v
 |[],_,_,h=>by cases h
 |v::vs,h,y,hy=>by
  rcases Z9.1 hy with rfl|hy
  ·exact BQ fun i hi=>h i (by simp[BU,hi])
  ·exact EM (fun i hi=>h i (by simp[BU,hi])) y hy
theorem RD {o:AO} {l:List Nat} (e:NI o=some l) (h:∀i∈l,dom i=true):aN dom o:=by
 cases o<;>simp only[NI] at e<;>first|cases e;done|skip
 ·cases e;exact lN h
 ·cases e;exact EP h
 ·cases e;exact IX h
 ·trivial
end
def reach (st:vU):Nat→List Nat→vU→Option vU
 |0,_,_=>none
 |_+1,[],acc=>some acc
 |n+1,i::t,acc=>
  match get acc i with
  |some _=>reach st n t acc
  |none=>
   match get st i with
   |some o=>
    match NI o with
    |some l=>reach st n (l++t) ((i,o)::acc)
    |none=>none
   |none=>none
theorem wE {i j:Nat} {o:AO} {acc:vU}:ae ((i,o)::acc) j=(decide (i=j)||ae acc j):=by
 simp only[ae,Ab.get]
 by_cases e:i=j
 ·simp[e]
 ·simp[e]
structure Reached (st:vU) (todo:List Nat) (acc:vU):Prop where
 mem:∀p∈acc,get st p.1=some p.2
 inj:(acc.map (·.1)).Nodup
 cl:∀p∈acc,∃l,NI p.2=some l∧∀i∈l,ae acc i=true∨i∈todo
theorem Cs {st:vU}:∀{n:Nat} {todo:List Nat} {acc r:vU},reach st n todo acc=some r→Reached st todo acc→
 Reached st [] r∧(∀i,ae acc i=true∨i∈todo→ae r i=true)
 |0,_,_,_,h,_=>by cases h
 |n+1,[],acc,r,h,hr=>by cases h;exact⟨hr,fun i hi=>hi.elim id fun h=>by cases h⟩
 |n+1,i::t,acc,r,h,hr=>by
  simp only[reach] at h
  split at h
  ·rename_i o ho
   have hi:ae acc i=true:=by simp[ae,ho]
   have hr':Reached st t acc:=⟨hr.mem,hr.inj,fun p hp=>let⟨l,a,b⟩:=hr.cl p hp;⟨l,a,fun j hj=>by
    rcases b j hj with h|h
    ·exact .inl h
    ·rcases Z9.1 h with rfl|h
     ·exact .inl hi
     ·exact .inr h⟩⟩
   obtain⟨a,b⟩:=Cs h hr'
   refine⟨a,fun j hj=>b j ?_⟩
   rcases hj with h|h
   ·exact .inl h
   ·rcases Z9.1 h with rfl|h
    ·exact .inl hi
    ·exact .inr h
  ·rename_i hno
   split at h
   ·rename_i o ho
    split at h
    ·rename_i l hl
     have hr':Reached st (l++t) ((i,o)::acc):=by
      refine⟨?_,?_,?_⟩
      ·intro p hp
       rcases Z9.1 hp with rfl|hp
       ·exact ho
       ·exact hr.mem p hp
      ·simp only[aax,List.nodup_cons]
       refine⟨fun hm=>?_,hr.inj⟩
       obtain⟨p,hp,e⟩:=aaD.1 hm
       have:=FI (q:=p) hp
       rw[e] at this
       simp[ae,hno] at this
      ·intro p hp
       rcases Z9.1 hp with rfl|hp
       ·exact⟨l,hl,fun j hj=> .inr (aa4 _ hj)⟩
       ·obtain⟨l',a,b⟩:=hr.cl p hp
        refine⟨l',a,fun j hj=>?_⟩
        rcases b j hj with h|h
        ·exact .inl (by rw[wE,h];simp)
        ·rcases Z9.1 h with rfl|h
         ·exact .inl (by rw[wE];simp)
         ·exact .inr (aa0 _ h)
     obtain⟨a,b⟩:=Cs h hr'
     refine⟨a,fun j hj=>b j ?_⟩
     rcases hj with h|h
     ·exact .inl (by rw[wE,h];simp)
     ·rcases Z9.1 h with rfl|h
      ·exact .inl (by rw[wE];simp)
      ·exact .inr (aa0 _ h)
    ·cases h
   ·cases h
theorem ES {st r:vU} {n:Nat} {todo:List Nat} (h:reach st n todo []=some r):
 (∀p∈r,get st p.1=some p.2)∧(r.map (·.1)).Nodup∧(∀p∈r,aN (ae r) p.2)∧∀i∈todo,ae r i=true:=by
 obtain⟨a,b⟩:=Cs h ⟨by simp,by simp,by simp⟩
 refine⟨a.mem,a.inj,fun p hp=>?_,fun i hi=>b i (.inr hi)⟩
 obtain⟨l,e,h⟩:=a.cl p hp
 exact RD e fun i hi=>(h i hi).elim id fun h=>by cases h
section
universe u
variable {α:Type u}
def fN (n:Nat) (k:Nat→α):α:=match n with|0=>k 0|m+1=>k (m+1)
theorem Dh (n:Nat) (k:Nat→α):fN n k=k n:=by cases n<;>rfl
def fI (n:Int) (k:Int→α):α:=match n with| .ofNat m=>fN m fun m=>k (.ofNat m)| .negSucc m=>fN m fun m=>k (.negSucc m)
theorem XK (n:Int) (k:Int→α):fI n k=k n:=by cases n<;>simp[fI,Dh]
def fU (l:List UInt8) (k:List UInt8→α):α:=match l with|[]=>k []|x::l=>fN x.toNat fun n=>fU l fun l=>k (UInt8.ofNat n::l)
theorem Yf (l:List UInt8) (k:List UInt8→α):fU l k=k l:=by
 induction l generalizing k with
 |nil=>rfl
 |cons x l ih=>simp[fU,Dh,ih]
def fS (s:abW) (k:abW→α):α:=fU s.data.toList fun l=>k ⟨⟨l⟩⟩
theorem Xy (s:abW) (k:abW→α):fS s k=k s:=by simp[fS,Yf]
def fV (v:Value) (k:Value→α):α:=
 match v with
 | .int kd n=>fI n fun n=>k (.int kd n)
 | .bool true=>k (.bool true)
 | .bool false=>k (.bool false)
 | .string s=>fS s fun s=>k (.string s)
 |v=>k v
theorem Yb (v:Value) (k:Value→α):fV v k=k v:=by
 cases v with
 |bool b=>cases b<;>rfl
 |_=>simp[fV,XK,Xy]
def fD (d:D) (k:D→α):α:=match d with| .v x=>fV x fun x=>k (.v x)|d=>k d
theorem VB (d:D) (k:D→α):fD d k=k d:=by cases d<;>simp[fD,Yb]
def U1 (c:Cap) (k:Cap→α):α:=match c with| .ptr id off=>fN id fun id=>fN off fun off=>k (.ptr id off)| .d x=>fD x fun x=>k (.d x)|c=>k c
theorem Vx (c:Cap) (k:Cap→α):U1 c k=k c:=by cases c<;>simp[U1,Dh,VB]
def fL {β:Type} (f:β→(β→α)→α) (l:List β) (k:List β→α):α:=match l with|[]=>k []|x::l=>f x fun x=>fL f l fun l=>k (x::l)
theorem vF {β:Type} {f:β→(β→α)→α} (hf:∀x k,f x k=k x) (l:List β) (k:List β→α):fL f l k=k l:=by
 induction l generalizing k with
 |nil=>rfl
 |cons x l ih=>simp[fL,hf,ih]
def fC (c:C) (k:C→α):α:=
 match c with
 | .d x=>fD x fun x=>k (.d x)
 | .ptr id off=>fN id fun id=>fN off fun off=>k (.ptr id off)
 | .ep id sz i off=>fN id fun id=>fN sz fun sz=>fN i fun i=>fN off fun off=>k (.ep id sz i off)
 | .ms id sz off len=>fN id fun id=>fN sz fun sz=>fN off fun off=>fN len fun len=>k (.ms id sz off len)
 | .mv id sz off len=>fN id fun id=>fN sz fun sz=>fN off fun off=>fN len fun len=>k (.mv id sz off len)
 | .mp id=>fN id fun id=>k (.mp id)
 | .fn f caps=>fN f fun f=>fL U1 caps fun caps=>k (.fn f caps)
 | .fb f caps=>fN f fun f=>fL U1 caps fun caps=>k (.fb f caps)
 | .pp cs=>k (.pp cs)
theorem Ju (c:C) (k:C→α):fC c k=k c:=by cases c<;>simp[fC,Dh,VB,vF Vx]
def fP (p:Bool×List C) (k:Bool×List C→α):α:=match p with|(true,cs)=>fL fC cs fun cs=>k (true,cs)|(false,cs)=>fL fC cs fun cs=>k (false,cs)
theorem VR (p:Bool×List C) (k:Bool×List C→α):fP p k=k p:=by obtain⟨b,cs⟩:=p;cases b<;>simp[fP,vF Ju]
def Yy (v:AV) (k:AV→α):α:=
 match v with
 | .c x=>fC x fun x=>k (.c x)
 | .agg cs=>fL fC cs fun cs=>k (.agg cs)
 | .tup vs=>fL fP vs fun vs=>k (.tup vs)
 |v=>k v
theorem WJ (v:AV) (k:AV→α):Yy v k=k v:=by cases v<;>simp[Yy,Ju,vF Ju,vF VR]
def fE (e:rY) (k:rY→α):α:=fP e.1 fun a=>fP e.2 fun b=>k (a,b)
theorem Ye (e:rY) (k:rY→α):fE e k=k e:=by simp[fE,VR]
def Y3 (o:AO) (k:AO→α):α:=
 match o with
 | .box cs=>fL fC cs fun cs=>k (.box cs)
 | .arr sz xs=>fN sz fun sz=>fL (fL fC) xs fun xs=>k (.arr sz xs)
 | .map es=>fL fE es fun es=>k (.map es)
 |o=>k o
theorem WU (o:AO) (k:AO→α):Y3 o k=k o:=by cases o<;>simp[Y3,Dh,vF Ju,vF (vF Ju),vF Ye]
def fQ (p:Nat×AO) (k:Nat×AO→α):α:=fN p.1 fun i=>Y3 p.2 fun o=>k (i,o)
theorem XC (p:Nat×AO) (k:Nat×AO→α):fQ p k=k p:=by simp[fQ,Dh,WU]
def QQ {β:Type} (l:List (Nat×β)) (i:Nat) (x:β) (k:List (Nat×β)→α):α:=
 match l with
 |[]=>k [(i,x)]
 |(j,y)::l=>if j=i then k ((i,x)::l) else QQ l i x fun l=>k ((j,y)::l)
theorem NJ {β:Type} (l:List (Nat×β)) (i:Nat) (x:β) (k:List (Nat×β)→α):QQ l i x k=k (put l i x):=by
 induction l generalizing k with
 |nil=>rfl
 |cons p l ih=>
  obtain⟨j,y⟩:=p
  simp only[QQ,put]
  by_cases e:j=i
  ·simp[e]
  ·simp[e,ih]
def P5 (env:List (Nat×AV)) (d:Option Nat) (v:AV) (k:List (Nat×AV)→α):α:=match d with|some i=>QQ env i v k|none=>k env
theorem RY (env:List (Nat×AV)) (d:Option Nat) (v:AV) (k:List (Nat×AV)→α):P5 env d v k=k (dB env d v):=by cases d<;>simp[P5,dB,NJ]
def zy (st us:vU) (k:vU→α):α:=match us with|[]=>k st|(i,o)::us=>QQ st i o fun st=>zy st us k
theorem Kt (st us:vU) (k:vU→α):zy st us k=k (ah st us):=by
 induction us generalizing st with
 |nil=>rfl
 |cons p us ih=>obtain⟨i,o⟩:=p;simp[zy,ah,NJ,ih]
end
end Go.Ab
set_option linter.all false
namespace Go.Ab
def kK {α:Type} (P:Program):Sem α→Option α
 | .pure a=>some a
 | .program k=>kK P (k P)
 | .mark _ k=>kK P k
 |_=>none
theorem jB {α:Type} {P:Program} {s:Sem α} {r:α} (h:kK P s=some r) (w:World):s.run P w= .ok r w:=by
 induction s with
 |pure a=>cases h;rfl
 |program k ih=>exact ih P h
 |mark m k ih=>exact ih h
 |_=>cases h
def iZ (r:Option AV):Option Value:=match r with|some (.c (.d (.v u)))=>some u|_=>none
def one1 (v:Value):Option (AV×vU):=if v.oneCell' then some (.c (.d (.v v)),[]) else none
def plainO (e:Operand→Option AV):Option Operand→Option (Option Value)
 |none=>some none
 |some y=>(iZ (e y)).map some
def EW (P:Program) (op:Op) (e:Operand→Option AV):Option Value:=
 match op with
 | .binOp op T x y _=>
   match iZ (e x),iZ (e y) with
   |some u,some v=>kK P (do eqGuard op T x y u v;binOp op T u v)
   |_,_=>none
 | .unOp op T x=>
   match iZ (e x) with
   |some u=>kK P (Go.Op.unary op u)
   |none=>none
 | .convert S D x=>
   match iZ (e x) with
   |some u=>kK P (convert S D u)
   |none=>none
 | .slice T x lo hi mx=>
   match iZ (e x),plainO e lo,plainO e hi,plainO e mx with
   |some u,some a,some b,some c=>kK P (Instr.sliceAt T u a b c)
   |_,_,_,_=>none
 | .call {callee:= .builtin .cap,args:=⟨[x]⟩,argTypes:=⟨[T]⟩}=>
   match iZ (e x) with
   |some u=>kK P (Builtin.cap_ ⟨[T]⟩ 0 #[u])
   |none=>none
 |_=>none
def notNil (P:Program) (T:TypeId) (a:AV) (v:Value):Bool:=
 match P.underlying T,a,v with
 |some (.pointer _), .c (.ptr _ _), .pointer none=>true
 |some (.pointer _), .c (.ep _ _ _ _), .pointer none=>true
 |some (.pointer _), .c (.pp _), .pointer none=>true
 |some (.slice _), .c (.ms _ _ _ len), .slice none _ _=>!decide (len=0)
 |some (.map _ _), .c (.mp _), .map none=>true
 |some (.func _ _ _), .c (.fn _ _), .nilFunc=>true
 |some (.func _ _ _), .c (.fb _ _), .nilFunc=>true
 |_,_,_=>false
def SG (P:Program) (op:Op) (e:Operand→Option AV):Option Bool:=
 match op with
 | .binOp .eql T x y _=>
   match e x,iZ (e y) with
   |some a,some v=>if notNil P T a v then some false else none
   |_,_=>none
 | .binOp .neq T x y _=>
   match e x,iZ (e y) with
   |some a,some v=>if notNil P T a v then some true else none
   |_,_=>none
 |_=>none
def Uj (r:Option AV):Option Int:=match r with|some (.c (.d (.v (.int _ n))))=>some n|_=>none
def D5 (e:Operand→Option AV) (d:Int):Option Operand→Option Int
 |none=>some d
 |some y=>Uj (e y)
def xI (P:Program) (op:Op) (id:Nat) (e:Operand→Option AV) (ob:Nat→Option AO):Option (AV×vU):=
 match op with
 | .slice T x lo hi none=>
   match e x,(xg P T).bind (ti P) with
   |some (.c (.ms i sz off len)),some t=>
    match D5 e 0 lo,D5 e len hi with
    |some l,some h=>if sz=t.size∧0≤l∧l≤h∧h≤len then some (.c (.ms i sz (off+l.toNat) (h-l).toNat),[]) else none
    |_,_=>none
   |_,_=>none
 | .slice T x lo (some hi) (some mx)=>
   match e x,(xg P T).bind (ti P),D5 e 0 lo,Uj (e hi),Uj (e mx),ob id with
   |some (.c (.ms i sz off len)),some t,some l,some h,some m,none=>if sz=t.size∧0≤l∧l=h∧h=m∧m≤len then some (.c (.ms id sz 0 0),[(id, .arr sz [])]) else none
   |_,_,_,_,_,_=>none
 |_=>none
def Py (P:Program) (op:Op) (id:Nat) (e:Operand→Option AV) (ob:Nat→Option AO):Option (AV×vU):=
 match op with
 | .call {callee:= .builtin .append,args:=⟨[x,y]⟩,argTypes:=⟨[T,T']⟩}=>
   match e x,e y with
   |some (.c (.ms i sz 0 len)),some v=>
    match ob i with
    |some (.arr sz' xs)=>
     if len<xs.length then
      match dS P T T' id (.c (.ms i sz 0 len)) v (fun j=>if i=j then some (.arr sz' (xs.take len)) else ob j) with
      |some out=>if lL P T T' id (.c (.ms i sz 0 len)) v (fun j=>if i=j then some (.arr sz' (xs.take len)) else ob j) then some (out.v,out.upd) else none
      |none=>none
     else none
    |_=>none
   |_,_=>none
 |_=>none
def Qi:List C→Option (List D)
 |[]=>some []
 | .d x::l=>
   match Qi l with
   |some r=>some (x::r)
   |none=>none
 |_=>none
def UF:List rY→Option (List pG)
 |[]=>some []
 |e::l=>
  match Qi e.1.2,Qi e.2.2,UF l with
  |some a,some b,some r=>some (((e.1.1,a),(e.2.1,b))::r)
  |_,_,_=>none
def xP (P:Program) (op:Op) (id:Nat) (e:Operand→Option AV) (ob:Nat→Option AO):Option (AV×vU):=
 match op with
 | .range T y=>
   match e y,BF P T,ob id with
   |some (.c (.mp m)),some _,none=>
    match ob m with
    |some (.map es)=>
     match UF es with
     |some l=>some (.c (.ptr id 0),[(m, .dead),(id, .iter none l)])
     |none=>none
    |_=>none
   |_,_,_=>none
 | .next y false=>
   match e y with
   |some (.c (.ptr i 0))=>
    match ob i with
    |some (.iter _ [])=>some (.tup [(false,[.d (.v (.bool false))])],[])
    |_=>none
   |_=>none
 |_=>none
def YD {α:Type} (a:Option α) (b:Option α):Option α:=match a with|some r=>some r|none=>b
def OV (P:Program) (op:Op) (id:Nat) (e:Operand→Option AV) (ob:Nat→Option AO):Option (AV×vU):=
 match EW P op e with
 |some v=>one1 v
 |none=>
  match SG P op e with
  |some b=>some (B b,[])
  |none=>YD (xI P op id e ob) (YD (Py P op id e ob) (xP P op id e ob))
section
variable {P:Program} {x:X} {bl:Nat→List Nat} {cap:Nat→Nat} {st:List (Nat×AO)} {w:World} {ρ:Operand→Value} {e:Operand→Option AV} {o:Oper} {id:Nat} {r:AV×vU}
variable [Dr]
omit [Dr] in
theorem Jv {a:Option AV} {u:Value} (h:iZ a=some u):a=some (.c (.d (.v u))):=by
 unfold iZ at h
 split at h
 ·cases h;rfl
 ·cases h
omit [Dr] in
theorem fF {k:K} {y:Operand} {u:Value} (h:iZ (e y)=some u) (hr:∀v,e y=some v→af k v (ρ y)):ρ y=u:=dL (hr _ (Jv h))
omit [Dr] in
theorem tX {k:K}:∀{lo:Option Operand} {a:Option Value},plainO e lo=some a→(∀y,lo=some y→∀v,e y=some v→af k v (ρ y))→lo.map ρ=a
 |none,a,h,_=>by cases h;rfl
 |some y,a,h,hr=>by
  simp only[plainO,aap] at h
  obtain⟨u,hu,rfl⟩:=h
  simp[fF hu (hr y rfl)]
omit [Dr] in
theorem Pz {v:Value} (h:EW P o.op e=some v) (hr:∀y u,y∈o.op.operands→e y=some u→af (mkK x bl cap st w) u (ρ y)):(execOp ρ o).run P w= .ok (.value v) w:=by
 obtain⟨dst,op,type,pos,after,guard⟩:=o
 simp only at h hr
 unfold EW at h
 split at h
 ·rename_i op T y z T'
  split at h
  ·rename_i u u' h1 h2
   rw[←fF h1 (fun v hv=>hr y v (by simp[Op.operands]) hv),←fF h2 (fun v hv=>hr z v (by simp[Op.operands]) hv)] at h
   exact dW (jB h w)
  ·cases h
 ·rename_i op T y
  split at h
  ·rename_i u h1
   rw[←fF h1 (fun v hv=>hr y v (by simp[Op.operands]) hv)] at h
   exact dW (jB h w)
  ·cases h
 ·rename_i S D y
  split at h
  ·rename_i u h1
   rw[←fF h1 (fun v hv=>hr y v (by simp[Op.operands]) hv)] at h
   exact dW (jB h w)
  ·cases h
 ·rename_i T y lo hi mx
  split at h
  ·rename_i u a b c h1 h2 h3 h4
   rw[←fF h1 (fun v hv=>hr y v (by simp[Op.operands]) hv),←tX h2 (fun y hy v hv=>hr y v (by simp[Op.operands,hy]) hv),←tX h3 (fun y hy v hv=>hr y v (by simp[Op.operands,hy]) hv),
    ←tX h4 (fun y hy v hv=>hr y v (by simp[Op.operands,hy]) hv)] at h
   exact dW (jB h w)
  ·cases h
 ·rename_i y T
  split at h
  ·rename_i u h1
   rw[←fF h1 (fun v hv=>hr y v (by simp[Op.operands,Call.operands]) hv)] at h
   simp only[execOp,resolve,Sem.run_bind,Sem.run_pure,Result.andThen_ok,invoke,builtin]
   have e1:Array.map ρ (⟨[y]⟩:Array Operand)= #[ρ y]:=by simp
   rw[e1]
   have h1':(Builtin.cap_ ⟨[T]⟩ type #[ρ y]).run P w= .ok v w:=jB h w
   rw[h1'];rfl
  ·cases h
 ·cases h
omit [Dr] in
theorem BZ {T:TypeId} {a:AV} {u v:Value} (h:notNil P T a v=true) (hr:af (mkK x bl cap st w) a u) (ox oy:Operand):
 (do eqGuard .eql T ox oy u v;binOp .eql T u v:Sem Value).run P w= .ok (.bool false) w∧(do eqGuard .neq T ox oy u v;binOp .neq T u v:Sem Value).run P w= .ok (.bool true) w:=by
 have key:∀{u v:Value},eqGuard .eql T ox oy u v=pure ()→eqGuard .neq T ox oy u v=pure ()→binOp .eql T u v=(do pure (.bool (←Op.equal T u v)))→binOp .neq T u v=(do pure (.bool (!(←Op.equal T u v))))→
  (∀d,(Op.equalIn (d+1) T u v).run P w= .ok false w)→
  (do eqGuard .eql T ox oy u v;binOp .eql T u v:Sem Value).run P w= .ok (.bool false) w∧(do eqGuard .neq T ox oy u v;binOp .neq T u v:Sem Value).run P w= .ok (.bool true) w:=by
  intro u v g1 g2 e1 e2 he
  have h1:(Op.equal T u v).run P w= .ok false w:=he 9999
  rw[e1,e2,g1,g2]
  simp only[Sem.run_bind,Result.andThen_ok,h1,Sem.run_pure,abC,and_self]
 unfold notNil at h
 split at h
 ·rename_i hu
  obtain⟨_,b',_,rfl⟩:=hr
  exact key (by rfl) (by rfl) (by rfl) (by rfl) (fun d=>by simp only[Op.equalIn,Sem.run_bind,run_underlying hu,Result.andThen_ok,Sem.run_pure])
 ·rename_i hu
  obtain⟨_,b',_,rfl⟩:=hr
  exact key (by rfl) (by rfl) (by rfl) (by rfl) (fun d=>by simp only[Op.equalIn,Sem.run_bind,run_underlying hu,Result.andThen_ok,Sem.run_pure])
 ·rename_i hu
  obtain⟨b',o',rfl,_⟩:=hr
  exact key (by rfl) (by rfl) (by rfl) (by rfl) (fun d=>by simp only[Op.equalIn,Sem.run_bind,run_underlying hu,Result.andThen_ok,Sem.run_pure])
 ·rename_i hu
  obtain⟨_,hcap,⟨h0,a,rfl⟩|⟨h0,b',_,rfl⟩⟩:=hr
  ·simp only[aar,aaN] at h;omega
  ·exact key (by rfl) (by rfl) (by rfl) (by rfl) (fun d=>by simp only[Op.equalIn,Sem.run_bind,run_underlying hu,Result.andThen_ok,Sem.run_pure])
 ·rename_i hu
  obtain⟨_,b',bs,_,rfl⟩:=hr
  exact key (by rfl) (by rfl) (by rfl) (by rfl) (fun d=>by simp only[Op.equalIn,Sem.run_bind,run_underlying hu,Result.andThen_ok,Sem.run_pure])
 ·rename_i hu
  obtain⟨vs,rfl,_⟩:=hr
  exact key (by rfl) (by rfl) (by rfl) (by rfl) (fun d=>by simp only[Op.equalIn,Sem.run_bind,run_underlying hu,Result.andThen_ok,Sem.run_pure])
 ·rename_i hu
  obtain⟨vs,rfl,_⟩:=hr
  exact key (by rfl) (by rfl) (by rfl) (by rfl) (fun d=>by simp only[Op.equalIn,Sem.run_bind,run_underlying hu,Result.andThen_ok,Sem.run_pure])
 ·cases h
omit [Dr] in
theorem pK {k:K} {d l:Int}:∀{lo:Option Operand},D5 e d lo=some l→(∀y,lo=some y→∀v,e y=some v→af k v (ρ y))→(lo.map ρ=none∧l=d)∨∃kd,lo.map ρ=some (.int kd l)
 |none,h,_=>by cases h;exact .inl ⟨rfl,rfl⟩
 |some y,h,hr=>by
  right
  simp only[D5] at h
  unfold Uj at h
  split at h
  ·rename_i kd n h1
   cases h
   exact⟨kd,by simp[dL (hr y rfl _ h1)]⟩
  ·cases h
omit [Dr] in
theorem yu {len cp:Nat} {l h:Int} {lo hi:Option Value} (hlo:(lo=none∧l=0)∨∃kd,lo=some (.int kd l)) (hhi:(hi=none∧h=len)∨∃kd,hi=some (.int kd h)) (h0:0≤l) (h1:l≤h) (h2:h≤len) (h3:len≤cp):
 (Instr.sliceBounds true len cp lo hi none).run P w= .ok (l.toNat,h.toNat,cp) w:=by
 have c1:0≤h∧h≤(cp:Int):=by omega
 have c2:0≤l∧l≤((h.toNat:Nat):Int):=by omega
 rcases hlo with⟨rfl,rfl⟩|⟨kd,rfl⟩<;>rcases hhi with⟨rfl,rfl⟩|⟨kd',rfl⟩
 ·simp[Instr.sliceBounds]
 ·simp[Instr.sliceBounds,Instr.sliceBound,asIntOf,c1]
 ·have c3:0≤l∧l≤(len:Int):=by omega
  simp[Instr.sliceBounds,Instr.sliceBound,asIntOf,c3]
 ·have c4:(h.toNat:Int)=h:=by omega
  have c5:0≤l∧l≤h:=by omega
  simp[Instr.sliceBounds,Instr.sliceBound,asIntOf,c1,c2,c4,c5]
omit [Dr] in
theorem IP {len cp:Nat} {l:Int} {lo hi mx:Option Value} (hlo:(lo=none∧l=0)∨∃kd,lo=some (.int kd l)) (hhi:∃kd,hi=some (.int kd l)) (hmx:∃kd,mx=some (.int kd l)) (h0:0≤l) (h2:l≤cp):
 (Instr.sliceBounds true len cp lo hi mx).run P w= .ok (l.toNat,l.toNat,l.toNat) w:=by
 have c1:0≤l∧l≤(cp:Int):=by omega
 have c2:0≤l∧l≤((l.toNat:Nat):Int):=by omega
 obtain⟨k1,rfl⟩:=hhi
 obtain⟨k2,rfl⟩:=hmx
 rcases hlo with⟨rfl,rfl⟩|⟨kd,rfl⟩
 ·simp[Instr.sliceBounds,Instr.sliceBound,asIntOf]
 ·simp only[Instr.sliceBounds,Instr.sliceBound,asIntOf,Sem.run_bind,Sem.run_pure,Result.andThen_ok,c1,c2,and_self,if_true]
theorem PH (hs:aP x bl cap st w) (h:xI P o.op id e (get st)=some r) (hr:∀y u,y∈o.op.operands→e y=some u→af (mkK x bl cap st w) u (ρ y)):Good x bl cap st w ⟨r.1,r.2,[]⟩ ((execOp ρ o).run P w):=by
 obtain⟨dst,op,type,pos,after,guard⟩:=o
 simp only at h hr
 unfold xI at h
 split at h
 ·rename_i T y lo hi
  split at h
  ·rename_i i sz off len t h1 ht
   rw[aac] at ht
   obtain⟨el,hel,ht⟩:=ht
   have hu:=iJ hel
   split at h
   ·rename_i l h' hl hh
    split at h
    ·rename_i hc
     cases h
     obtain⟨c0,c1,c2,c3⟩:=hc
     have rl:=pK hl (fun y hy v hv=>hr y v (by simp[Op.operands,hy]) hv)
     have rh:=pK hh (fun y hy v hv=>hr y v (by simp[Op.operands,hy]) hv)
     obtain⟨hd,hcap,hv⟩:=hr y _ (by simp[Op.operands]) h1
     rcases hv with⟨hz,a,hv⟩|⟨hnz,b,hb,hv⟩
     ·have e1:len=0:=by omega
      subst e1
      have hbd:=yu (P:=P) (w:=w) (cp:=0) rl rh c1 c2 c3 (aat _)
      have z1:l.toNat=0:=by omega
      have z2:h'.toNat=0:=by omega
      have z3:(h'-l).toNat=0:=by omega
      rw[z1,z2] at hbd
      have hrep:af (mkK x bl cap st w) (.c (.ms i sz (off+l.toNat) (h'-l).toNat)) (.slice a 0 0):=⟨hd,by omega, .inl ⟨by omega,a,rfl⟩⟩
      refine Good.pure hs rfl hrep ?_
      simp only[execOp]
      refine dW ?_
      simp only[hv,Instr.sliceAt,Sem.run_bind,run_underlying hu,Result.andThen_ok,Instr.slice,Option.map_none,hbd,aQ w ht]
      simp
     ·have hbd:=yu (P:=P) (w:=w) (cp:=(mkK x bl cap st w).cap i-off) rl rh c1 c2 c3 (by omega)
      have hrep:af (mkK x bl cap st w) (.c (.ms i sz (off+l.toNat) (h'-l).toNat)) (.slice (if(mkK x bl cap st w).cap i-off=l.toNat then some ⟨b,off*sz,none⟩ else some ⟨b,(off+l.toNat)*sz,none⟩) (h'.toNat-l.toNat) ((mkK x bl cap st w).cap i-off-l.toNat)):=by
       refine⟨hd,by omega,?_⟩
       by_cases hml:(mkK x bl cap st w).cap i-off=l.toNat
       ·left
        rw[if_pos hml]
        refine⟨by omega,some ⟨b,off*sz,none⟩,?_⟩
        rw[show h'.toNat-l.toNat=0 by omega,show(mkK x bl cap st w).cap i-off-l.toNat=0 by omega]
       ·right
        rw[if_neg hml]
        refine⟨by omega,b,hb,?_⟩
        rw[show(h'-l).toNat=h'.toNat-l.toNat by omega,show(mkK x bl cap st w).cap i-(off+l.toNat)=(mkK x bl cap st w).cap i-off-l.toNat by omega]
      refine Good.pure hs rfl hrep ?_
      simp only[execOp]
      refine dW ?_
      have ea:(Addr.mk b (off*sz) none).add (l.toNat*t.size)=⟨b,(off+l.toNat)*sz,none⟩:=by rw[gp,c0,abf]
      simp only[hv,Instr.sliceAt,Sem.run_bind,run_underlying hu,Result.andThen_ok,Instr.slice,Option.map_none,hbd,aQ w ht,Option.map_some,ea,Sem.run_pure]
    ·cases h
   ·cases h
  ·cases h
 ·rename_i T y lo hi mx
  split at h
  ·rename_i i sz off len t l h' m h1 ht hl hh hm hid
   rw[aac] at ht
   obtain⟨el,hel,ht⟩:=ht
   have hu:=iJ hel
   obtain⟨_,_,_,_,_,_,_,_,_,g4,g5,_⟩:=eG ht
   split at h
   ·rename_i hc
    cases h
    obtain⟨c0,c1,rfl,rfl,c3⟩:=hc
    obtain⟨hd,hcap,hv⟩:=hr y _ (by simp[Op.operands]) h1
    have rl:=pK hl (fun y hy v hv=>hr y v (by simp[Op.operands,hy]) hv)
    have rh:∃kd,(some hi).map ρ=some (.int kd l):=by
     rcases pK (ρ:=ρ) (k:=mkK x bl cap st w) (lo:=some hi) (d:=l) (show D5 e l (some hi)=_ from hh) (fun y hy v hv=>hr y v (by cases hy;simp[Op.operands]) hv) with⟨h,_⟩|h
     ·cases h
     ·exact h
    have rm:∃kd,(some mx).map ρ=some (.int kd l):=by
     rcases pK (ρ:=ρ) (k:=mkK x bl cap st w) (lo:=some mx) (d:=l) (show D5 e l (some mx)=_ from hm) (fun y hy v hv=>hr y v (by cases hy;simp[Op.operands]) hv) with⟨h,_⟩|h
     ·cases h
     ·exact h
    have go:∀{a:Option Addr} {cp:Nat},ρ y= .slice a len cp→l≤cp→Good x bl cap st w ⟨.c (.ms id sz 0 0),[(id, .arr sz [])],[]⟩ ((execOp ρ ⟨dst, .slice T y lo (some hi) (some mx),type,pos,after,guard⟩).run P w):=by
     intro a cp hv hcp
     have hbd:=IP (P:=P) (w:=w) (len:=len) (cp:=cp) rl rh rm c1 hcp
     obtain⟨bl',cap',a1,a2,a3⟩:=nG a hs hid (sz:=sz) (by omega)
     refine⟨bl',cap',w, .slice a 0 0, .inl ?_,a1,a2,a3⟩
     simp only[execOp]
     refine dW ?_
     simp only[hv,Instr.sliceAt,Sem.run_bind,run_underlying hu,Result.andThen_ok,Instr.slice,hbd,aQ w ht]
     simp
    rcases hv with⟨hz,a,hv⟩|⟨hnz,b,hb,hv⟩
    ·have e1:len=0:=by omega
     subst e1
     exact go hv (by omega)
    ·exact go hv (by omega)
   ·cases h
  ·cases h
 ·cases h
omit [Dr] in
theorem DD {T T' id i sz off len:Nat} {v:AV} {ob:Nat→Option AO} {out:Out} (h:dS P T T' id (.c (.ms i sz off len)) v ob=some out):∃l,out.upd=(i, .dead)::l:=by
 unfold dS at h
 split at h
 ·split at h
  ·split at h
   ·simp only at h
    split at h
    ·cases h;exact⟨_,rfl⟩
    ·cases h
   ·cases h
  ·cases h
 ·cases h
theorem trunc {i sz len:Nat} {xs:List (List C)} (hs:aP x bl cap st w) (hi:get st i=some (.arr sz xs)):
 aP x bl cap (put st i (.arr sz (xs.take len))) w∧(mkK x bl cap st w).le (mkK x bl cap (put st i (.arr sz (xs.take len))) w):=by
 have hon:jC (bl i) w w:=⟨rfl,fun _ _=>rfl,rfl,rfl,rfl,aat _⟩
 have hle:=lw (x:=x) (cap:=cap) (o':= .arr sz (xs.take len)) hi rfl hon
 refine⟨hs.upd hi rfl hon ?_,hle⟩
 obtain⟨h0,h1,h2,h3⟩:=hs.objs i _ hi
 refine⟨by rw[aaK];exact aav (Nat.min_le_right _ _) h0,fun l hl=>h1 l (abE hl),h2,?_⟩
 rcases h3 with h3|⟨b,T,vs,a1,a2,a3,a4⟩
 ·exact .inl h3
 ·refine .inr ⟨b,T,vs,a1,a2,a3,?_⟩
  have key:∀(n:Nat) (xs:List (List C)),(∀l∈xs,l.length=sz)→(xs.take n).flatten=xs.flatten.take ((xs.take n).length*sz):=by
   intro n xs
   induction xs generalizing n with
   |nil=>intro _;simp
   |cons y ys ih=>
    intro hl
    cases n with
    |zero=>simp
    |succ n=>
     have hy:=hl y (by simp)
     rw[List.take_succ_cons,List.flatten_cons,List.flatten_cons,List.length_cons,aaI,ih n fun l hm=>hl l (by simp[hm]),Nat.add_comm _ sz,←hy,List.take_length_add_append]
  rw[key len xs h1]
  have h4:=(a4.mono fun _ _=>ai.le hle).take ((xs.take len).length*sz)
  rw[List.take_take] at h4
  have:(xs.take len).length*sz≤xs.length*sz:=aau _ (by rw[aaK];exact Nat.min_le_right _ _)
  rwa [Nat.min_eq_left this] at h4
theorem UB (hs:aP x bl cap st w) (h:Py P o.op id e (get st)=some r) (hr:∀y u,y∈o.op.operands→e y=some u→af (mkK x bl cap st w) u (ρ y)):Good x bl cap st w ⟨r.1,r.2,[]⟩ ((execOp ρ o).run P w):=by
 obtain⟨dst,op,type,pos,after,guard⟩:=o
 simp only at h hr
 unfold Py at h
 split at h
 ·rename_i y z T T'
  split at h
  ·rename_i i sz len v h1 h2
   split at h
   ·rename_i sz' xs hi
    split at h
    ·split at h
     ·rename_i out heff
      split at h
      ·rename_i hok
       cases h
       have e0:(fun j=>if i=j then some (AO.arr sz' (xs.take len)) else get st j)=get (put st i (.arr sz' (xs.take len))):=by funext j;rw[get_put]
       rw[e0] at heff hok
       obtain⟨hs',hle⟩:=trunc (len:=len) hs hi
       have hobl:=yH hok heff
       obtain⟨bl',cap',w',u,r1,r2,r3,r4⟩:=vY (P:=P) (ty:=type) hs' heff hobl ((hr y _ (by simp[Op.operands,Call.operands]) h1).le hle) ((hr z _ (by simp[Op.operands,Call.operands]) h2).le hle)
       obtain⟨l,hl⟩:=DD heff
       have e1:ah (put st i (.arr sz' (xs.take len))) out.upd=ah st out.upd:=by rw[hl];simp only[ah,N7]
       rw[e1] at r2 r3 r4
       refine⟨bl',cap',w',u, .inl ?_,r2,hle.trans r3 (aat _),r4⟩
       simp only[execOp,resolve,Sem.run_bind,Sem.run_pure,Result.andThen_ok,invoke,builtin]
       have e1:Array.map ρ (⟨[y,z]⟩:Array Operand)= #[ρ y,ρ z]:=by simp
       rw[e1]
       have h1':(Builtin.append_ ⟨[T,T']⟩ type #[ρ y,ρ z]).run P w= .ok u w':=r1
       rw[h1'];rfl
      ·cases h
     ·cases h
    ·cases h
   ·cases h
  ·cases h
 ·cases h
omit [Dr] in
theorem xx:∀{l:List C} {r:List D},Qi l=some r→l=r.map .d
 |[],r,h=>by cases h;rfl
 |c::l,r,h=>by
  cases c<;>simp only[Qi] at h<;>first|(cases h;done)|skip
  split at h
  ·rename_i r' hr'
   cases h
   rw[xx hr',aax]
  ·cases h
omit [Dr] in
theorem Ee:∀{l:List rY} {r:List pG},UF l=some r→l=r.map D7
 |[],r,h=>by cases h;rfl
 |e::l,r,h=>by
  simp only[UF] at h
  split at h
  ·rename_i a b r' h1 h2 h3
   cases h
   obtain⟨⟨f,k⟩,⟨g,v⟩⟩:=e
   simp only at h1 h2
   rw[aax,←Ee h3,xx h1,xx h2]
   rfl
  ·cases h
theorem Pn (hs:aP x bl cap st w) (h:xP P o.op id e (get st)=some r) (hr:∀y u,y∈o.op.operands→e y=some u→af (mkK x bl cap st w) u (ρ y)):Good x bl cap st w ⟨r.1,r.2,[]⟩ ((execOp ρ o).run P w):=by
 obtain⟨dst,op,type,pos,after,guard⟩:=o
 simp only at h hr
 unfold xP at h
 split at h
 ·rename_i T y
  split at h
  ·rename_i m KE h1 hT hid
   split at h
   ·rename_i es hm
    split at h
    ·rename_i l hl
     cases h
     rw[Ee hl] at hm
     have hne:m≠id:=by intro e;rw[e,hid] at hm;cases hm
     have hk:=hs.kill hm
     have lk:=lZ (x:=x) (bl:=bl) (cap:=cap) (w:=w) hm
     have hrep:=Cm hs hm (hr y _ (by simp[Op.operands]) h1)
     have hid':get (put st m .dead) id=none:=by rw[aZ hne];exact hid
     have he:jR P T id (.c (.d (.pm l))) (get (put st m .dead))=some ⟨.c (.ptr id 0),[(id, .iter none l)],[]⟩:=by unfold jR;rw[hT,hid']
     obtain⟨bl',cap',w',u,r1,r2,r3,r4⟩:=yL (P:=P) hk he hrep
     exact⟨bl',cap',w',u, .inl (dW r1),r2,lk.trans r3 (aat _),r4⟩
    ·cases h
   ·cases h
  ·cases h
 ·rename_i y
  split at h
  ·rename_i i h1
   split at h
   ·rename_i cur hi
    cases h
    obtain⟨hdm,b,hb,hit⟩:=hr y _ (by simp[Op.operands]) h1
    obtain⟨b',hbl,hcase⟩:=hs.objs i _ hi
    simp only[mkK] at hb hbl
    rw[hbl] at hb;simp at hb;subst hb
    have hrep:af (mkK x bl cap st w) (.tup [(false,[.d (.v (.bool false))])]) (.tuple #[.bool false]):=⟨[.bool false],rfl, .cons (show dC _ (false,[_]) _ from⟨⟨_,rfl, .v _ rfl⟩,by simp⟩) .nil⟩
    rcases hcase with⟨hl,hc,since,seen,last,hh⟩|⟨mb,ents,clock,seen,hh,hM,hmb,hent,hall,hcur⟩
    ·simp only[mkK] at hh
     have hg:(getObj b').run P w= .ok (.mapIter none since seen last) w:=by simp only[getObj,Sem.run];rw[hh]
     exact Good.pure hs rfl hrep (by simp[execOp,hit,Instr.next,hg])
    ·simp only[mkK] at hh hmb
     have hg:(getObj b').run P w= .ok (.mapIter (some mb) clock seen clock) w:=by simp only[getObj,Sem.run];rw[hh]
     have hgm:(getObj mb).run P w= .ok (.map ents.toArray clock) w:=MapKept.run_getObj_map hmb
     have hL:(ents.filter fun e=>!seen.contains e.born)=[]:=hall.jH
     have e1:ents.toArray.filter (fun e=>!seen.contains e.born)= #[]:=by rw[List.filter_toArray' (by simp),hL]
     have hguard:(!seen.isEmpty&&!ents.toArray.isEmpty&&ents.toArray.all fun e=>decide (e.born≥clock))=false:=by
      cases hE:ents with
      |nil=>simp
      |cons e es=>
       have:e.born<clock:=hent.lt e (by rw[hE];simp)
       have h2:((e::es).toArray.all fun e=>decide (e.born≥clock))=false:=by
        simp only[List.all_toArray,List.all_cons]
        rw[show decide (e.born≥clock)=false by simp;omega];simp
       rw[h2];simp
     refine Good.pure hs rfl hrep ?_
     simp only[execOp,hit,Instr.next,Sem.run_bind,hg,Result.andThen_ok,hgm]
     simp only[hguard,aak,if_false,e1]
     simp[choose,Sem.run,Question.forced]
   ·cases h
  ·cases h
 ·cases h
omit [Dr] in
theorem I8 {α:Type} {a b:Option α} {c:α} (h:YD a b=some c):a=some c∨b=some c:=by
 cases a with
 |none=>exact .inr h
 |some y=>exact .inl h
theorem Ua (hs:aP x bl cap st w) (h:OV P o.op id e (get st)=some r) (hr:∀y u,y∈o.op.operands→e y=some u→af (mkK x bl cap st w) u (ρ y)):Good x bl cap st w ⟨r.1,r.2,[]⟩ ((execOp ρ o).run P w):=by
 unfold OV at h
 split at h
 ·rename_i v hv
  unfold one1 at h
  split at h
  ·rename_i h1
   cases h
   exact Good.pure hs rfl (show af _ (.c (.d (.v v))) v from aS.v v h1) (Pz hv hr)
  ·cases h
 ·split at h
  ·rename_i b hb
   cases h
   unfold SG at hb
   obtain⟨dst,op,type,pos,after,guard⟩:=o
   simp only at hb hr
   split at hb
   ·rename_i T y z T' hpe
    split at hb
    ·rename_i a v h1 h2
     split at hb
     ·rename_i hn
      cases hb
      have hz:=fF h2 (fun v hv=>hr z v (by simp[Op.operands]) hv)
      have:=(BZ hn (hr y _ (by simp[Op.operands]) h1) y z).1
      rw[←hz] at this
      exact Good.pure hs rfl (show af _ (B false) (.bool false) from aS.v _ rfl) (dW this)
     ·cases hb
    ·cases hb
   ·rename_i T y z T' hpe
    split at hb
    ·rename_i a v h1 h2
     split at hb
     ·rename_i hn
      cases hb
      have hz:=fF h2 (fun v hv=>hr z v (by simp[Op.operands]) hv)
      have:=(BZ hn (hr y _ (by simp[Op.operands]) h1) y z).2
      rw[←hz] at this
      exact Good.pure hs rfl (show af _ (B true) (.bool true) from aS.v _ rfl) (dW this)
     ·cases hb
    ·cases hb
   ·cases hb
  ·rcases I8 h with h|h
   ·exact PH hs h hr
   ·rcases I8 h with h|h
    ·exact UB hs h hr
    ·exact Pn hs h hr
omit [Dr] in
theorem zu {v:AV} {ob ob':Nat→Option AO} (h:∀id∈bT v,ob id=ob' id):kX v ob=kX v ob':=by
 unfold kX
 split
 ·rename_i j _ _ _;rw[h j (by simp[bT])]
 ·rfl
omit [Dr] in
theorem Ar {T T' id:Nat} {u v:AV} {ob ob':Nat→Option AO} (hu:∀id∈bT u,ob id=ob' id) (hv:∀id∈bT v,ob id=ob' id):lL P T T' id u v ob=lL P T T' id u v ob':=by
 unfold lL
 rw[sO hv,zu hv]
 have:∀id0 sz off len,u= .c (.ms id0 sz off len)→ob id0=ob' id0:=fun id0 sz off len e=>hu id0 (by rw[e];simp[bT])
 split
 ·split
  ·split
   ·split
    ·rw[this _ _ _ _ rfl]
    ·rfl
   ·rfl
  ·rfl
 ·rfl
omit [Dr] in
theorem J4 {op:Op} {e':Operand→Option AV} {ob ob':Nat→Option AO} (he:∀y∈op.operands,e y=e' y) (hob:∀y∈op.operands,∀v,e y=some v→∀i∈bT v,ob i=ob' i) (hid:ob id=ob' id):OV P op id e ob=OV P op id e' ob':=by
 have hO:∀{lo:Option Operand},(∀y,lo=some y→e y=e' y)→plainO e lo=plainO e' lo:=by
  intro lo h;cases lo with
  |none=>rfl
  |some y=>simp[plainO,h y rfl]
 have hV:∀{lo:Option Operand} {d:Int},(∀y,lo=some y→e y=e' y)→D5 e d lo=D5 e' d lo:=by
  intro lo d h;cases lo with
  |none=>rfl
  |some y=>simp[D5,h y rfl]
 have h1:EW P op e=EW P op e':=by
  unfold EW
  split
  ·rename_i a b c d;rw[he b (by simp[Op.operands]),he c (by simp[Op.operands])]
  ·rename_i a b;rw[he b (by simp[Op.operands])]
  ·rename_i a b c;rw[he c (by simp[Op.operands])]
  ·rename_i T y lo hi mx;rw[he y (by simp[Op.operands]),hO fun z hz=>he z (by simp[Op.operands,hz]),hO fun z hz=>he z (by simp[Op.operands,hz]),hO fun z hz=>he z (by simp[Op.operands,hz])]
  ·rename_i y T;rw[he y (by simp[Op.operands,Call.operands])]
  ·rfl
 have h2:SG P op e=SG P op e':=by
  unfold SG
  split
  ·rename_i T y z T';rw[he y (by simp[Op.operands]),he z (by simp[Op.operands])]
  ·rename_i T y z T';rw[he y (by simp[Op.operands]),he z (by simp[Op.operands])]
  ·rfl
 have h3:xI P op id e ob=xI P op id e' ob':=by
  unfold xI
  split
  ·rename_i T y lo hi
   rw[he y (by simp[Op.operands]),hV fun z hz=>he z (by simp[Op.operands,hz])]
   split
   ·rw[hV (lo:=hi) fun z hz=>he z (by simp[Op.operands,hz])]
   ·rfl
  ·rename_i T y lo hi mx
   rw[he y (by simp[Op.operands]),he hi (by simp[Op.operands]),he mx (by simp[Op.operands]),hV fun z hz=>he z (by simp[Op.operands,hz]),hid]
  ·rfl
 have h4:Py P op id e ob=Py P op id e' ob':=by
  unfold Py
  split
  ·rename_i y z T T'
   have hy:=he y (by simp[Op.operands,Call.operands])
   have hz:=he z (by simp[Op.operands,Call.operands])
   rw[←hy,←hz]
   split
   ·rename_i i sz len v h1 h2
    have hi:ob i=ob' i:=hob y (by simp[Op.operands,Call.operands]) _ h1 i (by simp[bT])
    rw[←hi]
    split
    ·rename_i sz' xs hx
     have hff:∀j,j=i∨j∈bT v→(fun j=>if i=j then some (AO.arr sz' (xs.take len)) else ob j) j=(fun j=>if i=j then some (AO.arr sz' (xs.take len)) else ob' j) j:=by
      intro j hj
      show(if i=j then some (AO.arr sz' (xs.take len)) else ob j)=(if i=j then some (AO.arr sz' (xs.take len)) else ob' j)
      rcases hj with rfl|hj
      ·simp
      ·rw[hob z (by simp[Op.operands,Call.operands]) v h2 j hj]
     have h0:(fun j=>if i=j then some (AO.arr sz' (xs.take len)) else ob j) id=(fun j=>if i=j then some (AO.arr sz' (xs.take len)) else ob' j) id:=by
      show(if i=id then some (AO.arr sz' (xs.take len)) else ob id)=(if i=id then some (AO.arr sz' (xs.take len)) else ob' id)
      rw[hid]
     have hu:∀j∈bT (.c (.ms i sz 0 len)),(fun j=>if i=j then some (AO.arr sz' (xs.take len)) else ob j) j=(fun j=>if i=j then some (AO.arr sz' (xs.take len)) else ob' j) j:=
      fun j hj=>hff j (.inl (by simpa[bT] using hj))
     rw[o6 h0 hu (fun j hj=>hff j (.inr hj)),Ar hu (fun j hj=>hff j (.inr hj))]
    ·rfl
   ·rfl
  ·rfl
 have h5:xP P op id e ob=xP P op id e' ob':=by
  unfold xP
  split
  ·rename_i T y
   rw[←he y (by simp[Op.operands]),←hid]
   split
   ·rename_i m _ hy _ _
    rw[hob y (by simp[Op.operands]) _ hy m (by simp[bT])]
   ·rfl
  ·rename_i y
   rw[←he y (by simp[Op.operands])]
   split
   ·rename_i i hy
    rw[hob y (by simp[Op.operands]) _ hy i (by simp[bT])]
   ·rfl
  ·rfl
 unfold OV
 rw[h1,h2,h3,h4,h5]
end
end Go.Ab
set_option linter.all false
namespace Go.Ab
variable [Dr]
abbrev ku:=FuncId→List AV→vU→Nat→Option (AV×vU×Nat)
def FY (s:S) (y:Operand):Option AV:=
 match ev s y with
 |some (.cond _ _)=>none
 |r=>r
def KC (s:S):List Operand→Option (List AV)
 |[]=>some []
 |y::ys=>
  match FY s y,KC s ys with
  |some v,some vs=>some (v::vs)
  |_,_=>none
def Zg:AV→Option (Nat×List AV×List AV)
 | .c (.fn f caps)=>some (f,[],caps.map fun c=> .c c.toC)
 | .c (.fb f caps)=>some (f,caps.map fun c=> .c c.toC,[])
 | .c (.d (.v (.func (.func f) ⟨[]⟩ ⟨[]⟩)))=>some (f,[],[])
 |_=>none
structure Jw where
 v:AV
 upd:vU
 ids:List Nat
 nx:Nat
def guardE (ops:List Oper) (o:Oper) (s:S):Option Bool:=
 match o.guard with
 |none=>some true
 |some (j,want)=>
  match qL ops s j with
  |some (bs,b)=>some (bG bs (if want then b else !b))
  |none=>none
def FC (st0 st:vU):vU→Bool
 |[]=>true
 |p::ps=>((get st0 p.1).isSome||(get st p.1).isNone)&&FC st0 st ps
def zT:List AV→Option (List Value)
 |[]=>some []
 |v::vs=>
  match iZ (some v),zT vs with
  |some u,some us=>some (u::us)
  |_,_=>none
def XE (P:Program) (f:FuncId) (args:List AV):Option Value:=
 match P.funcs[f]? with
 |some fn=>
  if fn.body.isNone then
   match zT args with
   |some vs=>
    match kK P (callFunc f vs.toArray) with
    |some (.value r)=>if r.oneCell' then some r else none
    |_=>none
   |none=>none
  else none
 |none=>none
def V9 (cf:ku) (P:Program) (s:S) (g:Operand) (asq:List Operand) (nx:Nat):Option Jw:=
 match(FY s g).bind Zg,KC s asq with
 |some (f,c1,c2),some args=>
  match XE P f (c1++(args++c2)) with
  |some r=>some ⟨.c (.d (.v r)),[],[],nx⟩
  |none=>
  match reach s.st 100000 (BU (c1++(args++c2))) [] with
  |some st0=>
   match cf f (c1++(args++c2)) st0 nx with
   |some (r,st1,nx')=>if FC st0 s.st st1 then some ⟨r,st1,st0.map (·.1)++st1.map (·.1),nx'⟩ else none
   |none=>none
  |none=>none
 |_,_=>none
def V8 (op:Op) (s:S):List Nat:=
 if Kz op then [] else op.operands.toList.flatMap fun y=>match FY s y with|some v=>bT v|none=>[]
def QS (op:Op) (s:S):List Nat:=op.operands.toList.flatMap fun y=>match FY s y with|some v=>bT v|none=>[]
def NK (P:Program) (op:Op) (s:S) (nx:Nat):Option Jw:=
 match OV P op nx (FY s) (get s.st) with
 |some r=>some ⟨r.1,r.2,nx::QS op s,nx+1⟩
 |none=>none
def VE (cf:ku) (P:Program) (wr:Bool) (o:Oper) (s:S) (nx:Nat):Option Jw:=
 match o.op with
 | .call {callee:= .value g,args:=⟨asq⟩,argTypes:=_}=>V9 cf P s g asq nx
 | .pick c a b=>
   match FY s c with
   |some (.c (.d (.v (.bool t))))=>
    match FY s (if t then a else b) with
    |some v=>some ⟨v,[],[],nx⟩
    |none=>none
   |_=>none
 |op=>
  match eff P wr op nx (FY s) (get s.st) with
  |some out=>if okB P wr op nx (FY s) (get s.st) then some ⟨out.v,out.upd,nx::V8 op s,nx+1⟩ else NK P op s nx
  |none=>NK P op s nx
def RH (cf:ku) (P:Program) (wr:Bool) (ops:List Oper) (o:Oper) (s:S) (nx:Nat):Option Jw:=
 match guardE ops o s with
 |some true=>VE cf P wr o s nx
 |some false=>some ⟨.cond false (B false),[],[],nx⟩
 |none=>none
def slotsOf:List Operand→List Nat
 |[]=>[]
 | .tmp t::l=>t::slotsOf l
 |_::l=>slotsOf l
def Ew (ops:List Oper) (o:Oper):List Nat:=
 match o.guard with
 |some (j,_)=>match(ops[j]?).bind (·.dst) with
  |some d=>[d]
  |none=>[]
 |none=>[]
def xU (ops:List Oper) (o:Oper) (s:S) (ids:List Nat):List (yg×Option Ct):=
 (slotsOf o.op.operands.toList++Ew ops o).map (fun t=>((true,t),look s (true,t)))++ids.map fun i=>((false,i),look s (false,i))
section
variable {P:Program} {x:X} {ops:List Oper} {o:Oper} {s s':S} {cf:ku} {wr:Bool} {nx:Nat} {r:Jw} {ids:List Nat}
omit [Dr] in
theorem yQ {t:Nat}:∀{l:List Operand},Operand.tmp t∈l→t∈slotsOf l
 |[],h=>by cases h
 |y::l,h=>by
  rcases Z9.1 h with rfl|h
  ·simp[slotsOf]
  ·have:=yQ h
   cases y<;>simp[slotsOf,this]
omit [Dr] in
theorem WO (h:∀p∈xU ops o s ids,look s' p.1=p.2) {y:Operand} (hy:y∈o.op.operands):ev s' y=ev s y:=by
 cases y with
 |tmp t=>
  refine vW (h ((true,t),look s (true,t)) ?_)
  simp only[xU,aay,aaD]
  exact .inl ⟨t, .inl (yQ (by simpa using hy)),rfl⟩
 |_=>rfl
omit [Dr] in
theorem wV (h:∀p∈xU ops o s ids,look s' p.1=p.2) {y:Operand} (hy:y∈o.op.operands):FY s' y=FY s y:=by
 unfold FY;rw[WO h hy]
omit [Dr] in
theorem IW (h:∀p∈xU ops o s ids,look s' p.1=p.2) {i:Nat} (hi:i∈ids):get s'.st i=get s.st i:=
 zN (h ((false,i),look s (false,i)) (by simp only[xU,aay,aaD];exact .inr ⟨i,hi,rfl⟩))
omit [Dr] in
theorem QM (h:∀p∈xU ops o s ids,look s' p.1=p.2):guardE ops o s'=guardE ops o s:=by
 unfold guardE
 cases hg:o.guard with
 |none=>rfl
 |some p=>
  obtain⟨j,want⟩:=p
  simp only
  have:qL ops s' j=qL ops s j:=by
   unfold qL
   cases hd:(ops[j]?).bind (·.dst) with
   |none=>rfl
   |some d=>
    simp only
    rw[vW (h ((true,d),look s (true,d)) (by simp only[xU,aay,aaD];exact .inl ⟨d, .inr (by simp[Ew,hg,hd]),rfl⟩))]
  rw[this]
omit [Dr] in
theorem Ba (h:∀p∈xU ops o s ids,look s' p.1=p.2):∀{l:List Operand},(∀y∈l,y∈o.op.operands)→KC s' l=KC s l
 |[],_=>rfl
 |y::l,hl=>by simp only[KC];rw[wV h (hl y (by simp)),Ba h fun z hz=>hl z (by simp[hz])]
omit [Dr] in
theorem qW {k:K} {a:Act} (he:gB k s.env a.tmps) {y:Operand} {v:AV} (h:FY s y=some v):af k v (a.eval y):=by
 unfold FY at h
 split at h
 ·cases h
 ·exact bJ he h
omit [Dr] in
theorem Bv {k:K} {a:Act} (he:gB k s.env a.tmps):∀{asq:List Operand} {args:List AV},KC s asq=some args→aj (af k) args (asq.map a.eval)
 |[],args,h=>by cases h;exact .nil
 |y::ys,args,h=>by
  simp only[KC] at h
  split at h
  ·rename_i v vs h1 h2
   cases h
   exact .cons (qW he h1) (Bv he h2)
  ·cases h
omit [Dr] in
theorem NH {k:K} {caps:List Cap} {vs:List Value} (h:aj (mM k) caps vs):aj (af k) (caps.map fun c=> .c c.toC) vs:=by
 rw[aj.jO]
 exact h.mono fun c v hc=>Bf.1 hc
omit [Dr] in
theorem Ux {k:K} {v:AV} {u:Value} {f:Nat} {c1 c2:List AV} (h:Zg v=some (f,c1,c2)) (hr:af k v u):
 ∃v1 v2:List Value,u= .func (.func f) ⟨v1⟩ ⟨v2⟩∧aj (af k) c1 v1∧aj (af k) c2 v2:=by
 unfold Zg at h
 split at h
 ·cases h
  obtain⟨vs,e,h⟩:=hr
  exact⟨[],vs,e, .nil,NH h⟩
 ·cases h
  obtain⟨vs,e,h⟩:=hr
  exact⟨vs,[],e,NH h, .nil⟩
 ·cases h
  exact⟨[],[],gG hr, .nil, .nil⟩
 ·cases h
omit [Dr] in
theorem Eh {st0 st:vU}:∀{st1:vU},FC st0 st st1=true→∀p∈st1,ae st0 p.1=true∨get st p.1=none
 |[],_,_,h=>by cases h
 |q::st1,h,p,hp=>by
  simp only[FC,aaj,abe,Option.isNone_iff_eq_none] at h
  rcases Z9.1 hp with rfl|hp
  ·exact h.1
  ·exact Eh h.2 p hp
omit [Dr] in
theorem yG {k:K}:∀{args:List AV} {vs us:List Value},zT args=some vs→aj (af k) args us→us=vs
 |[],vs,us,h,hr=>by cases h;cases hr;rfl
 |v::args,vs,us,h,hr=>by
  simp only[zT] at h
  split at h
  ·rename_i u us' h1 h2
   cases h
   cases hr with
   |cons h3 h4=>
    rw[yG h2 h4]
    unfold iZ at h1
    split at h1
    ·rename_i h5;cases h5;cases h1;rw[dL h3]
    ·cases h1
  ·cases h
def oU (P:Program) (cf:ku):Prop:=∀f args st nx r st' nx',cf f args st nx=some (r,st',nx')→AC P f args st (fun r' s'=>r'=r∧s'=st')
theorem zf (hcf:oU P cf) (h:RH cf P wr ops o s nx=some r) (hf:∀p∈xU ops o s r.ids,look s' p.1=p.2) (hdst:jP o s'.n=true) {a:Act} {w:World} (hsat:Sat x s' a w)
 {K:Act→World→Prop} {Q:Exit→Act→World→Prop} (hK:∀a w,Sat x ⟨s'.n,dB s'.env o.dst r.v,ah s'.st r.upd⟩ a w→K a w):
 if Region.wanted o (yielded ops.toArray a.tmps) then o.wp P a w K Q else K (a.put o.dst undef) w:=by
 have hd:∀i,o.dst=some i→i<s'.n:=fun i hi=>by simpa[jP,hi] using hdst
 obtain⟨bl,cap,hs,he,hdf,hn⟩:=hsat
 have hgd:=QM hf
 have hwant:∀b,guardE ops o s=some b→Region.wanted o (yielded ops.toArray a.tmps)=b:=by
  intro b hb
  rw[←hgd] at hb
  unfold guardE at hb
  split at hb
  ·rename_i hg;cases hb;simp[Region.wanted,hg]
  ·rename_i j want hg
   split at hb
   ·rename_i bs b' hgv
    cases hb
    exact lJ he hg hgv
   ·cases hb
 have fin:∀{out:Out},out.v=r.v→out.upd=r.upd→Good x bl cap s'.st w out ((execOp a.eval o).run P w)→o.wp P a w K Q:=by
  intro out e1 e2 hg
  obtain⟨u,w',h1,h2⟩:=Sat.NC he hdf hn hd hg
  rw[e1,e2] at h2
  unfold Oper.wp
  rcases h1 with h1|⟨h1,rfl⟩
  ·rw[h1];exact hK _ _ h2
  ·rw[h1];exact hK _ _ h2
 have byN:NK P o.op s nx=some r→o.wp P a w K Q:=by
  intro h
  unfold NK at h
  split at h
  ·rename_i r' hr'
   cases h
   simp only at hf
   refine fin (out:=⟨r'.1,r'.2,[]⟩) rfl rfl (Ua (e:=FY s') (id:=nx) hs ?_ fun y v _ hv=>qW he hv)
   rw[←hr']
   refine(J4 (fun y hy=>(wV hf hy).symm) (fun y hy v hv i hi=>(IW hf ?_).symm) (IW hf (by simp)).symm).symm
   refine abb _ ?_
   simp only[QS,aaW]
   exact⟨y,by simpa using hy,by rw[hv];exact hi⟩
  ·cases h
 unfold RH at h
 split at h
 ·rename_i hg
  rw[hwant _ hg,if_pos rfl]
  unfold VE at h
  split at h
  ·-- a call
   rename_i g asq ats hop
   unfold V9 at h
   split at h
   ·rename_i f c1 c2 args hfn hargs
    rw[aac] at hfn
    obtain⟨vg,hvg,hfn⟩:=hfn
    rw[←wV hf (y:=g) (by rw[hop];simp[Op.operands,Call.operands])] at hvg
    rw[←Ba hf (l:=asq) (fun y hy=>by rw[hop];simp[Op.operands,Call.operands,hy])] at hargs
    obtain⟨v1,v2,e1,e2,e3⟩:=Ux hfn (qW he hvg)
    split at h
    ·rename_i v hext
     cases h
     unfold XE at hext
     split at hext
     ·split at hext
      ·split at hext
       ·rename_i vs hvs
        split at hext
        ·rename_i r0 hrun
         split at hext
         ·rename_i h1
          cases hext
          have hev:=yG hvs (e2.append ((Bv he hargs).append e3))
          refine fin (out:=⟨.c (.d (.v v)),[],[]⟩) rfl rfl (Good.pure (out:=⟨.c (.d (.v v)),[],[]⟩) hs rfl (aS.v v h1:aS _ _ (.v v) v) ?_)
          have:=jB hrun w
          rw[←hev] at this
          simpa[execOp,hop,resolve,e1,Deferred.ofValue,invoke] using this
         ·cases hext
        ·cases hext
       ·cases hext
      ·cases hext
     ·cases hext
    split at h
    ·rename_i st0 hr0
     split at h
     ·rename_i v st1 nx' hcall
      split at h
      ·rename_i hfr
       cases h
       simp only at hf hK
       obtain⟨m1,m2,m3,m4⟩:=ES hr0
       have hob:∀i,i∈st0.map (·.1)++st1.map (·.1)→get s'.st i=get s.st i:=fun i hi=>IW hf hi
       have hl:FK s' (c1++(args++c2)) st0:=⟨fun p hp=>by rw[hob p.1 (aa4 _ (aaZ hp))];exact m1 p hp,m3,EM m4⟩
       refine Jb (us:=v1++(asq.map a.eval++v2)) hd hl (hcf _ _ _ _ _ _ _ hcall) hs he hdf hn ?_ (e2.append ((Bv he hargs).append e3)) ?_
       ·simp[execOp,hop,resolve,e1,Deferred.ofValue,invoke]
       ·rintro r' st' ⟨rfl,rfl⟩
        refine⟨fun p hp=>?_,fun a w h=>hK a w h⟩
        rw[hob p.1 (aa0 _ (aaZ hp))]
        exact Eh hfr p hp
      ·cases h
     ·cases h
    ·cases h
   ·cases h
  ·-- a choice
   rename_i c y z hop
   split at h
   ·rename_i t hc
    split at h
    ·rename_i v hv
     cases h
     have hc':=qW he ((wV hf (y:=c) (by rw[hop];simp[Op.operands])).trans hc)
     have hv':=qW he ((wV hf (y:=if t then y else z) (by rw[hop];cases t<;>simp[Op.operands])).trans hv)
     refine fin (out:=⟨v,[],[]⟩) rfl rfl (Good.pure hs rfl hv' ?_)
     have hc2:a.eval c= .bool t:=gG hc'
     simp only[execOp,hop,hc2,asBool]
     cases t<;>simp
    ·cases h
   ·cases h
  ·rename_i hnc hnp
   split at h
   ·rename_i out heff
    split at h
    ·rename_i hok
     cases h
     simp only at hf
     have hobl:=Wn hok heff
     have:eff P wr o.op nx (FY s') (get s'.st)=some out:=by
      rw[←heff]
      refine(xB (fun y hy=>(wV hf hy).symm) (fun hno y hy v hv i hi=>(IW hf ?_).symm) (IW hf (by simp)).symm).symm
      refine abb _ ?_
      unfold V8
      rw[hno]
      simp only[aak,if_false,aaW]
      exact⟨y,by simpa using hy,by rw[hv];exact hi⟩
     exact fin (out:=out) rfl rfl (Gh hs this hobl fun y v _ hv=>qW he hv)
    ·exact byN h
   ·exact byN h
 ·rename_i hg
  cases h
  rw[hwant _ hg,if_neg (by simp)]
  exact hK _ _ ⟨bl,cap,hs,he.dB (fun i hi=>by rw[hn];exact hd i hi) (And.intro (fun h'=>by cases h') (fun _=>rfl)),by rw[Act.put_defers];exact hdf,by rw[Act.bK];exact hn⟩
 ·cases h
end
def Q8 (cf:ku) (P:Program) (wr:Bool) (ops:List Oper):List Oper→S→Nat→Option (List A1×S×Nat)
 |[],s,nx=>some ([],s,nx)
 |o::l,s,nx=>
  if jP o s.n then
   match RH cf P wr ops o s nx with
   |some r=>
    Yy r.v fun v=>fL fQ r.upd fun u=>fN r.nx fun nx'=>P5 s.env o.dst v fun env=>zy s.st u fun st=>
     match Q8 cf P wr ops l ⟨s.n,env,st⟩ nx' with
     |some (As,s',nx'')=>some (⟨xU ops o s r.ids,o.dst.map fun d=>(d,v),u⟩::As,s',nx'')
     |none=>none
   |none=>none
  else none
section
variable {P:Program} {x:X} {ops:List Oper} {cf:ku} {wr:Bool}
omit [Dr] in
theorem Nc {o:Oper} {s:S} {ids:List Nat} {q:yg×Option Ct} (h:q∈xU ops o s ids):q.2=look s q.1:=by
 simp only[xU,aay,aaD] at h
 rcases h with⟨t,_,rfl⟩|⟨t,_,rfl⟩<;>rfl
omit [Dr] in
theorem VT {o:Oper} {s s':S} {rd:List (yg×Option Ct)} {v:AV} {u:vU} (hn:s'.n=s.n):(⟨rd,o.dst.map fun d=>(d,v),u⟩:A1).app s'=⟨s.n,dB s'.env o.dst v,ah s'.st u⟩:=by
 simp only[A1.app,hn]
 cases o.dst<;>rfl
theorem Gg (hcf:oU P cf):∀{l:List Oper} {s s':S} {nx nx':Nat} {As:List A1},Q8 cf P wr ops l s nx=some (As,s',nx')→
 As.length=l.length∧jq As s l.length=s'∧(∀(i:Nat) (A:A1),As[i]? =some A→A.Fits (jq As s i))∧(∀(i:Nat) (o:Oper) (A:A1),l[i]? =some o→As[i]? =some A→A.MR P x s.n ops.toArray o)∧
 ∀{Q:Exit→S→Prop},Q .normal s'→TO P x ops l s Q
 |[],s,s',nx,nx',As,h=>by cases h;exact⟨rfl,rfl,by simp,by simp,fun h=>QI h⟩
 |o::l,s,s',nx,nx',As,h=>by
  simp only[Q8] at h
  split at h
  ·rename_i hd
   split at h
   ·rename_i r hr
    simp only[WJ,vF XC,Dh,RY,Kt] at h
    split at h
    ·rename_i As' s'' nx'' hrec
     cases h
     obtain⟨i1,i2,i3,i4,i5⟩:=Gg hcf hrec
     have shift:∀i,jq (⟨xU ops o s r.ids,o.dst.map fun d=>(d,r.v),r.upd⟩::As') s (i+1)=jq As' ⟨s.n,dB s.env o.dst r.v,ah s.st r.upd⟩ i:=by
      intro i
      induction i with
      |zero=>simp only[jq,List.getElem?_cons_zero];exact VT rfl
      |succ i ih=>
       rw[jq,ih]
       simp only[List.getElem?_cons_succ]
       rfl
     refine⟨by simp[i1],by rw[List.length_cons,shift];exact i2,?_,?_,?_⟩
     ·intro i A hA
      cases i with
      |zero=>simp at hA;subst hA;intro p hp;exact(Nc hp).symm
      |succ i=>rw[shift];exact i3 i A (by simpa using hA)
     ·intro i o' A ho' hA
      cases i with
      |zero=>
       simp at ho' hA;subst ho';subst hA
       intro s1 a w hnn hs1 hf K Q hk
       refine zf hcf hr hf (by rw[hnn];exact hd) hs1 fun a w h=>hk a w ?_
       rw[VT hnn,←hnn];exact h
      |succ i=>exact i4 i o' A (by simpa using ho') (by simpa using hA)
     ·intro Q hQ a w hs
      refine wpList_step fun K hK=>zf hcf hr (fun p hp=>(Nc hp).symm) hd hs fun a w h=>hK a w (i5 hQ a w h)
    ·cases h
   ·cases h
  ·cases h
theorem UA {id:Nat} {l:List Oper} {s s':S} {nx nx':Nat} {Q:Exit→S→Prop} {As:List A1} (hm:P.follows .mixedOrders=true) (hcf:oU P cf)
 (h:Q8 cf P wr l l s nx=some (As,s',nx')) (hc:oM l As=true) (hQ:Q .normal s'):T P x (.region id l.toArray true) s Q:=by
 obtain⟨h1,h2,h3,h4, -⟩:=Gg (x:=x) hcf h
 have hord:=Bc h1 h3 hc
 intro a w hs
 refine wp_region_any hm ?_
 refine AB hord (fun i o A hi hA=>h4 i o A (by simpa using hi) hA) (by simpa[h2] using hQ) _ _ s a _ (by simp) ?_ rfl ?_ ?_ (hs.drew _ (by first|exact Nat.le_succ _|exact Nat.le_add_right _ _|(simp;done)|omega))
 ·intro i o e hi hL he hb
  have hlt:i<l.length:=by simpa using(abq.1 hi).1
  rw[getD_in (by simpa using hlt) true false] at hL
  simp[Array.getD,hlt] at hL
 ·intro r
  have hz:∀i,(Array.replicate l.toArray.size false).getD i false=false:=by
   intro i;simp[Array.getD]
  have:cont As s (fun i=>(Array.replicate l.toArray.size false).getD i false) r l.toArray.size=cont As s (fun i=>(Array.replicate l.toArray.size false).getD i false) r 0:=
   kY (aaA _) (fun i _ _ _=>hz i)
  rw[this];rfl
 ·exact tH
end
abbrev Og:=Code→S→Nat→Option (Exit×S×Nat)
def o9 (cf:ku) (P:Program) (wr:Bool) (ih:Og):Og:=fun c s nx=>
 match c with
 | .skip=>some (.normal,s,nx)
 | .region _ ⟨ops⟩ draw=>
   match Q8 cf P wr ops ops s nx with
   |some (As,s',nx')=>if draw then(if oM ops As then some (.normal,s',nx') else none) else some (.normal,s',nx')
   |none=>none
 | .seq a b=>
   match ih a s nx with
   |some (.normal,s',nx')=>ih b s' nx'
   |r=>r
 | .cond c t e=>
   match FY s c with
   |some (.c (.d (.v (.bool true))))=>ih t s nx
   |some (.c (.d (.v (.bool false))))=>ih e s nx
   |_=>none
 | .block id c=>
   match ih c s nx with
   |some (.exit j,s',nx')=>if j=id then some (.normal,s',nx') else some (.exit j,s',nx')
   |r=>r
 | .loop c=>
   match ih c s nx with
   |some (.normal,s',nx')=>ih (.loop c) s' nx'
   |r=>r
 | .exit id=>some (.exit id,s,nx)
 | .ret=>some (.ret,s,nx)
 | .scope c=>
   match ih c s nx with
   |some (.goto _,_,_)=>none
   |r=>r
 | .label _=>some (.normal,s,nx)
 |_=>none
noncomputable def yV (cf:ku) (P:Program) (wr:Bool) (n:Nat):Og:=Nat.rec (fun _ _ _=>none) (fun _ ih=>o9 cf P wr ih) n
def One (e:Exit) (s:S):Exit→S→Prop:=fun e' s'=>e'=e∧s'=s
section
variable {P:Program} {cf:ku} {wr:Bool}
theorem Qo (hm:P.follows .mixedOrders=true) (hcf:oU P cf) (x:X):∀{n:Nat} {c:Code} {s s':S} {nx nx':Nat} {e:Exit},yV cf P wr n c s nx=some (e,s',nx')→T P x c s (One e s'):=by
 intro n
 induction n using Nat.strongRecOn with
 |_ n ih=>
 intro c s s' nx nx' e h
 cases n with
 |zero=>cases h
 |succ n=>
  replace h:o9 cf P wr (yV cf P wr n) c s nx=some (e,s',nx'):=h
  have seq1:∀{m:Nat} (_:m<n+1) {c:Code} {s:S} {nx:Nat} {e1 s1 nx1} {Q:Exit→S→Prop},yV cf P wr m c s nx=some (e1,s1,nx1)→Q e1 s1→T P x c s Q:=
   by intro m hm c s nx e1 s1 nx1 Q h hq;exact Qn (ih _ hm h) fun e s hh=>by obtain⟨rfl,rfl⟩:=hh;exact hq
  have hn:n<n+1:=Nat.lt_succ_self n
  have hd:∀{y:Operand} {v:AV},FY s y=some v→ev s y=some v:=by
   intro y v hc;unfold FY at hc;split at hc
   ·cases hc
   ·exact hc
  unfold o9 at h
  split at h
  ·cases h;exact Kr ⟨rfl,rfl⟩
  ·rename_i id ops draw
   split at h
   ·rename_i As s1 nx1 hr
    cases draw with
    |true=>
     simp only[if_true] at h
     split at h
     ·rename_i hc
      cases h
      exact UA hm hcf hr hc ⟨rfl,rfl⟩
     ·cases h
    |false=>
     simp only[aak,if_false] at h
     cases h
     exact Jg ((Gg hcf hr).2.2.2.2 ⟨rfl,rfl⟩)
   ·cases h
  ·rename_i a b
   split at h
   ·rename_i s1 nx1 h1
    exact LX (seq1 hn h1 (ih _ hn h))
   ·rename_i hne
    refine LX (seq1 hn h ?_)
    cases e with
    |normal=>exact absurd h (hne _ _)
    |_=>exact⟨rfl,rfl⟩
  ·rename_i c t e'
   split at h
   ·rename_i hc
    exact xJ (b:=true) (hd hc) (fun _=>ih _ hn h) (fun h=>by cases h)
   ·rename_i hc
    exact xJ (b:=false) (hd hc) (fun h=>by cases h) (fun _=>ih _ hn h)
   ·cases h
  ·rename_i id c
   split at h
   ·rename_i j s1 nx1 h1
    split at h
    ·rename_i e1;cases h;subst e1;exact zO (seq1 hn h1 (IV ⟨rfl,rfl⟩))
    ·rename_i e1;cases h;exact zO (seq1 hn h1 (Eo e1 ⟨rfl,rfl⟩))
   ·rename_i hne
    refine zO (seq1 hn h ?_)
    cases e with
    |exit j=>exact absurd h (hne _ _ _)
    |_=>exact⟨rfl,rfl⟩
  ·rename_i c
   have h0:yV cf P wr (n+1) (.loop c) s nx=some (e,s',nx'):=h
   refine aW (ι:=Nat×S×Nat) (fun p=>p.2.1) (fun p=>yV cf P wr p.1 (.loop c) p.2.1 p.2.2=some (e,s',nx')∧p.1≤n+1) (fun p=>p.1) (n+1,s,nx) ⟨h0,aat _⟩ (mZ.refl _ _) ?_
   rintro⟨m,s2,nx2⟩ ⟨hi,hm'⟩
   simp only at hi hm'⊢
   cases m with
   |zero=>cases hi
   |succ m=>
    replace hi:o9 cf P wr (yV cf P wr m) (.loop c) s2 nx2=some (e,s',nx'):=hi
    have hlt:m<n+1:=by omega
    simp only[o9] at hi
    split at hi
    ·rename_i s1 nx1 h1
     exact seq1 hlt h1 ⟨(m,s1,nx1),⟨hi,by simp;omega⟩,by simp,mZ.refl _ _⟩
    ·rename_i hne
     refine seq1 hlt hi ?_
     cases e with
     |normal=>exact absurd hi (hne _ _)
     |_=>exact⟨rfl,rfl⟩
  ·cases h;exact Qe ⟨rfl,rfl⟩
  ·cases h;exact We ⟨rfl,rfl⟩
  ·rename_i c
   split at h
   ·cases h
   ·rename_i hne
    refine Ue ?_ (ih _ hn h)
    intro l s1 hh
    obtain⟨rfl,rfl⟩:=hh
    exact hne _ _ _ h
  ·cases h;exact Ud ⟨rfl,rfl⟩
  ·cases h
end
def LD (P:Program) (s:S) (rs:List ResultVar):Option AV:=
 match zx P rs s with
 |some (r,_)=>if okRet P s rs then some r else none
 |none=>none
where
 okRet (P:Program) (s:S):List ResultVar→Bool
  |[]=>true
  | .tmp _::rs=>okRet P s rs
  | .cell a T::rs=>((get s.env a).elim true fun v=>Gi P T v (get s.st))&&okRet P s rs
def Jf (cf:ku) (P:Program) (wr:Bool) (run:Og):ku:=fun f args st nx=>
 match P.funcs[f]? with
 |some fn=>
  match fn.body with
  |some c=>
   if args.length≤fn.ntmps then
    match run c ⟨fn.ntmps,(List.range args.length).zip args,st⟩ nx with
    |some (e,s,nx')=>
     match e,LD P s fn.results.toList with
     | .ret,some r=>fin st s r nx'
     | .normal,some r=>fin st s r nx'
     |_,_=>none
    |none=>none
   else none
  |none=>none
 |none=>none
where
 fin (st:vU) (s:S) (r:AV) (nx:Nat):Option (AV×vU×Nat):=
  match reach s.st 100000 (Ny r++st.map (·.1)) [] with
  |some st'=>some (r,st',nx)
  |none=>none
noncomputable def P6 (P:Program) (wr:Bool) (kf:ku) (n d:Nat):ku:=
 Nat.rec (fun _ _ _ _=>none) (fun _ ih f args st nx=>
  match kf f args st nx with
  |some r=>some r
  |none=>Jf ih P wr (yV ih P wr n) f args st nx) d
section
variable {P:Program} {wr:Bool} {kf:ku}
omit [Dr] in
theorem xE {s:S}:∀{rs:List ResultVar} {ps:List (Bool×List C)} {obl:List Prop},mJ P s rs=some (ps,obl)→LD.okRet P s rs=true→All obl
 |[],ps,obl,h,_=>by cases h;trivial
 |r::rs,ps,obl,h,hk=>by
  simp only[mJ] at h
  split at h
  ·rename_i out ho
   split at h
   ·rename_i p ps' obl' _ h2
    cases h
    cases r with
    |tmp t=>
     simp only[resV,CJ,aap] at ho
     obtain⟨v,_,rfl⟩:=ho
     exact xE h2 hk
    |cell c T=>
     simp only[LD.okRet,aaj] at hk
     simp only[resV,aac] at ho
     obtain⟨v,hv,ho⟩:=ho
     rw[hv] at hk
     have h3:=xE h2 hk.2
     have h1:=xR hk.1 ho
     generalize out.obl=l at h1
     induction l with
     |nil=>exact h3
     |cons p l ih=>exact⟨h1.1,ih h1.2⟩
   ·cases h
  ·cases h
omit [Dr] in
theorem U0 {s:S} {rs:List ResultVar} {r:AV} (h:LD P s rs=some r):∃obl,zx P rs s=some (r,obl)∧All obl:=by
 unfold LD at h
 split at h
 ·rename_i r' obl hr
  split at h
  ·rename_i hk
   cases h
   refine⟨obl,hr,?_⟩
   unfold zx at hr
   split at hr
   ·rename_i rv
    simp only[aap] at hr
    obtain⟨out,ho,e⟩:=hr
    cases e
    cases rv with
    |tmp t=>
     simp only[resV,CJ,aap] at ho
     obtain⟨v,_,rfl⟩:=ho
     trivial
    |cell c T=>
     simp only[LD.okRet,aaj] at hk
     simp only[resV,aac] at ho
     obtain⟨v,hv,ho⟩:=ho
     rw[hv] at hk
     exact xR hk.1 ho
   ·simp only[aap] at hr
    obtain⟨⟨ps,obl'⟩,ho,e⟩:=hr
    cases e
    exact xE ho hk
  ·cases h
 ·cases h
theorem Ui (hm:P.follows .mixedOrders=true) (hN:∀(f:Nat) (fn:Func),P.funcs[f]? =some fn→(fn.name=="runtime.NumGoroutine")=false) (hk:oU P kf) (n:Nat):∀d,oU P (P6 P wr kf n d):=by
 intro d
 induction d with
 |zero=>intro f args st nx r st' nx' h;cases h
 |succ d ih=>
  intro f args st nx r st' nx' h
  replace h:(match kf f args st nx with|some r=>some r|none=>Jf (P6 P wr kf n d) P wr (yV (P6 P wr kf n d) P wr n) f args st nx)=some (r,st',nx'):=h
  split at h
  ·rename_i hkf;cases h;exact hk _ _ _ _ _ _ _ hkf
  ·unfold Jf at h
   split at h
   ·rename_i fn hfn
    split at h
    ·rename_i c hc
     split at h
     ·rename_i hlen
      split at h
      ·rename_i e s nx1 hrun
       have key:∀r0,LD P s fn.results.toList=some r0→Jf.fin st s r0 nx1=some (r,st',nx')→(e= .ret∨e= .normal)→AC P f args st (fun r' s'=>r'=r∧s'=st'):=by
        intro r0 hr0 hfin he
        unfold Jf.fin at hfin
        split at hfin
        ·rename_i st1 hre
         cases hfin
         obtain⟨m1,m2,m3,m4⟩:=ES hre
         obtain⟨obl,hrv,hobl⟩:=U0 hr0
         refine AA hfn hc (hN _ _ hfn) hlen fun x hx=>Qn (Qo hm ih x hrun) ?_
         rintro e' s' ⟨rfl,rfl⟩
         refine⟨he,r,obl,hrv,hobl,st',⟨fun p hp=>by rw[aB];exact m1 p hp,m2,m3,fun id hid=>⟨?_,rfl⟩⟩,BQ fun i hi=>m4 i (aa4 _ hi),rfl,rfl⟩
         have:=hx id hid
         refine m4 id (aa0 _ ?_)
         simp only[ae,aaq] at this
         obtain⟨o,ho⟩:=this
         exact aaD.2 ⟨_,get_mem ho,rfl⟩
        ·cases hfin
       split at h
       ·rename_i hr0;exact key _ hr0 h (.inl rfl)
       ·rename_i hr0;exact key _ hr0 h (.inr rfl)
       ·cases h
      ·cases h
     ·cases h
    ·cases h
   ·cases h
end
end Go.Ab
namespace Go.Proofs.YtpoodoknkbojgaaGreatDoor
section
open Go.Ab Tys
variable [Dr]
end
section
open Go.Ab
structure Cmp {α:Type} (c:α→α→Int):Prop where
 refl:∀x,c x x=0
 neg:∀x y,c x y<0→0<c y x
 pos:∀x y,0<c x y→c y x<0
 eql:∀x y z,c x y=0→c x z=c y z
 eqr:∀x y z,c x y=0→c z x=c z y
 trans:∀x y z,c x y<0→c y z<0→c x z<0
theorem Cmp.on {α β:Type} {c:β→β→Int} (h:Cmp c) (f:α→β):Cmp fun x y=>c (f x) (f y):=
 ⟨fun x=>h.refl _,fun x y=>h.neg _ _,fun x y=>h.pos _ _,fun x y z=>h.eql _ _ _,fun x y z=>h.eqr _ _ _,fun x y z=>h.trans _ _ _⟩
theorem Cmp.of {α:Type} {c:α→α→Int} (refl:∀x,c x x=0) (neg:∀x y,c x y<0→0<c y x) (pos:∀x y,0<c x y→c y x<0) (eq:∀x y,c x y=0→x=y) (trans:∀x y z,c x y<0→c y z<0→c x z<0):Cmp c:=
 ⟨refl,neg,pos,fun x y z h=>by rw[eq x y h],fun x y z h=>by rw[eq x y h],trans⟩
section
variable {d:gI} (hg:Good d.revs) (hN:d.revs.length≤512)
include hg hN
end
end
end Go.Proofs.YtpoodoknkbojgaaGreatDoor
