/- A part of the proof. -/
import Derived.Test.YtcpgicfphakdaaaGreatDoorRAbAr
import Derived.Test.YtcpgicfphakdaaaGreatDoorRAbJn
import Derived.Shelf.Spec.SlicesGrow
set_option maxRecDepth 100000
set_option maxHeartbeats 8000000
set_option linter.all false
namespace Go.Proofs.YtcpgicfphakdaaaGreatDoor
open Go.Ab
structure SS where
 car:bf→Prop
 con:bf→Prop
 cre:bf→Prop
def SS0:SS:=⟨fun _=>False,fun _=>False,fun _=>False⟩
def Hq (rs:List iD) (A:bf→SS) (b f g:bf):Prop:=
 (A b).car g∨(∃r∈rs,(r.how=1∧(A ⟨r.frm,r.last⟩).car g)∨(¬r.how=1∧¬r.how=3∧∃n,r.first≤n∧n≤r.last∧(A ⟨r.frm,n⟩).con g))∨((rs=[]∨∃r∈rs,r.how=4)∧g=f)
def stepS (rs:List iD) (A:bf→SS) (v:Rev):SS:=
 ⟨Hq rs A (df v) (fileOf v),fun g=>Hq rs A (df v) (fileOf v) g∧¬(A (df v)).car g,
   fun g=>(A (df v)).cre g∨(∃r∈rs,r.how=3∧∃n,r.first≤n∧n≤r.last∧(A ⟨r.frm,n⟩).con g)∨Hq rs A (df v) (fileOf v) g⟩
def gB (d:bJ):Nat→bf→SS
 |0=>fun _=>SS0
 |k+1=>
  match d.revs[k]? with
  |none=>gB d k
  |some v=>if v.act=5 then gB d k else fun f=>if f=fileOf v then stepS (jK d (fileOf v)) (gB d k) v else gB d k f
def rG (d:bJ) (x:Int) (g:bf):Prop:=∃w,d.revs[x.toNat]? =some w∧fileOf w=g
def VP (d:bJ) (L:iE) (s:List (Option (List Int))) (f g:bf):Prop:=∃i x,ai L.index f=some i∧x∈(s.getD i.toNat none).getD []∧rG d x g
structure RY (d:bJ) (A:bf→SS) (L:iE):Prop where
 car:∀f g,(A f).car g↔VP d L L.car f g
 con:∀f g,(A f).con g↔VP d L L.con f g
 cre:∀f g,(A f).cre g↔VP d L L.cre f g
theorem Ji {d:bJ} (hg:Good d.revs) {x y:Int} {g:bf} (hx:0≤x) (hy:0≤y) (h1:rG d x g) (h2:rG d y g):x=y:=by
 obtain⟨w,a1,a2⟩:=h1
 obtain⟨w',b1,b2⟩:=h2
 have:=bQ hg a1 b1 (a2.trans b2.symm)
 omega
theorem OC {d:bJ} {c:List Int} {s:List (Option (List Int))} (h:Uni c s) (g:bf):(∃x∈c,rG d x g)↔∃o∈s,∃x∈o.getD [],rG d x g:=by
 constructor
 ·rintro⟨x,hx,hf⟩
  obtain⟨o,ho,hxo⟩:=(h x).1 hx
  exact⟨o,ho,x,hxo,hf⟩
 ·rintro⟨o,ho,x,hx,hf⟩
  exact⟨x,(h x).2 ⟨o,ho,hx⟩,hf⟩
theorem QJ {d:bJ} (hg:Good d.revs) (hN:d.revs.length≤512) {k:Nat} {L:iE} {me:List (Int×List Int)} (hI:lq d k L me) {A:bf→SS} (hR:RY d A L) (r:iD) (g:bf):
 (∃o∈jA L r,∃x∈o.getD [],rG d x g)↔∃n,r.first≤n∧n≤r.last∧(A ⟨r.frm,n⟩).con g:=by
 constructor
 ·rintro⟨o,ho,x,hx,hf⟩
  obtain⟨j,i,h1,h2,h3,h4,h5,rfl⟩:=(yP L r o).1 ho
  exact⟨j,h1,h3,(hR.con _ _).2 ⟨i,x,h5,hx,hf⟩⟩
 ·rintro⟨n,h1,h2,h3⟩
  obtain⟨i,x,g1,g2,g3⟩:=(hR.con _ _).1 h3
  obtain⟨j,w,e1,e2,e3,e4⟩:=(hI.ix _ _).1 g1
  have hn:=hg.num j w e3
  have hj:=(List.getElem?_eq_some_iff.1 e3).1
  have:w.num=n:=by have:=congrArg bf.num e4;simpa[fileOf] using this
  exact⟨_,(yP L r _).2 ⟨n,i,h1,by omega,h2,by omega,g1,rfl⟩,x,g2,g3⟩
theorem QM {d:bJ} (hg:Good d.revs) (hN:d.revs.length≤512) {k:Nat} {L:iE} {me:List (Int×List Int)} (h:jJ d k L me):RY d (gB d k) L:=by
 induction h with
 |zero=>constructor<;>(intro f g;simp[gB,SS0,VP,yU,ai])
 | @away k L me v h hv h5 ih=>
   have hI:=h.inv hg
   have hs:gB d (k+1)=gB d k:=by simp only[gB,hv,h5,if_true]
   rw[hs]
   have key:∀(s:List (Option (List Int))),s.getD k none=none→∀f g,VP d (Ag (aV L k v) (fileOf v) k) s f g↔VP d L s f g:=by
    intro s hsk f g
    unfold VP
    show(∃i x,ai (fV L.index (fileOf v) (k:Int)) f=some i∧_)↔_
    rw[fA]
    by_cases e:f=fileOf v
    ·subst e
     rw[if_pos rfl]
     constructor
     ·rintro⟨i,x,h1,h2,_⟩
      cases h1;rw[Int.toNat_natCast,hsk] at h2;simp at h2
     ·rintro⟨i,x,h1,h2,_⟩
      obtain⟨j,w,_,g2,g3,g4⟩:=(hI.ix _ _).1 h1
      have:=bQ hg g3 hv g4;omega
    ·rw[if_neg e]
   obtain⟨u1,u2,u3⟩:=hI.un k (Nat.le_refl _)
   exact⟨fun f g=>by rw[ih.car,←key L.car u1];rfl,fun f g=>by rw[ih.con,←key L.con u2];rfl,fun f g=>by rw[ih.cre,←key L.cre u3];rfl⟩
 | @Xt k L me v h hv h5 c m cr hA ih=>
   have hI:=h.inv hg
   have hk:k<d.revs.length:=(List.getElem?_eq_some_iff.1 hv).1
   have hs:gB d (k+1)=fun f=>if f=fileOf v then stepS (jK d (fileOf v)) (gB d k) v else gB d k f:=by simp only[gB,hv,h5,if_false]
   rw[hs]
   generalize gB d k=A at*
   generalize hrs:jK d (fileOf v)=rs at*
   have hbefore:Bv (aV L k v) k=(match ai L.index (df v) with|some u=>L.car.getD u.toNat none|none=>none)∧IA (aV L k v) k=(match ai L.index (df v) with|some u=>L.cre.getD u.toNat none|none=>none):=by
    have hp:(aV L k v).prev.getD k 0=lC L v:=by
     show(L.prev.set k _).getD k 0=_
     rw[iO _ _ _ _ _ (by rw[hI.lp];exact hk),if_neg h5,if_pos rfl]
    rcases hI.look hg hv h5 with⟨h1,h2,h3⟩|⟨h1,u,w,a1,a2,a3,a4,a5,a6,a7,a8,a9⟩
    ·rw[Bv,IA,hp,h2];simp[lC,h3]
    ·rw[Bv,IA,hp,a6];simp only[lC,a7]
     rw[if_pos (by omega),if_pos (by omega)];exact⟨rfl,rfl⟩
   have hbc:∀g,(∃x∈(Bv (aV L k v) k).getD [],rG d x g)↔(A (df v)).car g:=by
    intro g
    rw[ih.car,hbefore.1,VP]
    cases ai L.index (df v) with
    |none=>simp
    |some u=>simp
   have hbr:∀g,(∃x∈(IA (aV L k v) k).getD [],rG d x g)↔(A (df v)).cre g:=by
    intro g
    rw[ih.cre,hbefore.2,VP]
    cases ai L.index (df v) with
    |none=>simp
    |some u=>simp
   have hcont:∀r g,(∃o∈jA (aV L k v) r,∃x∈o.getD [],rG d x g)↔∃n,r.first≤n∧n≤r.last∧(A ⟨r.frm,n⟩).con g:=fun r g=>by
    have e:jA (aV L k v) r=jA L r:=by
     have:∀(n:Nat) (q:Int),mr (aV L k v) r.frm q n=mr L r.frm q n:=by
      intro n;induction n with
      |zero=>intro q;rfl
      |succ n ihn=>intro q;simp only[mr,ihn];rfl
     simp only[jA,this]
    rw[e];exact QJ hg hN hI ih r g
   have hbd:∀x,x∈c∨x∈m∨x∈cr→0≤x:=Yo hA (fun x=>0≤x) (by omega) (fun j x hx=>(hI.bd j x hx).1)
   have hbb:∀x,x∈(Bv (aV L k v) k).getD []→0≤x:=by
    intro x hx
    unfold Bv at hx
    split at hx
    ·exact(hI.bd _ x (.inl hx)).1
    ·simp at hx
   have hcar:∀g,(∃x∈c,rG d x g)↔Hq rs A (df v) (fileOf v) g:=by
    intro g
    rw[OC hA.car g,Hq]
    constructor
    ·rintro⟨o,ho,x,hx,hf⟩
     rcases(nJ _ k rs o).1 ho with rfl|⟨r,hr,⟨r1,i,ri,rfl⟩|⟨r1,r3,ho⟩⟩|⟨hor,rfl⟩
     ·exact .inl ((hbc g).1 ⟨x,hx,hf⟩)
     ·exact .inr (.inl ⟨r,hr, .inl ⟨r1,(ih.car _ _).2 ⟨i,x,ri,hx,hf⟩⟩⟩)
     ·exact .inr (.inl ⟨r,hr, .inr ⟨r1,r3,(hcont r g).1 ⟨o,ho,x,hx,hf⟩⟩⟩)
     ·simp at hx;subst hx
      obtain⟨w,hw,e⟩:=hf
      rw[Int.toNat_natCast,hv] at hw;cases hw
      exact .inr (.inr ⟨hor,e.symm⟩)
    ·rintro(hb|⟨r,hr,⟨r1,hc⟩|⟨r1,r3,hc⟩⟩|⟨hor,rfl⟩)
     ·obtain⟨x,hx,hf⟩:=(hbc g).2 hb
      exact⟨_,(nJ _ k rs _).2 (.inl rfl),x,hx,hf⟩
     ·obtain⟨i,x,h1,h2,h3⟩:=(ih.car _ _).1 hc
      exact⟨_,(nJ _ k rs _).2 (.inr (.inl ⟨r,hr, .inl ⟨r1,i,h1,rfl⟩⟩)),x,h2,h3⟩
     ·obtain⟨o,ho,x,hx,hf⟩:=(hcont r g).2 hc
      exact⟨o,(nJ _ k rs _).2 (.inr (.inl ⟨r,hr, .inr ⟨r1,r3,ho⟩⟩)),x,hx,hf⟩
     ·exact⟨_,(nJ _ k rs _).2 (.inr (.inr ⟨hor,rfl⟩)),k,by simp,v,by rw[Int.toNat_natCast];exact hv,rfl⟩
   have hcon:∀g,(∃x∈m,rG d x g)↔Hq rs A (df v) (fileOf v) g∧¬(A (df v)).car g:=by
    intro g
    rw[←hcar g,←hbc g]
    constructor
    ·rintro⟨x,hx,hf⟩
     obtain⟨h1,h2⟩:=(hA.con x).1 hx
     refine⟨⟨x,h1,hf⟩,?_⟩
     rintro⟨y,hy,hfy⟩
     have:=Ji hg (hbd x (.inl h1)) (hbb y hy) hf hfy
     subst this;exact h2 hy
    ·rintro⟨⟨x,hx,hf⟩,hn⟩
     exact⟨x,(hA.con x).2 ⟨hx,fun h=>hn ⟨x,h,hf⟩⟩,hf⟩
   have hcre:∀g,(∃x∈cr,rG d x g)↔(A (df v)).cre g∨(∃r∈rs,r.how=3∧∃n,r.first≤n∧n≤r.last∧(A ⟨r.frm,n⟩).con g)∨Hq rs A (df v) (fileOf v) g:=by
    intro g
    rw[OC hA.cre g]
    constructor
    ·rintro⟨o,ho,x,hx,hf⟩
     rcases List.mem_append.1 ho with ho|ho
     ·rcases(uQ _ k rs o).1 ho with rfl|⟨r,hr,r3,ho⟩
      ·exact .inl ((hbr g).1 ⟨x,hx,hf⟩)
      ·exact .inr (.inl ⟨r,hr,r3,(hcont r g).1 ⟨o,ho,x,hx,hf⟩⟩)
     ·simp at ho;subst ho
      exact .inr (.inr ((hcar g).1 ⟨x,hx,hf⟩))
    ·rintro(hb|⟨r,hr,r3,hc⟩|hc)
     ·obtain⟨x,hx,hf⟩:=(hbr g).2 hb
      exact⟨_,List.mem_append.2 (.inl ((uQ _ k rs _).2 (.inl rfl))),x,hx,hf⟩
     ·obtain⟨o,ho,x,hx,hf⟩:=(hcont r g).2 hc
      exact⟨o,List.mem_append.2 (.inl ((uQ _ k rs _).2 (.inr ⟨r,hr,r3,ho⟩))),x,hx,hf⟩
     ·obtain⟨x,hx,hf⟩:=(hcar g).2 hc
      exact⟨some c,List.mem_append.2 (.inr (by simp)),x,hx,hf⟩
   have key:∀(s:List (Option (List Int))) (n:List Int) (B B':bf→bf→Prop),s.length=d.revs.length→(∀f g,B f g↔VP d L s f g)→(∀g,(∃x∈n,rG d x g)↔B' (fileOf v) g)→(∀f g,¬f=fileOf v→(B' f g↔B f g))→
    ∀f g,B' f g↔VP d (Ag (zX (aV L k v) k c m cr) (fileOf v) k) (s.set k (some n)) f g:=by
    intro s n B B' hl hB hn hB' f g
    unfold VP
    show _↔∃i x,ai (fV L.index (fileOf v) (k:Int)) f=some i∧_
    rw[fA]
    by_cases e:f=fileOf v
    ·subst e
     rw[if_pos rfl,←hn g]
     constructor
     ·rintro⟨x,hx,hf⟩
      exact⟨k,x,rfl,by rw[Int.toNat_natCast,iO _ _ _ _ _ (by omega),if_pos rfl];exact hx,hf⟩
     ·rintro⟨i,x,h1,h2,h3⟩
      cases h1
      rw[Int.toNat_natCast,iO _ _ _ _ _ (by omega),if_pos rfl] at h2
      exact⟨x,h2,h3⟩
    ·rw[if_neg e,hB' f g e,hB,VP]
     constructor
     ·rintro⟨i,x,h1,h2,h3⟩
      obtain⟨j,w,rfl,g2,_⟩:=(hI.ix _ _).1 h1
      exact⟨j,x,h1,by rw[Int.toNat_natCast,iO _ _ _ _ _ (by omega),if_neg (by omega)];simpa using h2,h3⟩
     ·rintro⟨i,x,h1,h2,h3⟩
      obtain⟨j,w,rfl,g2,_⟩:=(hI.ix _ _).1 h1
      rw[Int.toNat_natCast,iO _ _ _ _ _ (by omega),if_neg (by omega)] at h2
      exact⟨j,x,h1,by simpa using h2,h3⟩
   refine⟨?_,?_,?_⟩
   ·exact key L.car c (fun f g=>(A f).car g) _ hI.lc ih.car (fun g=>by rw[if_pos rfl];exact hcar g) (fun f g e=>by rw[if_neg e])
   ·exact key L.con m (fun f g=>(A f).con g) _ hI.lo ih.con (fun g=>by rw[if_pos rfl];exact hcon g) (fun f g e=>by rw[if_neg e])
   ·exact key L.cre cr (fun f g=>(A f).cre g) _ hI.lr ih.cre (fun g=>by rw[if_pos rfl];exact hcre g) (fun f g e=>by rw[if_neg e])
theorem iQ {d:bJ} (hg:Good d.revs) {p:ByteArray} {n:Int} {w:Rev}:lF d p n=some w↔∃j:Nat,d.revs[j]? =some w∧fileOf w=⟨p,n⟩:=by
 constructor
 ·intro h
  obtain⟨h1,h2,h3⟩:=AY h
  obtain⟨j,hj⟩:=List.getElem?_of_mem h1
  exact⟨j,hj,by simp[fileOf,h2,h3]⟩
 ·rintro⟨j,hj,he⟩
  simp only[fileOf,bf.mk.injEq] at he
  cases h:lF d p n with
  |none=>
   exfalso
   have:=List.find?_eq_none.1 h w (by simp only[log,List.mem_filter];exact⟨List.mem_of_getElem? hj,by simp[he.1]⟩)
   simp[he.2] at this
  |some u=>
   obtain⟨h1,h2,h3⟩:=AY h
   obtain⟨i,hi⟩:=List.getElem?_of_mem h1
   have:=bQ hg hi hj (by simp[fileOf,h2,h3,he.1,he.2])
   subst this;rw[hi] at hj;exact hj
theorem jO {d:bJ} {v:Rev} (h1:v.act=1):jG d v=none:=by simp[jG,h1]
theorem JV {d:bJ} (hg:Good d.revs) (hN:d.revs.length≤512) {k:Nat} {v:Rev} (hv:d.revs[k]? =some v) (h1:¬v.act=1):jG d v=lF d (df v).path (df v).num:=by
 have hn:=hg.num k v hv
 have hk:=(List.getElem?_eq_some_iff.1 hv).1
 unfold jG df
 rw[if_neg h1,if_neg h1]
 split
 ·rfl
 ·rw[Uu (by omega) (by omega)]
section
variable {d:bJ} (hg:Good d.revs) (hN:d.revs.length≤512) {L:iE} {me:List (Int×List Int)} (hI:lq d d.revs.length L me)
include hg hN hI
theorem yh:∀(n j:Nat) (v:Rev),j<n→d.revs[j]? =some v→¬v.act=5→∃(r:Nat) (w:Rev),L.fst.getD j 0=(r:Int)∧d.revs[r]? =some w∧first d v=fileOf w
 |0,j,v,h,_,_=>by omega
 |n+1,j,v,h,hv,h5=>by
  have hj:=(List.getElem?_eq_some_iff.1 hv).1
  rcases hI.pm j v hj hv h5 with⟨u,w,a1,a2,a3,a4,a5,a6,a7,a8⟩|⟨h1,h2,h3⟩
  ·have hp:jG d v=some w:=by rw[JV hg hN hv a6];exact(iQ hg).2 ⟨u,a3,a5⟩
   rw[zD hp a7,a8]
   exact yh n u w (by omega) a3 a4
  ·exact⟨j,v,h3,hv,iq (jO h1)⟩
theorem uZ {i j:Nat} {u v:Rev} (hu:d.revs[i]? =some u) (hv:d.revs[j]? =some v) (u5:¬u.act=5) (v5:¬v.act=5):L.fst.getD i 0=L.fst.getD j 0↔first d u=first d v:=by
 obtain⟨r,w,a1,a2,a3⟩:=yh hg hN hI (i+1) i u (by omega) hu u5
 obtain⟨r',w',b1,b2,b3⟩:=yh hg hN hI (j+1) j v (by omega) hv v5
 rw[a1,b1,a3,b3]
 constructor
 ·intro h
  have:r=r':=by omega
  subst this;rw[a2] at b2;cases b2;rfl
 ·intro h;rw[bQ hg a2 b2 h]
omit hN hI in
theorem Ur {i j:Nat} {u v:Rev} (hu:d.revs[i]? =some u) (hv:d.revs[j]? =some v) (u5:¬u.act=5) (v5:¬v.act=5) (u1:¬u.act=1) (v1:¬v.act=1) (h:df u=df v):i=j:=by
 have aux:∀{i j:Nat} {u v:Rev},d.revs[i]? =some u→d.revs[j]? =some v→¬v.act=5→¬u.act=1→¬v.act=1→u.act=4→¬v.act=4→df u=df v→False:=by
  intro i j u v hu hv v5 u1 v1 u4 v4 h
  obtain⟨a,w,w1,w2,w3,w4⟩:=hg.away i u hu u4
  simp only[df,u4,v1,v4,if_false,if_true,bf.mk.injEq] at h
  simp at h
  have:=bQ hg w1 hv (by simp only[fileOf,w2,w3,h.1,h.2];congr 1;omega)
  subst this;rw[w1] at hv;cases hv;exact v5 w4
 by_cases u4:u.act=4
 ·by_cases v4:v.act=4
  ·simp only[df,u4,v4,if_true,bf.mk.injEq] at h
   simp at h
   rcases Nat.lt_trichotomy i j with hlt|e|hlt
   ·exact(hg.mov2 i j u v hlt hu hv u4 v4 h.1 h.2).elim
   ·exact e
   ·exact(hg.mov2 j i v u hlt hv hu v4 u4 h.1.symm h.2.symm).elim
  ·exact(aux hu hv v5 u1 v1 u4 v4 h).elim
 ·by_cases v4:v.act=4
  ·exact(aux hv hu u5 v1 u1 v4 u4 h.symm).elim
  ·simp only[df,u1,v1,u4,v4,if_false,bf.mk.injEq] at h
   exact bQ hg hu hv (by simp only[fileOf,h.1];congr 1;omega)
theorem BG:∀(n i j:Nat) (u v:Rev),j<n→i<j→d.revs[i]? =some u→d.revs[j]? =some v→¬u.act=5→¬v.act=5→L.fst.getD i 0=L.fst.getD j 0→
 u.chg<v.chg∧∃(s:Nat) (w:Rev),s≤j∧d.revs[s]? =some w∧¬w.act=5∧¬w.act=1∧df w=fileOf u
 |0,i,j,u,v,h,_,_,_,_,_,_=>by omega
 |n+1,i,j,u,v,hn,hij,hu,hv,u5,v5,hf=>by
  have hj:=(List.getElem?_eq_some_iff.1 hv).1
  have hi:=(List.getElem?_eq_some_iff.1 hu).1
  rcases hI.pm j v hj hv v5 with⟨k,w,a1,a2,a3,a4,a5,a6,a7,a8⟩|⟨h1,h2,h3⟩
  ·rcases Nat.lt_trichotomy i k with hlt|e|hlt
   ·obtain⟨g1,s,x,g2,g3⟩:=BG n i k u w (by omega) hlt hu a3 u5 a4 (by rw[hf,a8])
    exact⟨by omega,s,x,by omega,g3⟩
   ·subst e;rw[hu] at a3;cases a3
    exact⟨a7,j,v,by omega,hv,v5,a6,a5.symm⟩
   ·exfalso
    obtain⟨g1,s,x,g2,g3,g4,g5,g6⟩:=BG n k i w u (by omega) hlt a3 hu a4 u5 (by rw[←a8,hf])
    have:=Ur hg g3 hv g4 v5 g5 a6 (g6.trans a5)
    omega
  ·have:=hI.fm i u hi hu u5
   omega
theorem YW {i j:Nat} {u v:Rev} (hu:d.revs[i]? =some u) (hv:d.revs[j]? =some v) (u5:¬u.act=5) (v5:¬v.act=5) (h:L.fst.getD i 0=L.fst.getD j 0):u.chg≤v.chg↔i≤j:=by
 rcases Nat.lt_trichotomy i j with hlt|e|hlt
 ·have:=(BG hg hN hI (j+1) i j u v (by omega) hlt hu hv u5 v5 h).1
  exact⟨fun _=>by omega,fun _=>by omega⟩
 ·subst e;rw[hu] at hv;cases hv;simp
 ·have:=(BG hg hN hI (i+1) j i v u (by omega) hlt hv hu v5 u5 h.symm).1
  exact⟨fun _=>by omega,fun _=>by omega⟩
end
def SA (d:bJ):bf→SS:=gB d d.revs.length
def Open (d:bJ) (t:bf) (u:Rev):Prop:=¬∀g,(SA d (fileOf u)).con g→(SA d t).cre g
open Classical in
noncomputable def FY (d:bJ) (v:Rev) (t:bf):List bf:=(d.revs.filter fun u=>decide (¬u.act=5∧first d u=first d v∧u.chg≤v.chg∧Open d t u)).map fileOf
noncomputable def lm (d:bJ) (s t:bf):Option (List bf):=
 match jQ d s.path s.num,jQ d t.path t.num with
 |some v,some _=>some (FY d v t)
 |_,_=>none
theorem gW {d:bJ} (hg:Good d.revs) {f:bf} {w:Rev}:jQ d f.path f.num=some w↔∃j:Nat,d.revs[j]? =some w∧fileOf w=f∧¬w.act=5:=by
 unfold jQ
 cases h:lF d f.path f.num with
 |none=>
  simp only[reduceCtorEq,false_iff,not_exists]
  rintro j ⟨h1,h2,_⟩
  rw[(iQ hg).2 ⟨j,h1,h2⟩] at h;cases h
 |some v=>
  obtain⟨i,h1,h2⟩:=(iQ hg).1 h
  simp only
  constructor
  ·intro hw
   split at hw
   ·cases hw
   ·cases hw;exact⟨i,h1,h2,by assumption⟩
  ·rintro⟨j,g1,g2,g3⟩
   have:=bQ hg h1 g1 (by rw[h2,g2])
   subst this;rw[h1] at g1;cases g1;rw[if_neg g3]
theorem FM {d:bJ} {k:Nat} {L:iE} {me:List (Int×List Int)} (hI:lq d k L me) {f:bf} {i:Int}:qH L f=some i↔∃(j:Nat) (w:Rev),i=(j:Int)∧j<k∧d.revs[j]? =some w∧fileOf w=f∧¬w.act=5:=by
 unfold qH
 cases h:ai L.index f with
 |none=>
  simp only[reduceCtorEq,false_iff,not_exists]
  rintro j w ⟨_,h1,h2,h3,_⟩
  rw[(hI.ix f j).2 ⟨j,w,rfl,h1,h2,h3⟩] at h;cases h
 |some x=>
  obtain⟨j,w,rfl,h1,h2,h3⟩:=(hI.ix f x).1 h
  simp only[Int.toNat_natCast]
  by_cases w5:w.act=5
  ·rw[if_neg (by rw[(hI.f5 j w h1 h2 w5).1];omega)]
   simp only[reduceCtorEq,false_iff,not_exists]
   rintro j' w' ⟨e,g1,g2,g3,g4⟩
   rw[(hI.ix f j').2 ⟨j',w',rfl,g1,g2,g3⟩] at h
   have:j'=j:=by have:=Option.some.inj h;omega
   subst this;rw[h2] at g2;cases g2;exact g4 w5
  ·rw[if_pos (hI.fm j w h1 h2 w5).1]
   constructor
   ·intro e;cases e;exact⟨j,w,rfl,h1,h2,h3,w5⟩
   ·rintro⟨j',w',rfl,g1,g2,g3,g4⟩
    rw[(hI.ix f j').2 ⟨j',w',rfl,g1,g2,g3⟩] at h
    exact h.symm
theorem wF {i:Nat}:∀{l:List Nat},l.Pairwise (· <·)→i∈l→upto (l.map fun x:Nat=>(x:Int)) (i:Int)=(l.filter fun x=>decide (x≤i)).map fun x:Nat=>(x:Int)
 |[],_,h=>by cases h
 |a::l,hp,h=>by
  obtain⟨h1,h2⟩:=List.pairwise_cons.1 hp
  simp only[List.map_cons,upto]
  by_cases e:a=i
  ·subst e
   rw[if_pos rfl,List.filter_cons,if_pos (by simp)]
   have:l.filter (fun x=>decide (x≤a))=[]:=List.filter_eq_nil_iff.2 fun x hx=>by have:=h1 x hx;simp;omega
   rw[this];rfl
  ·rcases List.mem_cons.1 h with rfl|h
   ·exact absurd rfl e
   ·have:=h1 i h
    rw[if_neg (by omega),List.filter_cons,if_pos (by simp;omega),wF h2 h];rfl
theorem Jd {α:Type} (l:List α) (z:α):l=(List.range l.length).map fun i=>l.getD i z:=by
 apply List.ext_getElem?
 intro i
 rw[List.getElem?_map]
 rcases Nat.lt_or_ge i l.length with h|h
 ·rw[List.getElem?_range h,List.getElem?_eq_getElem h];simp[List.getD,h]
 ·rw[List.getElem?_eq_none h,List.getElem?_eq_none (by simpa using h)];rfl
theorem WU {d:bJ} (hg:Good d.revs) {L:iE} {me:List (Int×List Int)} (hI:lq d d.revs.length L me) (hR:RY d (SA d) L) {i j:Nat} {u w:Rev} (hu:d.revs[i]? =some u) (hw:d.revs[j]? =some w) (u5:¬u.act=5) (w5:¬w.act=5):
 gZ L (j:Int) (i:Int)=true↔Open d (fileOf w) u:=by
 have hi:=(List.getElem?_eq_some_iff.1 hu).1
 have hj:=(List.getElem?_eq_some_iff.1 hw).1
 have ei:=(hI.ix (fileOf u) (i:Int)).2 ⟨i,u,rfl,hi,hu,rfl⟩
 have ej:=(hI.ix (fileOf w) (j:Int)).2 ⟨j,w,rfl,hj,hw,rfl⟩
 simp only[gZ,Int.toNat_natCast,Open,Bool.not_eq_true',Vo]
 have:(((L.con.getD i none).getD []).all fun k=>decide (k∈(L.cre.getD j none).getD []))=true↔∀g,(SA d (fileOf u)).con g→(SA d (fileOf w)).cre g:=by
  rw[List.all_eq_true]
  constructor
  ·intro h g hc
   obtain⟨i',x,h1,h2,h3⟩:=(hR.con _ _).1 hc
   rw[ei] at h1;cases h1
   rw[Int.toNat_natCast] at h2
   have:=of_decide_eq_true (h x h2)
   exact(hR.cre _ _).2 ⟨j,x,ej,by rw[Int.toNat_natCast];exact this,h3⟩
  ·intro h x hx
   have bx:=hI.bd i x (.inr (.inl hx))
   have hxl:x.toNat<d.revs.length:=by omega
   have hf:rG d x (fileOf (d.revs[x.toNat])):=⟨_,List.getElem?_eq_getElem hxl,rfl⟩
   have:=h _ ((hR.con _ _).2 ⟨i,x,ei,by rw[Int.toNat_natCast];exact hx,hf⟩)
   obtain⟨j',y,h1,h2,h3⟩:=(hR.cre _ _).1 this
   rw[ej] at h1;cases h1
   rw[Int.toNat_natCast] at h2
   have by':=hI.bd j y (.inr (.inr h2))
   have e:=Ji hg bx.1 by'.1 hf h3
   subst e;exact decide_eq_true h2
 rw[←this]
 simp
def LJ (L:iE) (me:List (Int×List Int)) (s t:Int):List bf:=(((upto ((ai me (L.fst.getD s.toNat 0)).getD []) s).filter (gZ L t)).map fun x=>fileOf (L.revs.getD x.toNat af))
theorem YC {d:bJ} (hg:Good d.revs) (hN:d.revs.length≤512) {L:iE} {me:List (Int×List Int)} (hr:jJ d d.revs.length L me) {i j:Nat} {v w:Rev} (hv:d.revs[i]? =some v) (hw:d.revs[j]? =some w) (v5:¬v.act=5) (w5:¬w.act=5):
 LJ L me i j=FY d v (fileOf w):=by
 have hI:=hr.inv hg
 have hR:=QM hg hN hr
 have hi:=(List.getElem?_eq_some_iff.1 hv).1
 rw[LJ,Int.toNat_natCast,hI.mem _ (hI.fm i v hi hv v5).1,wF (List.Pairwise.filter _ List.pairwise_lt_range) (by simp[hi]),hI.revs]
 rw[FY]
 conv=>rhs;rw[Jd d.revs af]
 rw[List.filter_map,List.filter_map,List.map_map,List.map_map,List.filter_filter,List.filter_filter]
 have:∀(p q:Nat→Bool),(∀x∈List.range d.revs.length,p x=q x)→∀(f g:Nat→bf),(∀x,f x=g x)→((List.range d.revs.length).filter p).map f=((List.range d.revs.length).filter q).map g:=by
  intro p q h f g hfg
  rw[List.filter_congr h,show f=g from funext hfg]
 apply this
 ·intro x hx
  have hx:x<d.revs.length:=by simpa using hx
  have hu:d.revs[x]? =some d.revs[x]:=List.getElem?_eq_getElem hx
  have hgx:d.revs.getD x af=d.revs[x]:=by simp[List.getD,hx]
  generalize d.revs[x]=u at*
  rw[Bool.eq_iff_iff]
  simp only[Function.comp,Bool.and_eq_true,decide_eq_true_eq,hgx]
  by_cases u5:u.act=5
  ·constructor
   ·rintro⟨_,h⟩
    rw[(hI.f5 x u hx hu u5).1] at h
    have:=(hI.fm i v hi hv v5).1
    omega
   ·rintro⟨h,_⟩;exact absurd u5 h
  ·rw[WU hg hI hR hu hw u5 w5]
   constructor
   ·rintro⟨⟨h1,h2⟩,hf⟩
    exact⟨u5,(uZ hg hN hI hu hv u5 v5).1 hf,(YW hg hN hI hu hv u5 v5 hf).2 h2,h1⟩
   ·rintro⟨_,h2,h3,h4⟩
    have hf:=(uZ hg hN hI hu hv u5 v5).2 h2
    exact⟨⟨h4,(YW hg hN hI hu hv u5 v5 hf).1 h3⟩,hf⟩
 ·intro x;simp[Function.comp]
def LQ (A B:SS):Prop:=(∀g,A.car g↔B.car g)∧(∀g,A.con g↔B.con g)∧(∀g,A.cre g↔B.cre g)
theorem LQ.refl (A:SS):LQ A A:=⟨fun _=>Iff.rfl,fun _=>Iff.rfl,fun _=>Iff.rfl⟩
theorem LQ.trans {A B C:SS} (h:LQ A B) (k:LQ B C):LQ A C:=⟨fun g=>(h.1 g).trans (k.1 g),fun g=>(h.2.1 g).trans (k.2.1 g),fun g=>(h.2.2 g).trans (k.2.2 g)⟩
theorem LQ.symm {A B:SS} (h:LQ A B):LQ B A:=⟨fun g=>(h.1 g).symm,fun g=>(h.2.1 g).symm,fun g=>(h.2.2 g).symm⟩
theorem ZI {d:bJ}:∀{k:Nat},k≤d.revs.length→∃L me,jJ d k L me
 |0,_=>⟨_,_, .zero⟩
 |k+1,h=>by
  obtain⟨L,me,hr⟩:=ZI (d:=d) (k:=k) (by omega)
  have hv:=List.getElem?_eq_getElem (show k<d.revs.length by omega)
  by_cases h5:(d.revs[k]).act=5
  ·exact⟨_,_, .away hr hv h5⟩
  ·refine⟨_,_, .Xt hr hv h5 (c:=(rW (aV L k d.revs[k]) k (jK d (fileOf d.revs[k]))).flatMap fun o=>o.getD [])
    (m:=((rW (aV L k d.revs[k]) k (jK d (fileOf d.revs[k]))).flatMap fun o=>o.getD []).filter fun x=>!decide (x∈(Bv (aV L k d.revs[k]) k).getD []))
    (cr:=((qC (aV L k d.revs[k]) k (jK d (fileOf d.revs[k]))).ign++[some ((rW (aV L k d.revs[k]) k (jK d (fileOf d.revs[k]))).flatMap fun o=>o.getD [])]).flatMap fun o=>o.getD [])
    ⟨fun x=>by simp only[List.mem_flatMap],fun x=>by simp,fun x=>by simp only[List.mem_flatMap]⟩⟩
theorem yx {d:bJ} (hg:Good d.revs) (hN:d.revs.length≤512) {i j:Nat} {u v:Rev} (hij:i<j) (hu:d.revs[i]? =some u) (hv:d.revs[j]? =some v) (u5:¬u.act=5) (v5:¬v.act=5) (hf:first d u=first d v):
 ∃(k:Nat) (w:Rev),i≤k∧k<j∧d.revs[k]? =some w∧¬w.act=5∧fileOf w=df v∧first d w=first d v:=by
 obtain⟨L,me,hr⟩:=ZI (d:=d) (Nat.le_refl _)
 have hI:=hr.inv hg
 have hL:=(uZ hg hN hI hu hv u5 v5).2 hf
 have hj:=(List.getElem?_eq_some_iff.1 hv).1
 have hi:=(List.getElem?_eq_some_iff.1 hu).1
 rcases hI.pm j v hj hv v5 with⟨k,w,a1,a2,a3,a4,a5,a6,a7,a8⟩|⟨h1,h2,h3⟩
 ·refine⟨k,w,?_,a2,a3,a4,a5,(uZ hg hN hI a3 hv a4 v5).1 a8.symm⟩
  rcases Nat.lt_or_ge k i with hlt|hge
  ·exfalso
   obtain⟨_,s,x,g2,g3,g4,g5,g6⟩:=BG hg hN hI (i+1) k i w u (by omega) hlt a3 hu a4 u5 (by rw[←a8,hL])
   have:=Ur hg g3 hv g4 v5 g5 a6 (g6.trans a5)
   omega
  ·exact hge
 ·have:=hI.fm i u hi hu u5
  omega
theorem Qo {α:Type} (l:List α) (i j:Nat) (z:α) (hi:i<l.length) (hj:j<l.length):((l.set i (l.getD j z)).set j (l.getD i z)).Perm l:=by
 have:=List.set_set_perm hi hj
 simpa[List.getD,hi,hj] using this
theorem Ij:∀(k:Nat) (l:List iD),k<l.length→(x9 k l).Perm l
 |0,l,_=>List.Perm.refl _
 |k+1,l,h=>by
  rw[x9]
  split
  ·exact(Ij k _ (by simp;omega)).trans (Qo l (k+1) k lZ h (by omega))
  ·exact List.Perm.refl _
theorem Gz (l:List iD):∀k,k≤l.length→(DL l k).Perm l
 |0,_=>List.Perm.refl _
 |k+1,h=>(Ij k _ (by rw[yf];omega)).trans (Gz l k (by omega))
theorem Cm (l:List iD) (r:iD):r∈JX l↔r∈l:=(Gz l l.length (Nat.le_refl _)).mem_iff
section
variable {d:bJ} {c:oD} (hg:Good d.revs) (hN:d.revs.length≤512) (hk:yV d c)
include hg hN hk
theorem ER {i:Nat} (hi:i<d.revs.length):(ku d c).revs[i]? =d.revs[i]?:=by
 simp only[ku];rw[List.getElem?_append_left hi]
theorem Tn {a:Nat} (ha:a<c.edits.length):(ku d c).revs[d.revs.length+a]? =some (made c (c.edits.getD a dU)):=by
 simp only[ku]
 rw[List.getElem?_append_right (by omega),Nat.add_sub_cancel_left,List.getElem?_map,List.getElem?_eq_getElem ha]
 simp[List.getD,ha]
theorem W9 {i a:Nat} {v:Rev} (hv:d.revs[i]? =some v) (ha:a<c.edits.length):fileOf v≠fileOf (made c (c.edits.getD a dU)):=by
 intro e
 have hi:=(List.getElem?_eq_some_iff.1 hv).1
 have:=bQ (Ph hg hN hk) (by rw[ER hg hN hk hi];exact hv) (Tn hg hN hk ha) e
 omega
theorem YN {i:Nat} {v:Rev} (hv:d.revs[i]? =some v) (r:iD):r∈jK (ku d c) (fileOf v)↔r∈jK d (fileOf v):=by
 simp only[jK,List.mem_filter,ku,Cm,List.mem_append,decide_eq_true_eq]
 constructor
 ·rintro⟨h|h,e⟩
  ·exact⟨h,e⟩
  ·exfalso
   obtain⟨j,hj,er⟩:=List.mem_iff_getElem.1 h
   have h0:=hk.recd j hj
   rw[show c.recs.getD j lZ=r by simp[List.getD,hj,er]] at h0
   obtain⟨x,hx,⟨t1,t2,t3⟩,_⟩:=h0.okTgt
   obtain⟨a,ha,ea⟩:=List.mem_iff_getElem.1 hx
   have hx':c.edits.getD a dU=x:=by simp[List.getD,ha,ea]
   refine W9 hg hN hk hv ha ?_
   rw[hx',←e]
   simp only[fileOf,made,t1,t2]
 ·rintro⟨h,e⟩;exact⟨.inl h,e⟩
end
def Zl (d:bJ):Prop:=∀r∈d.recs,∃v∈d.revs,fileOf v=⟨r.to,r.num⟩
theorem Xu {d:bJ} {c:oD} (h:Zl d) (hk:yV d c):Zl (ku d c):=by
 intro r hr
 simp only[ku,Cm,List.mem_append] at hr
 rcases hr with hr|hr
 ·obtain⟨v,h1,h2⟩:=h r hr
  exact⟨v,by simp[ku,h1],h2⟩
 ·obtain⟨j,hj,er⟩:=List.mem_iff_getElem.1 hr
  have h0:=hk.recd j hj
  rw[show c.recs.getD j lZ=r by simp[List.getD,hj,er]] at h0
  obtain⟨x,hx,⟨t1,t2,t3⟩,_⟩:=h0.okTgt
  exact⟨made c x,by simp only[ku,List.mem_append,List.mem_map];exact .inr ⟨x,hx,rfl⟩,by simp only[fileOf,made,t1,t2]⟩
theorem jX.to {l:List oD} {d:bJ} (h:jX l d):Zl d:=by
 induction h with
 |nil=>intro r hr;simp[IP] at hr
 |skip c h ih=>exact ih
 |app h hc hk ih=>exact Xu ih hk
section
variable {d:bJ} {c:oD} (hg:Good d.revs) (hN:d.revs.length≤512) (hk:yV d c)
include hg hN hk
theorem LP (ht:Zl d) {a:Nat} (ha:a<c.edits.length) (r:iD):r∈jK (ku d c) (fileOf (made c (c.edits.getD a dU)))↔r∈c.recs∧(⟨r.to,r.num⟩:bf)=fileOf (made c (c.edits.getD a dU)):=by
 simp only[jK,List.mem_filter,ku,Cm,List.mem_append,decide_eq_true_eq]
 constructor
 ·rintro⟨h|h,e⟩
  ·exfalso
   obtain⟨v,h1,h2⟩:=ht r h
   obtain⟨i,hi⟩:=List.getElem?_of_mem h1
   exact W9 hg hN hk hi ha (h2.trans e)
  ·exact⟨h,e⟩
 ·rintro⟨h,e⟩;exact⟨.inr h,e⟩
end
def pG (b r:Rev):Bool:=!(decide (r.act=5)||decide (r.act=1))&&(if r.act=4 then decide (r.frm=b.path)&&decide (r.fnum=b.num) else decide (r.path=b.path)&&decide (wr (r.num-1)=b.num))
def lK (acc:List Rev) (r:Rev):List Rev:=if pG ((acc.getLast?).getD af) r then acc++[r] else acc
def jD (d:bJ) (f:bf):List Rev:=match lF d f.path f.num with|some v=>if v.act=1 then d.revs.foldl lK [v] else []|none=>[]
section
variable {d:bJ} (hg:Good d.revs) (hN:d.revs.length≤512)
include hg hN
theorem Cb {k:Nat} {r b:Rev} (hr:d.revs[k]? =some r):pG b r=true↔¬r.act=5∧¬r.act=1∧df r=fileOf b:=by
 have hn:=hg.num k r hr
 have hk:=(List.getElem?_eq_some_iff.1 hr).1
 have hw:wr (r.num-1)=r.num-1:=Uu (by omega) (by omega)
 unfold pG df fileOf
 rw[hw]
 by_cases h5:r.act=5
 ·simp[h5]
 by_cases h1:r.act=1
 ·simp[h1]
 by_cases h4:r.act=4
 ·simp[h4]
 ·simp[h5,h1,h4]
theorem vK {k j:Nat} {r b:Rev} (hr:d.revs[k]? =some r) (hb:d.revs[j]? =some b) (r5:¬r.act=5) (r1:¬r.act=1) (h:df r=fileOf b):first d r=first d b∧j<k:=by
 have hp:jG d r=some b:=by
  rw[JV hg hN hr r1]
  exact(iQ hg).2 ⟨j,hb,by rw[h]⟩
 have hc:b.chg<r.chg∧j<k:=by
  by_cases h4:r.act=4
  ·obtain⟨i,u,h1,h2,h3,h5,_,_,h6⟩:=hg.mov k r hr h4
   have e:fileOf u=fileOf b:=by rw[←h];simp[df,h4,fileOf,h3,h5]
   have:=bQ hg h2 hb e
   subst this;rw[h2] at hb;cases hb;exact⟨h6,h1⟩
  ·obtain⟨i,u,h1,h2,h3,h5,_,_,h6⟩:=hg.prv k r hr r1 h4
   have e:fileOf u=fileOf b:=by rw[←h];simp[df,h4,r1,fileOf,h3,h5]
   have:=bQ hg h2 hb e
   subst this;rw[h2] at hb;cases hb;exact⟨h6,h1⟩
 exact⟨zD hp hc.1,hc.2⟩
theorem RZ {k:Nat} {r:Rev} (hr:d.revs[k]? =some r) (r1:¬r.act=1):∃(j:Nat) (u:Rev),j<k∧d.revs[j]? =some u∧df r=fileOf u∧¬u.act=5:=by
 by_cases h4:r.act=4
 ·obtain⟨i,u,h1,h2,h3,h5,_,h7,h6⟩:=hg.mov k r hr h4
  exact⟨i,u,h1,h2,by simp[df,h4,fileOf,h3,h5],h7⟩
 ·obtain⟨i,u,h1,h2,h3,h5,_,h7,h6⟩:=hg.prv k r hr r1 h4
  exact⟨i,u,h1,h2,by simp[df,h4,r1,fileOf,h3,h5],h7⟩
def nO (d:bJ) (f:bf) (u:Rev):Bool:=decide (¬u.act=5∧¬u.act=1∧first d u=f)
theorem Ep {f:bf} {iv:Nat} {v:Rev} (hv:d.revs[iv]? =some v) (hf:fileOf v=f) (v1:v.act=1):∀k,k≤d.revs.length→(d.revs.take k).foldl lK [v]=v::(d.revs.take k).filter (nO d f)
 |0,_=>by simp
 |k+1,hk=>by
  have ih:=Ep hv hf v1 k (by omega)
  obtain⟨r,hr⟩:∃r,d.revs[k]? =some r:=⟨_,List.getElem?_eq_getElem (by omega)⟩
  have ht:d.revs.take (k+1)=d.revs.take k++[r]:=by rw[List.take_add_one,hr];rfl
  have hfv:first d v=f:=by rw[iq (jO v1)];exact hf
  rw[ht,List.foldl_append,ih,List.filter_append,List.foldl_cons,List.foldl_nil]
  have key:pG (((v::(d.revs.take k).filter (nO d f)).getLast?).getD af) r=nO d f r:=by
   obtain⟨b,jb,hb,hlast,hbv,hmax⟩:∃(b:Rev) (jb:Nat),d.revs[jb]? =some b∧(v::(d.revs.take k).filter (nO d f)).getLast? =some b∧(¬b.act=5∧first d b=f)∧
    ((b=v∧∀(i:Nat) (u:Rev),i<k→d.revs[i]? =some u→nO d f u=false)∨(nO d f b=true∧∀(i:Nat) (u:Rev),i<k→d.revs[i]? =some u→nO d f u=true→i≤jb)):=by
    rw[List.getLast?_cons]
    obtain⟨h1,h2⟩:=N7 (nO d f) (d.revs.take k)
    cases hl:((d.revs.take k).filter (nO d f)).getLast? with
    |none=>
     refine⟨v,iv,hv,rfl,⟨by omega,hfv⟩, .inl ⟨rfl,fun i u hi hu=>h2 hl u ?_⟩⟩
     exact List.mem_of_getElem? (i:=i) (by rw[List.getElem?_take,if_pos hi];exact hu)
    |some b=>
     obtain⟨j,g1,g2,g3⟩:=h1 b hl
     have hjk:j<k:=by have:=(List.getElem?_eq_some_iff.1 g1).1;simp at this;omega
     rw[List.getElem?_take,if_pos hjk] at g1
     have g2':=g2
     simp only[nO,decide_eq_true_eq] at g2'
     refine⟨b,j,g1,rfl,⟨g2'.1,g2'.2.2⟩, .inr ⟨g2,fun i u hi hu hp=>g3 i u ?_ hp⟩⟩
     rw[List.getElem?_take,if_pos hi];exact hu
   rw[hlast,Option.getD_some,Bool.eq_iff_iff,Cb hg hN hr]
   simp only[nO,decide_eq_true_eq]
   constructor
   ·rintro⟨r5,r1,e⟩
    exact⟨r5,r1,(vK hg hN hr hb r5 r1 e).1.trans hbv.2⟩
   ·rintro⟨r5,r1,e⟩
    refine⟨r5,r1,?_⟩
    obtain⟨j,u,hj,hu,eu,u5⟩:=RZ hg hN hr r1
    have hfu:first d u=f:=by rw[←(vK hg hN hr hu r5 r1 eu).1];exact e
    rw[eu]
    by_cases u1:u.act=1
    ·have huv:u=v:=by
      have e1:fileOf u=fileOf v:=by rw[iq (jO u1)] at hfu;rw[hfu,hf]
      have:=bQ hg hu hv e1
      subst this;rw[hu] at hv;exact Option.some.inj hv
     rcases hmax with⟨hbv2,_⟩|⟨hbl,hm⟩
     ·rw[huv,hbv2]
     ·exfalso
      simp only[nO,decide_eq_true_eq] at hbl
      have hjb:jb<k:=by
       rcases Nat.lt_or_ge jb k with h|h
       ·exact h
       ·exfalso
        have hmem:b∈(v::(d.revs.take k).filter (nO d f)):=List.mem_of_getLast? hlast
        rcases List.mem_cons.1 hmem with rfl|hmem
        ·exact hbl.2.1 v1
        ·obtain⟨i,hi⟩:=List.getElem?_of_mem (List.mem_filter.1 hmem).1
         have hik:i<k:=by have:=(List.getElem?_eq_some_iff.1 hi).1;simp at this;omega
         rw[List.getElem?_take,if_pos hik] at hi
         have:=bQ hg hi hb rfl
         omega
      obtain⟨k',w,w1,w2,w3,w4,w5,w6⟩:=yx hg hN hjb hb hr hbl.1 r5 (hbl.2.2.trans e.symm)
      have e2:fileOf w=fileOf u:=by rw[w5,eu]
      have hkj:=bQ hg w3 hu e2
      subst hkj
      rcases Nat.lt_or_ge jb k' with hlt|hge
      ·obtain⟨k2,w',_,_,_,_,q5,_⟩:=yx hg hN hlt hb hu hbl.1 u5 (hbl.2.2.trans hfu.symm)
       have:(df u)=xH:=by simp[df,u1]
       rename_i hw' _ _
       rw[this] at q5
       have:=hg.num k2 w' (by assumption)
       have h0:w'.num=0:=congrArg bf.num q5
       omega
      ·have:jb=k':=by omega
       subst this
       rw[hb] at hu;cases hu;exact hbl.2.1 u1
    ·have hul:nO d f u=true:=by simp only[nO,decide_eq_true_eq];exact⟨u5,u1,hfu⟩
     rcases hmax with⟨_,hm⟩|⟨hbl,hm⟩
     ·rw[hm j u hj hu] at hul;cases hul
     ·have h1:=hm j u hj hu hul
      have hbl':=hbl
      simp only[nO,decide_eq_true_eq] at hbl
      have hjb:jb<k:=by
       rcases Nat.lt_or_ge jb k with h|h
       ·exact h
       ·exfalso
        have hmem:b∈(v::(d.revs.take k).filter (nO d f)):=List.mem_of_getLast? hlast
        rcases List.mem_cons.1 hmem with rfl|hmem
        ·exact hbl.2.1 v1
        ·obtain⟨i,hi⟩:=List.getElem?_of_mem (List.mem_filter.1 hmem).1
         have hik:i<k:=by have:=(List.getElem?_eq_some_iff.1 hi).1;simp at this;omega
         rw[List.getElem?_take,if_pos hik] at hi
         have:=bQ hg hi hb rfl
         omega
      obtain⟨k',w,w1,w2,w3,w4,w5,w6⟩:=yx hg hN hjb hb hr hbl.1 r5 (hbl.2.2.trans e.symm)
      have e2:fileOf w=fileOf u:=by rw[w5,eu]
      have hkj:=bQ hg w3 hu e2
      subst hkj
      have:jb=k':=by omega
      subst this
      rw[hb] at hu;cases hu;rfl
  rw[lK,key]
  cases h:nO d f r with
  |true=>simp[h]
  |false=>simp[h]
theorem yw {f:bf} {u:Rev}:u∈jD d f↔u∈d.revs∧¬u.act=5∧first d u=f:=by
 unfold jD
 have hfirst:∀(n k:Nat) (u:Rev),k<n→d.revs[k]? =some u→¬u.act=5→∃(j:Nat) (v:Rev),d.revs[j]? =some v∧v.act=1∧fileOf v=first d u:=by
  intro n
  induction n with
  |zero=>intro k u hk;omega
  |succ n ih=>
   intro k u hk hu u5
   by_cases u1:u.act=1
   ·exact⟨k,u,hu,u1,(iq (jO u1)).symm⟩
   ·obtain⟨j,w,hj,hw,ew,w5⟩:=RZ hg hN hu u1
    obtain⟨i,v,h1,h2,h3⟩:=ih j w (by omega) hw w5
    exact⟨i,v,h1,h2,by rw[h3,(vK hg hN hu hw u5 u1 ew).1]⟩
 constructor
 ·intro h
  cases hgt:lF d f.path f.num with
  |none=>rw[hgt] at h;simp at h
  |some v=>
   rw[hgt] at h
   simp only at h
   split at h
   ·rename_i v1
    obtain⟨iv,hv,ev⟩:=(iQ hg).1 hgt
    have ht:=Ep hg hN hv ev v1 d.revs.length (Nat.le_refl _)
    rw[List.take_length] at ht
    rw[ht] at h
    rcases List.mem_cons.1 h with rfl|h
    ·exact⟨List.mem_of_getElem? hv,by omega,by rw[iq (jO v1)];exact ev⟩
    ·obtain⟨h1,h2⟩:=List.mem_filter.1 h
     simp only[nO,decide_eq_true_eq] at h2
     exact⟨h1,h2.1,h2.2.2⟩
   ·simp at h
 ·rintro⟨h1,u5,hf⟩
  obtain⟨k,hk⟩:=List.getElem?_of_mem h1
  obtain⟨iv,v,hv,v1,ev⟩:=hfirst (k+1) k u (by omega) hk u5
  rw[hf] at ev
  rw[(iQ hg).2 ⟨iv,hv,ev⟩]
  simp only[v1,if_true]
  have ht:=Ep hg hN hv ev v1 d.revs.length (Nat.le_refl _)
  rw[List.take_length] at ht
  rw[ht]
  by_cases u1:u.act=1
  ·have e1:fileOf u=fileOf v:=by rw[iq (jO u1)] at hf;rw[hf,ev]
   have:=bQ hg hk hv e1
   subst this;rw[hk] at hv;cases hv;simp
  ·exact List.mem_cons_of_mem _ (List.mem_filter.2 ⟨h1,by simp only[nO,decide_eq_true_eq];exact⟨u5,u1,hf⟩⟩)
end
structure pz where
 kind:Int
 lpath:ByteArray
 lnum:Int
 frm:ByteArray
 first:Int
 last:Int
 to:ByteArray
 head:Int
 bpath:ByteArray
 bnum:Int
 move:ByteArray
@[reducible] def lM (t:pz):List D:=[.v (.int .i64 t.kind), .v (.string t.lpath), .v (.int .i64 t.lnum), .v (.string t.frm), .v (.int .i64 t.first), .v (.int .i64 t.last), .v (.string t.to), .v (.int .i64 t.head), .v (.string t.bpath), .v (.int .i64 t.bnum), .v (.string t.move)]
def pz.line (t:pz):bf:=⟨t.lpath,t.lnum⟩
@[reducible] def noS:ByteArray:={data:= #[]}
def Ar (p:ByteArray):Bool:=(aJ p).isSome&&decide (p.size≤200)
def Xc (d:bJ) (p:ByteArray) (n:Int):Option bf:=(jQ d p n).map (first d)
def Yb (d:bJ) (t:pz):Prop:=∀n:Int,t.first≤n→n≤t.last→Xc d t.frm n=some t.line
def Sr (d:bJ) (t:pz):Rev:=(lF d t.frm t.last).getD af
def Zm (d:bJ) (t:pz):Bool:=decide ((Sr d t).act=3)
def acn (d:bJ) (t:pz):Bool:=decide (t.move=noS)||(Ar t.move&&!live d t.move&&!decide (t.move=t.to))
def Y6 (d:bJ) (t:pz):Bool:=if t.kind=1 then !live d t.to&&!Zm d t&&decide (t.move=noS) else live d t.to&&!decide (Xc d t.to t.head=some t.line)&&(Zm d t==decide (t.kind=3))&&acn d t
structure Fits (d:bJ) (t:pz):Prop where
 kind:1≤t.kind∧t.kind≤3
 lo:1≤t.first
 le:t.first≤t.last
 run:Yb d t
 use:Ar t.to=true
 head:dh d t.to=t.head
 rest:Y6 d t=true
def y9 (d:bJ):Prop:=∀v∈d.revs,v.num≤(log d v.path).length
theorem y9.last {d:bJ} (h:y9 d) (p:ByteArray):dh d p≤(log d p).length:=by
 unfold dh
 cases hl:dD d p with
 |none=>simp[af]
 |some v=>
  obtain⟨j,h1,h2,_⟩:=fQ hl
  have:=h v (List.mem_of_getElem? h1)
  rw[h2] at this;exact this
theorem UT {d:bJ} {c:oD} (hg:Good d.revs) (hN:d.revs.length≤512) (h:y9 d) (hk:yV d c):y9 (ku d c):=by
 intro v hv
 have hlog:(log (ku d c) v.path).length=(log d v.path).length+((c.edits.map (made c)).filter fun u=>decide (u.path=v.path)).length:=by
  simp only[log,ku,List.filter_append,List.length_append]
 simp only[ku,List.mem_append] at hv
 rcases hv with hv|hv
 ·have:=h v hv;rw[hlog];omega
 ·have hpos:0<((c.edits.map (made c)).filter fun u=>decide (u.path=v.path)).length:=List.length_pos_of_mem (List.mem_filter.2 ⟨hv,by simp⟩)
  obtain⟨e,he,rfl⟩:=List.mem_map.1 hv
  obtain⟨i,hi,e2⟩:=List.mem_iff_getElem.1 he
  have hE:=hk.edit i hi
  rw[show c.edits.getD i dU=e by simp[List.getD,hi,e2]] at hE
  have h1:=hE.okPrev
  have h2:=zW hg e.path
  have h3:=h.last e.path
  have hw:wr (e.prev+1)=e.prev+1:=Uu (by omega) (by omega)
  rw[hlog]
  simp only[made] at hpos⊢
  rw[hw]
  omega
theorem jX.abC {l:List oD} {d:bJ} (h:jX l d):y9 d:=by
 induction h with
 |nil=>intro r hr;simp[IP] at hr
 |skip c h ih=>exact ih
 |app h hc hk ih=>exact UT h.good h.ok.1 ih hk
theorem Be {d:bJ} (hg:Good d.revs) {p:ByteArray} {n:Int} {f:bf}:Xc d p n=some f↔∃(j:Nat) (v:Rev),d.revs[j]? =some v∧fileOf v=⟨p,n⟩∧¬v.act=5∧first d v=f:=by
 simp only[Xc,Option.map_eq_some_iff]
 constructor
 ·rintro⟨v,h1,h2⟩
  obtain⟨j,a,b,c⟩:=(gW hg (f:=⟨p,n⟩)).1 h1
  exact⟨j,v,a,b,c,h2⟩
 ·rintro⟨j,v,a,b,c,e⟩
  exact⟨v,(gW hg (f:=⟨p,n⟩)).2 ⟨j,a,b,c⟩,e⟩
theorem Xh {d:bJ} (hg:Good d.revs) (hN:d.revs.length≤512) {p:ByteArray} {n:Int} {f:bf}:Xc d p n=some f↔(⟨p,n⟩:bf)∈(jD d f).map fileOf:=by
 rw[Be hg,List.mem_map]
 constructor
 ·rintro⟨j,v,a,b,c,e⟩
  exact⟨v,(yw hg hN).2 ⟨List.mem_of_getElem? a,c,e⟩,b⟩
 ·rintro⟨v,h,b⟩
  obtain⟨h1,h2,h3⟩:=(yw hg hN).1 h
  obtain⟨j,hj⟩:=List.getElem?_of_mem h1
  exact⟨j,v,hj,b,h2,h3⟩
theorem Tj {d:bJ} (hg:Good d.revs) (hn:y9 d) {p:ByteArray} {n:Int} {f:bf} (h:Xc d p n=some f):1≤n∧n≤(log d p).length∧n≤d.revs.length:=by
 obtain⟨j,v,a,b,c,e⟩:=(Be hg).1 h
 have h1:=hg.num j v a
 have h2:=hn v (List.mem_of_getElem? a)
 have hj:=(List.getElem?_eq_some_iff.1 a).1
 have b1:v.path=p:=congrArg bf.path b
 have b2:v.num=n:=congrArg bf.num b
 rw[b1] at h2
 omega
theorem XX {d:bJ} (hg:Good d.revs) (hn:y9 d) {t:pz} (h1:t.first≤t.last) (h:Yb d t):1≤t.first∧t.last≤(log d t.frm).length∧t.last≤d.revs.length:=by
 have a:=Tj hg hn (h t.first (by omega) (by omega))
 have b:=Tj hg hn (h t.last (by omega) (by omega))
 omega
theorem KR {l:List Rev} (h:l.Pairwise fun u v=>u.num<v.num):∀{j i:Nat} {u v:Rev},i≤j→l[i]? =some u→l[j]? =some v→u.num+((j:Int)-i)≤v.num
 |0,i,u,v,hij,hu,hv=>by
  have:i=0:=by omega
  subst this;rw[hu] at hv;cases hv;omega
 |j+1,i,u,v,hij,hu,hv=>by
  by_cases e:i=j+1
  ·subst e;rw[hu] at hv;cases hv;omega
  ·obtain⟨hj,ev⟩:=List.getElem?_eq_some_iff.1 hv
   have hw:l[j]? =some l[j]:=List.getElem?_eq_getElem (by omega)
   have ih:=KR h (j:=j) (by omega) hu hw
   have:=(List.pairwise_iff_getElem.1 h) j (j+1) (by omega) hj (by omega)
   rw[ev] at this
   omega
theorem YG {d:bJ} (hg:Good d.revs) (p:ByteArray):(log d p).Pairwise fun u v=>u.num<v.num:=by
 have h0:d.revs.Pairwise fun u v=>u.path=v.path→u.num<v.num:=
  List.pairwise_iff_getElem.2 fun i j hi hj hij e=>(hg.path i j _ _ hij (List.getElem?_eq_getElem hi) (List.getElem?_eq_getElem hj) e).2
 refine(h0.filter (fun v=>decide (v.path=p))).imp_of_mem ?_
 intro u v hu hv h
 have h1:=(List.mem_filter.1 hu).2
 have h2:=(List.mem_filter.1 hv).2
 simp only[decide_eq_true_eq] at h1 h2
 exact h (by rw[h1,h2])
theorem ZY {d:bJ} (hg:Good d.revs) (hn:y9 d) (p:ByteArray) {i:Nat} {v:Rev} (hv:(log d p)[i]? =some v):v.num=(i:Int)+1:=by
 have hp:=YG hg p
 have hi:=(List.getElem?_eq_some_iff.1 hv).1
 have mem:∀{k:Nat} {u:Rev},(log d p)[k]? =some u→1≤u.num∧u.num≤(log d p).length:=by
  intro k u hu
  have hm:=List.mem_of_getElem? hu
  obtain⟨h1,h2⟩:=List.mem_filter.1 hm
  simp only[decide_eq_true_eq] at h2
  obtain⟨j,hj⟩:=List.getElem?_of_mem h1
  have:=hg.num j u hj
  have h3:=hn u h1
  rw[h2] at h3
  omega
 have h0:(log d p)[0]? =some (log d p)[0]:=List.getElem?_eq_getElem (by omega)
 have hl:(log d p)[(log d p).length-1]? =some (log d p)[(log d p).length-1]:=List.getElem?_eq_getElem (by omega)
 have a:=KR hp (by omega) h0 hv
 have b:=KR hp (by omega) hv hl
 have c:=mem h0
 have e:=mem hl
 omega
theorem UX {d:bJ} (hg:Good d.revs) (hn:y9 d) {p:ByteArray} {n:Int} (h1:1≤n) (h2:n≤(log d p).length):∃v,lF d p n=some v:=by
 have hi:(n-1).toNat<(log d p).length:=by omega
 have hv:(log d p)[(n-1).toNat]? =some (log d p)[(n-1).toNat]:=List.getElem?_eq_getElem hi
 have:=ZY hg hn p hv
 cases hf:lF d p n with
 |some v=>exact⟨v,rfl⟩
 |none=>
  exfalso
  have h3:=List.find?_eq_none.1 hf _ (List.mem_of_getElem? hv)
  simp only[decide_eq_true_eq] at h3
  omega
def SQ (d:bJ):Prop:=∀(k:Nat) (v:Rev),d.revs[k]? =some v→∀r∈jK d (fileOf v),1≤r.first∧r.first≤r.last∧1≤r.how∧r.how≤4∧
 ∀n,r.first≤n→n≤r.last→∃(j:Nat) (u:Rev),j<k∧d.revs[j]? =some u∧fileOf u=⟨r.frm,n⟩∧¬u.act=5
theorem V7 {d:bJ} {c:oD} (hg:Good d.revs) (hN:d.revs.length≤512) (ht:Zl d) (hn:y9 d) (h:SQ d) (hk:yV d c):SQ (ku d c):=by
 intro k v hv r hr
 rcases Nat.lt_or_ge k d.revs.length with hlt|hge
 ·rw[ER hg hN hk hlt] at hv
  obtain⟨a1,a2,a3,a4,a5⟩:=h k v hv r ((YN hg hN hk hv r).1 hr)
  refine⟨a1,a2,a3,a4,fun n n1 n2=>?_⟩
  obtain⟨j,u,j1,j2,j3,j4⟩:=a5 n n1 n2
  exact⟨j,u,j1,by rw[ER hg hN hk (by omega)];exact j2,j3,j4⟩
 ·obtain⟨a,rfl⟩:∃a,k=d.revs.length+a:=⟨k-d.revs.length,by omega⟩
  have ha:a<c.edits.length:=by
   have:=(List.getElem?_eq_some_iff.1 hv).1
   simp only[ku,List.length_append,List.length_map] at this;omega
  rw[Tn hg hN hk ha] at hv
  cases hv
  obtain⟨hr1,_⟩:=(LP hg hN hk ht ha r).1 hr
  obtain⟨j,hj,er⟩:=List.mem_iff_getElem.1 hr1
  have h0:=hk.recd j hj
  rw[show c.recs.getD j lZ=r by simp[List.getD,hj,er]] at h0
  refine⟨h0.okLo,h0.okLe,h0.okHow.1,h0.okHow.2,fun n n1 n2=>?_⟩
  have hlo:=h0.okLo
  have hhi:=h0.okHi
  obtain⟨u,hu⟩:=UX hg hn (p:=r.frm) (n:=n) (by omega) (by omega)
  obtain⟨i,hi,ei⟩:=(iQ hg).1 hu
  have hil:=(List.getElem?_eq_some_iff.1 hi).1
  refine⟨i,u,by omega,by rw[ER hg hN hk hil];exact hi,ei,?_⟩
  have:=(h0.okLine n n1 n2).1
  rwa [show rO d r.frm n=u by simp[rO,hu]] at this
theorem jX.src {l:List oD} {d:bJ} (h:jX l d):SQ d:=by
 induction h with
 |nil=>intro k v hv;simp[IP] at hv
 |skip c h ih=>exact ih
 |app h hc hk ih=>exact V7 h.good h.ok.1 h.to h.abC ih hk
section
variable {d:bJ} (hg:Good d.revs) (hS:SQ d)
include hg hS
end
structure Ou (d:bJ) (x:pz):Prop where
 lo:1≤x.first
 le:x.first≤x.last
 run:Yb d x
 head:dh d x.to=x.head
 kind:(x.kind=1∧live d x.to=false∧¬(Sr d x).act=3∧x.move=noS)∨
  (x.kind=(if(Sr d x).act=3 then 3 else 2)∧live d x.to=true∧¬Xc d x.to x.head=some x.line∧(x.move=noS∨(aJ x.move).isSome=true∧live d x.move=false∧¬x.move=x.to))
 to:(aJ x.to).isSome=true
theorem Ou.fits {d:bJ} {x:pz} (h:Ou d x) (ht:x.to.size≤200) (hm:x.move.size≤200):Fits d x:=by
 have hu:Ar x.to=true:=by simp[Ar,h.to,ht]
 rcases h.kind with⟨k,l,s,m⟩|⟨k,l,i,m⟩
 ·refine⟨by omega,h.lo,h.le,h.run,hu,h.head,?_⟩
  simp[Y6,k,l,Zm,s,m]
 ·have hk:x.kind=2∨x.kind=3:=by rw[k];split<;>simp
  have hd:(Zm d x==decide (x.kind=3))=true:=by
   rw[k]
   unfold Zm
   by_cases e:(Sr d x).act=3<;>simp[e]
  refine⟨by omega,h.lo,h.le,h.run,hu,h.head,?_⟩
  have k1:¬x.kind=1:=by omega
  simp only[Y6,if_neg k1,l,Bool.true_and,i,decide_false,Bool.not_false,hd]
  rcases m with m|⟨m1,m2,m3⟩
  ·simp[acn,m]
  ·simp[acn,Ar,m1,hm,m2,m3]
structure bH where
 parts:List ByteArray
 rest:Bool
 deriving DecidableEq
structure IK where
 excl:Bool
 left:bH
 right:bH
structure Iz where
 base:bH
 holes:List bH
structure eQ where
 left:bH
 right:bH
 holes:List bH
@[reducible] def bF (p:bH):List D:=[.ps 1 (p.parts.map encS), .v (.bool p.rest)]
@[reducible] def Zn (r:IK):List D:=[.v (.bool r.excl), .ps 1 (r.left.parts.map encS), .v (.bool r.left.rest), .ps 1 (r.right.parts.map encS), .v (.bool r.right.rest)]
@[reducible] def Di (g:Iz):List D:=[.ps 1 (g.base.parts.map encS), .v (.bool g.base.rest), .ps 2 (g.holes.map bF)]
@[reducible] def eY (x:eQ):List D:=[.ps 1 (x.left.parts.map encS), .v (.bool x.left.rest), .ps 1 (x.right.parts.map encS), .v (.bool x.right.rest), .ps 2 (x.holes.map bF)]
@[reducible] def aPat (p:bH):AV:= .agg ((bF p).map C.d)
@[reducible] def PL (r:IK):AV:= .agg ((Zn r).map C.d)
@[reducible] def RX (g:Iz):AV:= .agg ((Di g).map C.d)
@[reducible] def aaI (x:eQ):AV:= .agg ((eY x).map C.d)
@[reducible] def iY (l:List bH):AV:= .c (.d (.ps 2 (l.map bF)))
@[reducible] def jW (l:List eQ):AV:= .c (.d (.ps 5 (l.map eY)))
@[reducible] def pS (s:ByteArray):Bool×List C:=(false,[.d (.v (.string s))])
@[reducible] def acY (p:bH):Bool×List C:=(true,(bF p).map C.d)
@[reducible] def acA (r:IK):Bool×List C:=(true,(Zn r).map C.d)
@[reducible] def adu (g:Iz):Bool×List C:=(true,(Di g).map C.d)
def dm:bH:=⟨[],false⟩
def Nv:IK:=⟨false,dm,dm⟩
def ace:Iz:=⟨dm,[]⟩
def NQ:eQ:=⟨dm,dm,[]⟩
def aX (x:ByteArray):Bool:=!(decide (x=noS)||!decide (byteAt x 0=42))&&(List.range x.size).all fun k=>decide (k=0)||okB (byteAt x k)
def jY (x:ByteArray):ByteArray:=if aX x then x.extract 1 x.size else noS
def eH (x:ByteArray):Bool:=aX x||comp x
def bV (p:bH):Int:=
 if p.parts.length=0∨(p.parts.length=1∧p.rest=false)∨comp (p.parts.getD 0 noS)=false then 30
 else if(p.parts.drop 1).all eH then(if 12<p.parts.length then 31 else 0) else 30
def gz (p:bH):Bool:=decide (bV p=0)
def dP (s t:ByteArray):Bool:=decide (t.size≤s.size)&&decide (s.extract (s.size-t.size) s.size=t)
def qw (x c:ByteArray):ByteArray×Bool:=
 if aX x then(if dP c (jY x) then(c.extract 0 (c.size-(jY x).size),comp (c.extract 0 (c.size-(jY x).size))) else(noS,false)) else(noS,decide (x=c))
def aC (l:List ByteArray):Nat:=(l.filter aX).length
def qN (p:bH):Nat:=aC p.parts+(if p.rest then 1 else 0)
def iR (ps ls:List ByteArray):Nat→List ByteArray
 |0=>[]
 |k+1=>iR ps ls k++(if aX (ps.getD k noS) then [(qw (ps.getD k noS) (ls.getD k noS)).1] else [])
def sG (ps ls:List ByteArray) (k:Nat):Bool:=(List.range k).all fun i=>(qw (ps.getD i noS) (ls.getD i noS)).2
def xy (p:bH) (l:List ByteArray):Bool:=gz p&&!(decide (l.length<p.parts.length)||(!p.rest&&decide (p.parts.length<l.length))||(p.rest&&decide (l.length=p.parts.length)))
def eP (p:bH) (s:ByteArray):Option (List ByteArray):=
 match aJ s with
 |none=>none
 |some l=>if xy p l&&sG p.parts l p.parts.length then some (iR p.parts l p.parts.length++(if p.rest then [dL (l.drop p.parts.length) slash] else [])) else none
def abG (p:bH):ByteArray:=if p.rest then(dV++dL p.parts slash)++{data:= #[47,46,46,46]} else dV++dL p.parts slash
def jg (ps cs:List ByteArray):Nat→List ByteArray
 |0=>[]
 |k+1=>jg ps cs k++[if aX (ps.getD k noS) then cs.getD (aC (ps.take k)) noS++jY (ps.getD k noS) else ps.getD k noS]
def o7 (ps cs:List ByteArray) (k:Nat):Bool:=(List.range k).all fun i=>!aX (ps.getD i noS)||comp (cs.getD (aC (ps.take i)) noS)
def pO (p:bH) (cs:List ByteArray):ByteArray×Int:=
 if gz p then
  if cs.length=qN p then
   if o7 p.parts cs p.parts.length then
    if p.rest then
     if(split (cs.getD (aC p.parts) noS)).all comp then(dV++dL (jg p.parts cs p.parts.length++split (cs.getD (aC p.parts) noS)) slash,0) else(noS,32)
    else(dV++dL (jg p.parts cs p.parts.length) slash,0)
   else(noS,32)
  else(noS,32)
 else(noS,bV p)
def aY (x y:ByteArray):Bool:=if aX y then(if aX x then dP (jY x) (jY y) else(qw y x).2) else decide (x=y)
def fP (p q:bH):Bool:=
 gz p&&gz q&&decide (q.parts.length≤p.parts.length)&&(q.rest||(!p.rest&&decide (p.parts.length≤q.parts.length)))&&!(q.rest&&decide (p.parts.length=q.parts.length)&&!p.rest)
  &&(List.range q.parts.length).all fun i=>aY (p.parts.getD i noS) (q.parts.getD i noS)
def xI (p q:bH) (i:Nat):Bool:=decide (q.parts.length≤i)||aY (p.parts.getD i noS) (q.parts.getD i noS)||aY (q.parts.getD i noS) (p.parts.getD i noS)
def iL (p q:bH):Nat→List ByteArray
 |0=>[]
 |k+1=>iL p q k++[if decide (q.parts.length≤k)||aY (p.parts.getD k noS) (q.parts.getD k noS) then p.parts.getD k noS else q.parts.getD k noS]
def wS (p q:bH):Option bH:=
 if(q.parts.length<p.parts.length∧q.rest=false)∨(p.parts.length=q.parts.length∧p.rest≠q.rest) then none
 else if(List.range p.parts.length).all (xI p q) then some ⟨iL p q p.parts.length,p.rest⟩ else none
def jF (p q:bH):Option bH:=if gz p&&gz q then(if p.parts.length<q.parts.length then wS q p else wS p q) else none
def BB (p q:bH):Nat→List bH
 |0=>[]
 |k+1=>BB p q k++(if aX (p.parts.getD k noS) then [⟨[(q.parts.getD k noS).extract 0 ((q.parts.getD k noS).size-(jY (p.parts.getD k noS)).size)],false⟩] else [])
def jS (p q:bH):Option (List bH):=
 if fP q p then some (BB p q p.parts.length++(if p.rest then [⟨q.parts.drop p.parts.length,q.rest⟩] else [])) else none
def oN (ps:List ByteArray) (l:List bH):Nat→List ByteArray
 |0=>[]
 |k+1=>oN ps l k++[if aX (ps.getD k noS) then((l.getD (aC (ps.take k)) dm).parts.getD 0 noS)++jY (ps.getD k noS) else ps.getD k noS]
def Iu (b:bH):Bool:=decide (b.parts.length=1)&&!b.rest&&eH (b.parts.getD 0 noS)
def Oy (ps:List ByteArray) (l:List bH) (k:Nat):Bool:=(List.range k).all fun i=>!aX (ps.getD i noS)||Iu (l.getD (aC (ps.take i)) dm)
def IU (p:bH):bH×Int:=if 12<p.parts.length then(dm,31) else(p,0)
def iI (p:bH) (l:List bH):bH×Int:=
 if gz p then
  if l.length=qN p then
   if Oy p.parts l p.parts.length then
    if p.rest then
     if(!(l.getD (aC p.parts) dm).parts.isEmpty||(l.getD (aC p.parts) dm).rest)&&(l.getD (aC p.parts) dm).parts.all eH then
      IU ⟨oN p.parts l p.parts.length++(l.getD (aC p.parts) dm).parts,(l.getD (aC p.parts) dm).rest⟩
     else(dm,33)
    else IU ⟨oN p.parts l p.parts.length,false⟩
   else(dm,33)
  else(dm,33)
 else(dm,bV p)
def gm (r:IK):Int:=if gz r.left then(if gz r.right then(if aC r.left.parts=aC r.right.parts∧r.left.rest=r.right.rest then 0 else 42) else 41) else 40
def okR (r:IK):Bool:=decide (gm r=0)
def TQ (r:IK) (s:ByteArray):ByteArray×Bool:=
 if okR r then(match eP r.left s with|none=>(noS,false)|some l=>((pO r.right l).1,decide ((pO r.right l).2=0))) else(noS,false)
def o9 (r:IK) (p:bH):IK×Bool×Int:=
 if okR r then
  if gz p then
   match jF r.left p with
   |none=>(Nv,false,0)
   |some m=>if(iI r.right ((jS r.left m).getD [])).2=0 then(⟨false,m,(iI r.right ((jS r.left m).getD [])).1⟩,true,0) else(Nv,false,43)
  else(Nv,false,bV p)
 else(Nv,false,gm r)
def lD (g:Iz):Int:=if gz g.base then(if g.holes.all gz then(if 64<g.holes.length then 52 else 0) else 51) else 50
def Zx (g:Iz) (s:ByteArray):Bool:=(eP g.base s).isSome&&!g.holes.any fun h=>(eP h s).isSome
def JR:Nat→List bH→List bH
 |0,l=>l
 |k+1,l=>if cb (abG (l.getD (k+1) dm)) (abG (l.getD k dm))<0 then JR k ((l.set (k+1) (l.getD k dm)).set k (l.getD (k+1) dm)) else l
def Iw (l:List bH):Nat→List bH
 |0=>l
 |k+1=>JR k (Iw l k)
def nG (l:List bH) (i j:Nat):Bool:=!decide (i=j)&&fP (l.getD i dm) (l.getD j dm)&&(decide (j<i)||!decide (l.getD i dm=l.getD j dm))
def Dq (l:List bH):Nat→List bH
 |0=>[]
 |k+1=>Dq l k++(if(List.range l.length).any (nG l k) then [] else [l.getD k dm])
def Zh (b:bH) (hs:List bH):List bH:=hs.filterMap (jF b)
def DV (b:bH) (hs:List bH):Iz:=⟨b,Dq (Iw (Zh b hs) (Zh b hs).length) (Zh b hs).length⟩
@[reducible] def pF:ByteArray:={data:= #[42]}
def vX (p:bH) (i:Nat):ByteArray:=if i<p.parts.length then p.parts.getD i noS else pF
def kU (p:bH) (n:Nat):Bool:=if p.rest then decide (p.parts.length<n) else decide (n=p.parts.length)
def mX (b h:bH) (n:Nat):Bool:=kU h n&&(List.range (min n h.parts.length)).all fun i=>aY (vX b i) (h.parts.getD i noS)
def lT (g:Iz) (n:Nat):Bool:=g.holes.any fun h=>mX g.base h n
def nR:List bH→Nat→Nat
 |[],m=>m
 |h::l,m=>nR l (max m h.parts.length)
def Ec (g:Iz):Nat:=
 if g.base.rest then(match(List.range (nR g.holes g.base.parts.length+1-g.base.parts.length)).find? (fun j=>!lT g (g.base.parts.length+1+j)) with|some j=>g.base.parts.length+1+j|none=>0)
 else if lT g g.base.parts.length then 0 else g.base.parts.length
def eQ.line (x:eQ):IK:=⟨false,x.left,x.right⟩
def eQ.BR (x:eQ):Iz:=⟨x.left,x.holes⟩
def kz (x:eQ):List bH→Option (List bH)
 |[]=>some []
 |h::l=>if(o9 x.line h).2.2=0 then(kz x l).map (fun t=>if(o9 x.line h).2.1 then(o9 x.line h).1.right::t else t) else none
def CB (x:eQ):Option Iz:=(kz x x.holes).map (DV x.right)
def kT (a b:Iz):Bool:=match jF a.base b.base with|none=>false|some m=>decide (0<Ec ⟨m,a.holes++b.holes⟩)
def D7 (x:eQ):Bool:=okR x.line&&decide (lD x.BR=0)
def oW (m:List eQ) (s:ByteArray):ByteArray×Bool:=match m.find? (fun x=>Zx x.BR s) with|none=>(noS,false)|some x=>TQ x.line s
end Go.Proofs.YtcpgicfphakdaaaGreatDoor
namespace Go.Proofs.YtcpgicfphakdaaaGreatDoor
open Go.Ab Tys
variable [Dr]
def adm.kk:=p3 kB Tryz.ntmps215 Tryz.results215
open adm in
theorem Nc (a b:ByteArray):AC Tryz.prog 215 [Str a,Str b] [] (fun r st=>r=I .i64 (Lib.compareBytes a.data.toList b.data.toList)∧st=[]):=by
 refine dA Tryz.func215 Tryz.ntmps215 fun x hx=>?_
 try refine nv ?_
 refine Rq [.string a, .string b] (by simp) (by simp only[iH,kk,Nat.reduceAdd,Nat.reduceLT,Nat.reduceEqDiff, ↓reduceIte,reduceCtorEq];first|done|rfl) (fun w=>by rw[run_callFunc_extern Tryz.func249 (by kernel_rfl) (by kernel_rfl) (by kernel_rfl) (e:=Extern.BytealgCompare.compare) (by kernel_rfl)];simp only[Lib.run_compareString,Result.andThen];first|done|rfl) rfl ?_
 simp only[fO,Ab.put,Nat.reduceEqDiff, ↓reduceIte,reduceCtorEq]
 try refine nv ?_
 refine rA [] ?_
 refine⟨?_,rfl⟩
 rfl
def z154.kk:=p3 kB Tryz.ntmps154 Tryz.results154
open z154 in
theorem y7 (a b:ByteArray):AC Tryz.prog 154 [Str a,Str b] [] (fun r st=>r=I .i64 (Lib.compareBytes a.data.toList b.data.toList)∧st=[]):=by
 refine dA Tryz.func154 Tryz.ntmps154 fun x hx=>?_
 (repeat (first|refine nv ?_|refine cf (Nc a b) ?_))
 refine rA [] ?_
 refine⟨?_,rfl⟩
 rfl
def aef.kk:=p3 kB Tryz.ntmps263 Tryz.results263
open aef in
theorem xZ (a:ByteArray) (c:Int):AC Tryz.prog 263 [Str a,I .u8 c] [] (fun r st=>r=I .i64 (Lib.indexByte a.data.toList c.toNat.toUInt8)∧st=[]):=by
 refine dA Tryz.func263 Tryz.ntmps263 fun x hx=>?_
 try refine nv ?_
 refine Rq [.string a, .int .u8 c] (by simp) (by simp only[iH,kk,Nat.reduceAdd,Nat.reduceLT,Nat.reduceEqDiff, ↓reduceIte,reduceCtorEq];first|done|rfl) (fun w=>by rw[run_callFunc_extern Tryz.func272 (by kernel_rfl) (by kernel_rfl) (by kernel_rfl) (e:=Extern.BytealgIndexByte.indexByte) (by kernel_rfl)];simp only[Lib.run_indexByteString,Result.andThen];first|done|rfl) rfl ?_
 simp only[fO,Ab.put,Nat.reduceEqDiff, ↓reduceIte,reduceCtorEq]
 try refine nv ?_
 refine rA [] ?_
 refine⟨?_,rfl⟩
 rfl
def adX.kk:=p3 kB Tryz.ntmps246 Tryz.results246
open adX in
theorem KT (a:ByteArray) (c:Int):AC Tryz.prog 246 [Str a,I .u8 c] [] (fun r st=>r=I .i64 (Lib.indexByte a.data.toList c.toNat.toUInt8)∧st=[]):=by
 refine dA Tryz.func246 Tryz.ntmps246 fun x hx=>?_
 (repeat (first|refine nv ?_|refine cf (xZ a c) ?_))
 refine rA [] ?_
 refine⟨?_,rfl⟩
 rfl
def adD.kk:=p7 kB kG kS Tryz.ntmps240 Tryz.underlying9 kC Tryz.results240
open adD in
theorem wR (s p:ByteArray):AC Tryz.prog 240 [Str s,Str p] [] (fun r st=>r=B (hasPrefix s p)∧st=[]):=by
 refine dA Tryz.func240 Tryz.ntmps240 fun x hx=>?_
 try refine nv ?_
 refine gq ?_ ?_
 ·exact iw @of_decide_eq_true
 refine bC ?_
 refine rA [] ?_
 refine⟨?_,rfl⟩
 cases h:decide (p.size≤s.size)<;>simp_all[hasPrefix]
def z194.kk:=p3 kB Tryz.ntmps194 Tryz.results194
open z194 in
theorem qc (s p:ByteArray):AC Tryz.prog 194 [Str s,Str p] [] (fun r st=>r=B (hasPrefix s p)∧st=[]):=by
 refine dA Tryz.func194 Tryz.ntmps194 fun x hx=>?_
 (repeat (first|refine nv ?_|refine cf (wR s p) ?_))
 refine rA [] ?_
 refine⟨?_,rfl⟩
 rfl
def adn.kk:=p6 kB kS Tryz.ntmps267 Tryz.underlying9 kC Tryz.results267
open adn in
theorem XT (a:ByteArray):AC Tryz.prog 267 [Str a,Str slash] [] (fun r st=>r=I .i64 (mM a)∧st=[]):=by
 refine dA Tryz.func267 Tryz.ntmps267 fun x hx=>?_
 try refine nx @nM ?_
 refine aj ?_ ?_
 ·intro h;simp at h
 intro _
 try refine nx @nM ?_
 refine aj ?_ ?_
 rotate_left
 ·intro h;simp at h
 intro _
 try refine nx @nM ?_
 refine Rq [.string a, .int .u8 (((slash.data.getD (Int.toNat 0) 0).toNat:Nat):Int)] (by simp) (by simp only[iH,kk,Nat.reduceAdd,Nat.reduceLT,Nat.reduceEqDiff, ↓reduceIte,reduceCtorEq];first|done|rfl) (fun w=>by rw[run_callFunc_extern Tryz.func275 (by kernel_rfl) (by kernel_rfl) (by kernel_rfl) (e:=Extern.BytealgCount.count) (by kernel_rfl)];simp only[Lib.run_countString,Result.andThen];first|done|rfl) rfl ?_
 simp only[fO,Ab.put,Nat.reduceEqDiff, ↓reduceIte,reduceCtorEq]
 try refine nv ?_
 refine rA [] ?_
 refine⟨?_,rfl⟩
 first|rfl|(simp only[QG];rfl)|(simp[mM];done)
def adH.kk:=p8 kB kG kS Tryz.ntmps276 Tryz.underlying9 uz kC Tryz.results276
open adH in
theorem Qx (a:ByteArray):AC Tryz.prog 276 [Str a,Str slash] [] (fun r st=>r=I .i64 (qQ a)∧st=[]):=by
 refine dA Tryz.func276 Tryz.ntmps276 fun x hx=>?_
 try refine nx @nM ?_
 refine aj ?_ ?_
 ·intro h
  have h':slash=a:=by simpa using h
  try refine nv ?_
  refine rA [] ?_
  refine⟨?_,rfl⟩
  rw[←h',show qQ slash=0 by decide]
 intro h
 try refine nv ?_
 refine aj ?_ ?_
 rotate_left
 ·intro h;simp at h
 intro _
 (repeat (first|refine nx @nM ?_|refine cf (xZ a (((slash.data.getD (Int.toNat 0) 0).toNat:Nat):Int)) ?_))
 refine rA [] ?_
 refine⟨?_,rfl⟩
 simp only[Int.toNat_natCast,qQ]
 rfl
def adL.kk:=p3 kB Tryz.ntmps268 Tryz.results268
open adL in
theorem Xj (a:ByteArray):AC Tryz.prog 268 [Str a,Str slash] [] (fun r st=>r=I .i64 (qQ a)∧st=[]):=by
 refine dA Tryz.func268 Tryz.ntmps268 fun x hx=>?_
 (repeat (first|refine nv ?_|refine cf (Qx a) ?_))
 refine rA [] ?_
 refine⟨?_,rfl⟩
 rfl
def adY.kk:=p9 kB kS Tryz.ntmps250 Tryz.underlying74 Tryz.underlying9 iC pX kC Tryz.results250
open adY in
theorem Qi (s0:ByteArray) (hs:s0.size≤1000000):AC Tryz.prog 250 [Str s0,Str slash,I .i64 0,I .i64 (-1)] [] (fun r st=>r=iy (split s0)∧st=[]):=by
 have hc:=UE s0
 have hmin:min ((mM s0:Int)+1) ((s0.size:Int)+1)=(mM s0:Int)+1:=by omega
 have hnat:((mM s0:Int)+1).toNat=mM s0+1:=by omega
 refine dA Tryz.func250 Tryz.ntmps250 fun x hx=>?_
 try refine nv ?_
 refine aj ?_ ?_
 ·intro h;simp at h
 intro _
 try refine nv ?_
 refine aj ?_ ?_
 ·intro h;exact absurd h (by decide)
 intro _
 try refine nv ?_
 refine aj ?_ ?_
 rotate_left
 ·intro h;simp at h
 intro _
 (repeat (first|refine nx (p2 @hmin @hnat) ?_|refine cf (XT s0) ?_))
 refine ax (ι:=List ByteArray×ByteArray) (I:=fun i=>⟨66,[(0,Str i.2),(1,Str slash),(2,I .i64 0),(3,I .i64 (mM s0)),(9, .c (.ms 31 1 0 (mM s0+1))),(10,I .i64 i.1.length)],
  [(31,aK 1 ((i.1++List.replicate (mM s0+1-i.1.length) ByteArray.empty).map encS))]⟩)
  (Inv:=fun i=>i.1.length≤mM s0∧i.2.size≤1000000∧i.1++splitN (mM s0-i.1.length) i.2=split s0) (μ:=fun i=>mM s0-i.1.length) ([],s0) ⟨by simp,hs,by simp[split]⟩ ?_ ?_
 ·(refine bI (fun i=>i) rfl ?_ ⟨?_,?_,?_,di hx (by simp[ae,Ab.get])⟩<;>first|(simp only[kE,aK, ↓reduceIte,Nat.reduceEqDiff,reduceCtorEq,List.replicate_succ];done)|simp[aW,aA,ag,Ab.get,aH,cu,aB,bD,aS,aQ,aU,aP,aT,ae,List.flatten,List.replicate_succ])
 ·rintro⟨done,rest⟩ ⟨h1,h2,h3⟩
  simp only at h1 h2 h3⊢
  have hi:=aag rest
  have hg:=aaY rest
  try refine nv ?_
  refine aj ?_ ?_
  ·intro hlt
   have hlt':done.length<mM s0:=by simpa using hlt
   (repeat (first|refine nv ?_|refine cf (Xj rest) ?_))
   refine aj ?_ ?_
   ·intro hneg
    have hneg':qQ rest<0:=by simpa using hneg
    have ht:=Pe done (mM s0+1-done.length) rest (by omega)
    have hn:((done.length:Int)+1).toNat=done.length+1:=by omega
    try refine nx @zn ?_
    refine bz (aZ (i:=62) (id:=31) (sz:=1) (ys:=((done++List.replicate (mM s0+1-done.length) ByteArray.empty).set done.length rest).map encS) rfl rfl (by simp;omega)) ?_
    refine dZ ?_
    try refine nx @hn ?_
    refine rA [] ?_
    refine⟨?_,rfl⟩
    rw[Hg hneg'] at h3
    rw[←List.map_take,ht,h3]
   ·intro hpos
    have hpos':0≤qQ rest:=by simpa using hpos
    have e0:(qQ rest+0).toNat=(qQ rest).toNat:=by omega
    have e1:(qQ rest+((1:Nat):Int)).toNat=(qQ rest).toNat+1:=by omega
    have hk:mM s0+1-done.length=(mM s0-done.length)+1:=by omega
    have hk':mM s0-done.length=(mM s0-(done.length+1))+1:=by omega
    (repeat (first|refine Eb ?_|refine BP (wr:=false) (by simp only[kk,Nat.reduceAdd,Nat.reduceLT,Nat.reduceEqDiff, ↓reduceIte,reduceCtorEq,nM,zn,e0,e1,hk,JL];first|done|rfl) ?_))
    refine⟨(done++[rest.extract 0 (qQ rest).toNat],rest.extract ((qQ rest).toNat+1) rest.size),⟨by simp;omega,by simp;omega,?_⟩,by simp;omega,?_⟩
    ·rw[←h3,hk',splitN,if_neg (by omega)];simp
    ·have hk2:mM s0+1-(done.length+1)=mM s0-done.length:=by omega
     exact EH @hk2
  ·intro hge
   have hge':done.length=mM s0:=by have:¬done.length<mM s0:=by simpa using hge
                                   omega
   have ht:=Pe done (mM s0+1-done.length) rest (by omega)
   have hn:((done.length:Int)+1).toNat=done.length+1:=by omega
   try refine nx @zn ?_
   refine bz (aZ (i:=62) (id:=31) (sz:=1) (ys:=((done++List.replicate (mM s0+1-done.length) ByteArray.empty).set done.length rest).map encS) rfl rfl (by simp;omega)) ?_
   refine dZ ?_
   try refine nx @hn ?_
   refine rA [] ?_
   refine⟨?_,rfl⟩
   rw[show mM s0-done.length=0 by omega,splitN] at h3
   rw[←List.map_take,ht,h3]
def z218.kk:=p3 kB Tryz.ntmps218 Tryz.results218
open z218 in
theorem GZ (s0:ByteArray) (hs:s0.size≤1000000):AC Tryz.prog 218 [Str s0,Str slash] [] (fun r st=>r=iy (split s0)∧st=[]):=by
 refine dA Tryz.func218 Tryz.ntmps218 fun x hx=>?_
 (repeat (first|refine nv ?_|refine cf (Qi s0 hs) ?_))
 refine rA [] ?_
 refine⟨?_,rfl⟩
 rfl
end Go.Proofs.YtcpgicfphakdaaaGreatDoor
namespace Go.Proofs.YtcpgicfphakdaaaGreatDoor
open Go.Ab
theorem oH {α:Type} {l:List α} {k:Nat} {v z:α} (h:l[k]? =some v):l.getD k z=v:=by simp[List.getD_eq_getElem?_getD,h]
end Go.Proofs.YtcpgicfphakdaaaGreatDoor
namespace Go.Proofs.YtcpgicfphakdaaaGreatDoor
open Go.Ab Tys
variable [Dr]
def adZ.kk:=p2 (p9 kB kG Tryz.ntmps122 Tryz.underlying60 Du FC Kv yJ Ak) (p8 EW EE uz We PE Qz kC Tryz.results122)
open adZ in
theorem XP (c:oD) (z:Nq) (hc:c.edits.length≤1000000):AC Tryz.prog 122 [Vb c,acN z] [] (fun r st=>r=B (zB c z)∧st=[]):=by
 refine dA Tryz.func122 Tryz.ntmps122 fun x hx=>?_
 try refine nv ?_
 refine ax (ι:=Nat) (I:=fun k=>⟨62,[(3, .c (.ptr 3 0)),(5,I .i64 ((c.edits.take k).filter (Aq z)).length),(9, .c (.d (.ps 12 (c.edits.map fM)))),(10,I .i64 c.edits.length),(11,I .i64 k)],[(3, .box ((fM z).map C.d))]⟩)
  (Inv:=fun k=>k≤c.edits.length) (μ:=fun k=>c.edits.length-k) 0 (by omega) ?_ ?_
 ·exact cO
 ·intro k hk
  have hF:=qE (Aq z) c.edits k
  try refine nv ?_
  refine aj ?_ ?_
  ·intro hlt
   have hlt':k<c.edits.length:=by simpa using hlt
   obtain⟨y,hy,he,htk⟩:=round fM c.edits k dU hlt'
   try refine nx @he ?_
   refine aj ?_ ?_
   ·intro h
    have h':Aq z y=true:=by
     rw[←h];simp only[Aq];cases decide (z.act=5)<;>cases decide (y.act=4)<;>cases decide (y.frm=z.path)<;>cases decide (z.act=4)<;>cases decide (y.act=5)<;>cases decide (y.path=z.frm)<;>rfl
    try refine nv ?_
    refine⟨k+1,by omega,by omega,?_⟩
    (refine bI (fun i=>i) rfl ?_ ⟨?_,?_,?_,di hx (by simp[ae,Ab.get])⟩<;>first|(simp only[kE,aK, ↓reduceIte,Nat.reduceEqDiff,reduceCtorEq,htk,h',List.filter_append];done)|simp[aW,aA,ag,Ab.get,aH,cu,aB,bD,aS,aQ,aU,aP,aT,ae,List.flatten,htk,h',List.filter_append])
   ·intro h
    have h':Aq z y=false:=by
     rw[←h];simp only[Aq];cases decide (z.act=5)<;>cases decide (y.act=4)<;>cases decide (y.frm=z.path)<;>cases decide (z.act=4)<;>cases decide (y.act=5)<;>cases decide (y.path=z.frm)<;>rfl
    try refine nv ?_
    refine⟨k+1,by omega,by omega,?_⟩
    (refine bI (fun i=>i) rfl ?_ ⟨?_,?_,?_,di hx (by simp[ae,Ab.get])⟩<;>first|(simp only[kE,aK, ↓reduceIte,Nat.reduceEqDiff,reduceCtorEq,htk,h',List.filter_append];done)|simp[aW,aA,ag,Ab.get,aH,cu,aB,bD,aS,aQ,aU,aP,aT,ae,List.flatten,htk,h',List.filter_append])
  ·intro hge
   have hge':k=c.edits.length:=by have:¬k<c.edits.length:=by simpa using hge
                                  omega
   try refine nv ?_
   refine rA [] ?_
   refine⟨?_,rfl⟩
   rw[hge',List.take_length]
   simp[zB,Uj,Bool.cond_true_left,Bool.cond_false_right];first|rfl|(congr 2;done)
end Go.Proofs.YtcpgicfphakdaaaGreatDoor
namespace Go.Proofs.YtcpgicfphakdaaaGreatDoor
open Go.Ab
def bZ:List UInt8→List (List UInt8)
 |[]=>[[]]
 |a::l=>if a=47 then []::bZ l else match bZ l with|[]=>[[a]]|h::t=>(a::h)::t
theorem gX:∀l,∃h t,bZ l=h::t
 |[]=>⟨[],[],rfl⟩
 |a::l=>by
  obtain⟨h,t,e⟩:=gX l
  simp only[bZ]
  split
  ·exact⟨_,_,rfl⟩
  ·rw[e];exact⟨_,_,rfl⟩
def ww:List UInt8→List UInt8→Int
 |[],[]=>0
 |[],_::_=> -1
 |_::_,[]=>1
 |a::l,b::m=>if a=b then ww l m else if a=47 then-1 else if b=47 then 1 else if a<b then-1 else 1
def qV:List (List UInt8)→List (List UInt8)→Int
 |[],[]=>0
 |[],_::_=> -1
 |_::_,[]=>1
 |a::l,b::m=>if Lib.compareBytes a b=0 then qV l m else Lib.compareBytes a b
theorem FQ:∀l m:List UInt8,ww l m=qV (bZ l) (bZ m)
 |[],[]=>by simp[ww,bZ,qV,Lib.compareBytes]
 |[],b::m=>by
  obtain⟨h,t,e⟩:=gX m
  simp only[ww,bZ]
  split
  ·rw[e];simp[qV,Lib.compareBytes]
  ·rw[e];simp[qV,Lib.compareBytes]
 |a::l,[]=>by
  obtain⟨h,t,e⟩:=gX l
  simp only[ww,bZ]
  split
  ·rw[e];simp[qV,Lib.compareBytes]
  ·rw[e];simp[qV,Lib.compareBytes]
 |a::l,b::m=>by
  obtain⟨h1,t1,e1⟩:=gX l
  obtain⟨h2,t2,e2⟩:=gX m
  have ih:=FQ l m
  simp only[ww,bZ]
  by_cases hab:a=b
  ·subst hab
   rw[if_pos rfl,ih]
   by_cases ha:a=47
   ·rw[if_pos ha,if_pos ha];simp[qV,Lib.compareBytes]
   ·have:¬a<a:=by simp
    rw[if_neg ha,if_neg ha,e1,e2]
    simp only[qV]
    rw[show Lib.compareBytes (a::h1) (a::h2)=Lib.compareBytes h1 h2 by rw[Lib.compareBytes,if_neg this,if_neg this]]
  ·rw[if_neg hab]
   by_cases ha:a=47
   ·have hb:¬b=47:=by rintro rfl;exact hab ha
    rw[if_pos ha,if_pos ha,if_neg hb,e2];simp[qV,Lib.compareBytes]
   ·rw[if_neg ha,if_neg ha]
    by_cases hb:b=47
    ·rw[if_pos hb,if_pos hb,e1];simp[qV,Lib.compareBytes]
    ·rw[if_neg hb,if_neg hb,e1,e2]
     simp only[qV]
     by_cases hl:a<b
     ·rw[if_pos hl,Lib.compareBytes,if_pos hl];simp
     ·have hg:b<a:=by
       simp only[UInt8.lt_iff_toNat_lt] at hl⊢
       have:a.toNat≠b.toNat:=fun h=>hab (UInt8.toNat_inj.1 h)
       omega
      rw[if_neg hl,Lib.compareBytes,if_neg hl,if_pos hg];simp
def D8 (l:List UInt8):ByteArray:=⟨l.toArray⟩
theorem AU (l:List UInt8):(D8 l).data.toList=l:=rfl
theorem ZC (s:ByteArray):D8 s.data.toList=s:=rfl
theorem sW:∀{pre:List UInt8},(∀x∈pre,x≠47)→bZ pre=[pre]
 |[],_=>rfl
 |a::l,h=>by
  rw[bZ,if_neg (h a (by simp)),sW fun x hx=>h x (by simp[hx])]
theorem uH:∀{pre post:List UInt8},(∀x∈pre,x≠47)→bZ (pre++47::post)=pre::bZ post
 |[],_,_=>by simp[bZ]
 |a::l,post,h=>by
  rw[List.cons_append,bZ,if_neg (h a (by simp)),uH fun x hx=>h x (by simp[hx])]
theorem NK:∀l:List UInt8,(Lib.indexByte l 47<0∧∀x∈l,x≠47)∨∃pre post,l=pre++47::post∧Lib.indexByte l 47=pre.length∧∀x∈pre,x≠47
 |[]=> .inl ⟨by simp[Lib.indexByte],by simp⟩
 |a::l=>by
  by_cases ha:a=47
  ·subst ha;exact .inr ⟨[],l,rfl,by simp[Lib.indexByte],by simp⟩
  ·rcases NK l with⟨h1,h2⟩|⟨pre,post,h1,h2,h3⟩
   ·refine .inl ⟨?_,?_⟩
    ·have:=Lib.indexByte_ge l 47
     have e:Lib.indexByte l 47= -1:=by omega
     simp[Lib.indexByte,ha,e]
    ·intro x hx
     rcases List.mem_cons.1 hx with rfl|hx
     ·exact ha
     ·exact h2 x hx
   ·refine .inr ⟨a::pre,post,by rw[h1];rfl,?_,?_⟩
    ·have:¬(pre.length:Int)= -1:=by omega
     simp[Lib.indexByte,ha,h2,this]
    ·intro x hx
     rcases List.mem_cons.1 hx with rfl|hx
     ·exact ha
     ·exact h3 x hx
theorem OV:∀(n:Nat) (l:List UInt8),Lib.countByte l 47≤n→splitN n (D8 l)=(bZ l).map D8
 |0,l,h=>by
  have:∀x∈l,x≠47:=by
   intro x hx e
   subst e
   have:=List.count_pos_iff.2 hx
   simp only[Lib.countByte] at h;omega
  rw[sW this];rfl
 |n+1,l,h=>by
  rcases NK l with⟨h1,h2⟩|⟨pre,post,h1,h2,h3⟩
  ·rw[sW h2,Hg (by simpa[qQ,AU] using h1)];rfl
  ·have hi:qQ (D8 l)=pre.length:=h2
   have hnn:¬qQ (D8 l)<0:=by omega
   subst h1
   rw[uH h3,splitN,if_neg hnn,hi,List.map_cons]
   have hc:Lib.countByte post 47≤n:=by
    simp only[Lib.countByte] at h⊢
    rw[List.count_append,List.count_cons_self] at h;omega
   rw[←OV n post hc]
   congr 1
   ·apply ByteArray.ext;rw[ByteArray.data_extract];simp[D8]
   ·congr 1
    apply ByteArray.ext;rw[ByteArray.data_extract];simp[D8,ByteArray.size];exact List.take_of_length_le (by omega)
theorem rC (s:ByteArray):split s=(bZ s.data.toList).map D8:=OV _ _ (Nat.le_refl _)
theorem YO:∀a b:List (List UInt8),cmpL (a.map D8) (b.map D8)=qV a b
 |[],[]=>rfl
 |[],_::_=>rfl
 |_::_,[]=>rfl
 |a::l,b::m=>by
  simp only[List.map_cons,cmpL,qV,cb,AU,YO l m]
theorem jI {p:ByteArray} {k:Nat} (hk:k<p.size):∃x,p.data.toList[k]? =some x∧byteAt p k=(x.toNat:Int):=by
 have h:k<p.data.size:=hk
 exact⟨p.data[k],by simp[h],by simp[byteAt,Array.getD,h,hk]⟩
theorem sH {p:ByteArray} {k:Nat} {x:UInt8} (hx:p.data.toList[k]? =some x):byteAt p k=47↔x=47:=by
 have hk:k<p.size:=by have:=(List.getElem?_eq_some_iff.1 hx).1;simpa using this
 obtain⟨y,h1,h2⟩:=jI hk
 rw[hx] at h1;cases h1
 rw[h2]
 constructor
 ·intro h;exact UInt8.toNat_inj.1 (by simpa using(by omega:x.toNat=47))
 ·rintro rfl;rfl
theorem EU (p:ByteArray) (b i:Nat):D8 ((p.data.toList.drop b).take (i-b))=p.extract b i:=by
 apply ByteArray.ext
 rw[ByteArray.data_extract]
 simp only[D8]
 apply Array.ext'
 simp[List.extract,List.drop_take]
def vB (p:ByteArray) (c b:Nat):Bool:=if b≤p.size then(bZ (p.data.toList.drop b)).all (fun x=>comp (D8 x))&&decide (2≤c+(bZ (p.data.toList.drop b)).length) else decide (2≤c)
theorem aaX {p:ByteArray} {c b i:Nat} (hb:b≤i) (hi:i≤p.size) (hno:∀k,b≤k→k<i→byteAt p k≠47) (hst:i=p.size∨(i<p.size∧byteAt p i=47)):
 vB p c b=(comp (p.extract b i)&&vB p (c+1) (i+1)):=by
 have hn:∀x∈(p.data.toList.drop b).take (i-b),x≠47:=by
  intro x hx e
  obtain⟨k,hk⟩:=List.getElem?_of_mem hx
  have hkl:=(List.getElem?_eq_some_iff.1 hk).1
  simp at hkl
  rw[List.getElem?_take,if_pos (by omega),List.getElem?_drop] at hk
  exact hno (b+k) (by omega) (by omega) ((sH hk).2 e)
 rw[←EU]
 unfold vB
 rw[if_pos (by omega)]
 rcases hst with h|⟨h,h47⟩
 ·have hall:(p.data.toList.drop b).take (i-b)=p.data.toList.drop b:=List.take_of_length_le (by have:p.data.size=p.size:=rfl;simp;omega)
  rw[hall] at hn⊢
  rw[sW hn,if_neg (by omega)]
  simp
 ·obtain⟨x,hx,_⟩:=jI h
  have hx47:=(sH hx).1 h47
  subst hx47
  have e:p.data.toList.drop b=(p.data.toList.drop b).take (i-b)++47::p.data.toList.drop (i+1):=by
   have h1:(p.data.toList.drop b).drop (i-b)=47::p.data.toList.drop (i+1):=by
    rw[List.drop_drop,show b+(i-b)=i by omega,List.drop_eq_getElem?_toList_append,hx];rfl
   conv=>lhs;rw[←List.take_append_drop (i-b) (p.data.toList.drop b),h1]
  have e2:bZ (p.data.toList.drop b)=(p.data.toList.drop b).take (i-b)::bZ (p.data.toList.drop (i+1)):=by
   conv=>lhs;rw[e]
   exact uH hn
  rw[e2,if_pos (by omega),List.all_cons,List.length_cons,Bool.and_assoc,show c+1+(bZ (p.data.toList.drop (i+1))).length=c+((bZ (p.data.toList.drop (i+1))).length+1) by omega]
theorem YL {p:ByteArray} (h:hasPrefix p dV=true):(aJ p).isSome=vB p 0 2:=by
 have h2:2≤p.size:=by
  exact of_decide_eq_true (Bool.and_eq_true_iff.1 h).1
 have hb:(p.extract 2 p.size).data.toList=p.data.toList.drop 2:=by
  rw[←EU,AU]
  exact List.take_of_length_le (by simp)
 have hs:split (p.extract 2 p.size)=(bZ (p.data.toList.drop 2)).map D8:=by rw[rC,hb]
 unfold aJ iT vB
 rw[if_pos h,if_pos h2,hs,List.all_map]
 cases ha:(bZ (p.data.toList.drop 2)).all fun x=>comp (D8 x) with
 |true=>
  rw[if_pos (by simpa[Function.comp] using ha)]
  simp only[List.length_map,Bool.true_and,Nat.zero_add]
  by_cases hl:(bZ (p.data.toList.drop 2)).length<2
  ·rw[if_pos hl];symm;simp;omega
  ·rw[if_neg hl];symm;simp;omega
 |false=>
  rw[if_neg (by simpa[Function.comp] using ha)]
  simp
theorem y8 {p:ByteArray} (h:hasPrefix p dV=false):(aJ p).isSome=false:=by
 simp[aJ,iT,h]
theorem X5 {p q:ByteArray} (hp:(aJ p).isSome=true) (hq:(aJ q).isSome=true):ww p.data.toList q.data.toList=ord p q:=by
 have key:∀{p:ByteArray},(aJ p).isSome=true→∃l,p.data.toList=47::47::l∧aJ p=some ((bZ l).map D8):=by
  intro p hp
  have hpre:hasPrefix p dV=true:=by
   cases h:hasPrefix p dV with
   |true=>rfl
   |false=>rw[y8 h] at hp;cases hp
  have h2:2≤p.size:=by
   exact of_decide_eq_true (Bool.and_eq_true_iff.1 hpre).1
  have hext:p.extract 0 2=dV:=by
   have:=(Bool.and_eq_true_iff.1 hpre).2
   exact of_decide_eq_true this
  have hb:(p.extract 2 p.size).data.toList=p.data.toList.drop 2:=by
   rw[←EU,AU]
   exact List.take_of_length_le (by simp)
  refine⟨p.data.toList.drop 2,?_,?_⟩
  ·have:(p.data.toList.drop 0).take (2-0)=[47,47]:=by
    have:=EU p 0 2
    rw[hext] at this
    have:=congrArg (fun b:ByteArray=>b.data.toList) this
    simpa[D8] using this
   conv=>lhs;rw[←List.take_append_drop 2 p.data.toList]
   rw[show p.data.toList.take 2=[47,47] by simpa using this];rfl
  ·have hs:split (p.extract 2 p.size)=(bZ (p.data.toList.drop 2)).map D8:=by rw[rC,hb]
   unfold aJ iT at hp⊢
   rw[if_pos hpre,hs] at hp⊢
   by_cases ha:((bZ (p.data.toList.drop 2)).map D8).all comp=true
   ·rw[if_pos ha] at hp⊢
    simp only at hp⊢
    split
    ·rename_i hl;rw[if_pos hl] at hp;cases hp
    ·rfl
   ·rw[if_neg ha] at hp;cases hp
 obtain⟨l,e1,p1⟩:=key hp
 obtain⟨m,e2,p2⟩:=key hq
 rw[e1,e2]
 have:ww (47::47::l) (47::47::m)=ww l m:=by simp[ww]
 rw[this,FQ]
 unfold ord
 rw[p1,p2]
 exact(YO _ _).symm
theorem acx:okB 47=false:=by kernel_rfl
theorem nV {s:ByteArray} (h:comp s=true):∀k,k<s.size→okB (byteAt s k)=true:=by
 intro k hk
 simp only[comp,Bool.and_eq_true] at h
 exact jm _ k (fun k=>okB (byteAt s k)) hk h.2
theorem SE {s:ByteArray} (h:∀k,k<s.size→okB (byteAt s k)=true):∀x∈s.data.toList,x≠47:=by
 intro x hx e
 subst e
 obtain⟨k,hk⟩:=List.getElem?_of_mem hx
 have hl:=(List.getElem?_eq_some_iff.1 hk).1
 have hk2:k<s.size:=by simpa using hl
 have:=h k hk2
 rw[(sH hk).2 rfl,acx] at this
 cases this
theorem xx:∀Ls:List (List UInt8),Ls≠[]→(∀l∈Ls,∀x∈l,x≠47)→bZ (Lib.join Ls [47])=Ls
 |[],h,_=>absurd rfl h
 |[l],_,h=>by rw[Lib.join_one,sW (h l (by simp))]
 |l::m::r,_,h=>by
  have e:Lib.join (l::m::r) [47]=l++47::Lib.join (m::r) [47]:=by
   rw[Lib.join_cons,Lib.join_cons]
   simp[Lib.joinTail]
  rw[e,uH (h l (by simp)),xx (m::r) (by simp) fun l hl=>h l (List.mem_cons_of_mem _ hl)]
theorem Nj (L:List ByteArray):(L.map (·.data.toList)).map D8=L:=by
 rw[List.map_map]
 conv=>rhs;rw[←List.map_id L]
 exact List.map_congr_left fun _ _=>rfl
theorem GY (a b:ByteArray):(a++b).extract a.size (a++b).size=b:=ByteArray.extract_append_eq_right rfl ByteArray.size_append
theorem QZ (a b:ByteArray):(a++b).extract 0 a.size=a:=ByteArray.extract_append_eq_left rfl
theorem Ku {L:List ByteArray} (h2:2≤L.length) (hc:L.all comp=true):aJ (dV++dL L slash)=some L:=by
 have hd:dV.size=2:=rfl
 have hp:hasPrefix (dV++dL L slash) dV=true:=by
  have:=QZ dV (dL L slash)
  rw[hd] at this
  simp only[hasPrefix,hd,this,decide_true,Bool.and_true,decide_eq_true_eq]
  simp[ByteArray.size_append,hd]
 have he:(dV++dL L slash).extract 2 (dV++dL L slash).size=dL L slash:=GY dV _
 have hs:split (dL L slash)=L:=by
  rw[rC]
  have:(dL L slash).data.toList=Lib.join (L.map (·.data.toList)) [47]:=by simp[dL,slash]
  rw[this,xx _ (by intro h;rw[List.map_eq_nil_iff] at h;subst h;simp at h2) ?_,Nj]
  intro l hl x hx
  obtain⟨s,hs,rfl⟩:=List.mem_map.1 hl
  exact SE (nV (List.all_eq_true.1 hc s hs)) x hx
 unfold aJ iT
 rw[if_pos hp,he,hs,if_pos hc]
 simp only
 rw[if_neg (by omega)]
theorem fG {x:ByteArray} (h:aX x=true):1≤x.size∧∀k,1≤k→k<x.size→okB (byteAt x k)=true:=by
 simp only[aX,Bool.and_eq_true,Bool.not_eq_true',Bool.or_eq_false_iff,decide_eq_false_iff_not] at h
 refine⟨qL h.1.1,fun k h1 hk=>?_⟩
 have:=jm _ k (fun k=>decide (k=0)||okB (byteAt x k)) hk h.2
 simpa[show ¬k=0 by omega] using this
theorem ry {a b:ByteArray} {k:Nat} (h:k<a.size):byteAt (a++b) k=byteAt a k:=by
 have h1:(a++b).data=a.data++b.data:=ByteArray.data_append
 have h2:k<a.data.size:=h
 simp only[byteAt,h1,Array.getD_eq_getD_getElem?,Array.getElem?_append,if_pos h2]
theorem Dz {a b:ByteArray} {k:Nat} (h:a.size≤k):byteAt (a++b) k=byteAt b (k-a.size):=by
 have h1:(a++b).data=a.data++b.data:=ByteArray.data_append
 have h2:¬k<a.data.size:=by have:a.data.size=a.size:=rfl;omega
 simp only[byteAt,h1,Array.getD_eq_getD_getElem?,Array.getElem?_append,if_neg h2];rfl
theorem Gx {a:ByteArray} {i k:Nat} (h:i+k<a.size):byteAt (a.extract i a.size) k=byteAt a (i+k):=by
 have h2:i+k<a.data.size:=h
 simp only[byteAt,ByteArray.data_extract,Array.getD_eq_getD_getElem?,Array.getElem?_extract]
 rw[if_pos (by have e:a.data.size=a.size:=rfl;omega)]
theorem NC {x:ByteArray} (h:aX x=true):(jY x).size=x.size-1:=by
 simp only[jY,if_pos h,ByteArray.size_extract];omega
theorem AA {s:ByteArray} (h:comp s=true):1≤s.size∧¬byteAt s 0=46:=by
 simp only[comp,Bool.and_eq_true,Bool.not_eq_true',Bool.or_eq_false_iff,decide_eq_false_iff_not] at h
 exact⟨qL h.1.1,h.1.2⟩
theorem TA {s:ByteArray} (h1:1≤s.size) (h2:¬byteAt s 0=46) (h3:∀k,k<s.size→okB (byteAt s k)=true):comp s=true:=by
 simp only[comp,Bool.and_eq_true,Bool.not_eq_true',Bool.or_eq_false_iff,decide_eq_false_iff_not]
 refine⟨⟨?_,h2⟩,?_⟩
 ·rintro rfl;simp[ByteArray.size] at h1
 ·rw[List.all_eq_true];intro k hk;exact h3 k (List.mem_range.1 hk)
theorem NI {c x:ByteArray} (hc:comp c=true) (hx:aX x=true):comp (c++jY x)=true:=by
 obtain⟨c1,c2⟩:=AA hc
 obtain⟨x1,x2⟩:=fG hx
 refine TA (by rw[ByteArray.size_append];omega) (by rw[ry (by omega)];exact c2) ?_
 intro k hk
 rw[ByteArray.size_append,NC hx] at hk
 by_cases h:k<c.size
 ·rw[ry h];exact nV hc k h
 ·rw[Dz (by omega),jY,if_pos hx,Gx (by omega)]
  exact x2 _ (by omega) (by omega)
theorem oG {p:bH}:gz p=true↔(1≤p.parts.length∧(p.rest=false→2≤p.parts.length)∧comp (p.parts.getD 0 noS)=true∧(p.parts.drop 1).all eH=true∧p.parts.length≤12):=by
 unfold gz bV
 rw[decide_eq_true_eq]
 split
 ·rename_i h
  constructor
  ·intro h;omega
  ·rintro⟨h1,h2,h3,_⟩
   rcases h with h|⟨h,h'⟩|h
   ·omega
   ·have:=h2 h';omega
   ·rw[h] at h3;cases h3
 ·rename_i h
  simp only[not_or,not_and] at h
  split
  ·rename_i ha
   split
   ·constructor
    ·intro h;omega
    ·intro h;omega
   ·refine⟨fun _=>⟨by omega,?_,by simpa using h.2.2,ha,by omega⟩,fun _=>rfl⟩
    intro hr
    have:=h.2.1
    by_cases h1:p.parts.length=1
    ·exact absurd hr (this h1)
    ·omega
  ·rename_i ha
   constructor
   ·intro h;omega
   ·rintro⟨_,_,_,h4,_⟩;exact absurd h4 ha
theorem CS (ps cs:List ByteArray):∀k,(jg ps cs k).length=k
 |0=>rfl
 |k+1=>by simp[jg,CS ps cs k]
theorem NG {p:bH} (h:gz p=true) {i:Nat} (hi:i<p.parts.length) (hs:aX (p.parts.getD i noS)=false):comp (p.parts.getD i noS)=true:=by
 obtain⟨h1,_,h3,h4,_⟩:=oG.1 h
 cases i with
 |zero=>exact h3
 |succ i=>
  have hm:p.parts.getD (i+1) noS∈p.parts.drop 1:=by
   rw[List.getD_eq_getElem?_getD,List.getElem?_eq_getElem hi,Option.getD_some,List.mem_iff_getElem]
   exact⟨i,by simp;omega,by simp[Nat.add_comm]⟩
  have:=List.all_eq_true.1 h4 _ hm
  rw[eH,hs] at this
  exact this
theorem KF {p:bH} (h:gz p=true) {cs:List ByteArray}:∀{k:Nat},k≤p.parts.length→o7 p.parts cs k=true→(jg p.parts cs k).all comp=true
 |0,_,_=>rfl
 |k+1,hk,hf=>by
  simp only[o7,List.range_succ,List.all_append,List.all_cons,List.all_nil,Bool.and_true,Bool.and_eq_true] at hf
  simp only[jg,List.all_append,List.all_cons,List.all_nil,Bool.and_true,Bool.and_eq_true]
  refine⟨KF h (by omega) hf.1,?_⟩
  cases hs:aX (p.parts.getD k noS) with
  |true=>
   have:=hf.2
   rw[hs] at this
   exact NI (by simpa using this) hs
  |false=>simpa using NG h (by omega) hs
theorem WG (s:ByteArray):1≤(split s).length:=by
 obtain⟨h,t,e⟩:=gX s.data.toList
 rw[rC,e];simp
theorem UL {p:bH} {cs:List ByteArray} (h:(pO p cs).2=0):(aJ (pO p cs).1).isSome=true:=by
 unfold pO at h⊢
 by_cases h1:gz p=true
 ·rw[if_pos h1] at h⊢
  split at h
  ·rename_i h2
   rw[if_pos h2]
   split at h
   ·rename_i h3
    rw[if_pos h3]
    have ha:=KF h1 (Nat.le_refl _) h3
    split at h
    ·rename_i h4
     rw[if_pos h4]
     split at h
     ·rename_i h5
      rw[if_pos h5]
      simp only
      rw[Ku (by rw[List.length_append,CS];have:=(oG.1 h1).1;have:=WG (cs.getD (aC p.parts) noS);omega) (by rw[List.all_append,ha,h5];rfl)]
      rfl
     ·simp at h
    ·rename_i h4
     rw[if_neg h4]
     simp only
     rw[Ku (by rw[CS];exact(oG.1 h1).2.1 (by simpa using h4)) ha]
     rfl
   ·simp at h
  ·simp at h
 ·rw[if_neg h1] at h
  simp only at h
  exact absurd (decide_eq_true h) h1
theorem Yi {r:IK} {s:ByteArray} (h:(TQ r s).2=true):(aJ (TQ r s).1).isSome=true:=by
 unfold TQ at h⊢
 split at h
 ·rename_i h1
  rw[if_pos h1]
  cases hm:eP r.left s with
  |none=>rw[hm] at h;cases h
  |some l=>
   rw[hm] at h
   exact UL (of_decide_eq_true h)
 ·cases h
theorem aa4 {m:List eQ} {s:ByteArray} (h:(oW m s).2=true):(aJ (oW m s).1).isSome=true:=by
 unfold oW at h⊢
 cases hf:m.find? (fun x=>Zx x.BR s) with
 |none=>rw[hf] at h;cases h
 |some x=>rw[hf] at h;exact Yi h
theorem lh {s t:ByteArray}:dP s t=true↔∃r,s=r++t:=by
 simp only[dP,Bool.and_eq_true,decide_eq_true_eq]
 constructor
 ·rintro⟨h1,h2⟩
  refine⟨s.extract 0 (s.size-t.size),?_⟩
  conv=>rhs;arg 2;rw[←h2]
  rw[ByteArray.extract_append_extract]
  simp
 ·rintro⟨r,rfl⟩
  refine⟨by rw[ByteArray.size_append];omega,?_⟩
  have:(r++t).size-t.size=r.size:=by rw[ByteArray.size_append];omega
  rw[this]
  exact GY r t
theorem OJ (s:ByteArray):dP s s=true:=lh.2 ⟨ByteArray.empty,by simp⟩
theorem uN {a b c:ByteArray} (h1:dP a b=true) (h2:dP b c=true):dP a c=true:=by
 obtain⟨r,rfl⟩:=lh.1 h1
 obtain⟨q,rfl⟩:=lh.1 h2
 exact lh.2 ⟨r++q,by rw[ByteArray.append_assoc]⟩
theorem oJ {s t:ByteArray} (h:dP s t=true):t.size≤s.size:=by
 simp only[dP,Bool.and_eq_true,decide_eq_true_eq] at h;exact h.1
theorem Ox {s t:ByteArray} (h1:dP s t=true) (h2:dP t s=true):s=t:=by
 have a:=oJ h1
 have b:=oJ h2
 simp only[dP,Bool.and_eq_true,decide_eq_true_eq] at h1
 rw[←h1.2,show s.size-t.size=0 by omega]
 simp
theorem zN {a:ByteArray} {n k:Nat} (h:k<n) (hn:n≤a.size):byteAt (a.extract 0 n) k=byteAt a k:=by
 have h2:k<a.data.size:=by have:a.data.size=a.size:=rfl;omega
 simp only[byteAt,ByteArray.data_extract,Array.getD_eq_getD_getElem?,Array.getElem?_extract]
 rw[if_pos (by have e:a.data.size=a.size:=rfl;omega)]
 simp
theorem Xk {c:ByteArray} (hc:comp c=true) {n:Nat} (hn:n≤c.size):comp (c.extract 0 n)=decide (0<n):=by
 by_cases h:0<n
 ·rw[decide_eq_true h]
  obtain⟨c1,c2⟩:=AA hc
  have hs:(c.extract 0 n).size=n:=by rw[ByteArray.size_extract];omega
  refine TA (by omega) (by rw[zN h hn];exact c2) ?_
  intro k hk
  rw[zN (by omega) hn]
  exact nV hc k (by omega)
 ·have:n=0:=by omega
  subst this
  have e:c.extract 0 0=ByteArray.empty:=by simp
  rw[e]
  decide
theorem J3 {x:ByteArray} (hx:comp x=true):aX x=false:=by
 cases h:aX x with
 |false=>rfl
 |true=>
  simp only[aX,Bool.and_eq_true,Bool.not_eq_true',Bool.or_eq_false_iff,decide_eq_false_iff_not] at h
  have h0:=h.1.2
  simp at h0
  have:=nV hx 0 (by have:=(AA hx).1;omega)
  rw[h0] at this
  have e:okB 42=false:=by kernel_rfl
  rw[e] at this;cases this
theorem yc {x c:ByteArray} (hx:aX x=true) (hc:comp c=true):(qw x c).2=(dP c (jY x)&&decide ((jY x).size<c.size)):=by
 simp only[qw,if_pos hx]
 cases h:dP c (jY x) with
 |false=>simp
 |true=>
  have:=oJ h
  rw[if_pos rfl,Xk hc (by omega)]
  simp
  omega
theorem oO {x:ByteArray} (h:eH x=true):(aX x=true)∨(aX x=false∧comp x=true):=by
 unfold eH at h
 cases hs:aX x with
 |true=>exact .inl rfl
 |false=>rw[hs] at h;exact .inr ⟨rfl,h⟩
theorem YX {x y:ByteArray} (hx:aX x=true) (hy:aX y=true) (h:jY x=jY y):x=y:=by
 have e:∀z:ByteArray,aX z=true→z=pF++jY z:=by
  intro z hz
  have h1:=(fG hz).1
  simp only[aX,Bool.and_eq_true,Bool.not_eq_true',Bool.or_eq_false_iff,decide_eq_false_iff_not] at hz
  have h0:=hz.1.2
  simp at h0
  have hz2:aX z=true:=by simp only[aX,Bool.and_eq_true,Bool.not_eq_true',Bool.or_eq_false_iff,decide_eq_false_iff_not];exact hz
  have:z.extract 0 1=pF:=by
   apply ByteArray.ext
   simp only[pF,ByteArray.data_extract]
   have hsz:0<z.data.size:=h1
   apply Array.ext
   ·simp;omega
   ·intro i h1 h2
    have:i=0:=by simp at h2;omega
    subst this
    simp only[byteAt,Array.getD_eq_getD_getElem?,Array.getElem?_eq_getElem hsz] at h0
    have h0':z.data[0].toNat=42:=by
     have h1:((z.data[0].toNat:Nat):Int)=42:=by simpa using h0
     omega
    simp only[Array.getElem_extract,Nat.zero_add,List.getElem_toArray,List.getElem_cons_zero]
    exact UInt8.toNat_inj.1 h0'
  rw[jY,if_pos hz2]
  conv=>rhs;arg 1;rw[←this]
  rw[ByteArray.extract_append_extract]
  simp
 rw[e x hx,e y hy,h]
theorem xQ {x:ByteArray} (hx:eH x=true):aY x x=true:=by
 rcases oO hx with h|⟨h,_⟩
 ·simp[aY,h,OJ]
 ·simp[aY,h]
theorem Bh {x y z:ByteArray} (hx:eH x=true) (h1:aY x y=true) (h2:aY y z=true):aY x z=true:=by
 cases hz:aX z with
 |false=>
  simp[aY,hz] at h2
  subst h2;exact h1
 |true=>
  cases hy:aX y with
  |false=>
   simp[aY,hy] at h1
   subst h1;exact h2
  |true=>
   have h3:dP (jY y) (jY z)=true:=by simpa[aY,hy,hz] using h2
   rcases oO hx with h|⟨h,hc⟩
   ·have h4:dP (jY x) (jY y)=true:=by simpa[aY,hy,h] using h1
    simpa[aY,h,hz] using uN h4 h3
   ·have h4:(qw y x).2=true:=by simpa[aY,hy,h] using h1
    rw[yc hy hc] at h4
    simp only[Bool.and_eq_true,decide_eq_true_eq] at h4
    have h5:=oJ h3
    have:(qw z x).2=true:=by
     rw[yc hz hc]
     simp only[Bool.and_eq_true,decide_eq_true_eq]
     exact⟨uN h4.1 h3,by omega⟩
    simpa[aY,h,hz] using this
theorem Dx {x y:ByteArray} (h1:aY x y=true) (h2:aY y x=true):x=y:=by
 cases hy:aX y with
 |false=>simpa[aY,hy] using h1
 |true=>
  cases hx:aX x with
  |false=>exact(by simpa[aY,hx] using h2:y=x).symm
  |true=>exact YX hx hy (Ox (by simpa[aY,hx,hy] using h1) (by simpa[aY,hx,hy] using h2))
def dC (p:bH):Prop:=∀i,i<p.parts.length→eH (p.parts.getD i noS)=true
theorem dE {p:bH} (h:gz p=true):dC p:=by
 intro i hi
 unfold eH
 cases hs:aX (p.parts.getD i noS) with
 |true=>rfl
 |false=>exact NG h hi hs
theorem Qs:eH pF=true:=by decide
theorem PT {p:bH} (h:dC p) (i:Nat):eH (vX p i)=true:=by
 unfold vX
 split
 ·rename_i hi;exact h i hi
 ·exact Qs
structure wo (p q:bH):Prop where
 len:q.parts.length≤p.parts.length
 fix:q.rest=false→p.rest=false∧p.parts.length=q.parts.length
 rst:q.rest=true→p.parts.length=q.parts.length→p.rest=true
 ins:∀i,i<q.parts.length→aY (p.parts.getD i noS) (q.parts.getD i noS)=true
theorem within_iff {p q:bH} (hp:gz p=true) (hq:gz q=true):fP p q=true↔wo p q:=by
 simp only[fP,hp,hq,Bool.true_and,Bool.and_eq_true,decide_eq_true_eq,Bool.or_eq_true,Bool.not_eq_true',List.all_eq_true,List.mem_range,Bool.and_eq_false_iff]
 constructor
 ·rintro⟨⟨⟨h1,h2⟩,h3⟩,h4⟩
  refine⟨h1,?_,?_,h4⟩
  ·intro hr
   rcases h2 with h2|⟨h2,h5⟩
   ·rw[hr] at h2;cases h2
   ·exact⟨h2,by omega⟩
  ·intro hr hl
   rcases h3 with(h3|h3)|h3
   ·rw[hr] at h3;cases h3
   ·exact absurd hl (by simpa using h3)
   ·simpa using h3
 ·rintro⟨h1,h2,h3,h4⟩
  refine⟨⟨⟨h1,?_⟩,?_⟩,h4⟩
  ·cases hr:q.rest with
   |true=>exact .inl rfl
   |false=>exact .inr ⟨(h2 hr).1,by have:=(h2 hr).2;omega⟩
  ·cases hr:q.rest with
   |false=>exact .inl (.inl rfl)
   |true=>
    by_cases hl:p.parts.length=q.parts.length
    ·exact .inr (by rw[h3 hr hl];rfl)
    ·exact .inl (.inr (by simpa using hl))
theorem wo.refl {p:bH} (h:dC p):wo p p:=⟨Nat.le_refl _,fun h=>⟨h,rfl⟩,fun h _=>h,fun i hi=>xQ (h i hi)⟩
theorem wo.trans {p q r:bH} (hp:dC p) (h1:wo p q) (h2:wo q r):wo p r:=by
 refine⟨Nat.le_trans h2.len h1.len,?_,?_,?_⟩
 ·intro hr
  obtain⟨a,b⟩:=h2.fix hr
  obtain⟨c,e⟩:=h1.fix a
  exact⟨c,by omega⟩
 ·intro hr hl
  have a:=h1.len
  have b:=h2.len
  exact h1.rst (h2.rst hr (by omega)) (by omega)
 ·intro i hi
  have b:=h2.len
  have a:=h1.len
  exact Bh (hp i (by omega)) (h1.ins i (by omega)) (h2.ins i hi)
theorem wo.acQ {p q:bH} (h1:wo p q) (h2:wo q p):p=q:=by
 have hl:p.parts.length=q.parts.length:=Nat.le_antisymm h2.len h1.len
 obtain⟨ps,pr⟩:=p
 obtain⟨qs,qr⟩:=q
 simp only at hl
 have hr:pr=qr:=by
  cases qr with
  |true=>exact h1.rst rfl hl
  |false=>exact(h1.fix rfl).1
 subst hr
 have:ps=qs:=by
  apply List.ext_getElem hl
  intro i a b
  have e1:=h1.ins i b
  have e2:=h2.ins i a
  simp only[List.getD_eq_getElem?_getD,List.getElem?_eq_getElem a,List.getElem?_eq_getElem b,Option.getD_some] at e1 e2
  exact Dx e1 e2
 rw[this]
theorem G6 {b h:bH} {n:Nat}:mX b h n=true↔kU h n=true∧∀i,i<n→i<h.parts.length→aY (vX b i) (h.parts.getD i noS)=true:=by
 simp only[mX,Bool.and_eq_true,List.all_eq_true,List.mem_range]
 constructor
 ·rintro⟨h1,h2⟩;exact⟨h1,fun i a b=>h2 i (by omega)⟩
 ·rintro⟨h1,h2⟩;exact⟨h1,fun i a=>h2 i (by omega) (by omega)⟩
theorem counts_iff {h:bH} {n:Nat}:kU h n=true↔(h.rest=true∧h.parts.length<n)∨(h.rest=false∧n=h.parts.length):=by
 unfold kU
 cases h.rest<;>simp
theorem DW {b h k:bH} (hb:dC b) (hw:wo h k) {n:Nat} (hc:mX b h n=true):mX b k n=true:=by
 rw[G6] at hc⊢
 obtain⟨h1,h2⟩:=hc
 have hl:=hw.len
 refine⟨?_,?_⟩
 ·rw[counts_iff] at h1⊢
  cases hr:k.rest with
  |false=>
   obtain⟨a,e⟩:=hw.fix hr
   rcases h1 with⟨h1,_⟩|⟨_,h1⟩
   ·rw[a] at h1;cases h1
   ·exact .inr ⟨rfl,by omega⟩
  |true=>
   refine .inl ⟨rfl,?_⟩
   rcases h1 with⟨_,h1⟩|⟨h0,h1⟩
   ·omega
   ·by_cases e:h.parts.length=k.parts.length
    ·rw[hw.rst hr e] at h0;cases h0
    ·omega
 ·intro i hi hk
  exact Bh (PT hb i) (h2 i hi (by omega)) (hw.ins i hk)
theorem FH {g:Iz} {n:Nat}:lT g n=true↔∃h∈g.holes,mX g.base h n=true:=by simp[lT]
theorem Fq:∀(l:List bH) (m:Nat),m≤nR l m∧∀h∈l,h.parts.length≤nR l m
 |[],m=>⟨Nat.le_refl _,fun h hh=>by cases hh⟩
 |k::l,m=>by
  obtain⟨h1,h2⟩:=Fq l (max m k.parts.length)
  simp only[nR]
  refine⟨by omega,?_⟩
  intro h hh
  rcases List.mem_cons.1 hh with rfl|hh
  ·omega
  ·exact h2 h hh
theorem WV {g:Iz} {n m:Nat} (hn:nR g.holes g.base.parts.length<n) (hm:n≤m) (h:lT g n=true):lT g m=true:=by
 rw[FH] at h⊢
 obtain⟨k,hk,hc⟩:=h
 have hl:=(Fq g.holes g.base.parts.length).2 k hk
 refine⟨k,hk,?_⟩
 rw[G6] at hc⊢
 rw[counts_iff] at hc⊢
 refine⟨?_,fun i a b=>hc.2 i (by omega) b⟩
 rcases hc.1 with⟨a,b⟩|⟨a,b⟩
 ·exact .inl ⟨a,by omega⟩
 ·omega
theorem P5 {g:Iz} (hb:1≤g.base.parts.length):0<Ec g↔∃n,kU g.base n=true∧lT g n=false:=by
 unfold Ec
 cases hr:g.base.rest with
 |false=>
  rw[if_neg (by simp)]
  have e:∀n,kU g.base n=true↔n=g.base.parts.length:=fun n=>by rw[counts_iff,hr];simp
  cases hf:lT g g.base.parts.length with
  |true=>
   rw[if_pos rfl]
   refine⟨fun h=>by omega,?_⟩
   rintro⟨n,h1,h2⟩
   rw[(e n).1 h1,hf] at h2;cases h2
  |false=>
   rw[if_neg (by simp)]
   exact⟨fun _=>⟨_,(e _).2 rfl,hf⟩,fun _=>by omega⟩
 |true=>
  rw[if_pos rfl]
  have e:∀n,kU g.base n=true↔g.base.parts.length<n:=fun n=>by rw[counts_iff,hr];simp
  have hm:=(Fq g.holes g.base.parts.length).1
  split
  ·rename_i j hj
   have:=List.find?_some hj
   refine⟨fun _=>⟨g.base.parts.length+1+j,(e _).2 (by omega),by simpa using this⟩,fun _=>by omega⟩
  ·rename_i hj
   rw[List.find?_eq_none] at hj
   refine⟨fun h=>by omega,?_⟩
   rintro⟨n,h1,h2⟩
   have h1:=(e n).1 h1
   exfalso
   by_cases hn:n≤nR g.holes g.base.parts.length+1
   ·have:=hj (n-(g.base.parts.length+1)) (List.mem_range.2 (by omega))
    rw[show g.base.parts.length+1+(n-(g.base.parts.length+1))=n by omega] at this
    rw[h2] at this;exact this rfl
   ·have:=hj (nR g.holes g.base.parts.length-g.base.parts.length) (List.mem_range.2 (by omega))
    rw[show g.base.parts.length+1+(nR g.holes g.base.parts.length-g.base.parts.length)=nR g.holes g.base.parts.length+1 by omega] at this
    have h3:lT g (nR g.holes g.base.parts.length+1)=true:=by
     cases h:lT g (nR g.holes g.base.parts.length+1) with
     |true=>rfl
     |false=>rw[h] at this;exact absurd rfl this
    rw[WV (by omega) (by omega:_≤n) h3] at h2
    cases h2
end Go.Proofs.YtcpgicfphakdaaaGreatDoor
namespace Go.Ab
variable [Dr]
def BD (P:Program) (f:FuncId) (args:List AV) (r:AV) (st0:List (Nat×AO)) (st1:Option (List (Nat×AO))) (ob:Nat→Option AO):Option Out:=
 some ⟨r,st1.getD [],[∀p∈st0,ob p.1=some p.2,∀p∈st0,bD (ae st0) p.2,∀a∈args,aH (ae st0) a,AC P f args st0 (fun r' st'=>r'=r∧st'=st1.getD st0),∀p∈st1.getD [],ae st0 p.1=true∨ob p.1=none]⟩
omit [Dr] in
theorem Y9 {l:List (Nat×AO)} {i:Nat} {a:AO} (h:get l i=some a):put l i a=l:=by
 induction l with
 |nil=>simp[Ab.get] at h
 |cons p l ih=>
  obtain⟨j,y⟩:=p
  simp only[Ab.get] at h
  simp only[Ab.put]
  by_cases e:j=i
  ·subst e;simp at h;subst h;simp
  ·rw[if_neg e] at h⊢
   rw[ih h]
omit [Dr] in
theorem xP {st:List (Nat×AO)}:∀{l:List (Nat×AO)},(∀p∈l,get st p.1=some p.2)→aF st l=st
 |[],_=>rfl
 |p::l,h=>by
  have e:aF st (p::l)=aF (put st p.1 p.2) l:=rfl
  rw[e,Y9 (h p List.mem_cons_self)]
  exact xP fun q hq=>h q (List.mem_cons_of_mem _ hq)
omit [Dr] in
theorem UC {l:List (Nat×AO)} {q:Nat×AO} (h:q∈l):ae l q.1=true:=by
 induction l with
 |nil=>cases h
 |cons p l ih=>
  obtain⟨j,y⟩:=p
  simp only[ae,Ab.get]
  by_cases e:j=q.1
  ·rw[if_pos e];rfl
  ·rw[if_neg e]
   rcases List.mem_cons.1 h with rfl|h
   ·exact absurd rfl e
   ·exact ih h
abbrev Lns:=List (Nat×(List (Nat×AO)×Option (List (Nat×AO))))
def WL (ls:Lns) (o:Oper):Option (List (Nat×AO)×Option (List (Nat×AO))):=match o.dst with|some d=>get ls d|none=>none
def DK (P:Program) (wr:Bool) (ops:List Oper) (cs:List (Nat×AV)) (ls:Lns) (o:Oper) (s:S):Option Out:=
 match WL ls o with
 |some p=>
  match o.guard,o.op with
  |none, .call {callee:= .value (.func f),args:=⟨asq⟩,argTypes:=_}=>
   match iH s asq,get cs (o.dst.getD 0) with
   |some args,some r=>BD P f args r p.1 p.2 (get s.st)
   |_,_=>none
  |some (j,want), .call {callee:= .value (.func f),args:=⟨asq⟩,argTypes:=_}=>
   match En ops s j,jT.evsAll s asq,get cs (o.dst.getD 0) with
   |some (bs,b),some args,some r=>
    match BD P f args r p.1 p.2 (get s.st) with
    |some out=>some ⟨out.v,out.upd,(dN bs (if want then b else !b)=true)::(qJ s asq++out.obl)⟩
    |none=>none
   |_,_,_=>none
  |some (j,want), .buildSlice _ _ _=>
   match En ops s j with
   |some (bs,b)=>some ⟨.cond (dN bs (if want then b else !b)) (.c (.d (.v (.int .i64 0)))),[],[dN bs (if want then b else !b)=false]⟩
   |none=>none
  |_,_=>none
 |none=>jT P wr ops cs o s
def Ce (ops:List Oper) (ls:Lns) (o:Oper) (s:S):List (FX×Option Ct):=
 readsOf ops o s++(match WL ls o with|some p=>(p.1++p.2.getD []).map fun q=>((false,q.1),look s (false,q.1))|none=>[])
def a1L (ops:List Oper) (ls:Lns) (o:Oper) (s:S) (out:Out):A1:=⟨Ce ops ls o s,o.dst.map fun d=>(d,out.v),out.upd⟩
def PW (P:Program) (wr:Bool) (ops:List Oper) (cs:List (Nat×AV)) (ls:Lns):List Oper→S→Option (List A1×List Prop×S)
 |[],s=>some ([],[],s)
 |o::l,s=>
  if pJ o s.n then
   match DK P wr ops cs ls o s with
   |some out=>
    match PW P wr ops cs ls l ⟨s.n,fO s.env o.dst out.v,aF s.st out.upd⟩ with
    |some (As,ps,s')=>some (a1L ops ls o s out::As,out.obl++ps,s')
    |none=>none
   |none=>none
  else none
omit [Dr] in
theorem TK {ops:List Oper} {ls:Lns} {o:Oper} {s s':S} {out:Out} (hn:s'.n=s.n):(a1L ops ls o s out).app s'=⟨s.n,fO s'.env o.dst out.v,aF s'.st out.upd⟩:=by
 simp only[A1.app,a1L,hn]
 cases o.dst<;>rfl
section
variable {P:Program} {x:X} {ops:List Oper} {ls:Lns} {o:Oper} {s s':S} {wr:Bool} {cs:List (Nat×AV)}
omit [Dr] in
theorem V9 (h:∀p∈Ce ops ls o s,look s' p.1=p.2):∀p∈readsOf ops o s,look s' p.1=p.2:=fun p hp=>h p (List.mem_append_left _ hp)
theorem NY (h:∀p∈Ce ops ls o s,look s' p.1=p.2):DK P wr ops cs ls o s'=DK P wr ops cs ls o s:=by
 have h0:=V9 h
 unfold DK
 cases hl:WL ls o with
 |none=>exact xm h0
 |some p=>
  have hob:∀q∈p.1++p.2.getD [],get s'.st q.1=get s.st q.1:=by
   intro q hq
   refine LW (h ((false,q.1),look s (false,q.1)) ?_)
   unfold Ce
   rw[hl]
   exact List.mem_append_right _ (List.mem_map.2 ⟨q,hq,rfl⟩)
  have hcall:∀f args r,BD P f args r p.1 p.2 (get s'.st)=BD P f args r p.1 p.2 (get s.st):=by
   intro f args r
   unfold BD
   have e1:(∀q∈p.1,get s'.st q.1=some q.2)=(∀q∈p.1,get s.st q.1=some q.2):=
    propext ⟨fun g q hq=>by rw[←hob q (List.mem_append_left _ hq)];exact g q hq,fun g q hq=>by rw[hob q (List.mem_append_left _ hq)];exact g q hq⟩
   have e2:(∀q∈p.2.getD [],ae p.1 q.1=true∨get s'.st q.1=none)=(∀q∈p.2.getD [],ae p.1 q.1=true∨get s.st q.1=none):=
    propext ⟨fun g q hq=>by rw[←hob q (List.mem_append_right _ hq)];exact g q hq,fun g q hq=>by rw[hob q (List.mem_append_right _ hq)];exact g q hq⟩
   rw[e1,e2]
  simp only
  split
  ·rename_i f asq ats hg hop
   rw[oL h0 fun y hy=>by rw[hop];simp[Op.operands,Call.operands,hy]]
   split
   ·exact hcall _ _ _
   ·rfl
  ·rename_i j want f asq ats hg hop
   rw[xA h0 hg,pR h0 fun y hy=>by rw[hop];simp[Op.operands,Call.operands,hy],nN h0 (l:=asq) fun y hy=>by rw[hop];simp[Op.operands,Call.operands,hy]]
   split
   ·rw[hcall]
   ·rfl
  ·rename_i j want _ _ _ hg hop
   rw[xA h0 hg]
  ·rfl
theorem PP {out:Out} (h:DK P wr ops cs ls o s=some out) (ho:All out.obl) (hdst:pJ o s.n=true) {a:Act} {w:World} (hsat:Sat x s a w)
 {K:Act→World→Prop} {Q:Exit→Act→World→Prop} (hK:∀a w,Sat x ⟨s.n,fO s.env o.dst out.v,aF s.st out.upd⟩ a w→K a w):
 if Region.wanted o (yielded ops.toArray a.tmps) then o.wp P a w K Q else K (a.put o.dst undef) w:=by
 have hd:∀i,o.dst=some i→i<s.n:=fun i hi=>by simpa[pJ,hi] using hdst
 unfold DK at h
 cases hl:WL ls o with
 |none=>rw[hl] at h;exact rM h ho hdst hsat hK
 |some p=>
  rw[hl] at h
  simp only at h
  split at h
  ·rename_i f asq ats hg hop
   rw[if_pos (by simp[Region.wanted,hg])]
   obtain⟨bl,cap,hs,henv,hdf,hsz⟩:=hsat
   split at h
   ·rename_i args r hargs hr
    unfold BD at h
    cases h
    simp only[All] at ho
    obtain⟨o1,o2,o3,o4,o5, -⟩:=ho
    refine uC (st0:=p.1) hop hd ⟨o1,o2,o3⟩ o4 hs henv hdf hsz (jl henv hargs) ?_
    rintro r' st' ⟨rfl,rfl⟩
    obtain⟨st0,st1⟩:=p
    cases st1 with
    |some st1=>exact⟨o5,fun a w h=>hK a w h⟩
    |none=>
     simp only[Option.getD] at o1 hK⊢
     refine⟨fun q hq=> .inl ?_,fun a w h=>hK a w ?_⟩
     ·exact UC hq
     ·rw[xP o1] at h;exact h
   ·cases h
  ·rename_i j want f asq ats hg hop
   obtain⟨bl,cap,hs,henv,hdf,hsz⟩:=hsat
   split at h
   ·rename_i bs b args r hgv hargs hr
    unfold BD at h
    simp only at h
    cases h
    simp only[All] at ho
    obtain⟨hG,ho⟩:=ho
    obtain⟨hob,ho⟩:=All.append ho
    simp only[All] at ho
    obtain⟨o1,o2,o3,o4,o5, -⟩:=ho
    rw[zV henv hg hgv,hG,if_pos rfl]
    refine uC (st0:=p.1) hop hd ⟨o1,o2,o3⟩ o4 hs henv hdf hsz (uO henv hargs hob) ?_
    rintro r' st' ⟨rfl,rfl⟩
    obtain⟨st0,st1⟩:=p
    cases st1 with
    |some st1=>exact⟨o5,fun a w h=>hK a w h⟩
    |none=>
     simp only[Option.getD] at o1 hK⊢
     refine⟨fun q hq=> .inl ?_,fun a w h=>hK a w ?_⟩
     ·exact UC hq
     ·rw[xP o1] at h;exact h
   ·cases h
  ·rename_i j want _ _ _ hg hop
   obtain⟨bl,cap,hs,henv,hdf,hsz⟩:=hsat
   split at h
   ·rename_i bs b hgv
    cases h
    simp only[All] at ho
    have hG:=ho.1
    rw[zV henv hg hgv,hG,if_neg (by simp)]
    refine hK _ _ ⟨bl,cap,hs,henv.fO (fun i hi=>by rw[hsz];exact hd i hi) (And.intro (fun h'=>by rw[hG] at h';cases h') (fun _=>rfl)),by rw[Act.put_defers];exact hdf,by rw[Act.fK];exact hsz⟩
   ·cases h
  ·cases h
omit [Dr] in
theorem P6 {q:FX×Option Ct} (h:q∈Ce ops ls o s):q.2=look s q.1:=by
 unfold Ce at h
 rcases List.mem_append.1 h with h|h
 ·exact E5.reads_self h
 ·split at h
  ·obtain⟨y,_,rfl⟩:=List.mem_map.1 h;rfl
  ·cases h
theorem TR:∀{l:List Oper} {s s':S} {As:List A1} {ps:List Prop},PW P wr ops cs ls l s=some (As,ps,s')→All ps→
 As.length=l.length∧lY As s l.length=s'∧(∀(i:Nat) (A:A1),As[i]? =some A→A.Fits (lY As s i))∧∀(i:Nat) (o:Oper) (A:A1),l[i]? =some o→As[i]? =some A→A.J8 P x s.n ops.toArray o
 |[],s,s',As,ps,h,_=>by cases h;exact⟨rfl,rfl,by simp,by simp⟩
 |o::l,s,s',As,ps,h,hp=>by
  simp only[PW] at h
  split at h
  ·rename_i hd
   split at h
   ·rename_i out hout
    split at h
    ·rename_i As' ps' s'' hrec
     cases h
     obtain⟨p1,p2⟩:=All.append hp
     obtain⟨i1,i2,i3,i4⟩:=TR hrec p2
     have shift:∀i,lY (a1L ops ls o s out::As') s (i+1)=lY As' ⟨s.n,fO s.env o.dst out.v,aF s.st out.upd⟩ i:=by
      intro i
      induction i with
      |zero=>simp only[lY,List.getElem?_cons_zero];exact TK rfl
      |succ i ih=>
       rw[lY,ih]
       simp only[List.getElem?_cons_succ]
       rfl
     refine⟨by simp[i1],by rw[List.length_cons,shift];exact i2,?_,?_⟩
     ·intro i A hA
      cases i with
      |zero=>simp at hA;subst hA;intro p hp;exact(P6 hp).symm
      |succ i=>rw[shift];exact i3 i A (by simpa using hA)
     ·intro i o' A ho' hA
      cases i with
      |zero=>
       simp at ho' hA;subst ho';subst hA
       intro s1 a w hnn hs1 hf K Q hk
       have hloc:=NY (P:=P) (wr:=wr) (cs:=cs) (ls:=ls) (ops:=ops) (o:=o) (s:=s) (s':=s1) hf
       rw[hout] at hloc
       refine PP hloc p1 (by rw[hnn];exact hd) hs1 fun a w h=>hk a w ?_
       rw[TK hnn,←hnn];exact h
      |succ i=>exact i4 i o' A (by simpa using ho') (by simpa using hA)
    ·cases h
   ·cases h
  ·cases h
theorem Ui {id:Nat} {l:List Oper} {s s':S} {Q:Exit→S→Prop} (cs:List (Nat×AV)) (ls:Lns) {As:List A1} {ps:List Prop} (hm:P.follows .mixedOrders=true)
 (h:PW P wr l cs ls l s=some (As,ps,s')) (ho:All ps) (hc:vC l As=true) (hQ:Q .normal s'):T P x (.region id l.toArray true) s Q:=by
 obtain⟨h1,h2,h3,h4⟩:=TR (x:=x) h ho
 have hord:=GH h1 h3 hc
 intro a w hs
 refine wp_region_any hm ?_
 refine Nz hord (fun i o A hi hA=>h4 i o A (by simpa using hi) hA) (by simpa[h2] using hQ) _ _ s a _ (by simp) ?_ rfl ?_ ?_ (hs.drew _ (by first|exact Nat.le_succ _|exact Nat.le_add_right _ _|(simp;done)|omega))
 ·intro i o e hi hL he hb
  have hlt:i<l.length:=by simpa using(Array.getElem?_eq_some_iff.1 hi).1
  rw[getD_in (by simpa using hlt) true false] at hL
  simp[Array.getD,hlt] at hL
 ·intro r
  have hz:∀i,(Array.replicate l.toArray.size false).getD i false=false:=by
   intro i;simp[Array.getD]
  have:cont As s (fun i=>(Array.replicate l.toArray.size false).getD i false) r l.toArray.size=cont As s (fun i=>(Array.replicate l.toArray.size false).getD i false) r 0:=
   lX (Nat.zero_le _) (fun i _ _ _=>hz i)
  rw[this];rfl
 ·exact zQ
end
end Go.Ab
namespace Go.Ab
open Go.Shelf Go.Proofs Go.RowKit
theorem Yl [Dr] {P:Program} {f:FuncId} (hc:sU P f) {ρ:Ren} (hf:ρ.f 4=f) (L:Lays8.n4 P ρ) (id sz:Nat) (hs0:0<sz):
 AC P f [.c (.d (.v (.slice none 0 0))),I .i64 (0:Nat)] [] (fun r st=>r= .c (.ms id sz 0 0)∧st=[(id, .arr sz [])]):=by
 refine⟨hc,?_⟩
 intro bl cap F w us hs hargs
 cases hargs with
 |cons hv ht=>
 cases ht with
 |cons hv2 ht=>
 cases ht
 have hv2':bU _ _ _ _:=hv2
 cases hv2'
 have hv':bU _ _ _ _:=hv
 cases hv'
 subst hf
 refine(Any8.slices_Grow_room L none 0 0 0 w (by omega) (by omega) (by omega) (by omega)).mono fun e w' ⟨he,hw⟩=>?_
 subst hw
 obtain⟨bl',cap',a1,a2,a3⟩:=tH (x:=X.start bl cap F [] w') (id:=id) (sz:=sz) none hs (by simp[Ab.get]) hs0
 exact⟨_,_,bl',cap',_,he,⟨rfl,rfl⟩,by simp,a1,a3⟩
theorem aas [Dr] {P:Program} {f:FuncId} (hc:sU P f) {ρ:Ren} (hf:ρ.f 4=f) (L:Lays8.n4 P ρ) (i0:TypeInfo) (z:Value) (hi0:P.info? (ρ.t 25)=some i0) (hz0:i0.zero=some z) (hs0:0<i0.size) (hzs:z.cells.size=i0.size)
 (id n:Nat) (hn:0<n) (hbig:n*i0.bytes≤140737488355328) (h63:n≤4611686018427387904):
 AC P f [.c (.d (.v (.slice none 0 0))),I .i64 n] [] (fun r st=>r= .c (.ms id i0.size 0 0)∧st=[(id, .arr i0.size [])]):=by
 refine⟨hc,?_⟩
 intro bl cap F w us hs hargs
 cases hargs with
 |cons hv ht=>
 cases ht with
 |cons hv2 ht=>
 cases ht
 have hv2':bU _ _ _ _:=hv2
 cases hv2'
 have hv':bU _ _ _ _:=hv
 cases hv'
 subst hf
 refine(Any8.slices_Grow_grow L i0 z hi0 hz0 hs0 none 0 0 n [] w (by omega) (by omega) (by rw[Nat.zero_add];exact hbig) (by omega) (by simp) (fun _=>rfl) (fun a h=>by cases h)).mono fun e w' ⟨he,hw⟩=>?_
 subst hw
 obtain⟨bl',cap',a1,a2,a3⟩:=sV (x:=X.start bl cap F [] w) (id:=id) (sz:=i0.size) (n:=grownCap w (0+n) 0 (ρ.t 25)) (T:=ρ.t 25) (xs:=[]) (st:=[]) hs (by simp[Ab.get])
  (w':={w with heap:=w.heap.push (.cells (([]:List Value).toArray++Builtin.zeroCells z.cells (0+n-0)++Builtin.zeroCells z.cells (grownCap w (0+n) 0 (ρ.t 25)-(0+n))) (ρ.t 25) (0,0)),drawn:=w.drawn+1})
  (Jw _ _ (Nat.le_succ _)) Array.getElem?_push_size (by show _<(w.heap.push _).size;rw[Array.size_push];omega) hs0 (by simp) (by simp)
  (by
    have:=grownCap_ge w (0+n) 0 (ρ.t 25)
    simp only[Array.size_append,List.size_toArray,List.length_nil,size_zeroCells,hzs]
    rw[Nat.zero_add,←Nat.add_mul];congr 1;omega)
  (by simp;exact .nil)
 exact⟨_,_,bl',cap',_,he,⟨rfl,rfl⟩,by simp,a1,a3⟩
theorem YE [Dr] {P:Program} {f:FuncId} (hc:sU P f) {ρ:Ren} (hf:ρ.f 4=f) (L:Lays8.n4 P ρ) (i0:TypeInfo) (z:Value) (hi0:P.info? (ρ.t 25)=some i0) (hz0:i0.zero=some z) (hs0:0<i0.size) (hzs:z.cells.size=i0.size)
 (id n:Nat) (hbig:n*i0.bytes≤140737488355328) (h63:n≤4611686018427387904):
 AC P f [.c (.d (.v (.slice none 0 0))),I .i64 n] [] (fun r st=>r= .c (.ms id i0.size 0 0)∧st=[(id, .arr i0.size [])]):=by
 rcases Nat.eq_zero_or_pos n with rfl|h
 ·exact Yl hc hf L id _ hs0
 ·exact aas hc hf L i0 z hi0 hz0 hs0 hzs id n h hbig h63
end Go.Ab
namespace Go.Proofs.YtcpgicfphakdaaaGreatDoor
open Go.Ab
def pC (p q:ByteArray):Int:=cmpL ((aJ p).getD []) ((aJ q).getD [])
theorem fH:Cmp pC:=ZB.on fun p=>(aJ p).getD []
theorem XQ {p q:ByteArray} (hp:(aJ p).isSome=true) (hq:(aJ q).isSome=true):pC p q=ord p q:=by
 obtain⟨a,b,h1,h2,h3⟩:=wP hp hq
 rw[pC,h1,h2,h3];rfl
def VS (l:List ByteArray):Prop:=∀s∈l,(aJ s).isSome=true∧s.size≤100000
theorem VS.get {l:List ByteArray} (h:VS l) {i:Nat} (hi:i<l.length):(aJ (l.getD i noS)).isSome=true∧(l.getD i noS).size≤100000:=by
 refine h _ ?_
 rw[List.getD_eq_getElem?_getD,List.getElem?_eq_getElem hi]
 exact List.getElem_mem hi
section
variable {c:ByteArray→ByteArray→Int} (hc:Cmp c)
include hc
theorem Cmp.Ot {p q r:ByteArray} (h1:IG c p q) (h2:c q r<0):c p r<0:=by
 apply Classical.byContradiction
 intro h3
 exact(hc.le_trans (x:=r) (y:=p) (z:=q) h3 h1) h2
theorem jd {y:List ByteArray} (hs:aO c y) {i j:Nat} (hij:i≤j) (hj:j<y.length):IG c (y.getD i noS) (y.getD j noS):=by
 rw[List.getD_eq_getElem?_getD,List.getD_eq_getElem?_getD,List.getElem?_eq_getElem hj,List.getElem?_eq_getElem (by omega:i<y.length)]
 simp only[Option.getD_some]
 rcases Nat.lt_or_eq_of_le hij with h|h
 ·exact List.pairwise_iff_getElem.1 hs i j (by omega) hj h
 ·subst h;exact hc.le_refl _
theorem Xx {x0:ByteArray} {y1 y2:List ByteArray} (hy:aO c (y1++y2)) (h1:∀q∈y1,c q x0<0) (h2:∀q∈y2,¬c q x0<0):(y1++x0::y2).Perm ([x0]++(y1++y2))∧aO c (y1++x0::y2):=by
 refine⟨List.perm_middle,?_⟩
 rw[aO,List.pairwise_append] at hy⊢
 refine⟨hy.1,List.pairwise_cons.2 ⟨fun q hq=>h2 q hq,hy.2.1⟩,?_⟩
 intro p hp q hq
 rcases List.mem_cons.1 hq with rfl|hq
 ·exact hc.le_of_lt (h1 p hp)
 ·exact hy.2.2 p hp q hq
theorem JS {y0:ByteArray} {x1 x2:List ByteArray} (hx:aO c (x1++x2)) (h1:∀q∈x1,¬c y0 q<0) (h2:∀q∈x2,c y0 q<0):(x1++y0::x2).Perm ((x1++x2)++[y0])∧aO c (x1++y0::x2):=by
 refine⟨List.perm_middle.trans (List.perm_append_singleton _ _).symm,?_⟩
 rw[aO,List.pairwise_append] at hx⊢
 refine⟨hx.1,List.pairwise_cons.2 ⟨fun q hq=>hc.le_of_lt (h2 q hq),hx.2.1⟩,?_⟩
 intro p hp q hq
 rcases List.mem_cons.1 hq with rfl|hq
 ·exact h1 p hp
 ·exact hx.2.2 p hp q hq
end
theorem wL {y:List ByteArray} {n:Nat} {q:ByteArray} (h:q∈y.take n):∃i,i<n∧i<y.length∧y.getD i noS=q:=by
 obtain⟨i,hi,rfl⟩:=List.mem_iff_getElem.1 h
 simp only[List.length_take] at hi
 exact⟨i,by omega,by omega,by rw[List.getD_eq_getElem?_getD,List.getElem?_eq_getElem (by omega)];simp⟩
theorem xX {y:List ByteArray} {n:Nat} {q:ByteArray} (h:q∈y.drop n):∃i,n≤i∧i<y.length∧y.getD i noS=q:=by
 obtain⟨i,hi,rfl⟩:=List.mem_iff_getElem.1 h
 simp only[List.length_drop] at hi
 exact⟨n+i,by omega,by omega,by rw[List.getD_eq_getElem?_getD,List.getElem?_eq_getElem (by omega)];simp⟩
theorem aaH {P x y S l:List ByteArray} (hl:P++(x++(y++S))=l) {a m b:Nat} (ha:a=P.length) (hm:m=a+x.length) (hb:b=m+y.length):
 (∀h,a≤h→h<m→l.getD h noS=x.getD (h-a) noS)∧∀h,m≤h→h<b→l.getD h noS=y.getD (h-m) noS:=by
 subst hl
 refine⟨fun h h1 h2=>?_,fun h h1 h2=>?_⟩
 ·simp only[List.getD_eq_getElem?_getD]
  rw[List.getElem?_append_right (by omega),List.getElem?_append_left (by omega),ha]
 ·simp only[List.getD_eq_getElem?_getD]
  rw[List.getElem?_append_right (by omega),List.getElem?_append_right (by omega),List.getElem?_append_left (by omega)]
  rw[show h-P.length-x.length=h-m by omega]
theorem ach {P y S:List ByteArray} {x0:ByteArray} {k i:Nat} (hk:k<y.length) (hi:i=P.length+k) (z:ByteArray):
 (P++(y.take k++x0::(y.drop k++S))).getD i z=x0∧(P++(y.take k++x0::(y.drop k++S))).getD (i+1) z=y.getD k z∧
 ((P++(y.take k++x0::(y.drop k++S))).set i (y.getD k z)).set (i+1) x0=P++(y.take (k+1)++x0::(y.drop (k+1)++S)):=by
 have ed:y.drop k=y.getD k z::y.drop (k+1):=by rw[List.drop_eq_getElem_cons hk];simp[List.getD_eq_getElem?_getD,List.getElem?_eq_getElem hk]
 have et:y.take (k+1)=y.take k++[y.getD k z]:=by rw[List.take_add_one,List.getElem?_eq_getElem hk];simp[List.getD_eq_getElem?_getD,List.getElem?_eq_getElem hk]
 have lt:(y.take k).length=k:=by simp;omega
 generalize y.getD k z=w at ed et
 rw[ed,et]
 generalize y.take k=A at lt et
 generalize y.drop (k+1)=B at ed
 have e0:P++(A++x0::(w::B++S))=(P++A)++x0::(w::(B++S)):=by simp
 have e1:P++(A++x0::(w::B++S))=(P++A++[x0])++w::(B++S):=by simp
 refine⟨?_,?_,?_⟩
 ·rw[e0];exact pW (by simp[lt,hi])
 ·rw[e1];exact pW (by simp[lt,hi];omega)
 ·rw[e0,rD (by simp[lt,hi])]
  have e2:(P++A)++w::(w::(B++S))=(P++A++[w])++w::(B++S):=by simp
  rw[e2,rD (by simp[lt,hi];omega)]
  simp
theorem TL {P x S:List ByteArray} {y0:ByteArray} {j k:Nat} (hj:0<j) (hx:j≤x.length) (hk:k=P.length+j) (z:ByteArray):
 (P++(x.take j++y0::(x.drop j++S))).getD k z=y0∧(P++(x.take j++y0::(x.drop j++S))).getD (k-1) z=x.getD (j-1) z∧
 ((P++(x.take j++y0::(x.drop j++S))).set k (x.getD (j-1) z)).set (k-1) y0=P++(x.take (j-1)++y0::(x.drop (j-1)++S)):=by
 obtain⟨i,rfl⟩:∃i,j=i+1:=⟨j-1,by omega⟩
 have hx':i<x.length:=by omega
 have ed:x.drop i=x.getD i z::x.drop (i+1):=by rw[List.drop_eq_getElem_cons hx'];simp[List.getD_eq_getElem?_getD,List.getElem?_eq_getElem hx']
 have et:x.take (i+1)=x.take i++[x.getD i z]:=by rw[List.take_add_one,List.getElem?_eq_getElem hx'];simp[List.getD_eq_getElem?_getD,List.getElem?_eq_getElem hx']
 have lt:(x.take i).length=i:=by simp;omega
 simp only[Nat.add_sub_cancel]
 generalize x.getD i z=w at ed et
 rw[ed,et]
 generalize x.take i=A at lt et
 generalize x.drop (i+1)=B at ed
 have e0:P++(A++[w]++y0::(B++S))=(P++A++[w])++y0::(B++S):=by simp
 have e1:P++(A++[w]++y0::(B++S))=(P++A)++w::(y0::(B++S)):=by simp
 refine⟨?_,?_,?_⟩
 ·rw[e0];exact pW (by simp[lt,hk]<;>omega)
 ·rw[e1];exact pW (by simp[lt,hk]<;>omega)
 ·rw[e0,rD (by simp[lt,hk]<;>omega)]
  have e2:(P++A++[w])++w::(B++S)=(P++A)++w::(w::(B++S)):=by simp
  rw[e2,rD (by simp[lt,hk]<;>omega)]
  simp
section
variable {d:bJ} (hg:Good d.revs) (hN:d.revs.length≤512)
include hg hN
theorem Ih {f:bf} {iv:Nat} {v:Rev} (hv:d.revs[iv]? =some v) (hf:fileOf v=f):∀(n i:Nat) (u:Rev),i<n→d.revs[i]? =some u→¬u.act=5→first d u=f→iv≤i
 |0,i,u,h,_,_,_=>by omega
 |n+1,i,u,h,hu,u5,e=>by
  by_cases u1:u.act=1
  ·have e1:fileOf u=fileOf v:=by rw[iq (jO u1)] at e;rw[e,hf]
   have:=bQ hg hu hv e1
   omega
  ·obtain⟨j,w,hj,hw,ew,w5⟩:=RZ hg hN hu u1
   have:=Ih hv hf n j w (by omega) hw w5 (by rw[←(vK hg hN hu hw u5 u1 ew).1];exact e)
   omega
theorem Am (f:bf):jD d f=d.revs.filter fun u=>decide (¬u.act=5∧first d u=f):=by
 have hmem:=fun u=>yw hg hN (f:=f) (u:=u)
 have hnil:jD d f=[]→d.revs.filter (fun u=>decide (¬u.act=5∧first d u=f))=[]:=by
  intro h
  rw[List.filter_eq_nil_iff]
  intro u hu hp
  simp only[decide_eq_true_eq] at hp
  have:=(hmem u).2 ⟨hu,hp.1,hp.2⟩
  rw[h] at this;cases this
 cases hgt:lF d f.path f.num with
 |none=>
  have:jD d f=[]:=by simp[jD,hgt]
  rw[this,hnil this]
 |some v=>
  by_cases v1:v.act=1
  ·obtain⟨iv,hv,ev⟩:=(iQ hg).1 hgt
   have hvl:=(List.getElem?_eq_some_iff.1 hv).1
   have ht:=Ep hg hN hv ev v1 d.revs.length (Nat.le_refl _)
   rw[List.take_length] at ht
   have hl:jD d f=v::d.revs.filter (nO d f):=by simp only[jD,hgt,v1,if_true];exact ht
   have hsplit:d.revs=d.revs.take iv++v::d.revs.drop (iv+1):=by
    conv=>lhs;rw[←List.take_append_drop iv d.revs]
    congr 1
    rw[List.drop_eq_getElem_cons hvl]
    congr 1
    exact(List.getElem?_eq_some_iff.1 hv).2
   have hbef:∀u∈d.revs.take iv,¬(¬u.act=5∧first d u=f):=by
    rintro u hu ⟨u5,e⟩
    obtain⟨i,hi⟩:=List.getElem?_of_mem hu
    have hil:i<iv:=by have:=(List.getElem?_eq_some_iff.1 hi).1;simp at this;omega
    rw[List.getElem?_take,if_pos hil] at hi
    have:=Ih hg hN hv ev (i+1) i u (by omega) hi u5 e
    omega
   have hself:¬v.act=5∧first d v=f:=⟨by omega,by rw[iq (jO v1)];exact ev⟩
   rw[hl]
   rw[hsplit,List.filter_append,List.filter_append,List.filter_cons,List.filter_cons]
   have f1:(d.revs.take iv).filter (nO d f)=[]:=by
    rw[List.filter_eq_nil_iff]
    intro u hu h
    simp only[nO,decide_eq_true_eq] at h
    exact hbef u hu ⟨h.1,h.2.2⟩
   have f2:(d.revs.take iv).filter (fun u=>decide (¬u.act=5∧first d u=f))=[]:=by
    rw[List.filter_eq_nil_iff]
    intro u hu h
    simp only[decide_eq_true_eq] at h
    exact hbef u hu h
   have f3:nO d f v=false:=by simp[nO,v1]
   have f4:decide (¬v.act=5∧first d v=f)=true:=decide_eq_true hself
   have f5:(d.revs.drop (iv+1)).filter (nO d f)=(d.revs.drop (iv+1)).filter fun u=>decide (¬u.act=5∧first d u=f):=by
    apply List.filter_congr
    intro u hu
    obtain⟨i,hi⟩:=List.getElem?_of_mem hu
    rw[List.getElem?_drop] at hi
    rw[Bool.eq_iff_iff]
    simp only[nO,decide_eq_true_eq]
    refine⟨fun h=>⟨h.1,h.2.2⟩,fun h=>⟨h.1,fun u1=>?_,h.2⟩⟩
    have e1:fileOf u=fileOf v:=by have:=h.2;rw[iq (jO u1)] at this;rw[this,ev]
    have:=bQ hg hi hv e1
    omega
   rw[f1,f2,f3,f4,f5]
   simp
  ·have:jD d f=[]:=by simp[jD,hgt,v1]
   rw[this,hnil this]
theorem Y5 {i j:Nat} {u w:Rev} (hij:i<j) (hu:d.revs[i]? =some u) (hw:d.revs[j]? =some w) (u5:¬u.act=5) (w5:¬w.act=5) (hf:first d u=first d w):u.chg<w.chg:=by
 obtain⟨k,x,k1,k2,hx,x5,ex,fx⟩:=yx hg hN hij hu hw u5 w5 hf
 have w1:¬w.act=1:=by
  intro w1
  have:df w=xH:=by simp[df,w1]
  rw[this] at ex
  have:=hg.num k x hx
  have h0:x.num=0:=congrArg bf.num ex
  omega
 have h1:u.chg≤x.chg:=by
  rcases Nat.lt_or_ge i k with h|h
  ·exact hg.chg i k u x h hu hx
  ·have:i=k:=by omega
   subst this;rw[hu] at hx;cases hx;omega
 have h2:x.chg<w.chg:=by
  by_cases h4:w.act=4
  ·obtain⟨m,y,m1,m2,m3,m5,_,_,m6⟩:=hg.mov j w hw h4
   have e:fileOf y=fileOf x:=by rw[ex];simp[df,h4,fileOf,m3,m5]
   have:=bQ hg m2 hx e
   subst this;rw[m2] at hx;cases hx;exact m6
  ·obtain⟨m,y,m1,m2,m3,m5,_,_,m6⟩:=hg.prv j w hw w1 h4
   have e:fileOf y=fileOf x:=by rw[ex];simp[df,h4,w1,fileOf,m3,m5]
   have:=bQ hg m2 hx e
   subst this;rw[m2] at hx;cases hx;exact m6
 omega
theorem Wp (f:bf):(jD d f).Pairwise fun u w=>u.chg<w.chg:=by
 rw[Am hg hN]
 have h0:d.revs.Pairwise fun u w=>¬u.act=5→¬w.act=5→first d u=first d w→u.chg<w.chg:=
  List.pairwise_iff_getElem.2 fun i j hi hj hij u5 w5 e=>Y5 hg hN hij (List.getElem?_eq_getElem hi) (List.getElem?_eq_getElem hj) u5 w5 e
 refine(h0.filter _).imp_of_mem ?_
 intro u w hu hw h
 have h1:=(List.mem_filter.1 hu).2
 have h2:=(List.mem_filter.1 hw).2
 simp only[decide_eq_true_eq] at h1 h2
 exact h h1.1 h2.1 (h1.2.trans h2.2.symm)
open Classical in
theorem X8 {v:Rev} {p:Nat} (t:bf) (hp:(jD d (first d v))[p]? =some v):FY d v t=(((jD d (first d v)).take (p+1)).filter fun u=>decide (Open d t u)).map fileOf:=by
 have hpl:=(List.getElem?_eq_some_iff.1 hp).1
 have hpr:=Wp hg hN (first d v)
 have e1:FY d v t=(((jD d (first d v)).filter fun u=>decide (u.chg≤v.chg)).filter fun u=>decide (Open d t u)).map fileOf:=by
  rw[FY,Am hg hN,List.filter_filter,List.filter_filter]
  congr 1
  apply List.filter_congr
  intro u _
  rw[Bool.eq_iff_iff]
  simp only[decide_eq_true_eq,Bool.and_eq_true]
  constructor
  ·rintro⟨a,b,c,e⟩;exact⟨⟨e,c⟩,a,b⟩
  ·rintro⟨⟨e,c⟩,a,b⟩;exact⟨a,b,c,e⟩
 rw[e1]
 congr 2
 generalize jD d (first d v)=l at hp hpl hpr
 have hsp:l=l.take (p+1)++l.drop (p+1):=(List.take_append_drop _ _).symm
 conv=>lhs;rw[hsp]
 rw[List.filter_append]
 have a1:(l.take (p+1)).filter (fun u=>decide (u.chg≤v.chg))=l.take (p+1):=by
  rw[List.filter_eq_self]
  intro u hu
  obtain⟨i,hi⟩:=List.getElem?_of_mem hu
  have hil:i<p+1:=by have:=(List.getElem?_eq_some_iff.1 hi).1;simp at this;omega
  rw[List.getElem?_take,if_pos hil] at hi
  simp only[decide_eq_true_eq]
  by_cases e:i=p
  ·subst e;rw[hp] at hi;cases hi;omega
  ·obtain⟨q1,q2⟩:=List.getElem?_eq_some_iff.1 hi
   have:=(List.pairwise_iff_getElem.1 hpr) i p q1 hpl (by omega)
   rw[q2,(List.getElem?_eq_some_iff.1 hp).2] at this
   omega
 have a2:(l.drop (p+1)).filter (fun u=>decide (u.chg≤v.chg))=[]:=by
  rw[List.filter_eq_nil_iff]
  intro u hu h
  simp only[decide_eq_true_eq] at h
  obtain⟨i,hi⟩:=List.getElem?_of_mem hu
  rw[List.getElem?_drop] at hi
  obtain⟨q1,q2⟩:=List.getElem?_eq_some_iff.1 hi
  have:=(List.pairwise_iff_getElem.1 hpr) p (p+1+i) hpl q1 (by omega)
  rw[q2,(List.getElem?_eq_some_iff.1 hp).2] at this
  omega
 rw[a1,a2,List.append_nil]
end
def tV (d:bJ):Prop:=∀v∈d.revs,v.act=4→¬v.frm=v.path
theorem VK {d:bJ} {c:oD} (h:tV d) (hk:yV d c):tV (ku d c):=by
 intro v hv ha
 simp only[ku,List.mem_append] at hv
 rcases hv with hv|hv
 ·exact h v hv ha
 ·obtain⟨e,he,rfl⟩:=List.mem_map.1 hv
  obtain⟨i,hi,e2⟩:=List.mem_iff_getElem.1 he
  have hE:=hk.edit i hi
  rw[show c.edits.getD i dU=e by simp[List.getD,hi,e2]] at hE
  exact(hE.okFrm ha).2.2
theorem jX.Tc {l:List oD} {d:bJ} (h:jX l d):tV d:=by
 induction h with
 |nil=>intro r hr;simp[IP] at hr
 |skip c h ih=>exact ih
 |app h hc hk ih=>exact VK ih hk
def Jn (d:bJ):Prop:=∀v∈d.revs,(aJ v.path).isSome=true∧v.path.size≤100000
theorem jX.acP {l:List oD} {d:bJ} (h:jX l d):Jn d:=by
 induction h with
 |nil=>intro r hr;simp[IP] at hr
 |skip c h ih=>exact ih
 | @app l d c h hc hk ih=>
   intro v hv
   simp only[ku,List.mem_append,List.mem_map] at hv
   rcases hv with hv|⟨e,he,rfl⟩
   ·exact ih v hv
   ·obtain⟨i,hi,rfl⟩:=List.mem_iff_getElem.1 he
    have h0:=(hk.edit i hi).okPath
    rw[show c.edits.getD i dU=c.edits[i] by simp[List.getD,hi]] at h0
    exact⟨h0,hc.1 _ he⟩
def Ch (l:List Rev):Prop:=∀(i:Nat) (b r:Rev),l[i]? =some b→l[i+1]? =some r→pG b r=true
theorem TS {acc:List Rev} {r:Rev} (h:Ch acc) (h0:acc≠[]):Ch (lK acc r)∧lK acc r≠[]:=by
 unfold lK
 split
 ·rename_i hn
  refine⟨?_,by simp⟩
  intro i b r' hb hr
  have hl:=(List.getElem?_eq_some_iff.1 hr).1
  simp only[List.length_append,List.length_cons,List.length_nil] at hl
  by_cases hi:i+1<acc.length
  ·rw[List.getElem?_append_left (by omega)] at hb
   rw[List.getElem?_append_left hi] at hr
   exact h i b r' hb hr
  ·have e:i+1=acc.length:=by omega
   rw[List.getElem?_append_left (by omega)] at hb
   rw[List.getElem?_append_right (by omega),e,Nat.sub_self,List.getElem?_cons_zero,Option.some.injEq] at hr
   subst hr
   have:acc.getLast? =some b:=by rw[List.getLast?_eq_getElem?,show acc.length-1=i by omega,hb]
   rw[this] at hn
   exact hn
 ·exact⟨h,h0⟩
theorem Uh:∀(l acc:List Rev),Ch acc→acc≠[]→Ch (l.foldl lK acc)
 |[],_,h,_=>h
 |r::l,acc,h,h0=>Uh l _ (TS (r:=r) h h0).1 (TS (r:=r) h h0).2
theorem Xp (d:bJ) (f:bf):Ch (jD d f):=by
 unfold jD
 split
 ·split
  ·refine Uh _ _ ?_ (by simp)
   intro i b r hb hr
   simp at hr
  ·intro i b r hb;simp at hb
 ·intro i b r hb;simp at hb
section
variable {d:bJ} (hg:Good d.revs) (hN:d.revs.length≤512)
include hg hN
theorem CJ (hf:tV d) {f:bf} {i:Nat} {b r:Rev} (hb:(jD d f)[i]? =some b) (hr:(jD d f)[i+1]? =some r) (hp:r.path=b.path):r.num=b.num+1:=by
 have hn:=Xp d f i b r hb hr
 obtain⟨hm,_,_⟩:=(yw hg hN).1 (List.mem_of_getElem? hr)
 obtain⟨k,hk⟩:=List.getElem?_of_mem hm
 obtain⟨_,h1,hbf⟩:=(Cb hg hN hk).1 hn
 unfold df at hbf
 rw[if_neg h1] at hbf
 split at hbf
 ·rename_i h4
  have e:r.frm=b.path:=congrArg bf.path hbf
  exact absurd (by rw[e,hp]) (hf r hm h4)
 ·have e:r.num-1=b.num:=congrArg bf.num hbf
  omega
theorem FD (hf:tV d) {f:bf} {i:Nat} {b:Rev} (hb:(jD d f)[i]? =some b):∀(n:Nat) (r:Rev),(jD d f)[i+n]? =some r→
 (∀(k:Nat) (u:Rev),k≤n→(jD d f)[i+k]? =some u→u.path=b.path)→r.num=b.num+n
 |0,r,hr,_=>by rw[Nat.add_zero] at hr;rw[hb] at hr;cases hr;omega
 |n+1,r,hr,h=>by
  have hl:=(List.getElem?_eq_some_iff.1 hr).1
  have hu:(jD d f)[i+n]? =some (jD d f)[i+n]:=List.getElem?_eq_getElem (by omega)
  have ih:=FD hf hb n _ hu fun k u hk=>h k u (by omega)
  have:=CJ hg hN hf hu (r:=r) (by rw[show i+n+1=i+(n+1) by omega];exact hr) (by rw[h (n+1) r (Nat.le_refl _) hr,h n _ (by omega) hu])
  rw[this,ih];omega
theorem YV {f:bf} {u:Rev} (h:u∈jD d f):Xc d u.path u.num=some f:=
 (Xh hg hN).2 (List.mem_map.2 ⟨u,h,rfl⟩)
theorem Ud {u:Rev} (h:u∈d.revs):lF d u.path u.num=some u:=by
 obtain⟨j,hj⟩:=List.getElem?_of_mem h
 exact(iQ hg).2 ⟨j,hj,rfl⟩
theorem Kq {f:bf} {u:Rev} (h:(jD d f)[0]? =some u):fileOf u=f:=by
 have hc:∀(l acc:List Rev) (v:Rev),acc[0]? =some v→(l.foldl lK acc)[0]? =some v:=by
  intro l
  induction l with
  |nil=>intro acc v h;exact h
  |cons r l ih=>
   intro acc v h
   refine ih _ v ?_
   unfold lK
   split
   ·have:=(List.getElem?_eq_some_iff.1 h).1
    rw[List.getElem?_append_left this];exact h
   ·exact h
 unfold jD at h
 cases hgt:lF d f.path f.num with
 |none=>rw[hgt] at h;simp at h
 |some v=>
  rw[hgt] at h
  simp only at h
  split at h
  ·rw[hc _ [v] v rfl] at h
   cases h
   obtain⟨j,_,e⟩:=(iQ hg).1 hgt
   exact e
  ·simp at h
theorem Sm (hf:tV d) (hpt:Jn d) {f:bf} {i j:Nat} {a b w:Rev} (hij:i≤j) (ha:(jD d f)[i]? =some a) (hb:(jD d f)[j]? =some b)
 (hP:∀(k:Nat) (u:Rev),i≤k→k≤j→(jD d f)[k]? =some u→u.path=a.path) (hw:dD d w.path=some w) (w3:¬w.act=3) (w5:¬w.act=5) (hwl:¬first d w=f)
 {mv:ByteArray} (hm:mv=noS∨(aJ mv).isSome=true∧live d mv=false∧¬mv=w.path) (bp:ByteArray) (bn:Int) {k:Int} (hk:k=if b.act=3 then 3 else 2):
 Ou d ⟨k,f.path,f.num,a.path,a.num,b.num,w.path,w.num,bp,bn,mv⟩:=by
 have hma:=List.mem_of_getElem? ha
 have hmb:=List.mem_of_getElem? hb
 obtain⟨ma,_,_⟩:=(yw hg hN).1 hma
 obtain⟨mb,_,_⟩:=(yw hg hN).1 hmb
 have hpb:b.path=a.path:=hP j b hij (Nat.le_refl _) hb
 have hnb:b.num=a.num+(j-i:Nat):=FD hg hN hf ha (j-i) b (by rw[show i+(j-i)=j by omega];exact hb) fun k u hk hu=>hP (i+k) u (by omega) (by omega) hu
 obtain⟨ja,hja⟩:=List.getElem?_of_mem ma
 have hna:=hg.num ja a hja
 have hsrc:Sr d ⟨k,f.path,f.num,a.path,a.num,b.num,w.path,w.num,bp,bn,mv⟩=b:=by
  unfold Sr
  simp only
  rw[←hpb,Ud hg hN mb];rfl
 have hlw:live d w.path=true:=by simp[live,hw,gone,w3,w5]
 have hwm:w∈d.revs:=by obtain⟨jw,h1,_⟩:=fQ hw;exact List.mem_of_getElem? h1
 have hiw:Xc d w.path w.num=some (first d w):=by
  obtain⟨jw,hjw⟩:=List.getElem?_of_mem hwm
  exact(Be hg).2 ⟨jw,w,hjw,rfl,w5,rfl⟩
 refine⟨by simp only;omega,by simp only;omega,?_,by simp[dh,hw], .inr ⟨by rw[hsrc];exact hk,hlw,?_,hm⟩,(hpt w hwm).1⟩
 ·intro n h1 h2
  simp only at h1 h2⊢
  obtain⟨m,hm⟩:∃m:Nat,n=a.num+m:=⟨(n-a.num).toNat,by omega⟩
  have hlt:=(List.getElem?_eq_some_iff.1 hb).1
  have hu:(jD d f)[i+m]? =some (jD d f)[i+m]:=List.getElem?_eq_getElem (by omega)
  have hpu:=hP (i+m) _ (by omega) (by omega) hu
  have hnu:=FD hg hN hf ha m _ hu fun k u hk hu=>hP (i+k) u (by omega) (by omega) hu
  have:=YV hg hN (List.mem_of_getElem? hu)
  rw[hpu,hnu,←hm] at this
  exact this
 ·simp only
  rw[hiw]
  simpa[pz.line] using hwl
theorem Ns {p t:ByteArray} {v:Rev} (hv:dD d p=some v) (v3:¬v.act=3) (v5:¬v.act=5) (hl:live d t=false) (ht:(aJ t).isSome=true) {fs:Int} (h1:1≤fs) (h2:fs≤v.num)
 (hr:∀n:Int,fs≤n→n≤v.num→Xc d p n=some (first d v)):Ou d ⟨1,(first d v).path,(first d v).num,p,fs,v.num,t,dh d t,noS,0,noS⟩:=by
 obtain⟨j,hj,e,_⟩:=fQ hv
 have hsrc:lF d p v.num=some v:=by rw[←e];exact Ud hg hN (List.mem_of_getElem? hj)
 refine⟨h1,h2,?_,rfl, .inl ⟨rfl,hl,?_,rfl⟩,ht⟩
 ·intro n a b;exact hr n a b
 ·simp only[Sr,hsrc,Option.getD_some];exact v3
end
end Go.Proofs.YtcpgicfphakdaaaGreatDoor
namespace Go.Proofs.YtcpgicfphakdaaaGreatDoor
open Go.Ab Tys
theorem Rh (l:List (Option (List Int))) (i:Nat) (v:List Int):((l.map iW).map fun l=>l.map C.d).set i (C.d (.pm (gI kN v))::List.drop 1 (((l.map iW).map fun l=>l.map C.d).getD i []))=((l.set i (some v)).map iW).map fun l=>l.map C.d:=
 EX iW l i (some v) 1 (fun _=>rfl)
end Go.Proofs.YtcpgicfphakdaaaGreatDoor
namespace Go.Proofs.YtcpgicfphakdaaaGreatDoor
open Go.Ab
def wZ (q:Rev→Bool) (acc:Option Rev) (r:Rev):Option Rev:=if q r&&(match acc with|none=>true|some f=>decide (f.num<r.num)) then some r else acc
def grt (q:Rev→Bool) (l:List Rev):Option Rev:=l.foldl (wZ q) none
theorem aaZ (q:Rev→Bool) (n:Int):∀(l:List Rev),grt (fun r=>q r&&decide (r.num=n)) l=(l.filter q).find? fun r=>decide (r.num=n):=by
 have stay:∀(l:List Rev) (f:Rev),f.num=n→l.foldl (wZ fun r=>q r&&decide (r.num=n)) (some f)=some f:=by
  intro l f hf
  induction l with
  |nil=>rfl
  |cons r l ih=>
   rw[List.foldl_cons,show wZ (fun r=>q r&&decide (r.num=n)) (some f) r=some f from ?_,ih]
   unfold wZ
   rw[if_neg]
   simp only[Bool.and_eq_true,decide_eq_true_eq]
   rintro⟨⟨_,h1⟩,h2⟩;omega
 intro l
 unfold grt
 induction l with
 |nil=>rfl
 |cons r l ih=>
  rw[List.foldl_cons,List.filter_cons]
  conv=>lhs;arg 2;unfold wZ
  by_cases hq:q r=true
  ·rw[if_pos hq,List.find?_cons]
   by_cases hn:r.num=n
   ·simp only[hq,hn,decide_true,Bool.and_true,if_true];exact stay l r hn
   ·simp only[hq,hn,decide_false,Bool.and_false,Bool.false_and,Bool.false_eq_true,if_false];exact ih
  ·rw[if_neg hq]
   have:q r=false:=by simpa using hq
   simp only[this,Bool.false_and,Bool.false_eq_true,if_false];exact ih
theorem aaB (d:bJ) (p:ByteArray) (n:Int):grt (fun r=>decide (r.path=p)&&decide (r.num=n)) d.revs=lF d p n:=aaZ _ n d.revs
end Go.Proofs.YtcpgicfphakdaaaGreatDoor
