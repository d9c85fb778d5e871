/- A part of the proof. -/
import Derived.Test.YtcpgicfphakdaaaGreatDoorRPD
import Derived.Sort.Statements
import Derived.Test.YtcpgicfphakdaaaGreatDoorRAbCe
import Derived.Sort.Grow
import Derived.Test.YtcpgicfphakdaaaGreatDoorRAbSc
import Derived.Ground.NamesProg
import Derived.Shelf.Lay
import Derived.Shelf.Sort.Plain
set_option maxRecDepth 100000
set_option linter.all false
namespace Go.Proofs.YtcpgicfphakdaaaGreatDoor
section
open Go.Ab
theorem Tc:∀l:List UInt8,Lib.compareBytes l l=0
 |[]=>rfl
 |a::l=>by
  have:¬a<a:=by simp
  rw[Lib.compareBytes,if_neg this,if_neg this];exact Tc l
theorem adF:∀l m:List UInt8,Lib.compareBytes l m=0→l=m
 |[],[],_=>rfl
 |[],_::_,h=>by simp[Lib.compareBytes] at h
 |_::_,[],h=>by simp[Lib.compareBytes] at h
 |a::l,b::m,h=>by
  rw[Lib.compareBytes] at h
  split at h
  ·cases h
  ·split at h
   ·cases h
   ·rename_i h1 h2
    have:a=b:=by
     apply UInt8.toNat_inj.1
     simp only[UInt8.lt_iff_toNat_lt] at h1 h2;omega
    rw[this,adF l m h]
theorem O9:∀l m k:List UInt8,Lib.compareBytes l m<0→Lib.compareBytes m k<0→Lib.compareBytes l k<0
 |[],[],_,h,_=>by simp[Lib.compareBytes] at h
 |[],_::_,[],_,h=>by simp[Lib.compareBytes] at h
 |[],_::_,_::_,_,_=>by simp[Lib.compareBytes]
 |_::_,[],_,h,_=>by simp[Lib.compareBytes] at h
 |_::_,_::_,[],_,h=>by simp[Lib.compareBytes] at h
 |a::l,b::m,c::k,h1,h2=>by
  rw[Lib.compareBytes] at h1 h2⊢
  simp only[UInt8.lt_iff_toNat_lt] at h1 h2⊢
  split at h1
  ·split at h2
   ·rw[if_pos (by omega)];omega
   ·split at h2
    ·omega
    ·rw[if_pos (by omega)];omega
  ·split at h1
   ·omega
   ·split at h2
    ·rw[if_pos (by omega)];omega
    ·split at h2
     ·omega
     ·rw[if_neg (by omega),if_neg (by omega)];exact O9 l m k h1 h2
theorem Qd (a:akK):cb a a=0:=Tc _
theorem OZ {a b:akK} (h:cb a b=0):a=b:=ByteArray.ext (by simpa using congrArg List.toArray (adF _ _ h))
theorem Tm {a b c:akK} (h1:cb a b<0) (h2:cb b c<0):cb a c<0:=O9 _ _ _ h1 h2
theorem F6:∀l:List akK,cmpL l l=0
 |[]=>rfl
 |a::l=>by rw[cmpL,if_pos (Qd a)];exact F6 l
theorem Dy:∀l m k:List akK,cmpL l m<0→cmpL m k<0→cmpL l k<0
 |[],[],_,h,_=>by simp[cmpL] at h
 |[],_::_,[],_,h=>by simp[cmpL] at h
 |[],_::_,_::_,_,_=>by simp[cmpL]
 |_::_,[],_,h,_=>by simp[cmpL] at h
 |_::_,_::_,[],_,h=>by simp[cmpL] at h
 |a::l,b::m,c::k,h1,h2=>by
  rw[cmpL] at h1 h2⊢
  by_cases e1:cb a b=0
  ·have:=OZ e1;subst this
   rw[if_pos e1] at h1
   by_cases e2:cb a c=0
   ·rw[if_pos e2] at h2⊢;exact Dy l m k h1 h2
   ·rw[if_neg e2] at h2⊢;exact h2
  ·rw[if_neg e1] at h1
   by_cases e2:cb b c=0
   ·have:=OZ e2;subst this
    rw[if_neg e1];exact h1
   ·rw[if_neg e2] at h2
    have:=Tm h1 h2
    rw[if_neg (by omega)];exact this
theorem uz {p q:akK} (hp:(aG p).isSome=true) (hq:(aG q).isSome=true):∃a b,aG p=some a∧aG q=some b∧ord p q=cmpL a b:=by
 cases h1:aG p with
 |none=>rw[h1] at hp;cases hp
 |some a=>
  cases h2:aG q with
  |none=>rw[h2] at hq;cases hq
  |some b=>exact⟨a,b,rfl,rfl,by simp[ord,h1,h2]⟩
theorem Zt {p q r:akK} (hp:(aG p).isSome=true) (hq:(aG q).isSome=true) (hr:(aG r).isSome=true) (h1:ord p q<0) (h2:ord q r<0):ord p r<0:=by
 obtain⟨a,b,ea,eb,e1⟩:=uz hp hq
 obtain⟨b',c,eb',ec,e2⟩:=uz hq hr
 rw[eb] at eb';cases eb'
 obtain⟨a',c',ea',ec',e3⟩:=uz hp hr
 rw[ea] at ea';cases ea'
 rw[ec] at ec';cases ec'
 rw[e3];rw[e1] at h1;rw[e2] at h2
 exact Dy _ _ _ h1 h2
theorem adP {p:akK} (hp:(aG p).isSome=true):ord p p=0:=by
 obtain⟨a,b,ea,eb,e1⟩:=uz hp hp
 rw[ea] at eb;cases eb
 rw[e1];exact F6 _
def vY (a b:Int):Int:=if a<b then-1 else if b<a then 1 else 0
theorem TW {d:aW} {c:iZ} (h:∀i,i<c.edits.length→wK d c i (c.edits.getD i bZ)):∀{j i:Nat},i<j→j<c.edits.length→ord (c.edits.getD i bZ).path (c.edits.getD j bZ).path<0
 |0,i,hij,_=>by omega
 |j+1,i,hij,hj=>by
  have h0:=(h (j+1) hj).okOrder (by omega)
  simp only[akb] at h0
  by_cases e:i=j
  ·subst e;exact h0
  ·exact Zt (h i (by omega)).okPath (h j (by omega)).okPath (h (j+1) hj).okPath (TW h (by omega) (by omega)) h0
theorem adD {d:aW} {c:iZ} (h:∀i,i<c.edits.length→wK d c i (c.edits.getD i bZ)) {i j:Nat} (hij:i<j) (hj:j<c.edits.length):(c.edits.getD i bZ).path≠(c.edits.getD j bZ).path:=by
 intro e
 have:=TW h hij hj
 rw[e,adP (h j hj).okPath] at this
 omega
theorem O8 {n:Int} (h1: -1000000≤n) (h2:n≤1000000):wr n=n:=dB.wrap (by simp only[dB];omega)
structure Good (l:List Rev):Prop where
 num:∀(i:Nat) (v:Rev),l[i]? =some v→1≤v.num∧v.num≤(i:Int)+1
 act:∀(i:Nat) (v:Rev),l[i]? =some v→1≤v.act∧v.act≤5
 chg:∀(i j:Nat) (u v:Rev),i<j→l[i]? =some u→l[j]? =some v→u.chg≤v.chg
 path:∀(i j:Nat) (u v:Rev),i<j→l[i]? =some u→l[j]? =some v→u.path=v.path→u.chg<v.chg∧u.num<v.num
 prv:∀(i:Nat) (v:Rev),l[i]? =some v→v.act≠1→v.act≠4→∃(j:Nat) (u:Rev),j<i∧l[j]? =some u∧u.path=v.path∧u.num=v.num-1∧u.act≠3∧u.act≠5∧u.chg<v.chg
 mov:∀(i:Nat) (v:Rev),l[i]? =some v→v.act=4→∃(j:Nat) (u:Rev),j<i∧l[j]? =some u∧u.path=v.frm∧u.num=v.fnum∧u.act≠3∧u.act≠5∧u.chg<v.chg
 away:∀(i:Nat) (v:Rev),l[i]? =some v→v.act=4→∃(j:Nat) (u:Rev),l[j]? =some u∧u.path=v.frm∧u.num=v.fnum+1∧u.act=5
 mov2:∀(i j:Nat) (u v:Rev),i<j→l[i]? =some u→l[j]? =some v→u.act=4→v.act=4→u.frm=v.frm→u.fnum=v.fnum→False
theorem Ky {α:Type} (p:α→Bool):∀l:List α,(∀v,(l.filter p).getLast? =some v→∃j:Nat,l[j]? =some v∧p v=true∧∀(k:Nat) (u:α),l[k]? =some u→p u=true→k≤j)∧((l.filter p).getLast? =none→∀u∈l,p u=false)
 |[]=>by simp
 |a::l=>by
  obtain⟨h1,h2⟩:=Ky p l
  simp only[ajj]
  cases hg:(l.filter p).getLast? with
  |none=>
   have hn:=h2 hg
   have h0:l.filter p=[]:=List.getLast?_eq_none_iff.1 hg
   rw[h0]
   by_cases ha:p a=true
   ·rw[if_pos ha]
    refine⟨fun v hv=>?_,fun h=>by simp at h⟩
    simp at hv;subst hv
    refine⟨0,rfl,ha,fun k u hu hp=>?_⟩
    cases k with
    |zero=>omega
    |succ k=>rw[hn u (aem (by simpa using hu))] at hp;cases hp
   ·rw[if_neg ha]
    refine⟨fun v hv=>by simp at hv,fun _ u hu=>?_⟩
    rcases afr.1 hu with rfl|hu
    ·simpa using ha
    ·exact hn u hu
  |some w=>
   obtain⟨j,hj,hw,hmax⟩:=h1 w hg
   have h0:(if p a=true then a::l.filter p else l.filter p).getLast? =some w:=by
    split
    ·rw[List.getLast?_cons,hg];rfl
    ·exact hg
   rw[h0]
   refine⟨fun v hv=>?_,fun h=>by cases h⟩
   cases hv
   refine⟨j+1,by simpa using hj,hw,fun k u hu hp=>?_⟩
   cases k with
   |zero=>omega
   |succ k=>have:=hmax k u (by simpa using hu) hp;omega
theorem gZ {d:aW} {p:akK} {v:Rev} (h:aU d p=some v):∃j:Nat,d.revs[j]? =some v∧v.path=p∧∀(k:Nat) (u:Rev),d.revs[k]? =some u→u.path=p→k≤j:=by
 obtain⟨j,h1,h2,h3⟩:=(Ky (fun v:Rev=>decide (v.path=p)) d.revs).1 v h
 exact⟨j,h1,by simpa using h2,fun k u hu hp=>h3 k u hu (by simpa using hp)⟩
theorem last_none {d:aW} {p:akK} (h:aU d p=none):∀u∈d.revs,u.path≠p:=by
 intro u hu e
 have:=(Ky (fun v:Rev=>decide (v.path=p)) d.revs).2 h u hu
 simp[e] at this
theorem Fg {d:aW} {p:akK} (h:live d p=true):∃(v:Rev) (j:Nat),aU d p=some v∧d.revs[j]? =some v∧v.path=p∧v.act≠3∧v.act≠5∧bf d p=v.num:=by
 unfold live at h
 split at h
 ·rename_i v hv
  obtain⟨j,h1,h2,h3⟩:=gZ hv
  simp[gone] at h
  exact⟨v,j,hv,h1,h2,h.1,h.2,by simp[bf,hv]⟩
 ·cases h
theorem Dj {d:aW} (hg:Good d.revs) {p:akK} {k:Nat} {u:Rev} (hu:d.revs[k]? =some u) (hp:u.path=p):u.num≤bf d p:=by
 cases h:aU d p with
 |none=>exact absurd hp (last_none h u (aem hu))
 |some v=>
  obtain⟨j,h1,h2,h3⟩:=gZ h
  have:=h3 k u hu hp
  simp only[bf,h,Option.getD]
  rcases ajE k j with hkj|hkj
  ·have:=(hg.path k j u v hkj hu h1 (by rw[hp,h2])).2;omega
  ·have e:k=j:=by omega
   subst e;rw[h1] at hu;cases hu;omega
theorem jV {d:aW} (hg:Good d.revs) (p:akK):0≤bf d p∧bf d p≤d.revs.length:=by
 cases h:aU d p with
 |none=>simp[bf,h,ag]
 |some v=>
  obtain⟨j,h1,h2,h3⟩:=gZ h
  have:=hg.num j v h1
  have hj:j<d.revs.length:=(adK.1 h1).1
  simp only[bf,h,Option.getD];omega
theorem Vg {α:Type} (p:α→Bool) {l:List α} {a b:Nat} {x y:α} (hab:a<b) (ha:l[a]? =some x) (hb:l[b]? =some y) (hx:p x=true) (hy:p y=true):2≤(l.filter p).length:=by
 have e:l.filter p=(l.take b).filter p++(l.drop b).filter p:=by rw[←ahk,agu]
 rw[e,afI]
 have h1:x∈(l.take b).filter p:=ahI.2 ⟨aem (i:=a) (by rw[ag2,if_pos hab];exact ha),hx⟩
 have h2:y∈(l.drop b).filter p:=ahI.2 ⟨aem (i:=0) (by rw[ajn];simpa using hb),hy⟩
 have:=List.length_pos_of_mem h1
 have:=List.length_pos_of_mem h2
 omega
theorem uu {d:aW} {c:iZ} (hg:Good d.revs) (hn:d.revs.length≤512) (hk:pG d c):Good (eG d c).revs:=by
 have hE:=hk.edit
 have sp:∀(i:Nat) (v:Rev),(eG d c).revs[i]? =some v→(i<d.revs.length∧d.revs[i]? =some v)∨∃a,i=d.revs.length+a∧a<c.edits.length∧v=made c (c.edits.getD a bZ):=by
  intro i v h
  simp only[eG] at h
  rcases ajE i d.revs.length with hi|hi
  ·rw[ah5 hi] at h;exact .inl ⟨hi,h⟩
  ·rw[ajm hi] at h
   have ha:i-d.revs.length<c.edits.length:=by
    have:=(adK.1 h).1;simpa using this
   refine .inr ⟨i-d.revs.length,by omega,ha,?_⟩
   rw[ag5,adH ha] at h
   simp at h;rw[←h];simp[List.getD,ha]
 have nw:∀a:Nat,a<c.edits.length→(eG d c).revs[d.revs.length+a]? =some (made c (c.edits.getD a bZ)):=by
  intro a ha
  simp only[eG]
  rw[ajm (by omega),ajT,ag5,adH ha]
  simp[List.getD,ha]
 have od:∀(i:Nat) (v:Rev),d.revs[i]? =some v→(eG d c).revs[i]? =some v:=by
  intro i v h
  simp only[eG]
  rw[ah5 (adK.1 h).1];exact h
 have lb:∀p, -1000000≤bf d p+1∧bf d p+1≤1000000:=fun p=>by have:=jV hg p;omega
 have mn:∀a,a<c.edits.length→(made c (c.edits.getD a bZ)).num=bf d (c.edits.getD a bZ).path+1:=by
  intro a ha
  simp only[made]
  rw[(hE a ha).okPrev,O8 (lb _).1 (lb _).2]
 have mt:∀a,a<c.edits.length→(c.edits.getD a bZ).act=4→∃b,b<c.edits.length∧(c.edits.getD b bZ).act=5∧(c.edits.getD b bZ).path=(c.edits.getD a bZ).frm:=by
  intro a ha h4
  have hm:=hk.move (c.edits.getD a bZ) (by rw[adI,adH ha];simp)
  generalize c.edits.getD a bZ=e at*
  have hl:(c.edits.filter (rP e)).length=1:=by
   simp only[wH,h4,Nb] at hm
   simp at hm;have hm:=agw hm;omega
  obtain⟨y,hy⟩:∃y,y∈c.edits.filter (rP e):=by
   cases hf:c.edits.filter (rP e) with
   |nil=>rw[hf] at hl;simp at hl
   |cons y l=>exact⟨y,by simp⟩
  obtain⟨hy1,hy2⟩:=ahI.1 hy
  obtain⟨b,hb,e⟩:=ahN.1 hy1
  have e':c.edits.getD b bZ=y:=by simp[List.getD,hb,e]
  simp[rP,h4] at hy2
  exact⟨b,hb,by rw[e'];exact hy2.1,by rw[e'];exact hy2.2⟩
 constructor
 ·intro i v h
  rcases sp i v h with⟨_,h⟩|⟨a,rfl,ha,rfl⟩
  ·exact hg.num i v h
  ·rw[mn a ha]
   have:=jV hg (c.edits.getD a bZ).path
   omega
 ·intro i v h
  rcases sp i v h with⟨_,h⟩|⟨a,rfl,ha,rfl⟩
  ·exact hg.act i v h
  ·exact⟨(hE a ha).okLo,(hE a ha).okHi⟩
 ·intro i j u v hij hu hv
  rcases sp i u hu with⟨h1,hu⟩|⟨a,rfl,ha,rfl⟩
  ·rcases sp j v hv with⟨h2,hv⟩|⟨b,rfl,hb,rfl⟩
   ·exact hg.chg i j u v hij hu hv
   ·have:=hk.old u (aem hu)
    show u.chg≤c.num
    omega
  ·rcases sp j v hv with⟨h2,hv⟩|⟨b,rfl,hb,rfl⟩
   ·omega
   ·exact akA _
 ·intro i j u v hij hu hv hp
  rcases sp i u hu with⟨h1,hu⟩|⟨a,rfl,ha,rfl⟩
  ·rcases sp j v hv with⟨h2,hv⟩|⟨b,rfl,hb,rfl⟩
   ·exact hg.path i j u v hij hu hv hp
   ·refine⟨hk.old u (aem hu),?_⟩
    rw[mn b hb]
    have:=Dj hg hu (p:=(c.edits.getD b bZ).path) hp
    omega
  ·rcases sp j v hv with⟨h2,hv⟩|⟨b,rfl,hb,rfl⟩
   ·omega
   ·exact absurd hp (adD hE (by omega) hb)
 ·intro i v h n1 n4
  rcases sp i v h with⟨_,h⟩|⟨a,rfl,ha,rfl⟩
  ·obtain⟨j,u,h1,h2,h3⟩:=hg.prv i v h n1 n4
   exact⟨j,u,h1,od j u h2,h3⟩
  ·have hl:live d (c.edits.getD a bZ).path=true:=by
    cases hl:live d (c.edits.getD a bZ).path with
    |true=>rfl
    |false=>rcases(hE a ha).okLive.2 hl with h|h
            ·exact absurd h n1
            ·exact absurd h n4
   obtain⟨v,j,g1,g2,g3,g4,g5,g6⟩:=Fg hl
   have hj:=(adK.1 g2).1
   exact⟨j,v,by omega,od j v g2,g3,by rw[mn a ha,g6];omega,g4,g5,hk.old v (aem g2)⟩
 ·intro i v h h4
  rcases sp i v h with⟨_,h⟩|⟨a,rfl,ha,rfl⟩
  ·obtain⟨j,u,h1,h2,h3⟩:=hg.mov i v h h4
   exact⟨j,u,h1,od j u h2,h3⟩
  ·obtain⟨f1,f2,f3⟩:=(hE a ha).okFrm h4
   obtain⟨v,j,g1,g2,g3,g4,g5,g6⟩:=Fg f1
   have hj:=(adK.1 g2).1
   exact⟨j,v,by omega,od j v g2,g3,by rw[←g6];exact f2,g4,g5,hk.old v (aem g2)⟩
 ·intro i v h h4
  rcases sp i v h with⟨_,h⟩|⟨a,rfl,ha,rfl⟩
  ·obtain⟨j,u,h2,h3⟩:=hg.away i v h h4
   exact⟨j,u,od j u h2,h3⟩
  ·obtain⟨b,hb,b1,b2⟩:=mt a ha h4
   obtain⟨f1,f2,f3⟩:=(hE a ha).okFrm h4
   refine⟨_,_,nw b hb,b2,?_,b1⟩
   rw[mn b hb,b2,f2];rfl
 ·intro i j u v hij hu hv u4 v4 hf hn'
  rcases sp i u hu with⟨h1,hu⟩|⟨a,rfl,ha,rfl⟩
  ·rcases sp j v hv with⟨h2,hv⟩|⟨b,rfl,hb,rfl⟩
   ·exact hg.mov2 i j u v hij hu hv u4 v4 hf hn'
   ·obtain⟨k,w,w1,w2,w3,w4⟩:=hg.away i u hu u4
    obtain⟨f1,f2,f3⟩:=(hE b hb).okFrm v4
    have:=Dj hg w1 (p:=(c.edits.getD b bZ).frm) (by rw[w2,hf];rfl)
    rw[f2,w3,hn'] at this
    have:(made c (c.edits.getD b bZ)).fnum=(c.edits.getD b bZ).fnum:=rfl
    omega
  ·rcases sp j v hv with⟨h2,hv⟩|⟨b,rfl,hb,rfl⟩
   ·omega
   ·obtain⟨x,hx,x1,x2⟩:=mt a ha u4
    have hm:=hk.move (c.edits.getD x bZ) (by rw[adI,adH hx];simp)
    have h2:=Vg (rP (c.edits.getD x bZ)) (l:=c.edits) (a:=a) (b:=b) (x:=c.edits.getD a bZ) (y:=c.edits.getD b bZ) (by omega) (by simp[List.getD,ha]) (by simp[List.getD,hb])
     (by simp only[rP,x1,x2,show(c.edits.getD a bZ).act=4 from u4];simp) (by simp only[rP,x1,x2,show(c.edits.getD b bZ).act=4 from v4,show(c.edits.getD a bZ).frm=(c.edits.getD b bZ).frm from hf];simp)
    generalize c.edits.getD x bZ=e at*
    simp only[wH,x1,Nb] at hm
    simp at hm;have hm:=agw hm;omega
theorem aba:Good []:=by constructor<;>simp
theorem gY.good {l:List iZ} {d:aW} (h:gY l d):Good d.revs:=by
 induction h with
 |nil=>exact aba
 |skip c h ih=>exact ih
 |app h hc hk ih=>exact uu ih h.ok.1 hk
def ai {κ ν:Type} [DecidableEq κ]:List (κ×ν)→κ→Option ν
 |[],_=>none
 |(a,b)::m,k=>if k=a then some b else ai m k
def eH {κ ν:Type} [DecidableEq κ]:List (κ×ν)→κ→ν→List (κ×ν)
 |[],k,v=>[(k,v)]
 |(a,b)::m,k,v=>if k=a then(k,v)::m else(a,b)::eH m k v
theorem fJ {κ ν:Type} [DecidableEq κ] (m:List (κ×ν)) (k:κ) (v:ν) (j:κ):ai (eH m k v) j=if j=k then some v else ai m j:=by
 induction m with
 |nil=>simp[eH,ai]
 |cons p m ih=>
  obtain⟨a,b⟩:=p
  simp only[eH]
  split
  ·rename_i e;subst e
   simp only[ai]
   split<;>simp_all
  ·rename_i e
   simp only[ai]
   rw[ih]
   split
   ·rename_i e2;subst e2
    rw[if_neg (fun h=>e h.symm)]
   ·rfl
@[reducible] def bz {κ ν:Type} (ke:κ→Bool×List D) (ve:ν→Bool×List D) (m:List (κ×ν)):List jq:=m.map fun p=>(ke p.1,ve p.2)
section
variable {κ ν:Type} [DecidableEq κ] {ke:κ→Bool×List D} {ve:ν→Bool×List D} (hk:∀a b,kK ((ke a).2.map C.d) ((ke b).2.map C.d)=decide (a=b))
include hk
theorem gX (m:List (κ×ν)) (k:κ):dC ((ke k).2.map C.d) ((bz ke ve m).map dJ)=(ai m k).map fun v=>jY (ve v):=by
 induction m with
 |nil=>rfl
 |cons p m ih=>
  simp only[bz,agV,dC,dJ,jY] at ih⊢
  rw[hk]
  simp only[ai]
  by_cases e:k=p.1
  ·simp[e,jY]
  ·simp only[e,akd,agF,if_false];exact ih
theorem ut (m:List (κ×ν)) (k:κ) (v:ν):dF (jY (ke k)) (jY (ve v)) ((bz ke ve m).map dJ)=(bz ke ve (eH m k v)).map dJ:=by
 induction m with
 |nil=>rfl
 |cons p m ih=>
  simp only[bz,agV,dF,dJ,eH]
  have:kK (jY (ke k)).2 (jY (ke p.1)).2=decide (k=p.1):=hk _ _
  rw[this]
  by_cases e:k=p.1
  ·simp[e,dJ]
  ·simp only[e,akd,agF,if_false,agV,dJ]
   rw[←ih]
end
@[reducible] def kF (f:bJ):Bool×List D:=(true,iR f)
@[reducible] def kN (i:Int):Bool×List D:=(false,[.v (.int .i64 i)])
@[reducible] def pV (s:akK):Bool×List D:=(false,[.v (.string s)])
@[reducible] def vI (i:Int):Bool×List D:=(false,[.v (.int .i64 i)])
theorem yQ (a b:bJ):kK ((kF a).2.map C.d) ((kF b).2.map C.d)=decide (a=b):=by
 cases a;cases b;simp[kF,kK,DD,Bool.decide_and]
theorem GK (a b:Int):kK ((kN a).2.map C.d) ((kN b).2.map C.d)=decide (a=b):=by
 simp[kN,kK,DD]
theorem Ce (a b:akK):kK ((pV a).2.map C.d) ((pV b).2.map C.d)=decide (a=b):=by
 simp[pV,kK,DD]
@[reducible] def fG {κ:Type} (ke:κ→Bool×List D) (l:List κ):List jq:=l.map fun k=>(ke k,(false,[.v (.bool true)]))
def qO {κ:Type} [DecidableEq κ] (l:List κ) (k:κ):List κ:=if k∈l then l else l++[k]
theorem wW {κ:Type} [DecidableEq κ] (l:List κ) (k j:κ):j∈qO l k↔j∈l∨j=k:=by
 unfold qO
 split
 ·constructor
  ·exact .inl
  ·rintro(h|rfl)<;>assumption
 ·simp
section
variable {κ:Type} [DecidableEq κ] {ke:κ→Bool×List D} (hk:∀a b,kK ((ke a).2.map C.d) ((ke b).2.map C.d)=decide (a=b))
include hk
theorem O7 (l:List κ) (k:κ):dC ((ke k).2.map C.d) ((fG ke l).map dJ)=if k∈l then some (false,[.d (.v (.bool true))]) else none:=by
 induction l with
 |nil=>simp[dC]
 |cons a l ih=>
  simp only[fG,agV,dC,dJ,jY,afr] at ih⊢
  rw[hk]
  by_cases e:k=a
  ·simp[e]
  ·simp only[e,akd,agF,if_false,false_or];exact ih
theorem uy (l:List κ) (k:κ):dF (jY (ke k)) (false,[.d (.v (.bool true))]) ((fG ke l).map dJ)=(fG ke (qO l k)).map dJ:=by
 induction l with
 |nil=>simp[qO,dF,dJ,jY]
 |cons a l ih=>
  simp only[fG,agV,dF,dJ] at ih⊢
  have:kK (jY (ke k)).2 (jY (ke a)).2=decide (k=a):=hk _ _
  rw[this]
  by_cases e:k=a
  ·subst e;simp[qO,dJ,jY]
  ·simp only[e,akd,agF,if_false]
   rw[ih]
   unfold qO
   simp only[afr,e,false_or]
   split<;>simp[dJ]
end
theorem adk (l:List bJ) (p:akK) (n:Int):(dC [C.d (.v (.string p)),C.d (.v (.int .i64 n))] ((fG kF l).map dJ)).getD (false,[C.d (.v (.bool false))])=(false,[C.d (.v (.bool (decide ((⟨p,n⟩:bJ)∈l))))]):=by
 have:=O7 yQ l ⟨p,n⟩
 rw[show((kF ⟨p,n⟩).2.map C.d)=[C.d (.v (.string p)),C.d (.v (.int .i64 n))] from rfl] at this
 rw[this]
 by_cases h:(⟨p,n⟩:bJ)∈l<;>simp[h]
theorem ab6 (l:List Int) (n:Int):(dC [C.d (.v (.int .i64 n))] ((fG kN l).map dJ)).getD (false,[C.d (.v (.bool false))])=(false,[C.d (.v (.bool (decide (n∈l))))]):=by
 have:=O7 GK l n
 rw[show((kN n).2.map C.d)=[C.d (.v (.int .i64 n))] from rfl] at this
 rw[this]
 by_cases h:n∈l<;>simp[h]
theorem ahi (l:List bJ) (p:akK) (n:Int):dF (true,[C.d (.v (.string p)),C.d (.v (.int .i64 n))]) (false,[C.d (.v (.bool true))]) ((fG kF l).map dJ)=(fG kF (qO l ⟨p,n⟩)).map dJ:=uy yQ l ⟨p,n⟩
theorem Yo (l:List Int) (n:Int):dF (false,[C.d (.v (.int .i64 n))]) (false,[C.d (.v (.bool true))]) ((fG kN l).map dJ)=(fG kN (qO l n)).map dJ:=uy GK l n
theorem tY {κ:Type} {ke:κ→Bool×List D} {l:List κ} {a:List jq} {e:jq} {b:List jq} (h:fG ke l=a++e::b):∃x k y,l=x++k::y∧a=fG ke x∧e=(ke k,(false,[.v (.bool true)]))∧b=fG ke y:=by
 obtain⟨x,r,rfl,rfl,h2⟩:=List.map_eq_append_iff.1 h
 obtain⟨k,y,rfl,rfl,rfl⟩:=List.map_eq_cons_iff.1 h2
 exact⟨x,k,y,rfl,rfl,rfl,rfl⟩
@[reducible] def TZ {κ:Type} (ke:κ→Bool×List D):Option (List κ)→D
 |none=> .v (.map none)
 |some l=> .pm (fG ke l)
theorem agf (l:List bJ):∀e∈(fG kF l).map dJ,e.1.1=true∧cu [.str, .int .i64] e.1.2:=by
 intro e he
 simp only[fG,agh] at he
 obtain⟨_,⟨f,_,rfl⟩,rfl⟩:=he
 exact⟨rfl,by simp[dJ,jY,cu]⟩
theorem ZB (l:List Int):∀e∈(fG kN l).map dJ,e.1.1=false∧cu [.int .i64] e.1.2:=by
 intro e he
 simp only[fG,agh] at he
 obtain⟨_,⟨f,_,rfl⟩,rfl⟩:=he
 exact⟨rfl,by simp[dJ,jY,cu]⟩
@[reducible] def Wq {κ:Type} (ke:κ→Bool×List D) (l:List κ):AO:= .map ((fG ke l).map dJ)
def Zy {κ:Type} [DecidableEq κ] (s t:List κ):Bool:=s.all fun k=>decide (k∈t)
@[reducible] def jP (o:Option (List Int)):List D:=[TZ kN o]
structure jA where
 revs:List Rev
 index:List (bJ×Int)
 prev:List Int
 fst:List Int
 car:List (Option (List Int))
 con:List (Option (List Int))
 cre:List (Option (List Int))
@[reducible] def eI (i:Int):List D:=[.v (.int .i64 i)]
structure zi (L:jA):Prop where
 n:L.revs.length≤512
 prev:L.prev.length=L.revs.length
 fst:L.fst.length=L.revs.length
 car:L.car.length=L.revs.length
 con:L.con.length=L.revs.length
 cre:L.cre.length=L.revs.length
 ix:∀p k,ai L.index p=some k→0≤k∧k<L.revs.length
def pR (L:jA) (f:akK) (n:Int):Nat→List (Option (List Int))
 |0=>[]
 |k+1=>(match ai L.index ⟨f,n⟩ with|some i=>[L.con.getD i.toNat none]|none=>[])++pR L f (n+1) k
def kU (L:jA) (r:dZ):List (Option (List Int)):=pR L r.frm (max r.first 1) (min r.last 512-max r.first 1+1).toNat
theorem KJ (L:jA) (f:akK):∀(k:Nat) (n:Int),(pR L f n k).length≤k
 |0,n=>by simp[pR]
 |k+1,n=>by
  have:=KJ L f k (n+1)
  simp only[pR]
  split<;>simp<;>omega
theorem uG {α:Type} (e:α→List D) (l:List α) (k:Nat) (z:α) (h:k<l.length):((l.map e).map fun l=>l.map C.d).getD k []=(e (l.getD k z)).map C.d:=by
 simp[List.getD,h]
def uF (L:jA) (f:bJ):Option Int:=match ai L.index f with|some i=>if 0≤L.fst.getD i.toNat 0 then some i else none|none=>none
def upto (l:List Int) (s:Int):List Int:=match l with|[]=>[]|a::l=>if a=s then [a] else a::upto l s
theorem SC:∀{l:List Int} {k:Nat} {s:Int},¬s∈l.take k→l[k]? =some s→upto l s=l.take (k+1)
 |[],k,s,_,h=>by simp at h
 |a::l,0,s,_,h=>by simp at h;subst h;simp[upto]
 |a::l,k+1,s,hn,h=>by
  simp only[List.take_succ_cons,afr,not_or] at hn
  simp only[upto]
  rw[if_neg (fun e=>hn.1 e.symm),SC hn.2 (by simpa using h)]
  simp
theorem OY:∀{l:List Int} {s:Int},¬s∈l→upto l s=l
 |[],s,_=>rfl
 |a::l,s,hn=>by
  simp only[afr,not_or] at hn
  simp only[upto]
  rw[if_neg (fun e=>hn.1 e.symm),OY hn.2]
def jh (L:jA) (t:Int) (i:Int):Bool:=!Zy ((L.con.getD i.toNat none).getD []) ((L.cre.getD t.toNat none).getD [])
def di (v:Rev):bJ:=if v.act=1 then uI else if v.act=4 then⟨v.frm,v.fnum⟩ else⟨v.path,v.num-1⟩
def jc (L:jA) (i:Nat) (v:Rev):Int:=match uF L (di v) with|some u=>L.fst.getD u.toNat 0|none=>i
def nX (L:jA) (v:Rev):Int:=match uF L (di v) with|some u=>u|none=> -1
def bD (L:jA) (i:Nat) (v:Rev):jA:={L with prev:=L.prev.set i (if v.act=5 then-1 else nX L v),fst:=L.fst.set i (if v.act=5 then-1 else jc L i v)}
structure Acc where
 car:List (Option (List Int))
 ign:List (Option (List Int))
 orig:Bool
def gG (L:jA) (a:Acc) (r:dZ):Acc:=
 if r.how=1 then(match ai L.index ⟨r.frm,r.last⟩ with|some k=>⟨a.car++[L.car.getD k.toNat none],a.ign,a.orig⟩|none=>a)
 else if r.how=3 then⟨a.car,a.ign++kU L r,a.orig⟩
 else⟨a.car++kU L r,a.ign,a.orig||decide (r.how=4)⟩
def DX (L:jA) (i:Nat):Option (List Int):=if 0≤L.prev.getD i 0 then L.car.getD (L.prev.getD i 0).toNat none else none
def MI (L:jA) (i:Nat):Option (List Int):=if 0≤L.prev.getD i 0 then L.cre.getD (L.prev.getD i 0).toNat none else none
def H6 (L:jA) (i:Nat) (b:Bool):Acc:=⟨[DX L i],[MI L i],b⟩
def uH (L:jA) (i:Nat) (rs:List dZ):Acc:=rs.foldl (gG L) (H6 L i (decide ((rs.length:Int)=0)))
def Ie (L:jA) (i:Nat) (rs:List dZ) (k:Nat):Acc:=(rs.take k).foldl (gG L) (H6 L i (decide ((rs.length:Int)=0)))
def vZ (L:jA) (i:Nat) (rs:List dZ):List (Option (List Int)):=(uH L i rs).car++(if(uH L i rs).orig then [some [(i:Int)]] else [])
def Uni (l:List Int) (s:List (Option (List Int))):Prop:=∀k,k∈l↔∃o∈s,k∈o.getD []
structure ac4 (L:jA) (i:Nat) (rs:List dZ) (c k cr:List Int):Prop where
 car:Uni c (vZ L i rs)
 con:∀x,x∈k↔x∈c∧¬x∈(DX L i).getD []
 cre:Uni cr ((uH L i rs).ign++[some c])
def Dq (L:jA) (i:Nat) (c k cr:List Int):jA:={L with car:=L.car.set i (some c),con:=L.con.set i (some k),cre:=L.cre.set i (some cr)}
theorem Nc (L:jA) (r:dZ):(kU L r).length≤512:=by
 have:=KJ L r.frm (min r.last 512-max r.first 1+1).toNat (max r.first 1)
 simp only[kU];omega
theorem TN (L:jA) (a:Acc) (r:dZ):(gG L a r).car.length≤a.car.length+512∧(gG L a r).ign.length≤a.ign.length+512:=by
 have:=Nc L r
 unfold gG
 split
 ·split<;>simp
 ·split<;>simp<;>omega
theorem Yy (L:jA):∀(rs:List dZ) (a:Acc),(rs.foldl (gG L) a).car.length≤a.car.length+512*rs.length∧(rs.foldl (gG L) a).ign.length≤a.ign.length+512*rs.length
 |[],a=>by simp
 |r::rs,a=>by
  have h1:=TN L a r
  have h2:=Yy L rs (gG L a r)
  simp only[List.foldl_cons,List.length_cons];omega
def jF (d:aW) (f:bJ):List dZ:=d.recs.filter fun r=>decide ((⟨r.to,r.num⟩:bJ)=f)
def BU (d:aW):jA:=⟨d.revs,[],List.replicate d.revs.length 0,List.replicate d.revs.length 0,List.replicate d.revs.length none,List.replicate d.revs.length none,List.replicate d.revs.length none⟩
def DF (L:jA) (f:bJ) (k:Nat):jA:={L with index:=eH L.index f k}
def N9 (me:List (Int×List Int)) (l:Int) (k:Nat):List (Int×List Int):=eH me l ((ai me l).getD []++[(k:Int)])
inductive lG (d:aW):Nat→jA→List (Int×List Int)→Prop
 |zero:lG d 0 (BU d) []
 |away {k:Nat} {L:jA} {me:List (Int×List Int)} {v:Rev} (h:lG d k L me) (hv:d.revs[k]? =some v) (h5:v.act=5):lG d (k+1) (DF (bD L k v) (fileOf v) k) me
 |aa4 {k:Nat} {L:jA} {me:List (Int×List Int)} {v:Rev} (h:lG d k L me) (hv:d.revs[k]? =some v) (h5:¬v.act=5) {c m cr:List Int} (hA:ac4 (bD L k v) k (jF d (fileOf v)) c m cr):
  lG d (k+1) (DF (Dq (bD L k v) k c m cr) (fileOf v) k) (N9 me (jc L k v) k)
structure nT (d:aW) (k:Nat) (L:jA) (me:List (Int×List Int)):Prop where
 kn:k≤d.revs.length
 revs:L.revs=d.revs
 lp:L.prev.length=d.revs.length
 lf:L.fst.length=d.revs.length
 lc:L.car.length=d.revs.length
 lo:L.con.length=d.revs.length
 lr:L.cre.length=d.revs.length
 ix:∀f i,ai L.index f=some i↔∃(j:Nat) (v:Rev),i=(j:Int)∧j<k∧d.revs[j]? =some v∧fileOf v=f
 f5:∀(j:Nat) (v:Rev),j<k→d.revs[j]? =some v→v.act=5→L.fst.getD j 0= -1∧L.con.getD j none=none∧L.car.getD j none=none
 fm:∀(j:Nat) (v:Rev),j<k→d.revs[j]? =some v→¬v.act=5→0≤L.fst.getD j 0∧L.fst.getD j 0≤j
 pm:∀(j:Nat) (v:Rev),j<k→d.revs[j]? =some v→¬v.act=5→
  (∃(u:Nat) (w:Rev),L.prev.getD j 0=(u:Int)∧u<j∧d.revs[u]? =some w∧¬w.act=5∧fileOf w=di v∧¬v.act=1∧w.chg<v.chg∧L.fst.getD j 0=L.fst.getD u 0)∨(v.act=1∧L.prev.getD j 0= -1∧L.fst.getD j 0=j)
 mem:∀key:Int,0≤key→(ai me key).getD []=((List.range k).filter fun j=>decide (L.fst.getD j 0=key)).map fun j:Nat=>(j:Int)
 mne:∀key:Int,ai me key≠some []
 sets:∀(j:Nat) (v:Rev),j<k→d.revs[j]? =some v→¬v.act=5→∃c m cr,L.car.getD j none=some c∧L.con.getD j none=some m∧L.cre.getD j none=some cr
 un:∀j:Nat,k≤j→L.car.getD j none=none∧L.con.getD j none=none∧L.cre.getD j none=none
 bd:∀(j:Nat) (x:Int),x∈(L.car.getD j none).getD []∨x∈(L.con.getD j none).getD []∨x∈(L.cre.getD j none).getD []→0≤x∧x<k
theorem jI {α:Type} (l:List α) (i j:Nat) (a z:α) (h:i<l.length):(l.set i a).getD j z=if i=j then a else l.getD j z:=by
 simp only[List.getD,akh]
 split
 ·rename_i e;subst e;simp[h]
 ·rfl
theorem bP {l:List Rev} (hg:Good l) {i j:Nat} {u v:Rev} (hu:l[i]? =some u) (hv:l[j]? =some v) (h:fileOf u=fileOf v):i=j:=by
 simp only[fileOf,bJ.mk.injEq] at h
 rcases akn i j with hlt|rfl|hlt
 ·have:=(hg.path i j u v hlt hu hv h.1).2;omega
 ·rfl
 ·have:=(hg.path j i v u hlt hv hu h.1.symm).2;omega
theorem FC {l:List Rev} (hg:Good l) {k:Nat} {v:Rev} (hv:l[k]? =some v) (h5:¬v.act=5):
 (v.act=1∧di v=uI)∨(¬v.act=1∧∃(u:Nat) (w:Rev),u<k∧l[u]? =some w∧¬w.act=5∧fileOf w=di v∧w.chg<v.chg):=by
 by_cases h1:v.act=1
 ·exact .inl ⟨h1,by simp[di,h1]⟩
 ·refine .inr ⟨h1,?_⟩
  by_cases h4:v.act=4
  ·obtain⟨j,u,a1,a2,a3,a4,a5,a6,a7⟩:=hg.mov k v hv h4
   exact⟨j,u,a1,a2,a6,by simp[di,h4,fileOf,a3,a4],a7⟩
  ·obtain⟨j,u,a1,a2,a3,a4,a5,a6,a7⟩:=hg.prv k v hv h1 h4
   exact⟨j,u,a1,a2,a6,by simp[di,h1,h4,fileOf,a3,a4],a7⟩
theorem YB {l:List Rev} (hg:Good l) {j:Nat} {v:Rev} (hv:l[j]? =some v):fileOf v≠uI:=by
 intro h
 have:=(hg.num j v hv).1
 simp only[fileOf,uI,bJ.mk.injEq] at h
 omega
theorem nT.look {d:aW} {k:Nat} {L:jA} {me:List (Int×List Int)} (h:nT d k L me) (hg:Good d.revs) {v:Rev} (hv:d.revs[k]? =some v) (h5:¬v.act=5):
 (v.act=1∧ai L.index (di v)=none∧uF L (di v)=none)∨
 (¬v.act=1∧∃(u:Nat) (w:Rev),u<k∧d.revs[u]? =some w∧¬w.act=5∧fileOf w=di v∧w.chg<v.chg∧ai L.index (di v)=some (u:Int)∧uF L (di v)=some (u:Int)∧0≤L.fst.getD u 0∧L.fst.getD u 0≤u):=by
 rcases FC hg hv h5 with⟨h1,hb⟩|⟨h1,u,w,a1,a2,a3,a4,a5⟩
 ·have hn:ai L.index (di v)=none:=by
   cases hk:ai L.index (di v) with
   |none=>rfl
   |some i=>
    obtain⟨j,w,_,_,b3,b4⟩:=(h.ix _ _).1 hk
    exact absurd (b4.trans hb) (YB hg b3)
  exact .inl ⟨h1,hn,by simp[uF,hn]⟩
 ·have hs:ai L.index (di v)=some (u:Int):=(h.ix _ _).2 ⟨u,w,rfl,a1,a2,a4⟩
  obtain⟨f1,f2⟩:=h.fm u w a1 a2 a3
  exact .inr ⟨h1,u,w,a1,a2,a3,a4,a5,hs,by simp only[uF,hs,Int.toNat_natCast,f1,if_true],f1,f2⟩
theorem Kv (L:jA) (f:akK) (o:Option (List Int)):∀(k:Nat) (n:Int),o∈pR L f n k↔∃(j i:Int),n≤j∧j<n+k∧ai L.index ⟨f,j⟩=some i∧o=L.con.getD i.toNat none
 |0,n=>by
  simp only[pR,agW,false_iff,not_exists]
  rintro j i ⟨h1,h2,_⟩
  simp at h2;omega
 |k+1,n=>by
  simp only[pR,afs,Kv L f o k (n+1)]
  constructor
  ·rintro(h|⟨j,i,h1,h2,h3,h4⟩)
   ·cases hk:ai L.index ⟨f,n⟩ with
    |none=>rw[hk] at h;simp at h
    |some i=>rw[hk] at h;simp at h;exact⟨n,i,by omega,by omega,hk,by simpa using h⟩
   ·exact⟨j,i,by omega,by omega,h3,h4⟩
  ·rintro⟨j,i,h1,h2,h3,h4⟩
   by_cases e:j=n
   ·subst e;left;rw[h3];simp[h4]
   ·exact .inr ⟨j,i,by omega,by omega,h3,h4⟩
theorem Be (L:jA) (r:dZ) (o:Option (List Int)):o∈kU L r↔∃(j i:Int),r.first≤j∧1≤j∧j≤r.last∧j≤512∧ai L.index ⟨r.frm,j⟩=some i∧o=L.con.getD i.toNat none:=by
 rw[kU,Kv]
 constructor
 ·rintro⟨j,i,h1,h2,h3⟩;exact⟨j,i,by omega,by omega,by omega,by omega,h3⟩
 ·rintro⟨j,i,h1,h2,h3,h4,h5⟩;exact⟨j,i,by omega,by omega,h5⟩
theorem SE (L:jA) (a:Acc) (r:dZ) (o:Option (List Int)):
 (o∈(gG L a r).car↔o∈a.car∨(r.how=1∧∃i,ai L.index ⟨r.frm,r.last⟩=some i∧o=L.car.getD i.toNat none)∨(¬r.how=1∧¬r.how=3∧o∈kU L r))∧
 (o∈(gG L a r).ign↔o∈a.ign∨(r.how=3∧o∈kU L r))∧((gG L a r).orig=true↔a.orig=true∨r.how=4):=by
 unfold gG
 by_cases h1:r.how=1
 ·rw[if_pos h1]
  have h3:¬r.how=3:=by omega
  have h4:¬r.how=4:=by omega
  cases hk:ai L.index ⟨r.frm,r.last⟩ with
  |none=>simp[h1]
  |some i=>simp[h1]
 ·rw[if_neg h1]
  by_cases h3:r.how=3
  ·rw[if_pos h3];simp[h3]
  ·rw[if_neg h3];simp[h1,h3]
theorem JY (L:jA) (o:Option (List Int)):∀(rs:List dZ) (a:Acc),
 (o∈(rs.foldl (gG L) a).car↔o∈a.car∨∃r∈rs,(r.how=1∧∃i,ai L.index ⟨r.frm,r.last⟩=some i∧o=L.car.getD i.toNat none)∨(¬r.how=1∧¬r.how=3∧o∈kU L r))∧
 (o∈(rs.foldl (gG L) a).ign↔o∈a.ign∨∃r∈rs,r.how=3∧o∈kU L r)∧((rs.foldl (gG L) a).orig=true↔a.orig=true∨∃r∈rs,r.how=4)
 |[],a=>by simp
 |r::rs,a=>by
  obtain⟨h1,h2,h3⟩:=JY L o rs (gG L a r)
  obtain⟨g1,g2,g3⟩:=SE L a r o
  simp only[List.foldl_cons,h1,h2,h3,g1,g2,g3,afr,exists_eq_or_imp,or_assoc]
  exact⟨trivial,trivial,trivial⟩
theorem ql (L:jA) (i:Nat) (rs:List dZ) (o:Option (List Int)):o∈vZ L i rs↔o=DX L i∨(∃r∈rs,(r.how=1∧∃i,ai L.index ⟨r.frm,r.last⟩=some i∧o=L.car.getD i.toNat none)∨(¬r.how=1∧¬r.how=3∧o∈kU L r))∨
 ((rs=[]∨∃r∈rs,r.how=4)∧o=some [(i:Int)]):=by
 obtain⟨h1,h2,h3⟩:=JY L o rs (H6 L i (decide ((rs.length:Int)=0)))
 have ho:((uH L i rs).orig=true↔rs=[]∨∃r∈rs,r.how=4):=by
  rw[uH,h3];simp[H6,Int.natCast_eq_zero,ajw]
 rw[vZ,afs,uH,h1]
 simp only[H6,aft,or_assoc]
 have:(o∈if(uH L i rs).orig=true then [some [(i:Int)]] else [])↔((rs=[]∨∃r∈rs,r.how=4)∧o=some [(i:Int)]):=by
  rw[←ho];split<;>simp_all
 rw[←this];rfl
theorem yw (L:jA) (i:Nat) (rs:List dZ) (o:Option (List Int)):o∈(uH L i rs).ign↔o=MI L i∨∃r∈rs,r.how=3∧o∈kU L r:=by
 obtain⟨h1,h2,h3⟩:=JY L o rs (H6 L i (decide ((rs.length:Int)=0)))
 rw[uH,h2];simp[H6]
theorem Yl {d:aW} {k:Nat} {L:jA} {me:List (Int×List Int)} (h:nT d k L me) (hg:Good d.revs) {v:Rev} (hv:d.revs[k]? =some v):
 ∀f i,ai (eH L.index (fileOf v) (k:Int)) f=some i↔∃(j:Nat) (w:Rev),i=(j:Int)∧j<k+1∧d.revs[j]? =some w∧fileOf w=f:=by
 intro f i
 rw[fJ]
 by_cases e:f=fileOf v
 ·subst e
  rw[if_pos rfl]
  constructor
  ·intro h;cases h;exact⟨k,v,rfl,by omega,hv,rfl⟩
  ·rintro⟨j,w,rfl,_,h2,h3⟩
   rw[bP hg h2 hv h3]
 ·rw[if_neg e,h.ix]
  constructor
  ·rintro⟨j,w,h1,h2,h3⟩;exact⟨j,w,h1,by omega,h3⟩
  ·rintro⟨j,w,h1,h2,h3,h4⟩
   refine⟨j,w,h1,?_,h3,h4⟩
   by_cases ej:j=k
   ·subst ej;rw[hv] at h3;cases h3;exact absurd h4.symm e
   ·omega
theorem wO {k:Nat} {l m:List Int} (key:Int) (h:∀j,j<k→m.getD j 0=l.getD j 0):(List.range k).filter (fun j=>decide (m.getD j 0=key))=(List.range k).filter (fun j=>decide (l.getD j 0=key)):=
 aki fun j hj=>by rw[h j (by simpa using hj)]
theorem abN {L:jA} {i:Nat} {rs:List dZ} {c m cr:List Int} (hA:ac4 L i rs c m cr) (P:Int→Prop) (hi:P i)
 (hb:∀(j:Nat) (x:Int),x∈(L.car.getD j none).getD []∨x∈(L.con.getD j none).getD []∨x∈(L.cre.getD j none).getD []→P x):∀x,x∈c∨x∈m∨x∈cr→P x:=by
 have h1:∀x,x∈c→P x:=by
  intro x hx
  obtain⟨o,ho,hxo⟩:=(hA.car x).1 hx
  rcases(ql L i rs o).1 ho with rfl|⟨r,_,⟨_,k,_,rfl⟩|⟨_,_,ho⟩⟩|⟨_,rfl⟩
  ·unfold DX at hxo
   split at hxo
   ·exact hb _ x (.inl hxo)
   ·simp at hxo
  ·exact hb _ x (.inl hxo)
  ·obtain⟨_,k,_,_,_,_,_,rfl⟩:=(Be L r o).1 ho
   exact hb _ x (.inr (.inl hxo))
  ·simp at hxo;rw[hxo];exact hi
 rintro x (hx|hx|hx)
 ·exact h1 x hx
 ·exact h1 x ((hA.con x).1 hx).1
 ·obtain⟨o,ho,hxo⟩:=(hA.cre x).1 hx
  rcases afs.1 ho with ho|ho
  ·rcases(yw L i rs o).1 ho with rfl|⟨r,_,_,ho⟩
   ·unfold MI at hxo
    split at hxo
    ·exact hb _ x (.inr (.inr hxo))
    ·simp at hxo
   ·obtain⟨_,k,_,_,_,_,_,rfl⟩:=(Be L r o).1 ho
    exact hb _ x (.inr (.inl hxo))
  ·simp at ho;subst ho;exact h1 x (by simpa using hxo)
theorem JP {α:Type} (n j:Nat) (a:α):(List.replicate n a).getD j a=a:=by
 simp only[List.getD,List.getElem?_replicate];split<;>rfl
theorem lG.inv {d:aW} (hg:Good d.revs) {k:Nat} {L:jA} {me:List (Int×List Int)} (h:lG d k L me):nT d k L me:=by
 induction h with
 |zero=>
  have hz:∀j:Nat,(BU d).car.getD j none=none∧(BU d).con.getD j none=none∧(BU d).cre.getD j none=none:=fun j=>⟨JP _ _ _,JP _ _ _,JP _ _ _⟩
  refine⟨by simp,rfl,by simp[BU],by simp[BU],by simp[BU],by simp[BU],by simp[BU],?_,?_,?_,?_,?_,?_,?_,fun j _=>hz j,?_⟩
  ·intro f i;simp[BU,ai]
  ·intro j v hj;omega
  ·intro j v hj;omega
  ·intro j v hj;omega
  ·intro key _;simp[ai]
  ·intro key;simp[ai]
  ·intro j v hj;omega
  ·intro j x h
   obtain⟨h1,h2,h3⟩:=hz j
   rw[h1,h2,h3] at h
   rcases h with h|h|h<;>simp at h
 | @away k L me v h hv h5 ih=>
   have hk:k<d.revs.length:=(adK.1 hv).1
   have hF:∀j,(DF (bD L k v) (fileOf v) k).fst.getD j 0=if k=j then-1 else L.fst.getD j 0:=fun j=>by
    show(L.fst.set k _).getD j 0=_
    rw[jI _ _ _ _ _ (by rw[ih.lf];exact hk),if_pos h5]
   have hP:∀j,(DF (bD L k v) (fileOf v) k).prev.getD j 0=if k=j then-1 else L.prev.getD j 0:=fun j=>by
    show(L.prev.set k _).getD j 0=_
    rw[jI _ _ _ _ _ (by rw[ih.lp];exact hk),if_pos h5]
   have old:∀(j:Nat) (w:Rev),j<k+1→d.revs[j]? =some w→¬w.act=5→j<k:=by
    intro j w hj hw h
    by_cases e:j=k
    ·subst e;rw[hv] at hw;cases hw;exact absurd h5 h
    ·omega
   refine⟨hk,ih.revs,?_,?_,ih.lc,ih.lo,ih.lr,Yl ih hg hv,?_,?_,?_,?_,ih.mne,?_,fun j hj=>ih.un j (by omega),?_⟩
   ·simp[DF,bD,ih.lp]
   ·simp[DF,bD,ih.lf]
   ·intro j w hj hw w5
    rw[hF]
    by_cases e:k=j
    ·subst e
     exact⟨if_pos rfl,(ih.un k (afJ _)).2.1,(ih.un k (afJ _)).1⟩
    ·rw[if_neg e];exact ih.f5 j w (by omega) hw w5
   ·intro j w hj hw w5
    have:=old j w hj hw w5
    rw[hF,if_neg (by omega)];exact ih.fm j w this hw w5
   ·intro j w hj hw w5
    have hj':=old j w hj hw w5
    rw[hP,hF,if_neg (by omega),if_neg (by omega)]
    rcases ih.pm j w hj' hw w5 with⟨u,w',a1,a2,a3⟩|h
    ·exact .inl ⟨u,w',a1,a2,by rw[hF,if_neg (by omega)];exact a3⟩
    ·exact .inr h
   ·intro key hkey
    rw[ih.mem key hkey,List.range_succ,ahk,wO (l:=L.fst) (m:=(DF (bD L k v) (fileOf v) k).fst) key (fun j hj=>by rw[hF,if_neg (by omega)])]
    have:(List.filter (fun j=>decide ((DF (bD L k v) (fileOf v) k).fst.getD j 0=key)) [k])=[]:=by
     rw[ajj,hF,if_pos rfl,if_neg (by simp;omega)];rfl
    rw[this,ajt]
   ·intro j w hj hw w5;exact ih.sets j w (old j w hj hw w5) hw w5
   ·intro j x hx;have:=ih.bd j x hx;omega
 | @aa4 k L me v h hv h5 c m cr hA ih=>
   have hk:k<d.revs.length:=(adK.1 hv).1
   generalize hL':DF (Dq (bD L k v) k c m cr) (fileOf v) k=L'
   have hF:∀j,L'.fst.getD j 0=if k=j then jc L k v else L.fst.getD j 0:=fun j=>by
    rw[←hL'];show(L.fst.set k _).getD j 0=_
    rw[jI _ _ _ _ _ (by rw[ih.lf];exact hk),if_neg h5]
   have hP:∀j,L'.prev.getD j 0=if k=j then nX L v else L.prev.getD j 0:=fun j=>by
    rw[←hL'];show(L.prev.set k _).getD j 0=_
    rw[jI _ _ _ _ _ (by rw[ih.lp];exact hk),if_neg h5]
   have hC:∀j,L'.car.getD j none=if k=j then some c else L.car.getD j none:=fun j=>by
    rw[←hL'];show(L.car.set k _).getD j none=_
    rw[jI _ _ _ _ _ (by rw[ih.lc];exact hk)]
   have hO:∀j,L'.con.getD j none=if k=j then some m else L.con.getD j none:=fun j=>by
    rw[←hL'];show(L.con.set k _).getD j none=_
    rw[jI _ _ _ _ _ (by rw[ih.lo];exact hk)]
   have hR:∀j,L'.cre.getD j none=if k=j then some cr else L.cre.getD j none:=fun j=>by
    rw[←hL'];show(L.cre.set k _).getD j none=_
    rw[jI _ _ _ _ _ (by rw[ih.lr];exact hk)]
   have hlk:=ih.look hg hv h5
   have hln:0≤jc L k v∧jc L k v≤k:=by
    rcases hlk with⟨_,_,h⟩|⟨_,u,w,a1,a2,a3,a4,a5,a6,a7,a8,a9⟩
    ·simp only[jc,h];omega
    ·simp only[jc,a7,Int.toNat_natCast];omega
   refine⟨hk,?_,?_,?_,?_,?_,?_,?_,?_,?_,?_,?_,?_,?_,?_,?_⟩
   ·rw[←hL'];exact ih.revs
   ·rw[←hL'];simp[DF,Dq,bD,ih.lp]
   ·rw[←hL'];simp[DF,Dq,bD,ih.lf]
   ·rw[←hL'];simp[DF,Dq,bD,ih.lc]
   ·rw[←hL'];simp[DF,Dq,bD,ih.lo]
   ·rw[←hL'];simp[DF,Dq,bD,ih.lr]
   ·rw[←hL'];exact Yl ih hg hv
   ·intro j w hj hw w5
    have e:¬k=j:=by rintro rfl;rw[hv] at hw;cases hw;exact h5 w5
    rw[hF,hO,hC,if_neg e,if_neg e,if_neg e];exact ih.f5 j w (by omega) hw w5
   ·intro j w hj hw w5
    rw[hF]
    by_cases e:k=j
    ·subst e;rw[if_pos rfl];exact hln
    ·rw[if_neg e];exact ih.fm j w (by omega) hw w5
   ·intro j w hj hw w5
    rw[hF,hP]
    by_cases e:k=j
    ·subst e
     rw[hv] at hw;cases hw
     rw[if_pos rfl,if_pos rfl]
     rcases hlk with⟨h1,_,h⟩|⟨h1,u,w,a1,a2,a3,a4,a5,a6,a7,a8,a9⟩
     ·exact .inr ⟨h1,by simp only[nX,h],by simp only[jc,h]⟩
     ·refine .inl ⟨u,w,by simp only[nX,a7],a1,a2,a3,a4,h1,a5,?_⟩
      rw[hF,if_neg (by omega)];simp only[jc,a7,Int.toNat_natCast]
    ·rw[if_neg e,if_neg e]
     rcases ih.pm j w (by omega) hw w5 with⟨u,w',a1,a2,a3⟩|h
     ·exact .inl ⟨u,w',a1,a2,by rw[hF,if_neg (by omega)];exact a3⟩
     ·exact .inr h
   ·intro key hkey
    rw[List.range_succ,ahk,wO (l:=L.fst) (m:=L'.fst) key (fun j hj=>by rw[hF,if_neg (by omega)]),ajA,←ih.mem key hkey,N9,fJ]
    by_cases e:key=jc L k v
    ·subst e
     have:(List.filter (fun j=>decide (L'.fst.getD j 0=jc L k v)) [k])=[k]:=by
      rw[ajj,hF,if_pos rfl,if_pos (by simp)];rfl
     rw[if_pos rfl,this];rfl
    ·have:(List.filter (fun j=>decide (L'.fst.getD j 0=key)) [k])=[]:=by
      rw[ajj,hF,if_pos rfl,if_neg (by simp;exact fun h=>e h.symm)];rfl
     rw[if_neg e,this];simp
   ·intro key
    rw[N9,fJ]
    split
    ·simp
    ·exact ih.mne key
   ·intro j w hj hw w5
    rw[hC,hO,hR]
    by_cases e:k=j
    ·subst e;exact⟨c,m,cr,if_pos rfl,if_pos rfl,if_pos rfl⟩
    ·rw[if_neg e,if_neg e,if_neg e];exact ih.sets j w (by omega) hw w5
   ·intro j hj
    rw[hC,hO,hR,if_neg (by omega),if_neg (by omega),if_neg (by omega)];exact ih.un j (by omega)
   ·intro j x hx
    rw[hC,hO,hR] at hx
    by_cases e:k=j
    ·rw[if_pos e,if_pos e,if_pos e] at hx
     refine abN hA (fun x=>0≤x∧x<((k+1:Nat):Int)) (by omega) ?_ x hx
     intro j x hx
     have:=ih.bd j x hx
     omega
    ·rw[if_neg e,if_neg e,if_neg e] at hx
     have:=ih.bd j x hx
     omega
structure SS where
 car:bJ→Prop
 con:bJ→Prop
 cre:bJ→Prop
def SS0:SS:=⟨fun _=>False,fun _=>False,fun _=>False⟩
def Ld (rs:List dZ) (A:bJ→SS) (b f g:bJ):Prop:=
 (A b).car g∨(∃r∈rs,(r.how=1∧(A ⟨r.frm,r.last⟩).car g)∨(¬r.how=1∧¬r.how=3∧∃n,r.first≤n∧n≤r.last∧(A ⟨r.frm,n⟩).con g))∨((rs=[]∨∃r∈rs,r.how=4)∧g=f)
def stepS (rs:List dZ) (A:bJ→SS) (v:Rev):SS:=
 ⟨Ld rs A (di v) (fileOf v),fun g=>Ld rs A (di v) (fileOf v) g∧¬(A (di v)).car g,
   fun g=>(A (di v)).cre g∨(∃r∈rs,r.how=3∧∃n,r.first≤n∧n≤r.last∧(A ⟨r.frm,n⟩).con g)∨Ld rs A (di v) (fileOf v) g⟩
def fF (d:aW):Nat→bJ→SS
 |0=>fun _=>SS0
 |k+1=>
  match d.revs[k]? with
  |none=>fF d k
  |some v=>if v.act=5 then fF d k else fun f=>if f=fileOf v then stepS (jF d (fileOf v)) (fF d k) v else fF d k f
def uV (d:aW) (x:Int) (g:bJ):Prop:=∃w,d.revs[x.toNat]? =some w∧fileOf w=g
def inL (d:aW) (L:jA) (s:List (Option (List Int))) (f g:bJ):Prop:=∃i x,ai L.index f=some i∧x∈(s.getD i.toNat none).getD []∧uV d x g
structure Wh (d:aW) (A:bJ→SS) (L:jA):Prop where
 car:∀f g,(A f).car g↔inL d L L.car f g
 con:∀f g,(A f).con g↔inL d L L.con f g
 cre:∀f g,(A f).cre g↔inL d L L.cre f g
theorem Ob {d:aW} (hg:Good d.revs) {x y:Int} {g:bJ} (hx:0≤x) (hy:0≤y) (h1:uV d x g) (h2:uV d y g):x=y:=by
 obtain⟨w,a1,a2⟩:=h1
 obtain⟨w',b1,b2⟩:=h2
 have:=bP hg a1 b1 (a2.trans b2.symm)
 omega
theorem Uk {d:aW} {c:List Int} {s:List (Option (List Int))} (h:Uni c s) (g:bJ):(∃x∈c,uV d x g)↔∃o∈s,∃x∈o.getD [],uV d x g:=by
 constructor
 ·rintro⟨x,hx,hf⟩
  obtain⟨o,ho,hxo⟩:=(h x).1 hx
  exact⟨o,ho,x,hxo,hf⟩
 ·rintro⟨o,ho,x,hx,hf⟩
  exact⟨x,(h x).2 ⟨o,ho,hx⟩,hf⟩
theorem WU {d:aW} (hg:Good d.revs) (hN:d.revs.length≤512) {k:Nat} {L:jA} {me:List (Int×List Int)} (hI:nT d k L me) {A:bJ→SS} (hR:Wh d A L) (r:dZ) (g:bJ):
 (∃o∈kU L r,∃x∈o.getD [],uV d x g)↔∃n,r.first≤n∧n≤r.last∧(A ⟨r.frm,n⟩).con g:=by
 constructor
 ·rintro⟨o,ho,x,hx,hf⟩
  obtain⟨j,i,h1,h2,h3,h4,h5,rfl⟩:=(Be L r o).1 ho
  exact⟨j,h1,h3,(hR.con _ _).2 ⟨i,x,h5,hx,hf⟩⟩
 ·rintro⟨n,h1,h2,h3⟩
  obtain⟨i,x,g1,g2,g3⟩:=(hR.con _ _).1 h3
  obtain⟨j,w,e1,e2,e3,e4⟩:=(hI.ix _ _).1 g1
  have hn:=hg.num j w e3
  have hj:=(adK.1 e3).1
  have:w.num=n:=by have:=congrArg bJ.num e4;simpa[fileOf] using this
  exact⟨_,(Be L r _).2 ⟨n,i,h1,by omega,h2,by omega,g1,rfl⟩,x,g2,g3⟩
theorem Vq {d:aW} (hg:Good d.revs) (hN:d.revs.length≤512) {k:Nat} {L:jA} {me:List (Int×List Int)} (h:lG d k L me):Wh d (fF d k) L:=by
 induction h with
 |zero=>constructor<;>(intro f g;simp[fF,SS0,inL,BU,ai])
 | @away k L me v h hv h5 ih=>
   have hI:=h.inv hg
   have hs:fF d (k+1)=fF d k:=by simp only[fF,hv,h5,if_true]
   rw[hs]
   have key:∀(s:List (Option (List Int))),s.getD k none=none→∀f g,inL d (DF (bD L k v) (fileOf v) k) s f g↔inL d L s f g:=by
    intro s hsk f g
    unfold inL
    show(∃i x,ai (eH L.index (fileOf v) (k:Int)) f=some i∧_)↔_
    rw[fJ]
    by_cases e:f=fileOf v
    ·subst e
     rw[if_pos rfl]
     constructor
     ·rintro⟨i,x,h1,h2,_⟩
      cases h1;rw[Int.toNat_natCast,hsk] at h2;simp at h2
     ·rintro⟨i,x,h1,h2,_⟩
      obtain⟨j,w,_,g2,g3,g4⟩:=(hI.ix _ _).1 h1
      have:=bP hg g3 hv g4;omega
    ·rw[if_neg e]
   obtain⟨u1,u2,u3⟩:=hI.un k (afJ _)
   exact⟨fun f g=>by rw[ih.car,←key L.car u1];rfl,fun f g=>by rw[ih.con,←key L.con u2];rfl,fun f g=>by rw[ih.cre,←key L.cre u3];rfl⟩
 | @aa4 k L me v h hv h5 c m cr hA ih=>
   have hI:=h.inv hg
   have hk:k<d.revs.length:=(adK.1 hv).1
   have hs:fF d (k+1)=fun f=>if f=fileOf v then stepS (jF d (fileOf v)) (fF d k) v else fF d k f:=by simp only[fF,hv,h5,if_false]
   rw[hs]
   generalize fF d k=A at*
   generalize hrs:jF d (fileOf v)=rs at*
   have hbefore:DX (bD L k v) k=(match ai L.index (di v) with|some u=>L.car.getD u.toNat none|none=>none)∧MI (bD L k v) k=(match ai L.index (di v) with|some u=>L.cre.getD u.toNat none|none=>none):=by
    have hp:(bD L k v).prev.getD k 0=nX L v:=by
     show(L.prev.set k _).getD k 0=_
     rw[jI _ _ _ _ _ (by rw[hI.lp];exact hk),if_neg h5,if_pos rfl]
    rcases hI.look hg hv h5 with⟨h1,h2,h3⟩|⟨h1,u,w,a1,a2,a3,a4,a5,a6,a7,a8,a9⟩
    ·rw[DX,MI,hp,h2];simp[nX,h3]
    ·rw[DX,MI,hp,a6];simp only[nX,a7]
     rw[if_pos (by omega),if_pos (by omega)];exact⟨rfl,rfl⟩
   have hbc:∀g,(∃x∈(DX (bD L k v) k).getD [],uV d x g)↔(A (di v)).car g:=by
    intro g
    rw[ih.car,hbefore.1,inL]
    cases ai L.index (di v) with
    |none=>simp
    |some u=>simp
   have hbr:∀g,(∃x∈(MI (bD L k v) k).getD [],uV d x g)↔(A (di v)).cre g:=by
    intro g
    rw[ih.cre,hbefore.2,inL]
    cases ai L.index (di v) with
    |none=>simp
    |some u=>simp
   have hcont:∀r g,(∃o∈kU (bD L k v) r,∃x∈o.getD [],uV d x g)↔∃n,r.first≤n∧n≤r.last∧(A ⟨r.frm,n⟩).con g:=fun r g=>by
    have e:kU (bD L k v) r=kU L r:=by
     have:∀(n:Nat) (q:Int),pR (bD L k v) r.frm q n=pR L r.frm q n:=by
      intro n;induction n with
      |zero=>intro q;rfl
      |succ n ihn=>intro q;simp only[pR,ihn];rfl
     simp only[kU,this]
    rw[e];exact WU hg hN hI ih r g
   have hbd:∀x,x∈c∨x∈m∨x∈cr→0≤x:=abN hA (fun x=>0≤x) (by omega) (fun j x hx=>(hI.bd j x hx).1)
   have hbb:∀x,x∈(DX (bD L k v) k).getD []→0≤x:=by
    intro x hx
    unfold DX at hx
    split at hx
    ·exact(hI.bd _ x (.inl hx)).1
    ·simp at hx
   have hcar:∀g,(∃x∈c,uV d x g)↔Ld rs A (di v) (fileOf v) g:=by
    intro g
    rw[Uk hA.car g,Ld]
    constructor
    ·rintro⟨o,ho,x,hx,hf⟩
     rcases(ql _ k rs o).1 ho with rfl|⟨r,hr,⟨r1,i,ri,rfl⟩|⟨r1,r3,ho⟩⟩|⟨hor,rfl⟩
     ·exact .inl ((hbc g).1 ⟨x,hx,hf⟩)
     ·exact .inr (.inl ⟨r,hr, .inl ⟨r1,(ih.car _ _).2 ⟨i,x,ri,hx,hf⟩⟩⟩)
     ·exact .inr (.inl ⟨r,hr, .inr ⟨r1,r3,(hcont r g).1 ⟨o,ho,x,hx,hf⟩⟩⟩)
     ·simp at hx;subst hx
      obtain⟨w,hw,e⟩:=hf
      rw[Int.toNat_natCast,hv] at hw;cases hw
      exact .inr (.inr ⟨hor,e.symm⟩)
    ·rintro(hb|⟨r,hr,⟨r1,hc⟩|⟨r1,r3,hc⟩⟩|⟨hor,rfl⟩)
     ·obtain⟨x,hx,hf⟩:=(hbc g).2 hb
      exact⟨_,(ql _ k rs _).2 (.inl rfl),x,hx,hf⟩
     ·obtain⟨i,x,h1,h2,h3⟩:=(ih.car _ _).1 hc
      exact⟨_,(ql _ k rs _).2 (.inr (.inl ⟨r,hr, .inl ⟨r1,i,h1,rfl⟩⟩)),x,h2,h3⟩
     ·obtain⟨o,ho,x,hx,hf⟩:=(hcont r g).2 hc
      exact⟨o,(ql _ k rs _).2 (.inr (.inl ⟨r,hr, .inr ⟨r1,r3,ho⟩⟩)),x,hx,hf⟩
     ·exact⟨_,(ql _ k rs _).2 (.inr (.inr ⟨hor,rfl⟩)),k,by simp,v,by rw[Int.toNat_natCast];exact hv,rfl⟩
   have hcon:∀g,(∃x∈m,uV d x g)↔Ld rs A (di v) (fileOf v) g∧¬(A (di v)).car g:=by
    intro g
    rw[←hcar g,←hbc g]
    constructor
    ·rintro⟨x,hx,hf⟩
     obtain⟨h1,h2⟩:=(hA.con x).1 hx
     refine⟨⟨x,h1,hf⟩,?_⟩
     rintro⟨y,hy,hfy⟩
     have:=Ob hg (hbd x (.inl h1)) (hbb y hy) hf hfy
     subst this;exact h2 hy
    ·rintro⟨⟨x,hx,hf⟩,hn⟩
     exact⟨x,(hA.con x).2 ⟨hx,fun h=>hn ⟨x,h,hf⟩⟩,hf⟩
   have hcre:∀g,(∃x∈cr,uV d x g)↔(A (di v)).cre g∨(∃r∈rs,r.how=3∧∃n,r.first≤n∧n≤r.last∧(A ⟨r.frm,n⟩).con g)∨Ld rs A (di v) (fileOf v) g:=by
    intro g
    rw[Uk hA.cre g]
    constructor
    ·rintro⟨o,ho,x,hx,hf⟩
     rcases afs.1 ho with ho|ho
     ·rcases(yw _ k rs o).1 ho with rfl|⟨r,hr,r3,ho⟩
      ·exact .inl ((hbr g).1 ⟨x,hx,hf⟩)
      ·exact .inr (.inl ⟨r,hr,r3,(hcont r g).1 ⟨o,ho,x,hx,hf⟩⟩)
     ·simp at ho;subst ho
      exact .inr (.inr ((hcar g).1 ⟨x,hx,hf⟩))
    ·rintro(hb|⟨r,hr,r3,hc⟩|hc)
     ·obtain⟨x,hx,hf⟩:=(hbr g).2 hb
      exact⟨_,afs.2 (.inl ((yw _ k rs _).2 (.inl rfl))),x,hx,hf⟩
     ·obtain⟨o,ho,x,hx,hf⟩:=(hcont r g).2 hc
      exact⟨o,afs.2 (.inl ((yw _ k rs _).2 (.inr ⟨r,hr,r3,ho⟩))),x,hx,hf⟩
     ·obtain⟨x,hx,hf⟩:=(hcar g).2 hc
      exact⟨some c,afs.2 (.inr (by simp)),x,hx,hf⟩
   have key:∀(s:List (Option (List Int))) (n:List Int) (B B':bJ→bJ→Prop),s.length=d.revs.length→(∀f g,B f g↔inL d L s f g)→(∀g,(∃x∈n,uV d x g)↔B' (fileOf v) g)→(∀f g,¬f=fileOf v→(B' f g↔B f g))→
    ∀f g,B' f g↔inL d (DF (Dq (bD L k v) k c m cr) (fileOf v) k) (s.set k (some n)) f g:=by
    intro s n B B' hl hB hn hB' f g
    unfold inL
    show _↔∃i x,ai (eH L.index (fileOf v) (k:Int)) f=some i∧_
    rw[fJ]
    by_cases e:f=fileOf v
    ·subst e
     rw[if_pos rfl,←hn g]
     constructor
     ·rintro⟨x,hx,hf⟩
      exact⟨k,x,rfl,by rw[Int.toNat_natCast,jI _ _ _ _ _ (by omega),if_pos rfl];exact hx,hf⟩
     ·rintro⟨i,x,h1,h2,h3⟩
      cases h1
      rw[Int.toNat_natCast,jI _ _ _ _ _ (by omega),if_pos rfl] at h2
      exact⟨x,h2,h3⟩
    ·rw[if_neg e,hB' f g e,hB,inL]
     constructor
     ·rintro⟨i,x,h1,h2,h3⟩
      obtain⟨j,w,rfl,g2,_⟩:=(hI.ix _ _).1 h1
      exact⟨j,x,h1,by rw[Int.toNat_natCast,jI _ _ _ _ _ (by omega),if_neg (by omega)];simpa using h2,h3⟩
     ·rintro⟨i,x,h1,h2,h3⟩
      obtain⟨j,w,rfl,g2,_⟩:=(hI.ix _ _).1 h1
      rw[Int.toNat_natCast,jI _ _ _ _ _ (by omega),if_neg (by omega)] at h2
      exact⟨j,x,h1,by simpa using h2,h3⟩
   refine⟨?_,?_,?_⟩
   ·exact key L.car c (fun f g=>(A f).car g) _ hI.lc ih.car (fun g=>by rw[if_pos rfl];exact hcar g) (fun f g e=>by rw[if_neg e])
   ·exact key L.con m (fun f g=>(A f).con g) _ hI.lo ih.con (fun g=>by rw[if_pos rfl];exact hcon g) (fun f g e=>by rw[if_neg e])
   ·exact key L.cre cr (fun f g=>(A f).cre g) _ hI.lr ih.cre (fun g=>by rw[if_pos rfl];exact hcre g) (fun f g e=>by rw[if_neg e])
theorem dL {d:aW} (hg:Good d.revs) {p:akK} {n:Int} {w:Rev}:iE d p n=some w↔∃j:Nat,d.revs[j]? =some w∧fileOf w=⟨p,n⟩:=by
 constructor
 ·intro h
  obtain⟨h1,h2,h3⟩:=Ey h
  obtain⟨j,hj⟩:=af7 h1
  exact⟨j,hj,by simp[fileOf,h2,h3]⟩
 ·rintro⟨j,hj,he⟩
  simp only[fileOf,bJ.mk.injEq] at he
  cases h:iE d p n with
  |none=>
   exfalso
   have:=List.find?_eq_none.1 h w (by simp only[log,ahI];exact⟨aem hj,by simp[he.1]⟩)
   simp[he.2] at this
  |some u=>
   obtain⟨h1,h2,h3⟩:=Ey h
   obtain⟨i,hi⟩:=af7 h1
   have:=bP hg hi hj (by simp[fileOf,h2,h3,he.1,he.2])
   subst this;rw[hi] at hj;exact hj
theorem iI {d:aW} {v:Rev} (h1:v.act=1):gB d v=none:=by simp[gB,h1]
theorem BI {d:aW} (hg:Good d.revs) (hN:d.revs.length≤512) {k:Nat} {v:Rev} (hv:d.revs[k]? =some v) (h1:¬v.act=1):gB d v=iE d (di v).path (di v).num:=by
 have hn:=hg.num k v hv
 have hk:=(adK.1 hv).1
 unfold gB di
 rw[if_neg h1,if_neg h1]
 split
 ·rfl
 ·rw[O8 (by omega) (by omega)]
section
variable {d:aW} (hg:Good d.revs) (hN:d.revs.length≤512) {L:jA} {me:List (Int×List Int)} (hI:nT d d.revs.length L me)
include hg hN hI
theorem AY:∀(n j:Nat) (v:Rev),j<n→d.revs[j]? =some v→¬v.act=5→∃(r:Nat) (w:Rev),L.fst.getD j 0=(r:Int)∧d.revs[r]? =some w∧first d v=fileOf w
 |0,j,v,h,_,_=>by omega
 |n+1,j,v,h,hv,h5=>by
  have hj:=(adK.1 hv).1
  rcases hI.pm j v hj hv h5 with⟨u,w,a1,a2,a3,a4,a5,a6,a7,a8⟩|⟨h1,h2,h3⟩
  ·have hp:gB d v=some w:=by rw[BI hg hN hv a6];exact(dL hg).2 ⟨u,a3,a5⟩
   rw[qj hp a7,a8]
   exact AY n u w (by omega) a3 a4
  ·exact⟨j,v,h3,hv,fM (iI h1)⟩
theorem yJ {i j:Nat} {u v:Rev} (hu:d.revs[i]? =some u) (hv:d.revs[j]? =some v) (u5:¬u.act=5) (v5:¬v.act=5):L.fst.getD i 0=L.fst.getD j 0↔first d u=first d v:=by
 obtain⟨r,w,a1,a2,a3⟩:=AY hg hN hI (i+1) i u (by omega) hu u5
 obtain⟨r',w',b1,b2,b3⟩:=AY hg hN hI (j+1) j v (by omega) hv v5
 rw[a1,b1,a3,b3]
 constructor
 ·intro h
  have:r=r':=by omega
  subst this;rw[a2] at b2;cases b2;rfl
 ·intro h;rw[bP hg a2 b2 h]
omit hN hI in
theorem Xp {i j:Nat} {u v:Rev} (hu:d.revs[i]? =some u) (hv:d.revs[j]? =some v) (u5:¬u.act=5) (v5:¬v.act=5) (u1:¬u.act=1) (v1:¬v.act=1) (h:di u=di v):i=j:=by
 have aux:∀{i j:Nat} {u v:Rev},d.revs[i]? =some u→d.revs[j]? =some v→¬v.act=5→¬u.act=1→¬v.act=1→u.act=4→¬v.act=4→di u=di v→False:=by
  intro i j u v hu hv v5 u1 v1 u4 v4 h
  obtain⟨a,w,w1,w2,w3,w4⟩:=hg.away i u hu u4
  simp only[di,u4,v1,v4,if_false,if_true,bJ.mk.injEq] at h
  simp at h
  have:=bP hg w1 hv (by simp only[fileOf,w2,w3,h.1,h.2];congr 1;omega)
  subst this;rw[w1] at hv;cases hv;exact v5 w4
 by_cases u4:u.act=4
 ·by_cases v4:v.act=4
  ·simp only[di,u4,v4,if_true,bJ.mk.injEq] at h
   simp at h
   rcases akn i j with hlt|e|hlt
   ·exact(hg.mov2 i j u v hlt hu hv u4 v4 h.1 h.2).elim
   ·exact e
   ·exact(hg.mov2 j i v u hlt hv hu v4 u4 h.1.symm h.2.symm).elim
  ·exact(aux hu hv v5 u1 v1 u4 v4 h).elim
 ·by_cases v4:v.act=4
  ·exact(aux hv hu u5 v1 u1 v4 u4 h.symm).elim
  ·simp only[di,u1,v1,u4,v4,if_false,bJ.mk.injEq] at h
   exact bP hg hu hv (by simp only[fileOf,h.1];congr 1;omega)
theorem EJ:∀(n i j:Nat) (u v:Rev),j<n→i<j→d.revs[i]? =some u→d.revs[j]? =some v→¬u.act=5→¬v.act=5→L.fst.getD i 0=L.fst.getD j 0→
 u.chg<v.chg∧∃(s:Nat) (w:Rev),s≤j∧d.revs[s]? =some w∧¬w.act=5∧¬w.act=1∧di w=fileOf u
 |0,i,j,u,v,h,_,_,_,_,_,_=>by omega
 |n+1,i,j,u,v,hn,hij,hu,hv,u5,v5,hf=>by
  have hj:=(adK.1 hv).1
  have hi:=(adK.1 hu).1
  rcases hI.pm j v hj hv v5 with⟨k,w,a1,a2,a3,a4,a5,a6,a7,a8⟩|⟨h1,h2,h3⟩
  ·rcases akn i k with hlt|e|hlt
   ·obtain⟨g1,s,x,g2,g3⟩:=EJ n i k u w (by omega) hlt hu a3 u5 a4 (by rw[hf,a8])
    exact⟨by omega,s,x,by omega,g3⟩
   ·subst e;rw[hu] at a3;cases a3
    exact⟨a7,j,v,by omega,hv,v5,a6,a5.symm⟩
   ·exfalso
    obtain⟨g1,s,x,g2,g3,g4,g5,g6⟩:=EJ n k i w u (by omega) hlt a3 hu a4 u5 (by rw[←a8,hf])
    have:=Xp hg g3 hv g4 v5 g5 a6 (g6.trans a5)
    omega
  ·have:=hI.fm i u hi hu u5
   omega
theorem aca {i j:Nat} {u v:Rev} (hu:d.revs[i]? =some u) (hv:d.revs[j]? =some v) (u5:¬u.act=5) (v5:¬v.act=5) (h:L.fst.getD i 0=L.fst.getD j 0):u.chg≤v.chg↔i≤j:=by
 rcases akn i j with hlt|e|hlt
 ·have:=(EJ hg hN hI (j+1) i j u v (by omega) hlt hu hv u5 v5 h).1
  exact⟨fun _=>by omega,fun _=>by omega⟩
 ·subst e;rw[hu] at hv;cases hv;simp
 ·have:=(EJ hg hN hI (i+1) j i v u (by omega) hlt hv hu v5 u5 h.symm).1
  exact⟨fun _=>by omega,fun _=>by omega⟩
end
def SA (d:aW):bJ→SS:=fF d d.revs.length
def Open (d:aW) (t:bJ) (u:Rev):Prop:=¬∀g,(SA d (fileOf u)).con g→(SA d t).cre g
open Classical in
noncomputable def Ib (d:aW) (v:Rev) (t:bJ):List bJ:=(d.revs.filter fun u=>decide (¬u.act=5∧first d u=first d v∧u.chg≤v.chg∧Open d t u)).map fileOf
noncomputable def mF (d:aW) (s t:bJ):Option (List bJ):=
 match kY d s.path s.num,kY d t.path t.num with
 |some v,some _=>some (Ib d v t)
 |_,_=>none
theorem gJ {d:aW} (hg:Good d.revs) {f:bJ} {w:Rev}:kY d f.path f.num=some w↔∃j:Nat,d.revs[j]? =some w∧fileOf w=f∧¬w.act=5:=by
 unfold kY
 cases h:iE d f.path f.num with
 |none=>
  simp only[reduceCtorEq,false_iff,not_exists]
  rintro j ⟨h1,h2,_⟩
  rw[(dL hg).2 ⟨j,h1,h2⟩] at h;cases h
 |some v=>
  obtain⟨i,h1,h2⟩:=(dL hg).1 h
  simp only
  constructor
  ·intro hw
   split at hw
   ·cases hw
   ·cases hw;exact⟨i,h1,h2,by assumption⟩
  ·rintro⟨j,g1,g2,g3⟩
   have:=bP hg h1 g1 (by rw[h2,g2])
   subst this;rw[h1] at g1;cases g1;rw[if_neg g3]
theorem Kt {d:aW} {k:Nat} {L:jA} {me:List (Int×List Int)} (hI:nT d k L me) {f:bJ} {i:Int}:uF L f=some i↔∃(j:Nat) (w:Rev),i=(j:Int)∧j<k∧d.revs[j]? =some w∧fileOf w=f∧¬w.act=5:=by
 unfold uF
 cases h:ai L.index f with
 |none=>
  simp only[reduceCtorEq,false_iff,not_exists]
  rintro j w ⟨_,h1,h2,h3,_⟩
  rw[(hI.ix f j).2 ⟨j,w,rfl,h1,h2,h3⟩] at h;cases h
 |some x=>
  obtain⟨j,w,rfl,h1,h2,h3⟩:=(hI.ix f x).1 h
  simp only[Int.toNat_natCast]
  by_cases w5:w.act=5
  ·rw[if_neg (by rw[(hI.f5 j w h1 h2 w5).1];omega)]
   simp only[reduceCtorEq,false_iff,not_exists]
   rintro j' w' ⟨e,g1,g2,g3,g4⟩
   rw[(hI.ix f j').2 ⟨j',w',rfl,g1,g2,g3⟩] at h
   have:j'=j:=by have:=Option.some.inj h;omega
   subst this;rw[h2] at g2;cases g2;exact g4 w5
  ·rw[if_pos (hI.fm j w h1 h2 w5).1]
   constructor
   ·intro e;cases e;exact⟨j,w,rfl,h1,h2,h3,w5⟩
   ·rintro⟨j',w',rfl,g1,g2,g3,g4⟩
    rw[(hI.ix f j').2 ⟨j',w',rfl,g1,g2,g3⟩] at h
    exact h.symm
theorem zL {i:Nat}:∀{l:List Nat},l.Pairwise (· <·)→i∈l→upto (l.map fun x:Nat=>(x:Int)) (i:Int)=(l.filter fun x=>decide (x≤i)).map fun x:Nat=>(x:Int)
 |[],_,h=>by cases h
 |a::l,hp,h=>by
  obtain⟨h1,h2⟩:=List.pairwise_cons.1 hp
  simp only[agV,upto]
  by_cases e:a=i
  ·subst e
   rw[if_pos rfl,ajj,if_pos (by simp)]
   have:l.filter (fun x=>decide (x≤a))=[]:=ajO.2 fun x hx=>by have:=h1 x hx;simp;omega
   rw[this];rfl
  ·rcases afr.1 h with rfl|h
   ·exact absurd rfl e
   ·have:=h1 i h
    rw[if_neg (by omega),ajj,if_pos (by simp;omega),zL h2 h];rfl
theorem NM {α:Type} (l:List α) (z:α):l=(List.range l.length).map fun i=>l.getD i z:=by
 apply ajS
 intro i
 rw[ag5]
 rcases ajE i l.length with h|h
 ·rw[akp h,adH h];simp[List.getD,h]
 ·rw[ajv h,ajv (by simpa using h)];rfl
theorem ads {d:aW} (hg:Good d.revs) {L:jA} {me:List (Int×List Int)} (hI:nT d d.revs.length L me) (hR:Wh d (SA d) L) {i j:Nat} {u w:Rev} (hu:d.revs[i]? =some u) (hw:d.revs[j]? =some w) (u5:¬u.act=5) (w5:¬w.act=5):
 jh L (j:Int) (i:Int)=true↔Open d (fileOf w) u:=by
 have hi:=(adK.1 hu).1
 have hj:=(adK.1 hw).1
 have ei:=(hI.ix (fileOf u) (i:Int)).2 ⟨i,u,rfl,hi,hu,rfl⟩
 have ej:=(hI.ix (fileOf w) (j:Int)).2 ⟨j,w,rfl,hj,hw,rfl⟩
 simp only[jh,Int.toNat_natCast,Open,afU,Zy]
 have:(((L.con.getD i none).getD []).all fun k=>decide (k∈(L.cre.getD j none).getD []))=true↔∀g,(SA d (fileOf u)).con g→(SA d (fileOf w)).cre g:=by
  rw[agr]
  constructor
  ·intro h g hc
   obtain⟨i',x,h1,h2,h3⟩:=(hR.con _ _).1 hc
   rw[ei] at h1;cases h1
   rw[Int.toNat_natCast] at h2
   have:=agw (h x h2)
   exact(hR.cre _ _).2 ⟨j,x,ej,by rw[Int.toNat_natCast];exact this,h3⟩
  ·intro h x hx
   have bx:=hI.bd i x (.inr (.inl hx))
   have hxl:x.toNat<d.revs.length:=by omega
   have hf:uV d x (fileOf (d.revs[x.toNat])):=⟨_,adH hxl,rfl⟩
   have:=h _ ((hR.con _ _).2 ⟨i,x,ei,by rw[Int.toNat_natCast];exact hx,hf⟩)
   obtain⟨j',y,h1,h2,h3⟩:=(hR.cre _ _).1 this
   rw[ej] at h1;cases h1
   rw[Int.toNat_natCast] at h2
   have by':=hI.bd j y (.inr (.inr h2))
   have e:=Ob hg bx.1 by'.1 hf h3
   subst e;exact ajk h2
 rw[←this]
 simp
def PD (L:jA) (me:List (Int×List Int)) (s t:Int):List bJ:=(((upto ((ai me (L.fst.getD s.toNat 0)).getD []) s).filter (jh L t)).map fun x=>fileOf (L.revs.getD x.toNat ag))
theorem adv {d:aW} (hg:Good d.revs) (hN:d.revs.length≤512) {L:jA} {me:List (Int×List Int)} (hr:lG d d.revs.length L me) {i j:Nat} {v w:Rev} (hv:d.revs[i]? =some v) (hw:d.revs[j]? =some w) (v5:¬v.act=5) (w5:¬w.act=5):
 PD L me i j=Ib d v (fileOf w):=by
 have hI:=hr.inv hg
 have hR:=Vq hg hN hr
 have hi:=(adK.1 hv).1
 rw[PD,Int.toNat_natCast,hI.mem _ (hI.fm i v hi hv v5).1,zL (List.Pairwise.filter _ List.pairwise_lt_range) (by simp[hi]),hI.revs]
 rw[Ib]
 conv=>rhs;rw[NM d.revs ag]
 rw[List.filter_map,List.filter_map,ajM,ajM,List.filter_filter,List.filter_filter]
 have:∀(p q:Nat→Bool),(∀x∈List.range d.revs.length,p x=q x)→∀(f g:Nat→bJ),(∀x,f x=g x)→((List.range d.revs.length).filter p).map f=((List.range d.revs.length).filter q).map g:=by
  intro p q h f g hfg
  rw[aki h,show f=g from funext hfg]
 apply this
 ·intro x hx
  have hx:x<d.revs.length:=by simpa using hx
  have hu:d.revs[x]? =some d.revs[x]:=adH hx
  have hgx:d.revs.getD x ag=d.revs[x]:=by simp[List.getD,hx]
  generalize d.revs[x]=u at*
  rw[ajx]
  simp only[Function.comp,afA,aeB,hgx]
  by_cases u5:u.act=5
  ·constructor
   ·rintro⟨_,h⟩
    rw[(hI.f5 x u hx hu u5).1] at h
    have:=(hI.fm i v hi hv v5).1
    omega
   ·rintro⟨h,_⟩;exact absurd u5 h
  ·rw[ads hg hI hR hu hw u5 w5]
   constructor
   ·rintro⟨⟨h1,h2⟩,hf⟩
    exact⟨u5,(yJ hg hN hI hu hv u5 v5).1 hf,(aca hg hN hI hu hv u5 v5 hf).2 h2,h1⟩
   ·rintro⟨_,h2,h3,h4⟩
    have hf:=(yJ hg hN hI hu hv u5 v5).2 h2
    exact⟨⟨h4,(aca hg hN hI hu hv u5 v5 hf).1 h3⟩,hf⟩
 ·intro x;simp[Function.comp]
def wI (A B:SS):Prop:=(∀g,A.car g↔B.car g)∧(∀g,A.con g↔B.con g)∧(∀g,A.cre g↔B.cre g)
theorem wI.refl (A:SS):wI A A:=⟨fun _=>Iff.rfl,fun _=>Iff.rfl,fun _=>Iff.rfl⟩
theorem wI.trans {A B C:SS} (h:wI A B) (k:wI B C):wI A C:=⟨fun g=>(h.1 g).trans (k.1 g),fun g=>(h.2.1 g).trans (k.2.1 g),fun g=>(h.2.2 g).trans (k.2.2 g)⟩
theorem wI.symm {A B:SS} (h:wI A B):wI B A:=⟨fun g=>(h.1 g).symm,fun g=>(h.2.1 g).symm,fun g=>(h.2.2 g).symm⟩
theorem ad2 {α:Type} {l m:List α} (h:∀x,x∈l↔x∈m):l=[]↔m=[]:=by
 constructor
 ·rintro rfl;exact akE.2 fun x hx=>by have:=(h x).2 hx;cases this
 ·rintro rfl;exact akE.2 fun x hx=>by have:=(h x).1 hx;cases this
theorem WO {rs rs':List dZ} {A A':bJ→SS} (hr:∀r,r∈rs↔r∈rs') (hA:∀f,wI (A f) (A' f)) (b f g:bJ):Ld rs A b f g↔Ld rs' A' b f g:=by
 unfold Ld
 have h1:=ad2 hr
 simp only[hr,h1,(hA _).1,(hA _).2.1]
theorem Ry {rs rs':List dZ} {A A':bJ→SS} (hr:∀r,r∈rs↔r∈rs') (hA:∀f,wI (A f) (A' f)) (v:Rev):wI (stepS rs A v) (stepS rs' A' v):=by
 have hc:=fun g=>WO hr hA (di v) (fileOf v) g
 refine⟨hc,fun g=>?_,fun g=>?_⟩
 ·simp only[stepS,hc g,(hA _).1]
 ·simp only[stepS,hc g,hr,(hA _).2.1,(hA _).2.2]
theorem Fh {d n:aW}:∀{k:Nat},(∀i,i<k→n.revs[i]? =d.revs[i]?)→(∀(i:Nat) (v:Rev),i<k→d.revs[i]? =some v→∀r,r∈jF n (fileOf v)↔r∈jF d (fileOf v))→∀f,wI (fF n k f) (fF d k f)
 |0,_,_,f=>wI.refl _
 |k+1,h1,h2,f=>by
  have ih:=Fh (k:=k) (fun i hi=>h1 i (by omega)) (fun i v hi=>h2 i v (by omega))
  simp only[fF,h1 k (by omega)]
  cases hv:d.revs[k]? with
  |none=>exact ih f
  |some v=>
   simp only
   split
   ·exact ih f
   ·show wI (if f=fileOf v then _ else _) (if f=fileOf v then _ else _)
    split
    ·exact Ry (h2 k v (by omega) hv) ih v
    ·exact ih f
theorem uo {d:aW} {f:bJ} {k:Nat}:∀{m:Nat},k≤m→(∀(i:Nat) (v:Rev),k≤i→i<m→d.revs[i]? =some v→f≠fileOf v)→fF d m f=fF d k f
 |0,h,_=>by have:k=0:=by omega
            rw[this]
 |m+1,h,hf=>by
  by_cases e:k=m+1
  ·rw[e]
  ·rw[←uo (m:=m) (by omega) (fun i v h1 h2=>hf i v h1 (by omega))]
   simp only[fF]
   cases hv:d.revs[m]? with
   |none=>rfl
   |some v=>
    simp only
    split
    ·rfl
    ·show(if f=fileOf v then _ else _)=_
     rw[if_neg (hf m v (by omega) (by omega) hv)]
theorem BH {d:aW} (hg:Good d.revs) {k:Nat} {v:Rev} (hv:d.revs[k]? =some v) (h5:¬v.act=5):SA d (fileOf v)=stepS (jF d (fileOf v)) (fF d k) v:=by
 have hk:=(adK.1 hv).1
 rw[SA,uo (k:=k+1) hk (fun i w h1 h2 hw e=>by have:=bP hg hv hw e;omega)]
 simp only[fF,hv,h5,if_false,if_true]
theorem ac2 {d:aW} (hg:Good d.revs) {k:Nat} {v:Rev} (hv:d.revs[k]? =some v) (h5:¬v.act=5):fF d k (di v)=SA d (di v):=by
 have hk:=(adK.1 hv).1
 rw[SA]
 symm
 apply uo (by omega)
 intro i w h1 h2 hw e
 rcases FC hg hv h5 with⟨_,hb⟩|⟨_,u,x,a1,a2,a3,a4,a5⟩
 ·exact YB hg hw (by rw[←e,hb])
 ·have:=bP hg a2 hw (by rw[a4,e]);omega
theorem agB {d:aW} (hg:Good d.revs) {k:Nat} {v:Rev} (hv:d.revs[k]? =some v) (h5:¬v.act=5) (g:bJ):(SA d (fileOf v)).con g↔(SA d (fileOf v)).car g∧¬(SA d (di v)).car g:=by
 rw[BH hg hv h5,←ac2 hg hv h5];rfl
theorem ahD {d:aW} (hg:Good d.revs) {k:Nat} {v:Rev} (hv:d.revs[k]? =some v) (h5:¬v.act=5) (g:bJ) (h:(SA d (di v)).car g):(SA d (fileOf v)).car g:=by
 rw[←ac2 hg hv h5] at h
 rw[BH hg hv h5];exact .inl h
theorem ags {d:aW} (hg:Good d.revs) {k:Nat} {v:Rev} (hv:d.revs[k]? =some v) (h5:¬v.act=5) (g:bJ) (h:(SA d (fileOf v)).car g):(SA d (fileOf v)).cre g:=by
 rw[BH hg hv h5] at h⊢;exact .inr (.inr h)
theorem abZ {d:aW}:∀{k:Nat},k≤d.revs.length→∃L me,lG d k L me
 |0,_=>⟨_,_, .zero⟩
 |k+1,h=>by
  obtain⟨L,me,hr⟩:=abZ (d:=d) (k:=k) (by omega)
  have hv:=adH (show k<d.revs.length by omega)
  by_cases h5:(d.revs[k]).act=5
  ·exact⟨_,_, .away hr hv h5⟩
  ·refine⟨_,_, .aa4 hr hv h5 (c:=(vZ (bD L k d.revs[k]) k (jF d (fileOf d.revs[k]))).flatMap fun o=>o.getD [])
    (m:=((vZ (bD L k d.revs[k]) k (jF d (fileOf d.revs[k]))).flatMap fun o=>o.getD []).filter fun x=>!decide (x∈(DX (bD L k d.revs[k]) k).getD []))
    (cr:=((uH (bD L k d.revs[k]) k (jF d (fileOf d.revs[k]))).ign++[some ((vZ (bD L k d.revs[k]) k (jF d (fileOf d.revs[k]))).flatMap fun o=>o.getD [])]).flatMap fun o=>o.getD [])
    ⟨fun x=>by simp only[akm],fun x=>by simp,fun x=>by simp only[akm]⟩⟩
theorem wU {d:aW} (hg:Good d.revs) (hN:d.revs.length≤512) {i j:Nat} {u v:Rev} (hij:i<j) (hu:d.revs[i]? =some u) (hv:d.revs[j]? =some v) (u5:¬u.act=5) (v5:¬v.act=5) (hf:first d u=first d v):
 ∃(k:Nat) (w:Rev),i≤k∧k<j∧d.revs[k]? =some w∧¬w.act=5∧fileOf w=di v∧first d w=first d v:=by
 obtain⟨L,me,hr⟩:=abZ (d:=d) (afJ _)
 have hI:=hr.inv hg
 have hL:=(yJ hg hN hI hu hv u5 v5).2 hf
 have hj:=(adK.1 hv).1
 have hi:=(adK.1 hu).1
 rcases hI.pm j v hj hv v5 with⟨k,w,a1,a2,a3,a4,a5,a6,a7,a8⟩|⟨h1,h2,h3⟩
 ·refine⟨k,w,?_,a2,a3,a4,a5,(yJ hg hN hI a3 hv a4 v5).1 a8.symm⟩
  rcases ajE k i with hlt|hge
  ·exfalso
   obtain⟨_,s,x,g2,g3,g4,g5,g6⟩:=EJ hg hN hI (i+1) k i w u (by omega) hlt a3 hu a4 u5 (by rw[←a8,hL])
   have:=Xp hg g3 hv g4 v5 g5 a6 (g6.trans a5)
   omega
  ·exact hge
 ·have:=hI.fm i u hi hu u5
  omega
theorem Uh {d:aW} (hg:Good d.revs) (hN:d.revs.length≤512):∀(n:Nat) {i j:Nat} {u v:Rev},j<n→i≤j→d.revs[i]? =some u→d.revs[j]? =some v→¬u.act=5→¬v.act=5→first d u=first d v→∀g,(SA d (fileOf u)).car g→(SA d (fileOf v)).car g
 |0,_,_,_,_,h,_,_,_,_,_,_=>by omega
 |n+1,i,j,u,v,hn,hij,hu,hv,u5,v5,hf=>by
  intro g hc
  by_cases e:i=j
  ·subst e;rw[hu] at hv;cases hv;exact hc
  ·obtain⟨k,w,k1,k2,k3,k4,k5,k6⟩:=wU hg hN (by omega) hu hv u5 v5 hf
   have:=Uh hg hN n (by omega) k1 hu k3 u5 k4 (hf.trans k6.symm) g hc
   rw[k5] at this
   exact ahD hg hv v5 g this
theorem Q6 {α:Type} (l:List α) (i j:Nat) (z:α) (hi:i<l.length) (hj:j<l.length):((l.set i (l.getD j z)).set j (l.getD i z)).Perm l:=by
 have:=List.set_set_perm hi hj
 simpa[List.getD,hi,hj] using this
theorem Jj:∀(k:Nat) (l:List dZ),k<l.length→(zY k l).Perm l
 |0,l,_=>akI _
 |k+1,l,h=>by
  rw[zY]
  split
  ·exact(Jj k _ (by simp;omega)).trans (Q6 l (k+1) k dS h (by omega))
  ·exact akI _
theorem J3 (l:List dZ):∀k,k≤l.length→(G9 l k).Perm l
 |0,_=>akI _
 |k+1,h=>(Jj k _ (by rw[Bf];omega)).trans (J3 l k (by omega))
theorem xq (l:List dZ) (r:dZ):r∈NI l↔r∈l:=(J3 l l.length (afJ _)).mem_iff
section
variable {d:aW} {c:iZ} (hg:Good d.revs) (hN:d.revs.length≤512) (hk:pG d c)
include hg hN hk
theorem uM {i:Nat} (hi:i<d.revs.length):(eG d c).revs[i]? =d.revs[i]?:=by
 simp only[eG];rw[ah5 hi]
theorem yL {a:Nat} (ha:a<c.edits.length):(eG d c).revs[d.revs.length+a]? =some (made c (c.edits.getD a bZ)):=by
 simp only[eG]
 rw[ajm (by omega),ajT,ag5,adH ha]
 simp[List.getD,ha]
theorem abr:(eG d c).revs.length≤512:=by
 have:=hk.tot1;simp[eG];omega
theorem PX {i a:Nat} {v:Rev} (hv:d.revs[i]? =some v) (ha:a<c.edits.length):fileOf v≠fileOf (made c (c.edits.getD a bZ)):=by
 intro e
 have hi:=(adK.1 hv).1
 have:=bP (uu hg hN hk) (by rw[uM hg hN hk hi];exact hv) (yL hg hN hk ha) e
 omega
theorem Q9 {i:Nat} {v:Rev} (hv:d.revs[i]? =some v) (r:dZ):r∈jF (eG d c) (fileOf v)↔r∈jF d (fileOf v):=by
 simp only[jF,ahI,eG,xq,afs,aeB]
 constructor
 ·rintro⟨h|h,e⟩
  ·exact⟨h,e⟩
  ·exfalso
   obtain⟨j,hj,er⟩:=ahN.1 h
   have h0:=hk.recd j hj
   rw[show c.recs.getD j dS=r by simp[List.getD,hj,er]] at h0
   obtain⟨x,hx,⟨t1,t2,t3⟩,_⟩:=h0.okTgt
   obtain⟨a,ha,ea⟩:=ahN.1 hx
   have hx':c.edits.getD a bZ=x:=by simp[List.getD,ha,ea]
   refine PX hg hN hk hv ha ?_
   rw[hx',←e]
   simp only[fileOf,made,t1,t2]
 ·rintro⟨h,e⟩;exact⟨.inl h,e⟩
theorem Ud (f:bJ):wI (fF (eG d c) d.revs.length f) (SA d f):=
 Fh (fun i hi=>uM hg hN hk hi) (fun i v _ hv=>Q9 hg hN hk hv) f
theorem af6 {f:bJ} (hf:∀a,a<c.edits.length→f≠fileOf (made c (c.edits.getD a bZ))):wI (SA (eG d c) f) (SA d f):=by
 have e:SA (eG d c) f=fF (eG d c) d.revs.length f:=by
  rw[SA]
  apply uo (by simp[eG])
  intro i v h1 h2 hv
  have hl:i-d.revs.length<c.edits.length:=by simp[eG] at h2;omega
  have:=yL hg hN hk hl
  rw[show d.revs.length+(i-d.revs.length)=i by omega,hv] at this
  cases this
  exact hf _ hl
 rw[e];exact Ud hg hN hk f
theorem Ws {i:Nat} {v:Rev} (hv:d.revs[i]? =some v):wI (SA (eG d c) (fileOf v)) (SA d (fileOf v)):=af6 hg hN hk fun a ha=>PX hg hN hk hv ha
theorem Yk {p:akK} {n:Int} {w:Rev} (h:iE d p n=some w):iE (eG d c) p n=some w:=by
 obtain⟨j,h1,h2⟩:=(dL hg).1 h
 have hj:=(adK.1 h1).1
 exact(dL (uu hg hN hk)).2 ⟨j,by rw[uM hg hN hk hj];exact h1,h2⟩
theorem O3:∀(n i:Nat) (v:Rev),i<n→d.revs[i]? =some v→¬v.act=5→first (eG d c) v=first d v
 |0,i,v,h,_,_=>by omega
 |n+1,i,v,h,hv,h5=>by
  have hi:=(adK.1 hv).1
  have hg':=uu hg hN hk
  have hN':=abr hg hN hk
  have hv':(eG d c).revs[i]? =some v:=by rw[uM hg hN hk hi];exact hv
  rcases FC hg hv h5 with⟨h1,_⟩|⟨h1,u,w,a1,a2,a3,a4,a5⟩
  ·rw[fM (iI h1),fM (iI h1)]
  ·have e1:gB d v=some w:=by rw[BI hg hN hv h1];exact(dL hg).2 ⟨u,a2,a4⟩
   have e2:gB (eG d c) v=some w:=by rw[BI hg' hN' hv' h1];exact(dL hg').2 ⟨u,by rw[uM hg hN hk (by omega)];exact a2,a4⟩
   rw[qj e1 a5,qj e2 a5]
   exact O3 n u w (by omega) a2 a3
end
def rO (b r:Rev):Bool:=!(decide (r.act=5)||decide (r.act=1))&&(if r.act=4 then decide (r.frm=b.path)&&decide (r.fnum=b.num) else decide (r.path=b.path)&&decide (wr (r.num-1)=b.num))
def jW (acc:List Rev) (r:Rev):List Rev:=if rO ((acc.getLast?).getD ag) r then acc++[r] else acc
def lZ (d:aW) (f:bJ):List Rev:=match iE d f.path f.num with|some v=>if v.act=1 then d.revs.foldl jW [v] else []|none=>[]
section
variable {d:aW} (hg:Good d.revs) (hN:d.revs.length≤512)
include hg hN
theorem BK {k:Nat} {r b:Rev} (hr:d.revs[k]? =some r):rO b r=true↔¬r.act=5∧¬r.act=1∧di r=fileOf b:=by
 have hn:=hg.num k r hr
 have hk:=(adK.1 hr).1
 have hw:wr (r.num-1)=r.num-1:=O8 (by omega) (by omega)
 unfold rO di fileOf
 rw[hw]
 by_cases h5:r.act=5
 ·simp[h5]
 by_cases h1:r.act=1
 ·simp[h1]
 by_cases h4:r.act=4
 ·simp[h4]
 ·simp[h5,h1,h4]
theorem ug {k j:Nat} {r b:Rev} (hr:d.revs[k]? =some r) (hb:d.revs[j]? =some b) (r5:¬r.act=5) (r1:¬r.act=1) (h:di r=fileOf b):first d r=first d b∧j<k:=by
 have hp:gB d r=some b:=by
  rw[BI hg hN hr r1]
  exact(dL hg).2 ⟨j,hb,by rw[h]⟩
 have hc:b.chg<r.chg∧j<k:=by
  by_cases h4:r.act=4
  ·obtain⟨i,u,h1,h2,h3,h5,_,_,h6⟩:=hg.mov k r hr h4
   have e:fileOf u=fileOf b:=by rw[←h];simp[di,h4,fileOf,h3,h5]
   have:=bP hg h2 hb e
   subst this;rw[h2] at hb;cases hb;exact⟨h6,h1⟩
  ·obtain⟨i,u,h1,h2,h3,h5,_,_,h6⟩:=hg.prv k r hr r1 h4
   have e:fileOf u=fileOf b:=by rw[←h];simp[di,h4,r1,fileOf,h3,h5]
   have:=bP hg h2 hb e
   subst this;rw[h2] at hb;cases hb;exact⟨h6,h1⟩
 exact⟨qj hp hc.1,hc.2⟩
theorem QL {k:Nat} {r:Rev} (hr:d.revs[k]? =some r) (r1:¬r.act=1):∃(j:Nat) (u:Rev),j<k∧d.revs[j]? =some u∧di r=fileOf u∧¬u.act=5:=by
 by_cases h4:r.act=4
 ·obtain⟨i,u,h1,h2,h3,h5,_,h7,h6⟩:=hg.mov k r hr h4
  exact⟨i,u,h1,h2,by simp[di,h4,fileOf,h3,h5],h7⟩
 ·obtain⟨i,u,h1,h2,h3,h5,_,h7,h6⟩:=hg.prv k r hr r1 h4
  exact⟨i,u,h1,h2,by simp[di,h4,r1,fileOf,h3,h5],h7⟩
def qf (d:aW) (f:bJ) (u:Rev):Bool:=decide (¬u.act=5∧¬u.act=1∧first d u=f)
theorem I9 {f:bJ} {iv:Nat} {v:Rev} (hv:d.revs[iv]? =some v) (hf:fileOf v=f) (v1:v.act=1):∀k,k≤d.revs.length→(d.revs.take k).foldl jW [v]=v::(d.revs.take k).filter (qf d f)
 |0,_=>by simp
 |k+1,hk=>by
  have ih:=I9 hv hf v1 k (by omega)
  obtain⟨r,hr⟩:∃r,d.revs[k]? =some r:=⟨_,adH (by omega)⟩
  have ht:d.revs.take (k+1)=d.revs.take k++[r]:=by rw[ajC,hr];rfl
  have hfv:first d v=f:=by rw[fM (iI v1)];exact hf
  rw[ht,aj9,ih,ahk,List.foldl_cons,List.foldl_nil]
  have key:rO (((v::(d.revs.take k).filter (qf d f)).getLast?).getD ag) r=qf d f r:=by
   obtain⟨b,jb,hb,hlast,hbv,hmax⟩:∃(b:Rev) (jb:Nat),d.revs[jb]? =some b∧(v::(d.revs.take k).filter (qf d f)).getLast? =some b∧(¬b.act=5∧first d b=f)∧
    ((b=v∧∀(i:Nat) (u:Rev),i<k→d.revs[i]? =some u→qf d f u=false)∨(qf d f b=true∧∀(i:Nat) (u:Rev),i<k→d.revs[i]? =some u→qf d f u=true→i≤jb)):=by
    rw[List.getLast?_cons]
    obtain⟨h1,h2⟩:=Ky (qf d f) (d.revs.take k)
    cases hl:((d.revs.take k).filter (qf d f)).getLast? with
    |none=>
     refine⟨v,iv,hv,rfl,⟨by omega,hfv⟩, .inl ⟨rfl,fun i u hi hu=>h2 hl u ?_⟩⟩
     exact aem (i:=i) (by rw[ag2,if_pos hi];exact hu)
    |some b=>
     obtain⟨j,g1,g2,g3⟩:=h1 b hl
     have hjk:j<k:=by have:=(adK.1 g1).1;simp at this;omega
     rw[ag2,if_pos hjk] at g1
     have g2':=g2
     simp only[qf,aeB] at g2'
     refine⟨b,j,g1,rfl,⟨g2'.1,g2'.2.2⟩, .inr ⟨g2,fun i u hi hu hp=>g3 i u ?_ hp⟩⟩
     rw[ag2,if_pos hi];exact hu
   rw[hlast,Option.getD_some,ajx,BK hg hN hr]
   simp only[qf,aeB]
   constructor
   ·rintro⟨r5,r1,e⟩
    exact⟨r5,r1,(ug hg hN hr hb r5 r1 e).1.trans hbv.2⟩
   ·rintro⟨r5,r1,e⟩
    refine⟨r5,r1,?_⟩
    obtain⟨j,u,hj,hu,eu,u5⟩:=QL hg hN hr r1
    have hfu:first d u=f:=by rw[←(ug hg hN hr hu r5 r1 eu).1];exact e
    rw[eu]
    by_cases u1:u.act=1
    ·have huv:u=v:=by
      have e1:fileOf u=fileOf v:=by rw[fM (iI u1)] at hfu;rw[hfu,hf]
      have:=bP hg hu hv e1
      subst this;rw[hu] at hv;exact Option.some.inj hv
     rcases hmax with⟨hbv2,_⟩|⟨hbl,hm⟩
     ·rw[huv,hbv2]
     ·exfalso
      simp only[qf,aeB] at hbl
      have hjb:jb<k:=by
       rcases ajE jb k with h|h
       ·exact h
       ·exfalso
        have hmem:b∈(v::(d.revs.take k).filter (qf d f)):=List.mem_of_getLast? hlast
        rcases afr.1 hmem with rfl|hmem
        ·exact hbl.2.1 v1
        ·obtain⟨i,hi⟩:=af7 (ahI.1 hmem).1
         have hik:i<k:=by have:=(adK.1 hi).1;simp at this;omega
         rw[ag2,if_pos hik] at hi
         have:=bP hg hi hb rfl
         omega
      obtain⟨k',w,w1,w2,w3,w4,w5,w6⟩:=wU hg hN hjb hb hr hbl.1 r5 (hbl.2.2.trans e.symm)
      have e2:fileOf w=fileOf u:=by rw[w5,eu]
      have hkj:=bP hg w3 hu e2
      subst hkj
      rcases ajE jb k' with hlt|hge
      ·obtain⟨k2,w',_,_,_,_,q5,_⟩:=wU hg hN hlt hb hu hbl.1 u5 (hbl.2.2.trans hfu.symm)
       have:(di u)=uI:=by simp[di,u1]
       rename_i hw' _ _
       rw[this] at q5
       have:=hg.num k2 w' (by assumption)
       have h0:w'.num=0:=congrArg bJ.num q5
       omega
      ·have:jb=k':=by omega
       subst this
       rw[hb] at hu;cases hu;exact hbl.2.1 u1
    ·have hul:qf d f u=true:=by simp only[qf,aeB];exact⟨u5,u1,hfu⟩
     rcases hmax with⟨_,hm⟩|⟨hbl,hm⟩
     ·rw[hm j u hj hu] at hul;cases hul
     ·have h1:=hm j u hj hu hul
      have hbl':=hbl
      simp only[qf,aeB] at hbl
      have hjb:jb<k:=by
       rcases ajE jb k with h|h
       ·exact h
       ·exfalso
        have hmem:b∈(v::(d.revs.take k).filter (qf d f)):=List.mem_of_getLast? hlast
        rcases afr.1 hmem with rfl|hmem
        ·exact hbl.2.1 v1
        ·obtain⟨i,hi⟩:=af7 (ahI.1 hmem).1
         have hik:i<k:=by have:=(adK.1 hi).1;simp at this;omega
         rw[ag2,if_pos hik] at hi
         have:=bP hg hi hb rfl
         omega
      obtain⟨k',w,w1,w2,w3,w4,w5,w6⟩:=wU hg hN hjb hb hr hbl.1 r5 (hbl.2.2.trans e.symm)
      have e2:fileOf w=fileOf u:=by rw[w5,eu]
      have hkj:=bP hg w3 hu e2
      subst hkj
      have:jb=k':=by omega
      subst this
      rw[hb] at hu;cases hu;rfl
  rw[jW,key]
  cases h:qf d f r with
  |true=>simp[h]
  |false=>simp[h]
theorem yG {f:bJ} {u:Rev}:u∈lZ d f↔u∈d.revs∧¬u.act=5∧first d u=f:=by
 unfold lZ
 have hfirst:∀(n k:Nat) (u:Rev),k<n→d.revs[k]? =some u→¬u.act=5→∃(j:Nat) (v:Rev),d.revs[j]? =some v∧v.act=1∧fileOf v=first d u:=by
  intro n
  induction n with
  |zero=>intro k u hk;omega
  |succ n ih=>
   intro k u hk hu u5
   by_cases u1:u.act=1
   ·exact⟨k,u,hu,u1,(fM (iI u1)).symm⟩
   ·obtain⟨j,w,hj,hw,ew,w5⟩:=QL hg hN hu u1
    obtain⟨i,v,h1,h2,h3⟩:=ih j w (by omega) hw w5
    exact⟨i,v,h1,h2,by rw[h3,(ug hg hN hu hw u5 u1 ew).1]⟩
 constructor
 ·intro h
  cases hgt:iE d f.path f.num with
  |none=>rw[hgt] at h;simp at h
  |some v=>
   rw[hgt] at h
   simp only at h
   split at h
   ·rename_i v1
    obtain⟨iv,hv,ev⟩:=(dL hg).1 hgt
    have ht:=I9 hg hN hv ev v1 d.revs.length (afJ _)
    rw[afu] at ht
    rw[ht] at h
    rcases afr.1 h with rfl|h
    ·exact⟨aem hv,by omega,by rw[fM (iI v1)];exact ev⟩
    ·obtain⟨h1,h2⟩:=ahI.1 h
     simp only[qf,aeB] at h2
     exact⟨h1,h2.1,h2.2.2⟩
   ·simp at h
 ·rintro⟨h1,u5,hf⟩
  obtain⟨k,hk⟩:=af7 h1
  obtain⟨iv,v,hv,v1,ev⟩:=hfirst (k+1) k u (by omega) hk u5
  rw[hf] at ev
  rw[(dL hg).2 ⟨iv,hv,ev⟩]
  simp only[v1,if_true]
  have ht:=I9 hg hN hv ev v1 d.revs.length (afJ _)
  rw[afu] at ht
  rw[ht]
  by_cases u1:u.act=1
  ·have e1:fileOf u=fileOf v:=by rw[fM (iI u1)] at hf;rw[hf,ev]
   have:=bP hg hk hv e1
   subst this;rw[hk] at hv;cases hv;simp
  ·exact ajl _ (ahI.2 ⟨h1,by simp only[qf,aeB];exact⟨u5,u1,hf⟩⟩)
end
structure jo where
 kind:Int
 lpath:akK
 lnum:Int
 frm:akK
 first:Int
 last:Int
 to:akK
 head:Int
 bpath:akK
 bnum:Int
 move:akK
structure y9 where
 base:Int
 kw:Bool
 ex:Bool
 xe:Bool
 sum:Int
 size:Int
 mv:Bool
@[reducible] def ik (t:jo):List D:=[.v (.int .i64 t.kind), .v (.string t.lpath), .v (.int .i64 t.lnum), .v (.string t.frm), .v (.int .i64 t.first), .v (.int .i64 t.last), .v (.string t.to), .v (.int .i64 t.head), .v (.string t.bpath), .v (.int .i64 t.bnum), .v (.string t.move)]
@[reducible] def Z8 (t:jo):AV:= .agg ((ik t).map C.d)
@[reducible] def Ai (w:y9):List D:=[.v (.int .i64 w.base), .v (.bool w.kw), .v (.bool w.ex), .v (.bool w.xe), .v (.int .u64 w.sum), .v (.int .i64 w.size), .v (.bool w.mv)]
@[reducible] def PT (w:y9):AV:= .agg ((Ai w).map C.d)
@[reducible] def Dn (d:aW) (t:jo) (s h:Rev):List D:=iY d++ik t++aA s++aA h
def jo.line (t:jo):bJ:=⟨t.lpath,t.lnum⟩
@[reducible] def noS:akK:={data:= #[]}
def eX (p:akK):Bool:=(aG p).isSome&&decide (p.size≤200)
def yf (d:aW) (p:akK) (n:Int):Option bJ:=(kY d p n).map (first d)
def OE (d:aW) (t:jo):Prop:=∀n:Int,t.first≤n→n≤t.last→yf d t.frm n=some t.line
def fH (d:aW) (t:jo):Rev:=(iE d t.frm t.last).getD ag
def dK (d:aW) (t:jo):Rev:=(aU d t.to).getD ag
def MF (d:aW) (t:jo):Bool:=decide ((fH d t).act=3)
def V5 (d:aW) (t:jo):Bool:=decide (t.move=noS)||(eX t.move&&!live d t.move&&!decide (t.move=t.to))
def zt (d:aW) (t:jo):Bool:=if t.kind=1 then !live d t.to&&!MF d t&&decide (t.move=noS) else live d t.to&&!decide (yf d t.to t.head=some t.line)&&(MF d t==decide (t.kind=3))&&V5 d t
structure Fits (d:aW) (t:jo):Prop where
 kind:1≤t.kind∧t.kind≤3
 lo:1≤t.first
 le:t.first≤t.last
 run:OE d t
 use:eX t.to=true
 head:bf d t.to=t.head
 rest:zt d t=true
open Classical in
noncomputable def mf (d:aW) (t:jo):Bool:=decide (Fits d t)
def iD (k ch:Int):Bool:=if k=1 then decide (ch=2) else if k=3 then decide (ch=1)||decide (ch=2) else decide (1≤ch)&&decide (ch≤4)
def lC (t:jo) (ch:Int) (w:y9):Bool:=!(w.mv&&(decide (t.move=noS)||decide (ch=1)||decide (t.kind=3)))&&(if ch=3∨ch=4 then !gQ w.base w.kw w.xe&&decide (0≤w.size) else true)
def gU (d:aW) (t:jo) (ch:Int) (w:y9):ou×Int:=
 let s:=fH d t
 let h:=dK d t
 let mk:=fun(a:Int) (v:Rev) (sm sz:Int)=>(⟨t.to,a,v.base,v.kw,v.ex,v.xe,sm,sz,t.head,noS,0,0⟩:ou)
 if t.kind=1 then(mk 1 s s.sum s.size,1)
 else if ch=1 then(mk 2 h h.sum h.size,3)
 else if t.kind=3 then(mk 3 h 0 0,1)
 else if ch=2 then(mk 2 s s.sum s.size,1)
 else(⟨t.to,2,w.base,w.kw,w.ex,w.xe,w.sum,w.size,t.head,noS,0,0⟩,if ch=4 then 4 else 2)
def eP (d:aW) (t:jo):ou:=⟨t.to,5,(dK d t).base,(dK d t).kw,(dK d t).ex,(dK d t).xe,0,0,t.head,noS,0,0⟩
def dW (d:aW) (t:jo) (e:ou):ou:=⟨t.move,4,e.base,e.kw,e.ex,e.xe,e.sum,e.size,bf d t.move,t.to,t.head,e.fence⟩
def MG (d:aW) (t:jo) (e:ou):List ou:=if ord t.to t.move<0 then [eP d t,dW d t e] else [dW d t e,eP d t]
def iy (d:aW) (t:jo) (ch:Int) (w:y9):List ou:=if w.mv then MG d t (gU d t ch w).1 else [(gU d t ch w).1]
def dI (d:aW) (t:jo) (ch:Int) (w:y9):dZ:=⟨t.frm,t.first,t.last,if w.mv then t.move else t.to,if w.mv then bf d t.move+1 else t.head+1,(gU d t ch w).2⟩
@[reducible] def VM:Bool×List C:=(false,[.d (.v (.slice none 0 0))])
noncomputable def Qw (d:aW) (t:jo) (ch:Int) (w:y9):AV:=
 if mf d t then
  if iD t.kind ch&&lC t ch w then .tup [(false,[.d (.ps 12 ((iy d t ch w).map bK))]),(false,[.d (.ps 6 [af (dI d t ch w)])]),pI 0]
  else .tup [VM,VM,pI 171]
 else .tup [VM,VM,pI 170]
def rM (d:aW):Prop:=∀v∈d.revs,v.num≤(log d v.path).length
theorem rM.last {d:aW} (h:rM d) (p:akK):bf d p≤(log d p).length:=by
 unfold bf
 cases hl:aU d p with
 |none=>simp[ag]
 |some v=>
  obtain⟨j,h1,h2,_⟩:=gZ hl
  have:=h v (aem h1)
  rw[h2] at this;exact this
theorem ND {d:aW} {c:iZ} (hg:Good d.revs) (hN:d.revs.length≤512) (h:rM d) (hk:pG d c):rM (eG d c):=by
 intro v hv
 have hlog:(log (eG d c) v.path).length=(log d v.path).length+((c.edits.map (made c)).filter fun u=>decide (u.path=v.path)).length:=by
  simp only[log,eG,ahk,afI]
 simp only[eG,afs] at hv
 rcases hv with hv|hv
 ·have:=h v hv;rw[hlog];omega
 ·have hpos:0<((c.edits.map (made c)).filter fun u=>decide (u.path=v.path)).length:=List.length_pos_of_mem (ahI.2 ⟨hv,by simp⟩)
  obtain⟨e,he,rfl⟩:=agh.1 hv
  obtain⟨i,hi,e2⟩:=ahN.1 he
  have hE:=hk.edit i hi
  rw[show c.edits.getD i bZ=e by simp[List.getD,hi,e2]] at hE
  have h1:=hE.okPrev
  have h2:=jV hg e.path
  have h3:=h.last e.path
  have hw:wr (e.prev+1)=e.prev+1:=O8 (by omega) (by omega)
  rw[hlog]
  simp only[made] at hpos⊢
  rw[hw]
  omega
theorem gY.afm {l:List iZ} {d:aW} (h:gY l d):rM d:=by
 induction h with
 |nil=>intro r hr;simp[Ee] at hr
 |skip c h ih=>exact ih
 |app h hc hk ih=>exact ND h.good h.ok.1 ih hk
theorem lY {d:aW} (hg:Good d.revs) {p:akK} {n:Int} {f:bJ}:yf d p n=some f↔∃(j:Nat) (v:Rev),d.revs[j]? =some v∧fileOf v=⟨p,n⟩∧¬v.act=5∧first d v=f:=by
 simp only[yf,ahL]
 constructor
 ·rintro⟨v,h1,h2⟩
  obtain⟨j,a,b,c⟩:=(gJ hg (f:=⟨p,n⟩)).1 h1
  exact⟨j,v,a,b,c,h2⟩
 ·rintro⟨j,v,a,b,c,e⟩
  exact⟨v,(gJ hg (f:=⟨p,n⟩)).2 ⟨j,a,b,c⟩,e⟩
theorem Lm {d:aW} (hg:Good d.revs) (hN:d.revs.length≤512) {p:akK} {n:Int} {f:bJ}:yf d p n=some f↔(⟨p,n⟩:bJ)∈(lZ d f).map fileOf:=by
 rw[lY hg,agh]
 constructor
 ·rintro⟨j,v,a,b,c,e⟩
  exact⟨v,(yG hg hN).2 ⟨aem a,c,e⟩,b⟩
 ·rintro⟨v,h,b⟩
  obtain⟨h1,h2,h3⟩:=(yG hg hN).1 h
  obtain⟨j,hj⟩:=af7 h1
  exact⟨j,v,hj,b,h2,h3⟩
theorem P6 {d:aW} (hg:Good d.revs) (hn:rM d) {p:akK} {n:Int} {f:bJ} (h:yf d p n=some f):1≤n∧n≤(log d p).length∧n≤d.revs.length:=by
 obtain⟨j,v,a,b,c,e⟩:=(lY hg).1 h
 have h1:=hg.num j v a
 have h2:=hn v (aem a)
 have hj:=(adK.1 a).1
 have b1:v.path=p:=congrArg bJ.path b
 have b2:v.num=n:=congrArg bJ.num b
 rw[b1] at h2
 omega
theorem UT {d:aW} (hg:Good d.revs) (hn:rM d) {t:jo} (h1:t.first≤t.last) (h:OE d t):1≤t.first∧t.last≤(log d t.frm).length∧t.last≤d.revs.length:=by
 have a:=P6 hg hn (h t.first (by omega) (by omega))
 have b:=P6 hg hn (h t.last (by omega) (by omega))
 omega
@[reducible] def xW (n:Int):List D:=[.v (.int .i64 n)]
def Lc (k:Int):List Int:=if k=1 then [2] else if k=3 then [1,2] else [1,2,3,4]
theorem aet (k ch:Int) (h:1≤k∧k≤3):(Lc k).any (fun c=>decide (c=ch))=iD k ch:=by
 unfold Lc iD
 by_cases h1:k=1
 ·rw[if_pos h1,if_pos h1,ajx];simp;omega
 ·rw[if_neg h1,if_neg h1]
  by_cases h3:k=3
  ·rw[if_pos h3,if_pos h3,ajx];simp;omega
  ·rw[if_neg h3,if_neg h3,ajx];simp;omega
theorem PP (k:Int):(Lc k).length≤4:=by
 unfold Lc
 split
 ·simp
 ·split<;>simp
def Vx (d:aW):Prop:=∀r∈d.recs,∃v∈d.revs,fileOf v=⟨r.to,r.num⟩
theorem TA {d:aW} {c:iZ} (h:Vx d) (hk:pG d c):Vx (eG d c):=by
 intro r hr
 simp only[eG,xq,afs] at hr
 rcases hr with hr|hr
 ·obtain⟨v,h1,h2⟩:=h r hr
  exact⟨v,by simp[eG,h1],h2⟩
 ·obtain⟨j,hj,er⟩:=ahN.1 hr
  have h0:=hk.recd j hj
  rw[show c.recs.getD j dS=r by simp[List.getD,hj,er]] at h0
  obtain⟨x,hx,⟨t1,t2,t3⟩,_⟩:=h0.okTgt
  exact⟨made c x,by simp only[eG,afs,agh];exact .inr ⟨x,hx,rfl⟩,by simp only[fileOf,made,t1,t2]⟩
theorem gY.to {l:List iZ} {d:aW} (h:gY l d):Vx d:=by
 induction h with
 |nil=>intro r hr;simp[Ee] at hr
 |skip c h ih=>exact ih
 |app h hc hk ih=>exact TA ih hk
section
variable {d:aW} {c:iZ} (hg:Good d.revs) (hN:d.revs.length≤512) (hk:pG d c)
include hg hN hk
theorem Eg (ht:Vx d) {a:Nat} (ha:a<c.edits.length) (r:dZ):r∈jF (eG d c) (fileOf (made c (c.edits.getD a bZ)))↔r∈c.recs∧(⟨r.to,r.num⟩:bJ)=fileOf (made c (c.edits.getD a bZ)):=by
 simp only[jF,ahI,eG,xq,afs,aeB]
 constructor
 ·rintro⟨h|h,e⟩
  ·exfalso
   obtain⟨v,h1,h2⟩:=ht r h
   obtain⟨i,hi⟩:=af7 h1
   exact PX hg hN hk hi ha (h2.trans e)
  ·exact⟨h,e⟩
 ·rintro⟨h,e⟩;exact⟨.inr h,e⟩
end
theorem acC {d:aW} {v:Rev} {t x:bJ} (h:x∈Ib d v t):∃(j:Nat) (u:Rev),d.revs[j]? =some u∧fileOf u=x∧¬u.act=5∧first d u=first d v∧u.chg≤v.chg∧Open d t u:=by
 rw[Ib] at h
 obtain⟨u,hu,rfl⟩:=agh.1 h
 obtain⟨h1,h2⟩:=ahI.1 hu
 simp only[aeB] at h2
 obtain⟨j,hj⟩:=af7 h1
 exact⟨j,u,hj,rfl,h2⟩
theorem PM {l:List Rev} (h:l.Pairwise fun u v=>u.num<v.num):∀{j i:Nat} {u v:Rev},i≤j→l[i]? =some u→l[j]? =some v→u.num+((j:Int)-i)≤v.num
 |0,i,u,v,hij,hu,hv=>by
  have:i=0:=by omega
  subst this;rw[hu] at hv;cases hv;omega
 |j+1,i,u,v,hij,hu,hv=>by
  by_cases e:i=j+1
  ·subst e;rw[hu] at hv;cases hv;omega
  ·obtain⟨hj,ev⟩:=adK.1 hv
   have hw:l[j]? =some l[j]:=adH (by omega)
   have ih:=PM h (j:=j) (by omega) hu hw
   have:=(ajV.1 h) j (j+1) (by omega) hj (by omega)
   rw[ev] at this
   omega
theorem acx {d:aW} (hg:Good d.revs) (p:akK):(log d p).Pairwise fun u v=>u.num<v.num:=by
 have h0:d.revs.Pairwise fun u v=>u.path=v.path→u.num<v.num:=
  ajV.2 fun i j hi hj hij e=>(hg.path i j _ _ hij (adH hi) (adH hj) e).2
 refine(h0.filter (fun v=>decide (v.path=p))).imp_of_mem ?_
 intro u v hu hv h
 have h1:=(ahI.1 hu).2
 have h2:=(ahI.1 hv).2
 simp only[aeB] at h1 h2
 exact h (by rw[h1,h2])
theorem ad4 {d:aW} (hg:Good d.revs) (hn:rM d) (p:akK) {i:Nat} {v:Rev} (hv:(log d p)[i]? =some v):v.num=(i:Int)+1:=by
 have hp:=acx hg p
 have hi:=(adK.1 hv).1
 have mem:∀{k:Nat} {u:Rev},(log d p)[k]? =some u→1≤u.num∧u.num≤(log d p).length:=by
  intro k u hu
  have hm:=aem hu
  obtain⟨h1,h2⟩:=ahI.1 hm
  simp only[aeB] at h2
  obtain⟨j,hj⟩:=af7 h1
  have:=hg.num j u hj
  have h3:=hn u h1
  rw[h2] at h3
  omega
 have h0:(log d p)[0]? =some (log d p)[0]:=adH (by omega)
 have hl:(log d p)[(log d p).length-1]? =some (log d p)[(log d p).length-1]:=adH (by omega)
 have a:=PM hp (by omega) h0 hv
 have b:=PM hp (by omega) hv hl
 have c:=mem h0
 have e:=mem hl
 omega
theorem Y9 {d:aW} (hg:Good d.revs) (hn:rM d) {p:akK} {n:Int} (h1:1≤n) (h2:n≤(log d p).length):∃v,iE d p n=some v:=by
 have hi:(n-1).toNat<(log d p).length:=by omega
 have hv:(log d p)[(n-1).toNat]? =some (log d p)[(n-1).toNat]:=adH hi
 have:=ad4 hg hn p hv
 cases hf:iE d p n with
 |some v=>exact⟨v,rfl⟩
 |none=>
  exfalso
  have h3:=List.find?_eq_none.1 hf _ (aem hv)
  simp only[aeB] at h3
  omega
def Xr (d:aW):Prop:=∀(k:Nat) (v:Rev),d.revs[k]? =some v→∀r∈jF d (fileOf v),1≤r.first∧r.first≤r.last∧1≤r.how∧r.how≤4∧
 ∀n,r.first≤n→n≤r.last→∃(j:Nat) (u:Rev),j<k∧d.revs[j]? =some u∧fileOf u=⟨r.frm,n⟩∧¬u.act=5
theorem Zk {d:aW} {c:iZ} (hg:Good d.revs) (hN:d.revs.length≤512) (ht:Vx d) (hn:rM d) (h:Xr d) (hk:pG d c):Xr (eG d c):=by
 intro k v hv r hr
 rcases ajE k d.revs.length with hlt|hge
 ·rw[uM hg hN hk hlt] at hv
  obtain⟨a1,a2,a3,a4,a5⟩:=h k v hv r ((Q9 hg hN hk hv r).1 hr)
  refine⟨a1,a2,a3,a4,fun n n1 n2=>?_⟩
  obtain⟨j,u,j1,j2,j3,j4⟩:=a5 n n1 n2
  exact⟨j,u,j1,by rw[uM hg hN hk (by omega)];exact j2,j3,j4⟩
 ·obtain⟨a,rfl⟩:∃a,k=d.revs.length+a:=⟨k-d.revs.length,by omega⟩
  have ha:a<c.edits.length:=by
   have:=(adK.1 hv).1
   simp only[eG,afI,ae1] at this;omega
  rw[yL hg hN hk ha] at hv
  cases hv
  obtain⟨hr1,_⟩:=(Eg hg hN hk ht ha r).1 hr
  obtain⟨j,hj,er⟩:=ahN.1 hr1
  have h0:=hk.recd j hj
  rw[show c.recs.getD j dS=r by simp[List.getD,hj,er]] at h0
  refine⟨h0.okLo,h0.okLe,h0.okHow.1,h0.okHow.2,fun n n1 n2=>?_⟩
  have hlo:=h0.okLo
  have hhi:=h0.okHi
  obtain⟨u,hu⟩:=Y9 hg hn (p:=r.frm) (n:=n) (by omega) (by omega)
  obtain⟨i,hi,ei⟩:=(dL hg).1 hu
  have hil:=(adK.1 hi).1
  refine⟨i,u,by omega,by rw[uM hg hN hk hil];exact hi,ei,?_⟩
  have:=(h0.okLine n n1 n2).1
  rwa [show oD d r.frm n=u by simp[oD,hu]] at this
theorem gY.src {l:List iZ} {d:aW} (h:gY l d):Xr d:=by
 induction h with
 |nil=>intro k v hv;simp[Ee] at hv
 |skip c h ih=>exact ih
 |app h hc hk ih=>exact Zk h.good h.ok.1 h.to h.afm ih hk
section
variable {d:aW} (hg:Good d.revs) (hS:Xr d)
include hg hS
end
end
section
open Go.Ab Tys
variable [Dr]
def z94.kk:=p8 kB kG Tryz.ntmps94 dM iF mG iq Tryz.results94
open z94 in
theorem PG (v:Rev):AC Tryz.prog 94 [BL v] [] (fun r st=>r=B (gone v)∧st=[]):=by
 refine df Tryz.func94 Tryz.ntmps94 fun x hx=>?_
 try refine nv ?_
 refine rA [] ?_
 refine⟨?_,rfl⟩
 simp[gone,cond_eq_ite]
def z43.kk:=MP kB kS Tryz.ntmps43 oG dM kQ kT jg fK mG xK iq jB Tryz.results43
open z43 in
theorem xC (v:Rev):AC Tryz.prog 43 [BL v] [] (fun r st=>r=BO (fileOf v)∧st=[]):=by
 refine df Tryz.func43 Tryz.ntmps43 fun x hx=>?_
 try refine nv ?_
 refine rA [] ?_
 refine⟨?_,rfl⟩
 simp[fileOf]
def z58.kk:=p2 (p16 kB kS Tryz.ntmps58 qM wY dM pY mJ jg fK yB iF nH xP Bj AP) (p16 A7 nR nM sN vC yE uP EU mG Au Gh iq y7 wo jB Tryz.results58)
open z58 in
theorem Iw (c:iZ) (e:ou):AC Tryz.prog 58 [Px c,Z7 e] [] (fun r st=>r=BL (made c e)∧st=[]):=by
 refine df Tryz.func58 Tryz.ntmps58 fun x hx=>?_
 (repeat (first|(with_reducible first|refine na ?_|refine nb ?_|refine nc ?_|refine nd ?_|refine ne ?_|refine nf ?_|refine ng ?_|refine nh ?_|refine ni ?_|refine nj ?_|refine nk ?_|refine nl ?_|refine nm (by decide) ?_|refine nn ?_)|refine dD (wr:=true) 400 (by simp only[kk,Nat.reduceAdd,Nat.reduceLT,Nat.reduceEqDiff, ↓reduceIte,reduceCtorEq];first|done|rfl) (by first|exact trivial|(simp only[kO];omega)|(simp[All,dB];first|done|omega)|(simp+contextual [All,dB];first|done|grind)) ?_))
 refine rA [] ?_
 refine⟨?_,rfl⟩
 simp[made,wr]
end
section
open Go.Ab
def dn:List UInt8→List (List UInt8)
 |[]=>[[]]
 |a::l=>if a=47 then []::dn l else match dn l with|[]=>[[a]]|h::t=>(a::h)::t
theorem je:∀l,∃h t,dn l=h::t
 |[]=>⟨[],[],rfl⟩
 |a::l=>by
  obtain⟨h,t,e⟩:=je l
  simp only[dn]
  split
  ·exact⟨_,_,rfl⟩
  ·rw[e];exact⟨_,_,rfl⟩
def y8:List UInt8→List UInt8→Int
 |[],[]=>0
 |[],_::_=> -1
 |_::_,[]=>1
 |a::l,b::m=>if a=b then y8 l m else if a=47 then-1 else if b=47 then 1 else if a<b then-1 else 1
def uT:List (List UInt8)→List (List UInt8)→Int
 |[],[]=>0
 |[],_::_=> -1
 |_::_,[]=>1
 |a::l,b::m=>if Lib.compareBytes a b=0 then uT l m else Lib.compareBytes a b
theorem JJ:∀l m:List UInt8,y8 l m=uT (dn l) (dn m)
 |[],[]=>by simp[y8,dn,uT,Lib.compareBytes]
 |[],b::m=>by
  obtain⟨h,t,e⟩:=je m
  simp only[y8,dn]
  split
  ·rw[e];simp[uT,Lib.compareBytes]
  ·rw[e];simp[uT,Lib.compareBytes]
 |a::l,[]=>by
  obtain⟨h,t,e⟩:=je l
  simp only[y8,dn]
  split
  ·rw[e];simp[uT,Lib.compareBytes]
  ·rw[e];simp[uT,Lib.compareBytes]
 |a::l,b::m=>by
  obtain⟨h1,t1,e1⟩:=je l
  obtain⟨h2,t2,e2⟩:=je m
  have ih:=JJ l m
  simp only[y8,dn]
  by_cases hab:a=b
  ·subst hab
   rw[if_pos rfl,ih]
   by_cases ha:a=47
   ·rw[if_pos ha,if_pos ha];simp[uT,Lib.compareBytes]
   ·have:¬a<a:=by simp
    rw[if_neg ha,if_neg ha,e1,e2]
    simp only[uT]
    rw[show Lib.compareBytes (a::h1) (a::h2)=Lib.compareBytes h1 h2 by rw[Lib.compareBytes,if_neg this,if_neg this]]
  ·rw[if_neg hab]
   by_cases ha:a=47
   ·have hb:¬b=47:=by rintro rfl;exact hab ha
    rw[if_pos ha,if_pos ha,if_neg hb,e2];simp[uT,Lib.compareBytes]
   ·rw[if_neg ha,if_neg ha]
    by_cases hb:b=47
    ·rw[if_pos hb,if_pos hb,e1];simp[uT,Lib.compareBytes]
    ·rw[if_neg hb,if_neg hb,e1,e2]
     simp only[uT]
     by_cases hl:a<b
     ·rw[if_pos hl,Lib.compareBytes,if_pos hl];simp
     ·have hg:b<a:=by
       simp only[UInt8.lt_iff_toNat_lt] at hl⊢
       have:a.toNat≠b.toNat:=fun h=>hab (UInt8.toNat_inj.1 h)
       omega
      rw[if_neg hl,Lib.compareBytes,if_neg hl,if_pos hg];simp
def Hl (l:List UInt8):akK:=⟨l.toArray⟩
theorem D5 (l:List UInt8):(Hl l).data.toList=l:=rfl
theorem ac6 (s:akK):Hl s.data.toList=s:=rfl
theorem wL:∀{pre:List UInt8},(∀x∈pre,x≠47)→dn pre=[pre]
 |[],_=>rfl
 |a::l,h=>by
  rw[dn,if_neg (h a (by simp)),wL fun x hx=>h x (by simp[hx])]
theorem yO:∀{pre post:List UInt8},(∀x∈pre,x≠47)→dn (pre++47::post)=pre::dn post
 |[],_,_=>by simp[dn]
 |a::l,post,h=>by
  rw[List.cons_append,dn,if_neg (h a (by simp)),yO fun x hx=>h x (by simp[hx])]
theorem RJ:∀l:List UInt8,(Lib.indexByte l 47<0∧∀x∈l,x≠47)∨∃pre post,l=pre++47::post∧Lib.indexByte l 47=pre.length∧∀x∈pre,x≠47
 |[]=> .inl ⟨by simp[Lib.indexByte],by simp⟩
 |a::l=>by
  by_cases ha:a=47
  ·subst ha;exact .inr ⟨[],l,rfl,by simp[Lib.indexByte],by simp⟩
  ·rcases RJ l with⟨h1,h2⟩|⟨pre,post,h1,h2,h3⟩
   ·refine .inl ⟨?_,?_⟩
    ·have:=Lib.indexByte_ge l 47
     have e:Lib.indexByte l 47= -1:=by omega
     simp[Lib.indexByte,ha,e]
    ·intro x hx
     rcases afr.1 hx with rfl|hx
     ·exact ha
     ·exact h2 x hx
   ·refine .inr ⟨a::pre,post,by rw[h1];rfl,?_,?_⟩
    ·have:¬(pre.length:Int)= -1:=by omega
     simp[Lib.indexByte,ha,h2,this]
    ·intro x hx
     rcases afr.1 hx with rfl|hx
     ·exact ha
     ·exact h3 x hx
theorem U5:∀(n:Nat) (l:List UInt8),Lib.countByte l 47≤n→splitN n (Hl l)=(dn l).map Hl
 |0,l,h=>by
  have:∀x∈l,x≠47:=by
   intro x hx e
   subst e
   have:=List.count_pos_iff.2 hx
   simp only[Lib.countByte] at h;omega
  rw[wL this];rfl
 |n+1,l,h=>by
  rcases RJ l with⟨h1,h2⟩|⟨pre,post,h1,h2,h3⟩
  ·rw[wL h2,KA (by simpa[uK,D5] using h1)];rfl
  ·have hi:uK (Hl l)=pre.length:=h2
   have hnn:¬uK (Hl l)<0:=by omega
   subst h1
   rw[yO h3,splitN,if_neg hnn,hi,agV]
   have hc:Lib.countByte post 47≤n:=by
    simp only[Lib.countByte] at h⊢
    rw[List.count_append,List.count_cons_self] at h;omega
   rw[←U5 n post hc]
   congr 1
   ·apply ByteArray.ext;rw[aj7];simp[Hl]
   ·congr 1
    apply ByteArray.ext;rw[aj7];simp[Hl,ByteArray.size];exact ahH (by omega)
theorem vU (s:akK):split s=(dn s.data.toList).map Hl:=U5 _ _ (afJ _)
theorem abS:∀a b:List (List UInt8),cmpL (a.map Hl) (b.map Hl)=uT a b
 |[],[]=>rfl
 |[],_::_=>rfl
 |_::_,[]=>rfl
 |a::l,b::m=>by
  simp only[agV,cmpL,uT,cb,D5,abS l m]
theorem lL {p:akK} {k:Nat} (hk:k<p.size):∃x,p.data.toList[k]? =some x∧byteAt p k=(x.toNat:Int):=by
 have h:k<p.data.size:=hk
 exact⟨p.data[k],by simp[h],by simp[byteAt,Array.getD,h,hk]⟩
theorem wR {p:akK} {k:Nat} {x:UInt8} (hx:p.data.toList[k]? =some x):byteAt p k=47↔x=47:=by
 have hk:k<p.size:=by have:=(adK.1 hx).1;simpa using this
 obtain⟨y,h1,h2⟩:=lL hk
 rw[hx] at h1;cases h1
 rw[h2]
 constructor
 ·intro h;exact UInt8.toNat_inj.1 (by simpa using(by omega:x.toNat=47))
 ·rintro rfl;rfl
theorem IU (p:akK) (b i:Nat):Hl ((p.data.toList.drop b).take (i-b))=p.extract b i:=by
 apply ByteArray.ext
 rw[aj7]
 simp only[Hl]
 apply Array.ext'
 simp[List.extract,List.drop_take]
def vB (p:akK) (c b:Nat):Bool:=if b≤p.size then(dn (p.data.toList.drop b)).all (fun x=>comp (Hl x))&&decide (2≤c+(dn (p.data.toList.drop b)).length) else decide (2≤c)
theorem adT {p:akK} {c b i:Nat} (hb:b≤i) (hi:i≤p.size) (hno:∀k,b≤k→k<i→byteAt p k≠47) (hst:i=p.size∨(i<p.size∧byteAt p i=47)):
 vB p c b=(comp (p.extract b i)&&vB p (c+1) (i+1)):=by
 have hn:∀x∈(p.data.toList.drop b).take (i-b),x≠47:=by
  intro x hx e
  obtain⟨k,hk⟩:=af7 hx
  have hkl:=(adK.1 hk).1
  simp at hkl
  rw[ag2,if_pos (by omega),ajn] at hk
  exact hno (b+k) (by omega) (by omega) ((wR hk).2 e)
 rw[←IU]
 unfold vB
 rw[if_pos (by omega)]
 rcases hst with h|⟨h,h47⟩
 ·have hall:(p.data.toList.drop b).take (i-b)=p.data.toList.drop b:=ahH (by have:p.data.size=p.size:=rfl;simp;omega)
  rw[hall] at hn⊢
  rw[wL hn,if_neg (by omega)]
  simp
 ·obtain⟨x,hx,_⟩:=lL h
  have hx47:=(wR hx).1 h47
  subst hx47
  have e:p.data.toList.drop b=(p.data.toList.drop b).take (i-b)++47::p.data.toList.drop (i+1):=by
   have h1:(p.data.toList.drop b).drop (i-b)=47::p.data.toList.drop (i+1):=by
    rw[List.drop_drop,show b+(i-b)=i by omega,ajF,hx];rfl
   conv=>lhs;rw[←agu (i-b) (p.data.toList.drop b),h1]
  have e2:dn (p.data.toList.drop b)=(p.data.toList.drop b).take (i-b)::dn (p.data.toList.drop (i+1)):=by
   conv=>lhs;rw[e]
   exact yO hn
  rw[e2,if_pos (by omega),List.all_cons,List.length_cons,Bool.and_assoc,show c+1+(dn (p.data.toList.drop (i+1))).length=c+((dn (p.data.toList.drop (i+1))).length+1) by omega]
theorem acU {p:akK} (h:hasPrefix p fD=true):(aG p).isSome=vB p 0 2:=by
 have h2:2≤p.size:=by
  exact agw (Bool.and_eq_true_iff.1 h).1
 have hb:(p.extract 2 p.size).data.toList=p.data.toList.drop 2:=by
  rw[←IU,D5]
  exact ahH (by simp)
 have hs:split (p.extract 2 p.size)=(dn (p.data.toList.drop 2)).map Hl:=by rw[vU,hb]
 unfold aG jm vB
 rw[if_pos h,if_pos h2,hs,List.all_map]
 cases ha:(dn (p.data.toList.drop 2)).all fun x=>comp (Hl x) with
 |true=>
  rw[if_pos (by simpa[Function.comp] using ha)]
  simp only[ae1,ajq,ajR]
  by_cases hl:(dn (p.data.toList.drop 2)).length<2
  ·rw[if_pos hl];symm;simp;omega
  ·rw[if_neg hl];symm;simp;omega
 |false=>
  rw[if_neg (by simpa[Function.comp] using ha)]
  simp
theorem BX {p:akK} (h:hasPrefix p fD=false):(aG p).isSome=false:=by
 simp[aG,jm,h]
theorem acj {p q:akK} (hp:(aG p).isSome=true) (hq:(aG q).isSome=true):y8 p.data.toList q.data.toList=ord p q:=by
 have key:∀{p:akK},(aG p).isSome=true→∃l,p.data.toList=47::47::l∧aG p=some ((dn l).map Hl):=by
  intro p hp
  have hpre:hasPrefix p fD=true:=by
   cases h:hasPrefix p fD with
   |true=>rfl
   |false=>rw[BX h] at hp;cases hp
  have h2:2≤p.size:=by
   exact agw (Bool.and_eq_true_iff.1 hpre).1
  have hext:p.extract 0 2=fD:=by
   have:=(Bool.and_eq_true_iff.1 hpre).2
   exact agw this
  have hb:(p.extract 2 p.size).data.toList=p.data.toList.drop 2:=by
   rw[←IU,D5]
   exact ahH (by simp)
  refine⟨p.data.toList.drop 2,?_,?_⟩
  ·have:(p.data.toList.drop 0).take (2-0)=[47,47]:=by
    have:=IU p 0 2
    rw[hext] at this
    have:=congrArg (fun b:akK=>b.data.toList) this
    simpa[Hl] using this
   conv=>lhs;rw[←agu 2 p.data.toList]
   rw[show p.data.toList.take 2=[47,47] by simpa using this];rfl
  ·have hs:split (p.extract 2 p.size)=(dn (p.data.toList.drop 2)).map Hl:=by rw[vU,hb]
   unfold aG jm at hp⊢
   rw[if_pos hpre,hs] at hp⊢
   by_cases ha:((dn (p.data.toList.drop 2)).map Hl).all comp=true
   ·rw[if_pos ha] at hp⊢
    simp only at hp⊢
    split
    ·rename_i hl;rw[if_pos hl] at hp;cases hp
    ·rfl
   ·rw[if_neg ha] at hp;cases hp
 obtain⟨l,e1,p1⟩:=key hp
 obtain⟨m,e2,p2⟩:=key hq
 rw[e1,e2]
 have:y8 (47::47::l) (47::47::m)=y8 l m:=by simp[y8]
 rw[this,JJ]
 unfold ord
 rw[p1,p2]
 exact(abS _ _).symm
end
end Go.Proofs.YtcpgicfphakdaaaGreatDoor
namespace Go.Ab
variable [Dr]
section
variable {P:Program} {x:X}
theorem Ti {Q:Exit→S→Prop} {s:S} {ops l:List Oper} {d:Tmp} {T T' e:TypeId} {y:Operand} {ty:TypeId} {pos:String} {after:Array Edge} {sz:Nat} {xs:List (List D)} (hd:d<s.n)
 (hT:P.underlying T=some (.slice e)) (hy:ev s y=some (.c (.d (.ps sz xs)))) (hx:xs≠[])
 (hk:TO P x ops l ⟨s.n,put s.env d (B false),s.st⟩ Q):TO P x ops (⟨some d, .binOp .eql T y (.const (.slice none 0 0)) T',ty,pos,after,none⟩::l) s Q:=by
 rintro a w ⟨bl,cap,hs,henv,hdf,hsz⟩
 have h1:cO _ _ (.ps sz xs) (a.eval y):=fC henv hy
 refine wpList_plain rfl fun K hK=>?_
 unfold Oper.wp
 have h2:a.eval (.const (.slice none 0 0))= .slice none 0 0:=rfl
 have hrun:(execOp a.eval ⟨some d, .binOp .eql T y (.const (.slice none 0 0)) T',ty,pos,after,none⟩).run P w= .ok (.value (.bool false)) w:=by
  have h3:∃u,u=a.eval y:=⟨_,rfl⟩
  obtain⟨u,hu⟩:=h3
  rw[←hu] at h1
  cases h1 with
  |nil=>exact absurd rfl hx
  |ps _ _ b o cp f hM hl2 hc hrr hcap hb=>
   have e1:(Op.equal T (.slice (some ⟨b,o,none⟩) xs.length cp) (.slice none 0 0)).run P w= .ok false w:=by
    show(Op.equalIn (9999+1) T _ _).run P w=_
    rw[Op.equalIn]
    simp[run_underlying hT]
   have e2:(binOp .eql T (.slice (some ⟨b,o,none⟩) xs.length cp) (.slice none 0 0)).run P w= .ok (.bool false) w:=by
    show(Value.bool <$> Op.equal T _ _:Sem Value).run P w=_
    simp[e1]
   simp[execOp,h2,eqGuard,←hu,e2]
 rw[hrun]
 exact hK _ _ (hk _ _ ⟨bl,cap,hs,henv.put (by rw[hsz];exact hd) (.v _ rfl),by rw[Act.put_defers];exact hdf,by rw[Act.iL];exact hsz⟩)
end
end Go.Ab
namespace Go.Proofs.YtcpgicfphakdaaaGreatDoor
open Go.Ab
theorem XQ (d:aW) (p:akK):live d p=((aU d p).isSome&&!gone ((aU d p).getD ag)):=by
 unfold live
 cases aU d p<;>simp
def mD (k:Int) (s:Rev) (lv on:Bool):Bool:=if k=1 then !lv&&!decide (s.act=3) else if k=2 then lv&&!on&&!decide (s.act=3) else if k=3 then lv&&!on&&decide (s.act=3) else false
def zO (d:aW) (t:jo):Bool:=decide (t.move=noS)||(!decide (t.kind=1)&&eX t.move&&!decide (t.move=t.to)&&!live d t.move)
theorem XI:∀(l acc:List Rev),(l.foldl jW acc).length≤acc.length+l.length
 |[],acc=>by simp
 |r::l,acc=>by
  have:=XI l (jW acc r)
  have h2:(jW acc r).length≤acc.length+1:=by unfold jW;split<;>simp
  simp only[List.foldl_cons,List.length_cons];omega
theorem aff {d:aW} (hN:d.revs.length≤512) (f:bJ):(lZ d f).length≤600:=by
 unfold lZ
 split
 ·rename_i v _
  split
  ·have:=XI d.revs [v];simp at this;omega
  ·simp
 ·simp
theorem aap {k:Int} {s:Rev} {lv on on':Bool} (h:lv=true→on=on'):mD k s lv on=mD k s lv on':=by
 cases lv with
 |true=>rw[h rfl]
 |false=>simp[mD]
theorem aeH {d:aW} (hg:Good d.revs) (hN:d.revs.length≤512) {t:jo} {s:List bJ} (hs:∀f,f∈s↔f∈(lZ d t.line).map fileOf) (hh:bf d t.to=t.head) (hl:live d t.to=true):
 decide ((⟨(dK d t).path,(dK d t).num⟩:bJ)∈s)=decide (yf d t.to t.head=some t.line):=by
 unfold live at hl
 cases hv:aU d t.to with
 |none=>rw[hv] at hl;cases hl
 |some v=>
  obtain⟨j,h1,h2,_⟩:=gZ hv
  have e:dK d t=v:=by simp[dK,hv]
  have e2:v.num=t.head:=by rw[←hh];simp[bf,hv]
  rw[e,h2,e2,ajx,aeB,aeB,hs,Lm hg hN]
theorem adN {d:aW} {t:jo} (c1:1≤t.first) (c2:t.first≤t.last) (hu:eX t.to=true) (hr:OE d t) (hh:bf d t.to=t.head):
 mf d t=(mD t.kind (fH d t) (live d t.to) (decide (yf d t.to t.head=some t.line))&&zO d t):=by
 have hF:Fits d t↔(1≤t.kind∧t.kind≤3)∧zt d t=true:=⟨fun h=>⟨h.kind,h.rest⟩,fun h=>⟨h.1,c1,c2,hr,hu,hh,h.2⟩⟩
 have hf:mf d t=true↔Fits d t:=by simp[mf]
 rw[ajx,hf,hF]
 by_cases k1:t.kind=1
 ·simp[zt,mD,zO,MF,k1]
 by_cases k2:t.kind=2
 ·simp only[zt,mD,zO,V5,MF,k1,k2,if_false,if_true,akd,aj6,ajq]
  generalize live d t.to=a;generalize decide (yf d t.to t.head=some t.line)=b;generalize decide (t.move=noS)=c;generalize eX t.move=e;generalize live d t.move=g;generalize decide (t.move=t.to)=i
  generalize decide ((fH d t).act=3)=j
  cases a<;>cases b<;>cases c<;>cases e<;>cases g<;>cases i<;>cases j<;>simp
 by_cases k3:t.kind=3
 ·simp only[zt,mD,zO,V5,MF,k1,k2,k3,if_false,if_true,akd,aj6,ajq]
  generalize live d t.to=a;generalize decide (yf d t.to t.head=some t.line)=b;generalize decide (t.move=noS)=c;generalize eX t.move=e;generalize live d t.move=g;generalize decide (t.move=t.to)=i
  generalize decide ((fH d t).act=3)=j
  cases a<;>cases b<;>cases c<;>cases e<;>cases g<;>cases i<;>cases j<;>simp
 ·have:mD t.kind (fH d t) (live d t.to) (decide (yf d t.to t.head=some t.line))=false:=by simp[mD,k1,k2,k3]
  rw[this]
  simp;omega
section
variable {d:aW} (hg:Good d.revs) (hN:d.revs.length≤512)
include hg hN
theorem JC {f:bJ} {iv:Nat} {v:Rev} (hv:d.revs[iv]? =some v) (hf:fileOf v=f):∀(n i:Nat) (u:Rev),i<n→d.revs[i]? =some u→¬u.act=5→first d u=f→iv≤i
 |0,i,u,h,_,_,_=>by omega
 |n+1,i,u,h,hu,u5,e=>by
  by_cases u1:u.act=1
  ·have e1:fileOf u=fileOf v:=by rw[fM (iI u1)] at e;rw[e,hf]
   have:=bP hg hu hv e1
   omega
  ·obtain⟨j,w,hj,hw,ew,w5⟩:=QL hg hN hu u1
   have:=JC hv hf n j w (by omega) hw w5 (by rw[←(ug hg hN hu hw u5 u1 ew).1];exact e)
   omega
theorem Kq (f:bJ):lZ d f=d.revs.filter fun u=>decide (¬u.act=5∧first d u=f):=by
 have hmem:=fun u=>yG hg hN (f:=f) (u:=u)
 have hnil:lZ d f=[]→d.revs.filter (fun u=>decide (¬u.act=5∧first d u=f))=[]:=by
  intro h
  rw[ajO]
  intro u hu hp
  simp only[aeB] at hp
  have:=(hmem u).2 ⟨hu,hp.1,hp.2⟩
  rw[h] at this;cases this
 cases hgt:iE d f.path f.num with
 |none=>
  have:lZ d f=[]:=by simp[lZ,hgt]
  rw[this,hnil this]
 |some v=>
  by_cases v1:v.act=1
  ·obtain⟨iv,hv,ev⟩:=(dL hg).1 hgt
   have hvl:=(adK.1 hv).1
   have ht:=I9 hg hN hv ev v1 d.revs.length (afJ _)
   rw[afu] at ht
   have hl:lZ d f=v::d.revs.filter (qf d f):=by simp only[lZ,hgt,v1,if_true];exact ht
   have hsplit:d.revs=d.revs.take iv++v::d.revs.drop (iv+1):=by
    conv=>lhs;rw[←agu iv d.revs]
    congr 1
    rw[aiu hvl]
    congr 1
    exact(adK.1 hv).2
   have hbef:∀u∈d.revs.take iv,¬(¬u.act=5∧first d u=f):=by
    rintro u hu ⟨u5,e⟩
    obtain⟨i,hi⟩:=af7 hu
    have hil:i<iv:=by have:=(adK.1 hi).1;simp at this;omega
    rw[ag2,if_pos hil] at hi
    have:=JC hg hN hv ev (i+1) i u (by omega) hi u5 e
    omega
   have hself:¬v.act=5∧first d v=f:=⟨by omega,by rw[fM (iI v1)];exact ev⟩
   rw[hl]
   rw[hsplit,ahk,ahk,ajj,ajj]
   have f1:(d.revs.take iv).filter (qf d f)=[]:=by
    rw[ajO]
    intro u hu h
    simp only[qf,aeB] at h
    exact hbef u hu ⟨h.1,h.2.2⟩
   have f2:(d.revs.take iv).filter (fun u=>decide (¬u.act=5∧first d u=f))=[]:=by
    rw[ajO]
    intro u hu h
    simp only[aeB] at h
    exact hbef u hu h
   have f3:qf d f v=false:=by simp[qf,v1]
   have f4:decide (¬v.act=5∧first d v=f)=true:=ajk hself
   have f5:(d.revs.drop (iv+1)).filter (qf d f)=(d.revs.drop (iv+1)).filter fun u=>decide (¬u.act=5∧first d u=f):=by
    apply aki
    intro u hu
    obtain⟨i,hi⟩:=af7 hu
    rw[ajn] at hi
    rw[ajx]
    simp only[qf,aeB]
    refine⟨fun h=>⟨h.1,h.2.2⟩,fun h=>⟨h.1,fun u1=>?_,h.2⟩⟩
    have e1:fileOf u=fileOf v:=by have:=h.2;rw[fM (iI u1)] at this;rw[this,ev]
    have:=bP hg hi hv e1
    omega
   rw[f1,f2,f3,f4,f5]
   simp
  ·have:lZ d f=[]:=by simp[lZ,hgt,v1]
   rw[this,hnil this]
theorem abw {i j:Nat} {u w:Rev} (hij:i<j) (hu:d.revs[i]? =some u) (hw:d.revs[j]? =some w) (u5:¬u.act=5) (w5:¬w.act=5) (hf:first d u=first d w):u.chg<w.chg:=by
 obtain⟨k,x,k1,k2,hx,x5,ex,fx⟩:=wU hg hN hij hu hw u5 w5 hf
 have w1:¬w.act=1:=by
  intro w1
  have:di w=uI:=by simp[di,w1]
  rw[this] at ex
  have:=hg.num k x hx
  have h0:x.num=0:=congrArg bJ.num ex
  omega
 have h1:u.chg≤x.chg:=by
  rcases ajE i k with h|h
  ·exact hg.chg i k u x h hu hx
  ·have:i=k:=by omega
   subst this;rw[hu] at hx;cases hx;omega
 have h2:x.chg<w.chg:=by
  by_cases h4:w.act=4
  ·obtain⟨m,y,m1,m2,m3,m5,_,_,m6⟩:=hg.mov j w hw h4
   have e:fileOf y=fileOf x:=by rw[ex];simp[di,h4,fileOf,m3,m5]
   have:=bP hg m2 hx e
   subst this;rw[m2] at hx;cases hx;exact m6
  ·obtain⟨m,y,m1,m2,m3,m5,_,_,m6⟩:=hg.prv j w hw w1 h4
   have e:fileOf y=fileOf x:=by rw[ex];simp[di,h4,w1,fileOf,m3,m5]
   have:=bP hg m2 hx e
   subst this;rw[m2] at hx;cases hx;exact m6
 omega
theorem YW (f:bJ):(lZ d f).Pairwise fun u w=>u.chg<w.chg:=by
 rw[Kq hg hN]
 have h0:d.revs.Pairwise fun u w=>¬u.act=5→¬w.act=5→first d u=first d w→u.chg<w.chg:=
  ajV.2 fun i j hi hj hij u5 w5 e=>abw hg hN hij (adH hi) (adH hj) u5 w5 e
 refine(h0.filter _).imp_of_mem ?_
 intro u w hu hw h
 have h1:=(ahI.1 hu).2
 have h2:=(ahI.1 hw).2
 simp only[aeB] at h1 h2
 exact h h1.1 h2.1 (h1.2.trans h2.2.symm)
open Classical in
theorem aaN {v:Rev} {p:Nat} (t:bJ) (hp:(lZ d (first d v))[p]? =some v):Ib d v t=(((lZ d (first d v)).take (p+1)).filter fun u=>decide (Open d t u)).map fileOf:=by
 have hpl:=(adK.1 hp).1
 have hpr:=YW hg hN (first d v)
 have e1:Ib d v t=(((lZ d (first d v)).filter fun u=>decide (u.chg≤v.chg)).filter fun u=>decide (Open d t u)).map fileOf:=by
  rw[Ib,Kq hg hN,List.filter_filter,List.filter_filter]
  congr 1
  apply aki
  intro u _
  rw[ajx]
  simp only[aeB,afA]
  constructor
  ·rintro⟨a,b,c,e⟩;exact⟨⟨e,c⟩,a,b⟩
  ·rintro⟨⟨e,c⟩,a,b⟩;exact⟨a,b,c,e⟩
 rw[e1]
 congr 2
 generalize lZ d (first d v)=l at hp hpl hpr
 have hsp:l=l.take (p+1)++l.drop (p+1):=(agu _ _).symm
 conv=>lhs;rw[hsp]
 rw[ahk]
 have a1:(l.take (p+1)).filter (fun u=>decide (u.chg≤v.chg))=l.take (p+1):=by
  rw[akH]
  intro u hu
  obtain⟨i,hi⟩:=af7 hu
  have hil:i<p+1:=by have:=(adK.1 hi).1;simp at this;omega
  rw[ag2,if_pos hil] at hi
  simp only[aeB]
  by_cases e:i=p
  ·subst e;rw[hp] at hi;cases hi;omega
  ·obtain⟨q1,q2⟩:=adK.1 hi
   have:=(ajV.1 hpr) i p q1 hpl (by omega)
   rw[q2,(adK.1 hp).2] at this
   omega
 have a2:(l.drop (p+1)).filter (fun u=>decide (u.chg≤v.chg))=[]:=by
  rw[ajO]
  intro u hu h
  simp only[aeB] at h
  obtain⟨i,hi⟩:=af7 hu
  rw[ajn] at hi
  obtain⟨q1,q2⟩:=adK.1 hi
  have:=(ajV.1 hpr) p (p+1+i) hpl q1 (by omega)
  rw[q2,(adK.1 hp).2] at this
  omega
 rw[a1,a2,ajt]
end
structure Cmp {α:Type} (c:α→α→Int):Prop where
 refl:∀x,c x x=0
 neg:∀x y,c x y<0→0<c y x
 pos:∀x y,0<c x y→c y x<0
 eql:∀x y z,c x y=0→c x z=c y z
 eqr:∀x y z,c x y=0→c z x=c z y
 trans:∀x y z,c x y<0→c y z<0→c x z<0
theorem Cmp.on {α β:Type} {c:β→β→Int} (h:Cmp c) (f:α→β):Cmp fun x y=>c (f x) (f y):=
 ⟨fun x=>h.refl _,fun x y=>h.neg _ _,fun x y=>h.pos _ _,fun x y z=>h.eql _ _ _,fun x y z=>h.eqr _ _ _,fun x y z=>h.trans _ _ _⟩
theorem Cmp.of {α:Type} {c:α→α→Int} (refl:∀x,c x x=0) (neg:∀x y,c x y<0→0<c y x) (pos:∀x y,0<c x y→c y x<0) (eq:∀x y,c x y=0→x=y) (trans:∀x y z,c x y<0→c y z<0→c x z<0):Cmp c:=
 ⟨refl,neg,pos,fun x y z h=>by rw[eq x y h],fun x y z h=>by rw[eq x y h],trans⟩
theorem QI:∀l m:List UInt8,(Lib.compareBytes l m<0→0<Lib.compareBytes m l)∧(0<Lib.compareBytes l m→Lib.compareBytes m l<0)
 |[],[]=>by simp[Lib.compareBytes]
 |[],_::_=>by simp[Lib.compareBytes]
 |_::_,[]=>by simp[Lib.compareBytes]
 |a::l,b::m=>by
  have ih:=QI l m
  simp only[Lib.compareBytes,UInt8.lt_iff_toNat_lt]
  by_cases h1:a.toNat<b.toNat
  ·rw[if_pos h1,if_neg (by omega),if_pos h1];omega
  ·rw[if_neg h1]
   by_cases h2:b.toNat<a.toNat
   ·rw[if_pos h2,if_pos h2];omega
   ·rw[if_neg h2,if_neg h2,if_neg h1];exact ih
theorem abX:Cmp cb:=Cmp.of Qd (fun x y=>(QI _ _).1) (fun x y=>(QI _ _).2) (fun x y=>OZ) (fun x y z=>Tm)
theorem cmpL_eq:∀l m:List akK,cmpL l m=0→l=m
 |[],[],_=>rfl
 |[],_::_,h=>by simp[cmpL] at h
 |_::_,[],h=>by simp[cmpL] at h
 |a::l,b::m,h=>by
  rw[cmpL] at h
  by_cases e:cb a b=0
  ·rw[if_pos e] at h;rw[OZ e,cmpL_eq l m h]
  ·rw[if_neg e] at h;exact absurd h e
theorem Jh:∀l m:List akK,(cmpL l m<0→0<cmpL m l)∧(0<cmpL l m→cmpL m l<0)
 |[],[]=>by simp[cmpL]
 |[],_::_=>by simp[cmpL]
 |_::_,[]=>by simp[cmpL]
 |a::l,b::m=>by
  have ih:=Jh l m
  simp only[cmpL]
  by_cases e:cb a b=0
  ·have:=OZ e;subst this
   rw[if_pos e,if_pos e];exact ih
  ·have e2:¬cb b a=0:=fun h=>e (by rw[OZ h];exact Qd _)
   rw[if_neg e,if_neg e2]
   exact⟨abX.neg a b,abX.pos a b⟩
theorem Um:Cmp cmpL:=Cmp.of F6 (fun x y=>(Jh x y).1) (fun x y=>(Jh x y).2) cmpL_eq Dy
abbrev Pth:={p:akK // (aG p).isSome=true}
theorem adM:Cmp fun p q:Pth=>ord p.1 q.1:=by
 have h:=Um.on fun p:Pth=>(aG p.1).get p.2
 have e:(fun p q:Pth=>ord p.1 q.1)=fun p q:Pth=>cmpL ((aG p.1).get p.2) ((aG q.1).get q.2):=by
  funext p q
  obtain⟨a,b,ea,eb,e1⟩:=uz p.2 q.2
  rw[e1]
  congr 1
  ·simp[ea]
  ·simp[eb]
 rw[e];exact h
abbrev aix:={f:bJ // (aG f.path).isSome=true}
def pth (f:aix):Pth:=⟨f.1.path,f.2⟩
theorem su {A B:List akK} {x z:akK} {i:Nat} (h:i=A.length):(A++x::B).getD i z=x:=by
 subst h
 simp[adI]
theorem vJ {A B:List akK} {x y:akK} {i:Nat} (h:i=A.length):(A++x::B).set i y=A++y::B:=by
 subst h
 rw[List.set_append_right _ _ (afJ _),akq,List.set_cons_zero]
def yC (P u w v S:List akK) (k:Nat):List akK:=P++(v.take k++(u.drop k++(w++(u.take k++(v.drop k++S)))))
theorem aaL {P u w v S:List akK} {k:Nat} (hk:k≤u.length) (hv:u.length=v.length):(yC P u w v S k).length=P.length+u.length+w.length+v.length+S.length:=by
 simp only[yC,afI,ajD,ajz];omega
theorem ZI (P u w v S:List akK):yC P u w v S 0=P++(u++(w++(v++S))):=by simp[yC]
theorem acf {P u w v S:List akK} (hv:u.length=v.length):yC P u w v S u.length=P++(v++(w++(u++S))):=by
 simp only[yC,afu,akv]
 rw[hv,afu,akv]
 simp
theorem adf {P u w v S:List akK} {k i j:Nat} (hk:k<u.length) (hv:u.length=v.length) (hi:i=P.length+k) (hj:j=P.length+u.length+w.length+k) (z:akK):
 (yC P u w v S k).getD i z=u.getD k z∧(yC P u w v S k).getD j z=v.getD k z∧((yC P u w v S k).set i (v.getD k z)).set j (u.getD k z)=yC P u w v S (k+1):=by
 have hk2:k<v.length:=by omega
 have eu:u.drop k=u.getD k z::u.drop (k+1):=by rw[aiu hk];simp[adI,adH hk]
 have ev:v.drop k=v.getD k z::v.drop (k+1):=by rw[aiu hk2];simp[adI,adH hk2]
 have tu:u.take (k+1)=u.take k++[u.getD k z]:=by rw[ajC,adH hk];simp[adI,adH hk]
 have tv:v.take (k+1)=v.take k++[v.getD k z]:=by rw[ajC,adH hk2];simp[adI,adH hk2]
 have lu:(u.take k).length=k:=by simp;omega
 have lv:(v.take k).length=k:=by simp;omega
 have ld:(u.drop (k+1)).length=u.length-(k+1):=by simp
 generalize u.getD k z=x at eu tu
 generalize v.getD k z=y at ev tv
 generalize hU1:u.take k=U1 at lu tu
 generalize hV1:v.take k=V1 at lv tv
 generalize hU2:u.drop (k+1)=U2 at eu ld
 generalize hV2:v.drop (k+1)=V2 at ev
 have e0:yC P u w v S k=(P++V1)++x::(U2++(w++(U1++(y::(V2++S))))):=by simp[yC,hU1,hV1,eu,ev,ahJ]
 have e1:yC P u w v S k=(P++V1++x::U2++w++U1)++y::(V2++S):=by simp[yC,hU1,hV1,eu,ev,ahJ]
 refine⟨?_,?_,?_⟩
 ·rw[e0];exact su (by simp[lv,hi])
 ·rw[e1];exact su (by simp[lv,lu,ld,hj];omega)
 ·rw[e0,vJ (by simp[lv,hi])]
  have e2:(P++V1)++y::(U2++(w++(U1++(y::(V2++S)))))=(P++V1++y::U2++w++U1)++y::(V2++S):=by simp[ahJ]
  rw[e2,vJ (by simp[lv,lu,ld,hj];omega)]
  simp[yC,tu,tv,hU2,hV2,ahJ]
section
variable {α:Type} {c:α→α→Int}
def MO (c:α→α→Int) (x y:α):Prop:=¬c y x<0
theorem Cmp.le_refl (h:Cmp c) (x:α):MO c x x:=by unfold MO;rw[h.refl];omega
theorem Cmp.le_of_lt (h:Cmp c) {x y:α} (hl:c x y<0):MO c x y:=by unfold MO;have:=h.neg x y hl;omega
theorem Cmp.le_trans (h:Cmp c) {x y z:α} (h1:MO c x y) (h2:MO c y z):MO c x z:=by
 unfold MO at h1 h2⊢
 intro h3
 by_cases a:c y x=0
 ·rw[h.eqr y x z a] at h2;exact h2 h3
 ·have h4:c x y<0:=by
   by_cases b:c y x<0
   ·exact absurd b h1
   ·exact h.pos y x (by omega)
  exact h2 (h.trans z x y h3 h4)
theorem Cmp.le_total (h:Cmp c) (x y:α):MO c x y∨MO c y x:=by
 unfold MO
 by_cases a:c y x<0
 ·right;have:=h.neg y x a;omega
 ·exact .inl a
abbrev bg (c:α→α→Int) (l:List α):Prop:=l.Pairwise (MO c)
theorem Pn {x1 x2 y1 y2 z1 z2:List α} (hx:bg c (x1++x2)) (hy:bg c (y1++y2)) (h1:∀p∈x1,∀q∈y2,MO c p q) (h2:∀p∈x2,∀q∈y1,MO c q p)
 (p1:z1.Perm (x1++y1)) (s1:bg c z1) (p2:z2.Perm (x2++y2)) (s2:bg c z2):(z1++z2).Perm ((x1++x2)++(y1++y2))∧bg c (z1++z2):=by
 refine⟨?_,?_⟩
 ·refine(p1.append p2).trans ?_
  rw[ahJ,ahJ]
  refine List.Perm.append_left _ ?_
  rw[←ahJ,←ahJ]
  exact List.Perm.append_right _ List.perm_append_comm
 ·rw[bg,ajP]
  refine⟨s1,s2,?_⟩
  intro p hp q hq
  have hp':=(p1.mem_iff).1 hp
  have hq':=(p2.mem_iff).1 hq
  rw[bg,ajP] at hx hy
  rcases afs.1 hp' with hp'|hp'<;>rcases afs.1 hq' with hq'|hq'
  ·exact hx.2.2 p hp' q hq'
  ·exact h1 p hp' q hq'
  ·exact h2 q hq' p hp'
  ·exact hy.2.2 p hp' q hq'
end
theorem gY.tot {l:List iZ} {d:aW} (h:gY l d):d.revs.length≤Go.Proofs.YtcpgicfphakdaaaGreatDoor.tot l:=by
 induction h with
 |nil=>simp[Ee]
 |skip c h ih=>simp only[Go.Proofs.YtcpgicfphakdaaaGreatDoor.tot,ajA,List.sum_append] at ih⊢;omega
 | @app l d c h hc hk ih=>simp only[Go.Proofs.YtcpgicfphakdaaaGreatDoor.tot,ajA,List.sum_append,eG,afI,ae1,agV,aj0,List.sum_cons,List.sum_nil] at ih⊢;omega
theorem gY.ahx {l:List iZ} {d:aW} (h:gY l d):∀v∈d.revs,1≤v.chg∧v.chg≤1073741824:=by
 induction h with
 |nil=>intro r hr;simp[Ee] at hr
 |skip c h ih=>exact ih
 | @app l d c h hc hk ih=>
   intro v hv
   simp only[eG,afs,agh] at hv
   rcases hv with hv|⟨e,he,rfl⟩
   ·exact ih v hv
   ·exact hk.num
def IR (d:aW):Int:=d.revs.foldl (fun n v=>max n (v.chg+1)) 1
theorem zC (l:List Rev):∀a:Int,a≤l.foldl (fun n v=>max n (v.chg+1)) a∧(∀v∈l,v.chg<l.foldl (fun n v=>max n (v.chg+1)) a)∧∀b:Int,a≤b→(∀v∈l,v.chg+1≤b)→l.foldl (fun n v=>max n (v.chg+1)) a≤b:=by
 induction l with
 |nil=>intro a;simp
 |cons u l ih=>
  intro a
  obtain⟨h1,h2,h3⟩:=ih (max a (u.chg+1))
  simp only[List.foldl_cons]
  refine⟨by omega,?_,?_⟩
  ·intro v hv
   rcases afr.1 hv with rfl|hv
   ·omega
   ·exact h2 v hv
  ·intro b hb hv
   have:=hv u aj2
   exact h3 b (by omega) fun v hv'=>hv v (ajl _ hv')
theorem JB (d:aW):∀v∈d.revs,v.chg<IR d:=(zC d.revs 1).2.1
theorem gY.IR {l:List iZ} {d:aW} (h:gY l d):1≤Go.Proofs.YtcpgicfphakdaaaGreatDoor.IR d∧Go.Proofs.YtcpgicfphakdaaaGreatDoor.IR d≤1073741825:=
 ⟨(zC d.revs 1).1,(zC d.revs 1).2.2 _ (by omega) fun v hv=>by have:=h.ahx v hv;omega⟩
def qY (q:Rev→Bool) (acc:Option Rev) (r:Rev):Option Rev:=if q r&&(match acc with|none=>true|some f=>decide (f.num<r.num)) then some r else acc
def grt (q:Rev→Bool) (l:List Rev):Option Rev:=l.foldl (qY q) none
theorem abK {l:List Rev} (p:akK) (h:∀(i j:Nat) (u v:Rev),i<j→l[i]? =some u→l[j]? =some v→u.path=v.path→u.num<v.num):
 grt (fun r=>decide (r.path=p)) l=(l.filter fun r=>decide (r.path=p)).getLast?:=by
 have:∀k,k≤l.length→(l.take k).foldl (qY fun r=>decide (r.path=p)) none=((l.take k).filter fun r=>decide (r.path=p)).getLast?:=by
  intro k
  induction k with
  |zero=>simp
  |succ k ih=>
   intro hk
   have hr:l[k]? =some l[k]:=adH (by omega)
   have ht:l.take (k+1)=l.take k++[l[k]]:=by rw[ajC,hr];rfl
   rw[ht,aj9,ih (by omega),List.foldl_cons,List.foldl_nil]
   have hA:=(Ky (fun r:Rev=>decide (r.path=p)) (l.take k)).1
   by_cases hp:l[k].path=p
   ·have e:((l.take k++[l[k]]).filter fun r=>decide (r.path=p)).getLast? =some l[k]:=by
     rw[ahk,show [l[k]].filter (fun r=>decide (r.path=p))=[l[k]] by simp[hp],List.getLast?_append];rfl
    rw[e]
    cases hf:((l.take k).filter fun r=>decide (r.path=p)).getLast? with
    |none=>simp[qY,hp]
    |some f=>
     obtain⟨j,g1,g2,_⟩:=hA f hf
     have hjk:j<k:=by have:=(adK.1 g1).1;simp at this;omega
     rw[ag2,if_pos hjk] at g1
     have:=h j k f l[k] hjk g1 hr (by rw[hp];simpa using g2)
     simp[qY,hp,this]
   ·have e:(l.take k++[l[k]]).filter (fun r=>decide (r.path=p))=(l.take k).filter fun r=>decide (r.path=p):=by
     rw[ahk,show [l[k]].filter (fun r=>decide (r.path=p))=[] by simp[hp],ajt]
    rw[e]
    simp[qY,hp]
 have:=this l.length (afJ _)
 rw[afu] at this
 exact this
theorem abA {d:aW} (hg:Good d.revs) (p:akK):grt (fun r=>decide (r.path=p)) d.revs=aU d p:=
 abK p fun i j u v hij hu hv e=>(hg.path i j u v hij hu hv e).2
theorem adS (q:Rev→Bool) (n:Int):∀(l:List Rev),grt (fun r=>q r&&decide (r.num=n)) l=(l.filter q).find? fun r=>decide (r.num=n):=by
 have stay:∀(l:List Rev) (f:Rev),f.num=n→l.foldl (qY fun r=>q r&&decide (r.num=n)) (some f)=some f:=by
  intro l f hf
  induction l with
  |nil=>rfl
  |cons r l ih=>
   rw[List.foldl_cons,show qY (fun r=>q r&&decide (r.num=n)) (some f) r=some f from ?_,ih]
   unfold qY
   rw[if_neg]
   simp only[afA,aeB]
   rintro⟨⟨_,h1⟩,h2⟩;omega
 intro l
 unfold grt
 induction l with
 |nil=>rfl
 |cons r l ih=>
  rw[List.foldl_cons,ajj]
  conv=>lhs;arg 2;unfold qY
  by_cases hq:q r=true
  ·rw[if_pos hq,List.find?_cons]
   by_cases hn:r.num=n
   ·simp only[hq,hn,akJ,akt,if_true];exact stay l r hn
   ·simp only[hq,hn,akd,Bool.and_false,aka,agF,if_false];exact ih
  ·rw[if_neg hq]
   have:q r=false:=by simpa using hq
   simp only[this,aka,agF,if_false];exact ih
theorem aep (d:aW) (p:akK) (n:Int):grt (fun r=>decide (r.path=p)&&decide (r.num=n)) d.revs=iE d p n:=adS _ n d.revs
end Go.Proofs.YtcpgicfphakdaaaGreatDoor
namespace Go.Ab
variable [Dr] {P:Program} {x:X} {bl:Nat→List Nat} {cap:Nat→Nat} {st:List (Nat×AO)} {w:World}
theorem UE (hs:bY x bl cap st w) {id sz off len:Nat} {ys:List (List D)} (hid:get st id=some (.arr sz (ys.map fun l=>l.map C.d))) {v:Value} (hlen:off+len≤ys.length)
 (hr:aF (mkK x bl cap st w) (.mv id sz off len) v):cO (mkK x bl cap (put st id .dead) w).M w (.ps sz ((ys.drop off).take len)) v:=by
 have hle:=jC (x:=x) (bl:=bl) (cap:=cap) (w:=w) hid
 obtain⟨h0,h1,hsz,h2⟩:=hs.objs id _ hid
 obtain⟨hd,hcap,cp,hcp,hh⟩:=hr
 simp only[mkK,ae1] at h0 hcap
 have hzl:((ys.drop off).take len).length=len:=by rw[ajD,ajz];omega
 rcases hh with⟨hz,a,rfl⟩|⟨hz,b,hb,rfl⟩
 ·rw[List.eq_nil_of_length_eq_zero (l:=(ys.drop off).take len) (by omega)];exact .nil _ _ _
 ·simp only[mkK] at hb
  rcases h2 with⟨_,h2⟩|⟨b',T,vs,h2,h3,h4,h5⟩
  ·simp only[mkK] at h2;rw[h2] at hb;cases hb
  simp only[mkK] at h2 h3 h4
  rw[hb] at h2;simp at h2;subst h2
  have hl:∀l∈ys,l.length=sz:=fun l hl=>by have:=h1 (l.map C.d) (ajU (f:=fun l=>l.map C.d) hl);simpa using this
  have hlc:∀l∈(ys.map fun l=>l.map C.d),l.length=sz:=h1
  have hmul:ys.length*sz≤cap id*sz:=ajp _ h0
  rw[ae1] at h5
  have hm:∀{i j:Nat},i<len→j<sz→off*sz+i*sz+j=(off+i)*sz+j∧(off+i)*sz+sz≤ys.length*sz:=fun {i j} hi hj=>by
   have:=ajp sz (show off+i+1≤ys.length by omega)
   rw[ajL] at this
   exact⟨by rw[akg],this⟩
  have key:cO (mkK x bl cap (put st id .dead) w).M w (.ps sz ((ys.drop off).take len)) (.slice (some ⟨b,off*sz,none⟩) ((ys.drop off).take len).length cp):=by
   refine .ps sz _ b (off*sz) cp (fun i j=>(vs[off*sz+i*sz+j]?).getD undef) (oH hs hid rfl (by rw[hb];simp)) (fun l h=>hl l (akc (akB h))) ?_ ?_ (by omega) (lt_of_heap h3)
   ·intro i j hi hj
    obtain⟨e,hm⟩:=hm (by omega:i<len) hj
    rw[qF h3,e,adH (by omega)];rfl
   ·intro i j hi hj
    obtain⟨e,hm⟩:=hm (by omega:i<len) hj
    have hf:=IC hlc (i:=off+i) (r:=j) (by simp;omega) hj
    have hg:(ys.map fun l=>l.map C.d).getD (off+i) []=(((ys.drop off).take len).getD i []).map C.d:=by
     simp only[List.getD,ag5,ag2,ajn,if_pos (by omega:i<len)]
     rw[adH (by omega)];rfl
    have hlen:=hl (((ys.drop off).take len).getD i []) (by rw[adI,ag2,if_pos (by omega),ajn,adH (by omega)];simp)
    rw[hg,ag5,pF (l:=((ys.drop off).take len).getD i []) (by omega)] at hf
    obtain⟨u,hu,hru⟩:=h5.get hf
    rw[ag2,if_pos (by omega),←e] at hu
    show cO _ _ _ ((vs[off*sz+i*sz+j]?).getD undef)
    rw[hu]
    exact cO.stable hru hle.heap hle.M
  rwa [hzl] at key
def frV (id sz:Nat) (ys:List (List D)):C→C
 | .mv i s off len=>if i=id∧s=sz∧off+len≤ys.length then .d (.ps sz ((ys.drop off).take len)) else .mv i s off len
 |c=>c
theorem E8 {s:S} {bid id sz sz2:Nat} {xs xs':List (List C)} {ys:List (List D)} (hne:bid≠id) (hb:get s.st bid=some (.arr sz xs)) (hid:get s.st id=some (.arr sz2 (ys.map fun l=>l.map C.d)))
 (hx:xs.map (fun l=>l.map (frV id sz2 ys))=xs'):BN x s ⟨s.n,s.env,put (put s.st id .dead) bid (.arr sz xs')⟩:=by
 subst hx
 rintro a w ⟨bl,cap,hs,henv,hd,hsz⟩
 have hle:=jC (x:=x) (bl:=bl) (cap:=cap) (w:=w) hid
 have hk:=hs.kill hid
 have hb':get (put s.st id .dead) bid=some (.arr sz xs):=by rw[dw (Ne.symm hne)];exact hb
 obtain⟨g1,g2,g3,g4⟩:=hs.objs bid _ hb
 have hon:mr (bl bid) w w:=⟨rfl,fun _ _=>rfl,rfl,rfl,rfl,afJ _⟩
 have hle2:=oZ (x:=x) (cap:=cap) (o':= .arr sz (xs.map fun l=>l.map (frV id sz2 ys))) hb' rfl hon
 refine⟨bl,cap,hk.upd hb' rfl hon ⟨by simpa[mkK] using g1,?_,g3,?_⟩,(henv.le hle).le hle2,(hd.le hle).le hle2,hsz⟩
 ·intro l hl
  obtain⟨l',h',rfl⟩:=agh.1 hl
  rw[ae1];exact g2 _ h'
 ·rcases g4 with g4|⟨b,T,vs,h1,h2,h3,h4⟩
  ·exact .inl g4
  ·refine .inr ⟨b,T,vs,h1,h2,h3,?_⟩
   rw[show(xs.map fun l=>l.map (frV id sz2 ys)).flatten=xs.flatten.map (frV id sz2 ys) from by rw[List.map_flatten],aX.lD,ae1]
   refine h4.mono fun c v hr=>?_
   refine aF.le hle2 ?_
   cases c with
   |mv i s' off len=>
    by_cases h:i=id∧s'=sz2∧off+len≤ys.length
    ·obtain⟨rfl,rfl,h⟩:=h
     rw[frV,if_pos ⟨rfl,rfl,h⟩]
     exact UE hs hid h hr
    ·rw[frV,if_neg h];exact aF.le hle hr
   |_=>exact aF.le hle hr
end Go.Ab
namespace Go.Ab
open Go.Sort
section
variable {x:X} {bl:Nat→List Nat} {cap:Nat→Nat} {st:List (Nat×AO)} {w:World}
variable [Dr]
theorem K.aec {w':World} (hw:Grew w w'):(mkK x bl cap st w).le (mkK x bl cap st w'):=
 ⟨fun _ h=>h,fun _ _=>rfl,fun _ _=>rfl,fun b _ hb=>hw.heap b hb,fun _ h=> .inl h⟩
theorem bY.grew (h:bY x bl cap st w) {w':World} (hw:Grew w w'):bY x bl cap st w' where
 objs i p hp:=by
  cases hp':p.dh with
  |false=>cases p<;>simp[AO.dh] at hp';trivial
  |true=>exact(h.objs i p hp).le (K.aec hw) (by simp[mkK,hp]) fun b hb=>hw.heap b (h.lt b ⟨i,p,hp,hp',hb⟩)
 disj:=h.disj
 nodup:=h.nodup
 new:=h.new
 lt b hb:=Nat.lt_of_lt_of_le (h.lt b hb) hw.size
 fr:=⟨ajo h.fr.size hw.size,fun b hb hm=>by rw[hw.heap b (Nat.lt_of_lt_of_le hb h.fr.size)];exact h.fr.heap b hb hm,by rw[hw.os];exact h.fr.os,by rw[hw.output];exact h.fr.output,by rw[hw.tape];exact h.fr.tape,fun e=>ajo (h.fr.drawn e) hw.drawn⟩
 keep:=h.keep
 xok:=h.xok
end
theorem Yq {α β:Type} (f:α→β):∀l:List α,(l.map fun z=>[f z]).flatten=l.map f
 |[]=>rfl
 |a::l=>by have:=Yq f l;simp_all
theorem Xy {α:Type} [Inhabited α] (l:List α) (j:Nat) (h:j<l.length):(l.toArray)[j]! =l[j]:=by
 rw[getElem!_pos _ j (by simpa using h)];simp
variable [Dr]
theorem Rq {P:Program} {f:FuncId} {α:Type} [Inhabited α] {enc:α→Value} (h1:∀z,(enc z).oneCell'=true) {l l':List α} (hl:l'.length=l.length) (hc:wX P f)
 (hC:∀blk off cap w,Holds enc w blk off l.toArray→blk<w.heap.size→Calls P f #[.slice (some ⟨blk,off,none⟩) l.length cap] w fun e w'=>e= .returned (.tuple #[])∧∃n os,w'=grow (putRow enc (Sort.ahead w n) blk off l'.toArray) os)
 (hnil:l=[]→∀p cap w,Calls P f #[.slice p 0 cap] w fun e w'=>e= .returned (.tuple #[])∧w'=w) (id:Nat):
 AC P f [.c (.ms id 1 0 l.length)] [(id, .arr 1 (l.map fun z=>[C.d (.v (enc z))]))] (fun r st=>r= .tup []∧st=[(id, .arr 1 (l'.map fun z=>[C.d (.v (enc z))]))]):=by
 refine⟨hc,?_⟩
 intro bl cap F w us hs hargs
 have hid:get [(id,AO.arr 1 (l.map fun z=>[C.d (.v (enc z))]))] id=some (.arr 1 (l.map fun z=>[C.d (.v (enc z))])):=by simp[get]
 have hput:put [(id,AO.arr 1 (l.map fun z=>[C.d (.v (enc z))]))] id (AO.arr 1 (l'.map fun z=>[C.d (.v (enc z))]))=[(id,AO.arr 1 (l'.map fun z=>[C.d (.v (enc z))]))]:=by simp[put]
 cases hargs with
 |cons hv ht=>
 cases ht
 obtain⟨_,hle,hv⟩:=hv
 obtain⟨g1,g2,g3,g4⟩:=hs.objs id _ hid
 simp only[mkK,ajR,Nat.sub_zero,ae1,Nat.zero_mul] at hv g1 hle g4
 rcases hv with⟨c0,a,rfl⟩|⟨c0,b,hb,rfl⟩
 ·have hl0:l=[]:=ajw.1 (by omega)
  have hl1:l'=[]:=ajw.1 (by rw[hl,hl0];rfl)
  subst hl0 hl1
  refine(hnil rfl a 0 w).mono ?_
  rintro e w' ⟨rfl,rfl⟩
  exact⟨.tup [],_,bl,cap,_,rfl,⟨rfl,rfl⟩,by simp,hs,[],rfl, .nil⟩
 ·rcases g4 with⟨c1,_⟩|⟨b',T,vs,hb',hh,hlen,hA⟩
  ·exact absurd c1 c0
  rw[hb] at hb'
  cases hb'
  have hbl:b<w.heap.size:=by
   rcases ajE b w.heap.size with h|h
   ·exact h
   ·rw[Array.getElem?_eq_none h] at hh;cases hh
  have hcell:∀j (hj:j<l.length),vs[j]? =some (enc l[j]):=by
   intro j hj
   have e1:(l.map fun z=>[C.d (.v (enc z))]).flatten[j]? =some (C.d (.v (enc l[j]))):=by
    rw[show(l.map fun z=>[C.d (.v (enc z))]).flatten=l.map fun z=>C.d (.v (enc z)) from Yq _ _]
    simp[hj]
   obtain⟨u,hu,hr⟩:=hA.get e1
   rw[ag2] at hu
   split at hu
   ·rw[hu];congr 1
    have hr':cO _ _ (.v (enc l[j])) u:=hr
    cases hr';rfl
   ·cases hu
  have hH:Holds enc w b 0 l.toArray:=by
   intro j hj
   simp only[ako] at hj
   rw[Xy l j hj]
   constructor
   ·simp only[World.cell?,hh,ajR]
    simpa using hcell j hj
   ·simp[World.frozen?,hh]
  refine(hC b 0 (cap id) w hH hbl).mono ?_
  rintro e w' ⟨rfl,n,os,rfl⟩
  have hheap:∀c,c≠b→(putRow enc (Sort.ahead w n) b 0 l'.toArray).heap[c]? =w.heap[c]?:=by
   intro c hcb
   simp only[putRow,mapBlock,Array.getElem?_modify,heap_ahead]
   rw[if_neg (Ne.symm hcb)]
  have hat:(putRow enc (Sort.ahead w n) b 0 l'.toArray).heap[b]? =some (.cells (putCells enc 0 l'.toArray (List.toArray vs)) T (0,0)):=by
   simp only[putRow,mapBlock,Array.getElem?_modify,heap_ahead,if_true,hh,Option.map_some,onCells]
  have hs1:bY (X.start bl cap F [(id, .arr 1 (l.map fun z=>[C.d (.v (enc z))]))] w) bl cap [(id,AO.arr 1 (l'.map fun z=>[C.d (.v (enc z))]))] (putRow enc (Sort.ahead w n) b 0 l'.toArray):=by
   rw[←hput]
   refine hs.upd hid rfl ⟨by simp,fun c hcb=>hheap c (by rw[hb] at hcb;simpa using hcb),rfl,rfl,rfl,Nat.le_add_right _ _⟩ ?_
   refine⟨?_,?_,by omega, .inr ⟨b,T,(putCells enc 0 l'.toArray (List.toArray vs)).toList,?_,?_,?_,?_⟩⟩
   ·simp only[mkK,ae1];omega
   ·intro y hy
    obtain⟨z,_,rfl⟩:=agh.1 hy
    rfl
   ·exact hb
   ·simp only[mkK];rw[hat]
   ·simp only[mkK,putCells,Array.length_toList,Array.size_mapIdx,ako];exact hlen
   ·refine aX.QB ?_ ?_
    ·rw[show(l'.map fun z=>[C.d (.v (enc z))]).flatten=l'.map fun z=>C.d (.v (enc z)) from Yq _ _]
     simp only[putCells,ae1,ajD,Array.length_toList,Array.size_mapIdx,ako]
     omega
    ·intro i c v hc hv
     rw[show(l'.map fun z=>[C.d (.v (enc z))]).flatten=l'.map fun z=>C.d (.v (enc z)) from Yq _ _] at hc
     have hi:i<l'.length:=by
      have:=(adK.1 hc).1;simpa using this
     simp only[ag5,adH hi,Option.map_some,akF] at hc
     subst hc
     rw[ag2] at hv
     split at hv
     ·simp only[putCells,Array.getElem?_toList,Array.getElem?_mapIdx,aj8,ajG,ajR,Nat.sub_zero,ako,hi,if_true] at hv
      obtain⟨q,hq,rfl⟩:=ahL.1 hv
      rw[Xy l' i hi]
      exact .v _ (h1 _)
     ·cases hv
  refine⟨.tup [],_,bl,cap,_,rfl,⟨rfl,rfl⟩,by simp,hs1.grew ⟨by simp,fun c hc=>?_,rfl,rfl,rfl,afJ _⟩,[],rfl, .nil⟩
  exact heap_grow_old _ _ hc
end Go.Ab
namespace Go.Ab
variable [Dr] {P:Program} {x:X}
theorem TQ {Q:Exit→S→Prop} {s:S} {ops l:List Oper} {d:Tmp} {T e:TypeId} {t:TI} {y z:Operand} {ty:TypeId} {pos:String} {after:Array Edge} {k k':IntKind} {m:Int} (hel:Ia P T=some e) (ht:ti P e=some t) (hd:d<s.n)
 (hy:ev s y=some (.c (.d (.v (.int k 0))))) (hz:ev s z=some (.c (.d (.v (.int k' m))))) (hid:get s.st d=none) (h0:0≤m) (hb:(t.bytes:Int)*m≤140737488355328) (h63:m≤9223372036854775807)
 (hk:TO P x ops l ⟨s.n,put s.env d (.c (.ms d t.size 0 0)),put s.st d (.arr t.size [])⟩ Q):TO P x ops (⟨some d, .makeSlice T y z,ty,pos,after,none⟩::l) s Q:=by
 rintro a w ⟨bl,cap,hs,henv,hdf,hsz⟩
 have h1:a.eval y= .int k 0:=nC (fC henv hy)
 have h2:a.eval z= .int k' m:=nC (fC henv hz)
 have hu:=xI hel
 obtain⟨i,u,zz,hi,hu',hz',g1,g2,g3,g4,g5,g6,g7⟩:=jE ht
 have hpos:0<t.size:=by omega
 have hrun:=run_make (P:=P) w T e i zz hu hi hz' k k' 0 m (akA _) h0 (by rw[g2];omega) h63
 have hrun2:(execOp a.eval ⟨some d, .makeSlice T y z,ty,pos,after,none⟩).run P w= .ok (.value (.slice (some ⟨w.heap.size,0,none⟩) 0 m.toNat)) (w.alloc (.cells (madeCells zz.cells (m.toNat*i.size)) e)):=by
  simp only[execOp,h1,h2]
  exact pU hrun
 obtain⟨bl',cap',a1,a2,a3⟩:=wQ (x:=x) (id:=d) (n:=m.toNat) (T:=e) (xs:=[]) (cells:=madeCells zz.cells (m.toNat*i.size)) (w':=w.alloc (.cells (madeCells zz.cells (m.toNat*i.size)) e))
  hs hid (jK w _) (ajX) (by show _<(w.heap.push _).size;rw[Array.size_push];omega) hpos (by simp) (by simp) (by rw[size_madeCells,g1]) (by simp;exact .nil)
 refine wpList_plain rfl fun K hK=>?_
 unfold Oper.wp
 rw[hrun2]
 exact hK _ _ (hk _ _ ⟨bl',cap',a1,(henv.le a2).put (by rw[hsz];exact hd) a3,by rw[Act.put_defers];exact hdf.le a2,by rw[Act.iL];exact hsz⟩)
end Go.Ab
namespace Go.Proofs.YtcpgicfphakdaaaGreatDoor
section
open Go.Ab Tys
variable [Dr]
def Plus {κ:Type} (a b c:List κ):Prop:=∀k,k∈a↔k∈b∨k∈c
theorem Plus.nil {κ:Type} {a b:List κ} (h:Plus a b []):∀k,k∈a↔k∈b:=fun k=>by rw[h k];simp
end
section
open Go.Ab
variable [Dr]
@[reducible] def vV {β:Type} (g:Value×List β):Bool×List D:=(false,[.v g.1])
def Md {κ β:Type} (G:List (κ×(Value×List β))):List (κ×List β):=G.map fun g=>(g.1,g.2.2)
def mg {κ β:Type} (enc:β→List D) (G:List (κ×(Value×List β))):List (Value×List (List D)):=G.map fun g=>(g.2.1,g.2.2.map enc)
theorem sO {κ β:Type} [DecidableEq κ] (G:List (κ×(Value×List β))) (k:κ):ai (Md G) k=(ai G k).map (·.2):=by
 induction G with
 |nil=>rfl
 |cons g G ih=>simp only[Md,agV,ai] at ih⊢;split<;>simp_all
theorem DT {κ β:Type} [DecidableEq κ] (G:List (κ×(Value×List β))) (k:κ) (v:Value) (ys:List β):Md (eH G k (v,ys))=eH (Md G) k ys:=by
 induction G with
 |nil=>rfl
 |cons g G ih=>simp only[Md,agV,eH] at ih⊢;split<;>simp_all
theorem zx {κ ν:Type} [DecidableEq κ]:∀{m:List (κ×ν)} {k:κ} {v:ν},ai m k=some v→∃A B,m=A++(k,v)::B∧∀p∈A,p.1≠k
 |[],_,_,h=>by simp[ai] at h
 |(a,b)::m,k,v,h=>by
  simp only[ai] at h
  split at h
  ·rename_i e;cases h;subst e;exact⟨[],m,rfl,by simp⟩
  ·rename_i e
   obtain⟨A,B,rfl,hA⟩:=zx h
   refine⟨(a,b)::A,B,rfl,?_⟩
   intro p hp
   rcases afr.1 hp with rfl|hp
   ·exact fun h=>e h.symm
   ·exact hA p hp
theorem JZ {κ ν:Type} [DecidableEq κ]:∀{A B:List (κ×ν)} {k:κ} {v x:ν},(∀p∈A,p.1≠k)→eH (A++(k,v)::B) k x=A++(k,x)::B
 |[],B,k,v,x,_=>by simp[eH]
 |(a,b)::A,B,k,v,x,h=>by
  simp only[List.cons_append,eH]
  rw[if_neg (fun e=>h (a,b) aj2 e.symm),JZ (fun p hp=>h p (ajl _ hp))]
theorem N7 {κ ν:Type} [DecidableEq κ]:∀{m:List (κ×ν)} {k:κ} {x:ν},ai m k=none→eH m k x=m++[(k,x)]
 |[],_,_,_=>rfl
 |(a,b)::m,k,x,h=>by
  simp only[ai] at h
  split at h
  ·cases h
  ·rename_i e;simp only[eH];rw[if_neg e,N7 h];rfl
theorem Us {κ β:Type} [DecidableEq κ] (enc:β→List D) {G:List (κ×(Value×List β))} {k:κ} {v x:Value} {ys zs:List β} {ps ps':List (Value×List (List D))} (h:ai G k=some (v,ys)) (hp:ps.Perm (mg enc G)) (hp':((v,ys.map enc)::ps').Perm ps):
 ((x,zs.map enc)::ps').Perm (mg enc (eH G k (x,zs))):=by
 obtain⟨A,B,rfl,hA⟩:=zx h
 rw[JZ hA]
 have h1:=hp'.trans hp
 simp only[mg,ajA,agV] at h1⊢
 have h2:((v,ys.map enc)::ps').Perm ((v,ys.map enc)::(A.map (fun g=>(g.2.1,g.2.2.map enc))++B.map (fun g=>(g.2.1,g.2.2.map enc)))):=h1.trans List.perm_middle
 exact((List.Perm.cons_inv h2).cons _).trans List.perm_middle.symm
theorem UA {κ β:Type} [DecidableEq κ] (enc:β→List D) {G:List (κ×(Value×List β))} {k:κ} {x:Value} {zs:List β} {ps:List (Value×List (List D))} (h:ai G k=none) (hp:ps.Perm (mg enc G)):
 ((x,zs.map enc)::ps).Perm (mg enc (eH G k (x,zs))):=by
 rw[N7 h]
 simp only[mg,ajA,agV,aj0]
 exact(hp.cons _).trans (List.perm_append_comm (l₁:=[(x,zs.map enc)]))
section
variable {x:X} {κ β:Type} [DecidableEq κ] {ke:κ→Bool×List D} (hk:∀a b,kK ((ke a).2.map C.d) ((ke b).2.map C.d)=decide (a=b))
include hk
theorem KQ (w:Bool×List C) (v:Value×List β) (k:κ):∀{A B:List (κ×(Value×List β))},(∀p∈A,p.1≠k)→dF (jY (ke k)) w ((bz ke vV (A++(k,v)::B)).map dJ)=((bz ke vV (A++(k,v)::B)).map dJ).set A.length (jY (ke k),w)
 |[],B,_=>by
  have:kK (jY (ke k)).2 (jY (ke k)).2=decide (k=k):=hk _ _
  simp only[List.nil_append,bz,agV,dF,dJ,this];simp
 |a::A,B,h=>by
  have:kK (jY (ke k)).2 (jY (ke a.1)).2=decide (k=a.1):=hk _ _
  have hne:¬k=a.1:=fun e=>h a aj2 e.symm
  simp only[List.cons_append,bz,agV,dF,dJ,this,hne,akd,agF,if_false,List.length_cons,List.set_cons_succ]
  congr 1
  exact KQ w v k (fun p hp=>h p (ajl _ hp))
theorem acz (enc:β→List D) {s:S} {mid pid pid' aid sz:Nat} {G:List (κ×(Value×List β))} {k:κ} {v:Value} {ys:List β} {ps:List (Value×List (List D))} (hm:get s.st mid=some (.map ((bz ke vV G).map dJ)))
 (hp:get s.st pid=some (.pool sz ps)) (hpm:ps.Perm (mg enc G)) (hkG:ai G k=some (v,ys)) (hp':get s.st pid'=none) (ha:get s.st aid=none) (hne:pid'≠aid):
 ∃ps',((v,ys.map enc)::ps').Perm ps∧BN x s ⟨s.n,s.env,put (put (put (put s.st pid .dead) pid' (.pool sz ps')) aid (.arr sz ((ys.map enc).map fun l=>l.map C.d))) mid (.map (dF (jY (ke k)) (false,[.ms aid sz 0 ys.length]) ((bz ke vV G).map dJ)))⟩:=by
 obtain⟨A,B,rfl,hA⟩:=zx hkG
 have hin:(v,ys.map enc)∈ps:=hpm.mem_iff.2 (by simp[mg])
 obtain⟨i,hi⟩:=af7 hin
 have hil:=(adK.1 hi).1
 have hpe:((v,ys.map enc)::ps.eraseIdx i).Perm ps:=by
  have h0:ps[i]=(v,ys.map enc):=(adK.1 hi).2
  have e:ps=ps.take i++(v,ys.map enc)::ps.drop (i+1):=by
   conv=>lhs;rw[←agu i ps,aiu hil,h0]
  rw[List.eraseIdx_eq_take_drop_succ]
  conv=>rhs;rw[e]
  exact List.perm_middle.symm
 have hj:((bz ke vV (A++(k,(v,ys))::B)).map dJ)[A.length]? =some (jY (ke k),(false,[.d (.v v)])):=by
  simp[bz,dJ,jY]
 have:=VB (x:=x) (s:=s) (pid':=pid') (aid:=aid) hm hj hp hi hp' ha hne
 rw[←KQ hk] at this
 ·refine⟨_,hpe,?_⟩
  simpa using this
 ·exact hA
theorem X3 {P:Program} {ops l:List Oper} {Q:Exit→S→Prop} (enc:β→List D) {s:S} {mid pid pid' aid sz:Nat} {G:List (κ×(Value×List β))} {k:κ} {v:Value} {ys:List β} {ps:List (Value×List (List D))} (hm:get s.st mid=some (.map ((bz ke vV G).map dJ)))
 (hp:get s.st pid=some (.pool sz ps)) (hpm:ps.Perm (mg enc G)) (hkG:ai G k=some (v,ys)) (hp':get s.st pid'=none) (ha:get s.st aid=none) (hne:pid'≠aid)
 (h:∀ps',((v,ys.map enc)::ps').Perm ps→TO P x ops l ⟨s.n,s.env,put (put (put (put s.st pid .dead) pid' (.pool sz ps')) aid (.arr sz ((ys.map enc).map fun l=>l.map C.d))) mid (.map (dF (jY (ke k)) (false,[.ms aid sz 0 ys.length]) ((bz ke vV G).map dJ)))⟩ Q):TO P x ops l s Q:=by
 obtain⟨ps',h1,h2⟩:=acz (x:=x) hk enc hm hp hpm hkG hp' ha hne
 exact bC h2 (h ps' h1)
theorem E5 (enc:β→List D) {s:S} {mid pid pid' aid sz n:Nat} {G:List (κ×(Value×List β))} {k:κ} {ys:List β} {ps:List (Value×List (List D))} (hm:get s.st mid=some (.map (dF (jY (ke k)) (false,[.ms aid sz 0 n]) ((bz ke vV G).map dJ))))
 (hp:get s.st pid=some (.pool sz ps)) (ha:get s.st aid=some (.arr sz ((ys.map enc).map fun l=>l.map C.d))) (hn:n=ys.length) (hy:ys≠[]) (hp':get s.st pid'=none):
 ∀a w,Sat x s a w→∃v,Sat x ⟨s.n,s.env,put (put (put (put s.st pid .dead) aid .dead) pid' (.pool sz ((v,ys.map enc)::ps))) mid (.map ((bz ke vV (eH G k (v,ys))).map dJ))⟩ a w:=by
 intro a w hs
 obtain⟨v,h⟩:=VA (x:=x) (pid':=pid') hm (EX _ _ _) hp ha (by simpa using hn) (by simpa using hy) hp' hs
 rw[Ab.uy,show((false,[C.d (.v v)]):Bool×List C)=jY (vV (v,ys)) from rfl,ut hk] at h
 exact⟨v,h⟩
end
theorem X5 (p:akK) (n:Int) (w:Bool×List C):∀es:List xX,(∀e∈es,e.1.1=true∧cu [.str, .int .i64] e.1.2)→∀e∈dF (true,[C.d (.v (.string p)),C.d (.v (.int .i64 n))]) w es,e.1.1=true∧cu [.str, .int .i64] e.1.2
 |[],_=>by intro e he;simp[dF] at he;subst he;simp[cu]
 |a::es,h=>by
  intro e he
  simp only[dF] at he
  split at he
  ·rcases afr.1 he with rfl|he
   ·simp[cu]
   ·exact h e (ajl _ he)
  ·rcases afr.1 he with rfl|he
   ·exact h _ aj2
   ·exact X5 p n w es (fun e he=>h e (ajl _ he)) e he
theorem RG {κ β:Type} {ke:κ→Bool×List D} (enc:β→List D) (sz:Nat) (G:List (κ×(Value×List β))):
 ((bz ke vV G).map dJ)=((G.map fun g=>(ke g.1,g.2.1,g.2.2.map enc)).map fun g=>(jY g.1,(false,[C.d (.v g.2.1)])))∧
 ((G.map fun g=>(ke g.1,g.2.1,g.2.2.map enc)).map fun g=>(g.1,(false,[D.ps sz g.2.2])))=bz ke (fun l=>(false,[.ps sz (l.map enc)])) (Md G):=by
 constructor
 ·simp only[bz,ajM];exact ajZ fun g _=>rfl
 ·simp only[bz,Md,ajM];exact ajZ fun g _=>rfl
theorem X9 {κ β:Type} {ke:κ→Bool×List D} (enc:β→List D) {G:List (κ×(Value×List β))} {ps:List (Value×List (List D))} (hp:ps.Perm (mg enc G)):∀g∈(G.map fun g=>(ke g.1,g.2.1,g.2.2.map enc)),g.2∈ps:=by
 intro g hg
 obtain⟨a,ha,rfl⟩:=agh.1 hg
 exact hp.mem_iff.2 (agh.2 ⟨a,ha,rfl⟩)
end
end Go.Proofs.YtcpgicfphakdaaaGreatDoor
namespace Go.Proofs
open Go.Shelf
shelf_lay Lays.n189 Nm 189 at Tryz as Tryz.lays189
end Go.Proofs
namespace Go.Proofs.YtcpgicfphakdaaaGreatDoor
open Go.Ab Tys
variable [Dr]
theorem aa6 (l:List Int) (h0:l≠[]) (hl:l.length≤1000000) (id:Nat):
 AC Tryz.prog 46 [.c (.ms id 1 0 l.length)] [(id,ay 1 (l.map xW))] (fun r st=>r= .tup []∧st=[(id,ay 1 ((l.mergeSort fun x y=>decide (x≤y)).map xW))]):=by
 have h:=Rq (P:=Tryz.prog) (f:=46) (enc:=Value.int .i64) (fun _=>rfl) (l:=l) (l':=l.mergeSort fun x y=>decide (x≤y)) (by simp) ⟨_,Tryz.func46,by kernel_rfl,by kernel_rfl⟩
  (fun blk off cap w hH hb=>Any.slices_Sort_int Tryz.lays189 blk off cap l w hH hb (by omega)) (fun e=>absurd e h0) id
 have e:∀l:List Int,(l.map xW).map (fun l=>l.map C.d)=l.map fun z=>[C.d (.v (.int .i64 z))]:=fun l=>by rw[ajM];rfl
 simp only[ay,e]
 exact h
theorem aax {l m:List Int} (hp:l.Perm m) (hm:m.Pairwise fun x y=>x≤y):l.mergeSort (fun x y=>decide (x≤y))=m:=by
 have h1:(l.mergeSort fun x y=>decide (x≤y)).Perm m:=(List.mergeSort_perm l _).trans hp
 have h2:(l.mergeSort fun x y=>decide (x≤y)).Pairwise fun x y=>x≤y:=by
  have:=List.pairwise_mergeSort (le:=fun x y:Int=>decide (x≤y)) (fun a b c h h'=>by simp only[aeB] at*;omega) (fun a b=>by simp only[ajK,aeB];omega) l
  exact this.imp fun h=>by simpa using h
 exact h1.eq_of_pairwise (fun a b _ _ h h'=>Int.le_antisymm h h') h2 hm
end Go.Proofs.YtcpgicfphakdaaaGreatDoor
namespace Go.Ab
variable [Dr] {P:Program} {x:X}
theorem afW {Q:Exit→S→Prop} {s:S} {ops l:List Oper} {d:Tmp} {T ty ty2:TypeId} {y z:Operand} {pos:String} {after:Array Edge} {k:IntKind} {a b:Int}
 (hd:d<s.n) (hy:ev s y=some (.c (.d (.v (.int k a))))) (hz:ev s z=some (.c (.d (.v (.int k b))))) (h0:0≤a) (hb:0<b)
 (hk:TO P x ops l ⟨s.n,put s.env d (.c (.d (.v (.int k (a%b))))),s.st⟩ Q):TO P x ops (⟨some d, .binOp .rem T y z ty2,ty,pos,after,none⟩::l) s Q:=by
 rintro A w ⟨bl,cap,hs,henv,hdf,hsz⟩
 have e1:A.eval y= .int k a:=nC (fC henv hy)
 have e2:A.eval z= .int k b:=nC (fC henv hz)
 have hrun:(execOp A.eval ⟨some d, .binOp .rem T y z ty2,ty,pos,after,none⟩).run P w= .ok (.value (.int k (a%b))) w:=by
  simp only[execOp,e1,e2]
  refine pU ?_
  have hg:(eqGuard .rem T y z (.int k a) (.int k b)).run P w= .ok () w:=rfl
  have hb0:¬b=0:=by omega
  simp only[Sem.run_bind,hg,Result.andThen_ok,binOp,Op.intDiv,if_neg hb0,Sem.run_pure,Int.tmod_eq_emod_of_nonneg h0,ne_eq,not_true_eq_false,if_false]
 refine wpList_plain rfl fun K hK=>?_
 unfold Oper.wp
 rw[hrun]
 refine hK _ _ (hk _ _ ⟨bl,cap,hs,henv.put (by rw[hsz];exact hd) (.v _ rfl),by rw[Act.put_defers];exact hdf,by rw[Act.iL];exact hsz⟩)
end Go.Ab
