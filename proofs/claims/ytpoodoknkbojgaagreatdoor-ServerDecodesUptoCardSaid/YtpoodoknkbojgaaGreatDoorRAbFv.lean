/- A part of the proof. -/
import Derived.Test.YtpoodoknkbojgaaGreatDoorRPD
import Derived.Test.YtpoodoknkbojgaaGreatDoorRAbSc
import Derived.Laws.BitsLemmas
import Derived.Laws.Bits64
import Derived.Laws.BytesString
import Derived.Scope
import Derived.Test.YtpoodoknkbojgaaGreatDoorRAbCe
set_option linter.all false
namespace Go.Proofs.YtpoodoknkbojgaaGreatDoor
open Go.Ab
theorem IB:∀l:List UInt8,Lib.compareBytes l l=0
 |[]=>rfl
 |a::l=>by
  have:¬a<a:=by simp
  rw[Lib.compareBytes,if_neg this,if_neg this];exact IB l
theorem Ri:∀l m:List UInt8,Lib.compareBytes l m=0→l=m
 |[],[],_=>rfl
 |[],_::_,h=>by simp[Lib.compareBytes] at h
 |_::_,[],h=>by simp[Lib.compareBytes] at h
 |a::l,b::m,h=>by
  rw[Lib.compareBytes] at h
  split at h
  ·cases h
  ·split at h
   ·cases h
   ·rename_i h1 h2
    have:a=b:=by
     apply UInt8.toNat_inj.1
     simp only[UInt8.lt_iff_toNat_lt] at h1 h2;omega
    rw[this,Ri l m h]
theorem EI:∀l m k:List UInt8,Lib.compareBytes l m<0→Lib.compareBytes m k<0→Lib.compareBytes l k<0
 |[],[],_,h,_=>by simp[Lib.compareBytes] at h
 |[],_::_,[],_,h=>by simp[Lib.compareBytes] at h
 |[],_::_,_::_,_,_=>by simp[Lib.compareBytes]
 |_::_,[],_,h,_=>by simp[Lib.compareBytes] at h
 |_::_,_::_,[],_,h=>by simp[Lib.compareBytes] at h
 |a::l,b::m,c::k,h1,h2=>by
  rw[Lib.compareBytes] at h1 h2⊢
  simp only[UInt8.lt_iff_toNat_lt] at h1 h2⊢
  split at h1
  ·split at h2
   ·rw[if_pos (by omega)];omega
   ·split at h2
    ·omega
    ·rw[if_pos (by omega)];omega
  ·split at h1
   ·omega
   ·split at h2
    ·rw[if_pos (by omega)];omega
    ·split at h2
     ·omega
     ·rw[if_neg (by omega),if_neg (by omega)];exact EI l m k h1 h2
theorem Vk (a:abW):cb a a=0:=IB _
theorem V4 {a b:abW} (h:cb a b=0):a=b:=ByteArray.ext (by simpa using congrArg List.toArray (Ri _ _ h))
theorem QC {a b c:abW} (h1:cb a b<0) (h2:cb b c<0):cb a c<0:=EI _ _ _ h1 h2
theorem EG:∀l:List abW,cmpL l l=0
 |[]=>rfl
 |a::l=>by rw[cmpL,if_pos (Vk a)];exact EG l
theorem Be:∀l m k:List abW,cmpL l m<0→cmpL m k<0→cmpL l k<0
 |[],[],_,h,_=>by simp[cmpL] at h
 |[],_::_,[],_,h=>by simp[cmpL] at h
 |[],_::_,_::_,_,_=>by simp[cmpL]
 |_::_,[],_,h,_=>by simp[cmpL] at h
 |_::_,_::_,[],_,h=>by simp[cmpL] at h
 |a::l,b::m,c::k,h1,h2=>by
  rw[cmpL] at h1 h2⊢
  by_cases e1:cb a b=0
  ·have:=V4 e1;subst this
   rw[if_pos e1] at h1
   by_cases e2:cb a c=0
   ·rw[if_pos e2] at h2⊢;exact Be l m k h1 h2
   ·rw[if_neg e2] at h2⊢;exact h2
  ·rw[if_neg e1] at h1
   by_cases e2:cb b c=0
   ·have:=V4 e2;subst this
    rw[if_neg e1];exact h1
   ·rw[if_neg e2] at h2
    have:=QC h1 h2
    rw[if_neg (by omega)];exact this
theorem wH {p q:abW} (hp:(iE p).isSome=true) (hq:(iE q).isSome=true):∃a b,iE p=some a∧iE q=some b∧ord p q=cmpL a b:=by
 cases h1:iE p with
 |none=>rw[h1] at hp;cases hp
 |some a=>
  cases h2:iE q with
  |none=>rw[h2] at hq;cases hq
  |some b=>exact⟨a,b,rfl,rfl,by simp[ord,h1,h2]⟩
theorem OW {p q r:abW} (hp:(iE p).isSome=true) (hq:(iE q).isSome=true) (hr:(iE r).isSome=true) (h1:ord p q<0) (h2:ord q r<0):ord p r<0:=by
 obtain⟨a,b,ea,eb,e1⟩:=wH hp hq
 obtain⟨b',c,eb',ec,e2⟩:=wH hq hr
 rw[eb] at eb';cases eb'
 obtain⟨a',c',ea',ec',e3⟩:=wH hp hr
 rw[ea] at ea';cases ea'
 rw[ec] at ec';cases ec'
 rw[e3];rw[e1] at h1;rw[e2] at h2
 exact Be _ _ _ h1 h2
theorem TQ {p:abW} (hp:(iE p).isSome=true):ord p p=0:=by
 obtain⟨a,b,ea,eb,e1⟩:=wH hp hp
 rw[ea] at eb;cases eb
 rw[e1];exact EG _
theorem IC {d:gI} {c:xY} (h:∀i,i<c.edits.length→La d c i (c.edits.getD i dP)):∀{j i:Nat},i<j→j<c.edits.length→ord (c.edits.getD i dP).path (c.edits.getD j dP).path<0
 |0,i,hij,_=>by omega
 |j+1,i,hij,hj=>by
  have h0:=(h (j+1) hj).okOrder (by omega)
  simp only[Nat.add_sub_cancel] at h0
  by_cases e:i=j
  ·subst e;exact h0
  ·exact OW (h i (by omega)).okPath (h j (by omega)).okPath (h (j+1) hj).okPath (IC h (by omega) (by omega)) h0
theorem TC {d:gI} {c:xY} (h:∀i,i<c.edits.length→La d c i (c.edits.getD i dP)) {i j:Nat} (hij:i<j) (hj:j<c.edits.length):(c.edits.getD i dP).path≠(c.edits.getD j dP).path:=by
 intro e
 have:=IC h hij hj
 rw[e,TQ (h j hj).okPath] at this
 omega
theorem SX {n:Int} (h1: -1000000≤n) (h2:n≤1000000):wr n=n:=aV.wrap (by simp only[aV];omega)
structure Good (l:List Rev):Prop where
 num:∀(i:Nat) (v:Rev),l[i]? =some v→1≤v.num∧v.num≤(i:Int)+1
 act:∀(i:Nat) (v:Rev),l[i]? =some v→1≤v.act∧v.act≤5
 chg:∀(i j:Nat) (u v:Rev),i<j→l[i]? =some u→l[j]? =some v→u.chg≤v.chg
 path:∀(i j:Nat) (u v:Rev),i<j→l[i]? =some u→l[j]? =some v→u.path=v.path→u.chg<v.chg∧u.num<v.num
 prv:∀(i:Nat) (v:Rev),l[i]? =some v→v.act≠1→v.act≠4→∃(j:Nat) (u:Rev),j<i∧l[j]? =some u∧u.path=v.path∧u.num=v.num-1∧u.act≠3∧u.act≠5∧u.chg<v.chg
 mov:∀(i:Nat) (v:Rev),l[i]? =some v→v.act=4→∃(j:Nat) (u:Rev),j<i∧l[j]? =some u∧u.path=v.frm∧u.num=v.fnum∧u.act≠3∧u.act≠5∧u.chg<v.chg
 away:∀(i:Nat) (v:Rev),l[i]? =some v→v.act=4→∃(j:Nat) (u:Rev),l[j]? =some u∧u.path=v.frm∧u.num=v.fnum+1∧u.act=5
 mov2:∀(i j:Nat) (u v:Rev),i<j→l[i]? =some u→l[j]? =some v→u.act=4→v.act=4→u.frm=v.frm→u.fnum=v.fnum→False
theorem QB {α:Type} (p:α→Bool):∀l:List α,(∀v,(l.filter p).getLast? =some v→∃j:Nat,l[j]? =some v∧p v=true∧∀(k:Nat) (u:α),l[k]? =some u→p u=true→k≤j)∧((l.filter p).getLast? =none→∀u∈l,p u=false)
 |[]=>by simp
 |a::l=>by
  obtain⟨h1,h2⟩:=QB p l
  simp only[abh]
  cases hg:(l.filter p).getLast? with
  |none=>
   have hn:=h2 hg
   have h0:l.filter p=[]:=List.getLast?_eq_none_iff.1 hg
   rw[h0]
   by_cases ha:p a=true
   ·rw[if_pos ha]
    refine⟨fun v hv=>?_,fun h=>by simp at h⟩
    simp at hv;subst hv
    refine⟨0,rfl,ha,fun k u hu hp=>?_⟩
    cases k with
    |zero=>omega
    |succ k=>rw[hn u (aah (by simpa using hu))] at hp;cases hp
   ·rw[if_neg ha]
    refine⟨fun v hv=>by simp at hv,fun _ u hu=>?_⟩
    rcases Z9.1 hu with rfl|hu
    ·simpa using ha
    ·exact hn u hu
  |some w=>
   obtain⟨j,hj,hw,hmax⟩:=h1 w hg
   have h0:(if p a=true then a::l.filter p else l.filter p).getLast? =some w:=by
    split
    ·rw[List.getLast?_cons,hg];rfl
    ·exact hg
   rw[h0]
   refine⟨fun v hv=>?_,fun h=>by cases h⟩
   cases hv
   refine⟨j+1,by simpa using hj,hw,fun k u hu hp=>?_⟩
   cases k with
   |zero=>omega
   |succ k=>have:=hmax k u (by simpa using hu) hp;omega
theorem qR {d:gI} {p:abW} {v:Rev} (h:yB d p=some v):∃j:Nat,d.revs[j]? =some v∧v.path=p∧∀(k:Nat) (u:Rev),d.revs[k]? =some u→u.path=p→k≤j:=by
 obtain⟨j,h1,h2,h3⟩:=(QB (fun v:Rev=>decide (v.path=p)) d.revs).1 v h
 exact⟨j,h1,by simpa using h2,fun k u hu hp=>h3 k u hu (by simpa using hp)⟩
theorem last_none {d:gI} {p:abW} (h:yB d p=none):∀u∈d.revs,u.path≠p:=by
 intro u hu e
 have:=(QB (fun v:Rev=>decide (v.path=p)) d.revs).2 h u hu
 simp[e] at this
theorem Ef {d:gI} {p:abW} (h:live d p=true):∃(v:Rev) (j:Nat),yB d p=some v∧d.revs[j]? =some v∧v.path=p∧v.act≠3∧v.act≠5∧dU d p=v.num:=by
 unfold live at h
 split at h
 ·rename_i v hv
  obtain⟨j,h1,h2,h3⟩:=qR hv
  simp[gone] at h
  exact⟨v,j,hv,h1,h2,h.1,h.2,by simp[dU,hv]⟩
 ·cases h
theorem CS {d:gI} (hg:Good d.revs) {p:abW} {k:Nat} {u:Rev} (hu:d.revs[k]? =some u) (hp:u.path=p):u.num≤dU d p:=by
 cases h:yB d p with
 |none=>exact absurd hp (last_none h u (aah hu))
 |some v=>
  obtain⟨j,h1,h2,h3⟩:=qR h
  have:=h3 k u hu hp
  simp only[dU,h,Option.getD]
  rcases aaT k j with hkj|hkj
  ·have:=(hg.path k j u v hkj hu h1 (by rw[hp,h2])).2;omega
  ·have e:k=j:=by omega
   subst e;rw[h1] at hu;cases hu;omega
theorem uw {d:gI} (hg:Good d.revs) (p:abW):0≤dU d p∧dU d p≤d.revs.length:=by
 cases h:yB d p with
 |none=>simp[dU,h,Ox]
 |some v=>
  obtain⟨j,h1,h2,h3⟩:=qR h
  have:=hg.num j v h1
  have hj:j<d.revs.length:=(aal.1 h1).1
  simp only[dU,h,Option.getD];omega
theorem Lp {α:Type} (p:α→Bool) {l:List α} {a b:Nat} {x y:α} (hab:a<b) (ha:l[a]? =some x) (hb:l[b]? =some y) (hx:p x=true) (hy:p y=true):2≤(l.filter p).length:=by
 have e:l.filter p=(l.take b).filter p++(l.drop b).filter p:=by rw[←abx,aaO]
 rw[e,aan]
 have h1:x∈(l.take b).filter p:=aaU.2 ⟨aah (i:=a) (by rw[aaz,if_pos hab];exact ha),hx⟩
 have h2:y∈(l.drop b).filter p:=aaU.2 ⟨aah (i:=0) (by rw[aaR];simpa using hb),hy⟩
 have:=List.length_pos_of_mem h1
 have:=List.length_pos_of_mem h2
 omega
theorem Ib {d:gI} {c:xY} (hg:Good d.revs) (hn:d.revs.length≤512) (hk:Aw d c):Good (jm d c).revs:=by
 have hE:=hk.edit
 have sp:∀(i:Nat) (v:Rev),(jm d c).revs[i]? =some v→(i<d.revs.length∧d.revs[i]? =some v)∨∃a,i=d.revs.length+a∧a<c.edits.length∧v=made c (c.edits.getD a dP):=by
  intro i v h
  simp only[jm] at h
  rcases aaT i d.revs.length with hi|hi
  ·rw[aa7 hi] at h;exact .inl ⟨hi,h⟩
  ·rw[abp hi] at h
   have ha:i-d.revs.length<c.edits.length:=by
    have:=(aal.1 h).1;simpa using this
   refine .inr ⟨i-d.revs.length,by omega,ha,?_⟩
   rw[aaH,aab ha] at h
   simp at h;rw[←h];simp[List.getD,ha]
 have nw:∀a:Nat,a<c.edits.length→(jm d c).revs[d.revs.length+a]? =some (made c (c.edits.getD a dP)):=by
  intro a ha
  simp only[jm]
  rw[abp (by omega),abd,aaH,aab ha]
  simp[List.getD,ha]
 have od:∀(i:Nat) (v:Rev),d.revs[i]? =some v→(jm d c).revs[i]? =some v:=by
  intro i v h
  simp only[jm]
  rw[aa7 (aal.1 h).1];exact h
 have lb:∀p, -1000000≤dU d p+1∧dU d p+1≤1000000:=fun p=>by have:=uw hg p;omega
 have mn:∀a,a<c.edits.length→(made c (c.edits.getD a dP)).num=dU d (c.edits.getD a dP).path+1:=by
  intro a ha
  simp only[made]
  rw[(hE a ha).okPrev,SX (lb _).1 (lb _).2]
 have mt:∀a,a<c.edits.length→(c.edits.getD a dP).act=4→∃b,b<c.edits.length∧(c.edits.getD b dP).act=5∧(c.edits.getD b dP).path=(c.edits.getD a dP).frm:=by
  intro a ha h4
  have hm:=hk.move (c.edits.getD a dP) (by rw[aam,aab ha];simp)
  generalize c.edits.getD a dP=e at*
  have hl:(c.edits.filter (Ip e)).length=1:=by
   simp only[Lr,h4,RI] at hm
   simp at hm;have hm:=aaG hm;omega
  obtain⟨y,hy⟩:∃y,y∈c.edits.filter (Ip e):=by
   cases hf:c.edits.filter (Ip e) with
   |nil=>rw[hf] at hl;simp at hl
   |cons y l=>exact⟨y,by simp⟩
  obtain⟨hy1,hy2⟩:=aaU.1 hy
  obtain⟨b,hb,e⟩:=aaL.1 hy1
  have e':c.edits.getD b dP=y:=by simp[List.getD,hb,e]
  simp[Ip,h4] at hy2
  exact⟨b,hb,by rw[e'];exact hy2.1,by rw[e'];exact hy2.2⟩
 constructor
 ·intro i v h
  rcases sp i v h with⟨_,h⟩|⟨a,rfl,ha,rfl⟩
  ·exact hg.num i v h
  ·rw[mn a ha]
   have:=uw hg (c.edits.getD a dP).path
   omega
 ·intro i v h
  rcases sp i v h with⟨_,h⟩|⟨a,rfl,ha,rfl⟩
  ·exact hg.act i v h
  ·exact⟨(hE a ha).okLo,(hE a ha).okHi⟩
 ·intro i j u v hij hu hv
  rcases sp i u hu with⟨h1,hu⟩|⟨a,rfl,ha,rfl⟩
  ·rcases sp j v hv with⟨h2,hv⟩|⟨b,rfl,hb,rfl⟩
   ·exact hg.chg i j u v hij hu hv
   ·have:=hk.old u (aah hu)
    show u.chg≤c.num
    omega
  ·rcases sp j v hv with⟨h2,hv⟩|⟨b,rfl,hb,rfl⟩
   ·omega
   ·exact Int.le_refl _
 ·intro i j u v hij hu hv hp
  rcases sp i u hu with⟨h1,hu⟩|⟨a,rfl,ha,rfl⟩
  ·rcases sp j v hv with⟨h2,hv⟩|⟨b,rfl,hb,rfl⟩
   ·exact hg.path i j u v hij hu hv hp
   ·refine⟨hk.old u (aah hu),?_⟩
    rw[mn b hb]
    have:=CS hg hu (p:=(c.edits.getD b dP).path) hp
    omega
  ·rcases sp j v hv with⟨h2,hv⟩|⟨b,rfl,hb,rfl⟩
   ·omega
   ·exact absurd hp (TC hE (by omega) hb)
 ·intro i v h n1 n4
  rcases sp i v h with⟨_,h⟩|⟨a,rfl,ha,rfl⟩
  ·obtain⟨j,u,h1,h2,h3⟩:=hg.prv i v h n1 n4
   exact⟨j,u,h1,od j u h2,h3⟩
  ·have hl:live d (c.edits.getD a dP).path=true:=by
    cases hl:live d (c.edits.getD a dP).path with
    |true=>rfl
    |false=>rcases(hE a ha).okLive.2 hl with h|h
            ·exact absurd h n1
            ·exact absurd h n4
   obtain⟨v,j,g1,g2,g3,g4,g5,g6⟩:=Ef hl
   have hj:=(aal.1 g2).1
   exact⟨j,v,by omega,od j v g2,g3,by rw[mn a ha,g6];omega,g4,g5,hk.old v (aah g2)⟩
 ·intro i v h h4
  rcases sp i v h with⟨_,h⟩|⟨a,rfl,ha,rfl⟩
  ·obtain⟨j,u,h1,h2,h3⟩:=hg.mov i v h h4
   exact⟨j,u,h1,od j u h2,h3⟩
  ·obtain⟨f1,f2,f3⟩:=(hE a ha).okFrm h4
   obtain⟨v,j,g1,g2,g3,g4,g5,g6⟩:=Ef f1
   have hj:=(aal.1 g2).1
   exact⟨j,v,by omega,od j v g2,g3,by rw[←g6];exact f2,g4,g5,hk.old v (aah g2)⟩
 ·intro i v h h4
  rcases sp i v h with⟨_,h⟩|⟨a,rfl,ha,rfl⟩
  ·obtain⟨j,u,h2,h3⟩:=hg.away i v h h4
   exact⟨j,u,od j u h2,h3⟩
  ·obtain⟨b,hb,b1,b2⟩:=mt a ha h4
   obtain⟨f1,f2,f3⟩:=(hE a ha).okFrm h4
   refine⟨_,_,nw b hb,b2,?_,b1⟩
   rw[mn b hb,b2,f2];rfl
 ·intro i j u v hij hu hv u4 v4 hf hn'
  rcases sp i u hu with⟨h1,hu⟩|⟨a,rfl,ha,rfl⟩
  ·rcases sp j v hv with⟨h2,hv⟩|⟨b,rfl,hb,rfl⟩
   ·exact hg.mov2 i j u v hij hu hv u4 v4 hf hn'
   ·obtain⟨k,w,w1,w2,w3,w4⟩:=hg.away i u hu u4
    obtain⟨f1,f2,f3⟩:=(hE b hb).okFrm v4
    have:=CS hg w1 (p:=(c.edits.getD b dP).frm) (by rw[w2,hf];rfl)
    rw[f2,w3,hn'] at this
    have:(made c (c.edits.getD b dP)).fnum=(c.edits.getD b dP).fnum:=rfl
    omega
  ·rcases sp j v hv with⟨h2,hv⟩|⟨b,rfl,hb,rfl⟩
   ·omega
   ·obtain⟨x,hx,x1,x2⟩:=mt a ha u4
    have hm:=hk.move (c.edits.getD x dP) (by rw[aam,aab hx];simp)
    have h2:=Lp (Ip (c.edits.getD x dP)) (l:=c.edits) (a:=a) (b:=b) (x:=c.edits.getD a dP) (y:=c.edits.getD b dP) (by omega) (by simp[List.getD,ha]) (by simp[List.getD,hb])
     (by simp only[Ip,x1,x2,show(c.edits.getD a dP).act=4 from u4];simp) (by simp only[Ip,x1,x2,show(c.edits.getD b dP).act=4 from v4,show(c.edits.getD a dP).frm=(c.edits.getD b dP).frm from hf];simp)
    generalize c.edits.getD x dP=e at*
    simp only[Lr,x1,RI] at hm
    simp at hm;have hm:=aaG hm;omega
theorem Tp:Good []:=by constructor<;>simp
theorem lI.good {l:List xY} {d:gI} (h:lI l d):Good d.revs:=by
 induction h with
 |nil=>exact Tp
 |skip c h ih=>exact ih
 |app h hc hk ih=>exact Ib ih h.ok.1 hk
def bY {κ ν:Type} [DecidableEq κ]:List (κ×ν)→κ→Option ν
 |[],_=>none
 |(a,b)::m,k=>if k=a then some b else bY m k
def Ld {κ ν:Type} [DecidableEq κ]:List (κ×ν)→κ→ν→List (κ×ν)
 |[],k,v=>[(k,v)]
 |(a,b)::m,k,v=>if k=a then(k,v)::m else(a,b)::Ld m k v
theorem tV {κ ν:Type} [DecidableEq κ] (m:List (κ×ν)) (k:κ) (v:ν) (j:κ):bY (Ld m k v) j=if j=k then some v else bY m j:=by
 induction m with
 |nil=>simp[Ld,bY]
 |cons p m ih=>
  obtain⟨a,b⟩:=p
  simp only[Ld]
  split
  ·rename_i e;subst e
   simp only[bY]
   split<;>simp_all
  ·rename_i e
   simp only[bY]
   rw[ih]
   split
   ·rename_i e2;subst e2
    rw[if_neg (fun h=>e h.symm)]
   ·rfl
@[reducible] def zn {κ ν:Type} (ke:κ→Bool×List D) (ve:ν→Bool×List D) (m:List (κ×ν)):List pG:=m.map fun p=>(ke p.1,ve p.2)
section
variable {κ ν:Type} [DecidableEq κ] {ke:κ→Bool×List D} {ve:ν→Bool×List D} (hk:∀a b,DK ((ke a).2.map C.d) ((ke b).2.map C.d)=decide (a=b))
include hk
theorem Pm (m:List (κ×ν)) (k:κ):mF ((ke k).2.map C.d) ((zn ke ve m).map D7)=(bY m k).map fun v=>L9 (ve v):=by
 induction m with
 |nil=>rfl
 |cons p m ih=>
  simp only[zn,aax,mF,D7,L9] at ih⊢
  rw[hk]
  simp only[bY]
  by_cases e:k=p.1
  ·simp[e,L9]
  ·simp only[e,abP,aak,if_false];exact ih
end
@[reducible] def kN (i:Int):Bool×List D:=(false,[.v (.int .i64 i)])
theorem XG (a b:Int):DK ((kN a).2.map C.d) ((kN b).2.map C.d)=decide (a=b):=by
 simp[kN,DK,Fj]
section
variable {κ:Type} [DecidableEq κ] {ke:κ→Bool×List D} (hk:∀a b,DK ((ke a).2.map C.d) ((ke b).2.map C.d)=decide (a=b))
include hk
end
structure rP where
 revs:List Rev
 index:List (Dw×Int)
 prev:List Int
 fst:List Int
 car:List (Option (List Int))
 con:List (Option (List Int))
 cre:List (Option (List Int))
def Cc (L:rP) (f:abW) (n:Int):Nat→List (Option (List Int))
 |0=>[]
 |k+1=>(match bY L.index ⟨f,n⟩ with|some i=>[L.con.getD i.toNat none]|none=>[])++Cc L f (n+1) k
def sU (L:rP) (r:iI):List (Option (List Int)):=Cc L r.frm (max r.first 1) (min r.last 512-max r.first 1+1).toNat
def OY (L:rP) (f:Dw):Option Int:=match bY L.index f with|some i=>if 0≤L.fst.getD i.toNat 0 then some i else none|none=>none
def upto (l:List Int) (s:Int):List Int:=match l with|[]=>[]|a::l=>if a=s then [a] else a::upto l s
def oG (v:Rev):Dw:=if v.act=1 then Vd else if v.act=4 then⟨v.frm,v.fnum⟩ else⟨v.path,v.num-1⟩
def lH (L:rP) (i:Nat) (v:Rev):Int:=match OY L (oG v) with|some u=>L.fst.getD u.toNat 0|none=>i
def F5 (L:rP) (v:Rev):Int:=match OY L (oG v) with|some u=>u|none=> -1
def iU (L:rP) (i:Nat) (v:Rev):rP:={L with prev:=L.prev.set i (if v.act=5 then-1 else F5 L v),fst:=L.fst.set i (if v.act=5 then-1 else lH L i v)}
structure Acc where
 car:List (Option (List Int))
 ign:List (Option (List Int))
 orig:Bool
def kT (L:rP) (a:Acc) (r:iI):Acc:=
 if r.how=1 then(match bY L.index ⟨r.frm,r.last⟩ with|some k=>⟨a.car++[L.car.getD k.toNat none],a.ign,a.orig⟩|none=>a)
 else if r.how=3 then⟨a.car,a.ign++sU L r,a.orig⟩
 else⟨a.car++sU L r,a.ign,a.orig||decide (r.how=4)⟩
def UN (L:rP) (i:Nat):Option (List Int):=if 0≤L.prev.getD i 0 then L.car.getD (L.prev.getD i 0).toNat none else none
def Xb (L:rP) (i:Nat):Option (List Int):=if 0≤L.prev.getD i 0 then L.cre.getD (L.prev.getD i 0).toNat none else none
def OA (L:rP) (i:Nat) (b:Bool):Acc:=⟨[UN L i],[Xb L i],b⟩
def oz (L:rP) (i:Nat) (rs:List iI):Acc:=rs.foldl (kT L) (OA L i (decide ((rs.length:Int)=0)))
def JW (L:rP) (i:Nat) (rs:List iI):List (Option (List Int)):=(oz L i rs).car++(if(oz L i rs).orig then [some [(i:Int)]] else [])
def ZK (l:List Int) (s:List (Option (List Int))):Prop:=∀k,k∈l↔∃o∈s,k∈o.getD []
structure XZ (L:rP) (i:Nat) (rs:List iI) (c k cr:List Int):Prop where
 car:ZK c (JW L i rs)
 con:∀x,x∈k↔x∈c∧¬x∈(UN L i).getD []
 cre:ZK cr ((oz L i rs).ign++[some c])
def J6 (L:rP) (i:Nat) (c k cr:List Int):rP:={L with car:=L.car.set i (some c),con:=L.con.set i (some k),cre:=L.cre.set i (some cr)}
def Aj (d:gI) (f:Dw):List iI:=d.recs.filter fun r=>decide ((⟨r.to,r.num⟩:Dw)=f)
def DJ (d:gI):rP:=⟨d.revs,[],List.replicate d.revs.length 0,List.replicate d.revs.length 0,List.replicate d.revs.length none,List.replicate d.revs.length none,List.replicate d.revs.length none⟩
def NG (L:rP) (f:Dw) (k:Nat):rP:={L with index:=Ld L.index f k}
def QG (me:List (Int×List Int)) (l:Int) (k:Nat):List (Int×List Int):=Ld me l ((bY me l).getD []++[(k:Int)])
inductive uy (d:gI):Nat→rP→List (Int×List Int)→Prop
 |zero:uy d 0 (DJ d) []
 |away {k:Nat} {L:rP} {me:List (Int×List Int)} {v:Rev} (h:uy d k L me) (hv:d.revs[k]? =some v) (h5:v.act=5):uy d (k+1) (NG (iU L k v) (fileOf v) k) me
 |memb {k:Nat} {L:rP} {me:List (Int×List Int)} {v:Rev} (h:uy d k L me) (hv:d.revs[k]? =some v) (h5:¬v.act=5) {c m cr:List Int} (hA:XZ (iU L k v) k (Aj d (fileOf v)) c m cr):
  uy d (k+1) (NG (J6 (iU L k v) k c m cr) (fileOf v) k) (QG me (lH L k v) k)
structure A8 (d:gI) (k:Nat) (L:rP) (me:List (Int×List Int)):Prop where
 kn:k≤d.revs.length
 revs:L.revs=d.revs
 lp:L.prev.length=d.revs.length
 lf:L.fst.length=d.revs.length
 lc:L.car.length=d.revs.length
 lo:L.con.length=d.revs.length
 lr:L.cre.length=d.revs.length
 ix:∀f i,bY L.index f=some i↔∃(j:Nat) (v:Rev),i=(j:Int)∧j<k∧d.revs[j]? =some v∧fileOf v=f
 f5:∀(j:Nat) (v:Rev),j<k→d.revs[j]? =some v→v.act=5→L.fst.getD j 0= -1∧L.con.getD j none=none∧L.car.getD j none=none
 fm:∀(j:Nat) (v:Rev),j<k→d.revs[j]? =some v→¬v.act=5→0≤L.fst.getD j 0∧L.fst.getD j 0≤j
 pm:∀(j:Nat) (v:Rev),j<k→d.revs[j]? =some v→¬v.act=5→
  (∃(u:Nat) (w:Rev),L.prev.getD j 0=(u:Int)∧u<j∧d.revs[u]? =some w∧¬w.act=5∧fileOf w=oG v∧¬v.act=1∧w.chg<v.chg∧L.fst.getD j 0=L.fst.getD u 0)∨(v.act=1∧L.prev.getD j 0= -1∧L.fst.getD j 0=j)
 mem:∀key:Int,0≤key→(bY me key).getD []=((List.range k).filter fun j=>decide (L.fst.getD j 0=key)).map fun j:Nat=>(j:Int)
 mne:∀key:Int,bY me key≠some []
 sets:∀(j:Nat) (v:Rev),j<k→d.revs[j]? =some v→¬v.act=5→∃c m cr,L.car.getD j none=some c∧L.con.getD j none=some m∧L.cre.getD j none=some cr
 un:∀j:Nat,k≤j→L.car.getD j none=none∧L.con.getD j none=none∧L.cre.getD j none=none
 bd:∀(j:Nat) (x:Int),x∈(L.car.getD j none).getD []∨x∈(L.con.getD j none).getD []∨x∈(L.cre.getD j none).getD []→0≤x∧x<k
theorem lF {α:Type} (l:List α) (i j:Nat) (a z:α) (h:i<l.length):(l.set i a).getD j z=if i=j then a else l.getD j z:=by
 simp only[List.getD,abA]
 split
 ·rename_i e;subst e;simp[h]
 ·rfl
theorem rQ {l:List Rev} (hg:Good l) {i j:Nat} {u v:Rev} (hu:l[i]? =some u) (hv:l[j]? =some v) (h:fileOf u=fileOf v):i=j:=by
 simp only[fileOf,Dw.mk.injEq] at h
 rcases Nat.lt_trichotomy i j with hlt|rfl|hlt
 ·have:=(hg.path i j u v hlt hu hv h.1).2;omega
 ·rfl
 ·have:=(hg.path j i v u hlt hv hu h.1.symm).2;omega
theorem O3 {l:List Rev} (hg:Good l) {k:Nat} {v:Rev} (hv:l[k]? =some v) (h5:¬v.act=5):
 (v.act=1∧oG v=Vd)∨(¬v.act=1∧∃(u:Nat) (w:Rev),u<k∧l[u]? =some w∧¬w.act=5∧fileOf w=oG v∧w.chg<v.chg):=by
 by_cases h1:v.act=1
 ·exact .inl ⟨h1,by simp[oG,h1]⟩
 ·refine .inr ⟨h1,?_⟩
  by_cases h4:v.act=4
  ·obtain⟨j,u,a1,a2,a3,a4,a5,a6,a7⟩:=hg.mov k v hv h4
   exact⟨j,u,a1,a2,a6,by simp[oG,h4,fileOf,a3,a4],a7⟩
  ·obtain⟨j,u,a1,a2,a3,a4,a5,a6,a7⟩:=hg.prv k v hv h1 h4
   exact⟨j,u,a1,a2,a6,by simp[oG,h1,h4,fileOf,a3,a4],a7⟩
theorem TP {l:List Rev} (hg:Good l) {j:Nat} {v:Rev} (hv:l[j]? =some v):fileOf v≠Vd:=by
 intro h
 have:=(hg.num j v hv).1
 simp only[fileOf,Vd,Dw.mk.injEq] at h
 omega
theorem A8.look {d:gI} {k:Nat} {L:rP} {me:List (Int×List Int)} (h:A8 d k L me) (hg:Good d.revs) {v:Rev} (hv:d.revs[k]? =some v) (h5:¬v.act=5):
 (v.act=1∧bY L.index (oG v)=none∧OY L (oG v)=none)∨
 (¬v.act=1∧∃(u:Nat) (w:Rev),u<k∧d.revs[u]? =some w∧¬w.act=5∧fileOf w=oG v∧w.chg<v.chg∧bY L.index (oG v)=some (u:Int)∧OY L (oG v)=some (u:Int)∧0≤L.fst.getD u 0∧L.fst.getD u 0≤u):=by
 rcases O3 hg hv h5 with⟨h1,hb⟩|⟨h1,u,w,a1,a2,a3,a4,a5⟩
 ·have hn:bY L.index (oG v)=none:=by
   cases hk:bY L.index (oG v) with
   |none=>rfl
   |some i=>
    obtain⟨j,w,_,_,b3,b4⟩:=(h.ix _ _).1 hk
    exact absurd (b4.trans hb) (TP hg b3)
  exact .inl ⟨h1,hn,by simp[OY,hn]⟩
 ·have hs:bY L.index (oG v)=some (u:Int):=(h.ix _ _).2 ⟨u,w,rfl,a1,a2,a4⟩
  obtain⟨f1,f2⟩:=h.fm u w a1 a2 a3
  exact .inr ⟨h1,u,w,a1,a2,a3,a4,a5,hs,by simp only[OY,hs,Int.toNat_natCast,f1,if_true],f1,f2⟩
theorem Ac (L:rP) (f:abW) (o:Option (List Int)):∀(k:Nat) (n:Int),o∈Cc L f n k↔∃(j i:Int),n≤j∧j<n+k∧bY L.index ⟨f,j⟩=some i∧o=L.con.getD i.toNat none
 |0,n=>by
  simp only[Cc,aad,false_iff,not_exists]
  rintro j i ⟨h1,h2,_⟩
  simp at h2;omega
 |k+1,n=>by
  simp only[Cc,aay,Ac L f o k (n+1)]
  constructor
  ·rintro(h|⟨j,i,h1,h2,h3,h4⟩)
   ·cases hk:bY L.index ⟨f,n⟩ with
    |none=>rw[hk] at h;simp at h
    |some i=>rw[hk] at h;simp at h;exact⟨n,i,by omega,by omega,hk,by simpa using h⟩
   ·exact⟨j,i,by omega,by omega,h3,h4⟩
  ·rintro⟨j,i,h1,h2,h3,h4⟩
   by_cases e:j=n
   ·subst e;left;rw[h3];simp[h4]
   ·exact .inr ⟨j,i,by omega,by omega,h3,h4⟩
theorem EY (L:rP) (r:iI) (o:Option (List Int)):o∈sU L r↔∃(j i:Int),r.first≤j∧1≤j∧j≤r.last∧j≤512∧bY L.index ⟨r.frm,j⟩=some i∧o=L.con.getD i.toNat none:=by
 rw[sU,Ac]
 constructor
 ·rintro⟨j,i,h1,h2,h3⟩;exact⟨j,i,by omega,by omega,by omega,by omega,h3⟩
 ·rintro⟨j,i,h1,h2,h3,h4,h5⟩;exact⟨j,i,by omega,by omega,h5⟩
theorem IU (L:rP) (a:Acc) (r:iI) (o:Option (List Int)):
 (o∈(kT L a r).car↔o∈a.car∨(r.how=1∧∃i,bY L.index ⟨r.frm,r.last⟩=some i∧o=L.car.getD i.toNat none)∨(¬r.how=1∧¬r.how=3∧o∈sU L r))∧
 (o∈(kT L a r).ign↔o∈a.ign∨(r.how=3∧o∈sU L r))∧((kT L a r).orig=true↔a.orig=true∨r.how=4):=by
 unfold kT
 by_cases h1:r.how=1
 ·rw[if_pos h1]
  have h3:¬r.how=3:=by omega
  have h4:¬r.how=4:=by omega
  cases hk:bY L.index ⟨r.frm,r.last⟩ with
  |none=>simp[h1]
  |some i=>simp[h1]
 ·rw[if_neg h1]
  by_cases h3:r.how=3
  ·rw[if_pos h3];simp[h3]
  ·rw[if_neg h3];simp[h1,h3]
theorem BM (L:rP) (o:Option (List Int)):∀(rs:List iI) (a:Acc),
 (o∈(rs.foldl (kT L) a).car↔o∈a.car∨∃r∈rs,(r.how=1∧∃i,bY L.index ⟨r.frm,r.last⟩=some i∧o=L.car.getD i.toNat none)∨(¬r.how=1∧¬r.how=3∧o∈sU L r))∧
 (o∈(rs.foldl (kT L) a).ign↔o∈a.ign∨∃r∈rs,r.how=3∧o∈sU L r)∧((rs.foldl (kT L) a).orig=true↔a.orig=true∨∃r∈rs,r.how=4)
 |[],a=>by simp
 |r::rs,a=>by
  obtain⟨h1,h2,h3⟩:=BM L o rs (kT L a r)
  obtain⟨g1,g2,g3⟩:=IU L a r o
  simp only[List.foldl_cons,h1,h2,h3,g1,g2,g3,Z9,exists_eq_or_imp,or_assoc]
  exact⟨trivial,trivial,trivial⟩
theorem Kv (L:rP) (i:Nat) (rs:List iI) (o:Option (List Int)):o∈JW L i rs↔o=UN L i∨(∃r∈rs,(r.how=1∧∃i,bY L.index ⟨r.frm,r.last⟩=some i∧o=L.car.getD i.toNat none)∨(¬r.how=1∧¬r.how=3∧o∈sU L r))∨
 ((rs=[]∨∃r∈rs,r.how=4)∧o=some [(i:Int)]):=by
 obtain⟨h1,h2,h3⟩:=BM L o rs (OA L i (decide ((rs.length:Int)=0)))
 have ho:((oz L i rs).orig=true↔rs=[]∨∃r∈rs,r.how=4):=by
  rw[oz,h3];simp[OA,Int.natCast_eq_zero,abL]
 rw[JW,aay,oz,h1]
 simp only[OA,aag,or_assoc]
 have:(o∈if(oz L i rs).orig=true then [some [(i:Int)]] else [])↔((rs=[]∨∃r∈rs,r.how=4)∧o=some [(i:Int)]):=by
  rw[←ho];split<;>simp_all
 rw[←this];rfl
theorem JJ (L:rP) (i:Nat) (rs:List iI) (o:Option (List Int)):o∈(oz L i rs).ign↔o=Xb L i∨∃r∈rs,r.how=3∧o∈sU L r:=by
 obtain⟨h1,h2,h3⟩:=BM L o rs (OA L i (decide ((rs.length:Int)=0)))
 rw[oz,h2];simp[OA]
theorem ND {d:gI} {k:Nat} {L:rP} {me:List (Int×List Int)} (h:A8 d k L me) (hg:Good d.revs) {v:Rev} (hv:d.revs[k]? =some v):
 ∀f i,bY (Ld L.index (fileOf v) (k:Int)) f=some i↔∃(j:Nat) (w:Rev),i=(j:Int)∧j<k+1∧d.revs[j]? =some w∧fileOf w=f:=by
 intro f i
 rw[tV]
 by_cases e:f=fileOf v
 ·subst e
  rw[if_pos rfl]
  constructor
  ·intro h;cases h;exact⟨k,v,rfl,by omega,hv,rfl⟩
  ·rintro⟨j,w,rfl,_,h2,h3⟩
   rw[rQ hg h2 hv h3]
 ·rw[if_neg e,h.ix]
  constructor
  ·rintro⟨j,w,h1,h2,h3⟩;exact⟨j,w,h1,by omega,h3⟩
  ·rintro⟨j,w,h1,h2,h3,h4⟩
   refine⟨j,w,h1,?_,h3,h4⟩
   by_cases ej:j=k
   ·subst ej;rw[hv] at h3;cases h3;exact absurd h4.symm e
   ·omega
theorem nR {k:Nat} {l m:List Int} (key:Int) (h:∀j,j<k→m.getD j 0=l.getD j 0):(List.range k).filter (fun j=>decide (m.getD j 0=key))=(List.range k).filter (fun j=>decide (l.getD j 0=key)):=
 List.filter_congr fun j hj=>by rw[h j (by simpa using hj)]
theorem WX {L:rP} {i:Nat} {rs:List iI} {c m cr:List Int} (hA:XZ L i rs c m cr) (P:Int→Prop) (hi:P i)
 (hb:∀(j:Nat) (x:Int),x∈(L.car.getD j none).getD []∨x∈(L.con.getD j none).getD []∨x∈(L.cre.getD j none).getD []→P x):∀x,x∈c∨x∈m∨x∈cr→P x:=by
 have h1:∀x,x∈c→P x:=by
  intro x hx
  obtain⟨o,ho,hxo⟩:=(hA.car x).1 hx
  rcases(Kv L i rs o).1 ho with rfl|⟨r,_,⟨_,k,_,rfl⟩|⟨_,_,ho⟩⟩|⟨_,rfl⟩
  ·unfold UN at hxo
   split at hxo
   ·exact hb _ x (.inl hxo)
   ·simp at hxo
  ·exact hb _ x (.inl hxo)
  ·obtain⟨_,k,_,_,_,_,_,rfl⟩:=(EY L r o).1 ho
   exact hb _ x (.inr (.inl hxo))
  ·simp at hxo;rw[hxo];exact hi
 rintro x (hx|hx|hx)
 ·exact h1 x hx
 ·exact h1 x ((hA.con x).1 hx).1
 ·obtain⟨o,ho,hxo⟩:=(hA.cre x).1 hx
  rcases aay.1 ho with ho|ho
  ·rcases(JJ L i rs o).1 ho with rfl|⟨r,_,_,ho⟩
   ·unfold Xb at hxo
    split at hxo
    ·exact hb _ x (.inr (.inr hxo))
    ·simp at hxo
   ·obtain⟨_,k,_,_,_,_,_,rfl⟩:=(EY L r o).1 ho
    exact hb _ x (.inr (.inl hxo))
  ·simp at ho;subst ho;exact h1 x (by simpa using hxo)
theorem Bl {α:Type} (n j:Nat) (a:α):(List.replicate n a).getD j a=a:=by
 simp only[List.getD,List.getElem?_replicate];split<;>rfl
theorem uy.inv {d:gI} (hg:Good d.revs) {k:Nat} {L:rP} {me:List (Int×List Int)} (h:uy d k L me):A8 d k L me:=by
 induction h with
 |zero=>
  have hz:∀j:Nat,(DJ d).car.getD j none=none∧(DJ d).con.getD j none=none∧(DJ d).cre.getD j none=none:=fun j=>⟨Bl _ _ _,Bl _ _ _,Bl _ _ _⟩
  refine⟨by simp,rfl,by simp[DJ],by simp[DJ],by simp[DJ],by simp[DJ],by simp[DJ],?_,?_,?_,?_,?_,?_,?_,fun j _=>hz j,?_⟩
  ·intro f i;simp[DJ,bY]
  ·intro j v hj;omega
  ·intro j v hj;omega
  ·intro j v hj;omega
  ·intro key _;simp[bY]
  ·intro key;simp[bY]
  ·intro j v hj;omega
  ·intro j x h
   obtain⟨h1,h2,h3⟩:=hz j
   rw[h1,h2,h3] at h
   rcases h with h|h|h<;>simp at h
 | @away k L me v h hv h5 ih=>
   have hk:k<d.revs.length:=(aal.1 hv).1
   have hF:∀j,(NG (iU L k v) (fileOf v) k).fst.getD j 0=if k=j then-1 else L.fst.getD j 0:=fun j=>by
    show(L.fst.set k _).getD j 0=_
    rw[lF _ _ _ _ _ (by rw[ih.lf];exact hk),if_pos h5]
   have hP:∀j,(NG (iU L k v) (fileOf v) k).prev.getD j 0=if k=j then-1 else L.prev.getD j 0:=fun j=>by
    show(L.prev.set k _).getD j 0=_
    rw[lF _ _ _ _ _ (by rw[ih.lp];exact hk),if_pos h5]
   have old:∀(j:Nat) (w:Rev),j<k+1→d.revs[j]? =some w→¬w.act=5→j<k:=by
    intro j w hj hw h
    by_cases e:j=k
    ·subst e;rw[hv] at hw;cases hw;exact absurd h5 h
    ·omega
   refine⟨hk,ih.revs,?_,?_,ih.lc,ih.lo,ih.lr,ND ih hg hv,?_,?_,?_,?_,ih.mne,?_,fun j hj=>ih.un j (by omega),?_⟩
   ·simp[NG,iU,ih.lp]
   ·simp[NG,iU,ih.lf]
   ·intro j w hj hw w5
    rw[hF]
    by_cases e:k=j
    ·subst e
     exact⟨if_pos rfl,(ih.un k (aat _)).2.1,(ih.un k (aat _)).1⟩
    ·rw[if_neg e];exact ih.f5 j w (by omega) hw w5
   ·intro j w hj hw w5
    have:=old j w hj hw w5
    rw[hF,if_neg (by omega)];exact ih.fm j w this hw w5
   ·intro j w hj hw w5
    have hj':=old j w hj hw w5
    rw[hP,hF,if_neg (by omega),if_neg (by omega)]
    rcases ih.pm j w hj' hw w5 with⟨u,w',a1,a2,a3⟩|h
    ·exact .inl ⟨u,w',a1,a2,by rw[hF,if_neg (by omega)];exact a3⟩
    ·exact .inr h
   ·intro key hkey
    rw[ih.mem key hkey,List.range_succ,abx,nR (l:=L.fst) (m:=(NG (iU L k v) (fileOf v) k).fst) key (fun j hj=>by rw[hF,if_neg (by omega)])]
    have:(List.filter (fun j=>decide ((NG (iU L k v) (fileOf v) k).fst.getD j 0=key)) [k])=[]:=by
     rw[abh,hF,if_pos rfl,if_neg (by simp;omega)];rfl
    rw[this,aaM]
   ·intro j w hj hw w5;exact ih.sets j w (old j w hj hw w5) hw w5
   ·intro j x hx;have:=ih.bd j x hx;omega
 | @memb k L me v h hv h5 c m cr hA ih=>
   have hk:k<d.revs.length:=(aal.1 hv).1
   generalize hL':NG (J6 (iU L k v) k c m cr) (fileOf v) k=L'
   have hF:∀j,L'.fst.getD j 0=if k=j then lH L k v else L.fst.getD j 0:=fun j=>by
    rw[←hL'];show(L.fst.set k _).getD j 0=_
    rw[lF _ _ _ _ _ (by rw[ih.lf];exact hk),if_neg h5]
   have hP:∀j,L'.prev.getD j 0=if k=j then F5 L v else L.prev.getD j 0:=fun j=>by
    rw[←hL'];show(L.prev.set k _).getD j 0=_
    rw[lF _ _ _ _ _ (by rw[ih.lp];exact hk),if_neg h5]
   have hC:∀j,L'.car.getD j none=if k=j then some c else L.car.getD j none:=fun j=>by
    rw[←hL'];show(L.car.set k _).getD j none=_
    rw[lF _ _ _ _ _ (by rw[ih.lc];exact hk)]
   have hO:∀j,L'.con.getD j none=if k=j then some m else L.con.getD j none:=fun j=>by
    rw[←hL'];show(L.con.set k _).getD j none=_
    rw[lF _ _ _ _ _ (by rw[ih.lo];exact hk)]
   have hR:∀j,L'.cre.getD j none=if k=j then some cr else L.cre.getD j none:=fun j=>by
    rw[←hL'];show(L.cre.set k _).getD j none=_
    rw[lF _ _ _ _ _ (by rw[ih.lr];exact hk)]
   have hlk:=ih.look hg hv h5
   have hln:0≤lH L k v∧lH L k v≤k:=by
    rcases hlk with⟨_,_,h⟩|⟨_,u,w,a1,a2,a3,a4,a5,a6,a7,a8,a9⟩
    ·simp only[lH,h];omega
    ·simp only[lH,a7,Int.toNat_natCast];omega
   refine⟨hk,?_,?_,?_,?_,?_,?_,?_,?_,?_,?_,?_,?_,?_,?_,?_⟩
   ·rw[←hL'];exact ih.revs
   ·rw[←hL'];simp[NG,J6,iU,ih.lp]
   ·rw[←hL'];simp[NG,J6,iU,ih.lf]
   ·rw[←hL'];simp[NG,J6,iU,ih.lc]
   ·rw[←hL'];simp[NG,J6,iU,ih.lo]
   ·rw[←hL'];simp[NG,J6,iU,ih.lr]
   ·rw[←hL'];exact ND ih hg hv
   ·intro j w hj hw w5
    have e:¬k=j:=by rintro rfl;rw[hv] at hw;cases hw;exact h5 w5
    rw[hF,hO,hC,if_neg e,if_neg e,if_neg e];exact ih.f5 j w (by omega) hw w5
   ·intro j w hj hw w5
    rw[hF]
    by_cases e:k=j
    ·subst e;rw[if_pos rfl];exact hln
    ·rw[if_neg e];exact ih.fm j w (by omega) hw w5
   ·intro j w hj hw w5
    rw[hF,hP]
    by_cases e:k=j
    ·subst e
     rw[hv] at hw;cases hw
     rw[if_pos rfl,if_pos rfl]
     rcases hlk with⟨h1,_,h⟩|⟨h1,u,w,a1,a2,a3,a4,a5,a6,a7,a8,a9⟩
     ·exact .inr ⟨h1,by simp only[F5,h],by simp only[lH,h]⟩
     ·refine .inl ⟨u,w,by simp only[F5,a7],a1,a2,a3,a4,h1,a5,?_⟩
      rw[hF,if_neg (by omega)];simp only[lH,a7,Int.toNat_natCast]
    ·rw[if_neg e,if_neg e]
     rcases ih.pm j w (by omega) hw w5 with⟨u,w',a1,a2,a3⟩|h
     ·exact .inl ⟨u,w',a1,a2,by rw[hF,if_neg (by omega)];exact a3⟩
     ·exact .inr h
   ·intro key hkey
    rw[List.range_succ,abx,nR (l:=L.fst) (m:=L'.fst) key (fun j hj=>by rw[hF,if_neg (by omega)]),aa2,←ih.mem key hkey,QG,tV]
    by_cases e:key=lH L k v
    ·subst e
     have:(List.filter (fun j=>decide (L'.fst.getD j 0=lH L k v)) [k])=[k]:=by
      rw[abh,hF,if_pos rfl,if_pos (by simp)];rfl
     rw[if_pos rfl,this];rfl
    ·have:(List.filter (fun j=>decide (L'.fst.getD j 0=key)) [k])=[]:=by
      rw[abh,hF,if_pos rfl,if_neg (by simp;exact fun h=>e h.symm)];rfl
     rw[if_neg e,this];simp
   ·intro key
    rw[QG,tV]
    split
    ·simp
    ·exact ih.mne key
   ·intro j w hj hw w5
    rw[hC,hO,hR]
    by_cases e:k=j
    ·subst e;exact⟨c,m,cr,if_pos rfl,if_pos rfl,if_pos rfl⟩
    ·rw[if_neg e,if_neg e,if_neg e];exact ih.sets j w (by omega) hw w5
   ·intro j hj
    rw[hC,hO,hR,if_neg (by omega),if_neg (by omega),if_neg (by omega)];exact ih.un j (by omega)
   ·intro j x hx
    rw[hC,hO,hR] at hx
    by_cases e:k=j
    ·rw[if_pos e,if_pos e,if_pos e] at hx
     refine WX hA (fun x=>0≤x∧x<((k+1:Nat):Int)) (by omega) ?_ x hx
     intro j x hx
     have:=ih.bd j x hx
     omega
    ·rw[if_neg e,if_neg e,if_neg e] at hx
     have:=ih.bd j x hx
     omega
structure SS where
 car:Dw→Prop
 con:Dw→Prop
 cre:Dw→Prop
theorem CV {d:gI} (hg:Good d.revs) {p:abW} {n:Int} {w:Rev}:zi d p n=some w↔∃j:Nat,d.revs[j]? =some w∧fileOf w=⟨p,n⟩:=by
 constructor
 ·intro h
  obtain⟨h1,h2,h3⟩:=uF h
  obtain⟨j,hj⟩:=aaX h1
  exact⟨j,hj,by simp[fileOf,h2,h3]⟩
 ·rintro⟨j,hj,he⟩
  simp only[fileOf,Dw.mk.injEq] at he
  cases h:zi d p n with
  |none=>
   exfalso
   have:=List.find?_eq_none.1 h w (by simp only[log,aaU];exact⟨aah hj,by simp[he.1]⟩)
   simp[he.2] at this
  |some u=>
   obtain⟨h1,h2,h3⟩:=uF h
   obtain⟨i,hi⟩:=aaX h1
   have:=rQ hg hi hj (by simp[fileOf,h2,h3,he.1,he.2])
   subst this;rw[hi] at hj;exact hj
theorem Xp {d:gI} {v:Rev} (h1:v.act=1):yj d v=none:=by simp[yj,h1]
theorem Xm {d:gI} (hg:Good d.revs) (hN:d.revs.length≤512) {k:Nat} {v:Rev} (hv:d.revs[k]? =some v) (h1:¬v.act=1):yj d v=zi d (oG v).path (oG v).num:=by
 have hn:=hg.num k v hv
 have hk:=(aal.1 hv).1
 unfold yj oG
 rw[if_neg h1,if_neg h1]
 split
 ·rfl
 ·rw[SX (by omega) (by omega)]
section
variable {d:gI} (hg:Good d.revs) (hN:d.revs.length≤512) {L:rP} {me:List (Int×List Int)} (hI:A8 d d.revs.length L me)
include hg hN hI
end
theorem VL {d:gI} (hg:Good d.revs) {f:Dw} {w:Rev}:GN d f.path f.num=some w↔∃j:Nat,d.revs[j]? =some w∧fileOf w=f∧¬w.act=5:=by
 unfold GN
 cases h:zi d f.path f.num with
 |none=>
  simp only[reduceCtorEq,false_iff,not_exists]
  rintro j ⟨h1,h2,_⟩
  rw[(CV hg).2 ⟨j,h1,h2⟩] at h;cases h
 |some v=>
  obtain⟨i,h1,h2⟩:=(CV hg).1 h
  simp only
  constructor
  ·intro hw
   split at hw
   ·cases hw
   ·cases hw;exact⟨i,h1,h2,by assumption⟩
  ·rintro⟨j,g1,g2,g3⟩
   have:=rQ hg h1 g1 (by rw[h2,g2])
   subst this;rw[h1] at g1;cases g1;rw[if_neg g3]
def dn:List UInt8→List (List UInt8)
 |[]=>[[]]
 |a::l=>if a=47 then []::dn l else match dn l with|[]=>[[a]]|h::t=>(a::h)::t
theorem jV:∀l,∃h t,dn l=h::t
 |[]=>⟨[],[],rfl⟩
 |a::l=>by
  obtain⟨h,t,e⟩:=jV l
  simp only[dn]
  split
  ·exact⟨_,_,rfl⟩
  ·rw[e];exact⟨_,_,rfl⟩
def PU (l:List UInt8):abW:=⟨l.toArray⟩
theorem Si (l:List UInt8):(PU l).data.toList=l:=rfl
theorem Qq (s:abW):PU s.data.toList=s:=rfl
theorem rM:∀{pre:List UInt8},(∀x∈pre,x≠47)→dn pre=[pre]
 |[],_=>rfl
 |a::l,h=>by
  rw[dn,if_neg (h a (by simp)),rM fun x hx=>h x (by simp[hx])]
theorem tq:∀{pre post:List UInt8},(∀x∈pre,x≠47)→dn (pre++47::post)=pre::dn post
 |[],_,_=>by simp[dn]
 |a::l,post,h=>by
  rw[List.cons_append,dn,if_neg (h a (by simp)),tq fun x hx=>h x (by simp[hx])]
theorem Hl:∀l:List UInt8,(Lib.indexByte l 47<0∧∀x∈l,x≠47)∨∃pre post,l=pre++47::post∧Lib.indexByte l 47=pre.length∧∀x∈pre,x≠47
 |[]=> .inl ⟨by simp[Lib.indexByte],by simp⟩
 |a::l=>by
  by_cases ha:a=47
  ·subst ha;exact .inr ⟨[],l,rfl,by simp[Lib.indexByte],by simp⟩
  ·rcases Hl l with⟨h1,h2⟩|⟨pre,post,h1,h2,h3⟩
   ·refine .inl ⟨?_,?_⟩
    ·have:=Lib.indexByte_ge l 47
     have e:Lib.indexByte l 47= -1:=by omega
     simp[Lib.indexByte,ha,e]
    ·intro x hx
     rcases Z9.1 hx with rfl|hx
     ·exact ha
     ·exact h2 x hx
   ·refine .inr ⟨a::pre,post,by rw[h1];rfl,?_,?_⟩
    ·have:¬(pre.length:Int)= -1:=by omega
     simp[Lib.indexByte,ha,h2,this]
    ·intro x hx
     rcases Z9.1 hx with rfl|hx
     ·exact ha
     ·exact h3 x hx
theorem IG:∀(n:Nat) (l:List UInt8),Lib.countByte l 47≤n→splitN n (PU l)=(dn l).map PU
 |0,l,h=>by
  have:∀x∈l,x≠47:=by
   intro x hx e
   subst e
   have:=List.count_pos_iff.2 hx
   simp only[Lib.countByte] at h;omega
  rw[rM this];rfl
 |n+1,l,h=>by
  rcases Hl l with⟨h1,h2⟩|⟨pre,post,h1,h2,h3⟩
  ·rw[rM h2,Aa (by simpa[lU,Si] using h1)];rfl
  ·have hi:lU (PU l)=pre.length:=h2
   have hnn:¬lU (PU l)<0:=by omega
   subst h1
   rw[tq h3,splitN,if_neg hnn,hi,aax]
   have hc:Lib.countByte post 47≤n:=by
    simp only[Lib.countByte] at h⊢
    rw[List.count_append,List.count_cons_self] at h;omega
   rw[←IG n post hc]
   congr 1
   ·apply ByteArray.ext;rw[abz];simp[PU]
   ·congr 1
    apply ByteArray.ext;rw[abz];simp[PU,ByteArray.size];exact aaP (by omega)
theorem Nh (s:abW):split s=(dn s.data.toList).map PU:=IG _ _ (aat _)
theorem uu {p:abW} {k:Nat} (hk:k<p.size):∃x,p.data.toList[k]? =some x∧byteAt p k=(x.toNat:Int):=by
 have h:k<p.data.size:=hk
 exact⟨p.data[k],by simp[h],by simp[byteAt,Array.getD,h,hk]⟩
theorem E5 {p:abW} {k:Nat} {x:UInt8} (hx:p.data.toList[k]? =some x):byteAt p k=47↔x=47:=by
 have hk:k<p.size:=by have:=(aal.1 hx).1;simpa using this
 obtain⟨y,h1,h2⟩:=uu hk
 rw[hx] at h1;cases h1
 rw[h2]
 constructor
 ·intro h;exact UInt8.toNat_inj.1 (by simpa using(by omega:x.toNat=47))
 ·rintro rfl;rfl
end Go.Proofs.YtpoodoknkbojgaaGreatDoor
namespace Go.Ab
variable [Dr] {P:Program} {f:FuncId} {args args1:List AV} {st st1:List (Nat×AO)} {R R1:AV→List (Nat×AO)→Prop}
theorem Fr.start (x:X) (w:World) (h:x.w0=w):Fr x w:=by
 subst h
 exact⟨aat _,fun _ _ _=>rfl,rfl,rfl,rfl,fun _=>aat _⟩
omit [Dr] in
theorem xG {σ:Nat→Nat} (h:∀i j,σ i=σ j→i=j):∀{l:List Nat},l.Nodup→(l.map σ).Nodup
 |[],_=> .nil
 |i::l,hl=>by
  rw[List.nodup_cons] at hl
  rw[aax,List.nodup_cons,aaD]
  refine⟨?_,xG h hl.2⟩
  rintro⟨j,hj,e⟩
  exact hl.1 (h _ _ e▸hj)
omit [Dr] in
theorem JA {k k':K} {σ:Nat→Nat} {dom:Nat→Bool} (hR:∀c v,bi dom c→ai k (bP σ c) v→ai k' c v):∀{l:List AV} {us:List Value},(∀v∈l,aA dom v)→aj (af k) (l.map (bF σ)) us→aj (af k') l us
 |[],us,_,h=>by cases h;exact .nil
 |v::l,us,hc,h=>by
  cases h with
  |cons h h'=>exact .cons (ik hR (hc v (by simp)) h) (JA hR (fun u hu=>hc u (by simp[hu])) h')
theorem P8 {σ τ:Nat→Nat} (h1:∀i,σ (τ i)=i) (h2:∀i,τ (σ i)=i) (h:AC P f args st R)
 (hst:∀p∈st,get st1 (σ p.1)=some (aX σ p.2)) (hnd:(st.map (·.1)).Nodup) (hcl:∀p∈st,aN (ae st) p.2) (hdom:∀id,ae st1 id=true→ae st (τ id)=true)
 (ha:args1=args.map (bF σ)) (hac:∀v∈args,aA (ae st) v)
 (hR:∀r0 st0,R r0 st0→∃r st2,R1 r st2∧(∀p∈st2,get st0 (τ p.1)=some (aX τ p.2))∧(st2.map (·.1)).Nodup∧(∀p∈st2,aN (ae st2) p.2)∧r0=bF τ r∧aA (ae st2) r∧∀id,ae st1 id=true→ae st2 id=true):
 AC P f args1 st1 R1:=by
 refine⟨h.1,fun bl cap F w us hs hargs=>?_⟩
 subst ha
 have hs0:aP {X.start bl cap F st1 w with d0:=fun _=>False} bl cap st1 w:=
  ⟨hs.objs,hs.disj,hs.nodup,hs.new,hs.lt,Fr.start _ _ rfl,fun _ h=>h.elim,⟨hs.xok.lt,hs.xok.dis⟩⟩
 have hinj:(st.map fun p=>σ p.1).Nodup:=by
  have e:(st.map fun p=>σ p.1)=(st.map (·.1)).map σ:=by rw[abl];rfl
  rw[e]
  exact xG (fun i j e=>by rw[←h2 i,e,h2 j]) hnd
 obtain⟨s1,s2,s3⟩:=hs0.sub (ρ:=σ) (st':=st) ⟨hst,hinj,hcl,fun _ h=>h.elim⟩
 have hMM:∀b,MM bl st1 b→MM (bl∘σ) st b:=by
  rintro b ⟨id,o,a1,a2,a3⟩
  have hd:=hdom id (by simp[ae,a1])
  simp only[ae,aaq] at hd
  obtain⟨o',ho'⟩:=hd
  have:=hst _ (get_mem ho')
  simp only[h1] at this
  rw[a1] at this
  cases this
  exact⟨τ id,o',ho',by rw[jo] at a2;exact a2,by simpa[h1] using a3⟩
 have hMM':∀b,MM (bl∘σ) st b→MM bl st1 b:=by
  rintro b ⟨id,o,a1,a2,a3⟩
  exact⟨σ id,aX σ o,hst _ (get_mem a1),by rw[jo];exact a2,a3⟩
 have hin:aP (X.start (bl∘σ) (cap∘σ) F st w) (bl∘σ) (cap∘σ) st w:=
  ⟨s1.objs,s1.disj,s1.nodup,fun b hb=> .inl hb,s1.lt,Fr.start _ _ rfl,fun id h=>⟨h,rfl,rfl⟩,⟨hs.xok.lt,fun b hb hm=>hs.xok.dis b hb (hMM' b hm)⟩⟩
 have hargs':aj (af (mkK (X.start (bl∘σ) (cap∘σ) F st w) (bl∘σ) (cap∘σ) st w)) args us:=JA s3 hac hargs
 refine(h.2 _ _ _ _ _ hin hargs').mono ?_
 rintro e w' ⟨r0,st0,bl',cap',v,rfl,hr0,hnd0,hs',hrep⟩
 obtain⟨r,st2,hr,g1,g2,g3,rfl,g5,g6⟩:=hR r0 st0 hr0
 have t0:aP {X.start (bl∘σ) (cap∘σ) F st w with d0:=fun _=>False} bl' cap' st0 w':=
  ⟨hs'.objs,hs'.disj,hs'.nodup,hs'.new,hs'.lt,⟨hs'.fr.size,hs'.fr.heap,hs'.fr.os,hs'.fr.output,hs'.fr.tape,hs'.fr.drawn⟩,fun _ h=>h.elim,⟨hs'.xok.lt,hs'.xok.dis⟩⟩
 have hinj2:(st2.map fun p=>τ p.1).Nodup:=by
  have e:(st2.map fun p=>τ p.1)=(st2.map (·.1)).map τ:=by rw[abl];rfl
  rw[e]
  exact xG (fun i j e=>by rw[←h1 i,e,h1 j]) g2
 obtain⟨u1,u2,u3⟩:=t0.sub (ρ:=τ) (st':=st2) ⟨g1,hinj2,g3,fun _ h=>h.elim⟩
 refine⟨r,st2,bl'∘τ,cap'∘τ,v,rfl,hr,g2,⟨u1.objs,u1.disj,u1.nodup,fun b hb=>(u1.new b hb).imp (hMM' b) fun h=>h,u1.lt,⟨hs'.fr.size,fun b hb hm=>hs'.fr.heap b hb fun h=>hm (hMM' b h),hs'.fr.os,hs'.fr.output,hs'.fr.tape,hs'.fr.drawn⟩,?_,hs.xok⟩,ik u3 g5 hrep⟩
 intro id hid
 have hd:=hdom id hid
 obtain⟨k1,k2,k3⟩:=hs'.keep (τ id) hd
 exact⟨g6 id hid,k2.trans (by simp[X.start,h1]),k3.trans (by simp[X.start,h1])⟩
def sw (i j n:Nat):Nat:=if n=i then j else if n=j then i else n
omit [Dr] in
theorem VX (i j n:Nat):sw i j (sw i j n)=n:=by
 unfold sw
 by_cases h1:n=i
 ·subst h1
  rw[if_pos rfl]
  by_cases h2:j=n
  ·subst h2;simp
  ·rw[if_neg h2,if_pos rfl]
 ·by_cases h2:n=j
  ·subst h2;rw[if_neg h1,if_pos rfl,if_pos rfl]
  ·rw[if_neg h1,if_neg h2,if_neg h1,if_neg h2]
omit [Dr] in
theorem VH {a b:Nat} (ha:a≠2000) (hb:b≠2000) (hab:a≠b):∃σ τ:Nat→Nat,(∀i,σ (τ i)=i)∧(∀i,τ (σ i)=i)∧σ 2000=2000∧σ 2001=a∧σ 2002=b:=by
 refine⟨fun n=>sw (sw 2001 a 2002) b (sw 2001 a n),fun n=>sw 2001 a (sw (sw 2001 a 2002) b n),fun i=>by simp only[VX],fun i=>by simp only[VX],?_,?_,?_⟩
 ·simp[sw];repeat' split
  all_goals omega
 ·simp[sw];repeat' split
  all_goals omega
 ·simp[sw];repeat' split
  all_goals omega
theorem JQ {x:X} {s:S} {i id id' sz off n:Nat} {o:AO} (he:get s.env i=some (.c (.ms id sz off n))) (hid:get s.st id=some o) (hl:o.bf=true) (hid':get s.st id'=none):
 mZ x s ⟨s.n,put s.env i (.c (.ms id' sz off n)),put (put s.st id .dead) id' o⟩:=by
 rintro a w ⟨bl,cap,hs,henv,hd,hsz⟩
 have hle:=zB (x:=x) (bl:=bl) (cap:=cap) (w:=w) hid hl hid'
 refine⟨_,_,hs.move hid hl hid',?_,hd.le hle,hsz⟩
 intro j v hv
 simp only at hv⊢
 rw[get_put] at hv
 by_cases e:i=j
 ·subst e;simp at hv;subst hv
  obtain⟨u,hu,hdm,h1,h2⟩:=henv i _ he
  refine⟨u,hu,by simp[mkK,get_put],?_,?_⟩
  ·simpa[mkK] using h1
  ·simpa[mkK] using h2
 ·simp only[e,if_false] at hv
  obtain⟨u,hu,hr⟩:=henv j v hv
  exact⟨u,hu,hr.le hle⟩
theorem jA {x:X} {s:S} {bid id id' sz off n j:Nat} {cs:List C} {o:AO} (hne:bid≠id) (hne':bid≠id') (hb:get s.st bid=some (.box cs)) (hj:cs[j]? =some (.ms id sz off n)) (hid:get s.st id=some o) (hl:o.bf=true) (hid':get s.st id'=none):
 mZ x s ⟨s.n,s.env,put (put (put s.st id .dead) id' o) bid (.box (cs.set j (.ms id' sz off n)))⟩:=by
 rintro a w ⟨bl,cap,hs,henv,hd,hsz⟩
 have hle:=zB (x:=x) (bl:=bl) (cap:=cap) (w:=w) hid hl hid'
 have hm:=hs.move hid hl hid'
 have hb':get (put (put s.st id .dead) id' o) bid=some (.box cs):=by rw[aZ (Ne.symm hne'),aZ (Ne.symm hne)];exact hb
 obtain⟨b,T,vs,h1,h2,h3⟩:=hm.objs bid _ hb'
 have hon:jC (fu bl id' (bl id) bid) w w:=⟨rfl,fun _ _=>rfl,rfl,rfl,rfl,aat _⟩
 have hle2:=lw (x:=x) (cap:=fu cap id' (cap id)) (o':= .box (cs.set j (.ms id' sz off n))) hb' rfl hon
 refine⟨_,_,hm.upd hb' rfl hon ⟨b,T,vs,h1,h2,?_⟩,(henv.le hle).le hle2,(hd.le hle).le hle2,hsz⟩
 obtain⟨b0,T0,vs0,g1,g2,g3⟩:=hs.objs bid _ hb
 have hvs:vs0=vs:=by
  have e:fu bl id' (bl id) bid=bl bid:=dE _ _ hne'
  simp only[mkK] at h1 g1 h2 g2
  rw[e,g1] at h1
  simp at h1;subst h1
  rw[g2] at h2;simp at h2;exact h2.1
 subst hvs
 obtain⟨v,hv,hr⟩:=g3.get hj
 have hr':ai (mkK x (fu bl id' (bl id)) (fu cap id' (cap id)) (put (put s.st id .dead) id' o) w) (.ms id' sz off n) v:=by
  obtain⟨hdm,k1,k2⟩:=hr
  refine⟨by simp[mkK,get_put],?_,?_⟩
  ·simpa[mkK] using k1
  ·simpa[mkK] using k2
 have:=(g3.mono fun _ _=>ai.le hle).set (i:=j) hr'
 rw[show vs0.set j v=vs0 from by
  apply aa6;intro i
  rw[abA]
  split
  ·rename_i e;subst e;rw[hv];simp[(aal.1 hv).1]
  ·rfl] at this
 exact this.mono fun _ _=>ai.le hle2
end Go.Ab
namespace Go.Ab
section
variable [Dr] {P:Program} {x:X} {Q:Exit→S→Prop} {s:S} {ops l:List Oper} {d:Tmp} {T ty ty2:TypeId} {y z:Operand} {pos:String} {after:Array Edge}
theorem JM {op:BinOp} {u v r:Value} (hd:d<s.n) (hy:ev s y=some (.c (.d (.v u)))) (hz:ev s z=some (.c (.d (.v v)))) (h1:r.oneCell'=true)
 (hrun:∀w,(do eqGuard op T y z u v;binOp op T u v:Sem Value).run P w= .ok r w)
 (hk:TO P x ops l ⟨s.n,put s.env d (.c (.d (.v r))),s.st⟩ Q):TO P x ops (⟨some d, .binOp op T y z ty2,ty,pos,after,none⟩::l) s Q:=by
 rintro A w ⟨bl,cap,hs,henv,hdf,hsz⟩
 have e1:A.eval y=u:=gG (bJ henv hy)
 have e2:A.eval z=v:=gG (bJ henv hz)
 have hrun2:(execOp A.eval ⟨some d, .binOp op T y z ty2,ty,pos,after,none⟩).run P w= .ok (.value r) w:=by
  simp only[execOp,e1,e2]
  exact dW (hrun w)
 refine wpList_plain rfl fun K hK=>?_
 unfold Oper.wp
 rw[hrun2]
 exact hK _ _ (hk _ _ ⟨bl,cap,hs,henv.put (by rw[hsz];exact hd) (.v _ h1),by rw[Act.put_defers];exact hdf,by rw[Act.bK];exact hsz⟩)
theorem Ya {op:UnOp} {u r:Value} (hd:d<s.n) (hy:ev s y=some (.c (.d (.v u)))) (h1:r.oneCell'=true)
 (hrun:∀w,(Go.Op.unary op u).run P w= .ok r w)
 (hk:TO P x ops l ⟨s.n,put s.env d (.c (.d (.v r))),s.st⟩ Q):TO P x ops (⟨some d, .unOp op T y,ty,pos,after,none⟩::l) s Q:=by
 rintro A w ⟨bl,cap,hs,henv,hdf,hsz⟩
 have e1:A.eval y=u:=gG (bJ henv hy)
 have hrun2:(execOp A.eval ⟨some d, .unOp op T y,ty,pos,after,none⟩).run P w= .ok (.value r) w:=by
  simp only[execOp,e1]
  exact dW (hrun w)
 refine wpList_plain rfl fun K hK=>?_
 unfold Oper.wp
 rw[hrun2]
 exact hK _ _ (hk _ _ ⟨bl,cap,hs,henv.put (by rw[hsz];exact hd) (.v _ h1),by rw[Act.put_defers];exact hdf,by rw[Act.bK];exact hsz⟩)
theorem CG {k k':IntKind} {a b:Int} {n:Nat} (hd:d<s.n) (hy:ev s y=some (.c (.d (.v (.int k a))))) (hz:ev s z=some (.c (.d (.v (.int k' b))))) (hb:b=n) (hn:n≤k.bits)
 (hk:TO P x ops l ⟨s.n,put s.env d (.c (.d (.v (.int k (a/2^n))))),s.st⟩ Q):TO P x ops (⟨some d, .binOp .shr T y z ty2,ty,pos,after,none⟩::l) s Q:=
 JM hd hy hz rfl (fun w=>by
  subst hb
  have hg:(eqGuard .shr T y z (.int k a) (.int k' n)).run P w= .ok () w:=rfl
  simp only[Sem.run_bind,hg,Result.andThen_ok,binOp_shr,shift_shr k k' a n (by omega) (by omega),Int.toNat_natCast,Sem.run_pure]) hk
theorem Qh {k k':IntKind} {a b:Int} {n:Nat} (hd:d<s.n) (hy:ev s y=some (.c (.d (.v (.int k a))))) (hz:ev s z=some (.c (.d (.v (.int k' b))))) (hb:b=n) (hn:n≤k.bits)
 (hk:TO P x ops l ⟨s.n,put s.env d (.c (.d (.v (.int k (k.wrap (a*2^n)))))),s.st⟩ Q):TO P x ops (⟨some d, .binOp .shl T y z ty2,ty,pos,after,none⟩::l) s Q:=
 JM hd hy hz rfl (fun w=>by
  subst hb
  have hg:(eqGuard .shl T y z (.int k a) (.int k' n)).run P w= .ok () w:=rfl
  simp only[Sem.run_bind,hg,Result.andThen_ok,binOp_shl,shift_shl k k' a n (by omega) (by omega),Int.toNat_natCast,Sem.run_pure]) hk
theorem mg {op:BinOp} {k:IntKind} {a b:Int} (hop:op= .and∨op= .or∨op= .xor) (hd:d<s.n) (hy:ev s y=some (.c (.d (.v (.int k a))))) (hz:ev s z=some (.c (.d (.v (.int k b)))))
 (hk:TO P x ops l ⟨s.n,put s.env d (.c (.d (.v (.int k (bits op k a b))))),s.st⟩ Q):TO P x ops (⟨some d, .binOp op T y z ty2,ty,pos,after,none⟩::l) s Q:=
 JM hd hy hz rfl (fun w=>by
  have hg:(eqGuard op T y z (.int k a) (.int k b)).run P w= .ok () w:=by rcases hop with rfl|rfl|rfl<;>rfl
  simp only[Sem.run_bind,hg,Result.andThen_ok]
  rcases hop with rfl|rfl|rfl<;>simp[binOp,intBits_and,intBits_or,intBits_xor]) hk
theorem uH {T2:TypeId} {k k0 k':IntKind} {a:Int} (hd:d<s.n) (hy:ev s y=some (.c (.d (.v (.int k' a))))) (h1:P.underlying T=some (.int k0)) (h2:P.underlying T2=some (.int k))
 (hk:TO P x ops l ⟨s.n,put s.env d (.c (.d (.v (.int k (k.wrap a))))),s.st⟩ Q):TO P x ops (⟨some d, .convert T T2 y,ty,pos,after,none⟩::l) s Q:=by
 rintro A w ⟨bl,cap,hs,henv,hdf,hsz⟩
 have e1:A.eval y= .int k' a:=gG (bJ henv hy)
 have hrun2:(execOp A.eval ⟨some d, .convert T T2 y,ty,pos,after,none⟩).run P w= .ok (.value (.int k (k.wrap a))) w:=by
  simp only[execOp,e1]
  refine dW ?_
  simp only[convert,Sem.run_bind,run_underlying h1,run_underlying h2,Result.andThen_ok,Conv.intToInt,Sem.run_pure]
 refine wpList_plain rfl fun K hK=>?_
 unfold Oper.wp
 rw[hrun2]
 exact hK _ _ (hk _ _ ⟨bl,cap,hs,henv.put (by rw[hsz];exact hd) (.v _ rfl),by rw[Act.put_defers];exact hdf,by rw[Act.bK];exact hsz⟩)
theorem Qj {e:TypeId} {t:TI} {ats:Array TypeId} {id sz:Nat} (hd:d<s.n) (hy:ev s y=some (.c (.ms id sz 0 0))) (hz:ev s z=some (.c (.d (.v (.slice none 0 0))))) (ha:ats[0]? =some T) (he:xg P T=some e) (ht:ti P e=some t)
 (hk:TO P x ops l ⟨s.n,put s.env d (.c (.d (.v (.int .i64 0)))),s.st⟩ Q):TO P x ops (⟨some d, .call {callee:= .builtin .copy,args:= #[y,z],argTypes:=ats},ty,pos,after,none⟩::l) s Q:=by
 rintro A w ⟨bl,cap,hs,henv,hdf,hsz⟩
 have e2:A.eval z= .slice none 0 0:=gG (bJ henv hz)
 have h1:=bJ henv hy
 obtain⟨hdm,hcap,hh⟩:=h1
 obtain⟨a,cp,e1⟩:∃a cp,A.eval y= .slice a 0 cp:=by
  rcases hh with⟨_,a,h⟩|⟨_,b,_,h⟩
  ·exact⟨a,0,h⟩
  ·exact⟨_,_,h⟩
 have hrun2:(execOp A.eval ⟨some d, .call {callee:= .builtin .copy,args:= #[y,z],argTypes:=ats},ty,pos,after,none⟩).run P w= .ok (.value (.int .i64 0)) w:=by
  simp only[execOp,resolve,Sem.run_bind,Sem.run_pure,Result.andThen_ok,invoke,builtin]
  have e3:Array.map A.eval #[y,z]= #[.slice a 0 cp, .slice none 0 0]:=by simp[e1,e2]
  rw[e3]
  have:(Builtin.copy_ ats ty #[.slice a 0 cp, .slice none 0 0]).run P w= .ok (.int .i64 0) w:=by
   cases a<;>simp[Builtin.copy_,ha,run_underlying (iJ he),Builtin.lenOf,aQ w ht,Builtin.firstCells,storeCells,goInt]
  rw[this];rfl
 refine wpList_plain rfl fun K hK=>?_
 unfold Oper.wp
 rw[hrun2]
 exact hK _ _ (hk _ _ ⟨bl,cap,hs,henv.put (by rw[hsz];exact hd) (.v _ rfl),by rw[Act.put_defers];exact hdf,by rw[Act.bK];exact hsz⟩)
@[reducible] def bU (b:UInt8):List D:=[.v (.int .u8 b.toNat)]
@[reducible] def jX (l:List UInt8):List (List C):=l.map fun b=>[.d (.v (.int .u8 b.toNat))]
omit [Dr] in
theorem yP (k:K):∀l:List UInt8,aj (ai k) (jX l).flatten (l.map fun b=>Value.int .u8 b.toNat)
 |[]=> .nil
 |b::l=> .cons (.v _ rfl) (yP k l)
theorem PR {e:TypeId} {t:TI} {T2:TypeId} {id0 n:Nat} {xs:List (List C)} {str:abW} (hd:d<s.n) (hid:get s.st d=none) (hy:ev s y=some (.c (.ms id0 1 0 n))) (hn:n=xs.length) (hid0:get s.st id0=some (.arr 1 xs)) (hne:id0≠d)
 (hz:ev s z=some (.c (.d (.v (.string str))))) (he:xg P T=some e) (ht:ti P e=some t) (hts:t.size=1) (htb:t.bytes=1) (h2:P.underlying T2=some .string) (hby:n+str.size≤140737488355328)
 (hk:TO P x ops l ⟨s.n,put s.env d (.c (.ms d 1 0 (n+str.size))),put (put s.st id0 .dead) d (.arr 1 (xs++jX str.data.toList))⟩ Q):
 TO P x ops (⟨some d, .call {callee:= .builtin .append,args:= #[y,z],argTypes:= #[T,T2]},ty,pos,after,none⟩::l) s Q:=by
 subst hn
 rintro A w ⟨bl,cap,hs,henv,hdf,hsz⟩
 have e2:A.eval z= .string str:=gG (bJ henv hz)
 have hlen:(jX str.data.toList).length=str.size:=by simp[jX]
 obtain⟨bl',cap',w',u,r1,r2,r3,r4⟩:=Ij (P:=P) (T:=T) (T':=T2) (ty:=ty) (ys:=jX str.data.toList) (ub:= .string str) (ua:=A.eval y) hs hid (iJ he) (.inr h2) ht (by rw[hts];exact hid0) hne (by omega)
  (by rw[htb,hlen];omega) (by intro c hc;simp only[jX,aaD] at hc;obtain⟨b,_,rfl⟩:=hc;simp[hts])
  (fun w2=>by rw[hlen];rfl) (yP _ _) (fun w2 _=>by
    rw[hlen]
    have e3:str.extract 0 str.size=str:=ByteArray.extract_zero_size
    simp only[Builtin.firstCells,e3,Sem.run_pure]
    congr 1
    apply Array.ext'
    simp) (by rw[hts];exact bJ henv hy)
 rw[hts,hlen] at r4
 rw[hts] at r2 r3
 have hrun2:(execOp A.eval ⟨some d, .call {callee:= .builtin .append,args:= #[y,z],argTypes:= #[T,T2]},ty,pos,after,none⟩).run P w= .ok (.value u) w':=by
  simp only[execOp,resolve,Sem.run_bind,Sem.run_pure,Result.andThen_ok,invoke,builtin]
  have e3:Array.map A.eval #[y,z]= #[A.eval y, .string str]:=by simp[e2]
  rw[e3,r1];rfl
 refine wpList_plain rfl fun K hK=>?_
 unfold Oper.wp
 rw[hrun2]
 exact hK _ _ (hk _ _ ⟨bl',cap',r2,(henv.le r3).put (by rw[hsz];exact hd) r4,by rw[Act.put_defers];exact hdf.le r3,by rw[Act.bK];exact hsz⟩)
end
end Go.Ab
namespace Go.Ab
variable [Dr] {P:Program} {x:X}
theorem S9 {Q:Exit→S→Prop} {s:S} {ops l:List Oper} {d:Tmp} {T e:TypeId} {t:TI} {y z:Operand} {ty:TypeId} {pos:String} {after:Array Edge} {k k':IntKind} {m:Int} (hel:xg P T=some e) (ht:ti P e=some t) (hd:d<s.n)
 (hy:ev s y=some (.c (.d (.v (.int k 0))))) (hz:ev s z=some (.c (.d (.v (.int k' m))))) (hid:get s.st d=none) (h0:0≤m) (hb:(t.bytes:Int)*m≤140737488355328) (h63:m≤9223372036854775807)
 (hk:TO P x ops l ⟨s.n,put s.env d (.c (.ms d t.size 0 0)),put s.st d (.arr t.size [])⟩ Q):TO P x ops (⟨some d, .makeSlice T y z,ty,pos,after,none⟩::l) s Q:=by
 rintro a w ⟨bl,cap,hs,henv,hdf,hsz⟩
 have h1:a.eval y= .int k 0:=gG (bJ henv hy)
 have h2:a.eval z= .int k' m:=gG (bJ henv hz)
 have hu:=iJ hel
 obtain⟨i,u,zz,hi,hu',hz',g1,g2,g3,g4,g5,g6,g7⟩:=eG ht
 have hpos:0<t.size:=by omega
 have hrun:=run_make (P:=P) w T e i zz hu hi hz' k k' 0 m (Int.le_refl _) h0 (by rw[g2];omega) h63
 have hrun2:(execOp a.eval ⟨some d, .makeSlice T y z,ty,pos,after,none⟩).run P w= .ok (.value (.slice (some ⟨w.heap.size,0,none⟩) 0 m.toNat)) (w.alloc (.cells (madeCells zz.cells (m.toNat*i.size)) e)):=by
  simp only[execOp,h1,h2]
  exact dW hrun
 obtain⟨bl',cap',a1,a2,a3⟩:=qX (x:=x) (id:=d) (n:=m.toNat) (T:=e) (xs:=[]) (cells:=madeCells zz.cells (m.toNat*i.size)) (w':=w.alloc (.cells (madeCells zz.cells (m.toNat*i.size)) e))
  hs hid (eQ w _) (aaY) (by show _<(w.heap.push _).size;rw[Array.size_push];omega) hpos (by simp) (by simp) (by rw[size_madeCells,g1]) (by simp;exact .nil)
 refine wpList_plain rfl fun K hK=>?_
 unfold Oper.wp
 rw[hrun2]
 exact hK _ _ (hk _ _ ⟨bl',cap',a1,(henv.le a2).put (by rw[hsz];exact hd) a3,by rw[Act.put_defers];exact hdf.le a2,by rw[Act.bK];exact hsz⟩)
end Go.Ab
namespace Go.Ab
variable [Dr]
def nU (P:Program) (f:FuncId) (args:List AV) (r:AV) (st0:List (Nat×AO)) (st1:Option (List (Nat×AO))) (ob:Nat→Option AO):Option Out:=
 some ⟨r,st1.getD [],[∀p∈st0,ob p.1=some p.2,∀p∈st0,aN (ae st0) p.2,∀a∈args,aA (ae st0) a,AC P f args st0 (fun r' st'=>r'=r∧st'=st1.getD st0),∀p∈st1.getD [],ae st0 p.1=true∨ob p.1=none]⟩
omit [Dr] in
theorem Rw {l:List (Nat×AO)} {i:Nat} {a:AO} (h:get l i=some a):put l i a=l:=by
 induction l with
 |nil=>simp[Ab.get] at h
 |cons p l ih=>
  obtain⟨j,y⟩:=p
  simp only[Ab.get] at h
  simp only[Ab.put]
  by_cases e:j=i
  ·subst e;simp at h;subst h;simp
  ·rw[if_neg e] at h⊢
   rw[ih h]
omit [Dr] in
theorem qK {st:List (Nat×AO)}:∀{l:List (Nat×AO)},(∀p∈l,get st p.1=some p.2)→ah st l=st
 |[],_=>rfl
 |p::l,h=>by
  have e:ah st (p::l)=ah (put st p.1 p.2) l:=rfl
  rw[e,Rw (h p List.mem_cons_self)]
  exact qK fun q hq=>h q (abb _ hq)
omit [Dr] in
theorem FI {l:List (Nat×AO)} {q:Nat×AO} (h:q∈l):ae l q.1=true:=by
 induction l with
 |nil=>cases h
 |cons p l ih=>
  obtain⟨j,y⟩:=p
  simp only[ae,Ab.get]
  by_cases e:j=q.1
  ·rw[if_pos e];rfl
  ·rw[if_neg e]
   rcases Z9.1 h with rfl|h
   ·exact absurd rfl e
   ·exact ih h
omit [Dr] in
theorem pushes:∀(ns:List UInt8) (r:abW),(ns.map fun b:UInt8=>(b.toNat:Int)).foldl (fun r n=>r.push (UInt8.ofNat n.toNat)) r=⟨r.data++ns.toArray⟩
 |[],r=>by simp
 |b::ns,r=>by
  rw[aax,List.foldl_cons,pushes ns]
  simp[ByteArray.push]
omit [Dr] in
theorem oQ {P:Program} {M:Nat→Prop} {w:World} {T T2 e:TypeId} {str:abW} {u:Value} (h1:P.underlying T=some (.slice e)) (he:P.underlying e=some (.int .u8)) (h2:P.underlying T2=some .string)
 (h:aS M w (.ps 1 (str.data.toList.map fun b=>[.v (.int .u8 b.toNat)])) u):(convert T T2 u).run P w= .ok (.string str) w:=by
 have hs:(⟨str.data.toList.toArray⟩:abW)=str:=by simp
 generalize hbs:str.data.toList=bs at h hs
 generalize hxs:bs.map (fun b=>[D.v (.int .u8 b.toNat)])=xs at h
 have fin:∀(a:Addr) (cap:Nat),(∀j,j<bs.length→w.cell? (a.add j)=some (.int .u8 ((bs[j]?).getD 0).toNat))→(convert T T2 (.slice (some a) bs.length cap)).run P w= .ok (.string str) w:=by
  intro a cap hc
  rw[run_convert_bytes_string w T T2 e _ _ _ h1 he h2]
  have hl:=run_loadCells_list (P:=P) w a ((bs.map fun b:UInt8=>(b.toNat:Int)).map (Value.int .u8)) (fun j v hj=>by
   rw[aaH,aaH] at hj
   cases hb:bs[j]? with
   |none=>rw[hb] at hj;cases hj
   |some b=>
    rw[hb] at hj;cases hj
    have:=hc j (aal.1 hb).1
    rw[hb] at this
    exact this)
  rw[aai,aai] at hl
  rw[run_bytesToString w a bs.length cap _ hl,pushes]
  simp[hs]
 cases h with
 |nil _ a cap=>
  have hb:bs=[]:=by simpa using hxs
  subst hb
  cases a with
  |none=>
   rw[run_convert_bytes_string w T T2 e _ _ _ h1 he h2]
   show Result.ok (Value.string ByteArray.empty) w=_
   rw[←hs];rfl
  |some a=>exact fin a cap (by simp)
 |ps _ _ b o cap f hM hl hc hr hcap hb=>
  subst hxs
  rw[aai] at hc hr⊢
  refine fin ⟨b,o,none⟩ cap fun j hj=>?_
  have h3:=hr j 0 hj (by omega)
  rw[gp]
  have h4:=hc j 0 hj (by omega)
  rw[Nat.mul_one,Nat.add_zero] at h4
  rw[h4]
  have h5:((List.map (fun b:UInt8=>[D.v (.int .u8 b.toNat)]) bs).getD j []).getD 0 default=D.v (.int .u8 ((bs[j]?).getD 0).toNat):=by
   simp[List.getD,aab hj]
  rw[h5] at h3
  exact congrArg some ((fun z (h:aS M w (.v (.int .u8 ((bs[j]?).getD 0).toNat)) z)=>by cases h;rfl:∀z,aS M w (.v (.int .u8 ((bs[j]?).getD 0).toNat)) z→z= .int .u8 ((bs[j]?).getD 0).toNat) _ h3)
abbrev UD:=List (Nat×(List (Nat×AO)×Option (List (Nat×AO))))
def DC (ls:UD) (o:Oper):Option (List (Nat×AO)×Option (List (Nat×AO))):=match o.dst with|some d=>get ls d|none=>none
def nH (P:Program) (wr:Bool) (ops:List Oper) (cs:List (Nat×AV)) (ls:UD) (o:Oper) (s:S):Option Out:=
 match DC ls o with
 |some p=>
  match o.guard,o.op with
  |none, .call {callee:= .value (.func f),args:=⟨asq⟩,argTypes:=_}=>
   match gz s asq,get cs (o.dst.getD 0) with
   |some args,some r=>nU P f args r p.1 p.2 (get s.st)
   |_,_=>none
  |some (j,want), .call {callee:= .value (.func f),args:=⟨asq⟩,argTypes:=_}=>
   match qL ops s j,iy.evsAll s asq,get cs (o.dst.getD 0) with
   |some (bs,b),some args,some r=>
    match nU P f args r p.1 p.2 (get s.st) with
    |some out=>some ⟨out.v,out.upd,(bG bs (if want then b else !b)=true)::(kJ s asq++out.obl)⟩
    |none=>none
   |_,_,_=>none
  |some (j,want), .buildSlice _ _ _=>
   match qL ops s j with
   |some (bs,b)=>some ⟨.cond (bG bs (if want then b else !b)) (.c (.d (.v (.int .i64 0)))),[],[bG bs (if want then b else !b)=false]⟩
   |none=>none
  |none, .convert T T2 y=>
   match get cs (o.dst.getD 0),gz s [y] with
   |some (.c (.d (.v (.string str)))),some [.c (.d (.ps 1 xs))]=>some ⟨.c (.d (.v (.string str))),[],[∃e,P.underlying T=some (.slice e)∧P.underlying e=some (.int .u8),P.underlying T2=some .string,xs=str.data.toList.map fun b=>[.v (.int .u8 b.toNat)]]⟩
   |_,_=>none
  |some (j,want), .convert T T2 y=>
   match qL ops s j with
   |some (bs,b)=>
    match get cs (o.dst.getD 0),iy.evsAll s [y] with
    |some (.c (.d (.v (.string str)))),some [.c (.d (.ps 1 xs))]=>some ⟨.c (.d (.v (.string str))),[],(bG bs (if want then b else !b)=true)::(kJ s [y]++[∃e,P.underlying T=some (.slice e)∧P.underlying e=some (.int .u8),P.underlying T2=some .string,xs=str.data.toList.map fun b=>[.v (.int .u8 b.toNat)]])⟩
    |_,_=>none
   |none=>none
  |_,_=>none
 |none=>iy P wr ops cs o s
def xO (ops:List Oper) (ls:UD) (o:Oper) (s:S):List (yg×Option Ct):=
 readsOf ops o s++(match DC ls o with|some p=>(p.1++p.2.getD []).map fun q=>((false,q.1),look s (false,q.1))|none=>[])
def Yx (ops:List Oper) (ls:UD) (o:Oper) (s:S) (out:Out):A1:=⟨xO ops ls o s,o.dst.map fun d=>(d,out.v),out.upd⟩
def vS (P:Program) (wr:Bool) (ops:List Oper) (cs:List (Nat×AV)) (ls:UD):List Oper→S→Option (List A1×List Prop×S)
 |[],s=>some ([],[],s)
 |o::l,s=>
  if jP o s.n then
   match nH P wr ops cs ls o s with
   |some out=>
    match vS P wr ops cs ls l ⟨s.n,dB s.env o.dst out.v,ah s.st out.upd⟩ with
    |some (As,ps,s')=>some (Yx ops ls o s out::As,out.obl++ps,s')
    |none=>none
   |none=>none
  else none
omit [Dr] in
theorem Nr {ops:List Oper} {ls:UD} {o:Oper} {s s':S} {out:Out} (hn:s'.n=s.n):(Yx ops ls o s out).app s'=⟨s.n,dB s'.env o.dst out.v,ah s'.st out.upd⟩:=by
 simp only[A1.app,Yx,hn]
 cases o.dst<;>rfl
section
variable {P:Program} {x:X} {ops:List Oper} {ls:UD} {o:Oper} {s s':S} {wr:Bool} {cs:List (Nat×AV)}
omit [Dr] in
theorem PI (h:∀p∈xO ops ls o s,look s' p.1=p.2):∀p∈readsOf ops o s,look s' p.1=p.2:=fun p hp=>h p (aa4 _ hp)
theorem IL (h:∀p∈xO ops ls o s,look s' p.1=p.2):nH P wr ops cs ls o s'=nH P wr ops cs ls o s:=by
 have h0:=PI h
 unfold nH
 cases hl:DC ls o with
 |none=>exact yO h0
 |some p=>
  have hob:∀q∈p.1++p.2.getD [],get s'.st q.1=get s.st q.1:=by
   intro q hq
   refine zN (h ((false,q.1),look s (false,q.1)) ?_)
   unfold xO
   rw[hl]
   exact aa0 _ (aaD.2 ⟨q,hq,rfl⟩)
  have hcall:∀f args r,nU P f args r p.1 p.2 (get s'.st)=nU P f args r p.1 p.2 (get s.st):=by
   intro f args r
   unfold nU
   have e1:(∀q∈p.1,get s'.st q.1=some q.2)=(∀q∈p.1,get s.st q.1=some q.2):=
    propext ⟨fun g q hq=>by rw[←hob q (aa4 _ hq)];exact g q hq,fun g q hq=>by rw[hob q (aa4 _ hq)];exact g q hq⟩
   have e2:(∀q∈p.2.getD [],ae p.1 q.1=true∨get s'.st q.1=none)=(∀q∈p.2.getD [],ae p.1 q.1=true∨get s.st q.1=none):=
    propext ⟨fun g q hq=>by rw[←hob q (aa0 _ hq)];exact g q hq,fun g q hq=>by rw[hob q (aa0 _ hq)];exact g q hq⟩
   rw[e1,e2]
  simp only
  split
  ·rename_i f asq ats hg hop
   rw[jT h0 fun y hy=>by rw[hop];simp[Op.operands,Call.operands,hy]]
   split
   ·exact hcall _ _ _
   ·rfl
  ·rename_i j want f asq ats hg hop
   rw[mi h0 hg,jd h0 fun y hy=>by rw[hop];simp[Op.operands,Call.operands,hy],iV h0 (l:=asq) fun y hy=>by rw[hop];simp[Op.operands,Call.operands,hy]]
   split
   ·rw[hcall]
   ·rfl
  ·rename_i j want _ _ _ hg hop
   rw[mi h0 hg]
  ·rename_i T T2 y hg hop
   rw[jT h0 fun y' hy=>by rw[hop];simpa[Op.operands,Call.operands] using hy]
  ·rename_i j want T T2 y hg hop
   rw[mi h0 hg,jd h0 fun y' hy=>by rw[hop];simpa[Op.operands,Call.operands] using hy,iV h0 (l:=[y]) fun y' hy=>by rw[hop];simpa[Op.operands,Call.operands] using hy]
  ·rfl
theorem yJ {out:Out} (h:nH P wr ops cs ls o s=some out) (ho:All out.obl) (hdst:jP o s.n=true) {a:Act} {w:World} (hsat:Sat x s a w)
 {K:Act→World→Prop} {Q:Exit→Act→World→Prop} (hK:∀a w,Sat x ⟨s.n,dB s.env o.dst out.v,ah s.st out.upd⟩ a w→K a w):
 if Region.wanted o (yielded ops.toArray a.tmps) then o.wp P a w K Q else K (a.put o.dst undef) w:=by
 have hd:∀i,o.dst=some i→i<s.n:=fun i hi=>by simpa[jP,hi] using hdst
 unfold nH at h
 cases hl:DC ls o with
 |none=>rw[hl] at h;exact qJ h ho hdst hsat hK
 |some p=>
  rw[hl] at h
  simp only at h
  split at h
  ·rename_i f asq ats hg hop
   rw[if_pos (by simp[Region.wanted,hg])]
   obtain⟨bl,cap,hs,henv,hdf,hsz⟩:=hsat
   split at h
   ·rename_i args r hargs hr
    unfold nU at h
    cases h
    simp only[All] at ho
    obtain⟨o1,o2,o3,o4,o5, -⟩:=ho
    refine uK (st0:=p.1) hop hd ⟨o1,o2,o3⟩ o4 hs henv hdf hsz (iq henv hargs) ?_
    rintro r' st' ⟨rfl,rfl⟩
    obtain⟨st0,st1⟩:=p
    cases st1 with
    |some st1=>exact⟨o5,fun a w h=>hK a w h⟩
    |none=>
     simp only[Option.getD] at o1 hK⊢
     refine⟨fun q hq=> .inl ?_,fun a w h=>hK a w ?_⟩
     ·exact FI hq
     ·rw[qK o1] at h;exact h
   ·cases h
  ·rename_i j want f asq ats hg hop
   obtain⟨bl,cap,hs,henv,hdf,hsz⟩:=hsat
   split at h
   ·rename_i bs b args r hgv hargs hr
    unfold nU at h
    simp only at h
    cases h
    simp only[All] at ho
    obtain⟨hG,ho⟩:=ho
    obtain⟨hob,ho⟩:=All.append ho
    simp only[All] at ho
    obtain⟨o1,o2,o3,o4,o5, -⟩:=ho
    rw[lJ henv hg hgv,hG,if_pos rfl]
    refine uK (st0:=p.1) hop hd ⟨o1,o2,o3⟩ o4 hs henv hdf hsz (lu henv hargs hob) ?_
    rintro r' st' ⟨rfl,rfl⟩
    obtain⟨st0,st1⟩:=p
    cases st1 with
    |some st1=>exact⟨o5,fun a w h=>hK a w h⟩
    |none=>
     simp only[Option.getD] at o1 hK⊢
     refine⟨fun q hq=> .inl ?_,fun a w h=>hK a w ?_⟩
     ·exact FI hq
     ·rw[qK o1] at h;exact h
   ·cases h
  ·rename_i j want _ _ _ hg hop
   obtain⟨bl,cap,hs,henv,hdf,hsz⟩:=hsat
   split at h
   ·rename_i bs b hgv
    cases h
    simp only[All] at ho
    have hG:=ho.1
    rw[lJ henv hg hgv,hG,if_neg (by simp)]
    refine hK _ _ ⟨bl,cap,hs,henv.dB (fun i hi=>by rw[hsz];exact hd i hi) (And.intro (fun h'=>by rw[hG] at h';cases h') (fun _=>rfl)),by rw[Act.put_defers];exact hdf,by rw[Act.bK];exact hsz⟩
   ·cases h
  ·rename_i T T2 y hg hop
   rw[if_pos (by simp[Region.wanted,hg])]
   obtain⟨bl,cap,hs,henv,hdf,hsz⟩:=hsat
   split at h
   ·rename_i str xs hr hargs
    cases h
    simp only[All] at ho
    obtain⟨⟨e,o1,o2⟩,o3,rfl, -⟩:=ho
    have hrep:=iq henv hargs
    simp only[aax,aa5] at hrep
    have hrun:(execOp a.eval o).run P w= .ok (.value (.string str)) w:=by
     cases hrep with
     |cons h1 _=>
      have h2:aS _ _ (.ps 1 _) (a.eval y):=h1
      simp only[execOp,hop]
      exact dW (oQ o1 o2 o3 h2)
    unfold Oper.wp
    rw[hrun]
    exact hK _ _ ⟨bl,cap,hs,henv.dB (fun i hi=>by rw[hsz];exact hd i hi) (.v _ rfl),by rw[Act.put_defers];exact hdf,by rw[Act.bK];exact hsz⟩
   ·cases h
  ·rename_i j want T T2 y hg hop
   obtain⟨bl,cap,hs,henv,hdf,hsz⟩:=hsat
   split at h
   ·rename_i bs b hgv
    split at h
    case h_2=>cases h
    rename_i str xs hr hargs
    cases h
    simp only[All] at ho
    obtain⟨hG,ho⟩:=ho
    obtain⟨hob,ho⟩:=All.append ho
    simp only[All] at ho
    obtain⟨⟨e,o1,o2⟩,o3,rfl, -⟩:=ho
    rw[lJ henv hg hgv,hG,if_pos rfl]
    have hrep:=lu henv hargs hob
    simp only[aax,aa5] at hrep
    have hrun:(execOp a.eval o).run P w= .ok (.value (.string str)) w:=by
     cases hrep with
     |cons h1 _=>
      have h2:aS _ _ (.ps 1 _) (a.eval y):=h1
      simp only[execOp,hop]
      exact dW (oQ o1 o2 o3 h2)
    unfold Oper.wp
    rw[hrun]
    exact hK _ _ ⟨bl,cap,hs,henv.dB (fun i hi=>by rw[hsz];exact hd i hi) (.v _ rfl),by rw[Act.put_defers];exact hdf,by rw[Act.bK];exact hsz⟩
   ·cases h
  ·cases h
omit [Dr] in
theorem IJ {q:yg×Option Ct} (h:q∈xO ops ls o s):q.2=look s q.1:=by
 unfold xO at h
 rcases aay.1 h with h|h
 ·exact Gt.reads_self h
 ·split at h
  ·obtain⟨y,_,rfl⟩:=aaD.1 h;rfl
  ·cases h
theorem L8:∀{l:List Oper} {s s':S} {As:List A1} {ps:List Prop},vS P wr ops cs ls l s=some (As,ps,s')→All ps→
 As.length=l.length∧jq As s l.length=s'∧(∀(i:Nat) (A:A1),As[i]? =some A→A.Fits (jq As s i))∧∀(i:Nat) (o:Oper) (A:A1),l[i]? =some o→As[i]? =some A→A.MR P x s.n ops.toArray o
 |[],s,s',As,ps,h,_=>by cases h;exact⟨rfl,rfl,by simp,by simp⟩
 |o::l,s,s',As,ps,h,hp=>by
  simp only[vS] at h
  split at h
  ·rename_i hd
   split at h
   ·rename_i out hout
    split at h
    ·rename_i As' ps' s'' hrec
     cases h
     obtain⟨p1,p2⟩:=All.append hp
     obtain⟨i1,i2,i3,i4⟩:=L8 hrec p2
     have shift:∀i,jq (Yx ops ls o s out::As') s (i+1)=jq As' ⟨s.n,dB s.env o.dst out.v,ah s.st out.upd⟩ i:=by
      intro i
      induction i with
      |zero=>simp only[jq,List.getElem?_cons_zero];exact Nr rfl
      |succ i ih=>
       rw[jq,ih]
       simp only[List.getElem?_cons_succ]
       rfl
     refine⟨by simp[i1],by rw[List.length_cons,shift];exact i2,?_,?_⟩
     ·intro i A hA
      cases i with
      |zero=>simp at hA;subst hA;intro p hp;exact(IJ hp).symm
      |succ i=>rw[shift];exact i3 i A (by simpa using hA)
     ·intro i o' A ho' hA
      cases i with
      |zero=>
       simp at ho' hA;subst ho';subst hA
       intro s1 a w hnn hs1 hf K Q hk
       have hloc:=IL (P:=P) (wr:=wr) (cs:=cs) (ls:=ls) (ops:=ops) (o:=o) (s:=s) (s':=s1) hf
       rw[hout] at hloc
       refine yJ hloc p1 (by rw[hnn];exact hd) hs1 fun a w h=>hk a w ?_
       rw[Nr hnn,←hnn];exact h
      |succ i=>exact i4 i o' A (by simpa using ho') (by simpa using hA)
    ·cases h
   ·cases h
  ·cases h
theorem uQ {id:Nat} {l:List Oper} {s s':S} {Q:Exit→S→Prop} (cs:List (Nat×AV)) (ls:UD) {As:List A1} {ps:List Prop} (hm:P.follows .mixedOrders=true)
 (h:vS P wr l cs ls l s=some (As,ps,s')) (ho:All ps) (hc:oM l As=true) (hQ:Q .normal s'):T P x (.region id l.toArray true) s Q:=by
 obtain⟨h1,h2,h3,h4⟩:=L8 (x:=x) h ho
 have hord:=Bc h1 h3 hc
 intro a w hs
 refine wp_region_any hm ?_
 refine AB hord (fun i o A hi hA=>h4 i o A (by simpa using hi) hA) (by simpa[h2] using hQ) _ _ s a _ (by simp) ?_ rfl ?_ ?_ (hs.drew _ (by first|exact Nat.le_succ _|exact Nat.le_add_right _ _|(simp;done)|omega))
 ·intro i o e hi hL he hb
  have hlt:i<l.length:=by simpa using(abq.1 hi).1
  rw[getD_in (by simpa using hlt) true false] at hL
  simp[Array.getD,hlt] at hL
 ·intro r
  have hz:∀i,(Array.replicate l.toArray.size false).getD i false=false:=by
   intro i;simp[Array.getD]
  have:cont As s (fun i=>(Array.replicate l.toArray.size false).getD i false) r l.toArray.size=cont As s (fun i=>(Array.replicate l.toArray.size false).getD i false) r 0:=
   kY (aaA _) (fun i _ _ _=>hz i)
  rw[this];rfl
 ·exact tH
end
end Go.Ab
set_option linter.all false
namespace Go.Ab
def O6:IntKind→Int→Bool
 | .i8,n=>decide (-128≤n)&&decide (n≤127)
 | .i16,n=>decide (-32768≤n)&&decide (n≤32767)
 | .i32,n=>decide (-2147483648≤n)&&decide (n≤2147483647)
 | .i64,n=>decide (-9223372036854775808≤n)&&decide (n≤9223372036854775807)
 | .u8,n=>decide (0≤n)&&decide (n≤255)
 | .u16,n=>decide (0≤n)&&decide (n≤65535)
 | .u32,n=>decide (0≤n)&&decide (n≤4294967295)
 | .u64,n=>decide (0≤n)&&decide (n≤18446744073709551615)
theorem MW {k:IntKind} {n:Int} (h:O6 k n=true):aV k n:=by cases k<;>simpa[O6,aV] using h
def Gi (P:Program) (T:TypeId) (x:AV) (ob:Nat→Option AO):Bool:=
 match ti P T with
 |none=>true
 |some t=>
  match x with
  | .c (.ptr id off)=>
    match ob id with
    |some (.box cs)=>if t.agg then decide (off+t.size≤cs.length) else decide (off<cs.length)
    |_=>true
  | .c (.pp cs)=>if t.agg then decide (t.size≤cs.length) else decide (0<cs.length)
  | .c (.ep id sz i off)=>
    match ob id with
    |some (.arr sz' xs)=>decide (sz=sz')&&(decide (i<xs.length)&&if t.agg then decide (off+t.size≤sz) else decide (off<sz))
    |_=>true
  |_=>true
def F8 (P:Program) (T:TypeId) (x v:AV) (ob:Nat→Option AO):Bool:=
 match ti P T,cellsOf v with
 |some t,some cs'=>
  match x with
  | .c (.ptr id off)=>
    match ob id with
    |some (.box cs)=>decide (cs'.length=t.size)&&decide (off+t.size≤cs.length)
    |_=>true
  | .c (.ep id sz i off)=>
    match ob id with
    |some (.arr sz' xs)=>decide (sz=sz')&&(decide (i<xs.length)&&(decide (cs'.length=t.size)&&decide (off+t.size≤sz)))
    |_=>true
  |_=>true
 |_,_=>true
def Ko (P:Program) (T:TypeId) (x:AV) (f:Nat):Bool:=
 match ji P T f with
 |none=>true
 |some (fo,ft)=>
  match ti P ft,x with
  |some t, .agg cs=>if t.agg then decide (fo+t.size≤cs.length) else decide (fo<cs.length)
  |_,_=>true
def pV (P:Program) (T:TypeId) (x ix:AV):Bool:=
 match xg P T,ix with
 |some e, .c (.d (.v (.int _ n)))=>
  match ti P e with
  |none=>true
  |some t=>
   match x with
   | .c (.d (.ps sz xs))=>decide (sz=t.size)&&(decide (0≤n)&&decide (n<xs.length))
   | .c (.ms id sz off len)=>decide (sz=t.size)&&(decide (0≤n)&&decide (n<len))
   |_=>true
 |_,_=>true
def GM (P:Program) (T:TypeId) (x ix:AV):Bool:=
 match P.underlying T,x,ix with
 |some .string, .c (.d (.v (.string s))), .c (.d (.v (.int _ n)))=>decide (0≤n)&&decide (n<s.size)
 |_,_,_=>true
def Tv (op:BinOp) (x y:AV):Bool:=
 match x,y with
 | .c (.d (.v (.int k a))), .c (.d (.v (.int k' b)))=>
   match op with
   | .add=>decide (k=k')&&O6 k (a+b)
   | .sub=>decide (k=k')&&O6 k (a-b)
   | .mul=>decide (k=k')&&O6 k (a*b)
   |_=>decide (k=k')
 |_,_=>true
def KH (op:BinOp) (x y:AV):Bool:=
 match x,y with
 | .c (.d (.v (.int k a))), .c (.d (.v (.int k' b)))=>decide (k=k')
 | .c (.d (.v (.string p))), .c (.d (.v (.string q)))=>decide (p.size+q.size≤140737488355328)
 |_,_=>true
def Wj (P:Program) (T:TypeId) (x y:AV):Bool:=
 match Xr P T,x,y with
 |some ks, .agg xs, .agg ys=>
  match Fj xs ys with
  |some (ks',b)=>decide (ks=ks')
  |none=>true
 |_,_,_=>true
def AQ (P:Program) (op:BinOp) (T:TypeId) (u v:AV):Bool:=
 match u with
 | .agg _=>Wj P T u v
 | .c (.d (.v (.bool a)))=>true
 |_=>Tv op u v
def F9 (P:Program) (T:TypeId):List C→List (Nat×AV)→Bool
 |cs,[]=>true
 |cs,(f,v)::rest=>
  match ji P T f,cellsOf v with
  |some (fo,ft),some cs'=>
   match ti P ft with
   |some t=>decide (cs'.length=t.size)&&(decide (fo+t.size≤cs.length)&&F9 P T (splice cs fo cs') rest)
   |none=>true
  |_,_=>true
def GU (P:Program) (T:TypeId) (parts:List (Nat×AV)):Bool:=
 match ti P T,kC P T with
 |some t,true=>F9 P T (t.zero.map fun z=> .d (.v z)) parts
 |_,_=>true
def zC (sz n:Nat):List (Nat×AV)→Bool
 |[]=>true
 |(i,v)::rest=>
  match cellsOf v with
  |some cs=>decide (cs.length=sz)&&(decide (i<n)&&zC sz n rest)
  |none=>true
def og (P:Program) (T n:Nat) (parts:List (Nat×AV)):Bool:=
 match xg P T with
 |some e=>
  match ti P e with
  |some t=>decide (n*t.size≤16777216)&&zC t.size n parts
  |none=>true
 |none=>true
def qi (P:Program) (T:TypeId) (x y:AV):Bool:=
 match xg P T,x,y with
 |some e, .c (.d (.v (.int _ n))), .c (.d (.v (.int _ m)))=>
  match ti P e with
  |some t=>decide (n=m)&&(decide (0≤n)&&(decide ((t.bytes:Int)*n≤140737488355328)&&decide (n≤9223372036854775807)))
  |none=>true
 |_,_,_=>true
def MI (sz:Nat):List (List C)→Bool
 |[]=>true
 |l::ls=>decide (l.length=sz)&&MI sz ls
theorem Bh {sz:Nat}:∀{ls:List (List C)},MI sz ls=true→∀l∈ls,l.length=sz
 |[],_,_,h=>by cases h
 |l::ls,h,y,hy=>by
  simp only[MI,aaj,aae] at h
  rcases Z9.1 hy with rfl|hy
  ·exact h.1
  ·exact Bh h.2 y hy
def kX (y:AV) (ob:Nat→Option AO):Bool:=
 match y with
 | .c (.ms id sz off len)=>
   match ob id with
   |some (.arr sz' xs)=>decide (off+len≤xs.length)&&decide (sz=sz')
   |_=>true
 |_=>true
def lL (P:Program) (T T' id:Nat) (x y:AV) (ob:Nat→Option AO):Bool:=
 match xg P T,xg P T' with
 |some e,some e'=>
  match ti P e with
  |some t=>
   match elemsOf y ob with
   |some (ys,ids,ps)=>
    decide (e=e')&&(decide (t.bytes≠0)&&(MI t.size ys&&(kX y ob&&
    match x with
    | .c (.ms id0 sz off len)=>
      match ob id0 with
      |some (.arr sz' xs)=>decide (sz=t.size)&&(decide (sz'=t.size)&&(decide (off=0)&&(decide (len=xs.length)&&(decide (id0≠id)&&(decide (id0∉ids)&&decide ((len+ys.length)*t.bytes≤140737488355328))))))
      |_=>true
    |_=>decide (ys.length*t.bytes≤140737488355328))))
   |none=>true
  |none=>true
 |_,_=>true
def oI (P:Program) (T:TypeId) (x:AV) (lo hi:Option AV):Bool:=
 match P.underlying T,x with
 |some .string, .c (.d (.v (.string s)))=>
  match lo,hi with
  |some (.c (.d (.v (.int _ l)))),some (.c (.d (.v (.int _ h))))=>decide (0≤l)&&(decide (l≤h)&&decide (h≤s.size))
  |some (.c (.d (.v (.int _ l)))),none=>decide (0≤l)&&decide (l≤s.size)
  |none,some (.c (.d (.v (.int _ h))))=>decide (0≤h)&&decide (h≤s.size)
  |_,_=>true
 |some (.slice e), .c (.d (.ps sz xs))=>
  match ti P e with
  |some t=>
   match lo,hi with
   |some (.c (.d (.v (.int _ l)))),some (.c (.d (.v (.int _ h))))=>decide (sz=t.size)&&(decide (0≤l)&&(decide (l≤h)&&decide (h≤xs.length)))
   |some (.c (.d (.v (.int _ l)))),none=>decide (sz=t.size)&&(decide (0≤l)&&decide (l≤xs.length))
   |none,some (.c (.d (.v (.int _ h))))=>decide (sz=t.size)&&(decide (0≤h)&&decide (h≤xs.length))
   |_,_=>true
  |none=>true
 |_,_=>true
def xw (P:Program) (src dst:TypeId) (x:AV):Bool:=
 match P.underlying src,P.underlying dst,x with
 |some (.int _),some (.int k), .c (.d (.v (.int _ n)))=>O6 k n
 |_,_,_=>true
def sH:List Kd→List C→Bool
 |[],[]=>true
 | .int k::ks, .d (.v (.int k' _))::cs=>decide (k=k')&&sH ks cs
 | .str::ks, .d (.v (.string _))::cs=>sH ks cs
 | .bool::ks, .d (.v (.bool _))::cs=>sH ks cs
 |_,_=>false
theorem BC:∀{ks:List Kd} {cs:List C},sH ks cs=true→bI ks cs:=by
 intro ks cs
 induction ks,cs using sH.induct with
 |case1=>intro _;trivial
 |case2 k ks k' n cs ih=>intro h;simp only[sH,aaj,aae] at h;exact⟨h.1,ih h.2⟩
 |case3 ks s cs ih=>intro h;exact ih h
 |case4 ks s cs ih=>intro h;exact ih h
 |case5 ks cs h1 h2 h3 h4=>intro h;simp[sH] at h
def keysB (f:Bool) (ks:List Kd):List rY→Bool
 |[]=>true
 |e::es=>decide (e.1.1=f)&&(sH ks e.1.2&&keysB f ks es)
theorem cZ {f:Bool} {ks:List Kd}:∀{es:List rY},keysB f ks es=true→∀e∈es,e.1.1=f∧bI ks e.1.2
 |[],_,_,h=>by cases h
 |e::es,h,y,hy=>by
  simp only[keysB,aaj,aae] at h
  rcases Z9.1 hy with rfl|hy
  ·exact⟨h.1,BC h.2.1⟩
  ·exact cZ h.2.2 y hy
def AZ (P:Program) (T:TypeId) (m k:AV) (ob:Nat→Option AO):Bool:=
 match BF P T with
 |none=>true
 |some (K,E)=>
  match wR P K,JX k,qo m ob with
  |some (f,ks),some key,some es=>decide (key.1=f)&&(sH ks key.2&&keysB f ks es)
  |_,_,_=>true
def mf (P:Program) (T:TypeId) (m k:AV) (ob:Nat→Option AO):Bool:=
 match BF P T with
 |none=>true
 |some (K,_)=>
  match wR P K,JX k,m with
  |some (f,ks),some key, .c (.mp id)=>
   match ob id with
   |some (.map es)=>decide (key.1=f)&&(sH ks key.2&&keysB f ks es)
   |_=>true
  |_,_,_=>true
def okB (P:Program) (wr:Bool) (op:Op) (id:Nat) (e:Operand→Option AV) (ob:Nat→Option AO):Bool:=
 match op with
 | .load T a=>(e a).elim true fun v=>Gi P T v ob
 | .store T a x=>(e a).elim true fun u=>(e x).elim true fun v=>F8 P T u v ob
 | .binOp op T x y _=>(e x).elim true fun u=>(e y).elim true fun v=>if wr&&Xj op then KH op u v else AQ P op T u v
 | .field T x f=>(e x).elim true fun v=>Ko P T v f
 | .indexAddr T x i=>(e x).elim true fun u=>(e i).elim true fun v=>pV P T u v
 | .index T x i=>(e x).elim true fun u=>(e i).elim true fun v=>GM P T u v
 | .call {callee:= .builtin .append,args:=⟨[x,y]⟩,argTypes:=⟨[T,T']⟩}=>(e x).elim true fun u=>(e y).elim true fun v=>lL P T T' id u v ob
 | .build T ⟨ps⟩=>(iP e ps).elim true fun vs=>GU P T vs
 | .buildSlice T n ⟨ps⟩=>(iP e ps).elim true fun vs=>og P T n vs
 | .makeSlice T x y=>(e x).elim true fun u=>(e y).elim true fun v=>qi P T u v
 | .slice T x (some l) (some h) none=>(e x).elim true fun u=>(e l).elim true fun a=>(e h).elim true fun b=>oI P T u (some a) (some b)
 | .slice T x (some l) none none=>(e x).elim true fun u=>(e l).elim true fun a=>oI P T u (some a) none
 | .slice T x none (some h) none=>(e x).elim true fun u=>(e h).elim true fun b=>oI P T u none (some b)
 | .slice _ _ _ _ (some _)=>false
 | .convert s d x=>(e x).elim true fun u=>xw P s d u
 | .lookup T m k ok=>(e m).elim true fun u=>(e k).elim true fun v=>AZ P T u v ob
 | .mapUpdate T m k v=>(e m).elim true fun u=>(e k).elim true fun a=>mf P T u a ob
 | .insert T m k v=>(e m).elim true fun u=>(e k).elim true fun a=>mf P T u a ob
 |_=>true
section
variable {P:Program} {out:Out} {ob:Nat→Option AO}
theorem xR {T:TypeId} {x:AV} (h:Gi P T x ob=true) (he:iM P T x ob=some out):All out.obl:=by
 unfold Gi at h;unfold iM at he
 repeat' split at he
 all_goals first|(cases he;done)|(cases he;simp_all[All];done)|(cases he;simp_all[All];obtain⟨rfl,h⟩:=h;simp_all)
theorem KA {T:TypeId} {x v:AV} (h:F8 P T x v ob=true) (he:je P T x v ob=some out):All out.obl:=by
 unfold F8 at h;unfold je at he
 repeat' split at he
 all_goals first|(cases he;done)|(cases he;simp_all[All];done)|(cases he;simp_all[All];obtain⟨rfl,h⟩:=h;simp_all)
theorem OU {T:TypeId} {x:AV} {f:Nat} (h:Ko P T x f=true) (he:rH P T x f=some out):All out.obl:=by
 unfold Ko at h;unfold rH at he
 repeat' split at he
 all_goals first|(cases he;done)|(cases he;simp_all[All];done)|(cases he;simp_all[All];obtain⟨rfl,h⟩:=h;simp_all)
theorem Dt {T:TypeId} {x i:AV} (h:pV P T x i=true) (he:ig P T x i=some out):All out.obl:=by
 unfold pV at h;unfold ig at he
 repeat' split at he
 all_goals first|(cases he;done)|(cases he;simp_all[All];done)|(cases he;simp_all[All];obtain⟨rfl,h⟩:=h;simp_all)
theorem KL {T:TypeId} {x i:AV} (h:GM P T x i=true) (he:nN P T x i=some out):All out.obl:=by
 unfold GM at h;unfold nN at he
 repeat' split at he
 all_goals first|(cases he;done)|(cases he;simp_all[All];done)|(cases he;simp_all[All];obtain⟨rfl,h⟩:=h;simp_all)
theorem QP {op:BinOp} {x y:AV} (h:Tv op x y=true) (he:xm op x y=some out):All out.obl:=by
 unfold Tv at h;unfold xm at he
 repeat' split at he
 all_goals first|(cases he;done)|(cases he;simp only[aaj,aae] at h;first|exact⟨h.1,MW h.2,trivial⟩|exact⟨h,trivial⟩|trivial)
theorem Pq {op:BinOp} {x y:AV} (h:KH op x y=true) (he:qP op x y=some out):All out.obl:=by
 unfold KH at h;unfold qP at he
 repeat' split at he
 all_goals first|(cases he;done)|(cases he;simp_all[All];done)|(cases he;simp_all[All];obtain⟨rfl,h⟩:=h;simp_all)
theorem UZ {op:BinOp} {T:TypeId} {x y:AV} (h:Wj P T x y=true) (he:Fe P op T x y=some out):All out.obl:=by
 unfold Wj at h;unfold Fe at he
 repeat' split at he
 all_goals first|(cases he;done)|(cases he;simp_all[All];done)|(cases he;simp_all[All];obtain⟨rfl,h⟩:=h;simp_all)
theorem Ha {op:BinOp} {T:TypeId} {u v:AV} (h:AQ P op T u v=true) (he:CU P op T u v=some out):All out.obl:=by
 unfold AQ at h;unfold CU at he
 split at he
 ·exact UZ h he
 ·unfold nT at he
  split at he
  ·cases he;trivial
  ·cases he;trivial
  ·cases he
 ·rename_i h1 h2
  split at h
  ·exact absurd rfl (h1 _)
  ·exact absurd rfl (h2 _)
  ·exact QP h he
theorem EE {T:TypeId}:∀{ps:List (Nat×AV)} {cs r:List C} {qs:List Prop},F9 P T cs ps=true→yU P T cs ps=some (r,qs)→All qs
 |[],cs,r,qs,_,he=>by cases he;trivial
 |(f,v)::ps,cs,r,qs,h,he=>by
  simp only[F9] at h;simp only[yU] at he
  split at he
  ·rename_i h1 h2
   split at he
   ·rename_i h3
    split at he
    ·rename_i h4
     cases he
     simp only[h1,h2,h3,aaj,aae] at h
     exact⟨h.1,h.2.1,EE h.2.2 h4⟩
    ·cases he
   ·cases he
  ·cases he
theorem JZ {T:TypeId} {ps:List (Nat×AV)} (h:GU P T ps=true) (he:nM P T ps=some out):All out.obl:=by
 unfold GU at h;unfold nM at he
 split at he
 ·rename_i h1 h2
  simp only[h1,h2] at h
  split at he
  ·rename_i h3;cases he;exact EE h h3
  ·cases he
 ·cases he
theorem AX {sz:Nat}:∀{ps:List (Nat×AV)} {xs r:List (List C)} {qs:List Prop},zC sz xs.length ps=true→ql sz xs ps=some (r,qs)→All qs
 |[],xs,r,qs,_,he=>by cases he;trivial
 |(i,v)::ps,xs,r,qs,h,he=>by
  simp only[zC] at h;simp only[ql] at he
  split at he
  ·rename_i cs h1
   split at he
   ·rename_i h2
    cases he
    simp only[h1,aaj,aae] at h
    exact⟨h.1,h.2.1,AX (by rw[List.length_set];exact h.2.2) h2⟩
   ·cases he
  ·cases he
theorem zt {T n id:Nat} {ps:List (Nat×AV)} (h:og P T n ps=true) (he:dY P T n id ps ob=some out):All out.obl:=by
 unfold og at h;unfold dY at he
 split at he
 ·rename_i h1 _
  split at he
  ·rename_i t h2
   split at he
   ·rename_i h3
    cases he
    simp only[h1,h2,aaj,aae] at h
    exact⟨h.1,AX (by rw[List.length_replicate];exact h.2) h3⟩
   ·cases he
  ·cases he
 ·cases he
theorem CP {T id:Nat} {x y:AV} (h:qi P T x y=true) (he:fO P T id x y ob=some out):All out.obl:=by
 unfold qi at h;unfold fO at he
 repeat' split at he
 all_goals first|(cases he;done)|(cases he;simp_all[All];done)|(cases he;simp_all[All];obtain⟨rfl,h⟩:=h;simp_all)
theorem F6 {y:AV} {ys:List (List C)} {ids:List Nat} {ps:List Prop} (h:kX y ob=true) (he:elemsOf y ob=some (ys,ids,ps)):All ps:=by
 unfold kX at h;unfold elemsOf at he
 repeat' split at he
 all_goals first|(cases he;done)|(cases he;simp_all[All];done)|(cases he;simp_all[All];obtain⟨rfl,h⟩:=h;simp_all)
theorem yH {T T' id:Nat} {x y:AV} (h:lL P T T' id x y ob=true) (he:dS P T T' id x y ob=some out):All out.obl:=by
 unfold lL at h;unfold dS at he
 split at he
 ·rename_i e e' h1 h2 h3
  split at he
  ·rename_i t h4
   split at he
   ·rename_i ys ids ps h5
    simp only[h1,h2,h4,h5,aaj] at h
    obtain⟨g1,g2,g3,g4,h⟩:=h
    have g5:=F6 g4 h5
    split at he
    ·cases he
     simp only[aae] at g1 g2 h
     exact⟨g1,g2,h,Bh g3,g5⟩
    ·split at he
     ·rename_i h6
      cases he
      simp only[h6,aaj,aae] at g1 g2 h
      obtain⟨a1,a2,a3,a4,a5,a6,a7⟩:=h
      exact⟨g1,g2,a1,a2,a3,a4,a5,a6,a7,Bh g3,g5⟩
     ·cases he
    ·cases he
   ·cases he
  ·cases he
 ·cases he
theorem sZ {T:TypeId} {x:AV} {lo hi:Option AV} (h:oI P T x lo hi=true) (he:jK P T x lo hi=some out):All out.obl:=by
 unfold oI at h;unfold jK at he
 repeat' split at he
 all_goals first|(cases he;done)|(cases he;simp_all[All];done)|(cases he;simp_all[All];obtain⟨rfl,h⟩:=h;simp_all)
theorem Gw {S D:TypeId} {x:AV} (h:xw P S D x=true) (he:jv P S D x=some out):All out.obl:=by
 unfold xw at h;unfold jv at he
 split at he
 ·rename_i h1 h2;cases he;simp only[h1,h2] at h;exact⟨MW h,trivial⟩
 ·cases he;trivial
 ·cases he
theorem IQ {T:TypeId} {m k:AV} {ok:Bool} (h:AZ P T m k ob=true) (he:iw P T m k ok ob=some out):All out.obl:=by
 unfold AZ at h;unfold iw at he
 split at he
 ·cases he
 ·rename_i h1
  simp only[h1] at h
  split at he
  ·rename_i h2 h3 h4 h5
   simp only[h2,h4,h5,aaj,aae] at h
   have key:=And.intro h.1 (And.intro (BC h.2.1) (And.intro (cZ h.2.2) trivial))
   split at he
   ·cases he;exact key
   ·split at he
    ·cases he;exact key
    ·cases he
  ·cases he
theorem qg {T:TypeId} {m k v:AV} (h:mf P T m k ob=true) (he:dA P T m k v ob=some out):All out.obl:=by
 unfold mf at h;unfold dA at he
 split at he
 ·cases he
 ·rename_i h1
  simp only[h1] at h
  split at he
  ·rename_i h2 h3 h4
   simp only[h2,h3] at h
   split at he
   ·rename_i h5
    cases he
    simp only[h5,aaj,aae] at h
    exact⟨h.1,BC h.2.1,cZ h.2.2,trivial⟩
   ·cases he
  ·cases he
theorem Wn {wr:Bool} {op:Op} {id:Nat} {e:Operand→Option AV} (h:okB P wr op id e ob=true) (he:eff P wr op id e ob=some out):All out.obl:=by
 unfold eff at he
 split at he
 all_goals(simp only[okB] at h)
 all_goals(try simp only[CJ,aap,aac] at he)
 ·obtain⟨_,_,rfl⟩:=he;trivial
 ·obtain⟨_,_,rfl⟩:=he;trivial
 ·unfold nC at he;split at he<;>cases he;trivial
 ·obtain⟨_,_,he⟩:=he;unfold wZ at he;split at he<;>cases he;trivial
 ·obtain⟨v,hv,he⟩:=he;rw[hv] at h;exact xR h he
 ·obtain⟨v,hv,u,hu,he⟩:=he;rw[hv,hu] at h;exact KA h he
 ·obtain⟨v,hv,he⟩:=he;unfold Am at he;split at he<;>cases he<;>trivial
 ·obtain⟨v,hv,u,hu,he⟩:=he
  rw[hv,hu] at h;simp only[Option.elim] at h
  split at he
  ·rename_i hw;rw[if_pos hw] at h;exact Pq h he
  ·rename_i hw;rw[if_neg hw] at h;exact Ha h he
 ·obtain⟨v,hv,he⟩:=he;unfold Dq at he;split at he<;>cases he;trivial
 ·obtain⟨v,hv,he⟩:=he;unfold qc at he;repeat' split at he
  all_goals first|(cases he;done)|(cases he;trivial)
 ·obtain⟨v,hv,he⟩:=he;rw[hv] at h;exact OU h he
 ·obtain⟨v,hv,u,hu,he⟩:=he;rw[hv,hu] at h;exact Dt h he
 ·obtain⟨v,hv,u,hu,he⟩:=he;rw[hv,hu] at h;exact KL h he
 ·obtain⟨v,hv,he⟩:=he;unfold lC at he;repeat' split at he
  all_goals first|(cases he;done)|(cases he;trivial)
 ·obtain⟨v,hv,he⟩:=he;unfold qH at he;repeat' split at he
  all_goals first|(cases he;done)|(cases he;trivial)
 ·obtain⟨v,hv,u,hu,he⟩:=he;rw[hv,hu] at h;exact yH h he
 ·obtain⟨v,hv,u,hu,he⟩:=he;unfold gY at he;split at he<;>cases he;trivial
 ·obtain⟨v,hv,u,hu,he⟩:=he;unfold gY at he;split at he<;>cases he;trivial
 ·obtain⟨v,hv,he⟩:=he;rw[hv] at h;exact JZ h he
 ·obtain⟨v,hv,he⟩:=he;rw[hv] at h;exact zt h he
 ·obtain⟨v,hv,u,hu,he⟩:=he;rw[hv,hu] at h;exact CP h he
 ·unfold fH at he;split at he<;>cases he;trivial
 ·obtain⟨v,hv,he⟩:=he;unfold nV at he;split at he
  ·unfold fH at he;split at he<;>cases he;trivial
  ·cases he
 ·obtain⟨v,hv,u,hu,y,hy,he⟩:=he;rw[hv,hu,hy] at h;exact sZ h he
 ·obtain⟨v,hv,u,hu,he⟩:=he;rw[hv,hu] at h;exact sZ h he
 ·obtain⟨v,hv,u,hu,he⟩:=he;rw[hv,hu] at h;exact sZ h he
 ·cases h
 ·obtain⟨v,hv,he⟩:=he;rw[hv] at h;exact Gw h he
 ·obtain⟨v,hv,u,hu,he⟩:=he;rw[hv,hu] at h;exact IQ h he
 ·obtain⟨v,hv,u,hu,y,hy,he⟩:=he;rw[hv,hu] at h;exact qg h he
 ·obtain⟨v,hv,u,hu,y,hy,he⟩:=he;rw[hv,hu] at h;exact qg h he
 ·obtain⟨v,hv,he⟩:=he;unfold jR at he;split at he<;>cases he<;>trivial
 ·obtain⟨v,hv,he⟩:=he;unfold jI at he;repeat' split at he
  all_goals first|(cases he;done)|(cases he;trivial)
 ·obtain⟨v,hv,he⟩:=he;cases he;trivial
 ·obtain⟨v,hv,he⟩:=he;cases he;trivial
 ·cases he
end
end Go.Ab
namespace Go.Ab
variable [Dr] {P:Program} {x:X} {s:S} {Q:Exit→S→Prop} {c:Code}
theorem Ue (hQ:∀l s,Q (.goto l) s→False) (h:T P x c s Q):T P x (.scope c) s Q:=fun a w hs=>
 wp_scope_straight (wp_mono (h a w hs) fun e a w hq=>by
  cases e with
  |goto l=>obtain⟨s',h1,_⟩:=hq;exact hQ _ _ h1
  |_=>exact hq)
theorem Ud {l:Nat} (h:Q .normal s):T P x (.label l) s Q:=fun a w hs=>wp_label ⟨s,h,hs⟩
end Go.Ab
namespace Go.Ab
section
variable [Dr] {P:Program} {x:X} {ops l:List Oper} {Q:Exit→S→Prop} {s:S} {d:Nat} {T ty:TypeId} {y:Operand} {pos:String} {after:Array Edge}
theorem Iq {T2 e:TypeId} {str:abW} {zs:List (List D)} (hz:zs=str.data.toList.map bU) (hd:d<s.n) (hy:ev s y=some (.c (.d (.ps 1 zs)))) (h1:P.underlying T=some (.slice e)) (he:P.underlying e=some (.int .u8)) (h2:P.underlying T2=some .string)
 (hk:TO P x ops l ⟨s.n,put s.env d (.c (.d (.v (.string str)))),s.st⟩ Q):TO P x ops (⟨some d, .convert T T2 y,ty,pos,after,none⟩::l) s Q:=by
 subst hz
 rintro A w ⟨bl,cap,hs,henv,hdf,hsz⟩
 have h:=bJ henv hy
 have hrun2:(execOp A.eval ⟨some d, .convert T T2 y,ty,pos,after,none⟩).run P w= .ok (.value (.string str)) w:=by
  simp only[execOp]
  exact dW (oQ h1 he h2 h)
 refine wpList_plain rfl fun K hK=>?_
 unfold Oper.wp
 rw[hrun2]
 exact hK _ _ (hk _ _ ⟨bl,cap,hs,henv.put (by rw[hsz];exact hd) (.v _ rfl),by rw[Act.put_defers];exact hdf,by rw[Act.bK];exact hsz⟩)
theorem Rx {wr:Bool} {o:Oper} (cs:List (Nat×AV)) (ls:UD) {out:Out} (hd:jP o s.n=true) (h:nH P wr ops cs ls o s=some out) (ho:All out.obl)
 (hk:TO P x ops l ⟨s.n,dB s.env o.dst out.v,ah s.st out.upd⟩ Q):TO P x ops (o::l) s Q:=by
 intro a w hs
 have:=yJ (x:=x) h ho hd hs (K:=wpList P ops.toArray (Aq x Q) l) (Q:=Aq x Q) (fun a w h=>hk a w h)
 unfold wpList
 split
 ·rename_i hw;rw[if_pos hw] at this;exact .inl this
 ·rename_i hw;rw[if_neg hw] at this;exact this
end
end Go.Ab
namespace Go.Proofs.YtpoodoknkbojgaaGreatDoor
open Go.Ab Tys
variable [Dr]
end Go.Proofs.YtpoodoknkbojgaaGreatDoor
namespace Go.Ab
variable [Dr] {P:Program} {x:X} {bl:Nat→List Nat} {cap:Nat→Nat} {st:List (Nat×AO)} {w:World}
end Go.Ab
