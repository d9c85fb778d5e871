/- A part of the proof. -/
import Derived.Test.YtcpgicfphakdaaaGreatDoorRPD
import Derived.Sort.Grow
import Derived.Scope
import Derived.Test.YtcpgicfphakdaaaGreatDoorRAbSc
set_option maxRecDepth 100000
set_option maxHeartbeats 8000000
set_option linter.all false
namespace Go.Proofs.YtcpgicfphakdaaaGreatDoor
open Go.Ab
theorem Qc:∀l:List UInt8,Lib.compareBytes l l=0
 |[]=>rfl
 |a::l=>by
  have:¬a<a:=by simp
  rw[Lib.compareBytes,if_neg this,if_neg this];exact Qc l
theorem Zb:∀l m:List UInt8,Lib.compareBytes l m=0→l=m
 |[],[],_=>rfl
 |[],_::_,h=>by simp[Lib.compareBytes] at h
 |_::_,[],h=>by simp[Lib.compareBytes] at h
 |a::l,b::m,h=>by
  rw[Lib.compareBytes] at h
  split at h
  ·cases h
  ·split at h
   ·cases h
   ·rename_i h1 h2
    have:a=b:=by
     apply UInt8.toNat_inj.1
     simp only[UInt8.lt_iff_toNat_lt] at h1 h2;omega
    rw[this,Zb l m h]
theorem JP:∀l m k:List UInt8,Lib.compareBytes l m<0→Lib.compareBytes m k<0→Lib.compareBytes l k<0
 |[],[],_,h,_=>by simp[Lib.compareBytes] at h
 |[],_::_,[],_,h=>by simp[Lib.compareBytes] at h
 |[],_::_,_::_,_,_=>by simp[Lib.compareBytes]
 |_::_,[],_,h,_=>by simp[Lib.compareBytes] at h
 |_::_,_::_,[],_,h=>by simp[Lib.compareBytes] at h
 |a::l,b::m,c::k,h1,h2=>by
  rw[Lib.compareBytes] at h1 h2⊢
  simp only[UInt8.lt_iff_toNat_lt] at h1 h2⊢
  split at h1
  ·split at h2
   ·rw[if_pos (by omega)];omega
   ·split at h2
    ·omega
    ·rw[if_pos (by omega)];omega
  ·split at h1
   ·omega
   ·split at h2
    ·rw[if_pos (by omega)];omega
    ·split at h2
     ·omega
     ·rw[if_neg (by omega),if_neg (by omega)];exact JP l m k h1 h2
theorem Lh (a:ByteArray):cb a a=0:=Qc _
theorem Jv {a b:ByteArray} (h:cb a b=0):a=b:=ByteArray.ext (by simpa using congrArg List.toArray (Zb _ _ h))
theorem Ob {a b c:ByteArray} (h1:cb a b<0) (h2:cb b c<0):cb a c<0:=JP _ _ _ h1 h2
theorem CU:∀l:List ByteArray,cmpL l l=0
 |[]=>rfl
 |a::l=>by rw[cmpL,if_pos (Lh a)];exact CU l
theorem zF:∀l m k:List ByteArray,cmpL l m<0→cmpL m k<0→cmpL l k<0
 |[],[],_,h,_=>by simp[cmpL] at h
 |[],_::_,[],_,h=>by simp[cmpL] at h
 |[],_::_,_::_,_,_=>by simp[cmpL]
 |_::_,[],_,h,_=>by simp[cmpL] at h
 |_::_,_::_,[],_,h=>by simp[cmpL] at h
 |a::l,b::m,c::k,h1,h2=>by
  rw[cmpL] at h1 h2⊢
  by_cases e1:cb a b=0
  ·have:=Jv e1;subst this
   rw[if_pos e1] at h1
   by_cases e2:cb a c=0
   ·rw[if_pos e2] at h2⊢;exact zF l m k h1 h2
   ·rw[if_neg e2] at h2⊢;exact h2
  ·rw[if_neg e1] at h1
   by_cases e2:cb b c=0
   ·have:=Jv e2;subst this
    rw[if_neg e1];exact h1
   ·rw[if_neg e2] at h2
    have:=Ob h1 h2
    rw[if_neg (by omega)];exact this
theorem wP {p q:ByteArray} (hp:(aJ p).isSome=true) (hq:(aJ q).isSome=true):∃a b,aJ p=some a∧aJ q=some b∧ord p q=cmpL a b:=by
 cases h1:aJ p with
 |none=>rw[h1] at hp;cases hp
 |some a=>
  cases h2:aJ q with
  |none=>rw[h2] at hq;cases hq
  |some b=>exact⟨a,b,rfl,rfl,by simp[ord,h1,h2]⟩
theorem VY {p q r:ByteArray} (hp:(aJ p).isSome=true) (hq:(aJ q).isSome=true) (hr:(aJ r).isSome=true) (h1:ord p q<0) (h2:ord q r<0):ord p r<0:=by
 obtain⟨a,b,ea,eb,e1⟩:=wP hp hq
 obtain⟨b',c,eb',ec,e2⟩:=wP hq hr
 rw[eb] at eb';cases eb'
 obtain⟨a',c',ea',ec',e3⟩:=wP hp hr
 rw[ea] at ea';cases ea'
 rw[ec] at ec';cases ec'
 rw[e3];rw[e1] at h1;rw[e2] at h2
 exact zF _ _ _ h1 h2
theorem aai {p:ByteArray} (hp:(aJ p).isSome=true):ord p p=0:=by
 obtain⟨a,b,ea,eb,e1⟩:=wP hp hp
 rw[ea] at eb;cases eb
 rw[e1];exact CU _
def zx (a b:Int):Int:=if a<b then-1 else if b<a then 1 else 0
theorem O3 {d:bJ} {c:oD} (h:∀i,i<c.edits.length→Ae d c i (c.edits.getD i dU)):∀{j i:Nat},i<j→j<c.edits.length→ord (c.edits.getD i dU).path (c.edits.getD j dU).path<0
 |0,i,hij,_=>by omega
 |j+1,i,hij,hj=>by
  have h0:=(h (j+1) hj).okOrder (by omega)
  simp only[Nat.add_sub_cancel] at h0
  by_cases e:i=j
  ·subst e;exact h0
  ·exact VY (h i (by omega)).okPath (h j (by omega)).okPath (h (j+1) hj).okPath (O3 h (by omega) (by omega)) h0
theorem XW {d:bJ} {c:oD} (h:∀i,i<c.edits.length→Ae d c i (c.edits.getD i dU)) {i j:Nat} (hij:i<j) (hj:j<c.edits.length):(c.edits.getD i dU).path≠(c.edits.getD j dU).path:=by
 intro e
 have:=O3 h hij hj
 rw[e,aai (h j hj).okPath] at this
 omega
theorem Uu {n:Int} (h1: -1000000≤n) (h2:n≤1000000):wr n=n:=dG.wrap (by simp only[dG];omega)
structure Good (l:List Rev):Prop where
 num:∀(i:Nat) (v:Rev),l[i]? =some v→1≤v.num∧v.num≤(i:Int)+1
 act:∀(i:Nat) (v:Rev),l[i]? =some v→1≤v.act∧v.act≤5
 chg:∀(i j:Nat) (u v:Rev),i<j→l[i]? =some u→l[j]? =some v→u.chg≤v.chg
 path:∀(i j:Nat) (u v:Rev),i<j→l[i]? =some u→l[j]? =some v→u.path=v.path→u.chg<v.chg∧u.num<v.num
 prv:∀(i:Nat) (v:Rev),l[i]? =some v→v.act≠1→v.act≠4→∃(j:Nat) (u:Rev),j<i∧l[j]? =some u∧u.path=v.path∧u.num=v.num-1∧u.act≠3∧u.act≠5∧u.chg<v.chg
 mov:∀(i:Nat) (v:Rev),l[i]? =some v→v.act=4→∃(j:Nat) (u:Rev),j<i∧l[j]? =some u∧u.path=v.frm∧u.num=v.fnum∧u.act≠3∧u.act≠5∧u.chg<v.chg
 away:∀(i:Nat) (v:Rev),l[i]? =some v→v.act=4→∃(j:Nat) (u:Rev),l[j]? =some u∧u.path=v.frm∧u.num=v.fnum+1∧u.act=5
 mov2:∀(i j:Nat) (u v:Rev),i<j→l[i]? =some u→l[j]? =some v→u.act=4→v.act=4→u.frm=v.frm→u.fnum=v.fnum→False
theorem N7 {α:Type} (p:α→Bool):∀l:List α,(∀v,(l.filter p).getLast? =some v→∃j:Nat,l[j]? =some v∧p v=true∧∀(k:Nat) (u:α),l[k]? =some u→p u=true→k≤j)∧((l.filter p).getLast? =none→∀u∈l,p u=false)
 |[]=>by simp
 |a::l=>by
  obtain⟨h1,h2⟩:=N7 p l
  simp only[List.filter_cons]
  cases hg:(l.filter p).getLast? with
  |none=>
   have hn:=h2 hg
   have h0:l.filter p=[]:=List.getLast?_eq_none_iff.1 hg
   rw[h0]
   by_cases ha:p a=true
   ·rw[if_pos ha]
    refine⟨fun v hv=>?_,fun h=>by simp at h⟩
    simp at hv;subst hv
    refine⟨0,rfl,ha,fun k u hu hp=>?_⟩
    cases k with
    |zero=>omega
    |succ k=>rw[hn u (List.mem_of_getElem? (by simpa using hu))] at hp;cases hp
   ·rw[if_neg ha]
    refine⟨fun v hv=>by simp at hv,fun _ u hu=>?_⟩
    rcases List.mem_cons.1 hu with rfl|hu
    ·simpa using ha
    ·exact hn u hu
  |some w=>
   obtain⟨j,hj,hw,hmax⟩:=h1 w hg
   have h0:(if p a=true then a::l.filter p else l.filter p).getLast? =some w:=by
    split
    ·rw[List.getLast?_cons,hg];rfl
    ·exact hg
   rw[h0]
   refine⟨fun v hv=>?_,fun h=>by cases h⟩
   cases hv
   refine⟨j+1,by simpa using hj,hw,fun k u hu hp=>?_⟩
   cases k with
   |zero=>omega
   |succ k=>have:=hmax k u (by simpa using hu) hp;omega
theorem fQ {d:bJ} {p:ByteArray} {v:Rev} (h:dD d p=some v):∃j:Nat,d.revs[j]? =some v∧v.path=p∧∀(k:Nat) (u:Rev),d.revs[k]? =some u→u.path=p→k≤j:=by
 obtain⟨j,h1,h2,h3⟩:=(N7 (fun v:Rev=>decide (v.path=p)) d.revs).1 v h
 exact⟨j,h1,by simpa using h2,fun k u hu hp=>h3 k u hu (by simpa using hp)⟩
theorem last_none {d:bJ} {p:ByteArray} (h:dD d p=none):∀u∈d.revs,u.path≠p:=by
 intro u hu e
 have:=(N7 (fun v:Rev=>decide (v.path=p)) d.revs).2 h u hu
 simp[e] at this
theorem JK {d:bJ} {p:ByteArray} (h:live d p=true):∃(v:Rev) (j:Nat),dD d p=some v∧d.revs[j]? =some v∧v.path=p∧v.act≠3∧v.act≠5∧dh d p=v.num:=by
 unfold live at h
 split at h
 ·rename_i v hv
  obtain⟨j,h1,h2,h3⟩:=fQ hv
  simp[gone] at h
  exact⟨v,j,hv,h1,h2,h.1,h.2,by simp[dh,hv]⟩
 ·cases h
theorem HY {d:bJ} (hg:Good d.revs) {p:ByteArray} {k:Nat} {u:Rev} (hu:d.revs[k]? =some u) (hp:u.path=p):u.num≤dh d p:=by
 cases h:dD d p with
 |none=>exact absurd hp (last_none h u (List.mem_of_getElem? hu))
 |some v=>
  obtain⟨j,h1,h2,h3⟩:=fQ h
  have:=h3 k u hu hp
  simp only[dh,h,Option.getD]
  rcases Nat.lt_or_ge k j with hkj|hkj
  ·have:=(hg.path k j u v hkj hu h1 (by rw[hp,h2])).2;omega
  ·have e:k=j:=by omega
   subst e;rw[h1] at hu;cases hu;omega
theorem zW {d:bJ} (hg:Good d.revs) (p:ByteArray):0≤dh d p∧dh d p≤d.revs.length:=by
 cases h:dD d p with
 |none=>simp[dh,h,af]
 |some v=>
  obtain⟨j,h1,h2,h3⟩:=fQ h
  have:=hg.num j v h1
  have hj:j<d.revs.length:=(List.getElem?_eq_some_iff.1 h1).1
  simp only[dh,h,Option.getD];omega
theorem RS {α:Type} (p:α→Bool) {l:List α} {a b:Nat} {x y:α} (hab:a<b) (ha:l[a]? =some x) (hb:l[b]? =some y) (hx:p x=true) (hy:p y=true):2≤(l.filter p).length:=by
 have e:l.filter p=(l.take b).filter p++(l.drop b).filter p:=by rw[←List.filter_append,List.take_append_drop]
 rw[e,List.length_append]
 have h1:x∈(l.take b).filter p:=List.mem_filter.2 ⟨List.mem_of_getElem? (i:=a) (by rw[List.getElem?_take,if_pos hab];exact ha),hx⟩
 have h2:y∈(l.drop b).filter p:=List.mem_filter.2 ⟨List.mem_of_getElem? (i:=0) (by rw[List.getElem?_drop];simpa using hb),hy⟩
 have:=List.length_pos_of_mem h1
 have:=List.length_pos_of_mem h2
 omega
theorem Ph {d:bJ} {c:oD} (hg:Good d.revs) (hn:d.revs.length≤512) (hk:yV d c):Good (ku d c).revs:=by
 have hE:=hk.edit
 have sp:∀(i:Nat) (v:Rev),(ku d c).revs[i]? =some v→(i<d.revs.length∧d.revs[i]? =some v)∨∃a,i=d.revs.length+a∧a<c.edits.length∧v=made c (c.edits.getD a dU):=by
  intro i v h
  simp only[ku] at h
  rcases Nat.lt_or_ge i d.revs.length with hi|hi
  ·rw[List.getElem?_append_left hi] at h;exact .inl ⟨hi,h⟩
  ·rw[List.getElem?_append_right hi] at h
   have ha:i-d.revs.length<c.edits.length:=by
    have:=(List.getElem?_eq_some_iff.1 h).1;simpa using this
   refine .inr ⟨i-d.revs.length,by omega,ha,?_⟩
   rw[List.getElem?_map,List.getElem?_eq_getElem ha] at h
   simp at h;rw[←h];simp[List.getD,ha]
 have nw:∀a:Nat,a<c.edits.length→(ku d c).revs[d.revs.length+a]? =some (made c (c.edits.getD a dU)):=by
  intro a ha
  simp only[ku]
  rw[List.getElem?_append_right (by omega),Nat.add_sub_cancel_left,List.getElem?_map,List.getElem?_eq_getElem ha]
  simp[List.getD,ha]
 have od:∀(i:Nat) (v:Rev),d.revs[i]? =some v→(ku d c).revs[i]? =some v:=by
  intro i v h
  simp only[ku]
  rw[List.getElem?_append_left (List.getElem?_eq_some_iff.1 h).1];exact h
 have lb:∀p, -1000000≤dh d p+1∧dh d p+1≤1000000:=fun p=>by have:=zW hg p;omega
 have mn:∀a,a<c.edits.length→(made c (c.edits.getD a dU)).num=dh d (c.edits.getD a dU).path+1:=by
  intro a ha
  simp only[made]
  rw[(hE a ha).okPrev,Uu (lb _).1 (lb _).2]
 have mt:∀a,a<c.edits.length→(c.edits.getD a dU).act=4→∃b,b<c.edits.length∧(c.edits.getD b dU).act=5∧(c.edits.getD b dU).path=(c.edits.getD a dU).frm:=by
  intro a ha h4
  have hm:=hk.move (c.edits.getD a dU) (by rw[List.getD_eq_getElem?_getD,List.getElem?_eq_getElem ha];simp)
  generalize c.edits.getD a dU=e at*
  have hl:(c.edits.filter (Aq e)).length=1:=by
   simp only[zB,h4,Uj] at hm
   simp at hm;have hm:=of_decide_eq_true hm;omega
  obtain⟨y,hy⟩:∃y,y∈c.edits.filter (Aq e):=by
   cases hf:c.edits.filter (Aq e) with
   |nil=>rw[hf] at hl;simp at hl
   |cons y l=>exact⟨y,by simp⟩
  obtain⟨hy1,hy2⟩:=List.mem_filter.1 hy
  obtain⟨b,hb,e⟩:=List.mem_iff_getElem.1 hy1
  have e':c.edits.getD b dU=y:=by simp[List.getD,hb,e]
  simp[Aq,h4] at hy2
  exact⟨b,hb,by rw[e'];exact hy2.1,by rw[e'];exact hy2.2⟩
 constructor
 ·intro i v h
  rcases sp i v h with⟨_,h⟩|⟨a,rfl,ha,rfl⟩
  ·exact hg.num i v h
  ·rw[mn a ha]
   have:=zW hg (c.edits.getD a dU).path
   omega
 ·intro i v h
  rcases sp i v h with⟨_,h⟩|⟨a,rfl,ha,rfl⟩
  ·exact hg.act i v h
  ·exact⟨(hE a ha).okLo,(hE a ha).okHi⟩
 ·intro i j u v hij hu hv
  rcases sp i u hu with⟨h1,hu⟩|⟨a,rfl,ha,rfl⟩
  ·rcases sp j v hv with⟨h2,hv⟩|⟨b,rfl,hb,rfl⟩
   ·exact hg.chg i j u v hij hu hv
   ·have:=hk.old u (List.mem_of_getElem? hu)
    show u.chg≤c.num
    omega
  ·rcases sp j v hv with⟨h2,hv⟩|⟨b,rfl,hb,rfl⟩
   ·omega
   ·exact Int.le_refl _
 ·intro i j u v hij hu hv hp
  rcases sp i u hu with⟨h1,hu⟩|⟨a,rfl,ha,rfl⟩
  ·rcases sp j v hv with⟨h2,hv⟩|⟨b,rfl,hb,rfl⟩
   ·exact hg.path i j u v hij hu hv hp
   ·refine⟨hk.old u (List.mem_of_getElem? hu),?_⟩
    rw[mn b hb]
    have:=HY hg hu (p:=(c.edits.getD b dU).path) hp
    omega
  ·rcases sp j v hv with⟨h2,hv⟩|⟨b,rfl,hb,rfl⟩
   ·omega
   ·exact absurd hp (XW hE (by omega) hb)
 ·intro i v h n1 n4
  rcases sp i v h with⟨_,h⟩|⟨a,rfl,ha,rfl⟩
  ·obtain⟨j,u,h1,h2,h3⟩:=hg.prv i v h n1 n4
   exact⟨j,u,h1,od j u h2,h3⟩
  ·have hl:live d (c.edits.getD a dU).path=true:=by
    cases hl:live d (c.edits.getD a dU).path with
    |true=>rfl
    |false=>rcases(hE a ha).okLive.2 hl with h|h
            ·exact absurd h n1
            ·exact absurd h n4
   obtain⟨v,j,g1,g2,g3,g4,g5,g6⟩:=JK hl
   have hj:=(List.getElem?_eq_some_iff.1 g2).1
   exact⟨j,v,by omega,od j v g2,g3,by rw[mn a ha,g6];omega,g4,g5,hk.old v (List.mem_of_getElem? g2)⟩
 ·intro i v h h4
  rcases sp i v h with⟨_,h⟩|⟨a,rfl,ha,rfl⟩
  ·obtain⟨j,u,h1,h2,h3⟩:=hg.mov i v h h4
   exact⟨j,u,h1,od j u h2,h3⟩
  ·obtain⟨f1,f2,f3⟩:=(hE a ha).okFrm h4
   obtain⟨v,j,g1,g2,g3,g4,g5,g6⟩:=JK f1
   have hj:=(List.getElem?_eq_some_iff.1 g2).1
   exact⟨j,v,by omega,od j v g2,g3,by rw[←g6];exact f2,g4,g5,hk.old v (List.mem_of_getElem? g2)⟩
 ·intro i v h h4
  rcases sp i v h with⟨_,h⟩|⟨a,rfl,ha,rfl⟩
  ·obtain⟨j,u,h2,h3⟩:=hg.away i v h h4
   exact⟨j,u,od j u h2,h3⟩
  ·obtain⟨b,hb,b1,b2⟩:=mt a ha h4
   obtain⟨f1,f2,f3⟩:=(hE a ha).okFrm h4
   refine⟨_,_,nw b hb,b2,?_,b1⟩
   rw[mn b hb,b2,f2];rfl
 ·intro i j u v hij hu hv u4 v4 hf hn'
  rcases sp i u hu with⟨h1,hu⟩|⟨a,rfl,ha,rfl⟩
  ·rcases sp j v hv with⟨h2,hv⟩|⟨b,rfl,hb,rfl⟩
   ·exact hg.mov2 i j u v hij hu hv u4 v4 hf hn'
   ·obtain⟨k,w,w1,w2,w3,w4⟩:=hg.away i u hu u4
    obtain⟨f1,f2,f3⟩:=(hE b hb).okFrm v4
    have:=HY hg w1 (p:=(c.edits.getD b dU).frm) (by rw[w2,hf];rfl)
    rw[f2,w3,hn'] at this
    have:(made c (c.edits.getD b dU)).fnum=(c.edits.getD b dU).fnum:=rfl
    omega
  ·rcases sp j v hv with⟨h2,hv⟩|⟨b,rfl,hb,rfl⟩
   ·omega
   ·obtain⟨x,hx,x1,x2⟩:=mt a ha u4
    have hm:=hk.move (c.edits.getD x dU) (by rw[List.getD_eq_getElem?_getD,List.getElem?_eq_getElem hx];simp)
    have h2:=RS (Aq (c.edits.getD x dU)) (l:=c.edits) (a:=a) (b:=b) (x:=c.edits.getD a dU) (y:=c.edits.getD b dU) (by omega) (by simp[List.getD,ha]) (by simp[List.getD,hb])
     (by simp only[Aq,x1,x2,show(c.edits.getD a dU).act=4 from u4];simp) (by simp only[Aq,x1,x2,show(c.edits.getD b dU).act=4 from v4,show(c.edits.getD a dU).frm=(c.edits.getD b dU).frm from hf];simp)
    generalize c.edits.getD x dU=e at*
    simp only[zB,x1,Uj] at hm
    simp at hm;have hm:=of_decide_eq_true hm;omega
theorem YB:Good []:=by constructor<;>simp
theorem jX.good {l:List oD} {d:bJ} (h:jX l d):Good d.revs:=by
 induction h with
 |nil=>exact YB
 |skip c h ih=>exact ih
 |app h hc hk ih=>exact Ph ih h.ok.1 hk
def ai {κ ν:Type} [DecidableEq κ]:List (κ×ν)→κ→Option ν
 |[],_=>none
 |(a,b)::m,k=>if k=a then some b else ai m k
def fV {κ ν:Type} [DecidableEq κ]:List (κ×ν)→κ→ν→List (κ×ν)
 |[],k,v=>[(k,v)]
 |(a,b)::m,k,v=>if k=a then(k,v)::m else(a,b)::fV m k v
theorem fA {κ ν:Type} [DecidableEq κ] (m:List (κ×ν)) (k:κ) (v:ν) (j:κ):ai (fV m k v) j=if j=k then some v else ai m j:=by
 induction m with
 |nil=>simp[fV,ai]
 |cons p m ih=>
  obtain⟨a,b⟩:=p
  simp only[fV]
  split
  ·rename_i e;subst e
   simp only[ai]
   split<;>simp_all
  ·rename_i e
   simp only[ai]
   rw[ih]
   split
   ·rename_i e2;subst e2
    rw[if_neg (fun h=>e h.symm)]
   ·rfl
@[reducible] def bM {κ ν:Type} (ke:κ→Bool×List D) (ve:ν→Bool×List D) (m:List (κ×ν)):List iV:=m.map fun p=>(ke p.1,ve p.2)
section
variable {κ ν:Type} [DecidableEq κ] {ke:κ→Bool×List D} {ve:ν→Bool×List D} (hk:∀a b,jE ((ke a).2.map C.d) ((ke b).2.map C.d)=decide (a=b))
include hk
theorem nP (m:List (κ×ν)) (k:κ):fD ((ke k).2.map C.d) ((bM ke ve m).map fC)=(ai m k).map fun v=>jV (ve v):=by
 induction m with
 |nil=>rfl
 |cons p m ih=>
  simp only[bM,List.map_cons,fD,fC,jV] at ih⊢
  rw[hk]
  simp only[ai]
  by_cases e:k=p.1
  ·simp[e,jV]
  ·simp only[e,decide_false,Bool.false_eq_true,if_false];exact ih
theorem G5 (m:List (κ×ν)) (k:κ) (v:ν):dH (jV (ke k)) (jV (ve v)) ((bM ke ve m).map fC)=(bM ke ve (fV m k v)).map fC:=by
 induction m with
 |nil=>rfl
 |cons p m ih=>
  simp only[bM,List.map_cons,dH,fC,fV]
  have:jE (jV (ke k)).2 (jV (ke p.1)).2=decide (k=p.1):=hk _ _
  rw[this]
  by_cases e:k=p.1
  ·simp[e,fC]
  ·simp only[e,decide_false,Bool.false_eq_true,if_false,List.map_cons,fC]
   rw[←ih]
end
@[reducible] def kF (f:bf):Bool×List D:=(true,dW f)
@[reducible] def kN (i:Int):Bool×List D:=(false,[.v (.int .i64 i)])
@[reducible] def Ed (s:ByteArray):Bool×List D:=(false,[.v (.string s)])
@[reducible] def vI (i:Int):Bool×List D:=(false,[.v (.int .i64 i)])
theorem Gt (a b:bf):jE ((kF a).2.map C.d) ((kF b).2.map C.d)=decide (a=b):=by
 cases a;cases b;simp[kF,jE,Dy,Bool.decide_and]
theorem F8 (a b:Int):jE ((kN a).2.map C.d) ((kN b).2.map C.d)=decide (a=b):=by
 simp[kN,jE,Dy]
theorem abv (a b:ByteArray):jE ((Ed a).2.map C.d) ((Ed b).2.map C.d)=decide (a=b):=by
 simp[Ed,jE,Dy]
@[reducible] def gI {κ:Type} (ke:κ→Bool×List D) (l:List κ):List iV:=l.map fun k=>(ke k,(false,[.v (.bool true)]))
def nD {κ:Type} [DecidableEq κ] (l:List κ) (k:κ):List κ:=if k∈l then l else l++[k]
theorem wG {κ:Type} [DecidableEq κ] (l:List κ) (k j:κ):j∈nD l k↔j∈l∨j=k:=by
 unfold nD
 split
 ·constructor
  ·exact .inl
  ·rintro(h|rfl)<;>assumption
 ·simp
section
variable {κ:Type} [DecidableEq κ] {ke:κ→Bool×List D} (hk:∀a b,jE ((ke a).2.map C.d) ((ke b).2.map C.d)=decide (a=b))
include hk
theorem VN (l:List κ) (k:κ):fD ((ke k).2.map C.d) ((gI ke l).map fC)=if k∈l then some (false,[.d (.v (.bool true))]) else none:=by
 induction l with
 |nil=>simp[fD]
 |cons a l ih=>
  simp only[gI,List.map_cons,fD,fC,jV,List.mem_cons] at ih⊢
  rw[hk]
  by_cases e:k=a
  ·simp[e]
  ·simp only[e,decide_false,Bool.false_eq_true,if_false,false_or];exact ih
theorem oP (l:List κ) (k:κ):dH (jV (ke k)) (false,[.d (.v (.bool true))]) ((gI ke l).map fC)=(gI ke (nD l k)).map fC:=by
 induction l with
 |nil=>simp[nD,dH,fC,jV]
 |cons a l ih=>
  simp only[gI,List.map_cons,dH,fC] at ih⊢
  have:jE (jV (ke k)).2 (jV (ke a)).2=decide (k=a):=hk _ _
  rw[this]
  by_cases e:k=a
  ·subst e;simp[nD,fC,jV]
  ·simp only[e,decide_false,Bool.false_eq_true,if_false]
   rw[ih]
   unfold nD
   simp only[List.mem_cons,e,false_or]
   split<;>simp[fC]
end
theorem Yw (l:List Int) (n:Int):(fD [C.d (.v (.int .i64 n))] ((gI kN l).map fC)).getD (false,[C.d (.v (.bool false))])=(false,[C.d (.v (.bool (decide (n∈l))))]):=by
 have:=VN F8 l n
 rw[show((kN n).2.map C.d)=[C.d (.v (.int .i64 n))] from rfl] at this
 rw[this]
 by_cases h:n∈l<;>simp[h]
theorem SL (l:List Int) (n:Int):dH (false,[C.d (.v (.int .i64 n))]) (false,[C.d (.v (.bool true))]) ((gI kN l).map fC)=(gI kN (nD l n)).map fC:=oP F8 l n
theorem qo {κ:Type} {ke:κ→Bool×List D} {l:List κ} {a:List iV} {e:iV} {b:List iV} (h:gI ke l=a++e::b):∃x k y,l=x++k::y∧a=gI ke x∧e=(ke k,(false,[.v (.bool true)]))∧b=gI ke y:=by
 obtain⟨x,r,rfl,rfl,h2⟩:=List.map_eq_append_iff.1 h
 obtain⟨k,y,rfl,rfl,rfl⟩:=List.map_eq_cons_iff.1 h2
 exact⟨x,k,y,rfl,rfl,rfl,rfl⟩
@[reducible] def Pn {κ:Type} (ke:κ→Bool×List D):Option (List κ)→D
 |none=> .v (.map none)
 |some l=> .pm (gI ke l)
theorem VI (l:List Int):∀e∈(gI kN l).map fC,e.1.1=false∧cZ [.int .i64] e.1.2:=by
 intro e he
 simp only[gI,List.mem_map] at he
 obtain⟨_,⟨f,_,rfl⟩,rfl⟩:=he
 exact⟨rfl,by simp[fC,jV,cZ]⟩
@[reducible] def WT {κ:Type} (ke:κ→Bool×List D) (l:List κ):AO:= .map ((gI ke l).map fC)
def Vo {κ:Type} [DecidableEq κ] (s t:List κ):Bool:=s.all fun k=>decide (k∈t)
@[reducible] def iW (o:Option (List Int)):List D:=[Pn kN o]
structure iE where
 revs:List Rev
 index:List (bf×Int)
 prev:List Int
 fst:List Int
 car:List (Option (List Int))
 con:List (Option (List Int))
 cre:List (Option (List Int))
@[reducible] def eI (i:Int):List D:=[.v (.int .i64 i)]
structure xK (L:iE):Prop where
 n:L.revs.length≤512
 prev:L.prev.length=L.revs.length
 fst:L.fst.length=L.revs.length
 car:L.car.length=L.revs.length
 con:L.con.length=L.revs.length
 cre:L.cre.length=L.revs.length
 ix:∀p k,ai L.index p=some k→0≤k∧k<L.revs.length
def mr (L:iE) (f:ByteArray) (n:Int):Nat→List (Option (List Int))
 |0=>[]
 |k+1=>(match ai L.index ⟨f,n⟩ with|some i=>[L.con.getD i.toNat none]|none=>[])++mr L f (n+1) k
def jA (L:iE) (r:iD):List (Option (List Int)):=mr L r.frm (max r.first 1) (min r.last 512-max r.first 1+1).toNat
theorem Gy (L:iE) (f:ByteArray):∀(k:Nat) (n:Int),(mr L f n k).length≤k
 |0,n=>by simp[mr]
 |k+1,n=>by
  have:=Gy L f k (n+1)
  simp only[mr]
  split<;>simp<;>omega
theorem uG {α:Type} (e:α→List D) (l:List α) (k:Nat) (z:α) (h:k<l.length):((l.map e).map fun l=>l.map C.d).getD k []=(e (l.getD k z)).map C.d:=by
 simp[List.getD,h]
def qH (L:iE) (f:bf):Option Int:=match ai L.index f with|some i=>if 0≤L.fst.getD i.toNat 0 then some i else none|none=>none
def upto (l:List Int) (s:Int):List Int:=match l with|[]=>[]|a::l=>if a=s then [a] else a::upto l s
theorem NF:∀{l:List Int} {k:Nat} {s:Int},¬s∈l.take k→l[k]? =some s→upto l s=l.take (k+1)
 |[],k,s,_,h=>by simp at h
 |a::l,0,s,_,h=>by simp at h;subst h;simp[upto]
 |a::l,k+1,s,hn,h=>by
  simp only[List.take_succ_cons,List.mem_cons,not_or] at hn
  simp only[upto]
  rw[if_neg (fun e=>hn.1 e.symm),NF hn.2 (by simpa using h)]
  simp
theorem Kr:∀{l:List Int} {s:Int},¬s∈l→upto l s=l
 |[],s,_=>rfl
 |a::l,s,hn=>by
  simp only[List.mem_cons,not_or] at hn
  simp only[upto]
  rw[if_neg (fun e=>hn.1 e.symm),Kr hn.2]
def gZ (L:iE) (t:Int) (i:Int):Bool:=!Vo ((L.con.getD i.toNat none).getD []) ((L.cre.getD t.toNat none).getD [])
def df (v:Rev):bf:=if v.act=1 then xH else if v.act=4 then⟨v.frm,v.fnum⟩ else⟨v.path,v.num-1⟩
def gK (L:iE) (i:Nat) (v:Rev):Int:=match qH L (df v) with|some u=>L.fst.getD u.toNat 0|none=>i
def lC (L:iE) (v:Rev):Int:=match qH L (df v) with|some u=>u|none=> -1
def aV (L:iE) (i:Nat) (v:Rev):iE:={L with prev:=L.prev.set i (if v.act=5 then-1 else lC L v),fst:=L.fst.set i (if v.act=5 then-1 else gK L i v)}
structure Acc where
 car:List (Option (List Int))
 ign:List (Option (List Int))
 orig:Bool
def fE (L:iE) (a:Acc) (r:iD):Acc:=
 if r.how=1 then(match ai L.index ⟨r.frm,r.last⟩ with|some k=>⟨a.car++[L.car.getD k.toNat none],a.ign,a.orig⟩|none=>a)
 else if r.how=3 then⟨a.car,a.ign++jA L r,a.orig⟩
 else⟨a.car++jA L r,a.ign,a.orig||decide (r.how=4)⟩
def Bv (L:iE) (i:Nat):Option (List Int):=if 0≤L.prev.getD i 0 then L.car.getD (L.prev.getD i 0).toNat none else none
def IA (L:iE) (i:Nat):Option (List Int):=if 0≤L.prev.getD i 0 then L.cre.getD (L.prev.getD i 0).toNat none else none
def Ee (L:iE) (i:Nat) (b:Bool):Acc:=⟨[Bv L i],[IA L i],b⟩
def qC (L:iE) (i:Nat) (rs:List iD):Acc:=rs.foldl (fE L) (Ee L i (decide ((rs.length:Int)=0)))
def Ef (L:iE) (i:Nat) (rs:List iD) (k:Nat):Acc:=(rs.take k).foldl (fE L) (Ee L i (decide ((rs.length:Int)=0)))
def rW (L:iE) (i:Nat) (rs:List iD):List (Option (List Int)):=(qC L i rs).car++(if(qC L i rs).orig then [some [(i:Int)]] else [])
def Uni (l:List Int) (s:List (Option (List Int))):Prop:=∀k,k∈l↔∃o∈s,k∈o.getD []
structure Yq (L:iE) (i:Nat) (rs:List iD) (c k cr:List Int):Prop where
 car:Uni c (rW L i rs)
 con:∀x,x∈k↔x∈c∧¬x∈(Bv L i).getD []
 cre:Uni cr ((qC L i rs).ign++[some c])
def zX (L:iE) (i:Nat) (c k cr:List Int):iE:={L with car:=L.car.set i (some c),con:=L.con.set i (some k),cre:=L.cre.set i (some cr)}
theorem Jh (L:iE) (r:iD):(jA L r).length≤512:=by
 have:=Gy L r.frm (min r.last 512-max r.first 1+1).toNat (max r.first 1)
 simp only[jA];omega
theorem NU (L:iE) (a:Acc) (r:iD):(fE L a r).car.length≤a.car.length+512∧(fE L a r).ign.length≤a.ign.length+512:=by
 have:=Jh L r
 unfold fE
 split
 ·split<;>simp
 ·split<;>simp<;>omega
theorem Uz (L:iE):∀(rs:List iD) (a:Acc),(rs.foldl (fE L) a).car.length≤a.car.length+512*rs.length∧(rs.foldl (fE L) a).ign.length≤a.ign.length+512*rs.length
 |[],a=>by simp
 |r::rs,a=>by
  have h1:=NU L a r
  have h2:=Uz L rs (fE L a r)
  simp only[List.foldl_cons,List.length_cons];omega
def jK (d:bJ) (f:bf):List iD:=d.recs.filter fun r=>decide ((⟨r.to,r.num⟩:bf)=f)
def yU (d:bJ):iE:=⟨d.revs,[],List.replicate d.revs.length 0,List.replicate d.revs.length 0,List.replicate d.revs.length none,List.replicate d.revs.length none,List.replicate d.revs.length none⟩
def Ag (L:iE) (f:bf) (k:Nat):iE:={L with index:=fV L.index f k}
def Ky (me:List (Int×List Int)) (l:Int) (k:Nat):List (Int×List Int):=fV me l ((ai me l).getD []++[(k:Int)])
inductive jJ (d:bJ):Nat→iE→List (Int×List Int)→Prop
 |zero:jJ d 0 (yU d) []
 |away {k:Nat} {L:iE} {me:List (Int×List Int)} {v:Rev} (h:jJ d k L me) (hv:d.revs[k]? =some v) (h5:v.act=5):jJ d (k+1) (Ag (aV L k v) (fileOf v) k) me
 |Xt {k:Nat} {L:iE} {me:List (Int×List Int)} {v:Rev} (h:jJ d k L me) (hv:d.revs[k]? =some v) (h5:¬v.act=5) {c m cr:List Int} (hA:Yq (aV L k v) k (jK d (fileOf v)) c m cr):
  jJ d (k+1) (Ag (zX (aV L k v) k c m cr) (fileOf v) k) (Ky me (gK L k v) k)
structure lq (d:bJ) (k:Nat) (L:iE) (me:List (Int×List Int)):Prop where
 kn:k≤d.revs.length
 revs:L.revs=d.revs
 lp:L.prev.length=d.revs.length
 lf:L.fst.length=d.revs.length
 lc:L.car.length=d.revs.length
 lo:L.con.length=d.revs.length
 lr:L.cre.length=d.revs.length
 ix:∀f i,ai L.index f=some i↔∃(j:Nat) (v:Rev),i=(j:Int)∧j<k∧d.revs[j]? =some v∧fileOf v=f
 f5:∀(j:Nat) (v:Rev),j<k→d.revs[j]? =some v→v.act=5→L.fst.getD j 0= -1∧L.con.getD j none=none∧L.car.getD j none=none
 fm:∀(j:Nat) (v:Rev),j<k→d.revs[j]? =some v→¬v.act=5→0≤L.fst.getD j 0∧L.fst.getD j 0≤j
 pm:∀(j:Nat) (v:Rev),j<k→d.revs[j]? =some v→¬v.act=5→
  (∃(u:Nat) (w:Rev),L.prev.getD j 0=(u:Int)∧u<j∧d.revs[u]? =some w∧¬w.act=5∧fileOf w=df v∧¬v.act=1∧w.chg<v.chg∧L.fst.getD j 0=L.fst.getD u 0)∨(v.act=1∧L.prev.getD j 0= -1∧L.fst.getD j 0=j)
 mem:∀key:Int,0≤key→(ai me key).getD []=((List.range k).filter fun j=>decide (L.fst.getD j 0=key)).map fun j:Nat=>(j:Int)
 mne:∀key:Int,ai me key≠some []
 sets:∀(j:Nat) (v:Rev),j<k→d.revs[j]? =some v→¬v.act=5→∃c m cr,L.car.getD j none=some c∧L.con.getD j none=some m∧L.cre.getD j none=some cr
 un:∀j:Nat,k≤j→L.car.getD j none=none∧L.con.getD j none=none∧L.cre.getD j none=none
 bd:∀(j:Nat) (x:Int),x∈(L.car.getD j none).getD []∨x∈(L.con.getD j none).getD []∨x∈(L.cre.getD j none).getD []→0≤x∧x<k
theorem iO {α:Type} (l:List α) (i j:Nat) (a z:α) (h:i<l.length):(l.set i a).getD j z=if i=j then a else l.getD j z:=by
 simp only[List.getD,List.getElem?_set]
 split
 ·rename_i e;subst e;simp[h]
 ·rfl
theorem bQ {l:List Rev} (hg:Good l) {i j:Nat} {u v:Rev} (hu:l[i]? =some u) (hv:l[j]? =some v) (h:fileOf u=fileOf v):i=j:=by
 simp only[fileOf,bf.mk.injEq] at h
 rcases Nat.lt_trichotomy i j with hlt|rfl|hlt
 ·have:=(hg.path i j u v hlt hu hv h.1).2;omega
 ·rfl
 ·have:=(hg.path j i v u hlt hv hu h.1.symm).2;omega
theorem Wv {l:List Rev} (hg:Good l) {k:Nat} {v:Rev} (hv:l[k]? =some v) (h5:¬v.act=5):
 (v.act=1∧df v=xH)∨(¬v.act=1∧∃(u:Nat) (w:Rev),u<k∧l[u]? =some w∧¬w.act=5∧fileOf w=df v∧w.chg<v.chg):=by
 by_cases h1:v.act=1
 ·exact .inl ⟨h1,by simp[df,h1]⟩
 ·refine .inr ⟨h1,?_⟩
  by_cases h4:v.act=4
  ·obtain⟨j,u,a1,a2,a3,a4,a5,a6,a7⟩:=hg.mov k v hv h4
   exact⟨j,u,a1,a2,a6,by simp[df,h4,fileOf,a3,a4],a7⟩
  ·obtain⟨j,u,a1,a2,a3,a4,a5,a6,a7⟩:=hg.prv k v hv h1 h4
   exact⟨j,u,a1,a2,a6,by simp[df,h1,h4,fileOf,a3,a4],a7⟩
theorem aa1 {l:List Rev} (hg:Good l) {j:Nat} {v:Rev} (hv:l[j]? =some v):fileOf v≠xH:=by
 intro h
 have:=(hg.num j v hv).1
 simp only[fileOf,xH,bf.mk.injEq] at h
 omega
theorem lq.look {d:bJ} {k:Nat} {L:iE} {me:List (Int×List Int)} (h:lq d k L me) (hg:Good d.revs) {v:Rev} (hv:d.revs[k]? =some v) (h5:¬v.act=5):
 (v.act=1∧ai L.index (df v)=none∧qH L (df v)=none)∨
 (¬v.act=1∧∃(u:Nat) (w:Rev),u<k∧d.revs[u]? =some w∧¬w.act=5∧fileOf w=df v∧w.chg<v.chg∧ai L.index (df v)=some (u:Int)∧qH L (df v)=some (u:Int)∧0≤L.fst.getD u 0∧L.fst.getD u 0≤u):=by
 rcases Wv hg hv h5 with⟨h1,hb⟩|⟨h1,u,w,a1,a2,a3,a4,a5⟩
 ·have hn:ai L.index (df v)=none:=by
   cases hk:ai L.index (df v) with
   |none=>rfl
   |some i=>
    obtain⟨j,w,_,_,b3,b4⟩:=(h.ix _ _).1 hk
    exact absurd (b4.trans hb) (aa1 hg b3)
  exact .inl ⟨h1,hn,by simp[qH,hn]⟩
 ·have hs:ai L.index (df v)=some (u:Int):=(h.ix _ _).2 ⟨u,w,rfl,a1,a2,a4⟩
  obtain⟨f1,f2⟩:=h.fm u w a1 a2 a3
  exact .inr ⟨h1,u,w,a1,a2,a3,a4,a5,hs,by simp only[qH,hs,Int.toNat_natCast,f1,if_true],f1,f2⟩
theorem Gm (L:iE) (f:ByteArray) (o:Option (List Int)):∀(k:Nat) (n:Int),o∈mr L f n k↔∃(j i:Int),n≤j∧j<n+k∧ai L.index ⟨f,j⟩=some i∧o=L.con.getD i.toNat none
 |0,n=>by
  simp only[mr,List.not_mem_nil,false_iff,not_exists]
  rintro j i ⟨h1,h2,_⟩
  simp at h2;omega
 |k+1,n=>by
  simp only[mr,List.mem_append,Gm L f o k (n+1)]
  constructor
  ·rintro(h|⟨j,i,h1,h2,h3,h4⟩)
   ·cases hk:ai L.index ⟨f,n⟩ with
    |none=>rw[hk] at h;simp at h
    |some i=>rw[hk] at h;simp at h;exact⟨n,i,by omega,by omega,hk,by simpa using h⟩
   ·exact⟨j,i,by omega,by omega,h3,h4⟩
  ·rintro⟨j,i,h1,h2,h3,h4⟩
   by_cases e:j=n
   ·subst e;left;rw[h3];simp[h4]
   ·exact .inr ⟨j,i,by omega,by omega,h3,h4⟩
theorem yP (L:iE) (r:iD) (o:Option (List Int)):o∈jA L r↔∃(j i:Int),r.first≤j∧1≤j∧j≤r.last∧j≤512∧ai L.index ⟨r.frm,j⟩=some i∧o=L.con.getD i.toNat none:=by
 rw[jA,Gm]
 constructor
 ·rintro⟨j,i,h1,h2,h3⟩;exact⟨j,i,by omega,by omega,by omega,by omega,h3⟩
 ·rintro⟨j,i,h1,h2,h3,h4,h5⟩;exact⟨j,i,by omega,by omega,h5⟩
theorem O7 (L:iE) (a:Acc) (r:iD) (o:Option (List Int)):
 (o∈(fE L a r).car↔o∈a.car∨(r.how=1∧∃i,ai L.index ⟨r.frm,r.last⟩=some i∧o=L.car.getD i.toNat none)∨(¬r.how=1∧¬r.how=3∧o∈jA L r))∧
 (o∈(fE L a r).ign↔o∈a.ign∨(r.how=3∧o∈jA L r))∧((fE L a r).orig=true↔a.orig=true∨r.how=4):=by
 unfold fE
 by_cases h1:r.how=1
 ·rw[if_pos h1]
  have h3:¬r.how=3:=by omega
  have h4:¬r.how=4:=by omega
  cases hk:ai L.index ⟨r.frm,r.last⟩ with
  |none=>simp[h1]
  |some i=>simp[h1]
 ·rw[if_neg h1]
  by_cases h3:r.how=3
  ·rw[if_pos h3];simp[h3]
  ·rw[if_neg h3];simp[h1,h3]
theorem He (L:iE) (o:Option (List Int)):∀(rs:List iD) (a:Acc),
 (o∈(rs.foldl (fE L) a).car↔o∈a.car∨∃r∈rs,(r.how=1∧∃i,ai L.index ⟨r.frm,r.last⟩=some i∧o=L.car.getD i.toNat none)∨(¬r.how=1∧¬r.how=3∧o∈jA L r))∧
 (o∈(rs.foldl (fE L) a).ign↔o∈a.ign∨∃r∈rs,r.how=3∧o∈jA L r)∧((rs.foldl (fE L) a).orig=true↔a.orig=true∨∃r∈rs,r.how=4)
 |[],a=>by simp
 |r::rs,a=>by
  obtain⟨h1,h2,h3⟩:=He L o rs (fE L a r)
  obtain⟨g1,g2,g3⟩:=O7 L a r o
  simp only[List.foldl_cons,h1,h2,h3,g1,g2,g3,List.mem_cons,exists_eq_or_imp,or_assoc]
  exact⟨trivial,trivial,trivial⟩
theorem nJ (L:iE) (i:Nat) (rs:List iD) (o:Option (List Int)):o∈rW L i rs↔o=Bv L i∨(∃r∈rs,(r.how=1∧∃i,ai L.index ⟨r.frm,r.last⟩=some i∧o=L.car.getD i.toNat none)∨(¬r.how=1∧¬r.how=3∧o∈jA L r))∨
 ((rs=[]∨∃r∈rs,r.how=4)∧o=some [(i:Int)]):=by
 obtain⟨h1,h2,h3⟩:=He L o rs (Ee L i (decide ((rs.length:Int)=0)))
 have ho:((qC L i rs).orig=true↔rs=[]∨∃r∈rs,r.how=4):=by
  rw[qC,h3];simp[Ee,Int.natCast_eq_zero,List.length_eq_zero_iff]
 rw[rW,List.mem_append,qC,h1]
 simp only[Ee,List.mem_singleton,or_assoc]
 have:(o∈if(qC L i rs).orig=true then [some [(i:Int)]] else [])↔((rs=[]∨∃r∈rs,r.how=4)∧o=some [(i:Int)]):=by
  rw[←ho];split<;>simp_all
 rw[←this];rfl
theorem uQ (L:iE) (i:Nat) (rs:List iD) (o:Option (List Int)):o∈(qC L i rs).ign↔o=IA L i∨∃r∈rs,r.how=3∧o∈jA L r:=by
 obtain⟨h1,h2,h3⟩:=He L o rs (Ee L i (decide ((rs.length:Int)=0)))
 rw[qC,h2];simp[Ee]
theorem TN {d:bJ} {k:Nat} {L:iE} {me:List (Int×List Int)} (h:lq d k L me) (hg:Good d.revs) {v:Rev} (hv:d.revs[k]? =some v):
 ∀f i,ai (fV L.index (fileOf v) (k:Int)) f=some i↔∃(j:Nat) (w:Rev),i=(j:Int)∧j<k+1∧d.revs[j]? =some w∧fileOf w=f:=by
 intro f i
 rw[fA]
 by_cases e:f=fileOf v
 ·subst e
  rw[if_pos rfl]
  constructor
  ·intro h;cases h;exact⟨k,v,rfl,by omega,hv,rfl⟩
  ·rintro⟨j,w,rfl,_,h2,h3⟩
   rw[bQ hg h2 hv h3]
 ·rw[if_neg e,h.ix]
  constructor
  ·rintro⟨j,w,h1,h2,h3⟩;exact⟨j,w,h1,by omega,h3⟩
  ·rintro⟨j,w,h1,h2,h3,h4⟩
   refine⟨j,w,h1,?_,h3,h4⟩
   by_cases ej:j=k
   ·subst ej;rw[hv] at h3;cases h3;exact absurd h4.symm e
   ·omega
theorem sZ {k:Nat} {l m:List Int} (key:Int) (h:∀j,j<k→m.getD j 0=l.getD j 0):(List.range k).filter (fun j=>decide (m.getD j 0=key))=(List.range k).filter (fun j=>decide (l.getD j 0=key)):=
 List.filter_congr fun j hj=>by rw[h j (by simpa using hj)]
theorem Yo {L:iE} {i:Nat} {rs:List iD} {c m cr:List Int} (hA:Yq L i rs c m cr) (P:Int→Prop) (hi:P i)
 (hb:∀(j:Nat) (x:Int),x∈(L.car.getD j none).getD []∨x∈(L.con.getD j none).getD []∨x∈(L.cre.getD j none).getD []→P x):∀x,x∈c∨x∈m∨x∈cr→P x:=by
 have h1:∀x,x∈c→P x:=by
  intro x hx
  obtain⟨o,ho,hxo⟩:=(hA.car x).1 hx
  rcases(nJ L i rs o).1 ho with rfl|⟨r,_,⟨_,k,_,rfl⟩|⟨_,_,ho⟩⟩|⟨_,rfl⟩
  ·unfold Bv at hxo
   split at hxo
   ·exact hb _ x (.inl hxo)
   ·simp at hxo
  ·exact hb _ x (.inl hxo)
  ·obtain⟨_,k,_,_,_,_,_,rfl⟩:=(yP L r o).1 ho
   exact hb _ x (.inr (.inl hxo))
  ·simp at hxo;rw[hxo];exact hi
 rintro x (hx|hx|hx)
 ·exact h1 x hx
 ·exact h1 x ((hA.con x).1 hx).1
 ·obtain⟨o,ho,hxo⟩:=(hA.cre x).1 hx
  rcases List.mem_append.1 ho with ho|ho
  ·rcases(uQ L i rs o).1 ho with rfl|⟨r,_,_,ho⟩
   ·unfold IA at hxo
    split at hxo
    ·exact hb _ x (.inr (.inr hxo))
    ·simp at hxo
   ·obtain⟨_,k,_,_,_,_,_,rfl⟩:=(yP L r o).1 ho
    exact hb _ x (.inr (.inl hxo))
  ·simp at ho;subst ho;exact h1 x (by simpa using hxo)
theorem GX {α:Type} (n j:Nat) (a:α):(List.replicate n a).getD j a=a:=by
 simp only[List.getD,List.getElem?_replicate];split<;>rfl
theorem jJ.inv {d:bJ} (hg:Good d.revs) {k:Nat} {L:iE} {me:List (Int×List Int)} (h:jJ d k L me):lq d k L me:=by
 induction h with
 |zero=>
  have hz:∀j:Nat,(yU d).car.getD j none=none∧(yU d).con.getD j none=none∧(yU d).cre.getD j none=none:=fun j=>⟨GX _ _ _,GX _ _ _,GX _ _ _⟩
  refine⟨by simp,rfl,by simp[yU],by simp[yU],by simp[yU],by simp[yU],by simp[yU],?_,?_,?_,?_,?_,?_,?_,fun j _=>hz j,?_⟩
  ·intro f i;simp[yU,ai]
  ·intro j v hj;omega
  ·intro j v hj;omega
  ·intro j v hj;omega
  ·intro key _;simp[ai]
  ·intro key;simp[ai]
  ·intro j v hj;omega
  ·intro j x h
   obtain⟨h1,h2,h3⟩:=hz j
   rw[h1,h2,h3] at h
   rcases h with h|h|h<;>simp at h
 | @away k L me v h hv h5 ih=>
   have hk:k<d.revs.length:=(List.getElem?_eq_some_iff.1 hv).1
   have hF:∀j,(Ag (aV L k v) (fileOf v) k).fst.getD j 0=if k=j then-1 else L.fst.getD j 0:=fun j=>by
    show(L.fst.set k _).getD j 0=_
    rw[iO _ _ _ _ _ (by rw[ih.lf];exact hk),if_pos h5]
   have hP:∀j,(Ag (aV L k v) (fileOf v) k).prev.getD j 0=if k=j then-1 else L.prev.getD j 0:=fun j=>by
    show(L.prev.set k _).getD j 0=_
    rw[iO _ _ _ _ _ (by rw[ih.lp];exact hk),if_pos h5]
   have old:∀(j:Nat) (w:Rev),j<k+1→d.revs[j]? =some w→¬w.act=5→j<k:=by
    intro j w hj hw h
    by_cases e:j=k
    ·subst e;rw[hv] at hw;cases hw;exact absurd h5 h
    ·omega
   refine⟨hk,ih.revs,?_,?_,ih.lc,ih.lo,ih.lr,TN ih hg hv,?_,?_,?_,?_,ih.mne,?_,fun j hj=>ih.un j (by omega),?_⟩
   ·simp[Ag,aV,ih.lp]
   ·simp[Ag,aV,ih.lf]
   ·intro j w hj hw w5
    rw[hF]
    by_cases e:k=j
    ·subst e
     exact⟨if_pos rfl,(ih.un k (Nat.le_refl _)).2.1,(ih.un k (Nat.le_refl _)).1⟩
    ·rw[if_neg e];exact ih.f5 j w (by omega) hw w5
   ·intro j w hj hw w5
    have:=old j w hj hw w5
    rw[hF,if_neg (by omega)];exact ih.fm j w this hw w5
   ·intro j w hj hw w5
    have hj':=old j w hj hw w5
    rw[hP,hF,if_neg (by omega),if_neg (by omega)]
    rcases ih.pm j w hj' hw w5 with⟨u,w',a1,a2,a3⟩|h
    ·exact .inl ⟨u,w',a1,a2,by rw[hF,if_neg (by omega)];exact a3⟩
    ·exact .inr h
   ·intro key hkey
    rw[ih.mem key hkey,List.range_succ,List.filter_append,sZ (l:=L.fst) (m:=(Ag (aV L k v) (fileOf v) k).fst) key (fun j hj=>by rw[hF,if_neg (by omega)])]
    have:(List.filter (fun j=>decide ((Ag (aV L k v) (fileOf v) k).fst.getD j 0=key)) [k])=[]:=by
     rw[List.filter_cons,hF,if_pos rfl,if_neg (by simp;omega)];rfl
    rw[this,List.append_nil]
   ·intro j w hj hw w5;exact ih.sets j w (old j w hj hw w5) hw w5
   ·intro j x hx;have:=ih.bd j x hx;omega
 | @Xt k L me v h hv h5 c m cr hA ih=>
   have hk:k<d.revs.length:=(List.getElem?_eq_some_iff.1 hv).1
   generalize hL':Ag (zX (aV L k v) k c m cr) (fileOf v) k=L'
   have hF:∀j,L'.fst.getD j 0=if k=j then gK L k v else L.fst.getD j 0:=fun j=>by
    rw[←hL'];show(L.fst.set k _).getD j 0=_
    rw[iO _ _ _ _ _ (by rw[ih.lf];exact hk),if_neg h5]
   have hP:∀j,L'.prev.getD j 0=if k=j then lC L v else L.prev.getD j 0:=fun j=>by
    rw[←hL'];show(L.prev.set k _).getD j 0=_
    rw[iO _ _ _ _ _ (by rw[ih.lp];exact hk),if_neg h5]
   have hC:∀j,L'.car.getD j none=if k=j then some c else L.car.getD j none:=fun j=>by
    rw[←hL'];show(L.car.set k _).getD j none=_
    rw[iO _ _ _ _ _ (by rw[ih.lc];exact hk)]
   have hO:∀j,L'.con.getD j none=if k=j then some m else L.con.getD j none:=fun j=>by
    rw[←hL'];show(L.con.set k _).getD j none=_
    rw[iO _ _ _ _ _ (by rw[ih.lo];exact hk)]
   have hR:∀j,L'.cre.getD j none=if k=j then some cr else L.cre.getD j none:=fun j=>by
    rw[←hL'];show(L.cre.set k _).getD j none=_
    rw[iO _ _ _ _ _ (by rw[ih.lr];exact hk)]
   have hlk:=ih.look hg hv h5
   have hln:0≤gK L k v∧gK L k v≤k:=by
    rcases hlk with⟨_,_,h⟩|⟨_,u,w,a1,a2,a3,a4,a5,a6,a7,a8,a9⟩
    ·simp only[gK,h];omega
    ·simp only[gK,a7,Int.toNat_natCast];omega
   refine⟨hk,?_,?_,?_,?_,?_,?_,?_,?_,?_,?_,?_,?_,?_,?_,?_⟩
   ·rw[←hL'];exact ih.revs
   ·rw[←hL'];simp[Ag,zX,aV,ih.lp]
   ·rw[←hL'];simp[Ag,zX,aV,ih.lf]
   ·rw[←hL'];simp[Ag,zX,aV,ih.lc]
   ·rw[←hL'];simp[Ag,zX,aV,ih.lo]
   ·rw[←hL'];simp[Ag,zX,aV,ih.lr]
   ·rw[←hL'];exact TN ih hg hv
   ·intro j w hj hw w5
    have e:¬k=j:=by rintro rfl;rw[hv] at hw;cases hw;exact h5 w5
    rw[hF,hO,hC,if_neg e,if_neg e,if_neg e];exact ih.f5 j w (by omega) hw w5
   ·intro j w hj hw w5
    rw[hF]
    by_cases e:k=j
    ·subst e;rw[if_pos rfl];exact hln
    ·rw[if_neg e];exact ih.fm j w (by omega) hw w5
   ·intro j w hj hw w5
    rw[hF,hP]
    by_cases e:k=j
    ·subst e
     rw[hv] at hw;cases hw
     rw[if_pos rfl,if_pos rfl]
     rcases hlk with⟨h1,_,h⟩|⟨h1,u,w,a1,a2,a3,a4,a5,a6,a7,a8,a9⟩
     ·exact .inr ⟨h1,by simp only[lC,h],by simp only[gK,h]⟩
     ·refine .inl ⟨u,w,by simp only[lC,a7],a1,a2,a3,a4,h1,a5,?_⟩
      rw[hF,if_neg (by omega)];simp only[gK,a7,Int.toNat_natCast]
    ·rw[if_neg e,if_neg e]
     rcases ih.pm j w (by omega) hw w5 with⟨u,w',a1,a2,a3⟩|h
     ·exact .inl ⟨u,w',a1,a2,by rw[hF,if_neg (by omega)];exact a3⟩
     ·exact .inr h
   ·intro key hkey
    rw[List.range_succ,List.filter_append,sZ (l:=L.fst) (m:=L'.fst) key (fun j hj=>by rw[hF,if_neg (by omega)]),List.map_append,←ih.mem key hkey,Ky,fA]
    by_cases e:key=gK L k v
    ·subst e
     have:(List.filter (fun j=>decide (L'.fst.getD j 0=gK L k v)) [k])=[k]:=by
      rw[List.filter_cons,hF,if_pos rfl,if_pos (by simp)];rfl
     rw[if_pos rfl,this];rfl
    ·have:(List.filter (fun j=>decide (L'.fst.getD j 0=key)) [k])=[]:=by
      rw[List.filter_cons,hF,if_pos rfl,if_neg (by simp;exact fun h=>e h.symm)];rfl
     rw[if_neg e,this];simp
   ·intro key
    rw[Ky,fA]
    split
    ·simp
    ·exact ih.mne key
   ·intro j w hj hw w5
    rw[hC,hO,hR]
    by_cases e:k=j
    ·subst e;exact⟨c,m,cr,if_pos rfl,if_pos rfl,if_pos rfl⟩
    ·rw[if_neg e,if_neg e,if_neg e];exact ih.sets j w (by omega) hw w5
   ·intro j hj
    rw[hC,hO,hR,if_neg (by omega),if_neg (by omega),if_neg (by omega)];exact ih.un j (by omega)
   ·intro j x hx
    rw[hC,hO,hR] at hx
    by_cases e:k=j
    ·rw[if_pos e,if_pos e,if_pos e] at hx
     refine Yo hA (fun x=>0≤x∧x<((k+1:Nat):Int)) (by omega) ?_ x hx
     intro j x hx
     have:=ih.bd j x hx
     omega
    ·rw[if_neg e,if_neg e,if_neg e] at hx
     have:=ih.bd j x hx
     omega
end Go.Proofs.YtcpgicfphakdaaaGreatDoor
namespace Go.Proofs.YtcpgicfphakdaaaGreatDoor
open Go.Ab Tys
variable [Dr]
def z88.kk:=RJ kB kS Tryz.ntmps88 Tryz.underlying27 ny iK nI uM jq x8 uB nT kC Tryz.results88
open z88 in
theorem Sl (d:bJ) (p:ByteArray) (hd:d.revs.length≤1000000):AC Tryz.prog 88 [uY d,Str p] [] (fun r st=>r=wW (log d p)∧st=[]):=by
 refine dA Tryz.func88 Tryz.ntmps88 fun x hx=>?_
 try refine nv ?_
 refine nH (jM (i:=5) (id:=100) (sz:=12) rfl rfl (by omega)) ?_
 refine dZ ?_
 refine ax (ι:=Nat) (I:=fun k=>⟨25,[(1,Str p),(5, .c (.ms 100 12 0 ((d.revs.take k).filter fun v=>decide (v.path=p)).length)),(9,wW d.revs),(10,I .i64 d.revs.length),(11,I .i64 k)],
  [(100,aK 12 (((d.revs.take k).filter fun v=>decide (v.path=p)).map aI))]⟩)
  (Inv:=fun k=>k≤d.revs.length) (μ:=fun k=>d.revs.length-k) 0 (by omega) ?_ ?_
 ·exact cO
 ·intro k hk
  have hF:=qE (fun v=>decide (v.path=p)) d.revs k
  try refine nv ?_
  refine aj ?_ ?_
  ·intro hlt
   have hlt':k<d.revs.length:=by simpa using hlt
   obtain⟨v,hv,he,htk⟩:=round aI d.revs k af hlt'
   refine bC ?_
   refine gx @he ?_
   try refine nv ?_
   refine aj ?_ ?_
   ·intro heq
    have heq':v.path=p:=by simpa using heq
    try refine nv ?_
    refine⟨k+1,by omega,by omega,?_⟩
    (refine bI (fun i=>if i=100 then 22 else i) rfl ?_ ⟨?_,?_,?_,keepR hx (by simp[ae,Ab.get])⟩<;>first|(intro i hi;have h0:=hx i hi;constructor<;>(revert h0;simp only[ae,Ab.get];(repeat' split)<;>simp_all);done)|(simp only[kE,aK, ↓reduceIte,Nat.reduceEqDiff,reduceCtorEq];done)|(simp only[aK,jv,jy,List.mem_cons,List.not_mem_nil,or_false,forall_eq_or_imp,forall_eq];simp[dQ,dX,dK,dY,ag,Ab.get,aH,cu,aB,bD,aS,aQ,aU,aP,aT,ae,List.flatten,htk,heq',List.filter_append];done)|simp[dQ,dX,dK,dY,ag,Ab.get,aH,cu,aB,bD,aS,aQ,aU,aP,aT,ae,List.flatten,htk,heq',List.filter_append])
   ·intro hne
    have hne':¬v.path=p:=by simpa using hne
    try refine nv ?_
    refine⟨k+1,by omega,by omega,?_⟩
    (refine bI (fun i=>i) rfl ?_ ⟨?_,?_,?_,di hx (by simp[ae,Ab.get])⟩<;>first|(simp only[kE,aK, ↓reduceIte,Nat.reduceEqDiff,reduceCtorEq,htk,hne',List.filter_append];done)|simp[aW,aA,ag,Ab.get,aH,cu,aB,bD,aS,aQ,aU,aP,aT,ae,List.flatten,htk,hne',List.filter_append])
  ·intro hge
   have hge':k=d.revs.length:=by have:¬k<d.revs.length:=by simpa using hge
                                 omega
   refine bC ?_
   refine bz (aZ (i:=5) (id:=100) (ys:=((d.revs.take k).filter fun v=>decide (v.path=p)).map aI) rfl rfl (by simp)) ?_
   refine dZ ?_
   try refine nv ?_
   refine rA [] ?_
   refine⟨?_,rfl⟩
   simp[log,hge']
end Go.Proofs.YtcpgicfphakdaaaGreatDoor
namespace Go.Ab
variable [Dr]
section
variable {P:Program} {x:X}
theorem Y8 {Q:Exit→S→Prop} {s:S} {ops l:List Oper} {d:Tmp} {T T' e:TypeId} {y:Operand} {ty:TypeId} {pos:String} {after:Array Edge} {sz:Nat} {xs:List (List D)} (hd:d<s.n)
 (hT:P.underlying T=some (.slice e)) (hy:ev s y=some (.c (.d (.ps sz xs)))) (hx:xs≠[])
 (hk:TO P x ops l ⟨s.n,put s.env d (B false),s.st⟩ Q):TO P x ops (⟨some d, .binOp .eql T y (.const (.slice none 0 0)) T',ty,pos,after,none⟩::l) s Q:=by
 rintro a w ⟨bl,cap,hs,henv,hdf,hsz⟩
 have h1:bU _ _ (.ps sz xs) (a.eval y):=dR henv hy
 refine wpList_plain rfl fun K hK=>?_
 unfold Oper.wp
 have h2:a.eval (.const (.slice none 0 0))= .slice none 0 0:=rfl
 have hrun:(execOp a.eval ⟨some d, .binOp .eql T y (.const (.slice none 0 0)) T',ty,pos,after,none⟩).run P w= .ok (.value (.bool false)) w:=by
  have h3:∃u,u=a.eval y:=⟨_,rfl⟩
  obtain⟨u,hu⟩:=h3
  rw[←hu] at h1
  cases h1 with
  |nil=>exact absurd rfl hx
  |ps _ _ b o cp f hM hl2 hc hrr hcap hb=>
   have e1:(Op.equal T (.slice (some ⟨b,o,none⟩) xs.length cp) (.slice none 0 0)).run P w= .ok false w:=by
    show(Op.equalIn (9999+1) T _ _).run P w=_
    rw[Op.equalIn]
    simp[run_underlying hT]
   have e2:(binOp .eql T (.slice (some ⟨b,o,none⟩) xs.length cp) (.slice none 0 0)).run P w= .ok (.bool false) w:=by
    show(Value.bool <$> Op.equal T _ _:Sem Value).run P w=_
    simp[e1]
   simp[execOp,h2,eqGuard,←hu,e2]
 rw[hrun]
 exact hK _ _ (hk _ _ ⟨bl,cap,hs,henv.put (by rw[hsz];exact hd) (.v _ rfl),by rw[Act.put_defers];exact hdf,by rw[Act.fK];exact hsz⟩)
end
end Go.Ab
namespace Go.Ab
open Go.Sort
section
variable {x:X} {bl:Nat→List Nat} {cap:Nat→Nat} {st:List (Nat×AO)} {w:World}
variable [Dr]
theorem K.aal {w':World} (hw:Grew w w'):(mkK x bl cap st w).le (mkK x bl cap st w'):=
 ⟨fun _ h=>h,fun _ _=>rfl,fun _ _=>rfl,fun b _ hb=>hw.heap b hb,fun _ h=> .inl h⟩
theorem bK.grew (h:bK x bl cap st w) {w':World} (hw:Grew w w'):bK x bl cap st w' where
 objs i p hp:=by
  cases hp':p.bT with
  |false=>cases p<;>simp[AO.bT] at hp';trivial
  |true=>exact(h.objs i p hp).le (K.aal hw) (by simp[mkK,hp]) fun b hb=>hw.heap b (h.lt b ⟨i,p,hp,hp',hb⟩)
 disj:=h.disj
 nodup:=h.nodup
 new:=h.new
 lt b hb:=Nat.lt_of_lt_of_le (h.lt b hb) hw.size
 fr:=⟨Nat.le_trans h.fr.size hw.size,fun b hb hm=>by rw[hw.heap b (Nat.lt_of_lt_of_le hb h.fr.size)];exact h.fr.heap b hb hm,by rw[hw.os];exact h.fr.os,by rw[hw.output];exact h.fr.output,by rw[hw.tape];exact h.fr.tape,fun e=>Nat.le_trans (h.fr.drawn e) hw.drawn⟩
 keep:=h.keep
 xok:=h.xok
end
theorem TD {α β:Type} (f:α→β):∀l:List α,(l.map fun z=>[f z]).flatten=l.map f
 |[]=>rfl
 |a::l=>by have:=TD f l;simp_all
theorem S9 {α:Type} [Inhabited α] (l:List α) (j:Nat) (h:j<l.length):(l.toArray)[j]! =l[j]:=by
 rw[getElem!_pos _ j (by simpa using h)];simp
variable [Dr]
theorem Ya {P:Program} {f:FuncId} {α:Type} [Inhabited α] {enc:α→Value} (h1:∀z,(enc z).oneCell'=true) {l l':List α} (hl:l'.length=l.length) (hc:sU P f)
 (hC:∀blk off cap w,Holds enc w blk off l.toArray→blk<w.heap.size→Calls P f #[.slice (some ⟨blk,off,none⟩) l.length cap] w fun e w'=>e= .returned (.tuple #[])∧∃n os,w'=grow (putRow enc (Sort.ahead w n) blk off l'.toArray) os)
 (hnil:l=[]→∀p cap w,Calls P f #[.slice p 0 cap] w fun e w'=>e= .returned (.tuple #[])∧w'=w) (id:Nat):
 AC P f [.c (.ms id 1 0 l.length)] [(id, .arr 1 (l.map fun z=>[C.d (.v (enc z))]))] (fun r st=>r= .tup []∧st=[(id, .arr 1 (l'.map fun z=>[C.d (.v (enc z))]))]):=by
 refine⟨hc,?_⟩
 intro bl cap F w us hs hargs
 have hid:get [(id,AO.arr 1 (l.map fun z=>[C.d (.v (enc z))]))] id=some (.arr 1 (l.map fun z=>[C.d (.v (enc z))])):=by simp[get]
 have hput:put [(id,AO.arr 1 (l.map fun z=>[C.d (.v (enc z))]))] id (AO.arr 1 (l'.map fun z=>[C.d (.v (enc z))]))=[(id,AO.arr 1 (l'.map fun z=>[C.d (.v (enc z))]))]:=by simp[put]
 cases hargs with
 |cons hv ht=>
 cases ht
 obtain⟨_,hle,hv⟩:=hv
 obtain⟨g1,g2,g3,g4⟩:=hs.objs id _ hid
 simp only[mkK,Nat.zero_add,Nat.sub_zero,List.length_map,Nat.zero_mul] at hv g1 hle g4
 rcases hv with⟨c0,a,rfl⟩|⟨c0,b,hb,rfl⟩
 ·have hl0:l=[]:=List.length_eq_zero_iff.1 (by omega)
  have hl1:l'=[]:=List.length_eq_zero_iff.1 (by rw[hl,hl0];rfl)
  subst hl0 hl1
  refine(hnil rfl a 0 w).mono ?_
  rintro e w' ⟨rfl,rfl⟩
  exact⟨.tup [],_,bl,cap,_,rfl,⟨rfl,rfl⟩,by simp,hs,[],rfl, .nil⟩
 ·rcases g4 with⟨c1,_⟩|⟨b',T,vs,hb',hh,hlen,hA⟩
  ·exact absurd c1 c0
  rw[hb] at hb'
  cases hb'
  have hbl:b<w.heap.size:=by
   rcases Nat.lt_or_ge b w.heap.size with h|h
   ·exact h
   ·rw[Array.getElem?_eq_none h] at hh;cases hh
  have hcell:∀j (hj:j<l.length),vs[j]? =some (enc l[j]):=by
   intro j hj
   have e1:(l.map fun z=>[C.d (.v (enc z))]).flatten[j]? =some (C.d (.v (enc l[j]))):=by
    rw[show(l.map fun z=>[C.d (.v (enc z))]).flatten=l.map fun z=>C.d (.v (enc z)) from TD _ _]
    simp[hj]
   obtain⟨u,hu,hr⟩:=hA.get e1
   rw[List.getElem?_take] at hu
   split at hu
   ·rw[hu];congr 1
    have hr':bU _ _ (.v (enc l[j])) u:=hr
    cases hr';rfl
   ·cases hu
  have hH:Holds enc w b 0 l.toArray:=by
   intro j hj
   simp only[List.size_toArray] at hj
   rw[S9 l j hj]
   constructor
   ·simp only[World.cell?,hh,Nat.zero_add]
    simpa using hcell j hj
   ·simp[World.frozen?,hh]
  refine(hC b 0 (cap id) w hH hbl).mono ?_
  rintro e w' ⟨rfl,n,os,rfl⟩
  have hheap:∀c,c≠b→(putRow enc (Sort.ahead w n) b 0 l'.toArray).heap[c]? =w.heap[c]?:=by
   intro c hcb
   simp only[putRow,mapBlock,Array.getElem?_modify,heap_ahead]
   rw[if_neg (Ne.symm hcb)]
  have hat:(putRow enc (Sort.ahead w n) b 0 l'.toArray).heap[b]? =some (.cells (putCells enc 0 l'.toArray (List.toArray vs)) T (0,0)):=by
   simp only[putRow,mapBlock,Array.getElem?_modify,heap_ahead,if_true,hh,Option.map_some,onCells]
  have hs1:bK (X.start bl cap F [(id, .arr 1 (l.map fun z=>[C.d (.v (enc z))]))] w) bl cap [(id,AO.arr 1 (l'.map fun z=>[C.d (.v (enc z))]))] (putRow enc (Sort.ahead w n) b 0 l'.toArray):=by
   rw[←hput]
   refine hs.upd hid rfl ⟨by simp,fun c hcb=>hheap c (by rw[hb] at hcb;simpa using hcb),rfl,rfl,rfl,Nat.le_add_right _ _⟩ ?_
   refine⟨?_,?_,by omega, .inr ⟨b,T,(putCells enc 0 l'.toArray (List.toArray vs)).toList,?_,?_,?_,?_⟩⟩
   ·simp only[mkK,List.length_map];omega
   ·intro y hy
    obtain⟨z,_,rfl⟩:=List.mem_map.1 hy
    rfl
   ·exact hb
   ·simp only[mkK];rw[hat]
   ·simp only[mkK,putCells,Array.length_toList,Array.size_mapIdx,List.size_toArray];exact hlen
   ·refine aN.Me ?_ ?_
    ·rw[show(l'.map fun z=>[C.d (.v (enc z))]).flatten=l'.map fun z=>C.d (.v (enc z)) from TD _ _]
     simp only[putCells,List.length_map,List.length_take,Array.length_toList,Array.size_mapIdx,List.size_toArray]
     omega
    ·intro i c v hc hv
     rw[show(l'.map fun z=>[C.d (.v (enc z))]).flatten=l'.map fun z=>C.d (.v (enc z)) from TD _ _] at hc
     have hi:i<l'.length:=by
      have:=(List.getElem?_eq_some_iff.1 hc).1;simpa using this
     simp only[List.getElem?_map,List.getElem?_eq_getElem hi,Option.map_some,Option.some.injEq] at hc
     subst hc
     rw[List.getElem?_take] at hv
     split at hv
     ·simp only[putCells,Array.getElem?_toList,Array.getElem?_mapIdx,Nat.zero_le,true_and,Nat.zero_add,Nat.sub_zero,List.size_toArray,hi,if_true] at hv
      obtain⟨q,hq,rfl⟩:=Option.map_eq_some_iff.1 hv
      rw[S9 l' i hi]
      exact .v _ (h1 _)
     ·cases hv
  refine⟨.tup [],_,bl,cap,_,rfl,⟨rfl,rfl⟩,by simp,hs1.grew ⟨by simp,fun c hc=>?_,rfl,rfl,rfl,Nat.le_refl _⟩,[],rfl, .nil⟩
  exact heap_grow_old _ _ hc
end Go.Ab
namespace Go.Proofs.YtcpgicfphakdaaaGreatDoor
open Go.Ab
structure Cmp {α:Type} (c:α→α→Int):Prop where
 refl:∀x,c x x=0
 neg:∀x y,c x y<0→0<c y x
 pos:∀x y,0<c x y→c y x<0
 eql:∀x y z,c x y=0→c x z=c y z
 eqr:∀x y z,c x y=0→c z x=c z y
 trans:∀x y z,c x y<0→c y z<0→c x z<0
theorem Cmp.on {α β:Type} {c:β→β→Int} (h:Cmp c) (f:α→β):Cmp fun x y=>c (f x) (f y):=
 ⟨fun x=>h.refl _,fun x y=>h.neg _ _,fun x y=>h.pos _ _,fun x y z=>h.eql _ _ _,fun x y z=>h.eqr _ _ _,fun x y z=>h.trans _ _ _⟩
theorem Cmp.of {α:Type} {c:α→α→Int} (refl:∀x,c x x=0) (neg:∀x y,c x y<0→0<c y x) (pos:∀x y,0<c x y→c y x<0) (eq:∀x y,c x y=0→x=y) (trans:∀x y z,c x y<0→c y z<0→c x z<0):Cmp c:=
 ⟨refl,neg,pos,fun x y z h=>by rw[eq x y h],fun x y z h=>by rw[eq x y h],trans⟩
theorem MB:∀l m:List UInt8,(Lib.compareBytes l m<0→0<Lib.compareBytes m l)∧(0<Lib.compareBytes l m→Lib.compareBytes m l<0)
 |[],[]=>by simp[Lib.compareBytes]
 |[],_::_=>by simp[Lib.compareBytes]
 |_::_,[]=>by simp[Lib.compareBytes]
 |a::l,b::m=>by
  have ih:=MB l m
  simp only[Lib.compareBytes,UInt8.lt_iff_toNat_lt]
  by_cases h1:a.toNat<b.toNat
  ·rw[if_pos h1,if_neg (by omega),if_pos h1];omega
  ·rw[if_neg h1]
   by_cases h2:b.toNat<a.toNat
   ·rw[if_pos h2,if_pos h2];omega
   ·rw[if_neg h2,if_neg h2,if_neg h1];exact ih
theorem XJ:Cmp cb:=Cmp.of Lh (fun x y=>(MB _ _).1) (fun x y=>(MB _ _).2) (fun x y=>Jv) (fun x y z=>Ob)
theorem cmpL_eq:∀l m:List ByteArray,cmpL l m=0→l=m
 |[],[],_=>rfl
 |[],_::_,h=>by simp[cmpL] at h
 |_::_,[],h=>by simp[cmpL] at h
 |a::l,b::m,h=>by
  rw[cmpL] at h
  by_cases e:cb a b=0
  ·rw[if_pos e] at h;rw[Jv e,cmpL_eq l m h]
  ·rw[if_neg e] at h;exact absurd h e
theorem Hw:∀l m:List ByteArray,(cmpL l m<0→0<cmpL m l)∧(0<cmpL l m→cmpL m l<0)
 |[],[]=>by simp[cmpL]
 |[],_::_=>by simp[cmpL]
 |_::_,[]=>by simp[cmpL]
 |a::l,b::m=>by
  have ih:=Hw l m
  simp only[cmpL]
  by_cases e:cb a b=0
  ·have:=Jv e;subst this
   rw[if_pos e,if_pos e];exact ih
  ·have e2:¬cb b a=0:=fun h=>e (by rw[Jv h];exact Lh _)
   rw[if_neg e,if_neg e2]
   exact⟨XJ.neg a b,XJ.pos a b⟩
theorem ZB:Cmp cmpL:=Cmp.of CU (fun x y=>(Hw x y).1) (fun x y=>(Hw x y).2) cmpL_eq zF
theorem pW {A B:List ByteArray} {x z:ByteArray} {i:Nat} (h:i=A.length):(A++x::B).getD i z=x:=by
 subst h
 simp[List.getD_eq_getElem?_getD]
theorem rD {A B:List ByteArray} {x y:ByteArray} {i:Nat} (h:i=A.length):(A++x::B).set i y=A++y::B:=by
 subst h
 rw[List.set_append_right _ _ (Nat.le_refl _),Nat.sub_self,List.set_cons_zero]
def vP (P u w v S:List ByteArray) (k:Nat):List ByteArray:=P++(v.take k++(u.drop k++(w++(u.take k++(v.drop k++S)))))
theorem ZK {P u w v S:List ByteArray} {k:Nat} (hk:k≤u.length) (hv:u.length=v.length):(vP P u w v S k).length=P.length+u.length+w.length+v.length+S.length:=by
 simp only[vP,List.length_append,List.length_take,List.length_drop];omega
theorem WF (P u w v S:List ByteArray):vP P u w v S 0=P++(u++(w++(v++S))):=by simp[vP]
theorem Xw {P u w v S:List ByteArray} (hv:u.length=v.length):vP P u w v S u.length=P++(v++(w++(u++S))):=by
 simp only[vP,List.take_length,List.drop_length]
 rw[hv,List.take_length,List.drop_length]
 simp
theorem Yg {P u w v S:List ByteArray} {k i j:Nat} (hk:k<u.length) (hv:u.length=v.length) (hi:i=P.length+k) (hj:j=P.length+u.length+w.length+k) (z:ByteArray):
 (vP P u w v S k).getD i z=u.getD k z∧(vP P u w v S k).getD j z=v.getD k z∧((vP P u w v S k).set i (v.getD k z)).set j (u.getD k z)=vP P u w v S (k+1):=by
 have hk2:k<v.length:=by omega
 have eu:u.drop k=u.getD k z::u.drop (k+1):=by rw[List.drop_eq_getElem_cons hk];simp[List.getD_eq_getElem?_getD,List.getElem?_eq_getElem hk]
 have ev:v.drop k=v.getD k z::v.drop (k+1):=by rw[List.drop_eq_getElem_cons hk2];simp[List.getD_eq_getElem?_getD,List.getElem?_eq_getElem hk2]
 have tu:u.take (k+1)=u.take k++[u.getD k z]:=by rw[List.take_add_one,List.getElem?_eq_getElem hk];simp[List.getD_eq_getElem?_getD,List.getElem?_eq_getElem hk]
 have tv:v.take (k+1)=v.take k++[v.getD k z]:=by rw[List.take_add_one,List.getElem?_eq_getElem hk2];simp[List.getD_eq_getElem?_getD,List.getElem?_eq_getElem hk2]
 have lu:(u.take k).length=k:=by simp;omega
 have lv:(v.take k).length=k:=by simp;omega
 have ld:(u.drop (k+1)).length=u.length-(k+1):=by simp
 generalize u.getD k z=x at eu tu
 generalize v.getD k z=y at ev tv
 generalize hU1:u.take k=U1 at lu tu
 generalize hV1:v.take k=V1 at lv tv
 generalize hU2:u.drop (k+1)=U2 at eu ld
 generalize hV2:v.drop (k+1)=V2 at ev
 have e0:vP P u w v S k=(P++V1)++x::(U2++(w++(U1++(y::(V2++S))))):=by simp[vP,hU1,hV1,eu,ev,List.append_assoc]
 have e1:vP P u w v S k=(P++V1++x::U2++w++U1)++y::(V2++S):=by simp[vP,hU1,hV1,eu,ev,List.append_assoc]
 refine⟨?_,?_,?_⟩
 ·rw[e0];exact pW (by simp[lv,hi])
 ·rw[e1];exact pW (by simp[lv,lu,ld,hj];omega)
 ·rw[e0,rD (by simp[lv,hi])]
  have e2:(P++V1)++y::(U2++(w++(U1++(y::(V2++S)))))=(P++V1++y::U2++w++U1)++y::(V2++S):=by simp[List.append_assoc]
  rw[e2,rD (by simp[lv,lu,ld,hj];omega)]
  simp[vP,tu,tv,hU2,hV2,List.append_assoc]
section
variable {α:Type} {c:α→α→Int}
def IG (c:α→α→Int) (x y:α):Prop:=¬c y x<0
theorem Cmp.le_refl (h:Cmp c) (x:α):IG c x x:=by unfold IG;rw[h.refl];omega
theorem Cmp.le_of_lt (h:Cmp c) {x y:α} (hl:c x y<0):IG c x y:=by unfold IG;have:=h.neg x y hl;omega
theorem Cmp.le_trans (h:Cmp c) {x y z:α} (h1:IG c x y) (h2:IG c y z):IG c x z:=by
 unfold IG at h1 h2⊢
 intro h3
 by_cases a:c y x=0
 ·rw[h.eqr y x z a] at h2;exact h2 h3
 ·have h4:c x y<0:=by
   by_cases b:c y x<0
   ·exact absurd b h1
   ·exact h.pos y x (by omega)
  exact h2 (h.trans z x y h3 h4)
theorem Cmp.le_total (h:Cmp c) (x y:α):IG c x y∨IG c y x:=by
 unfold IG
 by_cases a:c y x<0
 ·right;have:=h.neg y x a;omega
 ·exact .inl a
abbrev aO (c:α→α→Int) (l:List α):Prop:=l.Pairwise (IG c)
theorem L8 {x1 x2 y1 y2 z1 z2:List α} (hx:aO c (x1++x2)) (hy:aO c (y1++y2)) (h1:∀p∈x1,∀q∈y2,IG c p q) (h2:∀p∈x2,∀q∈y1,IG c q p)
 (p1:z1.Perm (x1++y1)) (s1:aO c z1) (p2:z2.Perm (x2++y2)) (s2:aO c z2):(z1++z2).Perm ((x1++x2)++(y1++y2))∧aO c (z1++z2):=by
 refine⟨?_,?_⟩
 ·refine(p1.append p2).trans ?_
  rw[List.append_assoc,List.append_assoc]
  refine List.Perm.append_left _ ?_
  rw[←List.append_assoc,←List.append_assoc]
  exact List.Perm.append_right _ List.perm_append_comm
 ·rw[aO,List.pairwise_append]
  refine⟨s1,s2,?_⟩
  intro p hp q hq
  have hp':=(p1.mem_iff).1 hp
  have hq':=(p2.mem_iff).1 hq
  rw[aO,List.pairwise_append] at hx hy
  rcases List.mem_append.1 hp' with hp'|hp'<;>rcases List.mem_append.1 hq' with hq'|hq'
  ·exact hx.2.2 p hp' q hq'
  ·exact h1 p hp' q hq'
  ·exact h2 q hq' p hp'
  ·exact hy.2.2 p hp' q hq'
end
end Go.Proofs.YtcpgicfphakdaaaGreatDoor
namespace Go.Ab
variable [Dr]
section
variable {P:Program} {x:X}
theorem EF {Q:Exit→S→Prop} {s:S} {ops l:List Oper} {d:Tmp} {T T':TypeId} {y:Operand} {ty:TypeId} {pos:String} {after:Array Edge} {k:IntKind} {n:Nat} (hd:d<s.n)
 (hy:ev s y=some (I k n)) (hn:dG k (((n/2:Nat):Int)))
 (hk:TO P x ops l ⟨s.n,put s.env d (I k ((n/2:Nat):Int)),s.st⟩ Q):TO P x ops (⟨some d, .binOp .shr T y (.const (.int .u64 1)) T',ty,pos,after,none⟩::l) s Q:=by
 rintro a w ⟨bl,cap,hs,henv,hdf,hsz⟩
 have h1:a.eval y= .int k n:=mD (dR henv hy)
 refine wpList_plain rfl fun K hK=>?_
 unfold Oper.wp
 have hrun:(execOp a.eval ⟨some d, .binOp .shr T y (.const (.int .u64 1)) T',ty,pos,after,none⟩).run P w= .ok (.value (.int k ((n/2:Nat):Int))) w:=by
  have e:Int.fdiv (n:Int) 2=((n/2:Nat):Int):=by rw[Int.fdiv_eq_ediv_of_nonneg _ (by omega)];simp
  have h2:a.eval (.const (.int .u64 1))= .int .u64 1:=rfl
  have h3:min (1:Int).toNat k.bits=1:=by cases k<;>rfl
  have h4:binOp .shr T (.int k n) (.int .u64 1)=pure (.int k ((n/2:Nat):Int)):=by
   rw[←e]
   simp[binOp,Op.shift,h3]
   cases k<;>rfl
  simp[execOp,h1,h2,eqGuard,h4]
 rw[hrun]
 exact hK _ _ (hk _ _ ⟨bl,cap,hs,henv.put (by rw[hsz];exact hd) (.v _ rfl),by rw[Act.put_defers];exact hdf,by rw[Act.fK];exact hsz⟩)
end
end Go.Ab
namespace Go.Proofs.YtcpgicfphakdaaaGreatDoor
open Go.Ab Tys
variable [Dr]
@[reducible] def XH (L:iE):AO:= .box [.d (.ps 12 (L.revs.map aI)), .mp 1001, .mp 1002, .ms 1003 1 0 L.revs.length, .ms 1004 1 0 L.revs.length, .mp 1005, .ms 1006 1 0 L.revs.length, .ms 1007 1 0 L.revs.length, .ms 1008 1 0 L.revs.length]
@[reducible] def jh (L:iE) (el em:List iV):List (Nat×AO):=
 [(1000,XH L),(1001, .map ((bM kF vI L.index).map fC)),(1002, .map (el.map fC)),(1003,aK 1 (L.prev.map eI)),(1004,aK 1 (L.fst.map eI)),(1005, .map (em.map fC)),(1006,aK 1 (L.car.map iW)),(1007,aK 1 (L.con.map iW)),(1008,aK 1 (L.cre.map iW))]
theorem lH (m:List (bf×Int)) (p:ByteArray) (n:Int):fD [C.d (.v (.string p)),C.d (.v (.int .i64 n))] ((bM kF vI m).map fC)=(ai m ⟨p,n⟩).map fun v=>(false,[C.d (.v (.int .i64 v))]):=
 nP (ve:=vI) Gt m ⟨p,n⟩
theorem xU (m:List (bf×Int)):∀e∈(bM kF vI m).map fC,e.1.1=true∧cZ [.str, .int .i64] e.1.2:=by
 intro e he
 simp only[bM,List.mem_map] at he
 obtain⟨_,⟨f,_,rfl⟩,rfl⟩:=he
 exact⟨rfl,by simp[fC,jV,cZ]⟩
def ad8.kk:=p2 (RJ kB kS kM Tryz.ntmps132 Tryz.underlying91 pM zk qW NE oC oI yK EI Fe) (p13 yI Ff DT Jp GV uz vT IY WP kC WX AX Tryz.results132)
open ad8 in
theorem tC (L:iE) (hL:xK L) (el em:List iV) (r:iD):
 AC Tryz.prog 132 [.c (.ptr 1000 0),ab8 r] (jh L el em) (fun r' st=>r'= .c (.d (.ps 1 ((jA L r).map iW)))∧st=jh L el em):=by
 have hN:=hL.n
 refine dA Tryz.func132 Tryz.ntmps132 fun x hx=>?_
 try refine nv ?_
 refine nH (jM (i:=5) (id:=100) (sz:=1) rfl rfl (by omega)) ?_
 refine dZ ?_
 refine ax (ι:=Int×List (Option (List Int))) (I:=fun i=>⟨43,[(0, .c (.ptr 1000 0)),(3, .c (.ptr 3 0)),(5, .c (.ms 100 1 0 i.2.length)),(6,I .i64 i.1)],jh L el em++[(3, .box ((bi r).map C.d)),(100,aK 1 (i.2.map iW))]⟩)
  (Inv:=fun i=>max r.first 1≤i.1∧i.2.length≤512∧i.2.length≤i.1-1∧i.2++mr L r.frm i.1 (min r.last 512-i.1+1).toNat=jA L r) (μ:=fun i=>(min r.last 512-i.1+1).toNat) (max r.first 1,[]) ⟨by simp,by simp,by simp;omega,by simp[jA]⟩ ?_ ?_
 ·exact cO
 rintro⟨n,l⟩ ⟨h1,h2,h3,h4⟩
 simp only at h1 h2 h3 h4⊢
 try refine nv ?_
 refine aj ?_ ?_
 ·intro hlt
  have hlt':n≤min r.last 512:=by simpa using hlt
  have hn1:n≤512:=by omega
  obtain⟨q,hq⟩:∃q,(min r.last 512-n+1).toNat=q+1:=⟨(min r.last 512-n).toNat,by omega⟩
  have hq2:(min r.last 512-(n+1)+1).toNat=q:=by omega
  rw[hq,mr] at h4
  cases hk:ai L.index ⟨r.frm,n⟩ with
  |none=>
   rw[hk] at h4
   simp only[List.nil_append] at h4
   refine bC ?_
   refine BO (wr:=false) ([]:List (Nat×AV)) (by simp only[kD,kk,Nat.reduceAdd,Nat.reduceLT,Nat.reduceEqDiff, ↓reduceIte,reduceCtorEq,lH,hk,Option.map_none,Option.isSome];first|done|rfl) ?_ ?_
   ·exact iw @xU
   try refine nv ?_
   refine aj ?_ ?_
   ·intro h;cases h
   intro _
   try refine nv ?_
   refine⟨(n+1,l),⟨by simp;omega,h2,by simp;omega,by rw[hq2];exact h4⟩,by simp;omega,?_⟩
   exact cO
  |some i=>
   rw[hk] at h4
   simp only at h4
   obtain⟨i1,i2⟩:=hL.ix _ _ hk
   have hcl:=hL.con
   have hil:i.toNat<L.con.length:=by omega
   have hi2:i<(L.con.length:Int):=by omega
   have eg:=uG iW L.con i.toNat none hil
   generalize hoo:L.con.getD i.toNat none=o at eg h4
   refine bC ?_
   refine BO (wr:=false) ([]:List (Nat×AV)) (by simp only[kD,kk,Nat.reduceAdd,Nat.reduceLT,Nat.reduceEqDiff, ↓reduceIte,reduceCtorEq,lH,hk,Option.isSome];first|done|rfl) ?_ ?_
   ·exact iw @xU
   try refine nv ?_
   refine aj ?_ ?_
   rotate_left
   ·intro h;cases h
   intro _
   try refine nx (p2 @eg @Nat.zero_add) ?_
   refine⟨(n+1,l++[o]),⟨by simp;omega,by simp;omega,by simp;omega,by rw[hq2];simpa using h4⟩,by simp;omega,?_⟩
   exact Af (fun i=>if i=100 then 41 else i)
 intro hge
 have hge':¬n≤min r.last 512:=by simpa using hge
 have hz:(min r.last 512-n+1).toNat=0:=by omega
 rw[hz,mr,List.append_nil] at h4
 refine bC ?_
 refine bz (aZ (i:=5) (id:=100) (ys:=l.map iW) rfl rfl (by simp)) ?_
 refine dZ ?_
 try refine nv ?_
 refine rA ((jh L el em)) ?_
 refine⟨?_,rfl⟩
 rw[h4]
end Go.Proofs.YtcpgicfphakdaaaGreatDoor
namespace Go.Ab
variable [Dr] {P:Program} {x:X} {s:S} {Q:Exit→S→Prop} {c:Code}
theorem aa2 (hQ:∀l s,Q (.goto l) s→False) (h:T P x c s Q):T P x (.scope c) s Q:=fun a w hs=>
 wp_scope_straight (wp_mono (h a w hs) fun e a w hq=>by
  cases e with
  |goto l=>obtain⟨s',h1,_⟩:=hq;exact hQ _ _ h1
  |_=>exact hq)
theorem aaE {l:Nat} (h:Q .normal s):T P x (.label l) s Q:=fun a w hs=>wp_label ⟨s,h,hs⟩
omit [Dr] in
theorem VL {rs:List ResultVar} {R:AV→List (Nat×AO)→Prop}:∀l s,PG P rs x R (.goto l) s→False:=fun l s h=>by
 rcases h.1 with h|h<;>cases h
end Go.Ab
namespace Go.Proofs.YtcpgicfphakdaaaGreatDoor
open Go.Ab Tys
variable [Dr]
def adP:Option (List Int):=none
def aea.kk:=p12 kB kM Tryz.ntmps133 Tryz.underlying91 NE PN KP GV uz MH WX Tryz.results133
open aea in
theorem O8 (sets:List (Option (List Int))) (hn:sets.length≤100000000):AC Tryz.prog 133 [.c (.d (.ps 1 (sets.map iW)))] [] (fun r st=>(∃l,(∀k,k∈l↔∃o∈sets,k∈o.getD [])∧r= .c (.d (.pm (gI kN l))))∧st=[]):=by
 refine dA Tryz.func133 Tryz.ntmps133 fun x hx=>?_
 try refine nv ?_
 refine ax (ι:=Nat×List Int) (I:=fun i=>⟨24,[(3, .c (.mp 7)),(8, .c (.d (.ps 1 (sets.map iW)))),(9,I .i64 sets.length),(10,I .i64 i.1)],[(7,WT kN i.2)]⟩)
  (Inv:=fun i=>i.1≤sets.length∧∀k,k∈i.2↔∃o∈sets.take i.1,k∈o.getD []) (μ:=fun i=>sets.length-i.1) (0,[]) ⟨by simp,by simp⟩ ?_ ?_
 ·exact cO
 rintro⟨j,l⟩ ⟨hj,hl⟩
 simp only at hj hl⊢
 try refine nv ?_
 refine aj ?_ ?_
 ·intro hlt
  have hlt':j<sets.length:=by simpa using hlt
  obtain⟨o,ho,he,htk⟩:=round iW sets j adP hlt'
  cases o with
  |none=>
   try refine nx @he ?_
   refine ax (ι:=Option iV×List Int×List Int) (I:=fun i=>⟨24,[(3, .c (.mp 7)),(8, .c (.d (.ps 1 (sets.map iW)))),(9,I .i64 sets.length),(10,I .i64 j),(15, .c (.ptr 15 0))],[(7,WT kN i.2.2),(15, .iter i.1 (gI kN i.2.1))]⟩)
    (Inv:=fun i=>∀k,(k∈i.2.2∨k∈i.2.1)↔(k∈l∨k∈Option.getD (none:Option (List Int)) [])) (μ:=fun i=>i.2.1.length) (none,[],l) (by simp) ?_ ?_
   ·exact cO
   rintro⟨cur,rest,m⟩ h
   simp only at h⊢
   refine bC ?_
   refine vH (id:=15) (by simp) (by simp only[kV, ↓reduceIte,Nat.reduceEqDiff,reduceCtorEq];first|done|rfl) rfl ?_ ?_
   ·intro h0
    refine dZ ?_
    try refine nv ?_
    refine aj ?_ ?_
    ·intro hh;cases hh
    intro _
    try refine nv ?_
    have:rest=[]:=by simpa[gI] using h0
    subst this
    refine⟨(j+1,m),⟨by simp;omega,?_⟩,by simp;omega,?_⟩
    ·intro k
     have hk:=h k
     simp only[List.not_mem_nil,or_false] at hk
     rw[hk,hl k,htk]
     simp
    ·exact cO
   intro l1 e l2 hsp
   obtain⟨xs,k,y,rfl,rfl,rfl,rfl⟩:=qo hsp
   refine dZ ?_
   (repeat (first|refine Eb ?_|refine BP (wr:=false) (by simp only[kk,Nat.reduceAdd,Nat.reduceLT,Nat.reduceEqDiff, ↓reduceIte,reduceCtorEq,jV];first|done|rfl) ?_))
   refine aj ?_ ?_
   rotate_left
   ·intro hh;cases hh
   intro _
   (repeat (first|refine Eb ?_|refine BP (wr:=false) (by simp only[kk,Nat.reduceAdd,Nat.reduceLT,Nat.reduceEqDiff, ↓reduceIte,reduceCtorEq,jV];first|done|rfl) ?_))
   refine gy @SL ?_ ?_
   ·exact iw (VI m)
   try refine nv ?_
   refine⟨(some (kN k,(false,[.v (.bool true)])),xs++y,nD m k),?_,by simp,?_⟩
   ·intro i
    rw[←h i,wG]
    simp only[List.mem_append,List.mem_cons]
    constructor
    ·rintro((h|h)|h|h)
     ·exact .inl h
     ·exact .inr (.inr (.inl h))
     ·exact .inr (.inl h)
     ·exact .inr (.inr (.inr h))
    ·rintro(h|h|h|h)
     ·exact .inl (.inl h)
     ·exact .inr (.inl h)
     ·exact .inl (.inr h)
     ·exact .inr (.inr h)
   ·exact cO
  |some t=>
   try refine nx @he ?_
   refine ax (ι:=Option iV×List Int×List Int) (I:=fun i=>⟨24,[(3, .c (.mp 7)),(8, .c (.d (.ps 1 (sets.map iW)))),(9,I .i64 sets.length),(10,I .i64 j),(15, .c (.ptr 15 0))],[(7,WT kN i.2.2),(15, .iter i.1 (gI kN i.2.1))]⟩)
    (Inv:=fun i=>∀k,(k∈i.2.2∨k∈i.2.1)↔(k∈l∨k∈Option.getD (some t) [])) (μ:=fun i=>i.2.1.length) (none,t,l) (by simp) ?_ ?_
   ·exact cO
   rintro⟨cur,rest,m⟩ h
   simp only at h⊢
   refine bC ?_
   refine vH (id:=15) (by simp) (by simp only[kV, ↓reduceIte,Nat.reduceEqDiff,reduceCtorEq];first|done|rfl) rfl ?_ ?_
   ·intro h0
    refine dZ ?_
    try refine nv ?_
    refine aj ?_ ?_
    ·intro hh;cases hh
    intro _
    try refine nv ?_
    have:rest=[]:=by simpa[gI] using h0
    subst this
    refine⟨(j+1,m),⟨by simp;omega,?_⟩,by simp;omega,?_⟩
    ·intro k
     have hk:=h k
     simp only[List.not_mem_nil,or_false] at hk
     rw[hk,hl k,htk]
     simp
    ·exact cO
   intro l1 e l2 hsp
   obtain⟨xs,k,y,rfl,rfl,rfl,rfl⟩:=qo hsp
   refine dZ ?_
   (repeat (first|refine Eb ?_|refine BP (wr:=false) (by simp only[kk,Nat.reduceAdd,Nat.reduceLT,Nat.reduceEqDiff, ↓reduceIte,reduceCtorEq,jV];first|done|rfl) ?_))
   refine aj ?_ ?_
   rotate_left
   ·intro hh;cases hh
   intro _
   (repeat (first|refine Eb ?_|refine BP (wr:=false) (by simp only[kk,Nat.reduceAdd,Nat.reduceLT,Nat.reduceEqDiff, ↓reduceIte,reduceCtorEq,jV];first|done|rfl) ?_))
   refine gy @SL ?_ ?_
   ·exact iw (VI m)
   try refine nv ?_
   refine⟨(some (kN k,(false,[.v (.bool true)])),xs++y,nD m k),?_,by simp,?_⟩
   ·intro i
    rw[←h i,wG]
    simp only[List.mem_append,List.mem_cons]
    constructor
    ·rintro((h|h)|h|h)
     ·exact .inl h
     ·exact .inr (.inr (.inl h))
     ·exact .inr (.inl h)
     ·exact .inr (.inr (.inr h))
    ·rintro(h|h|h|h)
     ·exact .inl (.inl h)
     ·exact .inr (.inl h)
     ·exact .inl (.inr h)
     ·exact .inr (.inr h)
   ·exact cO
 intro hge
 have hge':j=sets.length:=by have:¬j<sets.length:=by simpa using hge
                             omega
 rw[hge',List.take_length] at hl
 refine bC ?_
 refine bz (mf (i:=3) (id:=7) (es:=gI kN l) rfl rfl) ?_
 refine dZ ?_
 try refine nv ?_
 refine rA [] ?_
 refine⟨?_,rfl⟩
 exact⟨l,hl,rfl⟩
end Go.Proofs.YtcpgicfphakdaaaGreatDoor
namespace Go.Ab
theorem Xo {s:Nat} {u v:Value} {z:Array Value} (hz:z.size=s+s) (h0:u.cells.size=s) (h1:v.cells.size=s):
 Instr.fill (fun i=>some (i*s,s)) z [(0,u),(1,v)]=some (u.cells++v.cells):=by
 have hA:u.cells.zipIdx.foldl (fun cs (c,j)=>cs.setIfInBounds (0*s+j) c) z=((u.cells.toList.zipIdx 0).foldl (fun cs (c,j)=>cs.setIfInBounds (0+j) c) z):=by
  rw[←Array.foldl_toList];simp
 have eA:=oU 0 u.cells.toList 0 z (by simp;omega)
 rw[←hA] at eA
 simp only[Nat.zero_add,List.take_zero,List.nil_append,Array.length_toList] at eA
 simp only[Instr.fill]
 have zA:(u.cells.zipIdx.foldl (fun cs (c,j)=>cs.setIfInBounds (0*s+j) c) z).size=s+s:=by
  rw[←Array.length_toList,eA,List.length_append,Array.length_toList,List.length_drop,Array.length_toList];omega
 rw[if_neg (by simp;omega)]
 generalize u.cells.zipIdx.foldl (fun cs (c,j)=>cs.setIfInBounds (0*s+j) c) z=y at eA zA
 have hB:v.cells.zipIdx.foldl (fun cs (c,j)=>cs.setIfInBounds (1*s+j) c) y=((v.cells.toList.zipIdx 0).foldl (fun cs (c,j)=>cs.setIfInBounds (s+j) c) y):=by
  rw[←Array.foldl_toList];simp
 have eB:=oU s v.cells.toList 0 y (by simp;omega)
 rw[←hB] at eB
 rw[if_neg (by simp;omega)]
 congr 1
 apply Array.toList_inj.1
 rw[eB,eA,Array.toList_append,Nat.add_zero,Array.length_toList]
 rw[List.take_append_of_le_length (by simp;omega),List.take_of_length_le (by simp;omega),List.drop_eq_nil_of_le (by simp;omega),List.append_nil]
section
variable [Dr] {P:Program} {x:X}
theorem Pi {Q:Exit→S→Prop} {s:S} {ops l:List Oper} {d:Tmp} {T e:TypeId} {t tT:TI} {y z:Operand} {ty:TypeId} {pos:String} {after:Array Edge} {a b:List C}
 (hu:P.underlying T=some (.array 2 e)) (ht:ti P e=some t) (hT:ti P T=some tT) (h2:tT.size=t.size+t.size) (hd:d<s.n) (hy:ev s y=some (.agg a)) (hz:ev s z=some (.agg b)) (ha:a.length=t.size) (hb:b.length=t.size)
 (hk:TO P x ops l ⟨s.n,put s.env d (.agg (a++b)),s.st⟩ Q):TO P x ops (⟨some d, .build T ⟨[(0,y),(1,z)]⟩,ty,pos,after,none⟩::l) s Q:=by
 rintro A w ⟨bl,cap,hs,henv,hdf,hsz⟩
 obtain⟨us,e1,h1⟩:=dR henv hy
 obtain⟨vs,e2,h3⟩:=dR henv hz
 obtain⟨zv,hzv,hzc⟩:=qZ (P:=P) w hT
 obtain⟨i,u,zz,hi,hu',hz',g1,g2,g3,g4,g5,g6,g7⟩:=iG hT
 have l1:=h1.length
 have l2:=h3.length
 have hzs:zv.cells.size=t.size+t.size:=by rw[←Array.length_toList,hzc,←h2,g4]
 have hf:=Xo (s:=t.size) (u:=A.eval y) (v:=A.eval z) hzs (by rw[e1];simp[Value.cells];omega) (by rw[e2];simp[Value.cells];omega)
 have hrun:(execOp A.eval ⟨some d, .build T ⟨[(0,y),(1,z)]⟩,ty,pos,after,none⟩).run P w= .ok (.value (.agg ((A.eval y).cells++(A.eval z).cells))) w:=by
  simp only[execOp]
  refine mg ?_
  simp only[Instr.build,Sem.run_bind,hzv,Result.andThen_ok,run_underlying hu,bW w ht,List.map_toArray,List.map_cons,List.map_nil]
  rw[hf];rfl
 refine wpList_plain rfl fun K hK=>?_
 unfold Oper.wp
 rw[hrun]
 refine hK _ _ (hk _ _ ⟨bl,cap,hs,henv.put (by rw[hsz];exact hd) ⟨us++vs,by rw[e1,e2];simp[Value.cells],h1.append h3⟩,by rw[Act.put_defers];exact hdf,by rw[Act.fK];exact hsz⟩)
theorem Gn {Q:Exit→S→Prop} {s:S} {ops l:List Oper} {d:Tmp} {T e:TypeId} {t:TI} {n:Nat} {y z:Operand} {ty:TypeId} {pos:String} {after:Array Edge} {id off:Nat} {k:IntKind} {m:Int}
 (hu:P.underlying T=some (.array n e)) (ht:ti P e=some t) (hd:d<s.n) (hy:ev s y=some (.c (.ptr id off))) (hz:ev s z=some (.c (.d (.v (.int k m))))) (h0:0≤m) (h1:m<n)
 (hk:TO P x ops l ⟨s.n,put s.env d (.c (.ptr id (off+m.toNat*t.size))),s.st⟩ Q):TO P x ops (⟨some d, .indexAddr T y z,ty,pos,after,none⟩::l) s Q:=by
 rintro A w ⟨bl,cap,hs,henv,hdf,hsz⟩
 obtain⟨hdm,b,hb,e1⟩:=dR henv hy
 have e2:A.eval z= .int k m:=mD (dR henv hz)
 have hrun:(execOp A.eval ⟨some d, .indexAddr T y z,ty,pos,after,none⟩).run P w= .ok (.value (.pointer (some ⟨b,off+m.toNat*t.size,none⟩))) w:=by
  simp only[execOp]
  refine mg ?_
  simp[e1,e2,Instr.indexAt,asIntOf,Instr.sureAddr,run_underlying hu,h0,h1,bW w ht,jH]
 refine wpList_plain rfl fun K hK=>?_
 unfold Oper.wp
 rw[hrun]
 refine hK _ _ (hk _ _ ⟨bl,cap,hs,henv.put (by rw[hsz];exact hd) ⟨hdm,b,hb,rfl⟩,by rw[Act.put_defers];exact hdf,by rw[Act.fK];exact hsz⟩)
end
end Go.Ab
