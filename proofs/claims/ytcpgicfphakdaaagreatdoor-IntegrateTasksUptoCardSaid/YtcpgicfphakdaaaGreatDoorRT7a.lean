/- A part of the proof. -/
import Derived.Test.YtcpgicfphakdaaaGreatDoorRPD
import Derived.Test.YtcpgicfphakdaaaGreatDoorRAbCe
import Derived.Shelf.Spec.SlicesGrow
import Derived.Sort.Grow
set_option maxRecDepth 100000
set_option maxHeartbeats 8000000
set_option linter.all false
namespace Go.Proofs.YtcpgicfphakdaaaGreatDoor
open Go.Ab
theorem QG:∀l:List UInt8,Lib.compareBytes l l=0
 |[]=>rfl
 |a::l=>by
  have:¬a<a:=by simp
  rw[Lib.compareBytes,if_neg this,if_neg this];exact QG l
theorem Yc:∀l m:List UInt8,Lib.compareBytes l m=0→l=m
 |[],[],_=>rfl
 |[],_::_,h=>by simp[Lib.compareBytes] at h
 |_::_,[],h=>by simp[Lib.compareBytes] at h
 |a::l,b::m,h=>by
  rw[Lib.compareBytes] at h
  split at h
  ·cases h
  ·split at h
   ·cases h
   ·rename_i h1 h2
    have:a=b:=by
     apply UInt8.toNat_inj.1
     simp only[UInt8.lt_iff_toNat_lt] at h1 h2;omega
    rw[this,Yc l m h]
theorem J3:∀l m k:List UInt8,Lib.compareBytes l m<0→Lib.compareBytes m k<0→Lib.compareBytes l k<0
 |[],[],_,h,_=>by simp[Lib.compareBytes] at h
 |[],_::_,[],_,h=>by simp[Lib.compareBytes] at h
 |[],_::_,_::_,_,_=>by simp[Lib.compareBytes]
 |_::_,[],_,h,_=>by simp[Lib.compareBytes] at h
 |_::_,_::_,[],_,h=>by simp[Lib.compareBytes] at h
 |a::l,b::m,c::k,h1,h2=>by
  rw[Lib.compareBytes] at h1 h2⊢
  simp only[UInt8.lt_iff_toNat_lt] at h1 h2⊢
  split at h1
  ·split at h2
   ·rw[if_pos (by omega)];omega
   ·split at h2
    ·omega
    ·rw[if_pos (by omega)];omega
  ·split at h1
   ·omega
   ·split at h2
    ·rw[if_pos (by omega)];omega
    ·split at h2
     ·omega
     ·rw[if_neg (by omega),if_neg (by omega)];exact J3 l m k h1 h2
theorem MH (a:ByteArray):cb a a=0:=QG _
theorem JI {a b:ByteArray} (h:cb a b=0):a=b:=ByteArray.ext (by simpa using congrArg List.toArray (Yc _ _ h))
theorem QZ {a b c:ByteArray} (h1:cb a b<0) (h2:cb b c<0):cb a c<0:=J3 _ _ _ h1 h2
theorem DR:∀l:List ByteArray,cmpL l l=0
 |[]=>rfl
 |a::l=>by rw[cmpL,if_pos (MH a)];exact DR l
theorem Bo:∀l m k:List ByteArray,cmpL l m<0→cmpL m k<0→cmpL l k<0
 |[],[],_,h,_=>by simp[cmpL] at h
 |[],_::_,[],_,h=>by simp[cmpL] at h
 |[],_::_,_::_,_,_=>by simp[cmpL]
 |_::_,[],_,h,_=>by simp[cmpL] at h
 |_::_,_::_,[],_,h=>by simp[cmpL] at h
 |a::l,b::m,c::k,h1,h2=>by
  rw[cmpL] at h1 h2⊢
  by_cases e1:cb a b=0
  ·have:=JI e1;subst this
   rw[if_pos e1] at h1
   by_cases e2:cb a c=0
   ·rw[if_pos e2] at h2⊢;exact Bo l m k h1 h2
   ·rw[if_neg e2] at h2⊢;exact h2
  ·rw[if_neg e1] at h1
   by_cases e2:cb b c=0
   ·have:=JI e2;subst this
    rw[if_neg e1];exact h1
   ·rw[if_neg e2] at h2
    have:=QZ h1 h2
    rw[if_neg (by omega)];exact this
theorem yZ {p q:ByteArray} (hp:(aV p).isSome=true) (hq:(aV q).isSome=true):∃a b,aV p=some a∧aV q=some b∧ord p q=cmpL a b:=by
 cases h1:aV p with
 |none=>rw[h1] at hp;cases hp
 |some a=>
  cases h2:aV q with
  |none=>rw[h2] at hq;cases hq
  |some b=>exact⟨a,b,rfl,rfl,by simp[ord,h1,h2]⟩
theorem WW {p q r:ByteArray} (hp:(aV p).isSome=true) (hq:(aV q).isSome=true) (hr:(aV r).isSome=true) (h1:ord p q<0) (h2:ord q r<0):ord p r<0:=by
 obtain⟨a,b,ea,eb,e1⟩:=yZ hp hq
 obtain⟨b',c,eb',ec,e2⟩:=yZ hq hr
 rw[eb] at eb';cases eb'
 obtain⟨a',c',ea',ec',e3⟩:=yZ hp hr
 rw[ea] at ea';cases ea'
 rw[ec] at ec';cases ec'
 rw[e3];rw[e1] at h1;rw[e2] at h2
 exact Bo _ _ _ h1 h2
theorem aaZ {p:ByteArray} (hp:(aV p).isSome=true):ord p p=0:=by
 obtain⟨a,b,ea,eb,e1⟩:=yZ hp hp
 rw[ea] at eb;cases eb
 rw[e1];exact DR _
def Bz (a b:Int):Int:=if a<b then-1 else if b<a then 1 else 0
theorem OJ {d:bK} {c:o6} (h:∀i,i<c.edits.length→Bh d c i (c.edits.getD i fF)):∀{j i:Nat},i<j→j<c.edits.length→ord (c.edits.getD i fF).path (c.edits.getD j fF).path<0
 |0,i,hij,_=>by omega
 |j+1,i,hij,hj=>by
  have h0:=(h (j+1) hj).okOrder (by omega)
  simp only[Nat.add_sub_cancel] at h0
  by_cases e:i=j
  ·subst e;exact h0
  ·exact WW (h i (by omega)).okPath (h j (by omega)).okPath (h (j+1) hj).okPath (OJ h (by omega) (by omega)) h0
theorem YH {d:bK} {c:o6} (h:∀i,i<c.edits.length→Bh d c i (c.edits.getD i fF)) {i j:Nat} (hij:i<j) (hj:j<c.edits.length):(c.edits.getD i fF).path≠(c.edits.getD j fF).path:=by
 intro e
 have:=OJ h hij hj
 rw[e,aaZ (h j hj).okPath] at this
 omega
theorem Ug {n:Int} (h1: -1000000≤n) (h2:n≤1000000):wr n=n:=dI.wrap (by simp only[dI];omega)
structure Good (l:List Rev):Prop where
 num:∀(i:Nat) (v:Rev),l[i]? =some v→1≤v.num∧v.num≤(i:Int)+1
 act:∀(i:Nat) (v:Rev),l[i]? =some v→1≤v.act∧v.act≤5
 chg:∀(i j:Nat) (u v:Rev),i<j→l[i]? =some u→l[j]? =some v→u.chg≤v.chg
 path:∀(i j:Nat) (u v:Rev),i<j→l[i]? =some u→l[j]? =some v→u.path=v.path→u.chg<v.chg∧u.num<v.num
 prv:∀(i:Nat) (v:Rev),l[i]? =some v→v.act≠1→v.act≠4→∃(j:Nat) (u:Rev),j<i∧l[j]? =some u∧u.path=v.path∧u.num=v.num-1∧u.act≠3∧u.act≠5∧u.chg<v.chg
 mov:∀(i:Nat) (v:Rev),l[i]? =some v→v.act=4→∃(j:Nat) (u:Rev),j<i∧l[j]? =some u∧u.path=v.frm∧u.num=v.fnum∧u.act≠3∧u.act≠5∧u.chg<v.chg
 away:∀(i:Nat) (v:Rev),l[i]? =some v→v.act=4→∃(j:Nat) (u:Rev),l[j]? =some u∧u.path=v.frm∧u.num=v.fnum+1∧u.act=5
 mov2:∀(i j:Nat) (u v:Rev),i<j→l[i]? =some u→l[j]? =some v→u.act=4→v.act=4→u.frm=v.frm→u.fnum=v.fnum→False
theorem Oy {α:Type} (p:α→Bool):∀l:List α,(∀v,(l.filter p).getLast? =some v→∃j:Nat,l[j]? =some v∧p v=true∧∀(k:Nat) (u:α),l[k]? =some u→p u=true→k≤j)∧((l.filter p).getLast? =none→∀u∈l,p u=false)
 |[]=>by simp
 |a::l=>by
  obtain⟨h1,h2⟩:=Oy p l
  simp only[List.filter_cons]
  cases hg:(l.filter p).getLast? with
  |none=>
   have hn:=h2 hg
   have h0:l.filter p=[]:=List.getLast?_eq_none_iff.1 hg
   rw[h0]
   by_cases ha:p a=true
   ·rw[if_pos ha]
    refine⟨fun v hv=>?_,fun h=>by simp at h⟩
    simp at hv;subst hv
    refine⟨0,rfl,ha,fun k u hu hp=>?_⟩
    cases k with
    |zero=>omega
    |succ k=>rw[hn u (List.mem_of_getElem? (by simpa using hu))] at hp;cases hp
   ·rw[if_neg ha]
    refine⟨fun v hv=>by simp at hv,fun _ u hu=>?_⟩
    rcases List.mem_cons.1 hu with rfl|hu
    ·simpa using ha
    ·exact hn u hu
  |some w=>
   obtain⟨j,hj,hw,hmax⟩:=h1 w hg
   have h0:(if p a=true then a::l.filter p else l.filter p).getLast? =some w:=by
    split
    ·rw[List.getLast?_cons,hg];rfl
    ·exact hg
   rw[h0]
   refine⟨fun v hv=>?_,fun h=>by cases h⟩
   cases hv
   refine⟨j+1,by simpa using hj,hw,fun k u hu hp=>?_⟩
   cases k with
   |zero=>omega
   |succ k=>have:=hmax k u (by simpa using hu) hp;omega
theorem lJ {d:bK} {p:ByteArray} {v:Rev} (h:eQ d p=some v):∃j:Nat,d.revs[j]? =some v∧v.path=p∧∀(k:Nat) (u:Rev),d.revs[k]? =some u→u.path=p→k≤j:=by
 obtain⟨j,h1,h2,h3⟩:=(Oy (fun v:Rev=>decide (v.path=p)) d.revs).1 v h
 exact⟨j,h1,by simpa using h2,fun k u hu hp=>h3 k u hu (by simpa using hp)⟩
theorem last_none {d:bK} {p:ByteArray} (h:eQ d p=none):∀u∈d.revs,u.path≠p:=by
 intro u hu e
 have:=(Oy (fun v:Rev=>decide (v.path=p)) d.revs).2 h u hu
 simp[e] at this
theorem LC {d:bK} {p:ByteArray} (h:live d p=true):∃(v:Rev) (j:Nat),eQ d p=some v∧d.revs[j]? =some v∧v.path=p∧v.act≠3∧v.act≠5∧dh d p=v.num:=by
 unfold live at h
 split at h
 ·rename_i v hv
  obtain⟨j,h1,h2,h3⟩:=lJ hv
  simp[gone] at h
  exact⟨v,j,hv,h1,h2,h.1,h.2,by simp[dh,hv]⟩
 ·cases h
theorem I8 {d:bK} (hg:Good d.revs) {p:ByteArray} {k:Nat} {u:Rev} (hu:d.revs[k]? =some u) (hp:u.path=p):u.num≤dh d p:=by
 cases h:eQ d p with
 |none=>exact absurd hp (last_none h u (List.mem_of_getElem? hu))
 |some v=>
  obtain⟨j,h1,h2,h3⟩:=lJ h
  have:=h3 k u hu hp
  simp only[dh,h,Option.getD]
  rcases Nat.lt_or_ge k j with hkj|hkj
  ·have:=(hg.path k j u v hkj hu h1 (by rw[hp,h2])).2;omega
  ·have e:k=j:=by omega
   subst e;rw[h1] at hu;cases hu;omega
theorem Bv {d:bK} (hg:Good d.revs) (p:ByteArray):0≤dh d p∧dh d p≤d.revs.length:=by
 cases h:eQ d p with
 |none=>simp[dh,h,ai]
 |some v=>
  obtain⟨j,h1,h2,h3⟩:=lJ h
  have:=hg.num j v h1
  have hj:j<d.revs.length:=(List.getElem?_eq_some_iff.1 h1).1
  simp only[dh,h,Option.getD];omega
theorem Rk {α:Type} (p:α→Bool) {l:List α} {a b:Nat} {x y:α} (hab:a<b) (ha:l[a]? =some x) (hb:l[b]? =some y) (hx:p x=true) (hy:p y=true):2≤(l.filter p).length:=by
 have e:l.filter p=(l.take b).filter p++(l.drop b).filter p:=by rw[←List.filter_append,List.take_append_drop]
 rw[e,List.length_append]
 have h1:x∈(l.take b).filter p:=List.mem_filter.2 ⟨List.mem_of_getElem? (i:=a) (by rw[List.getElem?_take,if_pos hab];exact ha),hx⟩
 have h2:y∈(l.drop b).filter p:=List.mem_filter.2 ⟨List.mem_of_getElem? (i:=0) (by rw[List.getElem?_drop];simpa using hb),hy⟩
 have:=List.length_pos_of_mem h1
 have:=List.length_pos_of_mem h2
 omega
theorem Pq {d:bK} {c:o6} (hg:Good d.revs) (hn:d.revs.length≤512) (hk:Am d c):Good (lX d c).revs:=by
 have hE:=hk.edit
 have sp:∀(i:Nat) (v:Rev),(lX d c).revs[i]? =some v→(i<d.revs.length∧d.revs[i]? =some v)∨∃a,i=d.revs.length+a∧a<c.edits.length∧v=made c (c.edits.getD a fF):=by
  intro i v h
  simp only[lX] at h
  rcases Nat.lt_or_ge i d.revs.length with hi|hi
  ·rw[List.getElem?_append_left hi] at h;exact .inl ⟨hi,h⟩
  ·rw[List.getElem?_append_right hi] at h
   have ha:i-d.revs.length<c.edits.length:=by
    have:=(List.getElem?_eq_some_iff.1 h).1;simpa using this
   refine .inr ⟨i-d.revs.length,by omega,ha,?_⟩
   rw[List.getElem?_map,List.getElem?_eq_getElem ha] at h
   simp at h;rw[←h];simp[List.getD,ha]
 have nw:∀a:Nat,a<c.edits.length→(lX d c).revs[d.revs.length+a]? =some (made c (c.edits.getD a fF)):=by
  intro a ha
  simp only[lX]
  rw[List.getElem?_append_right (by omega),Nat.add_sub_cancel_left,List.getElem?_map,List.getElem?_eq_getElem ha]
  simp[List.getD,ha]
 have od:∀(i:Nat) (v:Rev),d.revs[i]? =some v→(lX d c).revs[i]? =some v:=by
  intro i v h
  simp only[lX]
  rw[List.getElem?_append_left (List.getElem?_eq_some_iff.1 h).1];exact h
 have lb:∀p, -1000000≤dh d p+1∧dh d p+1≤1000000:=fun p=>by have:=Bv hg p;omega
 have mn:∀a,a<c.edits.length→(made c (c.edits.getD a fF)).num=dh d (c.edits.getD a fF).path+1:=by
  intro a ha
  simp only[made]
  rw[(hE a ha).okPrev,Ug (lb _).1 (lb _).2]
 have mt:∀a,a<c.edits.length→(c.edits.getD a fF).act=4→∃b,b<c.edits.length∧(c.edits.getD b fF).act=5∧(c.edits.getD b fF).path=(c.edits.getD a fF).frm:=by
  intro a ha h4
  have hm:=hk.move (c.edits.getD a fF) (by rw[List.getD_eq_getElem?_getD,List.getElem?_eq_getElem ha];simp)
  generalize c.edits.getD a fF=e at*
  have hl:(c.edits.filter (Dc e)).length=1:=by
   simp only[BA,h4,Ut] at hm
   simp at hm;have hm:=of_decide_eq_true hm;omega
  obtain⟨y,hy⟩:∃y,y∈c.edits.filter (Dc e):=by
   cases hf:c.edits.filter (Dc e) with
   |nil=>rw[hf] at hl;simp at hl
   |cons y l=>exact⟨y,by simp⟩
  obtain⟨hy1,hy2⟩:=List.mem_filter.1 hy
  obtain⟨b,hb,e⟩:=List.mem_iff_getElem.1 hy1
  have e':c.edits.getD b fF=y:=by simp[List.getD,hb,e]
  simp[Dc,h4] at hy2
  exact⟨b,hb,by rw[e'];exact hy2.1,by rw[e'];exact hy2.2⟩
 constructor
 ·intro i v h
  rcases sp i v h with⟨_,h⟩|⟨a,rfl,ha,rfl⟩
  ·exact hg.num i v h
  ·rw[mn a ha]
   have:=Bv hg (c.edits.getD a fF).path
   omega
 ·intro i v h
  rcases sp i v h with⟨_,h⟩|⟨a,rfl,ha,rfl⟩
  ·exact hg.act i v h
  ·exact⟨(hE a ha).okLo,(hE a ha).okHi⟩
 ·intro i j u v hij hu hv
  rcases sp i u hu with⟨h1,hu⟩|⟨a,rfl,ha,rfl⟩
  ·rcases sp j v hv with⟨h2,hv⟩|⟨b,rfl,hb,rfl⟩
   ·exact hg.chg i j u v hij hu hv
   ·have:=hk.old u (List.mem_of_getElem? hu)
    show u.chg≤c.num
    omega
  ·rcases sp j v hv with⟨h2,hv⟩|⟨b,rfl,hb,rfl⟩
   ·omega
   ·exact Int.le_refl _
 ·intro i j u v hij hu hv hp
  rcases sp i u hu with⟨h1,hu⟩|⟨a,rfl,ha,rfl⟩
  ·rcases sp j v hv with⟨h2,hv⟩|⟨b,rfl,hb,rfl⟩
   ·exact hg.path i j u v hij hu hv hp
   ·refine⟨hk.old u (List.mem_of_getElem? hu),?_⟩
    rw[mn b hb]
    have:=I8 hg hu (p:=(c.edits.getD b fF).path) hp
    omega
  ·rcases sp j v hv with⟨h2,hv⟩|⟨b,rfl,hb,rfl⟩
   ·omega
   ·exact absurd hp (YH hE (by omega) hb)
 ·intro i v h n1 n4
  rcases sp i v h with⟨_,h⟩|⟨a,rfl,ha,rfl⟩
  ·obtain⟨j,u,h1,h2,h3⟩:=hg.prv i v h n1 n4
   exact⟨j,u,h1,od j u h2,h3⟩
  ·have hl:live d (c.edits.getD a fF).path=true:=by
    cases hl:live d (c.edits.getD a fF).path with
    |true=>rfl
    |false=>rcases(hE a ha).okLive.2 hl with h|h
            ·exact absurd h n1
            ·exact absurd h n4
   obtain⟨v,j,g1,g2,g3,g4,g5,g6⟩:=LC hl
   have hj:=(List.getElem?_eq_some_iff.1 g2).1
   exact⟨j,v,by omega,od j v g2,g3,by rw[mn a ha,g6];omega,g4,g5,hk.old v (List.mem_of_getElem? g2)⟩
 ·intro i v h h4
  rcases sp i v h with⟨_,h⟩|⟨a,rfl,ha,rfl⟩
  ·obtain⟨j,u,h1,h2,h3⟩:=hg.mov i v h h4
   exact⟨j,u,h1,od j u h2,h3⟩
  ·obtain⟨f1,f2,f3⟩:=(hE a ha).okFrm h4
   obtain⟨v,j,g1,g2,g3,g4,g5,g6⟩:=LC f1
   have hj:=(List.getElem?_eq_some_iff.1 g2).1
   exact⟨j,v,by omega,od j v g2,g3,by rw[←g6];exact f2,g4,g5,hk.old v (List.mem_of_getElem? g2)⟩
 ·intro i v h h4
  rcases sp i v h with⟨_,h⟩|⟨a,rfl,ha,rfl⟩
  ·obtain⟨j,u,h2,h3⟩:=hg.away i v h h4
   exact⟨j,u,od j u h2,h3⟩
  ·obtain⟨b,hb,b1,b2⟩:=mt a ha h4
   obtain⟨f1,f2,f3⟩:=(hE a ha).okFrm h4
   refine⟨_,_,nw b hb,b2,?_,b1⟩
   rw[mn b hb,b2,f2];rfl
 ·intro i j u v hij hu hv u4 v4 hf hn'
  rcases sp i u hu with⟨h1,hu⟩|⟨a,rfl,ha,rfl⟩
  ·rcases sp j v hv with⟨h2,hv⟩|⟨b,rfl,hb,rfl⟩
   ·exact hg.mov2 i j u v hij hu hv u4 v4 hf hn'
   ·obtain⟨k,w,w1,w2,w3,w4⟩:=hg.away i u hu u4
    obtain⟨f1,f2,f3⟩:=(hE b hb).okFrm v4
    have:=I8 hg w1 (p:=(c.edits.getD b fF).frm) (by rw[w2,hf];rfl)
    rw[f2,w3,hn'] at this
    have:(made c (c.edits.getD b fF)).fnum=(c.edits.getD b fF).fnum:=rfl
    omega
  ·rcases sp j v hv with⟨h2,hv⟩|⟨b,rfl,hb,rfl⟩
   ·omega
   ·obtain⟨x,hx,x1,x2⟩:=mt a ha u4
    have hm:=hk.move (c.edits.getD x fF) (by rw[List.getD_eq_getElem?_getD,List.getElem?_eq_getElem hx];simp)
    have h2:=Rk (Dc (c.edits.getD x fF)) (l:=c.edits) (a:=a) (b:=b) (x:=c.edits.getD a fF) (y:=c.edits.getD b fF) (by omega) (by simp[List.getD,ha]) (by simp[List.getD,hb])
     (by simp only[Dc,x1,x2,show(c.edits.getD a fF).act=4 from u4];simp) (by simp only[Dc,x1,x2,show(c.edits.getD b fF).act=4 from v4,show(c.edits.getD a fF).frm=(c.edits.getD b fF).frm from hf];simp)
    generalize c.edits.getD x fF=e at*
    simp only[BA,x1,Ut] at hm
    simp at hm;have hm:=of_decide_eq_true hm;omega
theorem Y1:Good []:=by constructor<;>simp
theorem kQ.good {l:List o6} {d:bK} (h:kQ l d):Good d.revs:=by
 induction h with
 |nil=>exact Y1
 |skip c h ih=>exact ih
 |app h hc hk ih=>exact Pq ih h.ok.1 hk
def aB {κ ν:Type} [DecidableEq κ]:List (κ×ν)→κ→Option ν
 |[],_=>none
 |(a,b)::m,k=>if k=a then some b else aB m k
def jg {κ ν:Type} [DecidableEq κ]:List (κ×ν)→κ→ν→List (κ×ν)
 |[],k,v=>[(k,v)]
 |(a,b)::m,k,v=>if k=a then(k,v)::m else(a,b)::jg m k v
theorem jh {κ ν:Type} [DecidableEq κ] (m:List (κ×ν)) (k:κ) (v:ν) (j:κ):aB (jg m k v) j=if j=k then some v else aB m j:=by
 induction m with
 |nil=>simp[jg,aB]
 |cons p m ih=>
  obtain⟨a,b⟩:=p
  simp only[jg]
  split
  ·rename_i e;subst e
   simp only[aB]
   split<;>simp_all
  ·rename_i e
   simp only[aB]
   rw[ih]
   split
   ·rename_i e2;subst e2
    rw[if_neg (fun h=>e h.symm)]
   ·rfl
@[reducible] def bJ {κ ν:Type} (ke:κ→Bool×List D) (ve:ν→Bool×List D) (m:List (κ×ν)):List iT:=m.map fun p=>(ke p.1,ve p.2)
section
variable {κ ν:Type} [DecidableEq κ] {ke:κ→Bool×List D} {ve:ν→Bool×List D} (hk:∀a b,nT ((ke a).2.map C.d) ((ke b).2.map C.d)=decide (a=b))
include hk
theorem pg (m:List (κ×ν)) (k:κ):fP ((ke k).2.map C.d) ((bJ ke ve m).map fA)=(aB m k).map fun v=>kC (ve v):=by
 induction m with
 |nil=>rfl
 |cons p m ih=>
  simp only[bJ,List.map_cons,fP,fA,kC] at ih⊢
  rw[hk]
  simp only[aB]
  by_cases e:k=p.1
  ·simp[e,kC]
  ·simp only[e,decide_false,Bool.false_eq_true,if_false];exact ih
theorem CB (m:List (κ×ν)) (k:κ) (v:ν):dS (kC (ke k)) (kC (ve v)) ((bJ ke ve m).map fA)=(bJ ke ve (jg m k v)).map fA:=by
 induction m with
 |nil=>rfl
 |cons p m ih=>
  simp only[bJ,List.map_cons,dS,fA,jg]
  have:nT (kC (ke k)).2 (kC (ke p.1)).2=decide (k=p.1):=hk _ _
  rw[this]
  by_cases e:k=p.1
  ·simp[e,fA]
  ·simp only[e,decide_false,Bool.false_eq_true,if_false,List.map_cons,fA]
   rw[←ih]
end
@[reducible] def kF (f:bP):Bool×List D:=(true,fJ f)
@[reducible] def kN (i:Int):Bool×List D:=(false,[.v (.int .i64 i)])
@[reducible] def Bg (s:ByteArray):Bool×List D:=(false,[.v (.string s)])
@[reducible] def vI (i:Int):Bool×List D:=(false,[.v (.int .i64 i)])
theorem xW (a b:bP):nT ((kF a).2.map C.d) ((kF b).2.map C.d)=decide (a=b):=by
 cases a;cases b;simp[kF,nT,Hy,Bool.decide_and]
theorem Ik (a b:Int):nT ((kN a).2.map C.d) ((kN b).2.map C.d)=decide (a=b):=by
 simp[kN,nT,Hy]
theorem UI (a b:ByteArray):nT ((Bg a).2.map C.d) ((Bg b).2.map C.d)=decide (a=b):=by
 simp[Bg,nT,Hy]
@[reducible] def dn {κ:Type} (ke:κ→Bool×List D) (l:List κ):List iT:=l.map fun k=>(ke k,(false,[.v (.bool true)]))
def lq {κ:Type} [DecidableEq κ] (l:List κ) (k:κ):List κ:=if k∈l then l else l++[k]
theorem mD {κ:Type} [DecidableEq κ] (l:List κ) (k j:κ):j∈lq l k↔j∈l∨j=k:=by
 unfold lq
 split
 ·constructor
  ·exact .inl
  ·rintro(h|rfl)<;>assumption
 ·simp
section
variable {κ:Type} [DecidableEq κ] {ke:κ→Bool×List D} (hk:∀a b,nT ((ke a).2.map C.d) ((ke b).2.map C.d)=decide (a=b))
include hk
theorem DF (l:List κ) (k:κ):fP ((ke k).2.map C.d) ((dn ke l).map fA)=if k∈l then some (false,[.d (.v (.bool true))]) else none:=by
 induction l with
 |nil=>simp[fP]
 |cons a l ih=>
  simp only[dn,List.map_cons,fP,fA,kC,List.mem_cons] at ih⊢
  rw[hk]
  by_cases e:k=a
  ·simp[e]
  ·simp only[e,decide_false,Bool.false_eq_true,if_false,false_or];exact ih
theorem qg (l:List κ) (k:κ):dS (kC (ke k)) (false,[.d (.v (.bool true))]) ((dn ke l).map fA)=(dn ke (lq l k)).map fA:=by
 induction l with
 |nil=>simp[lq,dS,fA,kC]
 |cons a l ih=>
  simp only[dn,List.map_cons,dS,fA] at ih⊢
  have:nT (kC (ke k)).2 (kC (ke a)).2=decide (k=a):=hk _ _
  rw[this]
  by_cases e:k=a
  ·subst e;simp[lq,fA,kC]
  ·simp only[e,decide_false,Bool.false_eq_true,if_false]
   rw[ih]
   unfold lq
   simp only[List.mem_cons,e,false_or]
   split<;>simp[fA]
end
theorem XV (l:List bP) (p:ByteArray) (n:Int):(fP [C.d (.v (.string p)),C.d (.v (.int .i64 n))] ((dn kF l).map fA)).getD (false,[C.d (.v (.bool false))])=(false,[C.d (.v (.bool (decide ((⟨p,n⟩:bP)∈l))))]):=by
 have:=DF xW l ⟨p,n⟩
 rw[show((kF ⟨p,n⟩).2.map C.d)=[C.d (.v (.string p)),C.d (.v (.int .i64 n))] from rfl] at this
 rw[this]
 by_cases h:(⟨p,n⟩:bP)∈l<;>simp[h]
theorem Zm (l:List Int) (n:Int):(fP [C.d (.v (.int .i64 n))] ((dn kN l).map fA)).getD (false,[C.d (.v (.bool false))])=(false,[C.d (.v (.bool (decide (n∈l))))]):=by
 have:=DF Ik l n
 rw[show((kN n).2.map C.d)=[C.d (.v (.int .i64 n))] from rfl] at this
 rw[this]
 by_cases h:n∈l<;>simp[h]
theorem QM (l:List bP) (p:ByteArray) (n:Int):dS (true,[C.d (.v (.string p)),C.d (.v (.int .i64 n))]) (false,[C.d (.v (.bool true))]) ((dn kF l).map fA)=(dn kF (lq l ⟨p,n⟩)).map fA:=qg xW l ⟨p,n⟩
theorem UX (l:List Int) (n:Int):dS (false,[C.d (.v (.int .i64 n))]) (false,[C.d (.v (.bool true))]) ((dn kN l).map fA)=(dn kN (lq l n)).map fA:=qg Ik l n
theorem jr {κ:Type} {ke:κ→Bool×List D} {l:List κ} {a:List iT} {e:iT} {b:List iT} (h:dn ke l=a++e::b):∃x k y,l=x++k::y∧a=dn ke x∧e=(ke k,(false,[.v (.bool true)]))∧b=dn ke y:=by
 obtain⟨x,r,rfl,rfl,h2⟩:=List.map_eq_append_iff.1 h
 obtain⟨k,y,rfl,rfl,rfl⟩:=List.map_eq_cons_iff.1 h2
 exact⟨x,k,y,rfl,rfl,rfl,rfl⟩
@[reducible] def Aa {κ:Type} (ke:κ→Bool×List D):Option (List κ)→D
 |none=> .v (.map none)
 |some l=> .pm (dn ke l)
theorem SH (l:List bP):∀e∈(dn kF l).map fA,e.1.1=true∧dm [.str, .int .i64] e.1.2:=by
 intro e he
 simp only[dn,List.mem_map] at he
 obtain⟨_,⟨f,_,rfl⟩,rfl⟩:=he
 exact⟨rfl,by simp[fA,kC,dm]⟩
theorem WS (l:List Int):∀e∈(dn kN l).map fA,e.1.1=false∧dm [.int .i64] e.1.2:=by
 intro e he
 simp only[dn,List.mem_map] at he
 obtain⟨_,⟨f,_,rfl⟩,rfl⟩:=he
 exact⟨rfl,by simp[fA,kC,dm]⟩
@[reducible] def lI {κ:Type} (ke:κ→Bool×List D) (l:List κ):AO:= .map ((dn ke l).map fA)
def Et {κ:Type} [DecidableEq κ] (s t:List κ):Bool:=s.all fun k=>decide (k∈t)
@[reducible] def jM (o:Option (List Int)):List D:=[Aa kN o]
structure jv where
 revs:List Rev
 index:List (bP×Int)
 prev:List Int
 fst:List Int
 car:List (Option (List Int))
 con:List (Option (List Int))
 cre:List (Option (List Int))
@[reducible] def eI (i:Int):List D:=[.v (.int .i64 i)]
structure yY (L:jv):Prop where
 n:L.revs.length≤512
 prev:L.prev.length=L.revs.length
 fst:L.fst.length=L.revs.length
 car:L.car.length=L.revs.length
 con:L.con.length=L.revs.length
 cre:L.cre.length=L.revs.length
 ix:∀p k,aB L.index p=some k→0≤k∧k<L.revs.length
def nU (L:jv) (f:ByteArray) (n:Int):Nat→List (Option (List Int))
 |0=>[]
 |k+1=>(match aB L.index ⟨f,n⟩ with|some i=>[L.con.getD i.toNat none]|none=>[])++nU L f (n+1) k
def kT (L:jv) (r:jk):List (Option (List Int)):=nU L r.frm (max r.first 1) (min r.last 512-max r.first 1+1).toNat
theorem H6 (L:jv) (f:ByteArray):∀(k:Nat) (n:Int),(nU L f n k).length≤k
 |0,n=>by simp[nU]
 |k+1,n=>by
  have:=H6 L f k (n+1)
  simp only[nU]
  split<;>simp<;>omega
theorem uG {α:Type} (e:α→List D) (l:List α) (k:Nat) (z:α) (h:k<l.length):((l.map e).map fun l=>l.map C.d).getD k []=(e (l.getD k z)).map C.d:=by
 simp[List.getD,h]
def rG (L:jv) (f:bP):Option Int:=match aB L.index f with|some i=>if 0≤L.fst.getD i.toNat 0 then some i else none|none=>none
def upto (l:List Int) (s:Int):List Int:=match l with|[]=>[]|a::l=>if a=s then [a] else a::upto l s
theorem QH:∀{l:List Int} {k:Nat} {s:Int},¬s∈l.take k→l[k]? =some s→upto l s=l.take (k+1)
 |[],k,s,_,h=>by simp at h
 |a::l,0,s,_,h=>by simp at h;subst h;simp[upto]
 |a::l,k+1,s,hn,h=>by
  simp only[List.take_succ_cons,List.mem_cons,not_or] at hn
  simp only[upto]
  rw[if_neg (fun e=>hn.1 e.symm),QH hn.2 (by simpa using h)]
  simp
theorem KC:∀{l:List Int} {s:Int},¬s∈l→upto l s=l
 |[],s,_=>rfl
 |a::l,s,hn=>by
  simp only[List.mem_cons,not_or] at hn
  simp only[upto]
  rw[if_neg (fun e=>hn.1 e.symm),KC hn.2]
def iU (L:jv) (t:Int) (i:Int):Bool:=!Et ((L.con.getD i.toNat none).getD []) ((L.cre.getD t.toNat none).getD [])
def bW (v:Rev):bP:=if v.act=1 then Em else if v.act=4 then⟨v.frm,v.fnum⟩ else⟨v.path,v.num-1⟩
def iP (L:jv) (i:Nat) (v:Rev):Int:=match rG L (bW v) with|some u=>L.fst.getD u.toNat 0|none=>i
def mW (L:jv) (v:Rev):Int:=match rG L (bW v) with|some u=>u|none=> -1
def aY (L:jv) (i:Nat) (v:Rev):jv:={L with prev:=L.prev.set i (if v.act=5 then-1 else mW L v),fst:=L.fst.set i (if v.act=5 then-1 else iP L i v)}
structure Acc where
 car:List (Option (List Int))
 ign:List (Option (List Int))
 orig:Bool
def gU (L:jv) (a:Acc) (r:jk):Acc:=
 if r.how=1 then(match aB L.index ⟨r.frm,r.last⟩ with|some k=>⟨a.car++[L.car.getD k.toNat none],a.ign,a.orig⟩|none=>a)
 else if r.how=3 then⟨a.car,a.ign++kT L r,a.orig⟩
 else⟨a.car++kT L r,a.ign,a.orig||decide (r.how=4)⟩
def Dj (L:jv) (i:Nat):Option (List Int):=if 0≤L.prev.getD i 0 then L.car.getD (L.prev.getD i 0).toNat none else none
def Jm (L:jv) (i:Nat):Option (List Int):=if 0≤L.prev.getD i 0 then L.cre.getD (L.prev.getD i 0).toNat none else none
def Fq (L:jv) (i:Nat) (b:Bool):Acc:=⟨[Dj L i],[Jm L i],b⟩
def rQ (L:jv) (i:Nat) (rs:List jk):Acc:=rs.foldl (gU L) (Fq L i (decide ((rs.length:Int)=0)))
def Fp (L:jv) (i:Nat) (rs:List jk) (k:Nat):Acc:=(rs.take k).foldl (gU L) (Fq L i (decide ((rs.length:Int)=0)))
def uJ (L:jv) (i:Nat) (rs:List jk):List (Option (List Int)):=(rQ L i rs).car++(if(rQ L i rs).orig then [some [(i:Int)]] else [])
def Uni (l:List Int) (s:List (Option (List Int))):Prop:=∀k,k∈l↔∃o∈s,k∈o.getD []
structure YM (L:jv) (i:Nat) (rs:List jk) (c k cr:List Int):Prop where
 car:Uni c (uJ L i rs)
 con:∀x,x∈k↔x∈c∧¬x∈(Dj L i).getD []
 cre:Uni cr ((rQ L i rs).ign++[some c])
def BC (L:jv) (i:Nat) (c k cr:List Int):jv:={L with car:=L.car.set i (some c),con:=L.con.set i (some k),cre:=L.cre.set i (some cr)}
theorem LH (L:jv) (r:jk):(kT L r).length≤512:=by
 have:=H6 L r.frm (min r.last 512-max r.first 1+1).toNat (max r.first 1)
 simp only[kT];omega
theorem Ov (L:jv) (a:Acc) (r:jk):(gU L a r).car.length≤a.car.length+512∧(gU L a r).ign.length≤a.ign.length+512:=by
 have:=LH L r
 unfold gU
 split
 ·split<;>simp
 ·split<;>simp<;>omega
theorem Vf (L:jv):∀(rs:List jk) (a:Acc),(rs.foldl (gU L) a).car.length≤a.car.length+512*rs.length∧(rs.foldl (gU L) a).ign.length≤a.ign.length+512*rs.length
 |[],a=>by simp
 |r::rs,a=>by
  have h1:=Ov L a r
  have h2:=Vf L rs (gU L a r)
  simp only[List.foldl_cons,List.length_cons];omega
def jE (d:bK) (f:bP):List jk:=d.recs.filter fun r=>decide ((⟨r.to,r.num⟩:bP)=f)
def BB (d:bK):jv:=⟨d.revs,[],List.replicate d.revs.length 0,List.replicate d.revs.length 0,List.replicate d.revs.length none,List.replicate d.revs.length none,List.replicate d.revs.length none⟩
def EY (L:jv) (f:bP) (k:Nat):jv:={L with index:=jg L.index f k}
def Kz (me:List (Int×List Int)) (l:Int) (k:Nat):List (Int×List Int):=jg me l ((aB me l).getD []++[(k:Int)])
inductive kY (d:bK):Nat→jv→List (Int×List Int)→Prop
 |zero:kY d 0 (BB d) []
 |away {k:Nat} {L:jv} {me:List (Int×List Int)} {v:Rev} (h:kY d k L me) (hv:d.revs[k]? =some v) (h5:v.act=5):kY d (k+1) (EY (aY L k v) (fileOf v) k) me
 |RI {k:Nat} {L:jv} {me:List (Int×List Int)} {v:Rev} (h:kY d k L me) (hv:d.revs[k]? =some v) (h5:¬v.act=5) {c m cr:List Int} (hA:YM (aY L k v) k (jE d (fileOf v)) c m cr):
  kY d (k+1) (EY (BC (aY L k v) k c m cr) (fileOf v) k) (Kz me (iP L k v) k)
structure mX (d:bK) (k:Nat) (L:jv) (me:List (Int×List Int)):Prop where
 kn:k≤d.revs.length
 revs:L.revs=d.revs
 lp:L.prev.length=d.revs.length
 lf:L.fst.length=d.revs.length
 lc:L.car.length=d.revs.length
 lo:L.con.length=d.revs.length
 lr:L.cre.length=d.revs.length
 ix:∀f i,aB L.index f=some i↔∃(j:Nat) (v:Rev),i=(j:Int)∧j<k∧d.revs[j]? =some v∧fileOf v=f
 f5:∀(j:Nat) (v:Rev),j<k→d.revs[j]? =some v→v.act=5→L.fst.getD j 0= -1∧L.con.getD j none=none∧L.car.getD j none=none
 fm:∀(j:Nat) (v:Rev),j<k→d.revs[j]? =some v→¬v.act=5→0≤L.fst.getD j 0∧L.fst.getD j 0≤j
 pm:∀(j:Nat) (v:Rev),j<k→d.revs[j]? =some v→¬v.act=5→
  (∃(u:Nat) (w:Rev),L.prev.getD j 0=(u:Int)∧u<j∧d.revs[u]? =some w∧¬w.act=5∧fileOf w=bW v∧¬v.act=1∧w.chg<v.chg∧L.fst.getD j 0=L.fst.getD u 0)∨(v.act=1∧L.prev.getD j 0= -1∧L.fst.getD j 0=j)
 mem:∀key:Int,0≤key→(aB me key).getD []=((List.range k).filter fun j=>decide (L.fst.getD j 0=key)).map fun j:Nat=>(j:Int)
 mne:∀key:Int,aB me key≠some []
 sets:∀(j:Nat) (v:Rev),j<k→d.revs[j]? =some v→¬v.act=5→∃c m cr,L.car.getD j none=some c∧L.con.getD j none=some m∧L.cre.getD j none=some cr
 un:∀j:Nat,k≤j→L.car.getD j none=none∧L.con.getD j none=none∧L.cre.getD j none=none
 bd:∀(j:Nat) (x:Int),x∈(L.car.getD j none).getD []∨x∈(L.con.getD j none).getD []∨x∈(L.cre.getD j none).getD []→0≤x∧x<k
theorem jL {α:Type} (l:List α) (i j:Nat) (a z:α) (h:i<l.length):(l.set i a).getD j z=if i=j then a else l.getD j z:=by
 simp only[List.getD,List.getElem?_set]
 split
 ·rename_i e;subst e;simp[h]
 ·rfl
theorem cZ {l:List Rev} (hg:Good l) {i j:Nat} {u v:Rev} (hu:l[i]? =some u) (hv:l[j]? =some v) (h:fileOf u=fileOf v):i=j:=by
 simp only[fileOf,bP.mk.injEq] at h
 rcases Nat.lt_trichotomy i j with hlt|rfl|hlt
 ·have:=(hg.path i j u v hlt hu hv h.1).2;omega
 ·rfl
 ·have:=(hg.path j i v u hlt hv hu h.1.symm).2;omega
theorem WY {l:List Rev} (hg:Good l) {k:Nat} {v:Rev} (hv:l[k]? =some v) (h5:¬v.act=5):
 (v.act=1∧bW v=Em)∨(¬v.act=1∧∃(u:Nat) (w:Rev),u<k∧l[u]? =some w∧¬w.act=5∧fileOf w=bW v∧w.chg<v.chg):=by
 by_cases h1:v.act=1
 ·exact .inl ⟨h1,by simp[bW,h1]⟩
 ·refine .inr ⟨h1,?_⟩
  by_cases h4:v.act=4
  ·obtain⟨j,u,a1,a2,a3,a4,a5,a6,a7⟩:=hg.mov k v hv h4
   exact⟨j,u,a1,a2,a6,by simp[bW,h4,fileOf,a3,a4],a7⟩
  ·obtain⟨j,u,a1,a2,a3,a4,a5,a6,a7⟩:=hg.prv k v hv h1 h4
   exact⟨j,u,a1,a2,a6,by simp[bW,h1,h4,fileOf,a3,a4],a7⟩
theorem UR {l:List Rev} (hg:Good l) {j:Nat} {v:Rev} (hv:l[j]? =some v):fileOf v≠Em:=by
 intro h
 have:=(hg.num j v hv).1
 simp only[fileOf,Em,bP.mk.injEq] at h
 omega
theorem mX.look {d:bK} {k:Nat} {L:jv} {me:List (Int×List Int)} (h:mX d k L me) (hg:Good d.revs) {v:Rev} (hv:d.revs[k]? =some v) (h5:¬v.act=5):
 (v.act=1∧aB L.index (bW v)=none∧rG L (bW v)=none)∨
 (¬v.act=1∧∃(u:Nat) (w:Rev),u<k∧d.revs[u]? =some w∧¬w.act=5∧fileOf w=bW v∧w.chg<v.chg∧aB L.index (bW v)=some (u:Int)∧rG L (bW v)=some (u:Int)∧0≤L.fst.getD u 0∧L.fst.getD u 0≤u):=by
 rcases WY hg hv h5 with⟨h1,hb⟩|⟨h1,u,w,a1,a2,a3,a4,a5⟩
 ·have hn:aB L.index (bW v)=none:=by
   cases hk:aB L.index (bW v) with
   |none=>rfl
   |some i=>
    obtain⟨j,w,_,_,b3,b4⟩:=(h.ix _ _).1 hk
    exact absurd (b4.trans hb) (UR hg b3)
  exact .inl ⟨h1,hn,by simp[rG,hn]⟩
 ·have hs:aB L.index (bW v)=some (u:Int):=(h.ix _ _).2 ⟨u,w,rfl,a1,a2,a4⟩
  obtain⟨f1,f2⟩:=h.fm u w a1 a2 a3
  exact .inr ⟨h1,u,w,a1,a2,a3,a4,a5,hs,by simp only[rG,hs,Int.toNat_natCast,f1,if_true],f1,f2⟩
theorem H5 (L:jv) (f:ByteArray) (o:Option (List Int)):∀(k:Nat) (n:Int),o∈nU L f n k↔∃(j i:Int),n≤j∧j<n+k∧aB L.index ⟨f,j⟩=some i∧o=L.con.getD i.toNat none
 |0,n=>by
  simp only[nU,List.not_mem_nil,false_iff,not_exists]
  rintro j i ⟨h1,h2,_⟩
  simp at h2;omega
 |k+1,n=>by
  simp only[nU,List.mem_append,H5 L f o k (n+1)]
  constructor
  ·rintro(h|⟨j,i,h1,h2,h3,h4⟩)
   ·cases hk:aB L.index ⟨f,n⟩ with
    |none=>rw[hk] at h;simp at h
    |some i=>rw[hk] at h;simp at h;exact⟨n,i,by omega,by omega,hk,by simpa using h⟩
   ·exact⟨j,i,by omega,by omega,h3,h4⟩
  ·rintro⟨j,i,h1,h2,h3,h4⟩
   by_cases e:j=n
   ·subst e;left;rw[h3];simp[h4]
   ·exact .inr ⟨j,i,by omega,by omega,h3,h4⟩
theorem zD (L:jv) (r:jk) (o:Option (List Int)):o∈kT L r↔∃(j i:Int),r.first≤j∧1≤j∧j≤r.last∧j≤512∧aB L.index ⟨r.frm,j⟩=some i∧o=L.con.getD i.toNat none:=by
 rw[kT,H5]
 constructor
 ·rintro⟨j,i,h1,h2,h3⟩;exact⟨j,i,by omega,by omega,by omega,by omega,h3⟩
 ·rintro⟨j,i,h1,h2,h3,h4,h5⟩;exact⟨j,i,by omega,by omega,h5⟩
theorem PY (L:jv) (a:Acc) (r:jk) (o:Option (List Int)):
 (o∈(gU L a r).car↔o∈a.car∨(r.how=1∧∃i,aB L.index ⟨r.frm,r.last⟩=some i∧o=L.car.getD i.toNat none)∨(¬r.how=1∧¬r.how=3∧o∈kT L r))∧
 (o∈(gU L a r).ign↔o∈a.ign∨(r.how=3∧o∈kT L r))∧((gU L a r).orig=true↔a.orig=true∨r.how=4):=by
 unfold gU
 by_cases h1:r.how=1
 ·rw[if_pos h1]
  have h3:¬r.how=3:=by omega
  have h4:¬r.how=4:=by omega
  cases hk:aB L.index ⟨r.frm,r.last⟩ with
  |none=>simp[h1]
  |some i=>simp[h1]
 ·rw[if_neg h1]
  by_cases h3:r.how=3
  ·rw[if_pos h3];simp[h3]
  ·rw[if_neg h3];simp[h1,h3]
theorem Ie (L:jv) (o:Option (List Int)):∀(rs:List jk) (a:Acc),
 (o∈(rs.foldl (gU L) a).car↔o∈a.car∨∃r∈rs,(r.how=1∧∃i,aB L.index ⟨r.frm,r.last⟩=some i∧o=L.car.getD i.toNat none)∨(¬r.how=1∧¬r.how=3∧o∈kT L r))∧
 (o∈(rs.foldl (gU L) a).ign↔o∈a.ign∨∃r∈rs,r.how=3∧o∈kT L r)∧((rs.foldl (gU L) a).orig=true↔a.orig=true∨∃r∈rs,r.how=4)
 |[],a=>by simp
 |r::rs,a=>by
  obtain⟨h1,h2,h3⟩:=Ie L o rs (gU L a r)
  obtain⟨g1,g2,g3⟩:=PY L a r o
  simp only[List.foldl_cons,h1,h2,h3,g1,g2,g3,List.mem_cons,exists_eq_or_imp,or_assoc]
  exact⟨trivial,trivial,trivial⟩
theorem pJ (L:jv) (i:Nat) (rs:List jk) (o:Option (List Int)):o∈uJ L i rs↔o=Dj L i∨(∃r∈rs,(r.how=1∧∃i,aB L.index ⟨r.frm,r.last⟩=some i∧o=L.car.getD i.toNat none)∨(¬r.how=1∧¬r.how=3∧o∈kT L r))∨
 ((rs=[]∨∃r∈rs,r.how=4)∧o=some [(i:Int)]):=by
 obtain⟨h1,h2,h3⟩:=Ie L o rs (Fq L i (decide ((rs.length:Int)=0)))
 have ho:((rQ L i rs).orig=true↔rs=[]∨∃r∈rs,r.how=4):=by
  rw[rQ,h3];simp[Fq,Int.natCast_eq_zero,List.length_eq_zero_iff]
 rw[uJ,List.mem_append,rQ,h1]
 simp only[Fq,List.mem_singleton,or_assoc]
 have:(o∈if(rQ L i rs).orig=true then [some [(i:Int)]] else [])↔((rs=[]∨∃r∈rs,r.how=4)∧o=some [(i:Int)]):=by
  rw[←ho];split<;>simp_all
 rw[←this];rfl
theorem wZ (L:jv) (i:Nat) (rs:List jk) (o:Option (List Int)):o∈(rQ L i rs).ign↔o=Jm L i∨∃r∈rs,r.how=3∧o∈kT L r:=by
 obtain⟨h1,h2,h3⟩:=Ie L o rs (Fq L i (decide ((rs.length:Int)=0)))
 rw[rQ,h2];simp[Fq]
theorem UZ {d:bK} {k:Nat} {L:jv} {me:List (Int×List Int)} (h:mX d k L me) (hg:Good d.revs) {v:Rev} (hv:d.revs[k]? =some v):
 ∀f i,aB (jg L.index (fileOf v) (k:Int)) f=some i↔∃(j:Nat) (w:Rev),i=(j:Int)∧j<k+1∧d.revs[j]? =some w∧fileOf w=f:=by
 intro f i
 rw[jh]
 by_cases e:f=fileOf v
 ·subst e
  rw[if_pos rfl]
  constructor
  ·intro h;cases h;exact⟨k,v,rfl,by omega,hv,rfl⟩
  ·rintro⟨j,w,rfl,_,h2,h3⟩
   rw[cZ hg h2 hv h3]
 ·rw[if_neg e,h.ix]
  constructor
  ·rintro⟨j,w,h1,h2,h3⟩;exact⟨j,w,h1,by omega,h3⟩
  ·rintro⟨j,w,h1,h2,h3,h4⟩
   refine⟨j,w,h1,?_,h3,h4⟩
   by_cases ej:j=k
   ·subst ej;rw[hv] at h3;cases h3;exact absurd h4.symm e
   ·omega
theorem vP {k:Nat} {l m:List Int} (key:Int) (h:∀j,j<k→m.getD j 0=l.getD j 0):(List.range k).filter (fun j=>decide (m.getD j 0=key))=(List.range k).filter (fun j=>decide (l.getD j 0=key)):=
 List.filter_congr fun j hj=>by rw[h j (by simpa using hj)]
theorem Zi {L:jv} {i:Nat} {rs:List jk} {c m cr:List Int} (hA:YM L i rs c m cr) (P:Int→Prop) (hi:P i)
 (hb:∀(j:Nat) (x:Int),x∈(L.car.getD j none).getD []∨x∈(L.con.getD j none).getD []∨x∈(L.cre.getD j none).getD []→P x):∀x,x∈c∨x∈m∨x∈cr→P x:=by
 have h1:∀x,x∈c→P x:=by
  intro x hx
  obtain⟨o,ho,hxo⟩:=(hA.car x).1 hx
  rcases(pJ L i rs o).1 ho with rfl|⟨r,_,⟨_,k,_,rfl⟩|⟨_,_,ho⟩⟩|⟨_,rfl⟩
  ·unfold Dj at hxo
   split at hxo
   ·exact hb _ x (.inl hxo)
   ·simp at hxo
  ·exact hb _ x (.inl hxo)
  ·obtain⟨_,k,_,_,_,_,_,rfl⟩:=(zD L r o).1 ho
   exact hb _ x (.inr (.inl hxo))
  ·simp at hxo;rw[hxo];exact hi
 rintro x (hx|hx|hx)
 ·exact h1 x hx
 ·exact h1 x ((hA.con x).1 hx).1
 ·obtain⟨o,ho,hxo⟩:=(hA.cre x).1 hx
  rcases List.mem_append.1 ho with ho|ho
  ·rcases(wZ L i rs o).1 ho with rfl|⟨r,_,_,ho⟩
   ·unfold Jm at hxo
    split at hxo
    ·exact hb _ x (.inr (.inr hxo))
    ·simp at hxo
   ·obtain⟨_,k,_,_,_,_,_,rfl⟩:=(zD L r o).1 ho
    exact hb _ x (.inr (.inl hxo))
  ·simp at ho;subst ho;exact h1 x (by simpa using hxo)
theorem He {α:Type} (n j:Nat) (a:α):(List.replicate n a).getD j a=a:=by
 simp only[List.getD,List.getElem?_replicate];split<;>rfl
theorem kY.inv {d:bK} (hg:Good d.revs) {k:Nat} {L:jv} {me:List (Int×List Int)} (h:kY d k L me):mX d k L me:=by
 induction h with
 |zero=>
  have hz:∀j:Nat,(BB d).car.getD j none=none∧(BB d).con.getD j none=none∧(BB d).cre.getD j none=none:=fun j=>⟨He _ _ _,He _ _ _,He _ _ _⟩
  refine⟨by simp,rfl,by simp[BB],by simp[BB],by simp[BB],by simp[BB],by simp[BB],?_,?_,?_,?_,?_,?_,?_,fun j _=>hz j,?_⟩
  ·intro f i;simp[BB,aB]
  ·intro j v hj;omega
  ·intro j v hj;omega
  ·intro j v hj;omega
  ·intro key _;simp[aB]
  ·intro key;simp[aB]
  ·intro j v hj;omega
  ·intro j x h
   obtain⟨h1,h2,h3⟩:=hz j
   rw[h1,h2,h3] at h
   rcases h with h|h|h<;>simp at h
 | @away k L me v h hv h5 ih=>
   have hk:k<d.revs.length:=(List.getElem?_eq_some_iff.1 hv).1
   have hF:∀j,(EY (aY L k v) (fileOf v) k).fst.getD j 0=if k=j then-1 else L.fst.getD j 0:=fun j=>by
    show(L.fst.set k _).getD j 0=_
    rw[jL _ _ _ _ _ (by rw[ih.lf];exact hk),if_pos h5]
   have hP:∀j,(EY (aY L k v) (fileOf v) k).prev.getD j 0=if k=j then-1 else L.prev.getD j 0:=fun j=>by
    show(L.prev.set k _).getD j 0=_
    rw[jL _ _ _ _ _ (by rw[ih.lp];exact hk),if_pos h5]
   have old:∀(j:Nat) (w:Rev),j<k+1→d.revs[j]? =some w→¬w.act=5→j<k:=by
    intro j w hj hw h
    by_cases e:j=k
    ·subst e;rw[hv] at hw;cases hw;exact absurd h5 h
    ·omega
   refine⟨hk,ih.revs,?_,?_,ih.lc,ih.lo,ih.lr,UZ ih hg hv,?_,?_,?_,?_,ih.mne,?_,fun j hj=>ih.un j (by omega),?_⟩
   ·simp[EY,aY,ih.lp]
   ·simp[EY,aY,ih.lf]
   ·intro j w hj hw w5
    rw[hF]
    by_cases e:k=j
    ·subst e
     exact⟨if_pos rfl,(ih.un k (Nat.le_refl _)).2.1,(ih.un k (Nat.le_refl _)).1⟩
    ·rw[if_neg e];exact ih.f5 j w (by omega) hw w5
   ·intro j w hj hw w5
    have:=old j w hj hw w5
    rw[hF,if_neg (by omega)];exact ih.fm j w this hw w5
   ·intro j w hj hw w5
    have hj':=old j w hj hw w5
    rw[hP,hF,if_neg (by omega),if_neg (by omega)]
    rcases ih.pm j w hj' hw w5 with⟨u,w',a1,a2,a3⟩|h
    ·exact .inl ⟨u,w',a1,a2,by rw[hF,if_neg (by omega)];exact a3⟩
    ·exact .inr h
   ·intro key hkey
    rw[ih.mem key hkey,List.range_succ,List.filter_append,vP (l:=L.fst) (m:=(EY (aY L k v) (fileOf v) k).fst) key (fun j hj=>by rw[hF,if_neg (by omega)])]
    have:(List.filter (fun j=>decide ((EY (aY L k v) (fileOf v) k).fst.getD j 0=key)) [k])=[]:=by
     rw[List.filter_cons,hF,if_pos rfl,if_neg (by simp;omega)];rfl
    rw[this,List.append_nil]
   ·intro j w hj hw w5;exact ih.sets j w (old j w hj hw w5) hw w5
   ·intro j x hx;have:=ih.bd j x hx;omega
 | @RI k L me v h hv h5 c m cr hA ih=>
   have hk:k<d.revs.length:=(List.getElem?_eq_some_iff.1 hv).1
   generalize hL':EY (BC (aY L k v) k c m cr) (fileOf v) k=L'
   have hF:∀j,L'.fst.getD j 0=if k=j then iP L k v else L.fst.getD j 0:=fun j=>by
    rw[←hL'];show(L.fst.set k _).getD j 0=_
    rw[jL _ _ _ _ _ (by rw[ih.lf];exact hk),if_neg h5]
   have hP:∀j,L'.prev.getD j 0=if k=j then mW L v else L.prev.getD j 0:=fun j=>by
    rw[←hL'];show(L.prev.set k _).getD j 0=_
    rw[jL _ _ _ _ _ (by rw[ih.lp];exact hk),if_neg h5]
   have hC:∀j,L'.car.getD j none=if k=j then some c else L.car.getD j none:=fun j=>by
    rw[←hL'];show(L.car.set k _).getD j none=_
    rw[jL _ _ _ _ _ (by rw[ih.lc];exact hk)]
   have hO:∀j,L'.con.getD j none=if k=j then some m else L.con.getD j none:=fun j=>by
    rw[←hL'];show(L.con.set k _).getD j none=_
    rw[jL _ _ _ _ _ (by rw[ih.lo];exact hk)]
   have hR:∀j,L'.cre.getD j none=if k=j then some cr else L.cre.getD j none:=fun j=>by
    rw[←hL'];show(L.cre.set k _).getD j none=_
    rw[jL _ _ _ _ _ (by rw[ih.lr];exact hk)]
   have hlk:=ih.look hg hv h5
   have hln:0≤iP L k v∧iP L k v≤k:=by
    rcases hlk with⟨_,_,h⟩|⟨_,u,w,a1,a2,a3,a4,a5,a6,a7,a8,a9⟩
    ·simp only[iP,h];omega
    ·simp only[iP,a7,Int.toNat_natCast];omega
   refine⟨hk,?_,?_,?_,?_,?_,?_,?_,?_,?_,?_,?_,?_,?_,?_,?_⟩
   ·rw[←hL'];exact ih.revs
   ·rw[←hL'];simp[EY,BC,aY,ih.lp]
   ·rw[←hL'];simp[EY,BC,aY,ih.lf]
   ·rw[←hL'];simp[EY,BC,aY,ih.lc]
   ·rw[←hL'];simp[EY,BC,aY,ih.lo]
   ·rw[←hL'];simp[EY,BC,aY,ih.lr]
   ·rw[←hL'];exact UZ ih hg hv
   ·intro j w hj hw w5
    have e:¬k=j:=by rintro rfl;rw[hv] at hw;cases hw;exact h5 w5
    rw[hF,hO,hC,if_neg e,if_neg e,if_neg e];exact ih.f5 j w (by omega) hw w5
   ·intro j w hj hw w5
    rw[hF]
    by_cases e:k=j
    ·subst e;rw[if_pos rfl];exact hln
    ·rw[if_neg e];exact ih.fm j w (by omega) hw w5
   ·intro j w hj hw w5
    rw[hF,hP]
    by_cases e:k=j
    ·subst e
     rw[hv] at hw;cases hw
     rw[if_pos rfl,if_pos rfl]
     rcases hlk with⟨h1,_,h⟩|⟨h1,u,w,a1,a2,a3,a4,a5,a6,a7,a8,a9⟩
     ·exact .inr ⟨h1,by simp only[mW,h],by simp only[iP,h]⟩
     ·refine .inl ⟨u,w,by simp only[mW,a7],a1,a2,a3,a4,h1,a5,?_⟩
      rw[hF,if_neg (by omega)];simp only[iP,a7,Int.toNat_natCast]
    ·rw[if_neg e,if_neg e]
     rcases ih.pm j w (by omega) hw w5 with⟨u,w',a1,a2,a3⟩|h
     ·exact .inl ⟨u,w',a1,a2,by rw[hF,if_neg (by omega)];exact a3⟩
     ·exact .inr h
   ·intro key hkey
    rw[List.range_succ,List.filter_append,vP (l:=L.fst) (m:=L'.fst) key (fun j hj=>by rw[hF,if_neg (by omega)]),List.map_append,←ih.mem key hkey,Kz,jh]
    by_cases e:key=iP L k v
    ·subst e
     have:(List.filter (fun j=>decide (L'.fst.getD j 0=iP L k v)) [k])=[k]:=by
      rw[List.filter_cons,hF,if_pos rfl,if_pos (by simp)];rfl
     rw[if_pos rfl,this];rfl
    ·have:(List.filter (fun j=>decide (L'.fst.getD j 0=key)) [k])=[]:=by
      rw[List.filter_cons,hF,if_pos rfl,if_neg (by simp;exact fun h=>e h.symm)];rfl
     rw[if_neg e,this];simp
   ·intro key
    rw[Kz,jh]
    split
    ·simp
    ·exact ih.mne key
   ·intro j w hj hw w5
    rw[hC,hO,hR]
    by_cases e:k=j
    ·subst e;exact⟨c,m,cr,if_pos rfl,if_pos rfl,if_pos rfl⟩
    ·rw[if_neg e,if_neg e,if_neg e];exact ih.sets j w (by omega) hw w5
   ·intro j hj
    rw[hC,hO,hR,if_neg (by omega),if_neg (by omega),if_neg (by omega)];exact ih.un j (by omega)
   ·intro j x hx
    rw[hC,hO,hR] at hx
    by_cases e:k=j
    ·rw[if_pos e,if_pos e,if_pos e] at hx
     refine Zi hA (fun x=>0≤x∧x<((k+1:Nat):Int)) (by omega) ?_ x hx
     intro j x hx
     have:=ih.bd j x hx
     omega
    ·rw[if_neg e,if_neg e,if_neg e] at hx
     have:=ih.bd j x hx
     omega
structure SS where
 car:bP→Prop
 con:bP→Prop
 cre:bP→Prop
def SS0:SS:=⟨fun _=>False,fun _=>False,fun _=>False⟩
def BL (rs:List jk) (A:bP→SS) (b f g:bP):Prop:=
 (A b).car g∨(∃r∈rs,(r.how=1∧(A ⟨r.frm,r.last⟩).car g)∨(¬r.how=1∧¬r.how=3∧∃n,r.first≤n∧n≤r.last∧(A ⟨r.frm,n⟩).con g))∨((rs=[]∨∃r∈rs,r.how=4)∧g=f)
def stepS (rs:List jk) (A:bP→SS) (v:Rev):SS:=
 ⟨BL rs A (bW v) (fileOf v),fun g=>BL rs A (bW v) (fileOf v) g∧¬(A (bW v)).car g,
   fun g=>(A (bW v)).cre g∨(∃r∈rs,r.how=3∧∃n,r.first≤n∧n≤r.last∧(A ⟨r.frm,n⟩).con g)∨BL rs A (bW v) (fileOf v) g⟩
def dw (d:bK):Nat→bP→SS
 |0=>fun _=>SS0
 |k+1=>
  match d.revs[k]? with
  |none=>dw d k
  |some v=>if v.act=5 then dw d k else fun f=>if f=fileOf v then stepS (jE d (fileOf v)) (dw d k) v else dw d k f
def tJ (d:bK) (x:Int) (g:bP):Prop:=∃w,d.revs[x.toNat]? =some w∧fileOf w=g
def XB (d:bK) (L:jv) (s:List (Option (List Int))) (f g:bP):Prop:=∃i x,aB L.index f=some i∧x∈(s.getD i.toNat none).getD []∧tJ d x g
structure Rj (d:bK) (A:bP→SS) (L:jv):Prop where
 car:∀f g,(A f).car g↔XB d L L.car f g
 con:∀f g,(A f).con g↔XB d L L.con f g
 cre:∀f g,(A f).cre g↔XB d L L.cre f g
theorem JS {d:bK} (hg:Good d.revs) {x y:Int} {g:bP} (hx:0≤x) (hy:0≤y) (h1:tJ d x g) (h2:tJ d y g):x=y:=by
 obtain⟨w,a1,a2⟩:=h1
 obtain⟨w',b1,b2⟩:=h2
 have:=cZ hg a1 b1 (a2.trans b2.symm)
 omega
theorem PL {d:bK} {c:List Int} {s:List (Option (List Int))} (h:Uni c s) (g:bP):(∃x∈c,tJ d x g)↔∃o∈s,∃x∈o.getD [],tJ d x g:=by
 constructor
 ·rintro⟨x,hx,hf⟩
  obtain⟨o,ho,hxo⟩:=(h x).1 hx
  exact⟨o,ho,x,hxo,hf⟩
 ·rintro⟨o,ho,x,hx,hf⟩
  exact⟨x,(h x).2 ⟨o,ho,hx⟩,hf⟩
theorem Ro {d:bK} (hg:Good d.revs) (hN:d.revs.length≤512) {k:Nat} {L:jv} {me:List (Int×List Int)} (hI:mX d k L me) {A:bP→SS} (hR:Rj d A L) (r:jk) (g:bP):
 (∃o∈kT L r,∃x∈o.getD [],tJ d x g)↔∃n,r.first≤n∧n≤r.last∧(A ⟨r.frm,n⟩).con g:=by
 constructor
 ·rintro⟨o,ho,x,hx,hf⟩
  obtain⟨j,i,h1,h2,h3,h4,h5,rfl⟩:=(zD L r o).1 ho
  exact⟨j,h1,h3,(hR.con _ _).2 ⟨i,x,h5,hx,hf⟩⟩
 ·rintro⟨n,h1,h2,h3⟩
  obtain⟨i,x,g1,g2,g3⟩:=(hR.con _ _).1 h3
  obtain⟨j,w,e1,e2,e3,e4⟩:=(hI.ix _ _).1 g1
  have hn:=hg.num j w e3
  have hj:=(List.getElem?_eq_some_iff.1 e3).1
  have:w.num=n:=by have:=congrArg bP.num e4;simpa[fileOf] using this
  exact⟨_,(zD L r _).2 ⟨n,i,h1,by omega,h2,by omega,g1,rfl⟩,x,g2,g3⟩
theorem Sj {d:bK} (hg:Good d.revs) (hN:d.revs.length≤512) {k:Nat} {L:jv} {me:List (Int×List Int)} (h:kY d k L me):Rj d (dw d k) L:=by
 induction h with
 |zero=>constructor<;>(intro f g;simp[dw,SS0,XB,BB,aB])
 | @away k L me v h hv h5 ih=>
   have hI:=h.inv hg
   have hs:dw d (k+1)=dw d k:=by simp only[dw,hv,h5,if_true]
   rw[hs]
   have key:∀(s:List (Option (List Int))),s.getD k none=none→∀f g,XB d (EY (aY L k v) (fileOf v) k) s f g↔XB d L s f g:=by
    intro s hsk f g
    unfold XB
    show(∃i x,aB (jg L.index (fileOf v) (k:Int)) f=some i∧_)↔_
    rw[jh]
    by_cases e:f=fileOf v
    ·subst e
     rw[if_pos rfl]
     constructor
     ·rintro⟨i,x,h1,h2,_⟩
      cases h1;rw[Int.toNat_natCast,hsk] at h2;simp at h2
     ·rintro⟨i,x,h1,h2,_⟩
      obtain⟨j,w,_,g2,g3,g4⟩:=(hI.ix _ _).1 h1
      have:=cZ hg g3 hv g4;omega
    ·rw[if_neg e]
   obtain⟨u1,u2,u3⟩:=hI.un k (Nat.le_refl _)
   exact⟨fun f g=>by rw[ih.car,←key L.car u1];rfl,fun f g=>by rw[ih.con,←key L.con u2];rfl,fun f g=>by rw[ih.cre,←key L.cre u3];rfl⟩
 | @RI k L me v h hv h5 c m cr hA ih=>
   have hI:=h.inv hg
   have hk:k<d.revs.length:=(List.getElem?_eq_some_iff.1 hv).1
   have hs:dw d (k+1)=fun f=>if f=fileOf v then stepS (jE d (fileOf v)) (dw d k) v else dw d k f:=by simp only[dw,hv,h5,if_false]
   rw[hs]
   generalize dw d k=A at*
   generalize hrs:jE d (fileOf v)=rs at*
   have hbefore:Dj (aY L k v) k=(match aB L.index (bW v) with|some u=>L.car.getD u.toNat none|none=>none)∧Jm (aY L k v) k=(match aB L.index (bW v) with|some u=>L.cre.getD u.toNat none|none=>none):=by
    have hp:(aY L k v).prev.getD k 0=mW L v:=by
     show(L.prev.set k _).getD k 0=_
     rw[jL _ _ _ _ _ (by rw[hI.lp];exact hk),if_neg h5,if_pos rfl]
    rcases hI.look hg hv h5 with⟨h1,h2,h3⟩|⟨h1,u,w,a1,a2,a3,a4,a5,a6,a7,a8,a9⟩
    ·rw[Dj,Jm,hp,h2];simp[mW,h3]
    ·rw[Dj,Jm,hp,a6];simp only[mW,a7]
     rw[if_pos (by omega),if_pos (by omega)];exact⟨rfl,rfl⟩
   have hbc:∀g,(∃x∈(Dj (aY L k v) k).getD [],tJ d x g)↔(A (bW v)).car g:=by
    intro g
    rw[ih.car,hbefore.1,XB]
    cases aB L.index (bW v) with
    |none=>simp
    |some u=>simp
   have hbr:∀g,(∃x∈(Jm (aY L k v) k).getD [],tJ d x g)↔(A (bW v)).cre g:=by
    intro g
    rw[ih.cre,hbefore.2,XB]
    cases aB L.index (bW v) with
    |none=>simp
    |some u=>simp
   have hcont:∀r g,(∃o∈kT (aY L k v) r,∃x∈o.getD [],tJ d x g)↔∃n,r.first≤n∧n≤r.last∧(A ⟨r.frm,n⟩).con g:=fun r g=>by
    have e:kT (aY L k v) r=kT L r:=by
     have:∀(n:Nat) (q:Int),nU (aY L k v) r.frm q n=nU L r.frm q n:=by
      intro n;induction n with
      |zero=>intro q;rfl
      |succ n ihn=>intro q;simp only[nU,ihn];rfl
     simp only[kT,this]
    rw[e];exact Ro hg hN hI ih r g
   have hbd:∀x,x∈c∨x∈m∨x∈cr→0≤x:=Zi hA (fun x=>0≤x) (by omega) (fun j x hx=>(hI.bd j x hx).1)
   have hbb:∀x,x∈(Dj (aY L k v) k).getD []→0≤x:=by
    intro x hx
    unfold Dj at hx
    split at hx
    ·exact(hI.bd _ x (.inl hx)).1
    ·simp at hx
   have hcar:∀g,(∃x∈c,tJ d x g)↔BL rs A (bW v) (fileOf v) g:=by
    intro g
    rw[PL hA.car g,BL]
    constructor
    ·rintro⟨o,ho,x,hx,hf⟩
     rcases(pJ _ k rs o).1 ho with rfl|⟨r,hr,⟨r1,i,ri,rfl⟩|⟨r1,r3,ho⟩⟩|⟨hor,rfl⟩
     ·exact .inl ((hbc g).1 ⟨x,hx,hf⟩)
     ·exact .inr (.inl ⟨r,hr, .inl ⟨r1,(ih.car _ _).2 ⟨i,x,ri,hx,hf⟩⟩⟩)
     ·exact .inr (.inl ⟨r,hr, .inr ⟨r1,r3,(hcont r g).1 ⟨o,ho,x,hx,hf⟩⟩⟩)
     ·simp at hx;subst hx
      obtain⟨w,hw,e⟩:=hf
      rw[Int.toNat_natCast,hv] at hw;cases hw
      exact .inr (.inr ⟨hor,e.symm⟩)
    ·rintro(hb|⟨r,hr,⟨r1,hc⟩|⟨r1,r3,hc⟩⟩|⟨hor,rfl⟩)
     ·obtain⟨x,hx,hf⟩:=(hbc g).2 hb
      exact⟨_,(pJ _ k rs _).2 (.inl rfl),x,hx,hf⟩
     ·obtain⟨i,x,h1,h2,h3⟩:=(ih.car _ _).1 hc
      exact⟨_,(pJ _ k rs _).2 (.inr (.inl ⟨r,hr, .inl ⟨r1,i,h1,rfl⟩⟩)),x,h2,h3⟩
     ·obtain⟨o,ho,x,hx,hf⟩:=(hcont r g).2 hc
      exact⟨o,(pJ _ k rs _).2 (.inr (.inl ⟨r,hr, .inr ⟨r1,r3,ho⟩⟩)),x,hx,hf⟩
     ·exact⟨_,(pJ _ k rs _).2 (.inr (.inr ⟨hor,rfl⟩)),k,by simp,v,by rw[Int.toNat_natCast];exact hv,rfl⟩
   have hcon:∀g,(∃x∈m,tJ d x g)↔BL rs A (bW v) (fileOf v) g∧¬(A (bW v)).car g:=by
    intro g
    rw[←hcar g,←hbc g]
    constructor
    ·rintro⟨x,hx,hf⟩
     obtain⟨h1,h2⟩:=(hA.con x).1 hx
     refine⟨⟨x,h1,hf⟩,?_⟩
     rintro⟨y,hy,hfy⟩
     have:=JS hg (hbd x (.inl h1)) (hbb y hy) hf hfy
     subst this;exact h2 hy
    ·rintro⟨⟨x,hx,hf⟩,hn⟩
     exact⟨x,(hA.con x).2 ⟨hx,fun h=>hn ⟨x,h,hf⟩⟩,hf⟩
   have hcre:∀g,(∃x∈cr,tJ d x g)↔(A (bW v)).cre g∨(∃r∈rs,r.how=3∧∃n,r.first≤n∧n≤r.last∧(A ⟨r.frm,n⟩).con g)∨BL rs A (bW v) (fileOf v) g:=by
    intro g
    rw[PL hA.cre g]
    constructor
    ·rintro⟨o,ho,x,hx,hf⟩
     rcases List.mem_append.1 ho with ho|ho
     ·rcases(wZ _ k rs o).1 ho with rfl|⟨r,hr,r3,ho⟩
      ·exact .inl ((hbr g).1 ⟨x,hx,hf⟩)
      ·exact .inr (.inl ⟨r,hr,r3,(hcont r g).1 ⟨o,ho,x,hx,hf⟩⟩)
     ·simp at ho;subst ho
      exact .inr (.inr ((hcar g).1 ⟨x,hx,hf⟩))
    ·rintro(hb|⟨r,hr,r3,hc⟩|hc)
     ·obtain⟨x,hx,hf⟩:=(hbr g).2 hb
      exact⟨_,List.mem_append.2 (.inl ((wZ _ k rs _).2 (.inl rfl))),x,hx,hf⟩
     ·obtain⟨o,ho,x,hx,hf⟩:=(hcont r g).2 hc
      exact⟨o,List.mem_append.2 (.inl ((wZ _ k rs _).2 (.inr ⟨r,hr,r3,ho⟩))),x,hx,hf⟩
     ·obtain⟨x,hx,hf⟩:=(hcar g).2 hc
      exact⟨some c,List.mem_append.2 (.inr (by simp)),x,hx,hf⟩
   have key:∀(s:List (Option (List Int))) (n:List Int) (B B':bP→bP→Prop),s.length=d.revs.length→(∀f g,B f g↔XB d L s f g)→(∀g,(∃x∈n,tJ d x g)↔B' (fileOf v) g)→(∀f g,¬f=fileOf v→(B' f g↔B f g))→
    ∀f g,B' f g↔XB d (EY (BC (aY L k v) k c m cr) (fileOf v) k) (s.set k (some n)) f g:=by
    intro s n B B' hl hB hn hB' f g
    unfold XB
    show _↔∃i x,aB (jg L.index (fileOf v) (k:Int)) f=some i∧_
    rw[jh]
    by_cases e:f=fileOf v
    ·subst e
     rw[if_pos rfl,←hn g]
     constructor
     ·rintro⟨x,hx,hf⟩
      exact⟨k,x,rfl,by rw[Int.toNat_natCast,jL _ _ _ _ _ (by omega),if_pos rfl];exact hx,hf⟩
     ·rintro⟨i,x,h1,h2,h3⟩
      cases h1
      rw[Int.toNat_natCast,jL _ _ _ _ _ (by omega),if_pos rfl] at h2
      exact⟨x,h2,h3⟩
    ·rw[if_neg e,hB' f g e,hB,XB]
     constructor
     ·rintro⟨i,x,h1,h2,h3⟩
      obtain⟨j,w,rfl,g2,_⟩:=(hI.ix _ _).1 h1
      exact⟨j,x,h1,by rw[Int.toNat_natCast,jL _ _ _ _ _ (by omega),if_neg (by omega)];simpa using h2,h3⟩
     ·rintro⟨i,x,h1,h2,h3⟩
      obtain⟨j,w,rfl,g2,_⟩:=(hI.ix _ _).1 h1
      rw[Int.toNat_natCast,jL _ _ _ _ _ (by omega),if_neg (by omega)] at h2
      exact⟨j,x,h1,by simpa using h2,h3⟩
   refine⟨?_,?_,?_⟩
   ·exact key L.car c (fun f g=>(A f).car g) _ hI.lc ih.car (fun g=>by rw[if_pos rfl];exact hcar g) (fun f g e=>by rw[if_neg e])
   ·exact key L.con m (fun f g=>(A f).con g) _ hI.lo ih.con (fun g=>by rw[if_pos rfl];exact hcon g) (fun f g e=>by rw[if_neg e])
   ·exact key L.cre cr (fun f g=>(A f).cre g) _ hI.lr ih.cre (fun g=>by rw[if_pos rfl];exact hcre g) (fun f g e=>by rw[if_neg e])
theorem iY {d:bK} (hg:Good d.revs) {p:ByteArray} {n:Int} {w:Rev}:oQ d p n=some w↔∃j:Nat,d.revs[j]? =some w∧fileOf w=⟨p,n⟩:=by
 constructor
 ·intro h
  obtain⟨h1,h2,h3⟩:=BV h
  obtain⟨j,hj⟩:=List.getElem?_of_mem h1
  exact⟨j,hj,by simp[fileOf,h2,h3]⟩
 ·rintro⟨j,hj,he⟩
  simp only[fileOf,bP.mk.injEq] at he
  cases h:oQ d p n with
  |none=>
   exfalso
   have:=List.find?_eq_none.1 h w (by simp only[log,List.mem_filter];exact⟨List.mem_of_getElem? hj,by simp[he.1]⟩)
   simp[he.2] at this
  |some u=>
   obtain⟨h1,h2,h3⟩:=BV h
   obtain⟨i,hi⟩:=List.getElem?_of_mem h1
   have:=cZ hg hi hj (by simp[fileOf,h2,h3,he.1,he.2])
   subst this;rw[hi] at hj;exact hj
theorem kH {d:bK} {v:Rev} (h1:v.act=1):jQ d v=none:=by simp[jQ,h1]
theorem zy {d:bK} (hg:Good d.revs) (hN:d.revs.length≤512) {k:Nat} {v:Rev} (hv:d.revs[k]? =some v) (h1:¬v.act=1):jQ d v=oQ d (bW v).path (bW v).num:=by
 have hn:=hg.num k v hv
 have hk:=(List.getElem?_eq_some_iff.1 hv).1
 unfold jQ bW
 rw[if_neg h1,if_neg h1]
 split
 ·rfl
 ·rw[Ug (by omega) (by omega)]
section
variable {d:bK} (hg:Good d.revs) (hN:d.revs.length≤512) {L:jv} {me:List (Int×List Int)} (hI:mX d d.revs.length L me)
include hg hN hI
theorem zB:∀(n j:Nat) (v:Rev),j<n→d.revs[j]? =some v→¬v.act=5→∃(r:Nat) (w:Rev),L.fst.getD j 0=(r:Int)∧d.revs[r]? =some w∧first d v=fileOf w
 |0,j,v,h,_,_=>by omega
 |n+1,j,v,h,hv,h5=>by
  have hj:=(List.getElem?_eq_some_iff.1 hv).1
  rcases hI.pm j v hj hv h5 with⟨u,w,a1,a2,a3,a4,a5,a6,a7,a8⟩|⟨h1,h2,h3⟩
  ·have hp:jQ d v=some w:=by rw[zy hg hN hv a6];exact(iY hg).2 ⟨u,a3,a5⟩
   rw[A8 hp a7,a8]
   exact zB n u w (by omega) a3 a4
  ·exact⟨j,v,h3,hv,ji (kH h1)⟩
theorem ww {i j:Nat} {u v:Rev} (hu:d.revs[i]? =some u) (hv:d.revs[j]? =some v) (u5:¬u.act=5) (v5:¬v.act=5):L.fst.getD i 0=L.fst.getD j 0↔first d u=first d v:=by
 obtain⟨r,w,a1,a2,a3⟩:=zB hg hN hI (i+1) i u (by omega) hu u5
 obtain⟨r',w',b1,b2,b3⟩:=zB hg hN hI (j+1) j v (by omega) hv v5
 rw[a1,b1,a3,b3]
 constructor
 ·intro h
  have:r=r':=by omega
  subst this;rw[a2] at b2;cases b2;rfl
 ·intro h;rw[cZ hg a2 b2 h]
omit hN hI in
theorem Vm {i j:Nat} {u v:Rev} (hu:d.revs[i]? =some u) (hv:d.revs[j]? =some v) (u5:¬u.act=5) (v5:¬v.act=5) (u1:¬u.act=1) (v1:¬v.act=1) (h:bW u=bW v):i=j:=by
 have aux:∀{i j:Nat} {u v:Rev},d.revs[i]? =some u→d.revs[j]? =some v→¬v.act=5→¬u.act=1→¬v.act=1→u.act=4→¬v.act=4→bW u=bW v→False:=by
  intro i j u v hu hv v5 u1 v1 u4 v4 h
  obtain⟨a,w,w1,w2,w3,w4⟩:=hg.away i u hu u4
  simp only[bW,u4,v1,v4,if_false,if_true,bP.mk.injEq] at h
  simp at h
  have:=cZ hg w1 hv (by simp only[fileOf,w2,w3,h.1,h.2];congr 1;omega)
  subst this;rw[w1] at hv;cases hv;exact v5 w4
 by_cases u4:u.act=4
 ·by_cases v4:v.act=4
  ·simp only[bW,u4,v4,if_true,bP.mk.injEq] at h
   simp at h
   rcases Nat.lt_trichotomy i j with hlt|e|hlt
   ·exact(hg.mov2 i j u v hlt hu hv u4 v4 h.1 h.2).elim
   ·exact e
   ·exact(hg.mov2 j i v u hlt hv hu v4 u4 h.1.symm h.2.symm).elim
  ·exact(aux hu hv v5 u1 v1 u4 v4 h).elim
 ·by_cases v4:v.act=4
  ·exact(aux hv hu u5 v1 u1 v4 u4 h.symm).elim
  ·simp only[bW,u1,v1,u4,v4,if_false,bP.mk.injEq] at h
   exact cZ hg hu hv (by simp only[fileOf,h.1];congr 1;omega)
theorem Cb:∀(n i j:Nat) (u v:Rev),j<n→i<j→d.revs[i]? =some u→d.revs[j]? =some v→¬u.act=5→¬v.act=5→L.fst.getD i 0=L.fst.getD j 0→
 u.chg<v.chg∧∃(s:Nat) (w:Rev),s≤j∧d.revs[s]? =some w∧¬w.act=5∧¬w.act=1∧bW w=fileOf u
 |0,i,j,u,v,h,_,_,_,_,_,_=>by omega
 |n+1,i,j,u,v,hn,hij,hu,hv,u5,v5,hf=>by
  have hj:=(List.getElem?_eq_some_iff.1 hv).1
  have hi:=(List.getElem?_eq_some_iff.1 hu).1
  rcases hI.pm j v hj hv v5 with⟨k,w,a1,a2,a3,a4,a5,a6,a7,a8⟩|⟨h1,h2,h3⟩
  ·rcases Nat.lt_trichotomy i k with hlt|e|hlt
   ·obtain⟨g1,s,x,g2,g3⟩:=Cb n i k u w (by omega) hlt hu a3 u5 a4 (by rw[hf,a8])
    exact⟨by omega,s,x,by omega,g3⟩
   ·subst e;rw[hu] at a3;cases a3
    exact⟨a7,j,v,by omega,hv,v5,a6,a5.symm⟩
   ·exfalso
    obtain⟨g1,s,x,g2,g3,g4,g5,g6⟩:=Cb n k i w u (by omega) hlt a3 hu a4 u5 (by rw[←a8,hf])
    have:=Vm hg g3 hv g4 v5 g5 a6 (g6.trans a5)
    omega
  ·have:=hI.fm i u hi hu u5
   omega
theorem XY {i j:Nat} {u v:Rev} (hu:d.revs[i]? =some u) (hv:d.revs[j]? =some v) (u5:¬u.act=5) (v5:¬v.act=5) (h:L.fst.getD i 0=L.fst.getD j 0):u.chg≤v.chg↔i≤j:=by
 rcases Nat.lt_trichotomy i j with hlt|e|hlt
 ·have:=(Cb hg hN hI (j+1) i j u v (by omega) hlt hu hv u5 v5 h).1
  exact⟨fun _=>by omega,fun _=>by omega⟩
 ·subst e;rw[hu] at hv;cases hv;simp
 ·have:=(Cb hg hN hI (i+1) j i v u (by omega) hlt hv hu v5 u5 h.symm).1
  exact⟨fun _=>by omega,fun _=>by omega⟩
end
def SA (d:bK):bP→SS:=dw d d.revs.length
def Open (d:bK) (t:bP) (u:Rev):Prop:=¬∀g,(SA d (fileOf u)).con g→(SA d t).cre g
open Classical in
noncomputable def Jl (d:bK) (v:Rev) (t:bP):List bP:=(d.revs.filter fun u=>decide (¬u.act=5∧first d u=first d v∧u.chg≤v.chg∧Open d t u)).map fileOf
noncomputable def l7 (d:bK) (s t:bP):Option (List bP):=
 match iE d s.path s.num,iE d t.path t.num with
 |some v,some _=>some (Jl d v t)
 |_,_=>none
theorem nS {d:bK} (hg:Good d.revs) {f:bP} {w:Rev}:iE d f.path f.num=some w↔∃j:Nat,d.revs[j]? =some w∧fileOf w=f∧¬w.act=5:=by
 unfold iE
 cases h:oQ d f.path f.num with
 |none=>
  simp only[reduceCtorEq,false_iff,not_exists]
  rintro j ⟨h1,h2,_⟩
  rw[(iY hg).2 ⟨j,h1,h2⟩] at h;cases h
 |some v=>
  obtain⟨i,h1,h2⟩:=(iY hg).1 h
  simp only
  constructor
  ·intro hw
   split at hw
   ·cases hw
   ·cases hw;exact⟨i,h1,h2,by assumption⟩
  ·rintro⟨j,g1,g2,g3⟩
   have:=cZ hg h1 g1 (by rw[h2,g2])
   subst this;rw[h1] at g1;cases g1;rw[if_neg g3]
theorem IE {d:bK} {k:Nat} {L:jv} {me:List (Int×List Int)} (hI:mX d k L me) {f:bP} {i:Int}:rG L f=some i↔∃(j:Nat) (w:Rev),i=(j:Int)∧j<k∧d.revs[j]? =some w∧fileOf w=f∧¬w.act=5:=by
 unfold rG
 cases h:aB L.index f with
 |none=>
  simp only[reduceCtorEq,false_iff,not_exists]
  rintro j w ⟨_,h1,h2,h3,_⟩
  rw[(hI.ix f j).2 ⟨j,w,rfl,h1,h2,h3⟩] at h;cases h
 |some x=>
  obtain⟨j,w,rfl,h1,h2,h3⟩:=(hI.ix f x).1 h
  simp only[Int.toNat_natCast]
  by_cases w5:w.act=5
  ·rw[if_neg (by rw[(hI.f5 j w h1 h2 w5).1];omega)]
   simp only[reduceCtorEq,false_iff,not_exists]
   rintro j' w' ⟨e,g1,g2,g3,g4⟩
   rw[(hI.ix f j').2 ⟨j',w',rfl,g1,g2,g3⟩] at h
   have:j'=j:=by have:=Option.some.inj h;omega
   subst this;rw[h2] at g2;cases g2;exact g4 w5
  ·rw[if_pos (hI.fm j w h1 h2 w5).1]
   constructor
   ·intro e;cases e;exact⟨j,w,rfl,h1,h2,h3,w5⟩
   ·rintro⟨j',w',rfl,g1,g2,g3,g4⟩
    rw[(hI.ix f j').2 ⟨j',w',rfl,g1,g2,g3⟩] at h
    exact h.symm
theorem yG {i:Nat}:∀{l:List Nat},l.Pairwise (· <·)→i∈l→upto (l.map fun x:Nat=>(x:Int)) (i:Int)=(l.filter fun x=>decide (x≤i)).map fun x:Nat=>(x:Int)
 |[],_,h=>by cases h
 |a::l,hp,h=>by
  obtain⟨h1,h2⟩:=List.pairwise_cons.1 hp
  simp only[List.map_cons,upto]
  by_cases e:a=i
  ·subst e
   rw[if_pos rfl,List.filter_cons,if_pos (by simp)]
   have:l.filter (fun x=>decide (x≤a))=[]:=List.filter_eq_nil_iff.2 fun x hx=>by have:=h1 x hx;simp;omega
   rw[this];rfl
  ·rcases List.mem_cons.1 h with rfl|h
   ·exact absurd rfl e
   ·have:=h1 i h
    rw[if_neg (by omega),List.filter_cons,if_pos (by simp;omega),yG h2 h];rfl
theorem LJ {α:Type} (l:List α) (z:α):l=(List.range l.length).map fun i=>l.getD i z:=by
 apply List.ext_getElem?
 intro i
 rw[List.getElem?_map]
 rcases Nat.lt_or_ge i l.length with h|h
 ·rw[List.getElem?_range h,List.getElem?_eq_getElem h];simp[List.getD,h]
 ·rw[List.getElem?_eq_none h,List.getElem?_eq_none (by simpa using h)];rfl
theorem XW {d:bK} (hg:Good d.revs) {L:jv} {me:List (Int×List Int)} (hI:mX d d.revs.length L me) (hR:Rj d (SA d) L) {i j:Nat} {u w:Rev} (hu:d.revs[i]? =some u) (hw:d.revs[j]? =some w) (u5:¬u.act=5) (w5:¬w.act=5):
 iU L (j:Int) (i:Int)=true↔Open d (fileOf w) u:=by
 have hi:=(List.getElem?_eq_some_iff.1 hu).1
 have hj:=(List.getElem?_eq_some_iff.1 hw).1
 have ei:=(hI.ix (fileOf u) (i:Int)).2 ⟨i,u,rfl,hi,hu,rfl⟩
 have ej:=(hI.ix (fileOf w) (j:Int)).2 ⟨j,w,rfl,hj,hw,rfl⟩
 simp only[iU,Int.toNat_natCast,Open,Bool.not_eq_true',Et]
 have:(((L.con.getD i none).getD []).all fun k=>decide (k∈(L.cre.getD j none).getD []))=true↔∀g,(SA d (fileOf u)).con g→(SA d (fileOf w)).cre g:=by
  rw[List.all_eq_true]
  constructor
  ·intro h g hc
   obtain⟨i',x,h1,h2,h3⟩:=(hR.con _ _).1 hc
   rw[ei] at h1;cases h1
   rw[Int.toNat_natCast] at h2
   have:=of_decide_eq_true (h x h2)
   exact(hR.cre _ _).2 ⟨j,x,ej,by rw[Int.toNat_natCast];exact this,h3⟩
  ·intro h x hx
   have bx:=hI.bd i x (.inr (.inl hx))
   have hxl:x.toNat<d.revs.length:=by omega
   have hf:tJ d x (fileOf (d.revs[x.toNat])):=⟨_,List.getElem?_eq_getElem hxl,rfl⟩
   have:=h _ ((hR.con _ _).2 ⟨i,x,ei,by rw[Int.toNat_natCast];exact hx,hf⟩)
   obtain⟨j',y,h1,h2,h3⟩:=(hR.cre _ _).1 this
   rw[ej] at h1;cases h1
   rw[Int.toNat_natCast] at h2
   have by':=hI.bd j y (.inr (.inr h2))
   have e:=JS hg bx.1 by'.1 hf h3
   subst e;exact decide_eq_true h2
 rw[←this]
 simp
def Nu (L:jv) (me:List (Int×List Int)) (s t:Int):List bP:=(((upto ((aB me (L.fst.getD s.toNat 0)).getD []) s).filter (iU L t)).map fun x=>fileOf (L.revs.getD x.toNat ai))
theorem ZJ {d:bK} (hg:Good d.revs) (hN:d.revs.length≤512) {L:jv} {me:List (Int×List Int)} (hr:kY d d.revs.length L me) {i j:Nat} {v w:Rev} (hv:d.revs[i]? =some v) (hw:d.revs[j]? =some w) (v5:¬v.act=5) (w5:¬w.act=5):
 Nu L me i j=Jl d v (fileOf w):=by
 have hI:=hr.inv hg
 have hR:=Sj hg hN hr
 have hi:=(List.getElem?_eq_some_iff.1 hv).1
 rw[Nu,Int.toNat_natCast,hI.mem _ (hI.fm i v hi hv v5).1,yG (List.Pairwise.filter _ List.pairwise_lt_range) (by simp[hi]),hI.revs]
 rw[Jl]
 conv=>rhs;rw[LJ d.revs ai]
 rw[List.filter_map,List.filter_map,List.map_map,List.map_map,List.filter_filter,List.filter_filter]
 have:∀(p q:Nat→Bool),(∀x∈List.range d.revs.length,p x=q x)→∀(f g:Nat→bP),(∀x,f x=g x)→((List.range d.revs.length).filter p).map f=((List.range d.revs.length).filter q).map g:=by
  intro p q h f g hfg
  rw[List.filter_congr h,show f=g from funext hfg]
 apply this
 ·intro x hx
  have hx:x<d.revs.length:=by simpa using hx
  have hu:d.revs[x]? =some d.revs[x]:=List.getElem?_eq_getElem hx
  have hgx:d.revs.getD x ai=d.revs[x]:=by simp[List.getD,hx]
  generalize d.revs[x]=u at*
  rw[Bool.eq_iff_iff]
  simp only[Function.comp,Bool.and_eq_true,decide_eq_true_eq,hgx]
  by_cases u5:u.act=5
  ·constructor
   ·rintro⟨_,h⟩
    rw[(hI.f5 x u hx hu u5).1] at h
    have:=(hI.fm i v hi hv v5).1
    omega
   ·rintro⟨h,_⟩;exact absurd u5 h
  ·rw[XW hg hI hR hu hw u5 w5]
   constructor
   ·rintro⟨⟨h1,h2⟩,hf⟩
    exact⟨u5,(ww hg hN hI hu hv u5 v5).1 hf,(XY hg hN hI hu hv u5 v5 hf).2 h2,h1⟩
   ·rintro⟨_,h2,h3,h4⟩
    have hf:=(ww hg hN hI hu hv u5 v5).2 h2
    exact⟨⟨h4,(XY hg hN hI hu hv u5 v5 hf).1 h3⟩,hf⟩
 ·intro x;simp[Function.comp]
def NP (A B:SS):Prop:=(∀g,A.car g↔B.car g)∧(∀g,A.con g↔B.con g)∧(∀g,A.cre g↔B.cre g)
theorem NP.refl (A:SS):NP A A:=⟨fun _=>Iff.rfl,fun _=>Iff.rfl,fun _=>Iff.rfl⟩
theorem NP.trans {A B C:SS} (h:NP A B) (k:NP B C):NP A C:=⟨fun g=>(h.1 g).trans (k.1 g),fun g=>(h.2.1 g).trans (k.2.1 g),fun g=>(h.2.2 g).trans (k.2.2 g)⟩
theorem NP.symm {A B:SS} (h:NP A B):NP B A:=⟨fun g=>(h.1 g).symm,fun g=>(h.2.1 g).symm,fun g=>(h.2.2 g).symm⟩
theorem ab7 {d:bK}:∀{k:Nat},k≤d.revs.length→∃L me,kY d k L me
 |0,_=>⟨_,_, .zero⟩
 |k+1,h=>by
  obtain⟨L,me,hr⟩:=ab7 (d:=d) (k:=k) (by omega)
  have hv:=List.getElem?_eq_getElem (show k<d.revs.length by omega)
  by_cases h5:(d.revs[k]).act=5
  ·exact⟨_,_, .away hr hv h5⟩
  ·refine⟨_,_, .RI hr hv h5 (c:=(uJ (aY L k d.revs[k]) k (jE d (fileOf d.revs[k]))).flatMap fun o=>o.getD [])
    (m:=((uJ (aY L k d.revs[k]) k (jE d (fileOf d.revs[k]))).flatMap fun o=>o.getD []).filter fun x=>!decide (x∈(Dj (aY L k d.revs[k]) k).getD []))
    (cr:=((rQ (aY L k d.revs[k]) k (jE d (fileOf d.revs[k]))).ign++[some ((uJ (aY L k d.revs[k]) k (jE d (fileOf d.revs[k]))).flatMap fun o=>o.getD [])]).flatMap fun o=>o.getD [])
    ⟨fun x=>by simp only[List.mem_flatMap],fun x=>by simp,fun x=>by simp only[List.mem_flatMap]⟩⟩
theorem DN {d:bK} (hg:Good d.revs) (hN:d.revs.length≤512) {i j:Nat} {u v:Rev} (hij:i<j) (hu:d.revs[i]? =some u) (hv:d.revs[j]? =some v) (u5:¬u.act=5) (v5:¬v.act=5) (hf:first d u=first d v):
 ∃(k:Nat) (w:Rev),i≤k∧k<j∧d.revs[k]? =some w∧¬w.act=5∧fileOf w=bW v∧first d w=first d v:=by
 obtain⟨L,me,hr⟩:=ab7 (d:=d) (Nat.le_refl _)
 have hI:=hr.inv hg
 have hL:=(ww hg hN hI hu hv u5 v5).2 hf
 have hj:=(List.getElem?_eq_some_iff.1 hv).1
 have hi:=(List.getElem?_eq_some_iff.1 hu).1
 rcases hI.pm j v hj hv v5 with⟨k,w,a1,a2,a3,a4,a5,a6,a7,a8⟩|⟨h1,h2,h3⟩
 ·refine⟨k,w,?_,a2,a3,a4,a5,(ww hg hN hI a3 hv a4 v5).1 a8.symm⟩
  rcases Nat.lt_or_ge k i with hlt|hge
  ·exfalso
   obtain⟨_,s,x,g2,g3,g4,g5,g6⟩:=Cb hg hN hI (i+1) k i w u (by omega) hlt a3 hu a4 u5 (by rw[←a8,hL])
   have:=Vm hg g3 hv g4 v5 g5 a6 (g6.trans a5)
   omega
  ·exact hge
 ·have:=hI.fm i u hi hu u5
  omega
theorem YV {α:Type} (l:List α) (i j:Nat) (z:α) (hi:i<l.length) (hj:j<l.length):((l.set i (l.getD j z)).set j (l.getD i z)).Perm l:=by
 have:=List.set_set_perm hi hj
 simpa[List.getD,hi,hj] using this
theorem GX:∀(k:Nat) (l:List jk),k<l.length→(yx k l).Perm l
 |0,l,_=>List.Perm.refl _
 |k+1,l,h=>by
  rw[yx]
  split
  ·exact(GX k _ (by simp;omega)).trans (YV l (k+1) k mr h (by omega))
  ·exact List.Perm.refl _
theorem Ii (l:List jk):∀k,k≤l.length→(EO l k).Perm l
 |0,_=>List.Perm.refl _
 |k+1,h=>(GX k _ (by rw[zX];omega)).trans (Ii l k (by omega))
theorem DU (l:List jk) (r:jk):r∈Lt l↔r∈l:=(Ii l l.length (Nat.le_refl _)).mem_iff
section
variable {d:bK} {c:o6} (hg:Good d.revs) (hN:d.revs.length≤512) (hk:Am d c)
include hg hN hk
theorem FZ {i:Nat} (hi:i<d.revs.length):(lX d c).revs[i]? =d.revs[i]?:=by
 simp only[lX];rw[List.getElem?_append_left hi]
theorem U5 {a:Nat} (ha:a<c.edits.length):(lX d c).revs[d.revs.length+a]? =some (made c (c.edits.getD a fF)):=by
 simp only[lX]
 rw[List.getElem?_append_right (by omega),Nat.add_sub_cancel_left,List.getElem?_map,List.getElem?_eq_getElem ha]
 simp[List.getD,ha]
theorem YX {i a:Nat} {v:Rev} (hv:d.revs[i]? =some v) (ha:a<c.edits.length):fileOf v≠fileOf (made c (c.edits.getD a fF)):=by
 intro e
 have hi:=(List.getElem?_eq_some_iff.1 hv).1
 have:=cZ (Pq hg hN hk) (by rw[FZ hg hN hk hi];exact hv) (U5 hg hN hk ha) e
 omega
theorem Y7 {i:Nat} {v:Rev} (hv:d.revs[i]? =some v) (r:jk):r∈jE (lX d c) (fileOf v)↔r∈jE d (fileOf v):=by
 simp only[jE,List.mem_filter,lX,DU,List.mem_append,decide_eq_true_eq]
 constructor
 ·rintro⟨h|h,e⟩
  ·exact⟨h,e⟩
  ·exfalso
   obtain⟨j,hj,er⟩:=List.mem_iff_getElem.1 h
   have h0:=hk.recd j hj
   rw[show c.recs.getD j mr=r by simp[List.getD,hj,er]] at h0
   obtain⟨x,hx,⟨t1,t2,t3⟩,_⟩:=h0.okTgt
   obtain⟨a,ha,ea⟩:=List.mem_iff_getElem.1 hx
   have hx':c.edits.getD a fF=x:=by simp[List.getD,ha,ea]
   refine YX hg hN hk hv ha ?_
   rw[hx',←e]
   simp only[fileOf,made,t1,t2]
 ·rintro⟨h,e⟩;exact⟨.inl h,e⟩
end
def Qb (b r:Rev):Bool:=!(decide (r.act=5)||decide (r.act=1))&&(if r.act=4 then decide (r.frm=b.path)&&decide (r.fnum=b.num) else decide (r.path=b.path)&&decide (wr (r.num-1)=b.num))
def vY (acc:List Rev) (r:Rev):List Rev:=if Qb ((acc.getLast?).getD ai) r then acc++[r] else acc
def Jh (d:bK) (f:bP):List Rev:=match oQ d f.path f.num with|some v=>if v.act=1 then d.revs.foldl vY [v] else []|none=>[]
section
variable {d:bK} (hg:Good d.revs) (hN:d.revs.length≤512)
include hg hN
theorem D6 {k:Nat} {r b:Rev} (hr:d.revs[k]? =some r):Qb b r=true↔¬r.act=5∧¬r.act=1∧bW r=fileOf b:=by
 have hn:=hg.num k r hr
 have hk:=(List.getElem?_eq_some_iff.1 hr).1
 have hw:wr (r.num-1)=r.num-1:=Ug (by omega) (by omega)
 unfold Qb bW fileOf
 rw[hw]
 by_cases h5:r.act=5
 ·simp[h5]
 by_cases h1:r.act=1
 ·simp[h1]
 by_cases h4:r.act=4
 ·simp[h4]
 ·simp[h5,h1,h4]
theorem wL {k j:Nat} {r b:Rev} (hr:d.revs[k]? =some r) (hb:d.revs[j]? =some b) (r5:¬r.act=5) (r1:¬r.act=1) (h:bW r=fileOf b):first d r=first d b∧j<k:=by
 have hp:jQ d r=some b:=by
  rw[zy hg hN hr r1]
  exact(iY hg).2 ⟨j,hb,by rw[h]⟩
 have hc:b.chg<r.chg∧j<k:=by
  by_cases h4:r.act=4
  ·obtain⟨i,u,h1,h2,h3,h5,_,_,h6⟩:=hg.mov k r hr h4
   have e:fileOf u=fileOf b:=by rw[←h];simp[bW,h4,fileOf,h3,h5]
   have:=cZ hg h2 hb e
   subst this;rw[h2] at hb;cases hb;exact⟨h6,h1⟩
  ·obtain⟨i,u,h1,h2,h3,h5,_,_,h6⟩:=hg.prv k r hr r1 h4
   have e:fileOf u=fileOf b:=by rw[←h];simp[bW,h4,r1,fileOf,h3,h5]
   have:=cZ hg h2 hb e
   subst this;rw[h2] at hb;cases hb;exact⟨h6,h1⟩
 exact⟨A8 hp hc.1,hc.2⟩
theorem Q8 {k:Nat} {r:Rev} (hr:d.revs[k]? =some r) (r1:¬r.act=1):∃(j:Nat) (u:Rev),j<k∧d.revs[j]? =some u∧bW r=fileOf u∧¬u.act=5:=by
 by_cases h4:r.act=4
 ·obtain⟨i,u,h1,h2,h3,h5,_,h7,h6⟩:=hg.mov k r hr h4
  exact⟨i,u,h1,h2,by simp[bW,h4,fileOf,h3,h5],h7⟩
 ·obtain⟨i,u,h1,h2,h3,h5,_,h7,h6⟩:=hg.prv k r hr r1 h4
  exact⟨i,u,h1,h2,by simp[bW,h4,r1,fileOf,h3,h5],h7⟩
def oW (d:bK) (f:bP) (u:Rev):Bool:=decide (¬u.act=5∧¬u.act=1∧first d u=f)
theorem F6 {f:bP} {iv:Nat} {v:Rev} (hv:d.revs[iv]? =some v) (hf:fileOf v=f) (v1:v.act=1):∀k,k≤d.revs.length→(d.revs.take k).foldl vY [v]=v::(d.revs.take k).filter (oW d f)
 |0,_=>by simp
 |k+1,hk=>by
  have ih:=F6 hv hf v1 k (by omega)
  obtain⟨r,hr⟩:∃r,d.revs[k]? =some r:=⟨_,List.getElem?_eq_getElem (by omega)⟩
  have ht:d.revs.take (k+1)=d.revs.take k++[r]:=by rw[List.take_add_one,hr];rfl
  have hfv:first d v=f:=by rw[ji (kH v1)];exact hf
  rw[ht,List.foldl_append,ih,List.filter_append,List.foldl_cons,List.foldl_nil]
  have key:Qb (((v::(d.revs.take k).filter (oW d f)).getLast?).getD ai) r=oW d f r:=by
   obtain⟨b,jb,hb,hlast,hbv,hmax⟩:∃(b:Rev) (jb:Nat),d.revs[jb]? =some b∧(v::(d.revs.take k).filter (oW d f)).getLast? =some b∧(¬b.act=5∧first d b=f)∧
    ((b=v∧∀(i:Nat) (u:Rev),i<k→d.revs[i]? =some u→oW d f u=false)∨(oW d f b=true∧∀(i:Nat) (u:Rev),i<k→d.revs[i]? =some u→oW d f u=true→i≤jb)):=by
    rw[List.getLast?_cons]
    obtain⟨h1,h2⟩:=Oy (oW d f) (d.revs.take k)
    cases hl:((d.revs.take k).filter (oW d f)).getLast? with
    |none=>
     refine⟨v,iv,hv,rfl,⟨by omega,hfv⟩, .inl ⟨rfl,fun i u hi hu=>h2 hl u ?_⟩⟩
     exact List.mem_of_getElem? (i:=i) (by rw[List.getElem?_take,if_pos hi];exact hu)
    |some b=>
     obtain⟨j,g1,g2,g3⟩:=h1 b hl
     have hjk:j<k:=by have:=(List.getElem?_eq_some_iff.1 g1).1;simp at this;omega
     rw[List.getElem?_take,if_pos hjk] at g1
     have g2':=g2
     simp only[oW,decide_eq_true_eq] at g2'
     refine⟨b,j,g1,rfl,⟨g2'.1,g2'.2.2⟩, .inr ⟨g2,fun i u hi hu hp=>g3 i u ?_ hp⟩⟩
     rw[List.getElem?_take,if_pos hi];exact hu
   rw[hlast,Option.getD_some,Bool.eq_iff_iff,D6 hg hN hr]
   simp only[oW,decide_eq_true_eq]
   constructor
   ·rintro⟨r5,r1,e⟩
    exact⟨r5,r1,(wL hg hN hr hb r5 r1 e).1.trans hbv.2⟩
   ·rintro⟨r5,r1,e⟩
    refine⟨r5,r1,?_⟩
    obtain⟨j,u,hj,hu,eu,u5⟩:=Q8 hg hN hr r1
    have hfu:first d u=f:=by rw[←(wL hg hN hr hu r5 r1 eu).1];exact e
    rw[eu]
    by_cases u1:u.act=1
    ·have huv:u=v:=by
      have e1:fileOf u=fileOf v:=by rw[ji (kH u1)] at hfu;rw[hfu,hf]
      have:=cZ hg hu hv e1
      subst this;rw[hu] at hv;exact Option.some.inj hv
     rcases hmax with⟨hbv2,_⟩|⟨hbl,hm⟩
     ·rw[huv,hbv2]
     ·exfalso
      simp only[oW,decide_eq_true_eq] at hbl
      have hjb:jb<k:=by
       rcases Nat.lt_or_ge jb k with h|h
       ·exact h
       ·exfalso
        have hmem:b∈(v::(d.revs.take k).filter (oW d f)):=List.mem_of_getLast? hlast
        rcases List.mem_cons.1 hmem with rfl|hmem
        ·exact hbl.2.1 v1
        ·obtain⟨i,hi⟩:=List.getElem?_of_mem (List.mem_filter.1 hmem).1
         have hik:i<k:=by have:=(List.getElem?_eq_some_iff.1 hi).1;simp at this;omega
         rw[List.getElem?_take,if_pos hik] at hi
         have:=cZ hg hi hb rfl
         omega
      obtain⟨k',w,w1,w2,w3,w4,w5,w6⟩:=DN hg hN hjb hb hr hbl.1 r5 (hbl.2.2.trans e.symm)
      have e2:fileOf w=fileOf u:=by rw[w5,eu]
      have hkj:=cZ hg w3 hu e2
      subst hkj
      rcases Nat.lt_or_ge jb k' with hlt|hge
      ·obtain⟨k2,w',_,_,_,_,q5,_⟩:=DN hg hN hlt hb hu hbl.1 u5 (hbl.2.2.trans hfu.symm)
       have:(bW u)=Em:=by simp[bW,u1]
       rename_i hw' _ _
       rw[this] at q5
       have:=hg.num k2 w' (by assumption)
       have h0:w'.num=0:=congrArg bP.num q5
       omega
      ·have:jb=k':=by omega
       subst this
       rw[hb] at hu;cases hu;exact hbl.2.1 u1
    ·have hul:oW d f u=true:=by simp only[oW,decide_eq_true_eq];exact⟨u5,u1,hfu⟩
     rcases hmax with⟨_,hm⟩|⟨hbl,hm⟩
     ·rw[hm j u hj hu] at hul;cases hul
     ·have h1:=hm j u hj hu hul
      have hbl':=hbl
      simp only[oW,decide_eq_true_eq] at hbl
      have hjb:jb<k:=by
       rcases Nat.lt_or_ge jb k with h|h
       ·exact h
       ·exfalso
        have hmem:b∈(v::(d.revs.take k).filter (oW d f)):=List.mem_of_getLast? hlast
        rcases List.mem_cons.1 hmem with rfl|hmem
        ·exact hbl.2.1 v1
        ·obtain⟨i,hi⟩:=List.getElem?_of_mem (List.mem_filter.1 hmem).1
         have hik:i<k:=by have:=(List.getElem?_eq_some_iff.1 hi).1;simp at this;omega
         rw[List.getElem?_take,if_pos hik] at hi
         have:=cZ hg hi hb rfl
         omega
      obtain⟨k',w,w1,w2,w3,w4,w5,w6⟩:=DN hg hN hjb hb hr hbl.1 r5 (hbl.2.2.trans e.symm)
      have e2:fileOf w=fileOf u:=by rw[w5,eu]
      have hkj:=cZ hg w3 hu e2
      subst hkj
      have:jb=k':=by omega
      subst this
      rw[hb] at hu;cases hu;rfl
  rw[vY,key]
  cases h:oW d f r with
  |true=>simp[h]
  |false=>simp[h]
theorem UV {f:bP} {u:Rev}:u∈Jh d f↔u∈d.revs∧¬u.act=5∧first d u=f:=by
 unfold Jh
 have hfirst:∀(n k:Nat) (u:Rev),k<n→d.revs[k]? =some u→¬u.act=5→∃(j:Nat) (v:Rev),d.revs[j]? =some v∧v.act=1∧fileOf v=first d u:=by
  intro n
  induction n with
  |zero=>intro k u hk;omega
  |succ n ih=>
   intro k u hk hu u5
   by_cases u1:u.act=1
   ·exact⟨k,u,hu,u1,(ji (kH u1)).symm⟩
   ·obtain⟨j,w,hj,hw,ew,w5⟩:=Q8 hg hN hu u1
    obtain⟨i,v,h1,h2,h3⟩:=ih j w (by omega) hw w5
    exact⟨i,v,h1,h2,by rw[h3,(wL hg hN hu hw u5 u1 ew).1]⟩
 constructor
 ·intro h
  cases hgt:oQ d f.path f.num with
  |none=>rw[hgt] at h;simp at h
  |some v=>
   rw[hgt] at h
   simp only at h
   split at h
   ·rename_i v1
    obtain⟨iv,hv,ev⟩:=(iY hg).1 hgt
    have ht:=F6 hg hN hv ev v1 d.revs.length (Nat.le_refl _)
    rw[List.take_length] at ht
    rw[ht] at h
    rcases List.mem_cons.1 h with rfl|h
    ·exact⟨List.mem_of_getElem? hv,by omega,by rw[ji (kH v1)];exact ev⟩
    ·obtain⟨h1,h2⟩:=List.mem_filter.1 h
     simp only[oW,decide_eq_true_eq] at h2
     exact⟨h1,h2.1,h2.2.2⟩
   ·simp at h
 ·rintro⟨h1,u5,hf⟩
  obtain⟨k,hk⟩:=List.getElem?_of_mem h1
  obtain⟨iv,v,hv,v1,ev⟩:=hfirst (k+1) k u (by omega) hk u5
  rw[hf] at ev
  rw[(iY hg).2 ⟨iv,hv,ev⟩]
  simp only[v1,if_true]
  have ht:=F6 hg hN hv ev v1 d.revs.length (Nat.le_refl _)
  rw[List.take_length] at ht
  rw[ht]
  by_cases u1:u.act=1
  ·have e1:fileOf u=fileOf v:=by rw[ji (kH u1)] at hf;rw[hf,ev]
   have:=cZ hg hk hv e1
   subst this;rw[hk] at hv;cases hv;simp
  ·exact List.mem_cons_of_mem _ (List.mem_filter.2 ⟨h1,by simp only[oW,decide_eq_true_eq];exact⟨u5,u1,hf⟩⟩)
end
end Go.Proofs.YtcpgicfphakdaaaGreatDoor
namespace Go.Proofs.YtcpgicfphakdaaaGreatDoor
open Go.Ab Tys
variable [Dr]
def z94.kk:=p8 kB kG Tryz.ntmps94 iI jA uK ny Tryz.results94
open z94 in
theorem NR (v:Rev):AC Tryz.prog 94 [MS v] [] (fun r st=>r=B (gone v)∧st=[]):=by
 refine bV Tryz.func94 Tryz.ntmps94 fun x hx=>?_
 try refine nv ?_
 refine rA [] ?_
 refine⟨?_,rfl⟩
 simp[gone,cond_eq_ite]
def z37.kk:=LK kB kS Tryz.ntmps37 lL iI nZ oI jD jf uK sK ny jy Tryz.results37
open z37 in
theorem wQ (v:Rev):AC Tryz.prog 37 [MS v] [] (fun r st=>r=uI (fileOf v)∧st=[]):=by
 refine bV Tryz.func37 Tryz.ntmps37 fun x hx=>?_
 try refine nv ?_
 refine rA [] ?_
 refine⟨?_,rfl⟩
 simp[fileOf]
def z43.kk:=LK kB kS Tryz.ntmps43 lL iI nZ oI jD jf uK sK ny jy Tryz.results43
open z43 in
theorem uT (v:Rev):AC Tryz.prog 43 [MS v] [] (fun r st=>r=uI (fileOf v)∧st=[]):=by
 refine bV Tryz.func43 Tryz.ntmps43 fun x hx=>?_
 try refine nv ?_
 refine rA [] ?_
 refine⟨?_,rfl⟩
 simp[fileOf]
def z58.kk:=p2 (p16 kB kS Tryz.ntmps58 Qz Za iI EC IL jD jf BD jA Gp Ve NF MO) (p16 Vd Cf F7 Mc NU LU F9 Uk uK YD acG ny P7 SQ jy Tryz.results58)
open z58 in
theorem FP (c:o6) (e:Oo):AC Tryz.prog 58 [VR c,adp e] [] (fun r st=>r=MS (made c e)∧st=[]):=by
 refine bV Tryz.func58 Tryz.ntmps58 fun x hx=>?_
 (repeat (first|(with_reducible first|refine na ?_|refine nb ?_|refine nc ?_|refine nd ?_|refine ne ?_|refine nf ?_|refine ng ?_|refine nh ?_|refine ni ?_|refine nj ?_|refine nk ?_|refine nl ?_|refine nm (by decide) ?_|refine nn ?_)|refine dR (wr:=true) 400 (by simp only[kk,Nat.reduceAdd,Nat.reduceLT,Nat.reduceEqDiff, ↓reduceIte,reduceCtorEq];first|done|rfl) (by first|exact trivial|(simp only[kO];omega)|(simp[All,dI];first|done|omega)|(simp+contextual [All,dI];first|done|grind)) ?_))
 refine rA [] ?_
 refine⟨?_,rfl⟩
 simp[made,wr]
def z88.kk:=LK kB kS Tryz.ntmps88 Tryz.underlying27 kZ iI mf sU jD uO rJ ny jy Tryz.results88
open z88 in
theorem Tv (d:bK) (p:ByteArray) (hd:d.revs.length≤1000000):AC Tryz.prog 88 [sH d,Str p] [] (fun r st=>r=ja (log d p)∧st=[]):=by
 refine bV Tryz.func88 Tryz.ntmps88 fun x hx=>?_
 try refine nv ?_
 refine mg (eG (i:=5) (id:=100) (sz:=12) rfl rfl (by omega)) ?_
 refine dM ?_
 refine ag (ι:=Nat) (I:=fun k=>⟨25,[(1,Str p),(5, .c (.ms 100 12 0 ((d.revs.take k).filter fun v=>decide (v.path=p)).length)),(9,ja d.revs),(10,I .i64 d.revs.length),(11,I .i64 k)],
  [(100,aQ 12 (((d.revs.take k).filter fun v=>decide (v.path=p)).map ax))]⟩)
  (Inv:=fun k=>k≤d.revs.length) (μ:=fun k=>d.revs.length-k) 0 (by omega) ?_ ?_
 ·exact aW
 ·intro k hk
  have hF:=lg (fun v=>decide (v.path=p)) d.revs k
  try refine nv ?_
  refine af ?_ ?_
  ·intro hlt
   have hlt':k<d.revs.length:=by simpa using hlt
   obtain⟨v,hv,he,htk⟩:=round ax d.revs k ai hlt'
   refine aJ ?_
   refine gx @he ?_
   try refine nv ?_
   refine af ?_ ?_
   ·intro heq
    have heq':v.path=p:=by simpa using heq
    try refine nv ?_
    refine⟨k+1,by omega,by omega,?_⟩
    (refine fZ (fun i=>if i=100 then 22 else i) rfl ?_ ⟨?_,?_,?_,keepR hx (by simp[ae,Ab.get])⟩<;>first|(intro i hi;have h0:=hx i hi;constructor<;>(revert h0;simp only[ae,Ab.get];(repeat' split)<;>simp_all);done)|(simp only[kE,aQ, ↓reduceIte,Nat.reduceEqDiff,reduceCtorEq];done)|(simp only[aQ,oN,oh,List.mem_cons,List.not_mem_nil,or_false,forall_eq_or_imp,forall_eq];simp[gJ,gX,eX,iM,aA,Ab.get,aZ,dH,aN,bY,bG,bH,bD,bI,bC,ae,List.flatten,htk,heq',List.filter_append];done)|simp[gJ,gX,eX,iM,aA,Ab.get,aZ,dH,aN,bY,bG,bH,bD,bI,bC,ae,List.flatten,htk,heq',List.filter_append])
   ·intro hne
    have hne':¬v.path=p:=by simpa using hne
    try refine nv ?_
    refine⟨k+1,by omega,by omega,?_⟩
    (refine fZ (fun i=>i) rfl ?_ ⟨?_,?_,?_,gu hx (by simp[ae,Ab.get])⟩<;>first|(simp only[kE,aQ, ↓reduceIte,Nat.reduceEqDiff,reduceCtorEq,htk,hne',List.filter_append];done)|simp[di,bf,aA,Ab.get,aZ,dH,aN,bY,bG,bH,bD,bI,bC,ae,List.flatten,htk,hne',List.filter_append])
  ·intro hge
   have hge':k=d.revs.length:=by have:¬k<d.revs.length:=by simpa using hge
                                 omega
   refine aJ ?_
   refine aG (aI (i:=5) (id:=100) (ys:=((d.revs.take k).filter fun v=>decide (v.path=p)).map ax) rfl rfl (by simp)) ?_
   refine dM ?_
   try refine nv ?_
   refine rA [] ?_
   refine⟨?_,rfl⟩
   simp[log,hge']
end Go.Proofs.YtcpgicfphakdaaaGreatDoor
namespace Go.Ab
variable [Dr] {P:Program} {x:X} {bl:Nat→List Nat} {cap:Nat→Nat} {st:List (Nat×AO)} {w:World}
theorem OZ (hs:bM x bl cap st w) {id sz off len:Nat} {ys:List (List D)} (hid:get st id=some (.arr sz (ys.map fun l=>l.map C.d))) {v:Value} (hlen:off+len≤ys.length)
 (hr:aH (mkK x bl cap st w) (.mv id sz off len) v):bQ (mkK x bl cap (put st id .dead) w).M w (.ps sz ((ys.drop off).take len)) v:=by
 have hle:=jc (x:=x) (bl:=bl) (cap:=cap) (w:=w) hid
 obtain⟨h0,h1,hsz,h2⟩:=hs.objs id _ hid
 obtain⟨hd,hcap,cp,hcp,hh⟩:=hr
 simp only[mkK,List.length_map] at h0 hcap
 have hzl:((ys.drop off).take len).length=len:=by rw[List.length_take,List.length_drop];omega
 rcases hh with⟨hz,a,rfl⟩|⟨hz,b,hb,rfl⟩
 ·rw[List.eq_nil_of_length_eq_zero (l:=(ys.drop off).take len) (by omega)];exact .nil _ _ _
 ·simp only[mkK] at hb
  rcases h2 with⟨_,h2⟩|⟨b',T,vs,h2,h3,h4,h5⟩
  ·simp only[mkK] at h2;rw[h2] at hb;cases hb
  simp only[mkK] at h2 h3 h4
  rw[hb] at h2;simp at h2;subst h2
  have hl:∀l∈ys,l.length=sz:=fun l hl=>by have:=h1 (l.map C.d) (List.mem_map_of_mem (f:=fun l=>l.map C.d) hl);simpa using this
  have hlc:∀l∈(ys.map fun l=>l.map C.d),l.length=sz:=h1
  have hmul:ys.length*sz≤cap id*sz:=Nat.mul_le_mul_right _ h0
  rw[List.length_map] at h5
  have hm:∀{i j:Nat},i<len→j<sz→off*sz+i*sz+j=(off+i)*sz+j∧(off+i)*sz+sz≤ys.length*sz:=fun {i j} hi hj=>by
   have:=Nat.mul_le_mul_right sz (show off+i+1≤ys.length by omega)
   rw[Nat.succ_mul] at this
   exact⟨by rw[Nat.add_mul],this⟩
  have key:bQ (mkK x bl cap (put st id .dead) w).M w (.ps sz ((ys.drop off).take len)) (.slice (some ⟨b,off*sz,none⟩) ((ys.drop off).take len).length cp):=by
   refine .ps sz _ b (off*sz) cp (fun i j=>(vs[off*sz+i*sz+j]?).getD undef) (nN hs hid rfl (by rw[hb];simp)) (fun l h=>hl l (List.mem_of_mem_drop (List.mem_of_mem_take h))) ?_ ?_ (by omega) (lt_of_heap h3)
   ·intro i j hi hj
    obtain⟨e,hm⟩:=hm (by omega:i<len) hj
    rw[pV h3,e,List.getElem?_eq_getElem (by omega)];rfl
   ·intro i j hi hj
    obtain⟨e,hm⟩:=hm (by omega:i<len) hj
    have hf:=FT hlc (i:=off+i) (r:=j) (by simp;omega) hj
    have hg:(ys.map fun l=>l.map C.d).getD (off+i) []=(((ys.drop off).take len).getD i []).map C.d:=by
     simp only[List.getD,List.getElem?_map,List.getElem?_take,List.getElem?_drop,if_pos (by omega:i<len)]
     rw[List.getElem?_eq_getElem (by omega)];rfl
    have hlen:=hl (((ys.drop off).take len).getD i []) (by rw[List.getD_eq_getElem?_getD,List.getElem?_take,if_pos (by omega),List.getElem?_drop,List.getElem?_eq_getElem (by omega)];simp)
    rw[hg,List.getElem?_map,oC (l:=((ys.drop off).take len).getD i []) (by omega)] at hf
    obtain⟨u,hu,hru⟩:=h5.get hf
    rw[List.getElem?_take,if_pos (by omega),←e] at hu
    show bQ _ _ _ ((vs[off*sz+i*sz+j]?).getD undef)
    rw[hu]
    exact bQ.stable hru hle.heap hle.M
  rwa [hzl] at key
def frV (id sz:Nat) (ys:List (List D)):C→C
 | .mv i s off len=>if i=id∧s=sz∧off+len≤ys.length then .d (.ps sz ((ys.drop off).take len)) else .mv i s off len
 |c=>c
theorem BN {s:S} {bid id sz sz2:Nat} {xs xs':List (List C)} {ys:List (List D)} (hne:bid≠id) (hb:get s.st bid=some (.arr sz xs)) (hid:get s.st id=some (.arr sz2 (ys.map fun l=>l.map C.d)))
 (hx:xs.map (fun l=>l.map (frV id sz2 ys))=xs'):zK x s ⟨s.n,s.env,put (put s.st id .dead) bid (.arr sz xs')⟩:=by
 subst hx
 rintro a w ⟨bl,cap,hs,henv,hd,hsz⟩
 have hle:=jc (x:=x) (bl:=bl) (cap:=cap) (w:=w) hid
 have hk:=hs.kill hid
 have hb':get (put s.st id .dead) bid=some (.arr sz xs):=by rw[bZ (Ne.symm hne)];exact hb
 obtain⟨g1,g2,g3,g4⟩:=hs.objs bid _ hb
 have hon:lF (bl bid) w w:=⟨rfl,fun _ _=>rfl,rfl,rfl,rfl,Nat.le_refl _⟩
 have hle2:=mY (x:=x) (cap:=cap) (o':= .arr sz (xs.map fun l=>l.map (frV id sz2 ys))) hb' rfl hon
 refine⟨bl,cap,hk.upd hb' rfl hon ⟨by simpa[mkK] using g1,?_,g3,?_⟩,(henv.le hle).le hle2,(hd.le hle).le hle2,hsz⟩
 ·intro l hl
  obtain⟨l',h',rfl⟩:=List.mem_map.1 hl
  rw[List.length_map];exact g2 _ h'
 ·rcases g4 with g4|⟨b,T,vs,h1,h2,h3,h4⟩
  ·exact .inl g4
  ·refine .inr ⟨b,T,vs,h1,h2,h3,?_⟩
   rw[show(xs.map fun l=>l.map (frV id sz2 ys)).flatten=xs.flatten.map (frV id sz2 ys) from by rw[List.map_flatten],aU.oz,List.length_map]
   refine h4.mono fun c v hr=>?_
   refine aH.le hle2 ?_
   cases c with
   |mv i s' off len=>
    by_cases h:i=id∧s'=sz2∧off+len≤ys.length
    ·obtain⟨rfl,rfl,h⟩:=h
     rw[frV,if_pos ⟨rfl,rfl,h⟩]
     exact OZ hs hid h hr
    ·rw[frV,if_neg h];exact aH.le hle hr
   |_=>exact aH.le hle hr
end Go.Ab
namespace Go.Ab
open Go.Shelf Go.Proofs Go.RowKit
theorem ZE [Dr] {P:Program} {f:FuncId} (hc:vO P f) {ρ:Ren} (hf:ρ.f 4=f) (L:Lays8.n4 P ρ) (id sz:Nat) (hs0:0<sz):
 AC P f [.c (.d (.v (.slice none 0 0))),I .i64 (0:Nat)] [] (fun r st=>r= .c (.ms id sz 0 0)∧st=[(id, .arr sz [])]):=by
 refine⟨hc,?_⟩
 intro bl cap F w us hs hargs
 cases hargs with
 |cons hv ht=>
 cases ht with
 |cons hv2 ht=>
 cases ht
 have hv2':bQ _ _ _ _:=hv2
 cases hv2'
 have hv':bQ _ _ _ _:=hv
 cases hv'
 subst hf
 refine(Any8.slices_Grow_room L none 0 0 0 w (by omega) (by omega) (by omega) (by omega)).mono fun e w' ⟨he,hw⟩=>?_
 subst hw
 obtain⟨bl',cap',a1,a2,a3⟩:=vw (x:=X.start bl cap F [] w') (id:=id) (sz:=sz) none hs (by simp[Ab.get]) hs0
 exact⟨_,_,bl',cap',_,he,⟨rfl,rfl⟩,by simp,a1,a3⟩
theorem abr [Dr] {P:Program} {f:FuncId} (hc:vO P f) {ρ:Ren} (hf:ρ.f 4=f) (L:Lays8.n4 P ρ) (i0:TypeInfo) (z:Value) (hi0:P.info? (ρ.t 25)=some i0) (hz0:i0.zero=some z) (hs0:0<i0.size) (hzs:z.cells.size=i0.size)
 (id n:Nat) (hn:0<n) (hbig:n*i0.bytes≤140737488355328) (h63:n≤4611686018427387904):
 AC P f [.c (.d (.v (.slice none 0 0))),I .i64 n] [] (fun r st=>r= .c (.ms id i0.size 0 0)∧st=[(id, .arr i0.size [])]):=by
 refine⟨hc,?_⟩
 intro bl cap F w us hs hargs
 cases hargs with
 |cons hv ht=>
 cases ht with
 |cons hv2 ht=>
 cases ht
 have hv2':bQ _ _ _ _:=hv2
 cases hv2'
 have hv':bQ _ _ _ _:=hv
 cases hv'
 subst hf
 refine(Any8.slices_Grow_grow L i0 z hi0 hz0 hs0 none 0 0 n [] w (by omega) (by omega) (by rw[Nat.zero_add];exact hbig) (by omega) (by simp) (fun _=>rfl) (fun a h=>by cases h)).mono fun e w' ⟨he,hw⟩=>?_
 subst hw
 obtain⟨bl',cap',a1,a2,a3⟩:=vC (x:=X.start bl cap F [] w) (id:=id) (sz:=i0.size) (n:=grownCap w (0+n) 0 (ρ.t 25)) (T:=ρ.t 25) (xs:=[]) (st:=[]) hs (by simp[Ab.get])
  (w':={w with heap:=w.heap.push (.cells (([]:List Value).toArray++Builtin.zeroCells z.cells (0+n-0)++Builtin.zeroCells z.cells (grownCap w (0+n) 0 (ρ.t 25)-(0+n))) (ρ.t 25) (0,0)),drawn:=w.drawn+1})
  (J6 _ _ (Nat.le_succ _)) Array.getElem?_push_size (by show _<(w.heap.push _).size;rw[Array.size_push];omega) hs0 (by simp) (by simp)
  (by
    have:=grownCap_ge w (0+n) 0 (ρ.t 25)
    simp only[Array.size_append,List.size_toArray,List.length_nil,size_zeroCells,hzs]
    rw[Nat.zero_add,←Nat.add_mul];congr 1;omega)
  (by simp;exact .nil)
 exact⟨_,_,bl',cap',_,he,⟨rfl,rfl⟩,by simp,a1,a3⟩
theorem XH [Dr] {P:Program} {f:FuncId} (hc:vO P f) {ρ:Ren} (hf:ρ.f 4=f) (L:Lays8.n4 P ρ) (i0:TypeInfo) (z:Value) (hi0:P.info? (ρ.t 25)=some i0) (hz0:i0.zero=some z) (hs0:0<i0.size) (hzs:z.cells.size=i0.size)
 (id n:Nat) (hbig:n*i0.bytes≤140737488355328) (h63:n≤4611686018427387904):
 AC P f [.c (.d (.v (.slice none 0 0))),I .i64 n] [] (fun r st=>r= .c (.ms id i0.size 0 0)∧st=[(id, .arr i0.size [])]):=by
 rcases Nat.eq_zero_or_pos n with rfl|h
 ·exact ZE hc hf L id _ hs0
 ·exact abr hc hf L i0 z hi0 hz0 hs0 hzs id n h hbig h63
end Go.Ab
namespace Go.Ab
open Go.Sort
section
variable {x:X} {bl:Nat→List Nat} {cap:Nat→Nat} {st:List (Nat×AO)} {w:World}
variable [Dr]
theorem K.aal {w':World} (hw:Grew w w'):(mkK x bl cap st w).le (mkK x bl cap st w'):=
 ⟨fun _ h=>h,fun _ _=>rfl,fun _ _=>rfl,fun b _ hb=>hw.heap b hb,fun _ h=> .inl h⟩
theorem bM.grew (h:bM x bl cap st w) {w':World} (hw:Grew w w'):bM x bl cap st w' where
 objs i p hp:=by
  cases hp':p.bU with
  |false=>cases p<;>simp[AO.bU] at hp';trivial
  |true=>exact(h.objs i p hp).le (K.aal hw) (by simp[mkK,hp]) fun b hb=>hw.heap b (h.lt b ⟨i,p,hp,hp',hb⟩)
 disj:=h.disj
 nodup:=h.nodup
 new:=h.new
 lt b hb:=Nat.lt_of_lt_of_le (h.lt b hb) hw.size
 fr:=⟨Nat.le_trans h.fr.size hw.size,fun b hb hm=>by rw[hw.heap b (Nat.lt_of_lt_of_le hb h.fr.size)];exact h.fr.heap b hb hm,by rw[hw.os];exact h.fr.os,by rw[hw.output];exact h.fr.output,by rw[hw.tape];exact h.fr.tape,fun e=>Nat.le_trans (h.fr.drawn e) hw.drawn⟩
 keep:=h.keep
 xok:=h.xok
end
theorem UE {α β:Type} (f:α→β):∀l:List α,(l.map fun z=>[f z]).flatten=l.map f
 |[]=>rfl
 |a::l=>by have:=UE f l;simp_all
theorem Uu {α:Type} [Inhabited α] (l:List α) (j:Nat) (h:j<l.length):(l.toArray)[j]! =l[j]:=by
 rw[getElem!_pos _ j (by simpa using h)];simp
variable [Dr]
theorem ZX {P:Program} {f:FuncId} {α:Type} [Inhabited α] {enc:α→Value} (h1:∀z,(enc z).oneCell'=true) {l l':List α} (hl:l'.length=l.length) (hc:vO P f)
 (hC:∀blk off cap w,Holds enc w blk off l.toArray→blk<w.heap.size→Calls P f #[.slice (some ⟨blk,off,none⟩) l.length cap] w fun e w'=>e= .returned (.tuple #[])∧∃n os,w'=grow (putRow enc (Sort.ahead w n) blk off l'.toArray) os)
 (hnil:l=[]→∀p cap w,Calls P f #[.slice p 0 cap] w fun e w'=>e= .returned (.tuple #[])∧w'=w) (id:Nat):
 AC P f [.c (.ms id 1 0 l.length)] [(id, .arr 1 (l.map fun z=>[C.d (.v (enc z))]))] (fun r st=>r= .tup []∧st=[(id, .arr 1 (l'.map fun z=>[C.d (.v (enc z))]))]):=by
 refine⟨hc,?_⟩
 intro bl cap F w us hs hargs
 have hid:get [(id,AO.arr 1 (l.map fun z=>[C.d (.v (enc z))]))] id=some (.arr 1 (l.map fun z=>[C.d (.v (enc z))])):=by simp[get]
 have hput:put [(id,AO.arr 1 (l.map fun z=>[C.d (.v (enc z))]))] id (AO.arr 1 (l'.map fun z=>[C.d (.v (enc z))]))=[(id,AO.arr 1 (l'.map fun z=>[C.d (.v (enc z))]))]:=by simp[put]
 cases hargs with
 |cons hv ht=>
 cases ht
 obtain⟨_,hle,hv⟩:=hv
 obtain⟨g1,g2,g3,g4⟩:=hs.objs id _ hid
 simp only[mkK,Nat.zero_add,Nat.sub_zero,List.length_map,Nat.zero_mul] at hv g1 hle g4
 rcases hv with⟨c0,a,rfl⟩|⟨c0,b,hb,rfl⟩
 ·have hl0:l=[]:=List.length_eq_zero_iff.1 (by omega)
  have hl1:l'=[]:=List.length_eq_zero_iff.1 (by rw[hl,hl0];rfl)
  subst hl0 hl1
  refine(hnil rfl a 0 w).mono ?_
  rintro e w' ⟨rfl,rfl⟩
  exact⟨.tup [],_,bl,cap,_,rfl,⟨rfl,rfl⟩,by simp,hs,[],rfl, .nil⟩
 ·rcases g4 with⟨c1,_⟩|⟨b',T,vs,hb',hh,hlen,hA⟩
  ·exact absurd c1 c0
  rw[hb] at hb'
  cases hb'
  have hbl:b<w.heap.size:=by
   rcases Nat.lt_or_ge b w.heap.size with h|h
   ·exact h
   ·rw[Array.getElem?_eq_none h] at hh;cases hh
  have hcell:∀j (hj:j<l.length),vs[j]? =some (enc l[j]):=by
   intro j hj
   have e1:(l.map fun z=>[C.d (.v (enc z))]).flatten[j]? =some (C.d (.v (enc l[j]))):=by
    rw[show(l.map fun z=>[C.d (.v (enc z))]).flatten=l.map fun z=>C.d (.v (enc z)) from UE _ _]
    simp[hj]
   obtain⟨u,hu,hr⟩:=hA.get e1
   rw[List.getElem?_take] at hu
   split at hu
   ·rw[hu];congr 1
    have hr':bQ _ _ (.v (enc l[j])) u:=hr
    cases hr';rfl
   ·cases hu
  have hH:Holds enc w b 0 l.toArray:=by
   intro j hj
   simp only[List.size_toArray] at hj
   rw[Uu l j hj]
   constructor
   ·simp only[World.cell?,hh,Nat.zero_add]
    simpa using hcell j hj
   ·simp[World.frozen?,hh]
  refine(hC b 0 (cap id) w hH hbl).mono ?_
  rintro e w' ⟨rfl,n,os,rfl⟩
  have hheap:∀c,c≠b→(putRow enc (Sort.ahead w n) b 0 l'.toArray).heap[c]? =w.heap[c]?:=by
   intro c hcb
   simp only[putRow,mapBlock,Array.getElem?_modify,heap_ahead]
   rw[if_neg (Ne.symm hcb)]
  have hat:(putRow enc (Sort.ahead w n) b 0 l'.toArray).heap[b]? =some (.cells (putCells enc 0 l'.toArray (List.toArray vs)) T (0,0)):=by
   simp only[putRow,mapBlock,Array.getElem?_modify,heap_ahead,if_true,hh,Option.map_some,onCells]
  have hs1:bM (X.start bl cap F [(id, .arr 1 (l.map fun z=>[C.d (.v (enc z))]))] w) bl cap [(id,AO.arr 1 (l'.map fun z=>[C.d (.v (enc z))]))] (putRow enc (Sort.ahead w n) b 0 l'.toArray):=by
   rw[←hput]
   refine hs.upd hid rfl ⟨by simp,fun c hcb=>hheap c (by rw[hb] at hcb;simpa using hcb),rfl,rfl,rfl,Nat.le_add_right _ _⟩ ?_
   refine⟨?_,?_,by omega, .inr ⟨b,T,(putCells enc 0 l'.toArray (List.toArray vs)).toList,?_,?_,?_,?_⟩⟩
   ·simp only[mkK,List.length_map];omega
   ·intro y hy
    obtain⟨z,_,rfl⟩:=List.mem_map.1 hy
    rfl
   ·exact hb
   ·simp only[mkK];rw[hat]
   ·simp only[mkK,putCells,Array.length_toList,Array.size_mapIdx,List.size_toArray];exact hlen
   ·refine aU.LP ?_ ?_
    ·rw[show(l'.map fun z=>[C.d (.v (enc z))]).flatten=l'.map fun z=>C.d (.v (enc z)) from UE _ _]
     simp only[putCells,List.length_map,List.length_take,Array.length_toList,Array.size_mapIdx,List.size_toArray]
     omega
    ·intro i c v hc hv
     rw[show(l'.map fun z=>[C.d (.v (enc z))]).flatten=l'.map fun z=>C.d (.v (enc z)) from UE _ _] at hc
     have hi:i<l'.length:=by
      have:=(List.getElem?_eq_some_iff.1 hc).1;simpa using this
     simp only[List.getElem?_map,List.getElem?_eq_getElem hi,Option.map_some,Option.some.injEq] at hc
     subst hc
     rw[List.getElem?_take] at hv
     split at hv
     ·simp only[putCells,Array.getElem?_toList,Array.getElem?_mapIdx,Nat.zero_le,true_and,Nat.zero_add,Nat.sub_zero,List.size_toArray,hi,if_true] at hv
      obtain⟨q,hq,rfl⟩:=Option.map_eq_some_iff.1 hv
      rw[Uu l' i hi]
      exact .v _ (h1 _)
     ·cases hv
  refine⟨.tup [],_,bl,cap,_,rfl,⟨rfl,rfl⟩,by simp,hs1.grew ⟨by simp,fun c hc=>?_,rfl,rfl,rfl,Nat.le_refl _⟩,[],rfl, .nil⟩
  exact heap_grow_old _ _ hc
end Go.Ab
namespace Go.Proofs.YtcpgicfphakdaaaGreatDoor
open Go.Ab
structure Cmp {α:Type} (c:α→α→Int):Prop where
 refl:∀x,c x x=0
 neg:∀x y,c x y<0→0<c y x
 pos:∀x y,0<c x y→c y x<0
 eql:∀x y z,c x y=0→c x z=c y z
 eqr:∀x y z,c x y=0→c z x=c z y
 trans:∀x y z,c x y<0→c y z<0→c x z<0
theorem Cmp.on {α β:Type} {c:β→β→Int} (h:Cmp c) (f:α→β):Cmp fun x y=>c (f x) (f y):=
 ⟨fun x=>h.refl _,fun x y=>h.neg _ _,fun x y=>h.pos _ _,fun x y z=>h.eql _ _ _,fun x y z=>h.eqr _ _ _,fun x y z=>h.trans _ _ _⟩
theorem Cmp.of {α:Type} {c:α→α→Int} (refl:∀x,c x x=0) (neg:∀x y,c x y<0→0<c y x) (pos:∀x y,0<c x y→c y x<0) (eq:∀x y,c x y=0→x=y) (trans:∀x y z,c x y<0→c y z<0→c x z<0):Cmp c:=
 ⟨refl,neg,pos,fun x y z h=>by rw[eq x y h],fun x y z h=>by rw[eq x y h],trans⟩
theorem NK:∀l m:List UInt8,(Lib.compareBytes l m<0→0<Lib.compareBytes m l)∧(0<Lib.compareBytes l m→Lib.compareBytes m l<0)
 |[],[]=>by simp[Lib.compareBytes]
 |[],_::_=>by simp[Lib.compareBytes]
 |_::_,[]=>by simp[Lib.compareBytes]
 |a::l,b::m=>by
  have ih:=NK l m
  simp only[Lib.compareBytes,UInt8.lt_iff_toNat_lt]
  by_cases h1:a.toNat<b.toNat
  ·rw[if_pos h1,if_neg (by omega),if_pos h1];omega
  ·rw[if_neg h1]
   by_cases h2:b.toNat<a.toNat
   ·rw[if_pos h2,if_pos h2];omega
   ·rw[if_neg h2,if_neg h2,if_neg h1];exact ih
theorem Zg:Cmp cb:=Cmp.of MH (fun x y=>(NK _ _).1) (fun x y=>(NK _ _).2) (fun x y=>JI) (fun x y z=>QZ)
theorem cmpL_eq:∀l m:List ByteArray,cmpL l m=0→l=m
 |[],[],_=>rfl
 |[],_::_,h=>by simp[cmpL] at h
 |_::_,[],h=>by simp[cmpL] at h
 |a::l,b::m,h=>by
  rw[cmpL] at h
  by_cases e:cb a b=0
  ·rw[if_pos e] at h;rw[JI e,cmpL_eq l m h]
  ·rw[if_neg e] at h;exact absurd h e
theorem Hw:∀l m:List ByteArray,(cmpL l m<0→0<cmpL m l)∧(0<cmpL l m→cmpL m l<0)
 |[],[]=>by simp[cmpL]
 |[],_::_=>by simp[cmpL]
 |_::_,[]=>by simp[cmpL]
 |a::l,b::m=>by
  have ih:=Hw l m
  simp only[cmpL]
  by_cases e:cb a b=0
  ·have:=JI e;subst this
   rw[if_pos e,if_pos e];exact ih
  ·have e2:¬cb b a=0:=fun h=>e (by rw[JI h];exact MH _)
   rw[if_neg e,if_neg e2]
   exact⟨Zg.neg a b,Zg.pos a b⟩
theorem Y3:Cmp cmpL:=Cmp.of DR (fun x y=>(Hw x y).1) (fun x y=>(Hw x y).2) cmpL_eq Bo
theorem qJ {A B:List ByteArray} {x z:ByteArray} {i:Nat} (h:i=A.length):(A++x::B).getD i z=x:=by
 subst h
 simp[List.getD_eq_getElem?_getD]
theorem tV {A B:List ByteArray} {x y:ByteArray} {i:Nat} (h:i=A.length):(A++x::B).set i y=A++y::B:=by
 subst h
 rw[List.set_append_right _ _ (Nat.le_refl _),Nat.sub_self,List.set_cons_zero]
def vX (P u w v S:List ByteArray) (k:Nat):List ByteArray:=P++(v.take k++(u.drop k++(w++(u.take k++(v.drop k++S)))))
theorem aab {P u w v S:List ByteArray} {k:Nat} (hk:k≤u.length) (hv:u.length=v.length):(vX P u w v S k).length=P.length+u.length+w.length+v.length+S.length:=by
 simp only[vX,List.length_append,List.length_take,List.length_drop];omega
theorem Xp (P u w v S:List ByteArray):vX P u w v S 0=P++(u++(w++(v++S))):=by simp[vX]
theorem XK {P u w v S:List ByteArray} (hv:u.length=v.length):vX P u w v S u.length=P++(v++(w++(u++S))):=by
 simp only[vX,List.take_length,List.drop_length]
 rw[hv,List.take_length,List.drop_length]
 simp
theorem XL {P u w v S:List ByteArray} {k i j:Nat} (hk:k<u.length) (hv:u.length=v.length) (hi:i=P.length+k) (hj:j=P.length+u.length+w.length+k) (z:ByteArray):
 (vX P u w v S k).getD i z=u.getD k z∧(vX P u w v S k).getD j z=v.getD k z∧((vX P u w v S k).set i (v.getD k z)).set j (u.getD k z)=vX P u w v S (k+1):=by
 have hk2:k<v.length:=by omega
 have eu:u.drop k=u.getD k z::u.drop (k+1):=by rw[List.drop_eq_getElem_cons hk];simp[List.getD_eq_getElem?_getD,List.getElem?_eq_getElem hk]
 have ev:v.drop k=v.getD k z::v.drop (k+1):=by rw[List.drop_eq_getElem_cons hk2];simp[List.getD_eq_getElem?_getD,List.getElem?_eq_getElem hk2]
 have tu:u.take (k+1)=u.take k++[u.getD k z]:=by rw[List.take_add_one,List.getElem?_eq_getElem hk];simp[List.getD_eq_getElem?_getD,List.getElem?_eq_getElem hk]
 have tv:v.take (k+1)=v.take k++[v.getD k z]:=by rw[List.take_add_one,List.getElem?_eq_getElem hk2];simp[List.getD_eq_getElem?_getD,List.getElem?_eq_getElem hk2]
 have lu:(u.take k).length=k:=by simp;omega
 have lv:(v.take k).length=k:=by simp;omega
 have ld:(u.drop (k+1)).length=u.length-(k+1):=by simp
 generalize u.getD k z=x at eu tu
 generalize v.getD k z=y at ev tv
 generalize hU1:u.take k=U1 at lu tu
 generalize hV1:v.take k=V1 at lv tv
 generalize hU2:u.drop (k+1)=U2 at eu ld
 generalize hV2:v.drop (k+1)=V2 at ev
 have e0:vX P u w v S k=(P++V1)++x::(U2++(w++(U1++(y::(V2++S))))):=by simp[vX,hU1,hV1,eu,ev,List.append_assoc]
 have e1:vX P u w v S k=(P++V1++x::U2++w++U1)++y::(V2++S):=by simp[vX,hU1,hV1,eu,ev,List.append_assoc]
 refine⟨?_,?_,?_⟩
 ·rw[e0];exact qJ (by simp[lv,hi])
 ·rw[e1];exact qJ (by simp[lv,lu,ld,hj];omega)
 ·rw[e0,tV (by simp[lv,hi])]
  have e2:(P++V1)++y::(U2++(w++(U1++(y::(V2++S)))))=(P++V1++y::U2++w++U1)++y::(V2++S):=by simp[List.append_assoc]
  rw[e2,tV (by simp[lv,lu,ld,hj];omega)]
  simp[vX,tu,tv,hU2,hV2,List.append_assoc]
section
variable {α:Type} {c:α→α→Int}
def Jj (c:α→α→Int) (x y:α):Prop:=¬c y x<0
theorem Cmp.le_refl (h:Cmp c) (x:α):Jj c x x:=by unfold Jj;rw[h.refl];omega
theorem Cmp.le_of_lt (h:Cmp c) {x y:α} (hl:c x y<0):Jj c x y:=by unfold Jj;have:=h.neg x y hl;omega
theorem Cmp.le_trans (h:Cmp c) {x y z:α} (h1:Jj c x y) (h2:Jj c y z):Jj c x z:=by
 unfold Jj at h1 h2⊢
 intro h3
 by_cases a:c y x=0
 ·rw[h.eqr y x z a] at h2;exact h2 h3
 ·have h4:c x y<0:=by
   by_cases b:c y x<0
   ·exact absurd b h1
   ·exact h.pos y x (by omega)
  exact h2 (h.trans z x y h3 h4)
theorem Cmp.le_total (h:Cmp c) (x y:α):Jj c x y∨Jj c y x:=by
 unfold Jj
 by_cases a:c y x<0
 ·right;have:=h.neg y x a;omega
 ·exact .inl a
abbrev aT (c:α→α→Int) (l:List α):Prop:=l.Pairwise (Jj c)
theorem Np {x1 x2 y1 y2 z1 z2:List α} (hx:aT c (x1++x2)) (hy:aT c (y1++y2)) (h1:∀p∈x1,∀q∈y2,Jj c p q) (h2:∀p∈x2,∀q∈y1,Jj c q p)
 (p1:z1.Perm (x1++y1)) (s1:aT c z1) (p2:z2.Perm (x2++y2)) (s2:aT c z2):(z1++z2).Perm ((x1++x2)++(y1++y2))∧aT c (z1++z2):=by
 refine⟨?_,?_⟩
 ·refine(p1.append p2).trans ?_
  rw[List.append_assoc,List.append_assoc]
  refine List.Perm.append_left _ ?_
  rw[←List.append_assoc,←List.append_assoc]
  exact List.Perm.append_right _ List.perm_append_comm
 ·rw[aT,List.pairwise_append]
  refine⟨s1,s2,?_⟩
  intro p hp q hq
  have hp':=(p1.mem_iff).1 hp
  have hq':=(p2.mem_iff).1 hq
  rw[aT,List.pairwise_append] at hx hy
  rcases List.mem_append.1 hp' with hp'|hp'<;>rcases List.mem_append.1 hq' with hq'|hq'
  ·exact hx.2.2 p hp' q hq'
  ·exact h1 p hp' q hq'
  ·exact h2 q hq' p hp'
  ·exact hy.2.2 p hp' q hq'
end
end Go.Proofs.YtcpgicfphakdaaaGreatDoor
namespace Go.Proofs.YtcpgicfphakdaaaGreatDoor
open Go.Ab Tys
variable [Dr]
def Plus {κ:Type} (a b c:List κ):Prop:=∀k,k∈a↔k∈b∨k∈c
theorem Plus.nil {κ:Type} {a b:List κ} (h:Plus a b []):∀k,k∈a↔k∈b:=fun k=>by rw[h k];simp
def z86.kk:=p10 kB kM Tryz.ntmps86 lL xA Rf Uc sK yR Tryz.results86
open z86 in
theorem DL (id:Nat) (h4:¬id=4) (h6:¬id=6) (l0:List bP) (t:Option (List bP)):AC Tryz.prog 86 [.c (.mp id), .c (.d (Aa kF t))] [(id,lI kF l0)] (fun r st=>∃l,Plus l l0 (t.getD [])∧st=[(id,lI kF l)]):=by
 have g4:¬4=id:=fun h=>h4 h.symm
 have g6:¬6=id:=fun h=>h6 h.symm
 refine bV Tryz.func86 Tryz.ntmps86 fun x hx=>?_
 cases t with
 |none=>
  (repeat (first|refine xO ?_|refine wX (wr:=false) (by simp only[kk,Nat.reduceAdd,Nat.reduceLT,Nat.reduceEqDiff, ↓reduceIte,reduceCtorEq,h4,h6,g4,g6,if_false];first|done|rfl) ?_))
  refine ag (ι:=Option iT×List bP×List bP) (I:=fun i=>⟨13,[(0, .c (.mp id)),(6, .c (.ptr 6 0))],[(id,lI kF i.2.2),(6, .iter i.1 (dn kF i.2.1))]⟩)
   (Inv:=fun i=>∀k,(k∈i.2.2∨k∈i.2.1)↔(k∈l0∨k∈Option.getD none [])) (μ:=fun i=>i.2.1.length) (none,[],l0) (by simp) ?_ ?_
  ·exact tK (p2 @h6 @g6)
  rintro⟨cur,rest,l⟩ h
  simp only at h⊢
  refine aJ ?_
  refine nV (id:=6) (cur:=cur) (left:=dn kF rest) (by simp) rfl (by simp[Ab.get,h6]) ?_ ?_
  ·intro h0
   simp only[kP,Nat.reduceEqDiff, ↓reduceIte,reduceCtorEq,h4,h6,g4,g6]
   try refine nv ?_
   refine af ?_ ?_
   ·intro hh;cases hh
   intro _
   try refine nv ?_
   refine JH (by simp only[kR,Tryz.results86, ↓reduceIte,Nat.reduceEqDiff,reduceCtorEq];first|done|rfl) (by first|exact trivial|(simp only[kO];omega)|(simp[All,dI];first|done|omega)|(simp+contextual [All,dI];first|done|grind)) [(id,lI kF l)] ⟨by simp[Ab.get,bf,h6,g6],by simp,by simp[bY,bG,bH,bD,bI,bC,aA,aN,dH,ae,Ab.get,h6,g6],gu hx (by simp[ae,Ab.get,h6,g6])⟩ (by simp[aZ,cu,aN,dH,ae,Ab.get,h6,g6]) ?_
   have:rest=[]:=by simpa[dn] using h0
   subst this
   exact⟨l,fun k=>by rw[←h k];simp,rfl⟩
  intro l1 e l2 hsp
  obtain⟨xs,k,y,rfl,rfl,rfl,rfl⟩:=jr hsp
  simp only[kP,Nat.reduceEqDiff, ↓reduceIte,reduceCtorEq,h4,h6,g4,g6]
  (repeat (first|refine xO ?_|refine wX (wr:=false) (by simp only[kk,Nat.reduceAdd,Nat.reduceLT,Nat.reduceEqDiff, ↓reduceIte,reduceCtorEq,kC,h4,h6,g4,g6];first|done|rfl) ?_))
  refine af ?_ ?_
  rotate_left
  ·intro hh;cases hh
  intro _
  (repeat (first|refine xO ?_|refine wX (wr:=false) (by simp only[kk,Nat.reduceAdd,Nat.reduceLT,Nat.reduceEqDiff, ↓reduceIte,reduceCtorEq,kC,h4,h6,g4,g6];first|done|rfl) ?_))
  refine gy (p5 @QM @h4 @h6 @g4 @g6) ?_ ?_
  ·exact gI (SH l)
  try refine nv ?_
  refine⟨(some (kF k,(false,[.v (.bool true)])),xs++y,lq l k),?_,by simp,?_⟩
  ·intro j
   rw[←h j,mD]
   simp only[List.mem_append,List.mem_cons]
   constructor
   ·rintro((h|h)|h|h)
    ·exact .inl h
    ·exact .inr (.inr (.inl h))
    ·exact .inr (.inl h)
    ·exact .inr (.inr (.inr h))
   ·rintro(h|h|h|h)
    ·exact .inl (.inl h)
    ·exact .inr (.inl h)
    ·exact .inl (.inr h)
    ·exact .inr (.inr h)
  ·exact tK (p2 @h6 @g6)
 |some m=>
  (repeat (first|refine xO ?_|refine wX (wr:=false) (by simp only[kk,Nat.reduceAdd,Nat.reduceLT,Nat.reduceEqDiff, ↓reduceIte,reduceCtorEq,h4,h6,g4,g6,if_false];first|done|rfl) ?_))
  refine ag (ι:=Option iT×List bP×List bP) (I:=fun i=>⟨13,[(0, .c (.mp id)),(6, .c (.ptr 6 0))],[(id,lI kF i.2.2),(6, .iter i.1 (dn kF i.2.1))]⟩)
   (Inv:=fun i=>∀k,(k∈i.2.2∨k∈i.2.1)↔(k∈l0∨k∈Option.getD (some m) [])) (μ:=fun i=>i.2.1.length) (none,m,l0) (by simp) ?_ ?_
  ·exact tK (p2 @h6 @g6)
  rintro⟨cur,rest,l⟩ h
  simp only at h⊢
  refine aJ ?_
  refine nV (id:=6) (cur:=cur) (left:=dn kF rest) (by simp) rfl (by simp[Ab.get,h6]) ?_ ?_
  ·intro h0
   simp only[kP,Nat.reduceEqDiff, ↓reduceIte,reduceCtorEq,h4,h6,g4,g6]
   try refine nv ?_
   refine af ?_ ?_
   ·intro hh;cases hh
   intro _
   try refine nv ?_
   refine JH (by simp only[kR,Tryz.results86, ↓reduceIte,Nat.reduceEqDiff,reduceCtorEq];first|done|rfl) (by first|exact trivial|(simp only[kO];omega)|(simp[All,dI];first|done|omega)|(simp+contextual [All,dI];first|done|grind)) [(id,lI kF l)] ⟨by simp[Ab.get,bf,h6,g6],by simp,by simp[bY,bG,bH,bD,bI,bC,aA,aN,dH,ae,Ab.get,h6,g6],gu hx (by simp[ae,Ab.get,h6,g6])⟩ (by simp[aZ,cu,aN,dH,ae,Ab.get,h6,g6]) ?_
   have:rest=[]:=by simpa[dn] using h0
   subst this
   exact⟨l,fun k=>by rw[←h k];simp,rfl⟩
  intro l1 e l2 hsp
  obtain⟨xs,k,y,rfl,rfl,rfl,rfl⟩:=jr hsp
  simp only[kP,Nat.reduceEqDiff, ↓reduceIte,reduceCtorEq,h4,h6,g4,g6]
  (repeat (first|refine xO ?_|refine wX (wr:=false) (by simp only[kk,Nat.reduceAdd,Nat.reduceLT,Nat.reduceEqDiff, ↓reduceIte,reduceCtorEq,kC,h4,h6,g4,g6];first|done|rfl) ?_))
  refine af ?_ ?_
  rotate_left
  ·intro hh;cases hh
  intro _
  (repeat (first|refine xO ?_|refine wX (wr:=false) (by simp only[kk,Nat.reduceAdd,Nat.reduceLT,Nat.reduceEqDiff, ↓reduceIte,reduceCtorEq,kC,h4,h6,g4,g6];first|done|rfl) ?_))
  refine gy (p5 @QM @h4 @h6 @g4 @g6) ?_ ?_
  ·exact gI (SH l)
  try refine nv ?_
  refine⟨(some (kF k,(false,[.v (.bool true)])),xs++y,lq l k),?_,by simp,?_⟩
  ·intro j
   rw[←h j,mD]
   simp only[List.mem_append,List.mem_cons]
   constructor
   ·rintro((h|h)|h|h)
    ·exact .inl h
    ·exact .inr (.inr (.inl h))
    ·exact .inr (.inl h)
    ·exact .inr (.inr (.inr h))
   ·rintro(h|h|h|h)
    ·exact .inl (.inl h)
    ·exact .inr (.inl h)
    ·exact .inl (.inr h)
    ·exact .inr (.inr h)
  ·exact tK (p2 @h6 @g6)
@[reducible] def ZH (L:jv):AO:= .box [.d (.ps 12 (L.revs.map ax)), .mp 1001, .mp 1002, .ms 1003 1 0 L.revs.length, .ms 1004 1 0 L.revs.length, .mp 1005, .ms 1006 1 0 L.revs.length, .ms 1007 1 0 L.revs.length, .ms 1008 1 0 L.revs.length]
@[reducible] def jZ (L:jv) (el em:List iT):List (Nat×AO):=
 [(1000,ZH L),(1001, .map ((bJ kF vI L.index).map fA)),(1002, .map (el.map fA)),(1003,aQ 1 (L.prev.map eI)),(1004,aQ 1 (L.fst.map eI)),(1005, .map (em.map fA)),(1006,aQ 1 (L.car.map jM)),(1007,aQ 1 (L.con.map jM)),(1008,aQ 1 (L.cre.map jM))]
theorem mV (m:List (bP×Int)) (p:ByteArray) (n:Int):fP [C.d (.v (.string p)),C.d (.v (.int .i64 n))] ((bJ kF vI m).map fA)=(aB m ⟨p,n⟩).map fun v=>(false,[C.d (.v (.int .i64 v))]):=
 pg (ve:=vI) xW m ⟨p,n⟩
theorem xU (m:List (bP×Int)):∀e∈(bJ kF vI m).map fA,e.1.1=true∧dm [.str, .int .i64] e.1.2:=by
 intro e he
 simp only[bJ,List.mem_map] at he
 obtain⟨_,⟨f,_,rfl⟩,rfl⟩:=he
 exact⟨rfl,by simp[fA,kC,dm]⟩
def adX.kk:=p2 (LK kB kS kM Tryz.ntmps132 Tryz.underlying91 lL yU sV Pj nZ oI xh BZ BX) (p13 zn Gm xA KJ GY uK sK Il VI jy ZY CJ Tryz.results132)
open adX in
theorem vT (L:jv) (hL:yY L) (el em:List iT) (r:jk):
 AC Tryz.prog 132 [.c (.ptr 1000 0),acR r] (jZ L el em) (fun r' st=>r'= .c (.d (.ps 1 ((kT L r).map jM)))∧st=jZ L el em):=by
 have hN:=hL.n
 refine bV Tryz.func132 Tryz.ntmps132 fun x hx=>?_
 try refine nv ?_
 refine mg (eG (i:=5) (id:=100) (sz:=1) rfl rfl (by omega)) ?_
 refine dM ?_
 refine ag (ι:=Int×List (Option (List Int))) (I:=fun i=>⟨43,[(0, .c (.ptr 1000 0)),(3, .c (.ptr 3 0)),(5, .c (.ms 100 1 0 i.2.length)),(6,I .i64 i.1)],jZ L el em++[(3, .box ((bg r).map C.d)),(100,aQ 1 (i.2.map jM))]⟩)
  (Inv:=fun i=>max r.first 1≤i.1∧i.2.length≤512∧i.2.length≤i.1-1∧i.2++nU L r.frm i.1 (min r.last 512-i.1+1).toNat=kT L r) (μ:=fun i=>(min r.last 512-i.1+1).toNat) (max r.first 1,[]) ⟨by simp,by simp,by simp;omega,by simp[kT]⟩ ?_ ?_
 ·exact aW
 rintro⟨n,l⟩ ⟨h1,h2,h3,h4⟩
 simp only at h1 h2 h3 h4⊢
 try refine nv ?_
 refine af ?_ ?_
 ·intro hlt
  have hlt':n≤min r.last 512:=by simpa using hlt
  have hn1:n≤512:=by omega
  obtain⟨q,hq⟩:∃q,(min r.last 512-n+1).toNat=q+1:=⟨(min r.last 512-n).toNat,by omega⟩
  have hq2:(min r.last 512-(n+1)+1).toNat=q:=by omega
  rw[hq,nU] at h4
  cases hk:aB L.index ⟨r.frm,n⟩ with
  |none=>
   rw[hk] at h4
   simp only[List.nil_append] at h4
   refine aJ ?_
   refine DD (wr:=false) ([]:List (Nat×AV)) (by simp only[kD,kk,Nat.reduceAdd,Nat.reduceLT,Nat.reduceEqDiff, ↓reduceIte,reduceCtorEq,mV,hk,Option.map_none,Option.isSome];first|done|rfl) ?_ ?_
   ·exact gI @xU
   try refine nv ?_
   refine af ?_ ?_
   ·intro h;cases h
   intro _
   try refine nv ?_
   refine⟨(n+1,l),⟨by simp;omega,h2,by simp;omega,by rw[hq2];exact h4⟩,by simp;omega,?_⟩
   exact aW
  |some i=>
   rw[hk] at h4
   simp only at h4
   obtain⟨i1,i2⟩:=hL.ix _ _ hk
   have hcl:=hL.con
   have hil:i.toNat<L.con.length:=by omega
   have hi2:i<(L.con.length:Int):=by omega
   have eg:=uG jM L.con i.toNat none hil
   generalize hoo:L.con.getD i.toNat none=o at eg h4
   refine aJ ?_
   refine DD (wr:=false) ([]:List (Nat×AV)) (by simp only[kD,kk,Nat.reduceAdd,Nat.reduceLT,Nat.reduceEqDiff, ↓reduceIte,reduceCtorEq,mV,hk,Option.isSome];first|done|rfl) ?_ ?_
   ·exact gI @xU
   try refine nv ?_
   refine af ?_ ?_
   rotate_left
   ·intro h;cases h
   intro _
   try refine nx (p2 @eg @Nat.zero_add) ?_
   refine⟨(n+1,l++[o]),⟨by simp;omega,by simp;omega,by simp;omega,by rw[hq2];simpa using h4⟩,by simp;omega,?_⟩
   exact uY (fun i=>if i=100 then 41 else i)
 intro hge
 have hge':¬n≤min r.last 512:=by simpa using hge
 have hz:(min r.last 512-n+1).toNat=0:=by omega
 rw[hz,nU,List.append_nil] at h4
 refine aJ ?_
 refine aG (aI (i:=5) (id:=100) (ys:=l.map jM) rfl rfl (by simp)) ?_
 refine dM ?_
 try refine nv ?_
 refine rA ((jZ L el em)) ?_
 refine⟨?_,rfl⟩
 rw[h4]
def aea:Option (List Int):=none
def aeK.kk:=p12 kB kM Tryz.ntmps133 Tryz.underlying91 Pj Ph MN GY uK yR ZY Tryz.results133
open aeK in
theorem QI (sets:List (Option (List Int))) (hn:sets.length≤100000000):AC Tryz.prog 133 [.c (.d (.ps 1 (sets.map jM)))] [] (fun r st=>(∃l,(∀k,k∈l↔∃o∈sets,k∈o.getD [])∧r= .c (.d (.pm (dn kN l))))∧st=[]):=by
 refine bV Tryz.func133 Tryz.ntmps133 fun x hx=>?_
 try refine nv ?_
 refine ag (ι:=Nat×List Int) (I:=fun i=>⟨24,[(3, .c (.mp 7)),(8, .c (.d (.ps 1 (sets.map jM)))),(9,I .i64 sets.length),(10,I .i64 i.1)],[(7,lI kN i.2)]⟩)
  (Inv:=fun i=>i.1≤sets.length∧∀k,k∈i.2↔∃o∈sets.take i.1,k∈o.getD []) (μ:=fun i=>sets.length-i.1) (0,[]) ⟨by simp,by simp⟩ ?_ ?_
 ·exact aW
 rintro⟨j,l⟩ ⟨hj,hl⟩
 simp only at hj hl⊢
 try refine nv ?_
 refine af ?_ ?_
 ·intro hlt
  have hlt':j<sets.length:=by simpa using hlt
  obtain⟨o,ho,he,htk⟩:=round jM sets j aea hlt'
  cases o with
  |none=>
   try refine nx @he ?_
   refine ag (ι:=Option iT×List Int×List Int) (I:=fun i=>⟨24,[(3, .c (.mp 7)),(8, .c (.d (.ps 1 (sets.map jM)))),(9,I .i64 sets.length),(10,I .i64 j),(15, .c (.ptr 15 0))],[(7,lI kN i.2.2),(15, .iter i.1 (dn kN i.2.1))]⟩)
    (Inv:=fun i=>∀k,(k∈i.2.2∨k∈i.2.1)↔(k∈l∨k∈Option.getD (none:Option (List Int)) [])) (μ:=fun i=>i.2.1.length) (none,[],l) (by simp) ?_ ?_
   ·exact aW
   rintro⟨cur,rest,m⟩ h
   simp only at h⊢
   refine aJ ?_
   refine nV (id:=15) (by simp) (by simp only[kV, ↓reduceIte,Nat.reduceEqDiff,reduceCtorEq];first|done|rfl) rfl ?_ ?_
   ·intro h0
    refine dM ?_
    try refine nv ?_
    refine af ?_ ?_
    ·intro hh;cases hh
    intro _
    try refine nv ?_
    have:rest=[]:=by simpa[dn] using h0
    subst this
    refine⟨(j+1,m),⟨by simp;omega,?_⟩,by simp;omega,?_⟩
    ·intro k
     have hk:=h k
     simp only[List.not_mem_nil,or_false] at hk
     rw[hk,hl k,htk]
     simp
    ·exact aW
   intro l1 e l2 hsp
   obtain⟨xs,k,y,rfl,rfl,rfl,rfl⟩:=jr hsp
   refine dM ?_
   (repeat (first|refine xO ?_|refine wX (wr:=false) (by simp only[kk,Nat.reduceAdd,Nat.reduceLT,Nat.reduceEqDiff, ↓reduceIte,reduceCtorEq,kC];first|done|rfl) ?_))
   refine af ?_ ?_
   rotate_left
   ·intro hh;cases hh
   intro _
   (repeat (first|refine xO ?_|refine wX (wr:=false) (by simp only[kk,Nat.reduceAdd,Nat.reduceLT,Nat.reduceEqDiff, ↓reduceIte,reduceCtorEq,kC];first|done|rfl) ?_))
   refine gy @UX ?_ ?_
   ·exact gI (WS m)
   try refine nv ?_
   refine⟨(some (kN k,(false,[.v (.bool true)])),xs++y,lq m k),?_,by simp,?_⟩
   ·intro i
    rw[←h i,mD]
    simp only[List.mem_append,List.mem_cons]
    constructor
    ·rintro((h|h)|h|h)
     ·exact .inl h
     ·exact .inr (.inr (.inl h))
     ·exact .inr (.inl h)
     ·exact .inr (.inr (.inr h))
    ·rintro(h|h|h|h)
     ·exact .inl (.inl h)
     ·exact .inr (.inl h)
     ·exact .inl (.inr h)
     ·exact .inr (.inr h)
   ·exact aW
  |some t=>
   try refine nx @he ?_
   refine ag (ι:=Option iT×List Int×List Int) (I:=fun i=>⟨24,[(3, .c (.mp 7)),(8, .c (.d (.ps 1 (sets.map jM)))),(9,I .i64 sets.length),(10,I .i64 j),(15, .c (.ptr 15 0))],[(7,lI kN i.2.2),(15, .iter i.1 (dn kN i.2.1))]⟩)
    (Inv:=fun i=>∀k,(k∈i.2.2∨k∈i.2.1)↔(k∈l∨k∈Option.getD (some t) [])) (μ:=fun i=>i.2.1.length) (none,t,l) (by simp) ?_ ?_
   ·exact aW
   rintro⟨cur,rest,m⟩ h
   simp only at h⊢
   refine aJ ?_
   refine nV (id:=15) (by simp) (by simp only[kV, ↓reduceIte,Nat.reduceEqDiff,reduceCtorEq];first|done|rfl) rfl ?_ ?_
   ·intro h0
    refine dM ?_
    try refine nv ?_
    refine af ?_ ?_
    ·intro hh;cases hh
    intro _
    try refine nv ?_
    have:rest=[]:=by simpa[dn] using h0
    subst this
    refine⟨(j+1,m),⟨by simp;omega,?_⟩,by simp;omega,?_⟩
    ·intro k
     have hk:=h k
     simp only[List.not_mem_nil,or_false] at hk
     rw[hk,hl k,htk]
     simp
    ·exact aW
   intro l1 e l2 hsp
   obtain⟨xs,k,y,rfl,rfl,rfl,rfl⟩:=jr hsp
   refine dM ?_
   (repeat (first|refine xO ?_|refine wX (wr:=false) (by simp only[kk,Nat.reduceAdd,Nat.reduceLT,Nat.reduceEqDiff, ↓reduceIte,reduceCtorEq,kC];first|done|rfl) ?_))
   refine af ?_ ?_
   rotate_left
   ·intro hh;cases hh
   intro _
   (repeat (first|refine xO ?_|refine wX (wr:=false) (by simp only[kk,Nat.reduceAdd,Nat.reduceLT,Nat.reduceEqDiff, ↓reduceIte,reduceCtorEq,kC];first|done|rfl) ?_))
   refine gy @UX ?_ ?_
   ·exact gI (WS m)
   try refine nv ?_
   refine⟨(some (kN k,(false,[.v (.bool true)])),xs++y,lq m k),?_,by simp,?_⟩
   ·intro i
    rw[←h i,mD]
    simp only[List.mem_append,List.mem_cons]
    constructor
    ·rintro((h|h)|h|h)
     ·exact .inl h
     ·exact .inr (.inr (.inl h))
     ·exact .inr (.inl h)
     ·exact .inr (.inr (.inr h))
    ·rintro(h|h|h|h)
     ·exact .inl (.inl h)
     ·exact .inr (.inl h)
     ·exact .inl (.inr h)
     ·exact .inr (.inr h)
   ·exact aW
 intro hge
 have hge':j=sets.length:=by have:¬j<sets.length:=by simpa using hge
                             omega
 rw[hge',List.take_length] at hl
 refine aJ ?_
 refine aG (lh (i:=3) (id:=7) (es:=dn kN l) rfl rfl) ?_
 refine dM ?_
 try refine nv ?_
 refine rA [] ?_
 refine⟨?_,rfl⟩
 exact⟨l,hl,rfl⟩
theorem look0 (k:List C):fP k []=none:=rfl
theorem CZ {κ:Type} (p:κ→Bool) (x:List κ) (k:κ) (y:List κ):(x++k::y).all p=(p k&&(x++y).all p):=by
 simp only[List.all_append,List.all_cons]
 cases x.all p<;>cases p k<;>cases y.all p<;>rfl
def z97.kk:=p9 kB kM Tryz.ntmps97 Ph MN GY uK yR Tryz.results97
open z97 in
theorem Xe (l m:List Int):AC Tryz.prog 97 [.c (.d (.pm (dn kN l))), .c (.d (.pm (dn kN m)))] [] (fun r st=>r=B (Et l m)∧st=[]):=by
 refine bV Tryz.func97 Tryz.ntmps97 fun x hx=>?_
 try refine nv ?_
 refine ag (ι:=Option iT×List Int) (I:=fun i=>⟨16,[(1, .c (.d (.pm (dn kN m)))),(7, .c (.ptr 7 0))],[(7, .iter i.1 (dn kN i.2))]⟩) (Inv:=fun i=>Et l m=i.2.all (fun k=>decide (k∈m))) (μ:=fun i=>i.2.length) (none,l) rfl ?_ ?_
 ·exact aW
 rintro⟨cur,rest⟩ h
 simp only at h⊢
 refine aJ ?_
 refine nV (id:=7) (by simp) (by simp only[kV, ↓reduceIte,Nat.reduceEqDiff,reduceCtorEq];first|done|rfl) rfl ?_ ?_
 ·intro h0
  refine dM ?_
  try refine nv ?_
  refine af ?_ ?_
  ·intro hh;cases hh
  intro _
  try refine nv ?_
  refine rA [] ?_
  refine⟨?_,rfl⟩
  have:rest=[]:=by simpa[dn] using h0
  rw[h,this];rfl
 intro l1 e l2 hsp
 obtain⟨xs,k,y,rfl,rfl,rfl,rfl⟩:=jr hsp
 refine dM ?_
 (repeat (first|refine xO ?_|refine wX (wr:=false) (by simp only[kk,Nat.reduceAdd,Nat.reduceLT,Nat.reduceEqDiff, ↓reduceIte,reduceCtorEq,kC];first|done|rfl) ?_))
 refine af ?_ ?_
 rotate_left
 ·intro hh;cases hh
 intro _
 (repeat (first|refine xO ?_|refine wX (wr:=false) (by simp only[kk,Nat.reduceAdd,Nat.reduceLT,Nat.reduceEqDiff, ↓reduceIte,reduceCtorEq,kC];first|done|rfl) ?_))
 refine gy @Zm ?_ ?_
 ·exact gI (WS m)
 try refine nv ?_
 refine af ?_ ?_
 ·intro hk
  try refine nv ?_
  refine rA [] ?_
  refine⟨?_,rfl⟩
  rw[h,CZ]
  simp at hk
  simp[hk]
 ·intro hk
  try refine nv ?_
  refine⟨(some (kN k,(false,[.v (.bool true)])),xs++y),?_,by simp,?_⟩
  ·rw[h,CZ]
   simp at hk
   simp[hk]
  ·exact aW
def z93.kk:=p10 kB kM Tryz.ntmps93 lL xA Rf Uc sK yR Tryz.results93
open z93 in
theorem Xu (l m:List bP):AC Tryz.prog 93 [.c (.d (.pm (dn kF l))), .c (.d (.pm (dn kF m)))] [] (fun r st=>r=B (Et l m)∧st=[]):=by
 refine bV Tryz.func93 Tryz.ntmps93 fun x hx=>?_
 try refine nv ?_
 refine ag (ι:=Option iT×List bP) (I:=fun i=>⟨16,[(1, .c (.d (.pm (dn kF m)))),(7, .c (.ptr 7 0))],[(7, .iter i.1 (dn kF i.2))]⟩) (Inv:=fun i=>Et l m=i.2.all (fun k=>decide (k∈m))) (μ:=fun i=>i.2.length) (none,l) rfl ?_ ?_
 ·exact aW
 rintro⟨cur,rest⟩ h
 simp only at h⊢
 refine aJ ?_
 refine nV (id:=7) (by simp) (by simp only[kV, ↓reduceIte,Nat.reduceEqDiff,reduceCtorEq];first|done|rfl) rfl ?_ ?_
 ·intro h0
  refine dM ?_
  try refine nv ?_
  refine af ?_ ?_
  ·intro hh;cases hh
  intro _
  try refine nv ?_
  refine rA [] ?_
  refine⟨?_,rfl⟩
  have:rest=[]:=by simpa[dn] using h0
  rw[h,this];rfl
 intro l1 e l2 hsp
 obtain⟨xs,k,y,rfl,rfl,rfl,rfl⟩:=jr hsp
 refine dM ?_
 (repeat (first|refine xO ?_|refine wX (wr:=false) (by simp only[kk,Nat.reduceAdd,Nat.reduceLT,Nat.reduceEqDiff, ↓reduceIte,reduceCtorEq,kC];first|done|rfl) ?_))
 refine af ?_ ?_
 rotate_left
 ·intro hh;cases hh
 intro _
 (repeat (first|refine xO ?_|refine wX (wr:=false) (by simp only[kk,Nat.reduceAdd,Nat.reduceLT,Nat.reduceEqDiff, ↓reduceIte,reduceCtorEq,kC];first|done|rfl) ?_))
 refine gy @XV ?_ ?_
 ·exact gI (SH m)
 try refine nv ?_
 refine af ?_ ?_
 ·intro hk
  try refine nv ?_
  refine rA [] ?_
  refine⟨?_,rfl⟩
  rw[h,CZ]
  simp at hk
  simp[hk]
 ·intro hk
  try refine nv ?_
  refine⟨(some (kF k,(false,[.v (.bool true)])),xs++y),?_,by simp,?_⟩
  ·rw[h,CZ]
   simp at hk
   simp[hk]
  ·exact aW
end Go.Proofs.YtcpgicfphakdaaaGreatDoor
namespace Go.Proofs.YtcpgicfphakdaaaGreatDoor
open Go.Ab
variable [Dr]
@[reducible] def vV {β:Type} (g:Value×List β):Bool×List D:=(false,[.v g.1])
def Jg {κ β:Type} (G:List (κ×(Value×List β))):List (κ×List β):=G.map fun g=>(g.1,g.2.2)
def lV {κ β:Type} (enc:β→List D) (G:List (κ×(Value×List β))):List (Value×List (List D)):=G.map fun g=>(g.2.1,g.2.2.map enc)
theorem qY {κ β:Type} [DecidableEq κ] (G:List (κ×(Value×List β))) (k:κ):aB (Jg G) k=(aB G k).map (·.2):=by
 induction G with
 |nil=>rfl
 |cons g G ih=>simp only[Jg,List.map_cons,aB] at ih⊢;split<;>simp_all
theorem Dv {κ β:Type} [DecidableEq κ] (G:List (κ×(Value×List β))) (k:κ) (v:Value) (ys:List β):Jg (jg G k (v,ys))=jg (Jg G) k ys:=by
 induction G with
 |nil=>rfl
 |cons g G ih=>simp only[Jg,List.map_cons,jg] at ih⊢;split<;>simp_all
theorem zg {κ ν:Type} [DecidableEq κ]:∀{m:List (κ×ν)} {k:κ} {v:ν},aB m k=some v→∃A B,m=A++(k,v)::B∧∀p∈A,p.1≠k
 |[],_,_,h=>by simp[aB] at h
 |(a,b)::m,k,v,h=>by
  simp only[aB] at h
  split at h
  ·rename_i e;cases h;subst e;exact⟨[],m,rfl,by simp⟩
  ·rename_i e
   obtain⟨A,B,rfl,hA⟩:=zg h
   refine⟨(a,b)::A,B,rfl,?_⟩
   intro p hp
   rcases List.mem_cons.1 hp with rfl|hp
   ·exact fun h=>e h.symm
   ·exact hA p hp
theorem IZ {κ ν:Type} [DecidableEq κ]:∀{A B:List (κ×ν)} {k:κ} {v x:ν},(∀p∈A,p.1≠k)→jg (A++(k,v)::B) k x=A++(k,x)::B
 |[],B,k,v,x,_=>by simp[jg]
 |(a,b)::A,B,k,v,x,h=>by
  simp only[List.cons_append,jg]
  rw[if_neg (fun e=>h (a,b) List.mem_cons_self e.symm),IZ (fun p hp=>h p (List.mem_cons_of_mem _ hp))]
theorem KE {κ ν:Type} [DecidableEq κ]:∀{m:List (κ×ν)} {k:κ} {x:ν},aB m k=none→jg m k x=m++[(k,x)]
 |[],_,_,_=>rfl
 |(a,b)::m,k,x,h=>by
  simp only[aB] at h
  split at h
  ·cases h
  ·rename_i e;simp only[jg];rw[if_neg e,KE h];rfl
theorem O0 {κ β:Type} [DecidableEq κ] (enc:β→List D) {G:List (κ×(Value×List β))} {k:κ} {v x:Value} {ys zs:List β} {ps ps':List (Value×List (List D))} (h:aB G k=some (v,ys)) (hp:ps.Perm (lV enc G)) (hp':((v,ys.map enc)::ps').Perm ps):
 ((x,zs.map enc)::ps').Perm (lV enc (jg G k (x,zs))):=by
 obtain⟨A,B,rfl,hA⟩:=zg h
 rw[IZ hA]
 have h1:=hp'.trans hp
 simp only[lV,List.map_append,List.map_cons] at h1⊢
 have h2:((v,ys.map enc)::ps').Perm ((v,ys.map enc)::(A.map (fun g=>(g.2.1,g.2.2.map enc))++B.map (fun g=>(g.2.1,g.2.2.map enc)))):=h1.trans List.perm_middle
 exact((List.Perm.cons_inv h2).cons _).trans List.perm_middle.symm
theorem QT {κ β:Type} [DecidableEq κ] (enc:β→List D) {G:List (κ×(Value×List β))} {k:κ} {x:Value} {zs:List β} {ps:List (Value×List (List D))} (h:aB G k=none) (hp:ps.Perm (lV enc G)):
 ((x,zs.map enc)::ps).Perm (lV enc (jg G k (x,zs))):=by
 rw[KE h]
 simp only[lV,List.map_append,List.map_cons,List.map_nil]
 exact(hp.cons _).trans (List.perm_append_comm (l₁:=[(x,zs.map enc)]))
section
variable {x:X} {κ β:Type} [DecidableEq κ] {ke:κ→Bool×List D} (hk:∀a b,nT ((ke a).2.map C.d) ((ke b).2.map C.d)=decide (a=b))
include hk
theorem Gu (w:Bool×List C) (v:Value×List β) (k:κ):∀{A B:List (κ×(Value×List β))},(∀p∈A,p.1≠k)→dS (kC (ke k)) w ((bJ ke vV (A++(k,v)::B)).map fA)=((bJ ke vV (A++(k,v)::B)).map fA).set A.length (kC (ke k),w)
 |[],B,_=>by
  have:nT (kC (ke k)).2 (kC (ke k)).2=decide (k=k):=hk _ _
  simp only[List.nil_append,bJ,List.map_cons,dS,fA,this];simp
 |a::A,B,h=>by
  have:nT (kC (ke k)).2 (kC (ke a.1)).2=decide (k=a.1):=hk _ _
  have hne:¬k=a.1:=fun e=>h a List.mem_cons_self e.symm
  simp only[List.cons_append,bJ,List.map_cons,dS,fA,this,hne,decide_false,Bool.false_eq_true,if_false,List.length_cons,List.set_cons_succ]
  congr 1
  exact Gu w v k (fun p hp=>h p (List.mem_cons_of_mem _ hp))
theorem Y8 (enc:β→List D) {s:S} {mid pid pid' aid sz:Nat} {G:List (κ×(Value×List β))} {k:κ} {v:Value} {ys:List β} {ps:List (Value×List (List D))} (hm:get s.st mid=some (.map ((bJ ke vV G).map fA)))
 (hp:get s.st pid=some (.pool sz ps)) (hpm:ps.Perm (lV enc G)) (hkG:aB G k=some (v,ys)) (hp':get s.st pid'=none) (ha:get s.st aid=none) (hne:pid'≠aid):
 ∃ps',((v,ys.map enc)::ps').Perm ps∧zK x s ⟨s.n,s.env,put (put (put (put s.st pid .dead) pid' (.pool sz ps')) aid (.arr sz ((ys.map enc).map fun l=>l.map C.d))) mid (.map (dS (kC (ke k)) (false,[.ms aid sz 0 ys.length]) ((bJ ke vV G).map fA)))⟩:=by
 obtain⟨A,B,rfl,hA⟩:=zg hkG
 have hin:(v,ys.map enc)∈ps:=hpm.mem_iff.2 (by simp[lV])
 obtain⟨i,hi⟩:=List.getElem?_of_mem hin
 have hil:=(List.getElem?_eq_some_iff.1 hi).1
 have hpe:((v,ys.map enc)::ps.eraseIdx i).Perm ps:=by
  have h0:ps[i]=(v,ys.map enc):=(List.getElem?_eq_some_iff.1 hi).2
  have e:ps=ps.take i++(v,ys.map enc)::ps.drop (i+1):=by
   conv=>lhs;rw[←List.take_append_drop i ps,List.drop_eq_getElem_cons hil,h0]
  rw[List.eraseIdx_eq_take_drop_succ]
  conv=>rhs;rw[e]
  exact List.perm_middle.symm
 have hj:((bJ ke vV (A++(k,(v,ys))::B)).map fA)[A.length]? =some (kC (ke k),(false,[.d (.v v)])):=by
  simp[bJ,fA,kC]
 have:=Rq (x:=x) (s:=s) (pid':=pid') (aid:=aid) hm hj hp hi hp' ha hne
 rw[←Gu hk] at this
 ·refine⟨_,hpe,?_⟩
  simpa using this
 ·exact hA
theorem UU {P:Program} {ops l:List Oper} {Q:Exit→S→Prop} (enc:β→List D) {s:S} {mid pid pid' aid sz:Nat} {G:List (κ×(Value×List β))} {k:κ} {v:Value} {ys:List β} {ps:List (Value×List (List D))} (hm:get s.st mid=some (.map ((bJ ke vV G).map fA)))
 (hp:get s.st pid=some (.pool sz ps)) (hpm:ps.Perm (lV enc G)) (hkG:aB G k=some (v,ys)) (hp':get s.st pid'=none) (ha:get s.st aid=none) (hne:pid'≠aid)
 (h:∀ps',((v,ys.map enc)::ps').Perm ps→TO P x ops l ⟨s.n,s.env,put (put (put (put s.st pid .dead) pid' (.pool sz ps')) aid (.arr sz ((ys.map enc).map fun l=>l.map C.d))) mid (.map (dS (kC (ke k)) (false,[.ms aid sz 0 ys.length]) ((bJ ke vV G).map fA)))⟩ Q):TO P x ops l s Q:=by
 obtain⟨ps',h1,h2⟩:=Y8 (x:=x) hk enc hm hp hpm hkG hp' ha hne
 exact aG h2 (h ps' h1)
theorem Dz (enc:β→List D) {s:S} {mid pid pid' aid sz n:Nat} {G:List (κ×(Value×List β))} {k:κ} {ys:List β} {ps:List (Value×List (List D))} (hm:get s.st mid=some (.map (dS (kC (ke k)) (false,[.ms aid sz 0 n]) ((bJ ke vV G).map fA))))
 (hp:get s.st pid=some (.pool sz ps)) (ha:get s.st aid=some (.arr sz ((ys.map enc).map fun l=>l.map C.d))) (hn:n=ys.length) (hy:ys≠[]) (hp':get s.st pid'=none):
 ∀a w,Sat x s a w→∃v,Sat x ⟨s.n,s.env,put (put (put (put s.st pid .dead) aid .dead) pid' (.pool sz ((v,ys.map enc)::ps))) mid (.map ((bJ ke vV (jg G k (v,ys))).map fA))⟩ a w:=by
 intro a w hs
 obtain⟨v,h⟩:=SL (x:=x) (pid':=pid') hm (CQ _ _ _) hp ha (by simpa using hn) (by simpa using hy) hp' hs
 rw[Ab.qg,show((false,[C.d (.v v)]):Bool×List C)=kC (vV (v,ys)) from rfl,CB hk] at h
 exact⟨v,h⟩
end
theorem TT (p:ByteArray) (n:Int) (w:Bool×List C):∀es:List wH,(∀e∈es,e.1.1=true∧dm [.str, .int .i64] e.1.2)→∀e∈dS (true,[C.d (.v (.string p)),C.d (.v (.int .i64 n))]) w es,e.1.1=true∧dm [.str, .int .i64] e.1.2
 |[],_=>by intro e he;simp[dS] at he;subst he;simp[dm]
 |a::es,h=>by
  intro e he
  simp only[dS] at he
  split at he
  ·rcases List.mem_cons.1 he with rfl|he
   ·simp[dm]
   ·exact h e (List.mem_cons_of_mem _ he)
  ·rcases List.mem_cons.1 he with rfl|he
   ·exact h _ List.mem_cons_self
   ·exact TT p n w es (fun e he=>h e (List.mem_cons_of_mem _ he)) e he
theorem QN {κ β:Type} {ke:κ→Bool×List D} (enc:β→List D) (sz:Nat) (G:List (κ×(Value×List β))):
 ((bJ ke vV G).map fA)=((G.map fun g=>(ke g.1,g.2.1,g.2.2.map enc)).map fun g=>(kC g.1,(false,[C.d (.v g.2.1)])))∧
 ((G.map fun g=>(ke g.1,g.2.1,g.2.2.map enc)).map fun g=>(g.1,(false,[D.ps sz g.2.2])))=bJ ke (fun l=>(false,[.ps sz (l.map enc)])) (Jg G):=by
 constructor
 ·simp only[bJ,List.map_map];exact List.map_congr_left fun g _=>rfl
 ·simp only[bJ,Jg,List.map_map];exact List.map_congr_left fun g _=>rfl
theorem Ub {κ β:Type} {ke:κ→Bool×List D} (enc:β→List D) {G:List (κ×(Value×List β))} {ps:List (Value×List (List D))} (hp:ps.Perm (lV enc G)):∀g∈(G.map fun g=>(ke g.1,g.2.1,g.2.2.map enc)),g.2∈ps:=by
 intro g hg
 obtain⟨a,ha,rfl⟩:=List.mem_map.1 hg
 exact hp.mem_iff.2 (List.mem_map.2 ⟨a,ha,rfl⟩)
end Go.Proofs.YtcpgicfphakdaaaGreatDoor
