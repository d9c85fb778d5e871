/- A part of the proof. -/
import Derived.Test.YtpoodoknkbojgaaGreatDoorRAbBi
set_option linter.all false
namespace Go.Proofs.YtpoodoknkbojgaaGreatDoor
open Go.Ab
theorem DD {d:eQ} {c:uA} (h:∀i,i<c.edits.length→ET d c i (c.edits.getD i dh)):∀{j i:Nat},i<j→j<c.edits.length→ord (c.edits.getD i dh).path (c.edits.getD j dh).path<0
 |0,i,hij,_=>by omega
 |j+1,i,hij,hj=>by
  have h0:=(h (j+1) hj).okOrder (by omega)
  simp only[Nat.add_sub_cancel] at h0
  by_cases e:i=j
  ·subst e;exact h0
  ·exact Iy (h i (by omega)).okPath (h j (by omega)).okPath (h (j+1) hj).okPath (DD h (by omega) (by omega)) h0
theorem JA {d:eQ} {c:uA} (h:∀i,i<c.edits.length→ET d c i (c.edits.getD i dh)) {i j:Nat} (hij:i<j) (hj:j<c.edits.length):(c.edits.getD i dh).path≠(c.edits.getD j dh).path:=by
 intro e
 have:=DD h hij hj
 rw[e,Nb (h j hj).okPath] at this
 omega
theorem LV {n:Int} (h1: -1000000≤n) (h2:n≤1000000):wr n=n:=aZ.wrap (by simp only[aZ];omega)
structure Good (l:List Rev):Prop where
 num:∀(i:Nat) (v:Rev),l[i]? =some v→1≤v.num∧v.num≤(i:Int)+1
 act:∀(i:Nat) (v:Rev),l[i]? =some v→1≤v.act∧v.act≤5
 chg:∀(i j:Nat) (u v:Rev),i<j→l[i]? =some u→l[j]? =some v→u.chg≤v.chg
 path:∀(i j:Nat) (u v:Rev),i<j→l[i]? =some u→l[j]? =some v→u.path=v.path→u.chg<v.chg∧u.num<v.num
 prv:∀(i:Nat) (v:Rev),l[i]? =some v→v.act≠1→v.act≠4→∃(j:Nat) (u:Rev),j<i∧l[j]? =some u∧u.path=v.path∧u.num=v.num-1∧u.act≠3∧u.act≠5∧u.chg<v.chg
 mov:∀(i:Nat) (v:Rev),l[i]? =some v→v.act=4→∃(j:Nat) (u:Rev),j<i∧l[j]? =some u∧u.path=v.frm∧u.num=v.fnum∧u.act≠3∧u.act≠5∧u.chg<v.chg
 away:∀(i:Nat) (v:Rev),l[i]? =some v→v.act=4→∃(j:Nat) (u:Rev),l[j]? =some u∧u.path=v.frm∧u.num=v.fnum+1∧u.act=5
 mov2:∀(i j:Nat) (u v:Rev),i<j→l[i]? =some u→l[j]? =some v→u.act=4→v.act=4→u.frm=v.frm→u.fnum=v.fnum→False
theorem JO {α:Type} (p:α→Bool):∀l:List α,(∀v,(l.filter p).getLast? =some v→∃j:Nat,l[j]? =some v∧p v=true∧∀(k:Nat) (u:α),l[k]? =some u→p u=true→k≤j)∧((l.filter p).getLast? =none→∀u∈l,p u=false)
 |[]=>by simp
 |a::l=>by
  obtain⟨h1,h2⟩:=JO p l
  simp only[Vq]
  cases hg:(l.filter p).getLast? with
  |none=>
   have hn:=h2 hg
   have h0:l.filter p=[]:=List.getLast?_eq_none_iff.1 hg
   rw[h0]
   by_cases ha:p a=true
   ·rw[if_pos ha]
    refine⟨fun v hv=>?_,fun h=>by simp at h⟩
    simp at hv;subst hv
    refine⟨0,rfl,ha,fun k u hu hp=>?_⟩
    cases k with
    |zero=>omega
    |succ k=>rw[hn u (TZ (by simpa using hu))] at hp;cases hp
   ·rw[if_neg ha]
    refine⟨fun v hv=>by simp at hv,fun _ u hu=>?_⟩
    rcases TS.1 hu with rfl|hu
    ·simpa using ha
    ·exact hn u hu
  |some w=>
   obtain⟨j,hj,hw,hmax⟩:=h1 w hg
   have h0:(if p a=true then a::l.filter p else l.filter p).getLast? =some w:=by
    split
    ·rw[List.getLast?_cons,hg];rfl
    ·exact hg
   rw[h0]
   refine⟨fun v hv=>?_,fun h=>by cases h⟩
   cases hv
   refine⟨j+1,by simpa using hj,hw,fun k u hu hp=>?_⟩
   cases k with
   |zero=>omega
   |succ k=>have:=hmax k u (by simpa using hu) hp;omega
theorem oC {d:eQ} {p:VJ} {v:Rev} (h:sW d p=some v):∃j:Nat,d.revs[j]? =some v∧v.path=p∧∀(k:Nat) (u:Rev),d.revs[k]? =some u→u.path=p→k≤j:=by
 obtain⟨j,h1,h2,h3⟩:=(JO (fun v:Rev=>decide (v.path=p)) d.revs).1 v h
 exact⟨j,h1,by simpa using h2,fun k u hu hp=>h3 k u hu (by simpa using hp)⟩
theorem last_none {d:eQ} {p:VJ} (h:sW d p=none):∀u∈d.revs,u.path≠p:=by
 intro u hu e
 have:=(JO (fun v:Rev=>decide (v.path=p)) d.revs).2 h u hu
 simp[e] at this
theorem yV {d:eQ} {p:VJ} (h:live d p=true):∃(v:Rev) (j:Nat),sW d p=some v∧d.revs[j]? =some v∧v.path=p∧v.act≠3∧v.act≠5∧dn d p=v.num:=by
 unfold live at h
 split at h
 ·rename_i v hv
  obtain⟨j,h1,h2,h3⟩:=oC hv
  simp[gone] at h
  exact⟨v,j,hv,h1,h2,h.1,h.2,by simp[dn,hv]⟩
 ·cases h
theorem xW {d:eQ} (hg:Good d.revs) {p:VJ} {k:Nat} {u:Rev} (hu:d.revs[k]? =some u) (hp:u.path=p):u.num≤dn d p:=by
 cases h:sW d p with
 |none=>exact absurd hp (last_none h u (TZ hu))
 |some v=>
  obtain⟨j,h1,h2,h3⟩:=oC h
  have:=h3 k u hu hp
  simp only[dn,h,Option.getD]
  rcases UI k j with hkj|hkj
  ·have:=(hg.path k j u v hkj hu h1 (by rw[hp,h2])).2;omega
  ·have e:k=j:=by omega
   subst e;rw[h1] at hu;cases hu;omega
theorem pY {d:eQ} (hg:Good d.revs) (p:VJ):0≤dn d p∧dn d p≤d.revs.length:=by
 cases h:sW d p with
 |none=>simp[dn,h,Js]
 |some v=>
  obtain⟨j,h1,h2,h3⟩:=oC h
  have:=hg.num j v h1
  have hj:j<d.revs.length:=(Ue.1 h1).1
  simp only[dn,h,Option.getD];omega
theorem EM {α:Type} (p:α→Bool) {l:List α} {a b:Nat} {x y:α} (hab:a<b) (ha:l[a]? =some x) (hb:l[b]? =some y) (hx:p x=true) (hy:p y=true):2≤(l.filter p).length:=by
 have e:l.filter p=(l.take b).filter p++(l.drop b).filter p:=by rw[←VE,UF]
 rw[e,Uo]
 have h1:x∈(l.take b).filter p:=UD.2 ⟨TZ (i:=a) (by rw[Us,if_pos hab];exact ha),hx⟩
 have h2:y∈(l.drop b).filter p:=UD.2 ⟨TZ (i:=0) (by rw[UC];simpa using hb),hy⟩
 have:=List.length_pos_of_mem h1
 have:=List.length_pos_of_mem h2
 omega
theorem Es {d:eQ} {c:uA} (hg:Good d.revs) (hn:d.revs.length≤512) (hk:vZ d c):Good (gV d c).revs:=by
 have hE:=hk.edit
 have sp:∀(i:Nat) (v:Rev),(gV d c).revs[i]? =some v→(i<d.revs.length∧d.revs[i]? =some v)∨∃a,i=d.revs.length+a∧a<c.edits.length∧v=made c (c.edits.getD a dh):=by
  intro i v h
  simp only[gV] at h
  rcases UI i d.revs.length with hi|hi
  ·rw[UX hi] at h;exact .inl ⟨hi,h⟩
  ·rw[Vd hi] at h
   have ha:i-d.revs.length<c.edits.length:=by
    have:=(Ue.1 h).1;simpa using this
   refine .inr ⟨i-d.revs.length,by omega,ha,?_⟩
   rw[UB,TT ha] at h
   simp at h;rw[←h];simp[List.getD,ha]
 have nw:∀a:Nat,a<c.edits.length→(gV d c).revs[d.revs.length+a]? =some (made c (c.edits.getD a dh)):=by
  intro a ha
  simp only[gV]
  rw[Vd (by omega),U6,UB,TT ha]
  simp[List.getD,ha]
 have od:∀(i:Nat) (v:Rev),d.revs[i]? =some v→(gV d c).revs[i]? =some v:=by
  intro i v h
  simp only[gV]
  rw[UX (Ue.1 h).1];exact h
 have lb:∀p, -1000000≤dn d p+1∧dn d p+1≤1000000:=fun p=>by have:=pY hg p;omega
 have mn:∀a,a<c.edits.length→(made c (c.edits.getD a dh)).num=dn d (c.edits.getD a dh).path+1:=by
  intro a ha
  simp only[made]
  rw[(hE a ha).okPrev,LV (lb _).1 (lb _).2]
 have mt:∀a,a<c.edits.length→(c.edits.getD a dh).act=4→∃b,b<c.edits.length∧(c.edits.getD b dh).act=5∧(c.edits.getD b dh).path=(c.edits.getD a dh).frm:=by
  intro a ha h4
  have hm:=hk.move (c.edits.getD a dh) (by rw[Uc,TT ha];simp)
  generalize c.edits.getD a dh=e at*
  have hl:(c.edits.filter (Eu e)).length=1:=by
   simp only[FM,h4,KJ] at hm
   simp at hm;have hm:=UU hm;omega
  obtain⟨y,hy⟩:∃y,y∈c.edits.filter (Eu e):=by
   cases hf:c.edits.filter (Eu e) with
   |nil=>rw[hf] at hl;simp at hl
   |cons y l=>exact⟨y,by simp⟩
  obtain⟨hy1,hy2⟩:=UD.1 hy
  obtain⟨b,hb,e⟩:=UA.1 hy1
  have e':c.edits.getD b dh=y:=by simp[List.getD,hb,e]
  simp[Eu,h4] at hy2
  exact⟨b,hb,by rw[e'];exact hy2.1,by rw[e'];exact hy2.2⟩
 constructor
 ·intro i v h
  rcases sp i v h with⟨_,h⟩|⟨a,rfl,ha,rfl⟩
  ·exact hg.num i v h
  ·rw[mn a ha]
   have:=pY hg (c.edits.getD a dh).path
   omega
 ·intro i v h
  rcases sp i v h with⟨_,h⟩|⟨a,rfl,ha,rfl⟩
  ·exact hg.act i v h
  ·exact⟨(hE a ha).okLo,(hE a ha).okHi⟩
 ·intro i j u v hij hu hv
  rcases sp i u hu with⟨h1,hu⟩|⟨a,rfl,ha,rfl⟩
  ·rcases sp j v hv with⟨h2,hv⟩|⟨b,rfl,hb,rfl⟩
   ·exact hg.chg i j u v hij hu hv
   ·have:=hk.old u (TZ hu)
    show u.chg≤c.num
    omega
  ·rcases sp j v hv with⟨h2,hv⟩|⟨b,rfl,hb,rfl⟩
   ·omega
   ·exact Int.le_refl _
 ·intro i j u v hij hu hv hp
  rcases sp i u hu with⟨h1,hu⟩|⟨a,rfl,ha,rfl⟩
  ·rcases sp j v hv with⟨h2,hv⟩|⟨b,rfl,hb,rfl⟩
   ·exact hg.path i j u v hij hu hv hp
   ·refine⟨hk.old u (TZ hu),?_⟩
    rw[mn b hb]
    have:=xW hg hu (p:=(c.edits.getD b dh).path) hp
    omega
  ·rcases sp j v hv with⟨h2,hv⟩|⟨b,rfl,hb,rfl⟩
   ·omega
   ·exact absurd hp (JA hE (by omega) hb)
 ·intro i v h n1 n4
  rcases sp i v h with⟨_,h⟩|⟨a,rfl,ha,rfl⟩
  ·obtain⟨j,u,h1,h2,h3⟩:=hg.prv i v h n1 n4
   exact⟨j,u,h1,od j u h2,h3⟩
  ·have hl:live d (c.edits.getD a dh).path=true:=by
    cases hl:live d (c.edits.getD a dh).path with
    |true=>rfl
    |false=>rcases(hE a ha).okLive.2 hl with h|h
            ·exact absurd h n1
            ·exact absurd h n4
   obtain⟨v,j,g1,g2,g3,g4,g5,g6⟩:=yV hl
   have hj:=(Ue.1 g2).1
   exact⟨j,v,by omega,od j v g2,g3,by rw[mn a ha,g6];omega,g4,g5,hk.old v (TZ g2)⟩
 ·intro i v h h4
  rcases sp i v h with⟨_,h⟩|⟨a,rfl,ha,rfl⟩
  ·obtain⟨j,u,h1,h2,h3⟩:=hg.mov i v h h4
   exact⟨j,u,h1,od j u h2,h3⟩
  ·obtain⟨f1,f2,f3⟩:=(hE a ha).okFrm h4
   obtain⟨v,j,g1,g2,g3,g4,g5,g6⟩:=yV f1
   have hj:=(Ue.1 g2).1
   exact⟨j,v,by omega,od j v g2,g3,by rw[←g6];exact f2,g4,g5,hk.old v (TZ g2)⟩
 ·intro i v h h4
  rcases sp i v h with⟨_,h⟩|⟨a,rfl,ha,rfl⟩
  ·obtain⟨j,u,h2,h3⟩:=hg.away i v h h4
   exact⟨j,u,od j u h2,h3⟩
  ·obtain⟨b,hb,b1,b2⟩:=mt a ha h4
   obtain⟨f1,f2,f3⟩:=(hE a ha).okFrm h4
   refine⟨_,_,nw b hb,b2,?_,b1⟩
   rw[mn b hb,b2,f2];rfl
 ·intro i j u v hij hu hv u4 v4 hf hn'
  rcases sp i u hu with⟨h1,hu⟩|⟨a,rfl,ha,rfl⟩
  ·rcases sp j v hv with⟨h2,hv⟩|⟨b,rfl,hb,rfl⟩
   ·exact hg.mov2 i j u v hij hu hv u4 v4 hf hn'
   ·obtain⟨k,w,w1,w2,w3,w4⟩:=hg.away i u hu u4
    obtain⟨f1,f2,f3⟩:=(hE b hb).okFrm v4
    have:=xW hg w1 (p:=(c.edits.getD b dh).frm) (by rw[w2,hf];rfl)
    rw[f2,w3,hn'] at this
    have:(made c (c.edits.getD b dh)).fnum=(c.edits.getD b dh).fnum:=rfl
    omega
  ·rcases sp j v hv with⟨h2,hv⟩|⟨b,rfl,hb,rfl⟩
   ·omega
   ·obtain⟨x,hx,x1,x2⟩:=mt a ha u4
    have hm:=hk.move (c.edits.getD x dh) (by rw[Uc,TT hx];simp)
    have h2:=EM (Eu (c.edits.getD x dh)) (l:=c.edits) (a:=a) (b:=b) (x:=c.edits.getD a dh) (y:=c.edits.getD b dh) (by omega) (by simp[List.getD,ha]) (by simp[List.getD,hb])
     (by simp only[Eu,x1,x2,show(c.edits.getD a dh).act=4 from u4];simp) (by simp only[Eu,x1,x2,show(c.edits.getD b dh).act=4 from v4,show(c.edits.getD a dh).frm=(c.edits.getD b dh).frm from hf];simp)
    generalize c.edits.getD x dh=e at*
    simp only[FM,x1,KJ] at hm
    simp at hm;have hm:=UU hm;omega
theorem JK:Good []:=by constructor<;>simp
theorem jk.good {l:List uA} {d:eQ} (h:jk l d):Good d.revs:=by
 induction h with
 |nil=>exact JK
 |skip c h ih=>exact ih
 |app h hc hk ih=>exact Es ih h.ok.1 hk
structure Rz where
 revs:List Rev
 index:List (yG×Int)
 prev:List Int
 fst:List Int
 car:List (Option (List Int))
 con:List (Option (List Int))
 cre:List (Option (List Int))
def Nz (L:Rz) (f:yG):Option Int:=match gX L.index f with|some i=>if 0≤L.fst.getD i.toNat 0 then some i else none|none=>none
def upto (l:List Int) (s:Int):List Int:=match l with|[]=>[]|a::l=>if a=s then [a] else a::upto l s
def nG (v:Rev):yG:=if v.act=1 then OT else if v.act=4 then⟨v.frm,v.fnum⟩ else⟨v.path,v.num-1⟩
end Go.Proofs.YtpoodoknkbojgaaGreatDoor
