/- A part of the proof. -/
import Derived.Test.YtpoodoknkbojgaaGreatDoorRP0
set_option linter.all false
namespace Go.Proofs.YtpoodoknkbojgaaGreatDoor
open Go.Ab
def zF (d:eQ) (f:yG):List iR:=d.recs.filter fun r=>decide ((⟨r.to,r.num⟩:yG)=f)
structure EK (d:eQ) (k:Nat) (L:Rz) (me:List (Int×List Int)):Prop where
 kn:k≤d.revs.length
 revs:L.revs=d.revs
 lp:L.prev.length=d.revs.length
 lf:L.fst.length=d.revs.length
 lc:L.car.length=d.revs.length
 lo:L.con.length=d.revs.length
 lr:L.cre.length=d.revs.length
 ix:∀f i,gX L.index f=some i↔∃(j:Nat) (v:Rev),i=(j:Int)∧j<k∧d.revs[j]? =some v∧fileOf v=f
 f5:∀(j:Nat) (v:Rev),j<k→d.revs[j]? =some v→v.act=5→L.fst.getD j 0= -1∧L.con.getD j none=none∧L.car.getD j none=none
 fm:∀(j:Nat) (v:Rev),j<k→d.revs[j]? =some v→¬v.act=5→0≤L.fst.getD j 0∧L.fst.getD j 0≤j
 pm:∀(j:Nat) (v:Rev),j<k→d.revs[j]? =some v→¬v.act=5→
  (∃(u:Nat) (w:Rev),L.prev.getD j 0=(u:Int)∧u<j∧d.revs[u]? =some w∧¬w.act=5∧fileOf w=nG v∧¬v.act=1∧w.chg<v.chg∧L.fst.getD j 0=L.fst.getD u 0)∨(v.act=1∧L.prev.getD j 0= -1∧L.fst.getD j 0=j)
 mem:∀key:Int,0≤key→(gX me key).getD []=((List.range k).filter fun j=>decide (L.fst.getD j 0=key)).map fun j:Nat=>(j:Int)
 mne:∀key:Int,gX me key≠some []
 sets:∀(j:Nat) (v:Rev),j<k→d.revs[j]? =some v→¬v.act=5→∃c m cr,L.car.getD j none=some c∧L.con.getD j none=some m∧L.cre.getD j none=some cr
 un:∀j:Nat,k≤j→L.car.getD j none=none∧L.con.getD j none=none∧L.cre.getD j none=none
 bd:∀(j:Nat) (x:Int),x∈(L.car.getD j none).getD []∨x∈(L.con.getD j none).getD []∨x∈(L.cre.getD j none).getD []→0≤x∧x<k
theorem su {l:List Rev} (hg:Good l) {i j:Nat} {u v:Rev} (hu:l[i]? =some u) (hv:l[j]? =some v) (h:fileOf u=fileOf v):i=j:=by
 simp only[fileOf,yG.mk.injEq] at h
 rcases Nat.lt_trichotomy i j with hlt|rfl|hlt
 ·have:=(hg.path i j u v hlt hu hv h.1).2;omega
 ·rfl
 ·have:=(hg.path j i v u hlt hv hu h.1.symm).2;omega
theorem Jt {l:List Rev} (hg:Good l) {k:Nat} {v:Rev} (hv:l[k]? =some v) (h5:¬v.act=5):
 (v.act=1∧nG v=OT)∨(¬v.act=1∧∃(u:Nat) (w:Rev),u<k∧l[u]? =some w∧¬w.act=5∧fileOf w=nG v∧w.chg<v.chg):=by
 by_cases h1:v.act=1
 ·exact .inl ⟨h1,by simp[nG,h1]⟩
 ·refine .inr ⟨h1,?_⟩
  by_cases h4:v.act=4
  ·obtain⟨j,u,a1,a2,a3,a4,a5,a6,a7⟩:=hg.mov k v hv h4
   exact⟨j,u,a1,a2,a6,by simp[nG,h4,fileOf,a3,a4],a7⟩
  ·obtain⟨j,u,a1,a2,a3,a4,a5,a6,a7⟩:=hg.prv k v hv h1 h4
   exact⟨j,u,a1,a2,a6,by simp[nG,h1,h4,fileOf,a3,a4],a7⟩
theorem MS {l:List Rev} (hg:Good l) {j:Nat} {v:Rev} (hv:l[j]? =some v):fileOf v≠OT:=by
 intro h
 have:=(hg.num j v hv).1
 simp only[fileOf,OT,yG.mk.injEq] at h
 omega
theorem EK.look {d:eQ} {k:Nat} {L:Rz} {me:List (Int×List Int)} (h:EK d k L me) (hg:Good d.revs) {v:Rev} (hv:d.revs[k]? =some v) (h5:¬v.act=5):
 (v.act=1∧gX L.index (nG v)=none∧Nz L (nG v)=none)∨
 (¬v.act=1∧∃(u:Nat) (w:Rev),u<k∧d.revs[u]? =some w∧¬w.act=5∧fileOf w=nG v∧w.chg<v.chg∧gX L.index (nG v)=some (u:Int)∧Nz L (nG v)=some (u:Int)∧0≤L.fst.getD u 0∧L.fst.getD u 0≤u):=by
 rcases Jt hg hv h5 with⟨h1,hb⟩|⟨h1,u,w,a1,a2,a3,a4,a5⟩
 ·have hn:gX L.index (nG v)=none:=by
   cases hk:gX L.index (nG v) with
   |none=>rfl
   |some i=>
    obtain⟨j,w,_,_,b3,b4⟩:=(h.ix _ _).1 hk
    exact absurd (b4.trans hb) (MS hg b3)
  exact .inl ⟨h1,hn,by simp[Nz,hn]⟩
 ·have hs:gX L.index (nG v)=some (u:Int):=(h.ix _ _).2 ⟨u,w,rfl,a1,a2,a4⟩
  obtain⟨f1,f2⟩:=h.fm u w a1 a2 a3
  exact .inr ⟨h1,u,w,a1,a2,a3,a4,a5,hs,by simp only[Nz,hs,Int.toNat_natCast,f1,if_true],f1,f2⟩
end Go.Proofs.YtpoodoknkbojgaaGreatDoor
set_option linter.all false
namespace Go.Ab
variable [Dr]
def QB (p:Bool×List C):Bool:=p.2.all Gn
def Il:AO→Bool
 | .box cs=>cs.all Gn
 | .arr _ xs=>xs.flatten.all Gn
 | .map es=>es.all fun e=>QB e.1&&QB e.2
 | .dead=>true
 |_=>false
section
variable {P:Program} {x:X}
theorem H9 {k k':K} (hb:k'.bl=k.bl) (hc:k'.cap=k.cap) (hd:k'.dom=k.dom) {p:Bool×List C} {v:Value} (h:QB p=true) (hr:bM (ah k) p v):bM (ah k') p v:=by
 obtain⟨f,cs⟩:=p
 cases f with
 |true=>
  obtain⟨vs,e,hr⟩:=(show ∃vs:List Value,v= .agg vs.toArray∧ai (ah k) cs vs from hr)
  exact(show bM (ah k') (true,cs) v from⟨vs,e,qo hb hc hd h hr⟩)
 |false=>
  obtain⟨⟨y,e,hr1⟩,hn⟩:=(show(∃y,cs=[y]∧ah k y v)∧∀cs,v≠ .agg cs from hr)
  subst e
  simp[QB] at h
  exact(show bM (ah k') (false,[y]) v from⟨⟨y,rfl,AL hb hc hd h hr1⟩,hn⟩)
theorem aA.shut2 {bl:Nat→List Nat} {cap:Nat→Nat} {st:List (Nat×AO)} {w:World} {D:Nat} (hs:aA x bl cap st w) (hf:∀id o,get st id=some o→Il o=true) (hM:¬(mkK x bl cap st w).M D) (hD:x.w0.heap.size≤D) (o:Obj):aA x bl cap st (w.putObj D o):=by
 have other:∀{id:Nat} {ob:AO} {b:Nat},get st id=some ob→ob.aV=true→b∈bl id→b≠D:=fun h1 h2 h3 e=>hM (.inl ⟨_,_,h1,h2,by rw[←e];exact h3⟩)
 refine⟨?_,hs.disj,hs.nodup,hs.new,fun b hb=>by simp only[World.putObj];simp;exact hs.lt b hb,?_,hs.keep,hs.xok⟩
 ·intro id ob ho
  have h0:=hs.objs id ob ho
  have hw:=hf id ob ho
  cases ob with
  |box cs=>
   obtain⟨b,T,vs,h1,h2,h3⟩:=h0
   simp only[mkK] at h1
   refine⟨b,T,vs,h1,?_,qo (k:=mkK x bl cap st w) (k':=mkK x bl cap st (w.putObj D o)) rfl rfl rfl hw h3⟩
   exact(World.putObj_heap_other (other ho rfl (by rw[h1];simp))).trans h2
  |arr sz xs=>
   obtain⟨h1,h2,h3,h4⟩:=h0
   refine⟨h1,h2,h3,?_⟩
   rcases h4 with h4|⟨b,T,vs,a1,a2,a3,a4⟩
   ·exact .inl h4
   ·simp only[mkK] at a1
    refine .inr ⟨b,T,vs,a1,(World.putObj_heap_other (other ho rfl (by rw[a1];simp))).trans a2,a3,qo (k:=mkK x bl cap st w) (k':=mkK x bl cap st (w.putObj D o)) rfl rfl rfl hw a4⟩
  |map es=>
   obtain⟨b,ents,clock,h1,h2,h3,h4⟩:=h0
   simp only[mkK] at h1
   refine⟨b,ents,clock,h1,(World.putObj_heap_other (other ho rfl (by rw[h1];simp))).trans h2,h3,?_⟩
   replace hw:(es.all fun e=>QB e.1&&QB e.2)=true:=hw
   clear h2 h3 ho
   induction h4 with
   |nil=>exact .nil
   |cons h _ ih=>
    simp only[List.all_cons,Uf] at hw
    exact .cons ⟨H9 (k:=mkK x bl cap st w) (k':=mkK x bl cap st (w.putObj D o)) rfl rfl rfl hw.1.1 h.1,H9 (k:=mkK x bl cap st w) (k':=mkK x bl cap st (w.putObj D o)) rfl rfl rfl hw.1.2 h.2⟩ (ih hw.2)
  |dead=>trivial
  |_=>simp[Il] at hw
 ·refine⟨by simp only[World.putObj];simp;exact hs.fr.size,fun b hb hm=>?_,hs.fr.os,hs.fr.output,hs.fr.tape,hs.fr.drawn⟩
  rw[World.putObj_heap_other (by omega)]
  exact hs.fr.heap b hb hm
def SV (P:Program) (rs:List ResultVar) (x:X) (R:AV→List (Nat×AO)→Prop):Exit→S→Prop:=fun e s=>
 (e= .ret∨e= .normal)∧∃s1,qc x s s1∧(∀id o,get s1.st id=some o→Il o=true)∧(∀i v,get s1.env i=some v→EJ v=true)∧∃r obl,xm P rs s1=some (r,obl)∧All obl∧
   ∃st',Qy x (fun i=>i) s1.st st'∧ax (ae st') r∧R r st'
theorem Iu {f:FuncId} {fn:Func} {c:Code} {args:List AV} {st:List (Nat×AO)} {R:AV→List (Nat×AO)→Prop} (hf:P.funcs[f]? =some fn) (hb:fn.body=some c)
 (hname:(fn.name=="runtime.NumGoroutine")=false) (hlen:args.length≤fn.ntmps)
 (h:∀x:X,x.rf=true→(∀id,x.d0 id→ae st id=true)→T P x c ⟨fn.ntmps,(List.range args.length).zip args,st⟩ (SV P fn.results.toList x R)):AC P f args st R:=by
 refine⟨⟨fn,hf,hname,by rw[hb];rfl⟩,fun bl cap F w us hs ha=>?_⟩
 refine callsIn_wide.1 (callsIn_of_wp_marks (n:=1) hf hb trivial (wpIn_wide.2 ?_))
 obtain⟨y,hy⟩:∃y:X,y={X.start bl cap F st w with rf:=true}:=⟨_,rfl⟩
 have hx:=h y (by rw[hy]) (fun id h=>by rw[hy] at h;exact h)
 have hl:=ha.length
 have hsx:aA y bl cap st w:=by rw[hy];exact⟨hs.objs,hs.disj,hs.nodup,hs.new,hs.lt,⟨hs.fr.size,hs.fr.heap,hs.fr.os,hs.fr.output,hs.fr.tape,hs.fr.drawn⟩,hs.keep,⟨hs.xok.lt,hs.xok.dis⟩⟩
 refine wp_mono (hx _ w ⟨bl,cap,hsx,?_, .nil _ _,?_⟩) ?_
 ·intro i v hv
  have hm:=get_mem hv
  obtain⟨j,hj,e⟩:=UA.1 hm
  simp only[List.getElem_zip,List.getElem_range,UT] at e
  obtain⟨rfl,rfl⟩:=e
  simp at hj
  obtain⟨u,hu,hr⟩:=ha.get (i:=j) (a:=args[j]) (by simp[hj])
  refine⟨u,?_,by rw[hy];exact hr⟩
  have hj':j<us.length:=by omega
  rw[Array.getElem?_append_left (by simpa using hj')]
  simpa using hu
 ·simp;omega
 ·rintro e a w' ⟨s',⟨he,s1,hent,hws,hwe,r,obl,hret,hobl,st',hsub,hcl,hR⟩,hsat⟩
  obtain⟨bl',cap',hs',henv,⟨Ds,d0,_,d2,d3⟩,_⟩:=hent _ _ hsat
  have e0:y.w0=w:=by rw[hy];rfl
  have leave:∀(Ds:List Nat) (w2:World),Ds.Nodup→(∀D∈Ds,¬(mkK y bl' cap' s1.st w2).M D∧w.heap.size≤D∧w2.heap[D]? =some (.deferred (some [])))→
   aA y bl' cap' s1.st w2→dV (mkK y bl' cap' s1.st w2) s1.env a.tmps→
   LeavesInM Fence.wide 1 P fn a.tmps (fun e w'=>∃r st' bl' cap' v,e= .returned v∧R r st'∧(st'.map (·.1)).Nodup∧aA (X.start bl cap F st w) bl' cap' st' w'∧af (mkK (X.start bl cap F st w) bl' cap' st' w') r v)
    (Ds.map fun D=>{target:= .collected D,args:= #[]}) .returning w2:=by
   intro Ds
   induction Ds with
   |nil=>
    intro w2 _ _ hs2 he2
    obtain⟨v,hv,hrv⟩:=GI hs2 he2 hret hobl
    obtain⟨h1,_,h2⟩:=hs2.sub hsub
    have hrep:=dZ (ρ:=fun i=>i) h2 hcl (by rw[aQ];exact hrv)
    subst hy
    exact⟨v,hv,r,st',_,_,v,rfl,hR,hsub.inj,⟨h1.objs,h1.disj,h1.nodup,h1.new,h1.lt,⟨h1.fr.size,h1.fr.heap,h1.fr.os,h1.fr.output,h1.fr.tape,h1.fr.drawn⟩,h1.keep,hs.xok⟩,hrep⟩
   |cons D Ds ih=>
    intro w2 hnd hD hs2 he2
    obtain⟨hnm,hnd⟩:=List.nodup_cons.1 hnd
    obtain⟨hD0,hD1,hD2⟩:=hD D (by simp)
    refine⟨by simp, .inl ⟨D,_,rfl,run_takeDeferred hD2,ih _ hnd ?_ (hs2.shut2 hws hD0 (by rw[e0];exact hD1) _) ?_⟩⟩
    ·intro D' hD'
     obtain⟨h0,h1,h2⟩:=hD D' (by simp[hD'])
     exact⟨h0,h1,(World.putObj_heap_other (fun e=>hnm (by rw[←e];exact hD'))).trans h2⟩
    ·intro i v hv
     obtain⟨u,hu,hr⟩:=he2 i v hv
     exact⟨u,hu,LJ (k:=mkK y bl' cap' s1.st w2) (k':=mkK y bl' cap' s1.st (w2.putObj D (Obj.deferred none))) rfl rfl rfl (hwe i v hv) hr⟩
  have:=leave Ds w' d2 (fun D hD=>by rw[←e0];exact d3 D hD) hs' henv
  rw[←d0] at this
  rcases he with rfl|rfl<;>exact this
end
end Go.Ab
