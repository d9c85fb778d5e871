/- A part of the proof. -/
import Derived.Test.YtpoodoknkbojgaaGreatDoorRU4
import Derived.Laws.BytesString
import Derived.Scope
set_option linter.all false
namespace Go.Proofs.YtpoodoknkbojgaaGreatDoor
open Go.Ab
def La (d:eQ):Prop:=∀r∈d.recs,∃v∈d.revs,fileOf v=⟨r.to,r.num⟩
theorem L8 {d:eQ} {c:uA} (h:La d) (hk:vZ d c):La (gV d c):=by
 intro r hr
 simp only[gV,rP,Uw] at hr
 rcases hr with hr|hr
 ·obtain⟨v,h1,h2⟩:=h r hr
  exact⟨v,by simp[gV,h1],h2⟩
 ·obtain⟨j,hj,er⟩:=UA.1 hr
  have h0:=hk.recd j hj
  rw[show c.recs.getD j rM=r by simp[List.getD,hj,er]] at h0
  obtain⟨x,hx,⟨t1,t2,t3⟩,_⟩:=h0.okTgt
  exact⟨made c x,by simp only[gV,Uw,Uy];exact .inr ⟨x,hx,rfl⟩,by simp only[fileOf,made,t1,t2]⟩
theorem jk.to {l:List uA} {d:eQ} (h:jk l d):La d:=by
 induction h with
 |nil=>intro r hr;simp[KA] at hr
 |skip c h ih=>exact ih
 |app h hc hk ih=>exact L8 ih hk
section
variable {d:eQ} {c:uA} (hg:Good d.revs) (hN:d.revs.length≤512) (hk:vZ d c)
include hg hN hk
theorem Bj (ht:La d) {a:Nat} (ha:a<c.edits.length) (r:iR):r∈zF (gV d c) (fileOf (made c (c.edits.getD a dh)))↔r∈c.recs∧(⟨r.to,r.num⟩:yG)=fileOf (made c (c.edits.getD a dh)):=by
 simp only[zF,UD,gV,rP,Uw,TW]
 constructor
 ·rintro⟨h|h,e⟩
  ·exfalso
   obtain⟨v,h1,h2⟩:=ht r h
   obtain⟨i,hi⟩:=UO h1
   exact JL hg hN hk hi ha (h2.trans e)
  ·exact⟨h,e⟩
 ·rintro⟨h,e⟩;exact⟨.inr h,e⟩
end
theorem A8 {l:List Rev} (h:l.Pairwise fun u v=>u.num<v.num):∀{j i:Nat} {u v:Rev},i≤j→l[i]? =some u→l[j]? =some v→u.num+((j:Int)-i)≤v.num
 |0,i,u,v,hij,hu,hv=>by
  have:i=0:=by omega
  subst this;rw[hu] at hv;cases hv;omega
 |j+1,i,u,v,hij,hu,hv=>by
  by_cases e:i=j+1
  ·subst e;rw[hu] at hv;cases hv;omega
  ·obtain⟨hj,ev⟩:=Ue.1 hv
   have hw:l[j]? =some l[j]:=TT (by omega)
   have ih:=A8 h (j:=j) (by omega) hu hw
   have:=(List.pairwise_iff_getElem.1 h) j (j+1) (by omega) hj (by omega)
   rw[ev] at this
   omega
theorem Mc {d:eQ} (hg:Good d.revs) (p:VJ):(log d p).Pairwise fun u v=>u.num<v.num:=by
 have h0:d.revs.Pairwise fun u v=>u.path=v.path→u.num<v.num:=
  List.pairwise_iff_getElem.2 fun i j hi hj hij e=>(hg.path i j _ _ hij (TT hi) (TT hj) e).2
 refine(h0.filter (fun v=>decide (v.path=p))).imp_of_mem ?_
 intro u v hu hv h
 have h1:=(UD.1 hu).2
 have h2:=(UD.1 hv).2
 simp only[TW] at h1 h2
 exact h (by rw[h1,h2])
theorem OH {d:eQ} (hg:Good d.revs) (hn:uo d) (p:VJ) {i:Nat} {v:Rev} (hv:(log d p)[i]? =some v):v.num=(i:Int)+1:=by
 have hp:=Mc hg p
 have hi:=(Ue.1 hv).1
 have mem:∀{k:Nat} {u:Rev},(log d p)[k]? =some u→1≤u.num∧u.num≤(log d p).length:=by
  intro k u hu
  have hm:=TZ hu
  obtain⟨h1,h2⟩:=UD.1 hm
  simp only[TW] at h2
  obtain⟨j,hj⟩:=UO h1
  have:=hg.num j u hj
  have h3:=hn u h1
  rw[h2] at h3
  omega
 have h0:(log d p)[0]? =some (log d p)[0]:=TT (by omega)
 have hl:(log d p)[(log d p).length-1]? =some (log d p)[(log d p).length-1]:=TT (by omega)
 have a:=A8 hp (by omega) h0 hv
 have b:=A8 hp (by omega) hv hl
 have c:=mem h0
 have e:=mem hl
 omega
theorem Jf {d:eQ} (hg:Good d.revs) (hn:uo d) {p:VJ} {n:Int} (h1:1≤n) (h2:n≤(log d p).length):∃v,uN d p n=some v:=by
 have hi:(n-1).toNat<(log d p).length:=by omega
 have hv:(log d p)[(n-1).toNat]? =some (log d p)[(n-1).toNat]:=TT hi
 have:=OH hg hn p hv
 cases hf:uN d p n with
 |some v=>exact⟨v,rfl⟩
 |none=>
  exfalso
  have h3:=List.find?_eq_none.1 hf _ (TZ hv)
  simp only[TW] at h3
  omega
def Gq (d:eQ):Prop:=∀(k:Nat) (v:Rev),d.revs[k]? =some v→∀r∈zF d (fileOf v),1≤r.first∧r.first≤r.last∧1≤r.how∧r.how≤4∧
 ∀n,r.first≤n→n≤r.last→∃(j:Nat) (u:Rev),j<k∧d.revs[j]? =some u∧fileOf u=⟨r.frm,n⟩∧¬u.act=5
theorem IE {d:eQ} {c:uA} (hg:Good d.revs) (hN:d.revs.length≤512) (ht:La d) (hn:uo d) (h:Gq d) (hk:vZ d c):Gq (gV d c):=by
 intro k v hv r hr
 rcases UI k d.revs.length with hlt|hge
 ·rw[uY hg hN hk hlt] at hv
  obtain⟨a1,a2,a3,a4,a5⟩:=h k v hv r ((KZ hg hN hk hv r).1 hr)
  refine⟨a1,a2,a3,a4,fun n n1 n2=>?_⟩
  obtain⟨j,u,j1,j2,j3,j4⟩:=a5 n n1 n2
  exact⟨j,u,j1,by rw[uY hg hN hk (by omega)];exact j2,j3,j4⟩
 ·obtain⟨a,rfl⟩:∃a,k=d.revs.length+a:=⟨k-d.revs.length,by omega⟩
  have ha:a<c.edits.length:=by
   have:=(Ue.1 hv).1
   simp only[gV,Uo,Ub] at this;omega
  rw[Gi hg hN hk ha] at hv
  cases hv
  obtain⟨hr1,_⟩:=(Bj hg hN hk ht ha r).1 hr
  obtain⟨j,hj,er⟩:=UA.1 hr1
  have h0:=hk.recd j hj
  rw[show c.recs.getD j rM=r by simp[List.getD,hj,er]] at h0
  refine⟨h0.okLo,h0.okLe,h0.okHow.1,h0.okHow.2,fun n n1 n2=>?_⟩
  have hlo:=h0.okLo
  have hhi:=h0.okHi
  obtain⟨u,hu⟩:=Jf hg hn (p:=r.frm) (n:=n) (by omega) (by omega)
  obtain⟨i,hi,ei⟩:=(xx hg).1 hu
  have hil:=(Ue.1 hi).1
  refine⟨i,u,by omega,by rw[uY hg hN hk hil];exact hi,ei,?_⟩
  have:=(h0.okLine n n1 n2).1
  rwa [show Ik d r.frm n=u by simp[Ik,hu]] at this
theorem jk.src {l:List uA} {d:eQ} (h:jk l d):Gq d:=by
 induction h with
 |nil=>intro k v hv;simp[KA] at hv
 |skip c h ih=>exact ih
 |app h hc hk ih=>exact IE h.good h.ok.1 h.to h.QG ih hk
section
variable {d:eQ} (hg:Good d.revs) (hS:Gq d)
include hg hS
end
structure Q5 (d:eQ) (x:MN):Prop where
 lo:1≤x.first
 le:x.first≤x.last
 run:OZ d x
 head:dn d x.to=x.head
 kind:(x.kind=1∧live d x.to=false∧¬(MV d x).act=3∧x.move=noS)∨
  (x.kind=(if(MV d x).act=3 then 3 else 2)∧live d x.to=true∧¬SI d x.to x.head=some x.line∧(x.move=noS∨(gZ x.move).isSome=true∧live d x.move=false∧¬x.move=x.to))
 to:(gZ x.to).isSome=true
theorem Q5.fits {d:eQ} {x:MN} (h:Q5 d x) (ht:x.to.size≤200) (hm:x.move.size≤200):Fits d x:=by
 have hu:qi x.to=true:=by simp[qi,h.to,ht]
 rcases h.kind with⟨k,l,s,m⟩|⟨k,l,i,m⟩
 ·refine⟨by omega,h.lo,h.le,h.run,hu,h.head,?_⟩
  simp[JX,k,l,J6,s,m]
 ·have hk:x.kind=2∨x.kind=3:=by rw[k];split<;>simp
  have hd:(J6 d x==decide (x.kind=3))=true:=by
   rw[k]
   unfold J6
   by_cases e:(MV d x).act=3<;>simp[e]
  refine⟨by omega,h.lo,h.le,h.run,hu,h.head,?_⟩
  have k1:¬x.kind=1:=by omega
  simp only[JX,if_neg k1,l,Vs,i,VI,Vz,hd]
  rcases m with m|⟨m1,m2,m3⟩
  ·simp[Qo,m]
  ·simp[Qo,qi,m1,hm,m2,m3]
end Go.Proofs.YtpoodoknkbojgaaGreatDoor
namespace Go.Ab
variable [Dr]
def mr (P:Program) (f:FuncId) (args:List AV) (r:AV) (st0:List (Nat×AO)) (st1:Option (List (Nat×AO))) (ob:Nat→Option AO):Option Out:=
 some ⟨r,st1.getD [],[∀p∈st0,ob p.1=some p.2,∀p∈st0,aH (ae st0) p.2,∀a∈args,ax (ae st0) a,AC P f args st0 (fun r' st'=>r'=r∧st'=st1.getD st0),∀p∈st1.getD [],ae st0 p.1=true∨ob p.1=none]⟩
omit [Dr] in
theorem Ko {l:List (Nat×AO)} {i:Nat} {a:AO} (h:get l i=some a):put l i a=l:=by
 induction l with
 |nil=>simp[Ab.get] at h
 |cons p l ih=>
  obtain⟨j,y⟩:=p
  simp only[Ab.get] at h
  simp only[Ab.put]
  by_cases e:j=i
  ·subst e;simp at h;subst h;simp
  ·rw[if_neg e] at h⊢
   rw[ih h]
omit [Dr] in
theorem mQ {st:List (Nat×AO)}:∀{l:List (Nat×AO)},(∀p∈l,get st p.1=some p.2)→ag st l=st
 |[],_=>rfl
 |p::l,h=>by
  have e:ag st (p::l)=ag (put st p.1 p.2) l:=rfl
  rw[e,Ko (h p List.mem_cons_self)]
  exact mQ fun q hq=>h q (U0 _ hq)
omit [Dr] in
theorem Bg {l:List (Nat×AO)} {q:Nat×AO} (h:q∈l):ae l q.1=true:=by
 induction l with
 |nil=>cases h
 |cons p l ih=>
  obtain⟨j,y⟩:=p
  simp only[ae,Ab.get]
  by_cases e:j=q.1
  ·rw[if_pos e];rfl
  ·rw[if_neg e]
   rcases TS.1 h with rfl|h
   ·exact absurd rfl e
   ·exact ih h
omit [Dr] in
theorem pushes:∀(ns:List UInt8) (r:VJ),(ns.map fun b:UInt8=>(b.toNat:Int)).foldl (fun r n=>r.push (UInt8.ofNat n.toNat)) r=⟨r.data++ns.toArray⟩
 |[],r=>by simp
 |b::ns,r=>by
  rw[Un,List.foldl_cons,pushes ns]
  simp[ByteArray.push]
omit [Dr] in
theorem Bc {P:Program} {M:Nat→Prop} {w:World} {T T2 e:TypeId} {str:VJ} {u:Value} (h1:P.underlying T=some (.slice e)) (he:P.underlying e=some (.int .u8)) (h2:P.underlying T2=some .string)
 (h:aP M w (.ps 1 (str.data.toList.map fun b=>[.v (.int .u8 b.toNat)])) u):(convert T T2 u).run P w= .ok (.string str) w:=by
 have hs:(⟨str.data.toList.toArray⟩:VJ)=str:=by simp
 generalize hbs:str.data.toList=bs at h hs
 generalize hxs:bs.map (fun b=>[D.v (.int .u8 b.toNat)])=xs at h
 have fin:∀(a:Addr) (cap:Nat),(∀j,j<bs.length→w.cell? (a.add j)=some (.int .u8 ((bs[j]?).getD 0).toNat))→(convert T T2 (.slice (some a) bs.length cap)).run P w= .ok (.string str) w:=by
  intro a cap hc
  rw[run_convert_bytes_string w T T2 e _ _ _ h1 he h2]
  have hl:=run_loadCells_list (P:=P) w a ((bs.map fun b:UInt8=>(b.toNat:Int)).map (Value.int .u8)) (fun j v hj=>by
   rw[UB,UB] at hj
   cases hb:bs[j]? with
   |none=>rw[hb] at hj;cases hj
   |some b=>
    rw[hb] at hj;cases hj
    have:=hc j (Ue.1 hb).1
    rw[hb] at this
    exact this)
  rw[Ub,Ub] at hl
  rw[run_bytesToString w a bs.length cap _ hl,pushes]
  simp[hs]
 cases h with
 |nil _ a cap=>
  have hb:bs=[]:=by simpa using hxs
  subst hb
  cases a with
  |none=>
   rw[run_convert_bytes_string w T T2 e _ _ _ h1 he h2]
   show Result.ok (Value.string ByteArray.empty) w=_
   rw[←hs];rfl
  |some a=>exact fin a cap (by simp)
 |ps _ _ b o cap f hM hl hc hr hcap hb=>
  subst hxs
  rw[Ub] at hc hr⊢
  refine fin ⟨b,o,none⟩ cap fun j hj=>?_
  have h3:=hr j 0 hj (by omega)
  rw[dO]
  have h4:=hc j 0 hj (by omega)
  rw[Nat.mul_one,Nat.add_zero] at h4
  rw[h4]
  have h5:((List.map (fun b:UInt8=>[D.v (.int .u8 b.toNat)]) bs).getD j []).getD 0 default=D.v (.int .u8 ((bs[j]?).getD 0).toNat):=by
   simp[List.getD,TT hj]
  rw[h5] at h3
  exact congrArg some ((fun z (h:aP M w (.v (.int .u8 ((bs[j]?).getD 0).toNat)) z)=>by cases h;rfl:∀z,aP M w (.v (.int .u8 ((bs[j]?).getD 0).toNat)) z→z= .int .u8 ((bs[j]?).getD 0).toNat) _ h3)
abbrev Px:=List (Nat×(List (Nat×AO)×Option (List (Nat×AO))))
def BD (ls:Px) (o:Oper):Option (List (Nat×AO)×Option (List (Nat×AO))):=match o.dst with|some d=>get ls d|none=>none
def mY (P:Program) (wr:Bool) (ops:List Oper) (cs:List (Nat×AV)) (ls:Px) (o:Oper) (s:S):Option Out:=
 match BD ls o with
 |some p=>
  match o.guard,o.op with
  |none, .call {callee:= .value (.func f),args:=⟨asq⟩,argTypes:=_}=>
   match fA s asq,get cs (o.dst.getD 0) with
   |some args,some r=>mr P f args r p.1 p.2 (get s.st)
   |_,_=>none
  |some (j,want), .call {callee:= .value (.func f),args:=⟨asq⟩,argTypes:=_}=>
   match oQ ops s j,eY.evsAll s asq,get cs (o.dst.getD 0) with
   |some (bs,b),some args,some r=>
    match mr P f args r p.1 p.2 (get s.st) with
    |some out=>some ⟨out.v,out.upd,(aY bs (if want then b else !b)=true)::(jA s asq++out.obl)⟩
    |none=>none
   |_,_,_=>none
  |some (j,want), .buildSlice _ _ _=>
   match oQ ops s j with
   |some (bs,b)=>some ⟨.cond (aY bs (if want then b else !b)) (.c (.d (.v (.int .i64 0)))),[],[aY bs (if want then b else !b)=false]⟩
   |none=>none
  |none, .convert T T2 y=>
   match get cs (o.dst.getD 0),fA s [y] with
   |some (.c (.d (.v (.string str)))),some [.c (.d (.ps 1 xs))]=>some ⟨.c (.d (.v (.string str))),[],[∃e,P.underlying T=some (.slice e)∧P.underlying e=some (.int .u8),P.underlying T2=some .string,xs=str.data.toList.map fun b=>[.v (.int .u8 b.toNat)]]⟩
   |_,_=>none
  |_,_=>none
 |none=>eY P wr ops cs o s
def ry (ops:List Oper) (ls:Px) (o:Oper) (s:S):List (uz×Option Ct):=
 readsOf ops o s++(match BD ls o with|some p=>(p.1++p.2.getD []).map fun q=>((false,q.1),look s (false,q.1))|none=>[])
def RI (ops:List Oper) (ls:Px) (o:Oper) (s:S) (out:Out):A1:=⟨ry ops ls o s,o.dst.map fun d=>(d,out.v),out.upd⟩
def qW (P:Program) (wr:Bool) (ops:List Oper) (cs:List (Nat×AV)) (ls:Px):List Oper→S→Option (List A1×List Prop×S)
 |[],s=>some ([],[],s)
 |o::l,s=>
  if iV o s.n then
   match mY P wr ops cs ls o s with
   |some out=>
    match qW P wr ops cs ls l ⟨s.n,cZ s.env o.dst out.v,ag s.st out.upd⟩ with
    |some (As,ps,s')=>some (RI ops ls o s out::As,out.obl++ps,s')
    |none=>none
   |none=>none
  else none
omit [Dr] in
theorem Hu {ops:List Oper} {ls:Px} {o:Oper} {s s':S} {out:Out} (hn:s'.n=s.n):(RI ops ls o s out).app s'=⟨s.n,cZ s'.env o.dst out.v,ag s'.st out.upd⟩:=by
 simp only[A1.app,RI,hn]
 cases o.dst<;>rfl
section
variable {P:Program} {x:X} {ops:List Oper} {ls:Px} {o:Oper} {s s':S} {wr:Bool} {cs:List (Nat×AV)}
omit [Dr] in
theorem Jb (h:∀p∈ry ops ls o s,look s' p.1=p.2):∀p∈readsOf ops o s,look s' p.1=p.2:=fun p hp=>h p (UR _ hp)
theorem CQ (h:∀p∈ry ops ls o s,look s' p.1=p.2):mY P wr ops cs ls o s'=mY P wr ops cs ls o s:=by
 have h0:=Jb h
 unfold mY
 cases hl:BD ls o with
 |none=>exact sV h0
 |some p=>
  have hob:∀q∈p.1++p.2.getD [],get s'.st q.1=get s.st q.1:=by
   intro q hq
   refine uS (h ((false,q.1),look s (false,q.1)) ?_)
   unfold ry
   rw[hl]
   exact UM _ (Uy.2 ⟨q,hq,rfl⟩)
  have hcall:∀f args r,mr P f args r p.1 p.2 (get s'.st)=mr P f args r p.1 p.2 (get s.st):=by
   intro f args r
   unfold mr
   have e1:(∀q∈p.1,get s'.st q.1=some q.2)=(∀q∈p.1,get s.st q.1=some q.2):=
    propext ⟨fun g q hq=>by rw[←hob q (UR _ hq)];exact g q hq,fun g q hq=>by rw[hob q (UR _ hq)];exact g q hq⟩
   have e2:(∀q∈p.2.getD [],ae p.1 q.1=true∨get s'.st q.1=none)=(∀q∈p.2.getD [],ae p.1 q.1=true∨get s.st q.1=none):=
    propext ⟨fun g q hq=>by rw[←hob q (UM _ hq)];exact g q hq,fun g q hq=>by rw[hob q (UM _ hq)];exact g q hq⟩
   rw[e1,e2]
  simp only
  split
  ·rename_i f asq ats hg hop
   rw[iL h0 fun y hy=>by rw[hop];simp[Op.operands,Call.operands,hy]]
   split
   ·exact hcall _ _ _
   ·rfl
  ·rename_i j want f asq ats hg hop
   rw[mO h0 hg,jb h0 fun y hy=>by rw[hop];simp[Op.operands,Call.operands,hy],iF h0 (l:=asq) fun y hy=>by rw[hop];simp[Op.operands,Call.operands,hy]]
   split
   ·rw[hcall]
   ·rfl
  ·rename_i j want _ _ _ hg hop
   rw[mO h0 hg]
  ·rename_i T T2 y hg hop
   rw[iL h0 fun y' hy=>by rw[hop];simpa[Op.operands,Call.operands] using hy]
  ·rfl
theorem Ed {out:Out} (h:mY P wr ops cs ls o s=some out) (ho:All out.obl) (hdst:iV o s.n=true) {a:Act} {w:World} (hsat:Sat x s a w)
 {K:Act→World→Prop} {Q:Exit→Act→World→Prop} (hK:∀a w,Sat x ⟨s.n,cZ s.env o.dst out.v,ag s.st out.upd⟩ a w→K a w):
 if Region.wanted o (yielded ops.toArray a.tmps) then o.wp P a w K Q else K (a.put o.dst undef) w:=by
 have hd:∀i,o.dst=some i→i<s.n:=fun i hi=>by simpa[iV,hi] using hdst
 unfold mY at h
 cases hl:BD ls o with
 |none=>rw[hl] at h;exact mM h ho hdst hsat hK
 |some p=>
  rw[hl] at h
  simp only at h
  split at h
  ·rename_i f asq ats hg hop
   rw[if_pos (by simp[Region.wanted,hg])]
   obtain⟨bl,cap,hs,henv,hdf,hsz⟩:=hsat
   split at h
   ·rename_i args r hargs hr
    unfold mr at h
    cases h
    simp only[All] at ho
    obtain⟨o1,o2,o3,o4,o5, -⟩:=ho
    refine qy (st0:=p.1) hop hd ⟨o1,o2,o3⟩ o4 hs henv hdf hsz (fM henv hargs) ?_
    rintro r' st' ⟨rfl,rfl⟩
    obtain⟨st0,st1⟩:=p
    cases st1 with
    |some st1=>exact⟨o5,fun a w h=>hK a w h⟩
    |none=>
     simp only[Option.getD] at o1 hK⊢
     refine⟨fun q hq=> .inl ?_,fun a w h=>hK a w ?_⟩
     ·exact Bg hq
     ·rw[mQ o1] at h;exact h
   ·cases h
  ·rename_i j want f asq ats hg hop
   obtain⟨bl,cap,hs,henv,hdf,hsz⟩:=hsat
   split at h
   ·rename_i bs b args r hgv hargs hr
    unfold mr at h
    simp only at h
    cases h
    simp only[All] at ho
    obtain⟨hG,ho⟩:=ho
    obtain⟨hob,ho⟩:=All.append ho
    simp only[All] at ho
    obtain⟨o1,o2,o3,o4,o5, -⟩:=ho
    rw[lG henv hg hgv,hG,if_pos rfl]
    refine qy (st0:=p.1) hop hd ⟨o1,o2,o3⟩ o4 hs henv hdf hsz (lJ henv hargs hob) ?_
    rintro r' st' ⟨rfl,rfl⟩
    obtain⟨st0,st1⟩:=p
    cases st1 with
    |some st1=>exact⟨o5,fun a w h=>hK a w h⟩
    |none=>
     simp only[Option.getD] at o1 hK⊢
     refine⟨fun q hq=> .inl ?_,fun a w h=>hK a w ?_⟩
     ·exact Bg hq
     ·rw[mQ o1] at h;exact h
   ·cases h
  ·rename_i j want _ _ _ hg hop
   obtain⟨bl,cap,hs,henv,hdf,hsz⟩:=hsat
   split at h
   ·rename_i bs b hgv
    cases h
    simp only[All] at ho
    have hG:=ho.1
    rw[lG henv hg hgv,hG,if_neg (by simp)]
    refine hK _ _ ⟨bl,cap,hs,henv.cZ (fun i hi=>by rw[hsz];exact hd i hi) (And.intro (fun h'=>by rw[hG] at h';cases h') (fun _=>rfl)),by rw[Act.put_defers];exact hdf,by rw[Act.bQ];exact hsz⟩
   ·cases h
  ·rename_i T T2 y hg hop
   rw[if_pos (by simp[Region.wanted,hg])]
   obtain⟨bl,cap,hs,henv,hdf,hsz⟩:=hsat
   split at h
   ·rename_i str xs hr hargs
    cases h
    simp only[All] at ho
    obtain⟨⟨e,o1,o2⟩,o3,rfl, -⟩:=ho
    have hrep:=fM henv hargs
    simp only[Un,U3] at hrep
    have hrun:(execOp a.eval o).run P w= .ok (.value (.string str)) w:=by
     cases hrep with
     |cons h1 _=>
      have h2:aP _ _ (.ps 1 _) (a.eval y):=h1
      simp only[execOp,hop]
      exact dG (Bc o1 o2 o3 h2)
    unfold Oper.wp
    rw[hrun]
    exact hK _ _ ⟨bl,cap,hs,henv.cZ (fun i hi=>by rw[hsz];exact hd i hi) (.v _ rfl),by rw[Act.put_defers];exact hdf,by rw[Act.bQ];exact hsz⟩
   ·cases h
  ·cases h
omit [Dr] in
theorem CX {q:uz×Option Ct} (h:q∈ry ops ls o s):q.2=look s q.1:=by
 unfold ry at h
 rcases Uw.1 h with h|h
 ·exact BP.reads_self h
 ·split at h
  ·obtain⟨y,_,rfl⟩:=Uy.1 h;rfl
  ·cases h
theorem GL:∀{l:List Oper} {s s':S} {As:List A1} {ps:List Prop},qW P wr ops cs ls l s=some (As,ps,s')→All ps→
 As.length=l.length∧ig As s l.length=s'∧(∀(i:Nat) (A:A1),As[i]? =some A→A.Fits (ig As s i))∧∀(i:Nat) (o:Oper) (A:A1),l[i]? =some o→As[i]? =some A→A.GX P x s.n ops.toArray o
 |[],s,s',As,ps,h,_=>by cases h;exact⟨rfl,rfl,by simp,by simp⟩
 |o::l,s,s',As,ps,h,hp=>by
  simp only[qW] at h
  split at h
  ·rename_i hd
   split at h
   ·rename_i out hout
    split at h
    ·rename_i As' ps' s'' hrec
     cases h
     obtain⟨p1,p2⟩:=All.append hp
     obtain⟨i1,i2,i3,i4⟩:=GL hrec p2
     have shift:∀i,ig (RI ops ls o s out::As') s (i+1)=ig As' ⟨s.n,cZ s.env o.dst out.v,ag s.st out.upd⟩ i:=by
      intro i
      induction i with
      |zero=>simp only[ig,List.getElem?_cons_zero];exact Hu rfl
      |succ i ih=>
       rw[ig,ih]
       simp only[List.getElem?_cons_succ]
       rfl
     refine⟨by simp[i1],by rw[List.length_cons,shift];exact i2,?_,?_⟩
     ·intro i A hA
      cases i with
      |zero=>simp at hA;subst hA;intro p hp;exact(CX hp).symm
      |succ i=>rw[shift];exact i3 i A (by simpa using hA)
     ·intro i o' A ho' hA
      cases i with
      |zero=>
       simp at ho' hA;subst ho';subst hA
       intro s1 a w hnn hs1 hf K Q hk
       have hloc:=CQ (P:=P) (wr:=wr) (cs:=cs) (ls:=ls) (ops:=ops) (o:=o) (s:=s) (s':=s1) hf
       rw[hout] at hloc
       refine Ed hloc p1 (by rw[hnn];exact hd) hs1 fun a w h=>hk a w ?_
       rw[Hu hnn,←hnn];exact h
      |succ i=>exact i4 i o' A (by simpa using ho') (by simpa using hA)
    ·cases h
   ·cases h
  ·cases h
theorem qf {id:Nat} {l:List Oper} {s s':S} {Q:Exit→S→Prop} (cs:List (Nat×AV)) (ls:Px) {As:List A1} {ps:List Prop} (hm:P.follows .mixedOrders=true)
 (h:qW P wr l cs ls l s=some (As,ps,s')) (ho:All ps) (hc:lU l As=true) (hQ:Q .normal s'):T P x (.region id l.toArray true) s Q:=by
 obtain⟨h1,h2,h3,h4⟩:=GL (x:=x) h ho
 have hord:=ww h1 h3 hc
 intro a w hs
 refine wp_region_any hm ?_
 refine wZ hord (fun i o A hi hA=>h4 i o A (by simpa using hi) hA) (by simpa[h2] using hQ) _ _ s a _ (by simp) ?_ rfl ?_ ?_ (hs.drew _ (by first|exact Nat.le_succ _|exact Nat.le_add_right _ _|(simp;done)|omega))
 ·intro i o e hi hL he hb
  have hlt:i<l.length:=by simpa using(Ve.1 hi).1
  rw[getD_in (by simpa using hlt) true false] at hL
  simp[Array.getD,hlt] at hL
 ·intro r
  have hz:∀i,(Array.replicate l.toArray.size false).getD i false=false:=by
   intro i;simp[Array.getD]
  have:cont As s (fun i=>(Array.replicate l.toArray.size false).getD i false) r l.toArray.size=cont As s (fun i=>(Array.replicate l.toArray.size false).getD i false) r 0:=
   jf (U8 _) (fun i _ _ _=>hz i)
  rw[this];rfl
 ·exact pz
end
end Go.Ab
namespace Go.Ab
variable [Dr] {P:Program} {x:X} {s:S} {Q:Exit→S→Prop} {c:Code}
theorem NE (hQ:∀l s,Q (.goto l) s→False) (h:T P x c s Q):T P x (.scope c) s Q:=fun a w hs=>
 wp_scope_straight (wp_mono (h a w hs) fun e a w hq=>by
  cases e with
  |goto l=>obtain⟨s',h1,_⟩:=hq;exact hQ _ _ h1
  |_=>exact hq)
theorem Nk {l:Nat} (h:Q .normal s):T P x (.label l) s Q:=fun a w hs=>wp_label ⟨s,h,hs⟩
end Go.Ab
