/- A part of the proof. -/
import Derived.Test.YtcpgicfphakdaaaGreatDoorRAbR
set_option linter.all false
namespace Go.Ab
variable [Dr]
section
variable {P:Program} {x:X} {ops:Array Oper}
omit [Dr] in
theorem NS {L:Array Bool} (back:∀(i:Nat) (o:Oper) (e:Edge),ops[i]? =some o→e∈o.after→Region.binds .any e=true→e.on<i) (hsz:L.size=ops.size) (hr:Region.ready .any ops L=[]):
 ∀i,i<ops.size→L.getD i false=true:=by
 intro i
 induction i using Nat.strongRecOn with
 |_ i ih=>
  intro hi
  cases hli:L.getD i false with
  |true=>rfl
  |false=>
   have:i∈Region.ready .any ops L:=by
    simp only[Region.ready,ahI,aht,afA,afU]
    refine⟨hi,by rw[getD_in (by omega) true false];exact hli,?_⟩
    rw[aj1 hi]
    simp only[Option.map_some,Option.getD_some,Array.all_eq_true,ajK,afU]
    intro j hj
    cases hbd:Region.binds .any (ops[i].after[j]) with
    |false=>left;rfl
    |true=>
     right
     have hb:=back i ops[i] (ops[i].after[j]) (by simp[hi]) (Array.getElem_mem hj) hbd
     exact ih _ hb (by omega)
   rw[hr] at this;cases this
omit [Dr] in
theorem JD {L:Array Bool} (hsz:L.size=ops.size) (hf:((List.range ops.size).filter fun i=>!L.getD i false).length≤0):Region.ready .any ops L=[]∧∀i,i<ops.size→L.getD i false=true:=by
 have hall:∀i,i<ops.size→L.getD i false=true:=by
  intro i hi
  have:((List.range ops.size).filter fun i=>!L.getD i false)=[]:=ajw.1 (by omega)
  rw[ajO] at this
  have:=this i (aht.2 hi)
  simpa using this
 refine⟨?_,hall⟩
 apply akE.2
 intro i hi
 obtain⟨h1,h2,_⟩:=mem_ready hi
 rw[getD_in (by omega) true false,hall i h1] at h2;cases h2
omit [Dr] in
theorem EF {L:Array Bool} {i:Nat} (hi:i<L.size) (k:Nat) (d:Bool):(L.setIfInBounds i true).getD k d=if k=i then true else L.getD k d:=by
 rw[ahP,ahP,Array.getElem?_setIfInBounds]
 by_cases e:i=k
 ·subst e;simp[hi]
 ·simp[e,Ne.symm e]
omit [Dr] in
theorem Ov {L:Array Bool} {i:Nat} (hsz:L.size=ops.size) (hcl:Closed ops L) (hi:i∈Region.ready .any ops L):
 (L.setIfInBounds i true).size=ops.size∧Closed ops (L.setIfInBounds i true)∧
   ((List.range ops.size).filter fun k=>!(L.setIfInBounds i true).getD k false).length<((List.range ops.size).filter fun k=>!L.getD k false).length:=by
 obtain⟨h1,h2,o,hoi,hpre⟩:=mem_ready hi
 have hli:L.getD i false=false:=by rw[getD_in (by omega) false true];exact h2
 have hset:=EF (L:=L) (i:=i) (by omega)
 refine⟨by simpa using hsz,?_,?_⟩
 ·intro j oj e hj hLj he hb
  rw[hset] at hLj⊢
  by_cases hji:j=i
  ·subst hji
   rw[hoi] at hj;cases hj
   split
   ·rfl
   ·exact hpre e he hb
  ·rw[if_neg hji] at hLj
   split
   ·rfl
   ·exact hcl j oj e hj hLj he hb
 ·refine filter_lt (i:=i) (aht.2 h1) (by rw[hli];rfl) (by rw[hset];simp) ?_
  intro k hk
  rw[hset] at hk
  by_cases e:k=i
  ·rw[if_pos e] at hk;cases hk
  ·rw[if_neg e] at hk;exact hk
omit [Dr] in
theorem xm {As:List A1} {s0 s:S} {L:Array Bool} {i:Nat} {A:A1} (ho:Order ops As s0) (hsz:L.size=ops.size) (hcl:Closed ops L) (hi:i∈Region.ready .any ops L) (hA:As[i]? =some A)
 (hlook:∀r,look s r=cont As s0 (fun i=>L.getD i false) r ops.size):
 A.Fits s∧∀r,look (A.app s) r=cont As s0 (fun k=>(L.setIfInBounds i true).getD k false) r ops.size:=by
 obtain⟨h1,h2,o,hoi,hpre⟩:=mem_ready hi
 have hli:L.getD i false=false:=by rw[getD_in (by omega) false true];exact h2
 have hset:=EF (L:=L) (i:=i) (by omega)
 have who:∀r,((∃c,(r,c)∈A.rd)∨∃c,A.wr r=some c)→∀k,k≠i→writes As k r→L.getD k false=decide (k<i):=by
  intro r hr k hk hw
  obtain⟨c1,c2⟩:=ho.conf i k A hA (Ne.symm hk) r hw hr
  by_cases hlt:k<i
  ·rw[Aa hcl hsz hi (c1 hlt)];simp[hlt]
  ·cases hlk:L.getD k false with
   |false=>simp[hlt]
   |true=>
    have:=(c2 (by omega)).closed hcl hsz hlk
    rw[hli] at this;cases this
 refine⟨?_,?_⟩
 ·intro p hp
  obtain⟨r,c⟩:=p
  have ht:=ho.fits i A hA (r,c) hp
  simp only at ht⊢
  rw[hlook r,←ht]
  rw[←wS ho.nodup r (i:=i) (D:=fun k=>decide (k<i)) (by intro k hk;simpa using hk)]
  rw[←lW (n:=ops.size) (m:=i) (D:=fun k=>decide (k<i)) (by omega) (by intro k hk _ _;simp;omega)]
  refine nV fun k hk hw=>?_
  by_cases e:k=i
  ·subst e;simp only[hli];simp
  ·exact who r (.inl ⟨c,hp⟩) k e hw
 ·intro r
  rw[KL (ho.nodup A (aem hA))]
  cases hc:A.wr r with
  |some c=>
   have hwr:(∃c,(r,c)∈A.rd)∨∃c,A.wr r=some c:= .inr ⟨c,hc⟩
   rw[show(some c).or (look s r)=some c from rfl]
   have e1:cont As s0 (fun k=>(L.setIfInBounds i true).getD k false) r ops.size=cont As s0 (fun k=>decide (k<i+1)) r ops.size:=by
    refine nV fun k hk hw=>?_
    simp only[hset]
    by_cases e:k=i
    ·subst e;simp
    ·rw[if_neg e,who r hwr k e hw]
     by_cases hlt:k<i
     ·simp[hlt];omega
     ·simp[hlt];omega
   rw[e1,lW (m:=i+1) (by omega) (by intro k hk _ _;simp;omega),sV]
   unfold EG
   simp[hA,hc]
  |none=>
   simp only[Option.none_or]
   rw[hlook r]
   refine nV fun k hk hw=>?_
   simp only[hset]
   by_cases e:k=i
   ·subst e
    obtain⟨A',c,hA',hc'⟩:=hw
    rw[hA] at hA';cases hA';rw[hc] at hc';cases hc'
   ·rw[if_neg e]
theorem UK {As:List A1} {s0 s:S} {L:Array Bool} {Q:Exit→S→Prop} (ho:Order ops As s0) (hQ:Q .normal (lh As s0 ops.size)) {a:Act} {w:World} (hn:s.n=s0.n)
 (hlook:∀r,look s r=cont As s0 (fun i=>L.getD i false) r ops.size) (hs:Sat x s a w) (hall:∀i,i<ops.size→L.getD i false=true):yN x Q .normal a w:=by
 refine⟨_,hQ,Sat.congr (by rw[aa9];exact hn) (fun r=>?_) hs⟩
 rw[hlook r]
 exact wS ho.nodup r (fun k hk=>hall k hk)
theorem ZJ {As:List A1} {s0:S} {j:Nat} (ho:Order ops As s0) (hsound:∀(i:Nat) (o:Oper) (A:A1),i≠j→ops[i]? =some o→As[i]? =some A→A.Jt P x s0.n ops o)
 {Q:Exit→S→Prop} (hQ:Q .normal (lh As s0 ops.size)):
 ∀(fuel:Nat) (L:Array Bool) (s:S) (a:Act) (w:World),L.size=ops.size→Closed ops L→s.n=s0.n→(∀r,look s r=cont As s0 (fun i=>L.getD i false) r ops.size)→
  ((List.range ops.size).filter fun i=>!L.getD i false).length≤fuel→L.getD j false=true→Sat x s a w→wpAny P .any ops (yN x Q) fuel L a w:=by
 intro fuel
 induction fuel with
 |zero=>
  intro L s a w hsz hcl hn hlook hf hj hs
  obtain⟨h1,h2⟩:=JD hsz hf
  exact⟨h1,UK ho hQ hn hlook hs h2⟩
 |succ fuel ih=>
  intro L s a w hsz hcl hn hlook hf hj hs
  refine⟨fun hr=>UK ho hQ hn hlook hs (NS ho.back hsz hr),?_⟩
  intro i hi
  obtain⟨h1,h2,o,hoi,hpre⟩:=mem_ready hi
  have hij:i≠j:=by
   rintro rfl
   rw[getD_in (by omega) true false,hj] at h2;cases h2
  obtain⟨A,hA⟩:∃A,As[i]? =some A:=⟨As[i]'(by rw[ho.len];exact h1),by simp[adH (by rw[ho.len];exact h1:i<As.length)]⟩
  obtain⟨hfits,hlook'⟩:=xm ho hsz hcl hi hA hlook
  obtain⟨n1,n2,n3⟩:=Ov hsz hcl hi
  unfold wpOp
  simp only[hoi]
  have hstep:=hsound i o A hij hoi hA s a w hn hs hfits (wpAny P .any ops (yN x Q) fuel (L.setIfInBounds i true)) (yN x Q) ?_
  ·split
   ·rename_i hw;rw[if_pos hw] at hstep;exact .inl hstep
   ·rename_i hw;rw[if_neg hw] at hstep;exact hstep
  intro a' w' hs'
  exact ih _ (A.app s) a' w' n1 n2 hn hlook' (by omega) (by rw[EF (by omega)];split;rfl;exact hj) hs'
theorem acZ {ι:Type} {As:ι→List A1} {Rel:ι→Prop} {s0:S} {j:Nat} (hj:j<ops.size) (i0:ι) (ho:∀i,Order ops (As i) s0)
 (hsame:∀i i' k,k≠j→¬Reach ops j k→(As i)[k]? =(As i')[k]?)
 (hsound:∀c,Rel c∨c=i0→∀(i:Nat) (o:Oper) (A:A1),i≠j→(¬Reach ops j i∨Rel c)→ops[i]? =some o→(As c)[i]? =some A→A.Jt P x s0.n ops o)
 (hcall:∀o,ops[j]? =some o→∀s a w,s.n=s0.n→Sat x s a w→(∀c A,(As c)[j]? =some A→A.Fits s)→∀(K:Act→World→Prop) (Q:Exit→Act→World→Prop),
   (∀c A,Rel c→(As c)[j]? =some A→∀a w,Sat x (A.app s) a w→K a w)→if Region.wanted o (yielded ops a.tmps) then o.wp P a w K Q else K (a.put o.dst undef) w)
 {Q:Exit→S→Prop} (hQ:∀c,Rel c→Q .normal (lh (As c) s0 ops.size)):
 ∀(fuel:Nat) (L:Array Bool) (s:S) (a:Act) (w:World),L.size=ops.size→Closed ops L→s.n=s0.n→(∀c r,look s r=cont (As c) s0 (fun i=>L.getD i false) r ops.size)→
  ((List.range ops.size).filter fun i=>!L.getD i false).length≤fuel→L.getD j false=false→Sat x s a w→wpAny P .any ops (yN x Q) fuel L a w:=by
 intro fuel
 induction fuel with
 |zero=>
  intro L s a w hsz hcl hn hlook hf hjf hs
  obtain⟨h1,h2⟩:=JD hsz hf
  rw[h2 j hj] at hjf;cases hjf
 |succ fuel ih=>
  intro L s a w hsz hcl hn hlook hf hjf hs
  refine⟨fun hr=>(by rw[NS (ho i0).back hsz hr j hj] at hjf;cases hjf),?_⟩
  intro i hi
  obtain⟨h1,h2,o,hoi,hpre⟩:=mem_ready hi
  obtain⟨n1,n2,n3⟩:=Ov hsz hcl hi
  have hAs:∀c,∃A,(As c)[i]? =some A:=fun c=>⟨(As c)[i]'(by rw[(ho c).len];exact h1),by simp[adH (by rw[(ho c).len];exact h1:i<(As c).length)]⟩
  unfold wpOp
  simp only[hoi]
  by_cases hij:i=j
  ·subst hij
   have hstep:=hcall o hoi s a w hn hs (fun c A hA=>(xm (ho c) hsz hcl hi hA (hlook c)).1) (wpAny P .any ops (yN x Q) fuel (L.setIfInBounds i true)) (yN x Q) ?_
   ·split
    ·rename_i hw;rw[if_pos hw] at hstep;exact .inl hstep
    ·rename_i hw;rw[if_neg hw] at hstep;exact hstep
   intro c A hc hA a' w' hs'
   exact ZJ (j:=i) (ho c) (fun k o' A' hk ho' hA'=>hsound c (.inl hc) k o' A' hk (.inr hc) ho' hA') (hQ c hc) fuel _ (A.app s) a' w' n1 n2 hn (xm (ho c) hsz hcl hi hA (hlook c)).2 (by omega)
    (by rw[EF (by omega)];simp) hs'
  ·have hnr:¬Reach ops j i:=fun h=>by
    rw[Aa hcl hsz hi h] at hjf;cases hjf
   obtain⟨A,hA⟩:=hAs i0
   have hA':∀c,(As c)[i]? =some A:=fun c=>by rw[hsame c i0 i hij hnr];exact hA
   have hstep:=hsound i0 (.inr rfl) i o A hij (.inl hnr) hoi hA s a w hn hs (xm (ho i0) hsz hcl hi hA (hlook i0)).1 (wpAny P .any ops (yN x Q) fuel (L.setIfInBounds i true)) (yN x Q) ?_
   ·split
    ·rename_i hw;rw[if_pos hw] at hstep;exact .inl hstep
    ·rename_i hw;rw[if_neg hw] at hstep;exact hstep
   intro a' w' hs'
   exact ih _ (A.app s) a' w' n1 n2 hn (fun c=>(xm (ho c) hsz hcl hi (hA' c) (hlook c)).2) (by omega) (by rw[EF (by omega),if_neg (Ne.symm hij)];exact hjf) hs'
end
end Go.Ab
namespace Go.Ab
variable [Dr]
def Uo (P:Program) (f:FuncId) (args:List AV) (r:AV) (Rel:AV→Prop) (ob:Nat→Option AO):Option Out:=
 match args with
 |[.c (.ms id sz off len)]=>
  match ob id with
  |some o=>some ⟨r,[(id, .dead)],[AC P f [.c (.ms id sz off len)] [(id,o)] (fun r' st'=>Rel r'∧st'=[(id, .dead)]),bF (fun _=>false) o]⟩
  |none=>none
 |_=>some ⟨r,[],[AC P f args [] (fun r' st'=>Rel r'∧st'=[]),∀a∈args,aJ (fun _=>false) a]⟩
def Ep (P:Program) (wr:Bool) (ops:List Oper) (cs:List (Nat×AV)) (d0:Nat) (r:AV) (Rel:AV→Prop) (o:Oper) (s:S):Option Out:=
 if o.dst=some d0 then
  match o.guard,o.op with
  |none, .call {callee:= .value (.func f),args:=⟨as⟩,argTypes:=_}=>
   match jv s as with
   |some args=>Uo P f args r Rel (get s.st)
   |none=>none
  |_,_=>none
 else lM P wr ops cs o s
def P7 (P:Program) (wr:Bool) (ops:List Oper) (cs:List (Nat×AV)) (d0:Nat) (r:AV) (Rel:AV→Prop):List Oper→S→Option (List A1×List Prop×S)
 |[],s=>some ([],[],s)
 |o::l,s=>
  if pO o s.n then
   match Ep P wr ops cs d0 r Rel o s with
   |some out=>
    match P7 P wr ops cs d0 r Rel l ⟨s.n,fZ s.env o.dst out.v,aN s.st out.upd⟩ with
    |some (As,ps,s')=>some (WC ops o s out::As,out.obl++ps,s')
    |none=>none
   |none=>none
  else none
section
variable {P:Program} {x:X} {ops:List Oper} {o:Oper} {s s1:S} {wr:Bool} {cs:List (Nat×AV)} {d0:Nat} {r:AV} {Rel:AV→Prop}
theorem Gz (h:∀p∈readsOf ops o s,look s1 p.1=p.2):Ep P wr ops cs d0 r Rel o s1=Ep P wr ops cs d0 r Rel o s:=by
 unfold Ep
 split
 ·split
  ·rename_i f as ats hg hop
   rw[oJ h fun y hy=>by rw[hop];simp[Op.operands,Call.operands,hy]]
   split
   ·rename_i args hargs
    unfold Uo
    split
    ·rename_i id sz off len
     obtain⟨y,rfl,hy⟩:=OX hargs
     rw[DY h (by rw[hop];rfl) (y:=y) (by rw[hop];simp[Op.operands,Call.operands]) hy (by simp[strip,iT])]
    ·rfl
   ·rfl
  ·rfl
 ·exact uS h
def ahf (P:Program) (x:X) (n:Nat) (ops:Array Oper) (o:Oper) (A:A1) (Rel:AV→Prop):Prop:=
 ∀s a w,s.n=n→Sat x s a w→A.Fits s→∀(K:Act→World→Prop) (Q:Exit→Act→World→Prop),(∀r',Rel r'→∀a w,Sat x ⟨s.n,fZ s.env o.dst r',aN s.st A.sw⟩ a w→K a w)→
  if Region.wanted o (yielded ops a.tmps) then o.wp P a w K Q else K (a.put o.dst undef) w
theorem VR {out:Out} (hdd:o.dst=some d0) (h:Ep P wr ops cs d0 r Rel o s=some out) (ho:All out.obl) (hdst:pO o s.n=true) {a:Act} {w:World} (hsat:Sat x s a w)
 {K:Act→World→Prop} {Q:Exit→Act→World→Prop} (hK:∀r',Rel r'→∀a w,Sat x ⟨s.n,fZ s.env o.dst r',aN s.st out.upd⟩ a w→K a w):
 if Region.wanted o (yielded ops.toArray a.tmps) then o.wp P a w K Q else K (a.put o.dst undef) w:=by
 have hd:∀i,o.dst=some i→i<s.n:=fun i hi=>by simpa[pO,hi] using hdst
 unfold Ep at h
 rw[if_pos hdd] at h
 split at h
 ·rename_i f as ats hg hop
  rw[if_pos (by simp[Region.wanted,hg])]
  obtain⟨bl,cap,hs,henv,hdf,hsz⟩:=hsat
  split at h
  ·rename_i args hargs
   unfold Uo at h
   split at h
   ·rename_i id sz off len
    split at h
    ·rename_i oo hoo
     cases h
     simp only[All] at ho
     obtain⟨ho1,ho2, -⟩:=ho
     refine vK (st0:=[(id,oo)]) hop hd ⟨by simpa using hoo,?_,?_⟩ ho1 hs henv hdf hsz (jH henv hargs) ?_
     ·intro p hp;simp at hp;subst hp;exact OJ ho2
     ·intro p hp;simp at hp;subst hp;simp[aJ,cZ,ae,Ab.get]
     ·rintro r' st' ⟨hr',rfl⟩
      refine⟨fun p hp=>?_,fun a w h=>hK r' hr' a w h⟩
      simp at hp;subst hp;simp[ae,Ab.get]
    ·cases h
   ·cases h
    simp only[All] at ho
    obtain⟨ho1,ho2, -⟩:=ho
    refine vK (st0:=[]) hop hd ⟨by simp,by simp,fun a ha=>by rw[Fj];exact ho2 a ha⟩ ho1 hs henv hdf hsz (jH henv hargs) ?_
    rintro r' st' ⟨hr',rfl⟩
    exact⟨fun p hp=>absurd hp (by simp),fun a w h=>hK r' hr' a w h⟩
  ·cases h
 ·cases h
theorem OI:∀{l:List Oper} {s s':S} {As:List A1} {ps:List Prop},P7 P wr ops cs d0 r Rel l s=some (As,ps,s')→
 As.length=l.length∧lh As s l.length=s'∧(∀(i:Nat) (A:A1),As[i]? =some A→A.Fits (lh As s i))
 |[],s,s',As,ps,h=>by cases h;exact⟨rfl,rfl,by simp⟩
 |o::l,s,s',As,ps,h=>by
  simp only[P7] at h
  split at h
  ·rename_i hd
   split at h
   ·rename_i out hout
    split at h
    ·rename_i As' ps' s'' hrec
     cases h
     obtain⟨i1,i2,i3⟩:=OI hrec
     have shift:∀i,lh (WC ops o s out::As') s (i+1)=lh As' ⟨s.n,fZ s.env o.dst out.v,aN s.st out.upd⟩ i:=by
      intro i
      induction i with
      |zero=>simp only[lh,List.getElem?_cons_zero];exact ED rfl
      |succ i ih=>
       rw[lh,ih]
       simp only[List.getElem?_cons_succ]
       rfl
     refine⟨by simp[i1],by rw[List.length_cons,shift];exact i2,?_⟩
     intro i A hA
     cases i with
     |zero=>simp at hA;subst hA;intro p hp;exact(Ef.reads_self hp).symm
     |succ i=>rw[shift];exact i3 i A (by simpa using hA)
    ·cases h
   ·cases h
  ·cases h
theorem IA:∀{l:List Oper} {s s':S} {As:List A1} {ps:List Prop},P7 P wr ops cs d0 r Rel l s=some (As,ps,s')→All ps→
 ∀(i:Nat) (o:Oper) (A:A1),l[i]? =some o→As[i]? =some A→(o.dst≠some d0→A.Jt P x s.n ops.toArray o)∧(o.dst=some d0→ahf P x s.n ops.toArray o A Rel∧A.ew=some (d0,r))
 |[],s,s',As,ps,h,_=>by cases h;simp
 |o::l,s,s',As,ps,h,hp=>by
  simp only[P7] at h
  split at h
  ·rename_i hd
   split at h
   ·rename_i out hout
    split at h
    ·rename_i As' ps' s'' hrec
     cases h
     obtain⟨p1,p2⟩:=All.append hp
     have i4:=IA hrec p2
     intro i o' A ho' hA
     cases i with
     |zero=>
      simp at ho' hA;subst ho';subst hA
      constructor
      ·intro hne s1 a w hnn hs1 hf K Q hk
       have hloc:=Gz (P:=P) (wr:=wr) (cs:=cs) (ops:=ops) (o:=o) (s:=s) (s1:=s1) (d0:=d0) (r:=r) (Rel:=Rel) hf
       rw[hout] at hloc
       unfold Ep at hloc
       rw[if_neg hne] at hloc
       refine qG hloc p1 (by rw[hnn];exact hd) hs1 fun a w h=>hk a w ?_
       rw[ED hnn,←hnn];exact h
      ·intro he
       refine⟨?_,?_⟩
       ·intro s1 a w hnn hs1 hf K Q hk
        have hloc:=Gz (P:=P) (wr:=wr) (cs:=cs) (ops:=ops) (o:=o) (s:=s) (s1:=s1) (d0:=d0) (r:=r) (Rel:=Rel) hf
        rw[hout] at hloc
        exact VR he hloc p1 (by rw[hnn];exact hd) hs1 fun r' hr' a w h=>hk r' hr' a w h
       ·have hv:out.v=r:=by
         unfold Ep at hout
         rw[if_pos he] at hout
         split at hout
         ·split at hout
          ·unfold Uo at hout
           split at hout
           ·split at hout
            ·cases hout;rfl
            ·cases hout
           ·cases hout;rfl
          ·cases hout
         ·cases hout
        simp[WC,he,hv]
     |succ i=>exact i4 i o' A (by simpa using ho') (by simpa using hA)
    ·cases h
   ·cases h
  ·cases h
end
def EI (l:List Oper) (j d0:Nat):Bool:=decide (j<l.length)&&(List.range l.length).all fun i=>decide (((l[i]?).bind (·.dst)=some d0)↔i=j)
def sws (j:Nat) (As:List A1):Option (List (Nat×AO)):=(As[j]?).map (·.sw)
def sel (l:List Oper) (j:Nat) (As:List A1):List (Option A1):=((List.range l.length).filter fun k=>decide (k≠j)&&!((Ic l []).getD k []).contains j).map fun k=>As[k]?
theorem aeD {P:Program} {x:X} {ι:Type} {wr:Bool} {id:Nat} {l:List Oper} {s:S} {Q:Exit→S→Prop} (cs:List (Nat×AV)) (j d0:Nat) (ans:ι→AV) (Rel:ι→Prop) (i0:ι) (h0:Rel i0) {As:ι→List A1} {ps:ι→List Prop} {s':ι→S}
 (hm:P.follows .mixedOrders=true) (h:∀c,P7 P wr l cs d0 (ans c) (fun v=>∃c,Rel c∧v=ans c) l s=some (As c,ps c,s' c)) (ho:∀c,Rel c→All (ps c)) (hc:∀c,ww l (As c)=true)
 (hu:EI l j d0=true) (hsw:∀c c',sws j (As c)=sws j (As c')) (hse:∀c c',sel l j (As c)=sel l j (As c')) (hQ:∀c,Rel c→Q .normal (s' c)):T P x (.region id l.toArray true) s Q:=by
 have hf:=fun c=>OI (h c)
 have hord:=fun c=>EL (hf c).1 (hf c).2.2 (hc c)
 simp only[EI,afA,aeB,agr,aht] at hu
 obtain⟨hj,hu⟩:=hu
 have huniq:∀(i:Nat) (o:Oper),l[i]? =some o→(o.dst=some d0↔i=j):=by
  intro i o hi
  have hlt:i<l.length:=(adK.1 hi).1
  have:=hu i hlt
  rw[hi] at this
  simpa using this
 intro a w hs
 refine wp_region_any hm ?_
 refine acZ (As:=As) (Rel:=Rel) (j:=j) (s0:=s) (by simpa using hj) i0 hord ?_ ?_ ?_ (fun c hcr=>by simpa[(hf c).2.1] using hQ c hcr) _ _ s a _ (by simp) ?_ rfl ?_ ?_ ?_ (hs.drew _ (by first|exact Nat.le_succ _|exact Nat.le_add_right _ _|(simp;done)|omega))
 ·intro c c' k hk hnr
  by_cases hlt:k<l.length
  ·have hnc:((Ic l []).getD k []).contains j=false:=by
    cases hcn:((Ic l []).getD k []).contains j with
    |false=>rfl
    |true=>
     exact absurd (IZ l (l:=l) (acc:=[]) (by simp) (by simp) k j (by simpa using hcn)) hnr
   have hmem:k∈(List.range l.length).filter fun k=>decide (k≠j)&&!((Ic l []).getD k []).contains j:=by
    simp only[ahI,aht,afA,aeB,afU]
    exact⟨hlt,hk,hnc⟩
   have:=hse c c'
   unfold sel at this
   exact List.map_inj_left.1 this k hmem
  ·rw[ajv (by rw[(hf c).1];omega),ajv (by rw[(hf c').1];omega)]
 ·intro c hcr i o A hij _ hi hA
  have hcr':Rel c:=by rcases hcr with h|rfl;exact h;exact h0
  have hi':l[i]? =some o:=by simpa using hi
  exact(IA (x:=x) (h c) (ho c hcr') i o A hi' hA).1 (fun e=>hij ((huniq i o hi').1 e))
 ·intro o hi s1 a w hn hs1 hfit K Q hk
  have hi':l[j]? =some o:=by simpa using hi
  have hdo:=(huniq j o hi').2 rfl
  obtain⟨A0,hA0⟩:∃A,(As i0)[j]? =some A:=⟨(As i0)[j]'(by rw[(hf i0).1];exact hj),by simp[adH (by rw[(hf i0).1];exact hj:j<(As i0).length)]⟩
  obtain⟨hcall, -⟩:=(IA (x:=x) (h i0) (ho i0 h0) j o A0 hi' hA0).2 hdo
  refine hcall s1 a w hn hs1 (hfit i0 A0 hA0) K Q ?_
  rintro r' ⟨c,hcr,rfl⟩ a w hsat
  obtain⟨A,hA⟩:∃A,(As c)[j]? =some A:=⟨(As c)[j]'(by rw[(hf c).1];exact hj),by simp[adH (by rw[(hf c).1];exact hj:j<(As c).length)]⟩
  refine hk c A hcr hA a w ?_
  obtain⟨-,hew⟩:=(IA (x:=x) (h c) (ho c hcr) j o A hi' hA).2 hdo
  have hsw':A.sw=A0.sw:=by
   have:=hsw c i0
   simp only[sws,hA,hA0,Option.map_some,akF] at this
   exact this
  unfold A1.app
  rw[hew,hsw']
  rw[hdo] at hsat
  exact hsat
 ·intro i o e hi hL he hb
  have hlt:i<l.length:=by simpa using(aku.1 hi).1
  rw[getD_in (by simpa using hlt) true false] at hL
  simp[Array.getD,hlt] at hL
 ·intro c r
  have hz:∀i,(Array.replicate l.toArray.size false).getD i false=false:=by
   intro i;simp[Array.getD]
  have:cont (As c) s (fun i=>(Array.replicate l.toArray.size false).getD i false) r l.toArray.size=cont (As c) s (fun i=>(Array.replicate l.toArray.size false).getD i false) r 0:=
   lW (aj8 _) (fun i _ _ _=>hz i)
  rw[this];rfl
 ·exact yx
 ·simp[Array.getD]
end Go.Ab
namespace Go.Ab
variable [Dr]
section
variable {P:Program} {x:X}
theorem V6 {f:FuncId} {id sz:Nat} {ys:List (List D)} {R:AV→Prop} (hR:∀r,R r→aJ (fun _=>false) r) (h:AC P f [.c (.d (.ps sz ys))] [] (fun r st=>R r∧st=[])):
 AC P f [.c (.ms id sz 0 ys.length)] [(id, .arr sz (ys.map fun l=>l.map C.d))] (fun r st=>R r∧st=[(id, .dead)]):=by
 refine⟨h.1,?_⟩
 intro bl cap F w us hs hargs
 have hid:get [(id,AO.arr sz (ys.map fun l=>l.map C.d))] id=some (.arr sz (ys.map fun l=>l.map C.d)):=by simp[get]
 have hputd:put [(id,AO.arr sz (ys.map fun l=>l.map C.d))] id .dead=[(id,AO.dead)]:=by simp[put]
 cases hargs with
 |cons hv ht=>
 cases ht
 have hrep:=CU hs hid hv
 rw[hputd] at hrep
 have hMd:∀(bl:Nat→List Nat) b,¬MM bl [(id,AO.dead)] b:=by
  rintro bl b ⟨i,o,ho,hl,_⟩
  simp only[get] at ho
  split at ho
  ·cases ho;cases hl
  ·cases ho
 have hM0:∀(bl:Nat→List Nat) b,¬MM bl [] b:=by
  rintro bl b ⟨i,o,ho,_⟩
  simp[get] at ho
 have hs0:bY (X.start bl cap F [] w) bl cap [] w:={
  objs:=fun i o ho=>by simp[get] at ho
  disj:=fun i i' o o' b ho=>by simp[get] at ho
  nodup:=fun i o ho=>by simp[get] at ho
  new:=fun b hb=>absurd hb (hM0 _ b)
  lt:=fun b hb=>absurd hb (hM0 _ b)
  fr:=⟨afJ _,fun _ _ _=>rfl,rfl,rfl,rfl,fun _=>afJ _⟩
  keep:=fun i hi=>by simp[X.start,get] at hi
  xok:=⟨fun b hb=>hs.xok.lt b hb,fun b hb=>hM0 _ b⟩}
 have hrep0:aC (mkK (X.start bl cap F [] w) bl cap [] w) (.c (.d (.ps sz ys))) _:=
  cO.stable hrep (fun _ _ _=>rfl) (fun b hb=>by
   rcases hb with hb|hb
   ·exact absurd hb (hM0 _ b)
   ·exact .inl (.inr hb))
 refine(h.2 bl cap F w _ hs0 (.cons hrep0 .nil)).mono ?_
 rintro e w' ⟨r,st',bl',cap',v,he,⟨hr,rfl⟩,_,hs',hv'⟩
 refine⟨r,[(id, .dead)],bl,cap,v,he,⟨hr,rfl⟩,by simp,?_,?_⟩
 ·exact {
   objs:=fun i o ho=>by
    simp only[get] at ho
    split at ho
    ·cases ho;trivial
    ·cases ho
   disj:=fun i i' o o' b ho ho' hl hl'=>by
    simp only[get] at ho
    split at ho
    ·cases ho;cases hl
    ·cases ho
   nodup:=fun i o ho hl=>by
    simp only[get] at ho
    split at ho
    ·cases ho;cases hl
    ·cases ho
   new:=fun b hb=>absurd hb (hMd _ b)
   lt:=fun b hb=>absurd hb (hMd _ b)
   fr:=⟨hs'.fr.size,fun b hb _=>hs'.fr.heap b hb (hM0 _ b),hs'.fr.os,hs'.fr.output,hs'.fr.tape,hs'.fr.drawn⟩
   keep:=fun i hi=>by
    refine⟨?_,rfl,rfl⟩
    simp only[X.start,get] at hi⊢
    split at hi
    ·rename_i e;simp[e]
    ·cases hi
   xok:=hs.xok}
 ·refine sZ (k:=mkK (X.start bl cap F [] w) bl' cap' [] w') (ρ:=fun i=>i) (dom:=fun _=>false) ?_ (hR r hr) (by rw[aH];exact hv')
  intro c u hcl hc
  refine JS (k:=mkK (X.start bl cap F [] w) bl' cap' [] w') (k':=mkK (X.start bl cap F [(id,AO.arr sz (ys.map fun l=>l.map C.d))] w) bl cap [(id,AO.dead)] w') (ρ:=fun i=>i) (dom:=fun _=>false) (by simp) (by simp) (by simp) rfl ?_ hcl hc
  intro b hb
  rcases hb with hb|hb
  ·exact absurd hb (hMd _ b)
  ·exact .inr hb
theorem tV {s:S} {i id:Nat} {cs:List D} (he:get s.env i=some (.c (.ptr id 0))) (hid:get s.st id=some (.box (cs.map C.d))):
 BN x s ⟨s.n,put s.env i (.c (.pp cs)),put s.st id .dead⟩:=by
 rintro a w ⟨bl,cap,hs,henv,hd,hsz⟩
 have hle:=jC (x:=x) (bl:=bl) (cap:=cap) (w:=w) hid
 refine⟨bl,cap,hs.kill hid,?_,hd.le hle,hsz⟩
 intro j v hv
 simp only at hv⊢
 rw[get_put] at hv
 by_cases e:i=j
 ·subst e;simp at hv;subst hv
  obtain⟨u,hu,hr⟩:=henv i _ he
  refine⟨u,hu,?_⟩
  obtain⟨_,b,hb,rfl⟩:=hr
  obtain⟨b',T,vs,h2,h3,h4⟩:=hs.objs id _ hid
  simp only[mkK] at hb h2 h3
  rw[hb] at h2;simp at h2;subst h2
  refine⟨b,0,rfl,oH hs hid rfl (by rw[hb];simp),lt_of_heap h3,?_⟩
  intro k z hz
  have hz':(cs.map C.d)[k]? =some (C.d z):=by simp[hz]
  obtain⟨u,hu2,hru⟩:=h4.get hz'
  refine⟨u,?_,cO.stable hru hle.heap hle.M⟩
  simp only[mkK]
  rw[qF h3,ajR,hu2]
 ·simp only[e,if_false] at hv
  obtain⟨u,hu,hr⟩:=henv j v hv
  exact⟨u,hu,hr.le hle⟩
end
end Go.Ab
namespace Go.Ab
variable [Dr]
section
variable {P:Program} {x:X}
def A0:A1:=⟨[],none,[]⟩
end
end Go.Ab
namespace Go.Ab
variable [Dr]
section
variable {P:Program} {x:X}
end
theorem nZ {P:Program} {x:X} {c:Code} {s:S} {Q:Exit→S→Prop} (S0:S) (h:T P x c s (fun e s=>e= .normal∧BN x s S0)) (hQ:Q .normal S0):T P x c s Q:=
 TS h fun e s ⟨he,hE⟩ a w hs=>⟨S0,by rw[he];exact hQ,hE a w hs⟩
theorem kL {P:Program} {x:X} {c:Code} {s:S} {Q:Exit→S→Prop} {ι:Type} (I:ι→S) (F:ι→Prop) (h:T P x c s (fun e s=>e= .normal∧∃i,F i∧BN x s (I i))) (hQ:∀i,F i→Q .normal (I i)):T P x c s Q:=
 TS h fun e s ⟨he,i,hF,hE⟩ a w hs=>⟨I i,by rw[he];exact hQ i hF,hE a w hs⟩
theorem Sz {P:Program} {x:X} {wr:Bool} {ops l:List Oper} {o:Oper} {s:S} {Q:Exit→S→Prop} (cs:List (Nat×AV)) {out:Out} (hd:pO o s.n=true) (h:lM P wr ops cs o s=some out) (ho:All out.obl)
 (hk:TO P x ops l ⟨s.n,fZ s.env o.dst out.v,aN s.st out.upd⟩ Q):TO P x ops (o::l) s Q:=by
 intro a w hs
 have:=qG (x:=x) h ho hd hs (K:=wpList P ops.toArray (yN x Q) l) (Q:=yN x Q) (fun a w h=>hk a w h)
 unfold wpList
 split
 ·rename_i hw;rw[if_pos hw] at this;exact .inl this
 ·rename_i hw;rw[if_neg hw] at this;exact this
theorem aef {P:Program} {f:FuncId} {args args':List AV} {st:List (Nat×AO)} {R:AV→List (Nat×AO)→Prop} (h:AC P f args' st R) (ha:∀k us,aX (aC k) args us→aX (aC k) args' us):AC P f args st R:=
 ⟨h.1,fun bl cap F w us hs hr=>h.2 bl cap F w us hs (ha _ _ hr)⟩
end Go.Ab
