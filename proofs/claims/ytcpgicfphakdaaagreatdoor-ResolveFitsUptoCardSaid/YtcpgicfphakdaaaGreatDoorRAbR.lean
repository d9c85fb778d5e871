/- A part of the proof. -/
import Derived.Test.YtcpgicfphakdaaaGreatDoorRAbZ
import Derived.Lib.Bytealg
set_option linter.all false
namespace Go.Ab
variable [Dr]
section
variable {P:Program} {x:X} {bl:Nat→List Nat} {cap:Nat→Nat} {st:List (Nat×AO)} {w:World}
theorem oH (hs:bY x bl cap st w) {id:Nat} {o:AO} (hid:get st id=some o) (hl:o.dh=true) {b:Nat} (hb:b∈bl id):¬(mkK x bl cap (put st id .dead) w).M b:=by
 rintro(h|h)
 ·obtain⟨i,p,hne,h1,h2,h3⟩:=Ba h
  exact hne (hs.disj i id p o b h1 hid h2 hl h3 hb)
 ·rcases hs.new b ⟨id,o,hid,hl,hb⟩ with h'|h'
  ·exact hs.xok.dis b h h'
  ·have:=hs.xok.lt b h;omega
theorem CU (hs:bY x bl cap st w) {id sz:Nat} {ys:List (List D)} (hid:get st id=some (.arr sz (ys.map fun l=>l.map C.d))) {v:Value} (hr:aF (mkK x bl cap st w) (.ms id sz 0 ys.length) v):
 cO (mkK x bl cap (put st id .dead) w).M w (.ps sz ys) v:=by
 have hle:=jC (x:=x) (bl:=bl) (cap:=cap) (w:=w) hid
 obtain⟨h0,h1,hsz,h2⟩:=hs.objs id _ hid
 obtain⟨hd,hcap,hh⟩:=hr
 simp only[mkK,ae1] at h0 hcap
 rcases hh with⟨hz,a,rfl⟩|⟨hz,b,hb,rfl⟩
 ·simp only[mkK] at hz
  have:ys=[]:=by simpa using(by omega:ys.length=0)
  subst this
  exact .nil _ _ _
 ·simp only[mkK] at hz hb
  rcases h2 with⟨h2,_⟩|⟨b',T,vs,h2,h3,h4,h5⟩
  ·simp only[mkK] at h2;omega
  simp only[mkK] at h2 h3 h4
  rw[hb] at h2;simp at h2;subst h2
  have hl:∀l∈ys,l.length=sz:=fun l hl=>by have:=h1 (l.map C.d) (ajU (f:=fun l=>l.map C.d) hl);simpa using this
  have hlc:∀l∈(ys.map fun l=>l.map C.d),l.length=sz:=h1
  simp only[Nat.zero_mul,Nat.sub_zero,mkK]
  have hmul:ys.length*sz≤cap id*sz:=ajp _ h0
  rw[ae1] at h5
  refine .ps sz ys b 0 (cap id) (fun i j=>(vs[i*sz+j]?).getD undef) (oH hs hid rfl (by rw[hb];simp)) hl ?_ ?_ h0 (lt_of_heap h3)
  ·intro i j hi hj
   have hm:i*sz+sz≤ys.length*sz:=by have:=ajp sz hi;rwa [ajL] at this
   rw[qF h3,ajR,adH (by omega)];rfl
  ·intro i j hi hj
   have hm:i*sz+sz≤ys.length*sz:=by have:=ajp sz hi;rwa [ajL] at this
   have hf:=IC hlc (i:=i) (r:=j) (by simpa using hi) hj
   have hg:(ys.map fun l=>l.map C.d).getD i []=(ys.getD i []).map C.d:=by simp[List.getD,hi]
   have hlen:=hl (ys.getD i []) (by rw[adI,adH hi];simp)
   rw[hg,ag5,pF (l:=ys.getD i []) (by omega)] at hf
   obtain⟨u,hu,hru⟩:=h5.get hf
   rw[ag2,if_pos (by omega)] at hu
   rw[hu]
   exact cO.stable hru hle.heap hle.M
theorem KP (hs:bY x bl cap st w) {id:Nat} {es:List jq} (hid:get st id=some (.map (es.map dJ))) {v:Value} (hr:aF (mkK x bl cap st w) (.mp id) v):
 cO (mkK x bl cap (put st id .dead) w).M w (.pm es) v:=by
 have hle:=jC (x:=x) (bl:=bl) (cap:=cap) (w:=w) hid
 obtain⟨b,ents,clock,h1,h2,h3,h4⟩:=hs.objs id _ hid
 obtain⟨hd,b',bs,hb',rfl⟩:=hr
 simp only[mkK] at hb' h1 h2
 rw[h1] at hb';simp at hb'
 obtain⟨rfl,rfl⟩:=hb'
 have down:∀{p:Bool×List D} {u:Value},gI (aF (mkK x bl cap st w)) (jY p) u→gI (cO (mkK x bl cap (put st id .dead) w).M w) p u:=by
  intro p u h
  obtain⟨f,ds⟩:=p
  cases f with
  |true=>
   obtain⟨vs,e,hall⟩:=(show ∃vs:List Value,u= .agg vs.toArray∧aX (aF (mkK x bl cap st w)) (ds.map .d) vs from h)
   exact(show gI _ (true,ds) u from⟨vs,e,(aX.lD.1 hall).mono fun _ _ h=>cO.stable h hle.heap hle.M⟩)
  |false=>
   obtain⟨⟨y,e,hr⟩,hna⟩:=(show(∃y,ds.map C.d=[y]∧aF (mkK x bl cap st w) y u)∧∀cs,u≠ .agg cs from h)
   match ds,e with
   |[d],e=>simp at e;subst e;exact(show gI _ (false,[d]) u from⟨⟨d,rfl,cO.stable hr hle.heap hle.M⟩,hna⟩)
 exact afq (oH hs hid rfl (by rw[h1];simp)) h2 h3 ((aX.lD.1 h4).mono fun _ _ h=>⟨down h.1,down h.2⟩)
theorem aY {s:S} {i id sz n:Nat} {ys:List (List D)} (he:get s.env i=some (.c (.ms id sz 0 n))) (hid:get s.st id=some (.arr sz (ys.map fun l=>l.map C.d))) (hn:n=ys.length):
 BN x s ⟨s.n,put s.env i (.c (.d (.ps sz ys))),put s.st id .dead⟩:=by
 rintro a w ⟨bl,cap,hs,henv,hd,hsz⟩
 subst hn
 have hle:=jC (x:=x) (bl:=bl) (cap:=cap) (w:=w) hid
 refine⟨bl,cap,hs.kill hid,?_,hd.le hle,hsz⟩
 intro j v hv
 simp only at hv⊢
 rw[get_put] at hv
 by_cases e:i=j
 ·subst e;simp at hv;subst hv
  obtain⟨u,hu,hr⟩:=henv i _ he
  exact⟨u,hu,CU hs hid hr⟩
 ·simp only[e,if_false] at hv
  obtain⟨u,hu,hr⟩:=henv j v hv
  exact⟨u,hu,hr.le hle⟩
theorem iO {s:S} {i id:Nat} {es:List jq} (he:get s.env i=some (.c (.mp id))) (hid:get s.st id=some (.map (es.map dJ))):
 BN x s ⟨s.n,put s.env i (.c (.d (.pm es))),put s.st id .dead⟩:=by
 rintro a w ⟨bl,cap,hs,henv,hd,hsz⟩
 have hle:=jC (x:=x) (bl:=bl) (cap:=cap) (w:=w) hid
 refine⟨bl,cap,hs.kill hid,?_,hd.le hle,hsz⟩
 intro j v hv
 simp only at hv⊢
 rw[get_put] at hv
 by_cases e:i=j
 ·subst e;simp at hv;subst hv
  obtain⟨u,hu,hr⟩:=henv i _ he
  exact⟨u,hu,KP hs hid hr⟩
 ·simp only[e,if_false] at hv
  obtain⟨u,hu,hr⟩:=henv j v hv
  exact⟨u,hu,hr.le hle⟩
theorem TB {s:S} {bid id j:Nat} {cs:List C} {c d:C} {o:AO} (hne:bid≠id) (hb:get s.st bid=some (.box cs)) (hj:cs[j]? =some c) (hid:get s.st id=some o)
 (hrep:∀{bl:Nat→List Nat} {cap:Nat→Nat} {w:World} {v:Value},bY x bl cap s.st w→aF (mkK x bl cap s.st w) c v→aF (mkK x bl cap (put s.st id .dead) w) d v):
 BN x s ⟨s.n,s.env,put (put s.st id .dead) bid (.box (cs.set j d))⟩:=by
 rintro a w ⟨bl,cap,hs,henv,hd,hsz⟩
 have hle:=jC (x:=x) (bl:=bl) (cap:=cap) (w:=w) hid
 have hk:=hs.kill hid
 have hb':get (put s.st id .dead) bid=some (.box cs):=by rw[dw (Ne.symm hne)];exact hb
 obtain⟨b,T,vs,h1,h2,h3⟩:=hs.objs bid _ hb
 have hon:mr (bl bid) w w:=⟨rfl,fun _ _=>rfl,rfl,rfl,rfl,afJ _⟩
 have hle2:=oZ (x:=x) (cap:=cap) (o':= .box (cs.set j d)) hb' rfl hon
 refine⟨bl,cap,hk.upd hb' rfl hon ⟨b,T,vs,h1,h2,?_⟩,(henv.le hle).le hle2,(hd.le hle).le hle2,hsz⟩
 obtain⟨v,hv,hr⟩:=h3.get hj
 have:=(h3.mono fun _ _=>aF.le hle).set (i:=j) (hrep hs hr)
 rw[show vs.set j v=vs from by
  apply ajS;intro i
  rw[akh]
  split
  ·rename_i e;subst e;rw[hv];simp[(adK.1 hv).1]
  ·rfl] at this
 exact this.mono fun _ _=>aF.le hle2
theorem gW {s:S} {bid id sz n j:Nat} {cs:List C} {ys:List (List D)} (hne:bid≠id) (hb:get s.st bid=some (.box cs)) (hj:cs[j]? =some (.ms id sz 0 n)) (hid:get s.st id=some (.arr sz (ys.map fun l=>l.map C.d)))
 (hn:n=ys.length):BN x s ⟨s.n,s.env,put (put s.st id .dead) bid (.box (cs.set j (.d (.ps sz ys))))⟩:=by
 subst hn
 exact TB hne hb hj hid fun hs hr=>CU hs hid hr
theorem Ar {s:S} {bid id j:Nat} {cs:List C} {es:List jq} (hne:bid≠id) (hb:get s.st bid=some (.box cs)) (hj:cs[j]? =some (.mp id)) (hid:get s.st id=some (.map (es.map dJ))):
 BN x s ⟨s.n,s.env,put (put s.st id .dead) bid (.box (cs.set j (.d (.pm es))))⟩:=
 TB hne hb hj hid fun hs hr=>KP hs hid hr
theorem kH {s:S} {i id sz:Nat} (he:get s.env i=some (.c (.d (.v (.slice none 0 0))))) (hid:get s.st id=none) (hsz0:0<sz):
 BN x s ⟨s.n,put s.env i (.c (.ms id sz 0 0)),put s.st id (.arr sz [])⟩:=by
 rintro a w ⟨bl,cap,hs,henv,hd,hsz⟩
 obtain⟨bl',cap',a1,a2,a3⟩:=xH (sz:=sz) none hs hid hsz0
 refine⟨bl',cap',a1,?_,hd.le a2,hsz⟩
 intro j v hv
 simp only at hv⊢
 rw[get_put] at hv
 by_cases e:i=j
 ·subst e;simp at hv;subst hv
  obtain⟨u,hu,hr⟩:=henv i _ he
  have:u= .slice none 0 0:=iM hr
  subst this
  exact⟨_,hu,a3⟩
 ·simp only[e,if_false] at hv
  obtain⟨u,hu,hr⟩:=henv j v hv
  exact⟨u,hu,hr.le a2⟩
theorem yM {Q:Exit→S→Prop} {s:S} {ops l:List Oper} {d:Tmp} {it:Operand} {ty:TypeId} {pos:String} {after:Array Edge} {id:Nat} {cur:Option jq} {left:List jq}
 (hd:d<s.n) (he:ev s it=some (.c (.ptr id 0))) (hid:get s.st id=some (.iter cur left))
 (h0:left=[]→TO P x ops l ⟨s.n,put s.env d (.tup [(false,[.d (.v (.bool false))])]),s.st⟩ Q)
 (h1:∀l1 e l2,left=l1++e::l2→TO P x ops l ⟨s.n,put s.env d (.tup [(false,[.d (.v (.bool true))]),jY e.1,jY e.2]),put s.st id (.iter (some e) (l1++l2))⟩ Q):
 TO P x ops (⟨some d, .next it false,ty,pos,after,none⟩::l) s Q:=by
 rintro a w ⟨bl,cap,hs,henv,hdf,hsz⟩
 obtain⟨hdm,b,hb,hit⟩:=fC henv he
 obtain⟨b',hbl,hcase⟩:=hs.objs id _ hid
 simp only[mkK] at hb hbl
 rw[hbl] at hb;simp at hb;subst hb
 have fls:gI (aF (mkK x bl cap s.st w)) (false,[.d (.v (.bool false))]) (.bool false):=(show gI _ (false,[_]) _ from⟨⟨_,rfl, .v _ rfl⟩,by simp⟩)
 have over:left=[]→∀{w2:World},(mkK x bl cap s.st w).le (mkK x bl cap s.st w2)→bY x bl cap s.st w2→wpList P ops.toArray (yN x Q) l (a.put (some d) (.tuple #[.bool false])) w2:=by
  intro hl w2 hle hs2
  refine h0 hl _ _ ⟨bl,cap,hs2,(henv.le hle).put (by rw[hsz];exact hd) ⟨[.bool false],rfl, .cons (fls.mono fun _ _=>aF.le hle) .nil⟩,by rw[Act.put_defers];exact hdf.le hle,by rw[Act.iL];exact hsz⟩
 refine wpList_plain rfl fun K hK=>?_
 unfold Oper.wp
 rcases hcase with⟨hl,hc,since,seen,last,hh⟩|⟨mb,ents,clock,seen,hh,hM,hmb,hent,hall,hcur⟩
 ·simp only[mkK] at hh
  have hg:(getObj b').run P w= .ok (.mapIter none since seen last) w:=by simp only[getObj,Sem.run];rw[hh]
  have hrun:(execOp a.eval ⟨some d, .next it false,ty,pos,after,none⟩).run P w= .ok (.value (.tuple #[.bool false])) w:=by
   simp[execOp,hit,Instr.next,hg]
  rw[hrun]
  exact hK _ _ (over hl (.refl _) hs)
 ·simp only[mkK] at hh hmb
  have hg:(getObj b').run P w= .ok (.mapIter (some mb) clock seen clock) w:=by simp only[getObj,Sem.run];rw[hh]
  have hgm:(getObj mb).run P w= .ok (.map ents.toArray clock) w:=MapKept.run_getObj_map hmb
  have hlt:=lt_of_heap hmb
  have hblt:=lt_of_heap hh
  generalize hL:(ents.filter fun e=>!seen.contains e.born)=L at hall
  have hLm:∀e∈L,e∈ents:=fun e he=>by rw[←hL] at he;exact(ahI.1 he).1
  have hold:L.filter (fun e=>decide (e.born<clock))=L:=akH.2 fun e he=>by simpa using hent.lt e (hLm e he)
  have hnew:L.filter (fun e=>decide (e.born≥clock))=[]:=ajO.2 fun e he=>by have:=hent.lt e (hLm e he);simp;omega
  have hguard:(!seen.isEmpty&&!ents.toArray.isEmpty&&ents.toArray.all fun e=>decide (e.born≥clock))=false:=by
   cases hE:ents with
   |nil=>simp
   |cons e es=>
    have:e.born<clock:=hent.lt e (by rw[hE];simp)
    have h2:((e::es).toArray.all fun e=>decide (e.born≥clock))=false:=by
     simp only[List.all_toArray,List.all_cons]
     rw[show decide (e.born≥clock)=false by simp;omega];simp
    rw[h2];simp
  have hrun:∀(c:Nat) (w1:World),(choose (.mapNext ((if L.isEmpty then [none] else [])++L.map some).length)).run P w= .ok c w1→
   (execOp a.eval ⟨some d, .next it false,ty,pos,after,none⟩).run P w=
     match((if L.isEmpty then [none] else [])++L.map some)[c]? with
     |some (some e)=>((setObj b' (.mapIter (some mb) clock (seen.push e.born) clock)).run P w1).andThen fun _ w2=> .ok (.value (.tuple #[.bool true,e.key,e.val])) w2
     |some none=> .ok (.value (.tuple #[.bool false])) w1
     |none=> .halt (.stuck "Next: no such candidate") w1:=by
   intro c w1 hc
   have e1:ents.toArray.filter (fun e=>!seen.contains e.born)=L.toArray:=by rw[List.filter_toArray' (by simp),hL]
   have e2:L.toArray.filter (fun e=>decide (e.born<clock))=L.toArray:=by rw[List.filter_toArray' (by simp),hold]
   have e3:L.toArray.filter (fun e=>decide (e.born≥clock))= #[]:=by rw[List.filter_toArray' (by simp),hnew]
   have e4:((if L.toArray.isEmpty then #[none] else #[])++(L.toArray++(#[]:Array MapEntry)).map some)=((if L.isEmpty then [none] else [])++L.map some).toArray:=by
    cases L<;>simp
   simp only[execOp,hit,Instr.next,Sem.run_bind,hg,Result.andThen_ok,hgm]
   simp only[hguard,agF,if_false]
   simp only[e1,e2,e3,e4]
   simp only[Sem.run_bind,ako,hc,Result.andThen_ok,akz]
   cases hq:((if L.isEmpty then [none] else [])++L.map some)[c]? with
   |none=>rfl
   |some q=>
    cases q with
    |none=>rfl
    |some e=>
     simp only[Sem.run_bind,Sem.run_pure]
     generalize (setObj b' (.mapIter (some mb) clock (seen.push e.born) clock)).run P w1=r
     cases r<;>rfl
  cases hLc:L with
  |nil=>
   rw[hLc] at hrun hall
   have hl:left=[]:=by cases hall;rfl
   have:=hrun 0 w (by simp[Question.forced])
   rw[this]
   simp only[List.isEmpty_nil,if_true,aj0,ajt,List.getElem?_cons_zero]
   exact hK _ _ (over hl (.refl _) hs)
  |cons e0 es0=>
   have hne:L≠[]:=by rw[hLc];simp
   have hlen:0<L.length:=akj.2 hne
   have hch:∃c dr,c<L.length∧w.drawn≤dr∧(choose (.mapNext ((if L.isEmpty then [none] else [])++L.map some).length)).run P w= .ok c {w with drawn:=dr}:=by
    have hz:((if L.isEmpty then [none] else [])++L.map some:List (Option MapEntry)).length=L.length:=by rw[hLc];simp
    rw[hz]
    by_cases h1:L.length≤1
    ·exact⟨0,w.drawn,hlen,afJ _,by simp[choose,Sem.run,Question.forced,h1]⟩
    ·exact⟨w.tape w.drawn (Question.mapNext L.length)%L.length,w.drawn+1,Nat.mod_lt _ hlen,Nat.le_succ _,by simp[choose,Sem.run,Question.forced,h1,Question.cut]⟩
   obtain⟨c,dr,hc,hdr,hchoose⟩:=hch
   have hget:((if L.isEmpty then [none] else [])++L.map some:List (Option MapEntry))[c]? =some (some L[c]):=by
    have:(if L.isEmpty then [none] else [])=([]:List (Option MapEntry)):=by rw[hLc];rfl
    rw[this,List.nil_append,ag5,adH hc];rfl
   have hr:=hrun c _ hchoose
   rw[hget] at hr
   simp only at hr
   have hset:(setObj b' (.mapIter (some mb) clock (seen.push L[c].born) clock)).run P {w with drawn:=dr}= .ok () {w with drawn:=dr,heap:=w.heap.setIfInBounds b' (.mapIter (some mb) clock (seen.push L[c].born) clock)}:=by
    simp only[setObj,Sem.run];rw[hh]
   rw[hset] at hr
   rw[hr]
   have hsplit:L=L.take c++L[c]::L.drop (c+1):=by simp
   have hle1:=hall.length
   have hcl:c<left.length:=by omega
   have hsplit':left=left.take c++left[c]::left.drop (c+1):=by simp
   obtain⟨m,hm,hrm⟩:=hall.get (i:=c) (a:=left[c]) (by simp[hcl])
   rw[adH hc] at hm;cases hm
   have hne':b'≠mb:=fun e=>hM (.inl ⟨id,_,hid,rfl,by rw[hbl,e];simp⟩)
   have hon:mr (bl id) w {w with drawn:=dr,heap:=w.heap.setIfInBounds b' (.mapIter (some mb) clock (seen.push L[c].born) clock)}:=by
    refine⟨by simp,?_,rfl,rfl,rfl,hdr⟩
    intro i hi
    rw[hbl] at hi
    simp only[aft] at hi
    show(w.heap.setIfInBounds b' _)[i]? =_
    rw[akf (fun h=>hi h.symm)]
   have hle:=oZ (x:=x) (cap:=cap) (o':= .iter (some left[c]) (left.take c++left.drop (c+1))) hid rfl hon
   have hfilter:(ents.filter fun e=>!(seen.push L[c].born).contains e.born)=L.take c++L.drop (c+1):=by
    have hnd:(L.map (·.born)).Nodup:=by rw[←hL];exact List.Nodup.sublist (List.Sublist.map _ List.filter_sublist) hent.nodup
    have e1:∀bc,(ents.filter fun e=>!(seen.push bc).contains e.born)=L.filter fun e=>decide (e.born≠bc):=by
     intro bc
     rw[←hL,List.filter_filter]
     refine aki fun e _=>?_
     simp only[Array.contains_push]
     by_cases h:e.born=bc
     ·simp[h]
     ·have:(e.born==bc)=false:=by simpa using h
      simp[this,h]
    rw[e1]
    generalize hLc':L[c]=m at*
    conv=>lhs;rw[hsplit]
    rw[hsplit,ajA,agV,List.nodup_append] at hnd
    obtain⟨n1,n2,n3⟩:=hnd
    rw[List.nodup_cons] at n2
    rw[ahk,ajj]
    simp only[ne_eq,not_true_eq_false,akd,agF,if_false]
    rw[akH.2 fun e he=>?_,akH.2 fun e he=>?_]
    ·have:e.born≠m.born:=fun h=>n2.1 (by rw[←h];exact ajU he)
     simpa using this
    ·have:e.born≠m.born:=fun h=>n3 e.born (ajU he) m.born (by simp) h
     simpa using this
   have hs2:bY x bl cap (put s.st id (.iter (some left[c]) (left.take c++left.drop (c+1)))) {w with drawn:=dr,heap:=w.heap.setIfInBounds b' (.mapIter (some mb) clock (seen.push L[c].born) clock)}:=by
    refine hs.upd hid rfl hon ⟨b',hbl, .inr ⟨mb,ents,clock,seen.push L[c].born,?_,?_,?_,hent,?_,?_⟩⟩
    ·show(w.heap.setIfInBounds b' _)[b']? =_
     rw[ake hblt]
    ·intro h;rcases hle.M mb h with h|h
     ·exact hM h
     ·simp only[mkK] at h;omega
    ·show(w.heap.setIfInBounds b' _)[mb]? =_
     rw[akf hne'];exact hmb
    ·rw[hfilter]
     exact((hall.take c).append (hall.drop (c+1))).mono fun _ _=>lg.mono fun _ _ h=>h.stable hle.heap hle.M
    ·intro c' hc'
     cases hc'
     exact⟨L[c],by simp,hLm _ (ajI hc),hrm.mono fun _ _ h=>h.stable hle.heap hle.M⟩
   refine hK _ _ (h1 _ _ _ hsplit' _ _ ⟨bl,cap,hs2,(henv.le hle).put (by rw[hsz];exact hd) ⟨[.bool true,L[c].key,L[c].val],rfl, .cons ?_ (.cons ?_ (.cons ?_ .nil))⟩,by rw[Act.put_defers];exact hdf.le hle,by rw[Act.iL];exact hsz⟩)
   ·exact(show gI _ (false,[_]) _ from⟨⟨_,rfl, .v _ rfl⟩,by simp⟩)
   ·exact(Bv hrm.1).mono fun _ _=>aF.le hle
   ·exact(Bv hrm.2).mono fun _ _=>aF.le hle
end
end Go.Ab
namespace Go.Ab
variable [Dr]
section
variable {P:Program} {x:X} {bl:Nat→List Nat} {cap:Nat→Nat} {st:List (Nat×AO)} {w:World}
theorem bY.XC {bl':Nat→List Nat} {cap':Nat→Nat} {st':List (Nat×AO)} (h:bY x bl cap st w)
 (dom:∀id,(get st id).isSome=true→(get st' id).isSome=true∧bl' id=bl id∧cap' id=cap id)
 (M:∀b,MM bl' st' b→MM bl st b)
 (objs:(mkK x bl cap st w).le (mkK x bl' cap' st' w)→∀id o,get st' id=some o→Ii (mkK x bl' cap' st' w) id o)
 (disj:∀id id' o o' b,get st' id=some o→get st' id'=some o'→o.dh=true→o'.dh=true→b∈bl' id→b∈bl' id'→id=id')
 (nodup:∀id o,get st' id=some o→o.dh=true→(bl' id).Nodup):
 bY x bl' cap' st' w∧(mkK x bl cap st w).le (mkK x bl' cap' st' w):=by
 have hle:(mkK x bl cap st w).le (mkK x bl' cap' st' w):=
  ⟨fun id h=>(dom id h).1,fun id h=>(dom id h).2.1,fun id h=>(dom id h).2.2,fun _ _ _=>rfl,fun b hb=> .inl (hb.imp (M b) fun h=>h)⟩
 refine⟨⟨objs hle,disj,nodup,fun b hb=>h.new b (M b hb),fun b hb=>h.lt b (M b hb),h.fr,?_,h.xok⟩,hle⟩
 intro id hid
 obtain⟨h1,h2,h3⟩:=h.keep id hid
 obtain⟨d1,d2,d3⟩:=dom id h1
 exact⟨d1,by rw[d2];exact h2,by rw[d3];exact h3⟩
omit [Dr] in
theorem Zg {α:Type} {l:List (Nat×α)} {i j k:Nat} {a b c:α} (n:Nat):
 get (put (put (put l i a) j b) k c) n=if k=n then some c else if j=n then some b else if i=n then some a else get l n:=by
 rw[get_put,get_put,get_put]
theorem bY.agM (hs:bY x bl cap st w) {pid pid' aid sz i:Nat} {ps:List (Value×List (List D))} {v:Value} {ys:List (List D)} (hp:get st pid=some (.pool sz ps)) (hi:ps[i]? =some (v,ys))
 (hp':get st pid'=none) (ha:get st aid=none) (hne:pid'≠aid):
 ∃bl' cap',bY x bl' cap' (put (put (put st pid .dead) pid' (.pool sz (ps.eraseIdx i))) aid (.arr sz (ys.map fun l=>l.map C.d))) w∧
  (mkK x bl cap st w).le (mkK x bl' cap' (put (put (put st pid .dead) pid' (.pool sz (ps.eraseIdx i))) aid (.arr sz (ys.map fun l=>l.map C.d))) w)∧
  aF (mkK x bl' cap' (put (put (put st pid .dead) pid' (.pool sz (ps.eraseIdx i))) aid (.arr sz (ys.map fun l=>l.map C.d))) w) (.ms aid sz 0 ys.length) v:=by
 obtain⟨hsz,hlen,hall⟩:=hs.objs pid _ hp
 simp only[mkK] at hlen hall
 obtain⟨b,c,T,vs,h1,h2,h3,h4,h5,h6,h7,h8⟩:=hall i v ys hi
 have hnp:pid≠pid':=by rintro rfl;rw[hp] at hp';cases hp'
 have hna:pid≠aid:=by rintro rfl;rw[hp] at ha;cases ha
 have hbm:b∈bl pid:=aem h1
 have hnd:=hs.nodup pid _ hp rfl
 have hib:i<(bl pid).length:=(adK.1 h1).1
 have hbe:b∉(bl pid).eraseIdx i:=by
  intro hmem
  rw[List.mem_eraseIdx_iff_getElem?] at hmem
  obtain⟨j,hj,hjb⟩:=hmem
  have:=(List.getElem?_inj hib hnd).1 (by rw[h1,hjb]:(bl pid)[i]? =(bl pid)[j]?)
  omega
 refine⟨fu (fu bl pid' ((bl pid).eraseIdx i)) aid [b],fu cap aid c,?_⟩
 have hb1:fu (fu bl pid' ((bl pid).eraseIdx i)) aid [b] aid=[b]:=nD _ _ _
 have hb2:fu (fu bl pid' ((bl pid).eraseIdx i)) aid [b] pid'=(bl pid).eraseIdx i:=by rw[dY _ _ hne,nD]
 have hb3:∀j,j≠pid'→j≠aid→fu (fu bl pid' ((bl pid).eraseIdx i)) aid [b] j=bl j:=fun j a1 a2=>by rw[dY _ _ a2,dY _ _ a1]
 have kind:∀j o,get (put (put (put st pid .dead) pid' (.pool sz (ps.eraseIdx i))) aid (.arr sz (ys.map fun l=>l.map C.d))) j=some o→o.dh=true→
  (j=aid∧o= .arr sz (ys.map fun l=>l.map C.d))∨(j=pid'∧o= .pool sz (ps.eraseIdx i))∨(j≠aid∧j≠pid'∧j≠pid∧get st j=some o):=by
  intro j o hj hl
  rw[Zg] at hj
  split at hj
  ·rename_i e;cases hj;exact .inl ⟨e.symm,rfl⟩
  ·rename_i e1
   split at hj
   ·rename_i e;cases hj;exact .inr (.inl ⟨e.symm,rfl⟩)
   ·rename_i e2
    split at hj
    ·cases hj;cases hl
    ·rename_i e3;exact .inr (.inr ⟨fun e=>e1 e.symm,fun e=>e2 e.symm,fun e=>e3 e.symm,hj⟩)
 have sub:∀j o,get (put (put (put st pid .dead) pid' (.pool sz (ps.eraseIdx i))) aid (.arr sz (ys.map fun l=>l.map C.d))) j=some o→o.dh=true→
  ∀b',b'∈fu (fu bl pid' ((bl pid).eraseIdx i)) aid [b] j→∃j' o',get st j'=some o'∧o'.dh=true∧b'∈bl j':=by
  intro j o hj hl b' hb'
  rcases kind j o hj hl with⟨rfl,rfl⟩|⟨rfl,rfl⟩|⟨e1,e2,e3,hj'⟩
  ·rw[hb1] at hb';simp at hb';subst hb';exact⟨pid,_,hp,rfl,hbm⟩
  ·rw[hb2] at hb';exact⟨pid,_,hp,rfl,List.mem_of_mem_eraseIdx hb'⟩
  ·rw[hb3 j e2 e1] at hb';exact⟨j,o,hj',hl,hb'⟩
 have key:bY x (fu (fu bl pid' ((bl pid).eraseIdx i)) aid [b]) (fu cap aid c) (put (put (put st pid .dead) pid' (.pool sz (ps.eraseIdx i))) aid (.arr sz (ys.map fun l=>l.map C.d))) w∧(mkK x bl cap st w).le (mkK x (fu (fu bl pid' ((bl pid).eraseIdx i)) aid [b]) (fu cap aid c) (put (put (put st pid .dead) pid' (.pool sz (ps.eraseIdx i))) aid (.arr sz (ys.map fun l=>l.map C.d))) w):=by
  refine hs.XC ?_ ?_ ?_ ?_ ?_
  ·intro j hj
   have e1:j≠pid':=by rintro rfl;simp[hp'] at hj
   have e2:j≠aid:=by rintro rfl;simp[ha] at hj
   refine⟨?_,hb3 j e1 e2,dY _ _ e2⟩
   rw[Zg];split
   ·rfl
   ·split
    ·rfl
    ·split
     ·rfl
     ·exact hj
  ·rintro b' ⟨j,o,hj,hl,hb'⟩
   exact sub j o hj hl b' hb'
  ·intro hle j o hj
   cases hl:o.dh with
   |false=>cases o<;>simp[AO.dh] at hl;trivial
   |true=>
    rcases kind j o hj hl with⟨rfl,rfl⟩|⟨rfl,rfl⟩|⟨e1,e2,e3,hj'⟩
    ·refine⟨by simp only[mkK,nD,ae1];exact h5,?_,hsz, .inr ⟨b,T,vs,hb1,h3,by simp only[mkK,nD];exact h4,?_⟩⟩
     ·intro l hl';obtain⟨l',hl2,rfl⟩:=agh.1 hl';rw[ae1];exact h7 l' hl2
     ·rw[ae1,show(ys.map fun l=>l.map C.d).flatten=ys.flatten.map C.d by rw[List.map_flatten]]
      exact h8.mono fun _ _=>aF.le hle
    ·refine⟨hsz,?_,?_⟩
     ·simp only[mkK];rw[hb2,List.length_eraseIdx,List.length_eraseIdx,hlen]
     ·intro j' v' ys' hj'
      simp only[mkK];rw[hb2]
      rw[List.getElem?_eraseIdx] at hj'⊢
      split at hj'
      ·rename_i hlt
       obtain⟨b2,c2,T2,vs2,a1,a2,a3,a4,a5,a6,a7,a8⟩:=hall j' v' ys' hj'
       exact⟨b2,c2,T2,vs2,by rw[if_pos hlt];exact a1,a2,a3,a4,a5,a6,a7,a8.mono fun _ _=>aF.le hle⟩
      ·rename_i hlt
       obtain⟨b2,c2,T2,vs2,a1,a2,a3,a4,a5,a6,a7,a8⟩:=hall (j'+1) v' ys' hj'
       exact⟨b2,c2,T2,vs2,by rw[if_neg hlt];exact a1,a2,a3,a4,a5,a6,a7,a8.mono fun _ _=>aF.le hle⟩
    ·exact(hs.objs j o hj').rename hle rfl (hb3 j e2 e1) (dY _ _ e1)
  ·intro j j' o o' b' hj hj' hl hl' hb hb'
   rcases kind j o hj hl with⟨rfl,rfl⟩|⟨rfl,rfl⟩|⟨e1,e2,e3,hg⟩<;>rcases kind j' o' hj' hl' with⟨rfl,rfl⟩|⟨rfl,rfl⟩|⟨e1',e2',e3',hg'⟩
   ·rfl
   ·rw[hb1] at hb;rw[hb2] at hb';simp at hb;subst hb;exact absurd hb' hbe
   ·rw[hb1] at hb;rw[hb3 _ e2' e1'] at hb';simp at hb;subst hb;exact absurd (hs.disj j' pid _ _ _ hg' hp hl' rfl hb' hbm) e3'
   ·rw[hb2] at hb;rw[hb1] at hb';simp at hb';subst hb';exact absurd hb hbe
   ·rfl
   ·rw[hb2] at hb;rw[hb3 _ e2' e1'] at hb';exact absurd (hs.disj j' pid _ _ _ hg' hp hl' rfl hb' (List.mem_of_mem_eraseIdx hb)) e3'
   ·rw[hb3 _ e2 e1] at hb;rw[hb1] at hb';simp at hb';subst hb';exact absurd (hs.disj j pid _ _ _ hg hp hl rfl hb hbm) e3
   ·rw[hb3 _ e2 e1] at hb;rw[hb2] at hb';exact absurd (hs.disj j pid _ _ _ hg hp hl rfl hb (List.mem_of_mem_eraseIdx hb')) e3
   ·rw[hb3 _ e2 e1] at hb;rw[hb3 _ e2' e1'] at hb';exact hs.disj j j' o o' b' hg hg' hl hl' hb hb'
  ·intro j o hj hl
   rcases kind j o hj hl with⟨rfl,rfl⟩|⟨rfl,rfl⟩|⟨e1,e2,e3,hg⟩
   ·rw[hb1];simp
   ·rw[hb2];exact List.Nodup.sublist (List.eraseIdx_sublist ..) hnd
   ·rw[hb3 _ e2 e1];exact hs.nodup j o hg hl
 obtain⟨r1,r2⟩:=key
 refine⟨r1,r2,?_⟩
 have h0:ys.length≠0:=by simpa using h6
 have hca:fu cap aid c aid=c:=nD _ _ _
 refine⟨by simp[mkK,get_put],?_, .inr ⟨?_,b,hb1,?_⟩⟩
 ·simp only[mkK];rw[hca];omega
 ·simp only[mkK];rw[hca];omega
 ·simp only[mkK];rw[hca,h2];simp
theorem bY.attach (hs:bY x bl cap st w) {pid pid' aid sz:Nat} {ps:List (Value×List (List D))} {v:Value} {ys:List (List D)} (hp:get st pid=some (.pool sz ps)) (ha:get st aid=some (.arr sz (ys.map fun l=>l.map C.d)))
 (hy:ys≠[]) (hp':get st pid'=none) (hr:aF (mkK x bl cap st w) (.ms aid sz 0 ys.length) v):
 ∃bl' cap',bY x bl' cap' (put (put (put st pid .dead) aid .dead) pid' (.pool sz ((v,ys)::ps))) w∧
  (mkK x bl cap st w).le (mkK x bl' cap' (put (put (put st pid .dead) aid .dead) pid' (.pool sz ((v,ys)::ps))) w):=by
 obtain⟨hsz,hlen,hall⟩:=hs.objs pid _ hp
 simp only[mkK] at hlen hall
 obtain⟨hc,hl7,_,hcase⟩:=hs.objs aid _ ha
 simp only[mkK,ae1] at hc
 obtain⟨_,hcap,hv⟩:=hr
 simp only[mkK] at hcap hv
 have h0:0<ys.length:=akj.2 hy
 rcases hv with⟨hz,_⟩|⟨_,b,hb,hv⟩
 ·omega
 rcases hcase with⟨hz,_⟩|⟨b',T,vs,hb',h3,h4,h8⟩
 ·simp only[mkK] at hz;omega
 simp only[mkK] at hb' h3 h4
 rw[hb] at hb';simp at hb';subst hb'
 have hpa:pid≠aid:=by rintro rfl;rw[hp] at ha;cases ha
 have hnp:pid≠pid':=by rintro rfl;rw[hp] at hp';cases hp'
 have hna:aid≠pid':=by rintro rfl;rw[ha] at hp';cases hp'
 have hbm:b∈bl aid:=by rw[hb];simp
 have hbp:b∉bl pid:=fun h=>hpa (hs.disj pid aid _ _ b hp ha rfl rfl h hbm)
 refine⟨fu bl pid' (b::bl pid),cap,?_⟩
 have hb1:fu bl pid' (b::bl pid) pid'=b::bl pid:=nD _ _ _
 have hb3:∀j,j≠pid'→fu bl pid' (b::bl pid) j=bl j:=fun j a1=>dY _ _ a1
 have kind:∀j o,get (put (put (put st pid .dead) aid .dead) pid' (.pool sz ((v,ys)::ps))) j=some o→o.dh=true→
  (j=pid'∧o= .pool sz ((v,ys)::ps))∨(j≠aid∧j≠pid'∧j≠pid∧get st j=some o):=by
  intro j o hj hl
  rw[Zg] at hj
  split at hj
  ·rename_i e;cases hj;exact .inl ⟨e.symm,rfl⟩
  ·rename_i e1
   split at hj
   ·cases hj;cases hl
   ·rename_i e2
    split at hj
    ·cases hj;cases hl
    ·rename_i e3;exact .inr ⟨fun e=>e2 e.symm,fun e=>e1 e.symm,fun e=>e3 e.symm,hj⟩
 refine hs.XC ?_ ?_ ?_ ?_ ?_
 ·intro j hj
  have e1:j≠pid':=by rintro rfl;simp[hp'] at hj
  refine⟨?_,hb3 j e1,rfl⟩
  rw[Zg];split
  ·rfl
  ·split
   ·rfl
   ·split
    ·rfl
    ·exact hj
 ·rintro b' ⟨j,o,hj,hl,hb'⟩
  rcases kind j o hj hl with⟨rfl,rfl⟩|⟨e1,e2,e3,hj'⟩
  ·rw[hb1] at hb'
   rcases afr.1 hb' with rfl|hb'
   ·exact⟨aid,_,ha,rfl,hbm⟩
   ·exact⟨pid,_,hp,rfl,hb'⟩
  ·rw[hb3 j e2] at hb';exact⟨j,o,hj',hl,hb'⟩
 ·intro hle j o hj
  cases hl:o.dh with
  |false=>cases o<;>simp[AO.dh] at hl;trivial
  |true=>
   rcases kind j o hj hl with⟨rfl,rfl⟩|⟨e1,e2,e3,hj'⟩
   ·refine⟨hsz,?_,?_⟩
    ·simp only[mkK];rw[hb1];simp[hlen]
    ·intro j' v' ys' hj'
     simp only[mkK];rw[hb1]
     cases j' with
     |zero=>
      simp at hj';obtain⟨rfl,rfl⟩:=hj'
      refine⟨b,cap aid,T,vs,by simp,by rw[hv];simp,h3,h4,hc,hy,?_,?_⟩
      ·intro l hl';have:=hl7 (l.map C.d) (ajU (f:=fun l=>l.map C.d) hl');simpa using this
      ·rw[ae1,show(ys.map fun l=>l.map C.d).flatten=ys.flatten.map C.d by rw[List.map_flatten]] at h8
       exact h8.mono fun _ _=>aF.le hle
     |succ j'=>
      obtain⟨b2,c2,T2,vs2,a1,a2,a3,a4,a5,a6,a7,a8⟩:=hall j' v' ys' (by simpa using hj')
      exact⟨b2,c2,T2,vs2,by simpa using a1,a2,a3,a4,a5,a6,a7,a8.mono fun _ _=>aF.le hle⟩
   ·exact(hs.objs j o hj').rename hle rfl (hb3 j e2) rfl
 ·intro j j' o o' b' hj hj' hl hl' hb hb'
  have bad:∀{j o},j≠aid→j≠pid→get st j=some o→o.dh=true→b'∈bl j→b'∈b::bl pid→False:=by
   intro j o e1 e2 hg hl h1 h2
   rcases afr.1 h2 with rfl|h2
   ·exact e1 (hs.disj j aid _ _ _ hg ha hl rfl h1 hbm)
   ·exact e2 (hs.disj j pid _ _ _ hg hp hl rfl h1 h2)
  rcases kind j o hj hl with⟨rfl,rfl⟩|⟨e1,e2,e3,hg⟩<;>rcases kind j' o' hj' hl' with⟨rfl,rfl⟩|⟨e1',e2',e3',hg'⟩
  ·rfl
  ·rw[hb1] at hb;rw[hb3 _ e2'] at hb';exact(bad e1' e3' hg' hl' hb' hb).elim
  ·rw[hb3 _ e2] at hb;rw[hb1] at hb';exact(bad e1 e3 hg hl hb hb').elim
  ·rw[hb3 _ e2] at hb;rw[hb3 _ e2'] at hb';exact hs.disj j j' o o' b' hg hg' hl hl' hb hb'
 ·intro j o hj hl
  rcases kind j o hj hl with⟨rfl,rfl⟩|⟨e1,e2,e3,hg⟩
  ·rw[hb1,List.nodup_cons];exact⟨hbp,hs.nodup pid _ hp rfl⟩
  ·rw[hb3 _ e2];exact hs.nodup j o hg hl
theorem bY.aaV (hs:bY x bl cap st w) {mid j:Nat} {es:List ((Bool×List C)×(Bool×List C))} {k:Bool×List C} {c d:C} (hm:get st mid=some (.map es)) (hj:es[j]? =some (k,(false,[c])))
 (hr:∀v,aF (mkK x bl cap st w) c v→aF (mkK x bl cap st w) d v):
 bY x bl cap (put st mid (.map (es.set j (k,(false,[d]))))) w∧(mkK x bl cap st w).le (mkK x bl cap (put st mid (.map (es.set j (k,(false,[d]))))) w):=by
 have hon:mr (bl mid) w w:=⟨rfl,fun _ _=>rfl,rfl,rfl,rfl,afJ _⟩
 have hle:=oZ (x:=x) (cap:=cap) (o':= .map (es.set j (k,(false,[d])))) hm rfl hon
 obtain⟨b,ents,clock,h1,h2,h3,h4⟩:=hs.objs mid _ hm
 refine⟨hs.upd hm rfl hon ⟨b,ents,clock,h1,h2,h3,?_⟩,hle⟩
 obtain⟨e,he,hre⟩:=h4.get hj
 have h5:lg (aF (mkK x bl cap st w)) (k,(false,[d])) e:=by
  refine⟨hre.1,?_⟩
  obtain⟨⟨y,e1,hy⟩,hna⟩:=(show(∃y,[c]=[y]∧aF (mkK x bl cap st w) y e.val)∧∀cs,e.val≠ .agg cs from hre.2)
  simp at e1;subst e1
  exact(show gI _ (false,[d]) e.val from⟨⟨d,rfl,hr _ hy⟩,hna⟩)
 have:=h4.set (i:=j) h5
 rw[show ents.set j e=ents from by
  apply ajS;intro i
  rw[akh]
  split
  ·rename_i e';subst e';rw[he];simp[(adK.1 he).1]
  ·rfl] at this
 exact this.mono fun _ _=>lg.mono fun _ _=>aF.le hle
theorem GL {s:S} {id sz:Nat} (hid:get s.st id=none) (hsz0:0<sz):BN x s ⟨s.n,s.env,put s.st id (.pool sz [])⟩:=by
 rintro a w ⟨bl,cap,hs,henv,hd,hsz⟩
 have hw:Grew w w:=⟨afJ _,fun _ _=>rfl,rfl,rfl,rfl,afJ _⟩
 refine⟨fu bl id [],fu cap id 0,hs.alloc hid hw (by simp) (by simp) ⟨hsz0,by simp[mkK],by simp⟩,henv.le (wG hid (fun _ _=>rfl) (by simp)),hd.le (wG hid (fun _ _=>rfl) (by simp)),hsz⟩
theorem VB {s:S} {mid pid pid' aid sz i j:Nat} {es:List ((Bool×List C)×(Bool×List C))} {k:Bool×List C} {ps:List (Value×List (List D))} {v:Value} {ys:List (List D)} (hm:get s.st mid=some (.map es))
 (hj:es[j]? =some (k,(false,[.d (.v v)]))) (hp:get s.st pid=some (.pool sz ps)) (hi:ps[i]? =some (v,ys)) (hp':get s.st pid'=none) (ha:get s.st aid=none) (hne:pid'≠aid):
 BN x s ⟨s.n,s.env,put (put (put (put s.st pid .dead) pid' (.pool sz (ps.eraseIdx i))) aid (.arr sz (ys.map fun l=>l.map C.d))) mid (.map (es.set j (k,(false,[.ms aid sz 0 ys.length]))))⟩:=by
 rintro a w ⟨bl,cap,hs,henv,hd,hsz⟩
 obtain⟨bl',cap',h1,h2,h3⟩:=hs.agM hp hi hp' ha hne
 have hmp:pid≠mid:=by rintro rfl;rw[hp] at hm;cases hm
 have hmp':pid'≠mid:=by rintro rfl;rw[hp'] at hm;cases hm
 have hma:aid≠mid:=by rintro rfl;rw[ha] at hm;cases hm
 obtain⟨h4,h5⟩:=h1.aaV (mid:=mid) (j:=j) (es:=es) (k:=k) (c:= .d (.v v)) (d:= .ms aid sz 0 ys.length) (by rw[Zg,if_neg hma,if_neg hmp',if_neg hmp];exact hm) hj (fun u hu=>by
  have:u=v:=iM hu
  subst this;exact h3)
 exact⟨bl',cap',h4,(henv.le h2).le h5,(hd.le h2).le h5,hsz⟩
theorem VA {s:S} {mid pid pid' aid sz n j:Nat} {es:List ((Bool×List C)×(Bool×List C))} {k:Bool×List C} {ps:List (Value×List (List D))} {ys:List (List D)} (hm:get s.st mid=some (.map es))
 (hj:es[j]? =some (k,(false,[.ms aid sz 0 n]))) (hp:get s.st pid=some (.pool sz ps)) (ha:get s.st aid=some (.arr sz (ys.map fun l=>l.map C.d))) (hn:n=ys.length) (hy:ys≠[]) (hp':get s.st pid'=none)
 {a:Act} {w:World} (hs:Sat x s a w):
 ∃v,Sat x ⟨s.n,s.env,put (put (put (put s.st pid .dead) aid .dead) pid' (.pool sz ((v,ys)::ps))) mid (.map (es.set j (k,(false,[.d (.v v)]))))⟩ a w:=by
 subst hn
 obtain⟨bl,cap,hs,henv,hd,hsz⟩:=hs
 obtain⟨b,ents,clock,g1,g2,g3,g4⟩:=hs.objs mid _ hm
 obtain⟨e,he,hre⟩:=g4.get hj
 obtain⟨⟨y,e1,hr⟩,hna⟩:=(show(∃y,[C.ms aid sz 0 ys.length]=[y]∧aF (mkK x bl cap s.st w) y e.val)∧∀cs,e.val≠ .agg cs from hre.2)
 simp at e1;subst e1
 obtain⟨bl',cap',h1,h2⟩:=hs.attach hp ha hy hp' hr
 have hmp:pid≠mid:=by rintro rfl;rw[hp] at hm;cases hm
 have hmp':pid'≠mid:=by rintro rfl;rw[hp'] at hm;cases hm
 have hma:aid≠mid:=by rintro rfl;rw[ha] at hm;cases hm
 refine⟨e.val,?_⟩
 obtain⟨h4,h5⟩:=h1.aaV (mid:=mid) (j:=j) (es:=es) (k:=k) (c:= .ms aid sz 0 ys.length) (d:= .d (.v e.val)) (by rw[Zg,if_neg hmp',if_neg hma,if_neg hmp];exact hm) hj (fun u hu=>by
  have hold:=hr.le h2
  obtain⟨_,a2,a3⟩:=hold
  obtain⟨_,b2,b3⟩:=hu
  have h0:0<ys.length:=akj.2 hy
  have:u=e.val:=by
   rcases a3 with⟨q,_⟩|⟨_,c1,c2,c3⟩
   ·omega
   ·rcases b3 with⟨q,_⟩|⟨_,d1,d2,d3⟩
    ·omega
    ·rw[c2] at d2;simp at d2;subst d2;rw[c3,d3]
  subst this
  exact .v _ hr.one)
 exact⟨bl',cap',h4,(henv.le h2).le h5,(hd.le h2).le h5,hsz⟩
theorem Hr (hs:bY x bl cap st w) {mid pid sz:Nat} {G:List ((Bool×List D)×Value×List (List D))} {ps:List (Value×List (List D))}
 (hm:get st mid=some (.map (G.map fun g=>(jY g.1,(false,[.d (.v g.2.1)]))))) (hp:get st pid=some (.pool sz ps)) (hG:∀g∈G,g.2∈ps) {v:Value} (hr:aF (mkK x bl cap st w) (.mp mid) v):
 cO (mkK x bl cap (put (put st pid .dead) mid .dead) w).M w (.pm (G.map fun g=>(g.1,(false,[.ps sz g.2.2])))) v:=by
 have hmp:pid≠mid:=by rintro rfl;rw[hp] at hm;cases hm
 have hle1:=jC (x:=x) (bl:=bl) (cap:=cap) (w:=w) hp
 have hm':get (put st pid .dead) mid=some (.map (G.map fun g=>(jY g.1,(false,[.d (.v g.2.1)])))):=by rw[dw hmp];exact hm
 have hk:=hs.kill hp
 have hle2:=jC (x:=x) (bl:=bl) (cap:=cap) (w:=w) hm'
 have notM:∀b,b∈bl pid→¬(mkK x bl cap (put (put st pid .dead) mid .dead) w).M b:=by
  intro b hb h
  refine oH hs hp rfl hb ?_
  rcases h with h|h
  ·obtain⟨i,p,_,h1,h2,h3⟩:=Ba h;exact .inl ⟨i,p,h1,h2,h3⟩
  ·exact .inr h
 obtain⟨hsz,hlen,hall⟩:=hs.objs pid _ hp
 simp only[mkK] at hlen hall
 obtain⟨b,ents,clock,h1,h2,h3,h4⟩:=hs.objs mid _ hm
 obtain⟨hd,b',bs,hb',rfl⟩:=hr
 simp only[mkK] at hb' h1 h2
 rw[h1] at hb';simp at hb'
 obtain⟨rfl,rfl⟩:=hb'
 refine afq (oH hk hm' rfl (by rw[h1];simp)) h2 h3 ?_
 rw[aX.lD] at h4⊢
 have h4':aX (fun g e=>g.2∈ps∧lg (aF (mkK x bl cap st w)) (jY g.1,(false,[.d (.v g.2.1)])) e) G ents:=by
  clear h1 h2 h3 hm hm' hle2
  induction h4 with
  |nil=>exact .nil
  |cons h _ ih=>exact .cons ⟨hG _ (by simp),h⟩ (ih fun g hg=>hG g (ajl _ hg))
 refine h4'.mono fun g e hge=>?_
 obtain⟨hmem,hk1,hv1⟩:=hge
 obtain⟨i,hi⟩:=af7 hmem
 obtain⟨b2,c2,T2,vs2,a1,a2,a3,a4,a5,a6,a7,a8⟩:=hall i g.2.1 g.2.2 hi
 constructor
 ·obtain⟨⟨f,ds⟩,u,ys⟩:=g
  cases f with
  |true=>
   obtain⟨vs,e',hall⟩:=(show ∃vs:List Value,e.key= .agg vs.toArray∧aX (aF (mkK x bl cap st w)) (ds.map .d) vs from hk1)
   exact(show gI _ (true,ds) e.key from⟨vs,e',(aX.lD.1 hall).mono fun _ _ h=>cO.stable (cO.stable h hle1.heap hle1.M) hle2.heap hle2.M⟩)
  |false=>
   obtain⟨⟨y,e',hr⟩,hna⟩:=(show(∃y,ds.map C.d=[y]∧aF (mkK x bl cap st w) y e.key)∧∀cs,e.key≠ .agg cs from hk1)
   match ds,e' with
   |[d],e'=>simp at e';subst e';exact(show gI _ (false,[d]) e.key from⟨⟨d,rfl,cO.stable (cO.stable hr hle1.heap hle1.M) hle2.heap hle2.M⟩,hna⟩)
 ·obtain⟨⟨y,e',hr⟩,hna⟩:=(show(∃y,[C.d (.v g.2.1)]=[y]∧aF (mkK x bl cap st w) y e.val)∧∀cs,e.val≠ .agg cs from hv1)
  simp at e';subst e'
  have hev:e.val=g.2.1:=iM hr
  refine(show gI _ (false,[_]) e.val from⟨⟨_,rfl,?_⟩,hna⟩)
  rw[hev,a2]
  generalize g.2.2=ys at*
  have hmul:ys.length*sz≤c2*sz:=ajp _ a5
  refine .ps sz ys b2 0 c2 (fun i j=>(vs2[i*sz+j]?).getD undef) (notM b2 (aem a1)) a7 ?_ ?_ a5 (lt_of_heap a3)
  ·intro i j hi hj
   have hm:i*sz+sz≤ys.length*sz:=by have:=ajp sz hi;rwa [ajL] at this
   rw[qF a3,ajR,adH (by omega)];rfl
  ·intro i j hi hj
   have hm:i*sz+sz≤ys.length*sz:=by have:=ajp sz hi;rwa [ajL] at this
   have hlc:∀l∈(ys.map fun l=>l.map C.d),l.length=sz:=fun l hl'=>by obtain⟨l',hl2,rfl⟩:=agh.1 hl';rw[ae1];exact a7 l' hl2
   have hf:=IC hlc (i:=i) (r:=j) (by simpa using hi) hj
   have hg:(ys.map fun l=>l.map C.d).getD i []=(ys.getD i []).map C.d:=by simp[List.getD,hi]
   have hlen:=a7 (ys.getD i []) (by rw[adI,adH hi];simp)
   rw[hg,ag5,pF (l:=ys.getD i []) (by omega),show(ys.map fun l=>l.map C.d).flatten=ys.flatten.map C.d by rw[List.map_flatten]] at hf
   obtain⟨u,hu,hru⟩:=a8.get hf
   rw[ag2,if_pos (by omega)] at hu
   rw[hu]
   exact cO.stable (cO.stable hru hle1.heap hle1.M) hle2.heap hle2.M
theorem jf {s:S} {i:Nat} (sz:Nat) (he:get s.env i=some (.c (.d (.v (.slice none 0 0))))):BN x s ⟨s.n,put s.env i (.c (.d (.ps sz []))),s.st⟩:=by
 rintro a w ⟨bl,cap,hs,henv,hd,hsz⟩
 refine⟨bl,cap,hs,?_,hd,hsz⟩
 intro j v hv
 simp only at hv⊢
 rw[get_put] at hv
 by_cases e:i=j
 ·subst e;simp at hv;subst hv
  obtain⟨u,hu,hr⟩:=henv i _ he
  have:u= .slice none 0 0:=iM hr
  subst this
  exact⟨_,hu, .nil _ _ _⟩
 ·simp only[e,if_false] at hv
  exact henv j v hv
theorem Az {s:S} {bid j:Nat} (sz:Nat) {cs:List C} (hb:get s.st bid=some (.box cs)) (hj:cs[j]? =some (.d (.v (.slice none 0 0)))):
 BN x s ⟨s.n,s.env,put s.st bid (.box (cs.set j (.d (.ps sz []))))⟩:=by
 rintro a w ⟨bl,cap,hs,henv,hd,hsz⟩
 obtain⟨b,T,vs,h1,h2,h3⟩:=hs.objs bid _ hb
 have hon:mr (bl bid) w w:=⟨rfl,fun _ _=>rfl,rfl,rfl,rfl,afJ _⟩
 have hle2:=oZ (x:=x) (cap:=cap) (o':= .box (cs.set j (.d (.ps sz [])))) hb rfl hon
 refine⟨bl,cap,hs.upd hb rfl hon ⟨b,T,vs,h1,h2,?_⟩,henv.le hle2,hd.le hle2,hsz⟩
 obtain⟨v,hv,hr⟩:=h3.get hj
 have hv':v= .slice none 0 0:=iM hr
 have hd':aF (mkK x bl cap s.st w) (.d (.ps sz [])) v:=by rw[hv'];exact .nil _ _ _
 have:=h3.set (i:=j) hd'
 rw[show vs.set j v=vs from by
  apply ajS;intro i
  rw[akh]
  split
  ·rename_i e;subst e;rw[hv];simp[(adK.1 hv).1]
  ·rfl] at this
 exact this.mono fun _ _=>aF.le hle2
end
end Go.Ab
namespace Go.Ab
variable [Dr]
section
variable {P:Program} {x:X}
theorem TS {c:Code} {s:S} {Q Q':Exit→S→Prop} (h:T P x c s Q') (hq:∀e s,Q' e s→∀a w,Sat x s a w→∃s',Q e s'∧Sat x s' a w):T P x c s Q:=
 fun a w hs=>wp_mono (h a w hs) fun e a w ⟨s,hQ,hs⟩=>hq e s hQ a w hs
theorem Xg {ops l:List Oper} {s:S} {Q:Exit→S→Prop} {ι:Type} (I:ι→S) (he:∀a w,Sat x s a w→∃i,Sat x (I i) a w) (h:∀i,TO P x ops l (I i) Q):TO P x ops l s Q:=
 fun a w hs=>let⟨i,hi⟩:=he a w hs;h i a w hi
def wz (key:List C):List xX→Nat
 |[]=>0
 |e::es=>if kK key e.1.2 then 0 else wz key es+1
omit [Dr] in
theorem EX (key val:Bool×List C):∀es:List xX,(dF key val es)[wz key.2 es]? =some (key,val)
 |[]=>by simp[dF,wz]
 |e::es=>by
  simp only[dF,wz]
  split
  ·simp
  ·simpa using EX key val es
omit [Dr] in
theorem uy (key val val':Bool×List C):∀es:List xX,(dF key val es).set (wz key.2 es) (key,val')=dF key val' es
 |[]=>by simp[dF,wz]
 |e::es=>by
  simp only[dF,wz]
  split
  ·simp
  ·simpa using uy key val val' es
omit [Dr] in
theorem Ed {k:K} {T:TypeId} {f:Bool} {ks:List Kd} (hT:ER P T=some (f,ks)) {key:Bool×List C} {kc:List Value} (hty:cu ks key.2) (hkc:aX (aF k) key.2 kc):
 ∀{es:List xX} {ents:List MapEntry} {i:Nat},aX (lg (aF k)) es ents→(∀e∈es,e.1.1=f∧cu ks e.1.2)→
  (fU kc ents i=none∧dC key.2 es=none∧wz key.2 es=ents.length)∨
  ∃e q,fU kc ents i=some (i+wz key.2 es,e.val)∧ents[wz key.2 es]? =some e∧dC key.2 es=some q∧gI (aF k) q e.val
 |[],_,i,h,_=>by cases h;exact .inl ⟨rfl,rfl,rfl⟩
 |e::es,_,i,h,ht=>by
  cases h with
  | @cons _ m _ ms he hes=>
  obtain⟨a1,a2⟩:=ht e (by simp)
  obtain⟨ec,hec,hall⟩:=wJ.of hT he.1 a1 a2
  obtain⟨r,hr⟩:=F5 hty a2
  obtain⟨_,_,heq⟩:=CQ hr hkc hall
  have hkb:kK key.2 e.1.2=r:=by simp[kK,hr]
  have hcells:=hec.cells
  simp only[dC,wz,fU,hkb,hcells,heq]
  cases r with
  |true=>exact .inr ⟨m,e.2,by simp,by simp,by simp,he.2⟩
  |false=>
   rcases Ed hT hty hkc (i:=i+1) hes (fun e he=>ht e (by simp[he])) with⟨b1,b2,b3⟩|⟨e',q,b1,b2,b3,b4⟩
   ·exact .inl ⟨by simpa using b1,by simpa using b2,by simpa using b3⟩
   ·exact .inr ⟨e',q,by simp[b1];omega,by simpa using b2,by simpa using b3,b4⟩
theorem GY {Q:Exit→S→Prop} {s:S} {ops l:List Oper} {d:Tmp} {m key:Operand} {T:TypeId} {ty:TypeId} {pos:String} {after:Array Edge} {id:Nat} {es:List xX} {K E:TypeId} {f:Bool} {ks:List Kd} {t:TI} {ak:AV} {p:Bool×List C}
 (hd:d<s.n) (hT:zf P T=some (K,E)) (hK:ER P K=some (f,ks)) (ht:ti P E=some t) (hm:ev s m=some (.c (.mp id))) (hid:get s.st id=some (.map es)) (hk:ev s key=some ak) (hp:WR ak=some p)
 (o1:p.1=f) (o2:cu ks p.2) (o3:∀e∈es,e.1.1=f∧cu ks e.1.2)
 (h:∀β:Int,TO P x ops l ⟨s.n,put s.env d (.tup [(dC p.2 es).getD (t.agg,t.zero.map fun z=> .d (.v z)),(false,[.d (.v (.int .i64 β))])]),
   put s.st id (.mapx (dF p ((dC p.2 es).getD (t.agg,t.zero.map fun z=> .d (.v z))) es) (wz p.2 es) β)⟩ Q):
 TO P x ops (⟨some d, .mapEntry T m key,ty,pos,after,none⟩::l) s Q:=by
 rintro a w ⟨bl,cap,hs,henv,hdf,hsz⟩
 have hmr:=fC henv hm
 have hkr:=fC henv hk
 generalize hum:a.eval m=um at hmr
 generalize huk:a.eval key=uk at hkr
 have hu:=sS hT
 have hkp:=zn hp hkr
 obtain⟨kc,hkv,hall⟩:=wJ.of hK hkp o1 o2
 obtain⟨b,ents,clock,h1,h2,h3,h4⟩:=hs.objs id _ hid
 obtain⟨hdm,b',bs,hb',rfl⟩:=hmr
 simp only[mkK] at hb' h1 h2
 rw[h1] at hb';simp at hb'
 obtain⟨rfl,rfl⟩:=hb'
 have hlt:=lt_of_heap h2
 have hc:=vF hK hkv false w
 have hg:(getObj b).run P w= .ok (.map ents.toArray clock) w:=MapKept.run_getObj_map h2
 have hkeys:∀e∈ents,∃ec,wJ P K f ks e.key ec:=by
  intro e hee
  obtain⟨i,hi,rfl⟩:=ahN.1 hee
  have hl:=h4.length
  obtain⟨q,hq⟩:∃q,es[i]? =some q:=⟨es[i]'(by omega),by simp[adH (by omega:i<es.length)]⟩
  obtain⟨e',he',hre⟩:=h4.get hq
  rw[adH hi] at he';cases he'
  obtain⟨q1,q2⟩:=o3 q (aem hq)
  obtain⟨ec,hec,_⟩:=wJ.of hK hre.1 q1 q2
  exact⟨ec,hec⟩
 have hf:=yK hK hkv hkeys w
 obtain⟨z,hz,hzr⟩:=Oq (mkK x bl cap s.st w) ht
 have hset:∀o,(setObj b o).run P w= .ok () {w with heap:=w.heap.setIfInBounds b o}:=fun o=>MapKept.run_setObj_map o h2
 have fin:∀(v:Value) (β:Int) (val:Bool×List C) (ents':List MapEntry) (clock':Nat),val=(dC p.2 es).getD (t.agg,t.zero.map fun z=> .d (.v z))→gI (aF (mkK x bl cap s.st w)) val v→Uz ents' clock'→
  aX (lg (aF (mkK x bl cap s.st w))) (dF p val es) ents'→(∃e,ents'[wz p.2 es]? =some e∧(e.born:Int)=β)→
  wpList P ops.toArray (yN x Q) l (a.put (some d) (.tuple #[v, .int .i64 β])) {w with heap:=w.heap.setIfInBounds b (.map ents'.toArray clock')}:=by
  intro v β val ents' clock' hval hv hent' hrep' hbn
  have hon:mr (bl id) w {w with heap:=w.heap.setIfInBounds b (.map ents'.toArray clock')}:=by
   refine⟨by simp,?_,rfl,rfl,rfl,afJ _⟩
   intro i hi
   rw[h1] at hi
   simp only[aft] at hi
   show(w.heap.setIfInBounds b _)[i]? =_
   rw[akf (fun h=>hi h.symm)]
  have hle:=oZ (x:=x) (cap:=cap) (o':= .mapx (dF p val es) (wz p.2 es) β) hid rfl hon
  subst hval
  refine h β _ _ ⟨bl,cap,hs.upd hid rfl hon ⟨b,ents',clock',h1,?_,hent',hrep'.mono fun _ _=>lg.mono fun _ _=>aF.le hle,hbn⟩,(henv.le hle).put (by rw[hsz];exact hd) ⟨[v, .int .i64 β],rfl, .cons (hv.mono fun _ _=>aF.le hle) (.cons ?_ .nil)⟩,by rw[Act.put_defers];exact hdf.le hle,by rw[Act.iL];exact hsz⟩
  ·show(w.heap.setIfInBounds b _)[b]? =_
   rw[ake hlt]
  ·exact(show gI _ (false,[_]) _ from⟨⟨_,rfl, .v _ rfl⟩,by simp⟩)
 refine wpList_plain rfl fun KK hKK=>?_
 unfold Oper.wp
 rcases Ed hK (P:=P) o2 hall (i:=0) h4 o3 with⟨b1,b2,b3⟩|⟨e,q,b1,b2,b3,b4⟩
 ·rw[b1] at hf
  have hins:aX (lg (aF (mkK x bl cap s.st w))) (dF p (t.agg,t.zero.map fun z=> .d (.v z)) es) (ents++[{key:=uk,val:=z,born:=clock}]):=by
   rcases II hK hkv o1 o2 hall hkp hzr clock (i:=0) h4 o3 with⟨_,c2⟩|⟨j,v',e,ec,c1,_⟩
   ·exact c2
   ·rw[b1] at c1;cases c1
  have hrun:(execOp a.eval ⟨some d, .mapEntry T m key,ty,pos,after,none⟩).run P w= .ok (.value (.tuple #[z, .int .i64 clock])) {w with heap:=w.heap.setIfInBounds b (.map (ents++[({key:=uk,val:=z,born:=clock}:MapEntry)]).toArray (clock+1))}:=by
   simp only[execOp,hum,huk]
   simp[Instr.mapEntry,run_underlying hu,hg,hc,hf,hz,hset,goInt]
  rw[hrun]
  refine hKK _ _ (fin z clock _ _ _ (by rw[b2];rfl) hzr ⟨?_,?_⟩ hins ⟨{key:=uk,val:=z,born:=clock},by rw[b3];simp,rfl⟩)
  ·rw[ajA,List.nodup_append]
   refine⟨h3.nodup,by simp,?_⟩
   intro a ha c hc
   simp at ha hc;subst hc
   obtain⟨e,he,rfl⟩:=ha
   have:=h3.lt e he;omega
  ·intro e he
   rcases afs.1 he with he|he
   ·have:=h3.lt e he;omega
   ·simp at he;subst he;simp
 ·rw[b1] at hf
  simp only[ajR] at hf
  obtain⟨ec,hec⟩:=hkeys e (aem b2)
  have hins:=II hK hkv o1 o2 hall hkp b4 clock (i:=0) h4 o3
  rcases hins with⟨c1,_⟩|⟨j,v',e',ec',c1,c2,c3,c4,c5⟩
  ·rw[b1] at c1;cases c1
  rw[b1] at c1
  simp at c1
  obtain⟨rfl,rfl⟩:=c1
  rw[b2] at c2;cases c2
  have hmod:(ents.modify (wz p.2 es) fun e'=>{e' with key:=uk,val:=e.val})=ents.modify (wz p.2 es) fun e'=>{e' with key:=uk}:=by
   apply ajS
   intro i
   rw[List.getElem?_modify,List.getElem?_modify]
   split
   ·rename_i hi;subst hi;rw[b2];rfl
   ·rfl
  have hst:(Instr.keyThatStays e.key uk).run P w= .ok uk w:=Sj c3 hkv (by
   have:xE ec' kc=xE kc ec':=JU _ _
   rw[this];exact c4) w
  have hkey:((ents.toArray[wz p.2 es]?).map (·.key)).getD uk=e.key:=by simp[b2]
  have hborn:((ents.toArray[wz p.2 es]?).map (fun x=>(x.born:Int))).getD 0=e.born:=by simp[b2]
  have hborn':((ents.toArray[wz p.2 es]?).map (·.born)).getD 0=e.born:=by simp[b2]
  have hrun:(execOp a.eval ⟨some d, .mapEntry T m key,ty,pos,after,none⟩).run P w= .ok (.value (.tuple #[e.val, .int .i64 e.born])) {w with heap:=w.heap.setIfInBounds b (.map (ents.modify (wz p.2 es) fun e'=>{e' with key:=uk,val:=e.val}).toArray clock)}:=by
   simp only[execOp,hum,huk]
   rw[hmod]
   simp only[Instr.mapEntry,Sem.run_bind,run_underlying hu,Result.andThen_ok,hg,hc,hf,hkey,hst,hset,hborn,hborn']
   simp[goInt,b2]
  rw[hrun]
  refine hKK _ _ (fin e.val e.born q _ _ (by rw[b3];rfl) b4 ⟨by rw[vO];exact h3.nodup,?_⟩ c5 ⟨{e with key:=uk,val:=e.val},by rw[List.getElem?_modify,b2];simp,rfl⟩)
  intro e' he'
  have:e'.born∈(ents.modify (wz p.2 es) fun e'=>{e' with key:=uk,val:=e.val}).map (·.born):=ajU he'
  rw[vO] at this
  obtain⟨e'',h'',e3⟩:=agh.1 this
  rw[←e3];exact h3.lt e'' h''
theorem BZ {Q:Exit→S→Prop} {s:S} {ops l:List Oper} {m st v:Operand} {T:TypeId} {ty:TypeId} {pos:String} {after:Array Edge} {id j:Nat} {es:List xX} {β:Int} {k q:Bool×List C} {av:AV} {p:Bool×List C}
 (hm:ev s m=some (.c (.mp id))) (hid:get s.st id=some (.mapx es j β)) (hst:ev s st=some (.c (.d (.v (.int .i64 β))))) (hv:ev s v=some av) (hp:WR av=some p) (hj:es[j]? =some (k,q))
 (h:TO P x ops l ⟨s.n,s.env,put s.st id (.map (es.set j (k,p)))⟩ Q):
 TO P x ops (⟨none, .entryStore T m st v,ty,pos,after,none⟩::l) s Q:=by
 rintro a w ⟨bl,cap,hs,henv,hdf,hsz⟩
 have hmr:=fC henv hm
 have hvr:=fC henv hv
 have hsr:a.eval st= .int .i64 β:=nC (fC henv hst)
 have hvp:=zn hp hvr
 generalize hum:a.eval m=um at hmr
 generalize huv:a.eval v=uv at hvr hvp
 obtain⟨b,ents,clock,h1,h2,h3,h4,e,he,hbn⟩:=hs.objs id _ hid
 obtain⟨hdm,b',bs,hb',rfl⟩:=hmr
 simp only[mkK] at hb' h1 h2
 rw[h1] at hb';simp at hb'
 obtain⟨rfl,rfl⟩:=hb'
 have hlt:=lt_of_heap h2
 have hg:(getObj b).run P w= .ok (.map ents.toArray clock) w:=MapKept.run_getObj_map h2
 have hset:∀o,(setObj b o).run P w= .ok () {w with heap:=w.heap.setIfInBounds b o}:=fun o=>MapKept.run_setObj_map o h2
 have hfi:ents.toArray.findIdx? (fun e=>(e.born:Int)==β)=some j:=by
  rw[List.findIdx?_toArray,List.findIdx?_eq_some_iff_getElem]
  obtain⟨hjl,hje⟩:=adK.1 he
  refine⟨hjl,by rw[hje];simpa using hbn,?_⟩
  intro i hi
  have hnd:=h3.nodup
  have:(ents.map (·.born))[i]'(by simp;omega)≠(ents.map (·.born))[j]'(by simpa using hjl):=by
   intro h
   have:=(List.getElem_inj hnd).1 h
   omega
  simp only[List.getElem_map,hje] at this
  simp only[beq_iff_eq]
  omega
 refine wpList_plain rfl fun KK hKK=>?_
 unfold Oper.wp
 have hrun:(execOp a.eval ⟨none, .entryStore T m st v,ty,pos,after,none⟩).run P w= .ok .skip {w with heap:=w.heap.setIfInBounds b (.map (ents.modify j fun e=>{e with val:=uv}).toArray clock)}:=by
  simp only[execOp,hum,huv,hsr]
  have hai:(asInt (.int .i64 β)).run P w= .ok β w:=by simp[asInt,asIntOf]
  simp only[Instr.entryStore,Sem.run_bind,hg,Result.andThen_ok,hai,hfi,hset]
  simp
 rw[hrun]
 have hon:mr (bl id) w {w with heap:=w.heap.setIfInBounds b (.map (ents.modify j fun e=>{e with val:=uv}).toArray clock)}:=by
  refine⟨by simp,?_,rfl,rfl,rfl,afJ _⟩
  intro i hi
  rw[h1] at hi
  simp only[aft] at hi
  show(w.heap.setIfInBounds b _)[i]? =_
  rw[akf (fun h=>hi h.symm)]
 have hle:=oZ (x:=x) (cap:=cap) (o':= .map (es.set j (k,p))) hid rfl hon
 have hbm:(ents.modify j fun e=>{e with val:=uv}).map (·.born)=ents.map (·.born):=by
  apply ajS
  intro i
  simp only[ag5,List.getElem?_modify]
  cases ents[i]? with
  |none=>simp
  |some y=>simp;split<;>rfl
 refine hKK _ _ (h _ _ ⟨bl,cap,hs.upd hid rfl hon ⟨b,(ents.modify j fun e=>{e with val:=uv}),clock,h1,?_,⟨by rw[hbm];exact h3.nodup,?_⟩,?_⟩,henv.le hle,hdf.le hle,hsz⟩)
 ·show(w.heap.setIfInBounds b _)[b]? =_
  rw[ake hlt]
 ·intro e' he'
  have:e'.born∈(ents.modify j fun e=>{e with val:=uv}).map (·.born):=ajU he'
  rw[hbm] at this
  obtain⟨e'',h'',e3⟩:=agh.1 this
  rw[←e3];exact h3.lt e'' h''
 ·obtain⟨e',he',hre⟩:=h4.get hj
  rw[he] at he';cases he'
  have h5:lg (aF (mkK x bl cap s.st w)) (k,p) {e with val:=uv}:=⟨hre.1,hvp⟩
  have:=h4.set (i:=j) h5
  rw[show ents.set j {e with val:=uv}=ents.modify j (fun e=>{e with val:=uv}) from by
   apply ajS;intro i
   rw[List.getElem?_modify,akh]
   split
   ·rename_i hi;subst hi;rw[he];simp[(adK.1 he).1]
   ·rename_i hi;cases ents[i]?<;>simp] at this
  exact this.mono fun _ _=>lg.mono fun _ _=>aF.le hle
theorem H9 {s:S} {i mid pid sz:Nat} {G:List ((Bool×List D)×Value×List (List D))} {ps:List (Value×List (List D))} (he:get s.env i=some (.c (.mp mid)))
 (hm:get s.st mid=some (.map (G.map fun g=>(jY g.1,(false,[.d (.v g.2.1)]))))) (hp:get s.st pid=some (.pool sz ps)) (hG:∀g∈G,g.2∈ps):
 BN x s ⟨s.n,put s.env i (.c (.d (.pm (G.map fun g=>(g.1,(false,[.ps sz g.2.2])))))),put (put s.st pid .dead) mid .dead⟩:=by
 rintro a w ⟨bl,cap,hs,henv,hd,hsz⟩
 have hmp:pid≠mid:=by rintro rfl;rw[hp] at hm;cases hm
 have hm':get (put s.st pid .dead) mid=some (.map (G.map fun g=>(jY g.1,(false,[.d (.v g.2.1)])))):=by rw[dw hmp];exact hm
 have hle:=jC (x:=x) (bl:=bl) (cap:=cap) (w:=w) hp
 have hle2:=jC (x:=x) (bl:=bl) (cap:=cap) (w:=w) hm'
 refine⟨bl,cap,(hs.kill hp).kill hm',?_,(hd.le hle).le hle2,hsz⟩
 intro j v hv
 simp only at hv⊢
 rw[get_put] at hv
 by_cases e:i=j
 ·subst e;simp at hv;subst hv
  obtain⟨u,hu,hr⟩:=henv i _ he
  exact⟨u,hu,Hr hs hm hp hG hr⟩
 ·simp only[e,if_false] at hv
  obtain⟨u,hu,hr⟩:=henv j v hv
  exact⟨u,hu,(hr.le hle).le hle2⟩
theorem Hu {s:S} {bid mid pid sz j:Nat} {cs:List C} {G:List ((Bool×List D)×Value×List (List D))} {ps:List (Value×List (List D))} (hb:get s.st bid=some (.box cs)) (hj:cs[j]? =some (.mp mid))
 (hm:get s.st mid=some (.map (G.map fun g=>(jY g.1,(false,[.d (.v g.2.1)]))))) (hp:get s.st pid=some (.pool sz ps)) (hG:∀g∈G,g.2∈ps):
 BN x s ⟨s.n,s.env,put (put (put s.st pid .dead) mid .dead) bid (.box (cs.set j (.d (.pm (G.map fun g=>(g.1,(false,[.ps sz g.2.2])))))))⟩:=by
 rintro a w ⟨bl,cap,hs,henv,hd,hsz⟩
 have hmp:pid≠mid:=by rintro rfl;rw[hp] at hm;cases hm
 have hbp:pid≠bid:=by rintro rfl;rw[hp] at hb;cases hb
 have hbm:mid≠bid:=by rintro rfl;rw[hm] at hb;cases hb
 have hm':get (put s.st pid .dead) mid=some (.map (G.map fun g=>(jY g.1,(false,[.d (.v g.2.1)])))):=by rw[dw hmp];exact hm
 have hle:=jC (x:=x) (bl:=bl) (cap:=cap) (w:=w) hp
 have hle2:=jC (x:=x) (bl:=bl) (cap:=cap) (w:=w) hm'
 have hb':get (put (put s.st pid .dead) mid .dead) bid=some (.box cs):=by rw[dw hbm,dw hbp];exact hb
 obtain⟨b,T,vs,h1,h2,h3⟩:=hs.objs bid _ hb
 have hon:mr (bl bid) w w:=⟨rfl,fun _ _=>rfl,rfl,rfl,rfl,afJ _⟩
 have hle3:=oZ (x:=x) (cap:=cap) (o':= .box (cs.set j (.d (.pm (G.map fun g=>(g.1,(false,[.ps sz g.2.2]))))))) hb' rfl hon
 refine⟨bl,cap,((hs.kill hp).kill hm').upd hb' rfl hon ⟨b,T,vs,h1,h2,?_⟩,((henv.le hle).le hle2).le hle3,((hd.le hle).le hle2).le hle3,hsz⟩
 obtain⟨v,hv,hr⟩:=h3.get hj
 have hd':aF (mkK x bl cap (put (put s.st pid .dead) mid .dead) w) (.d (.pm (G.map fun g=>(g.1,(false,[.ps sz g.2.2]))))) v:=Hr hs hm hp hG hr
 have:=(h3.mono fun _ _ h=>aF.le hle2 (aF.le hle h)).set (i:=j) hd'
 rw[show vs.set j v=vs from by
  apply ajS;intro i
  rw[akh]
  split
  ·rename_i e;subst e;rw[hv];simp[(adK.1 hv).1]
  ·rfl] at this
 exact this.mono fun _ _=>aF.le hle3
end
end Go.Ab
namespace Go.Ab
variable [Dr]
section
variable {P:Program} {x:X}
omit [Dr] in
theorem UH {k:K}:∀{vs us:List Value},aX (aC k) (vs.map fun v=>AV.c (.d (.v v))) us→us=vs
 |[],us,h=>by cases h;rfl
 |v::vs,us,h=>by
  cases h with
  |cons h t=>
   have:_=v:=iM h
   rw[UH t,this]
theorem Vp {Q:Exit→S→Prop} {s:S} {ops l:List Oper} {dst:Option Tmp} {f:FuncId} {as:List Operand} {ats:Array TypeId} {ty:TypeId} {pos:String} {after:Array Edge}
 (vs:List Value) {r:Value} (hd:∀i,dst=some i→i<s.n) (he:jv s as=some (vs.map fun v=>AV.c (.d (.v v)))) (hrun:∀w,(callFunc f vs.toArray).run P w= .ok (.value r) w) (h1:r.oneCell'=true)
 (hk:TO P x ops l ⟨s.n,fZ s.env dst (.c (.d (.v r))),s.st⟩ Q):
 TO P x ops (⟨dst, .call {callee:= .value (.func f),args:=as.toArray,argTypes:=ats},ty,pos,after,none⟩::l) s Q:=by
 rintro a w ⟨bl,cap,hs,henv,hdf,hsz⟩
 refine wpList_plain rfl fun K hK=>?_
 have hargs:=UH (jH henv he)
 unfold Oper.wp
 have hr:(execOp a.eval ⟨dst, .call {callee:= .value (.func f),args:=as.toArray,argTypes:=ats},ty,pos,after,none⟩).run P w= .ok (.value r) w:=by
  have:=hrun w
  rw[←hargs] at this
  simp only[execOp,resolve,Deferred.ofValue,Act.eval,invoke] at*
  simpa using this
 rw[hr]
 refine hK _ _ (hk _ _ ⟨bl,cap,hs,henv.fZ (fun i hi=>by rw[hsz];exact hd i hi) (.v _ h1),by rw[Act.put_defers];exact hdf,by rw[Act.iL];exact hsz⟩)
end
end Go.Ab
