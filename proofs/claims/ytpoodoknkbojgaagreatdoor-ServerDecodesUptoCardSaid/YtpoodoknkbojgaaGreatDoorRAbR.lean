/- A part of the proof. -/
import Derived.Test.YtpoodoknkbojgaaGreatDoorRAbZ
import Derived.Lib.Bytealg
set_option linter.all false
namespace Go.Ab
variable [Dr]
section
variable {P:Program} {x:X} {bl:Nat→List Nat} {cap:Nat→Nat} {st:List (Nat×AO)} {w:World}
theorem qO (hs:aP x bl cap st w) {id:Nat} {o:AO} (hid:get st id=some o) (hl:o.bf=true) {b:Nat} (hb:b∈bl id):¬(mkK x bl cap (put st id .dead) w).M b:=by
 rintro(h|h)
 ·obtain⟨i,p,hne,h1,h2,h3⟩:=vH h
  exact hne (hs.disj i id p o b h1 hid h2 hl h3 hb)
 ·rcases hs.new b ⟨id,o,hid,hl,hb⟩ with h'|h'
  ·exact hs.xok.dis b h h'
  ·have:=hs.xok.lt b h;omega
theorem JP (hs:aP x bl cap st w) {id sz:Nat} {ys:List (List D)} (hid:get st id=some (.arr sz (ys.map fun l=>l.map C.d))) {v:Value} (hr:ai (mkK x bl cap st w) (.ms id sz 0 ys.length) v):
 aS (mkK x bl cap (put st id .dead) w).M w (.ps sz ys) v:=by
 have hle:=lZ (x:=x) (bl:=bl) (cap:=cap) (w:=w) hid
 obtain⟨h0,h1,hsz,h2⟩:=hs.objs id _ hid
 obtain⟨hd,hcap,hh⟩:=hr
 simp only[mkK,aai] at h0 hcap
 rcases hh with⟨hz,a,rfl⟩|⟨hz,b,hb,rfl⟩
 ·simp only[mkK] at hz
  have:ys=[]:=by simpa using(by omega:ys.length=0)
  subst this
  exact .nil _ _ _
 ·simp only[mkK] at hz hb
  rcases h2 with⟨h2,_⟩|⟨b',T,vs,h2,h3,h4,h5⟩
  ·simp only[mkK] at h2;omega
  simp only[mkK] at h2 h3 h4
  rw[hb] at h2;simp at h2;subst h2
  have hl:∀l∈ys,l.length=sz:=fun l hl=>by have:=h1 (l.map C.d) (aaZ (f:=fun l=>l.map C.d) hl);simpa using this
  have hlc:∀l∈(ys.map fun l=>l.map C.d),l.length=sz:=h1
  simp only[Nat.zero_mul,Nat.sub_zero,mkK]
  have hmul:ys.length*sz≤cap id*sz:=aau _ h0
  rw[aai] at h5
  refine .ps sz ys b 0 (cap id) (fun i j=>(vs[i*sz+j]?).getD undef) (qO hs hid rfl (by rw[hb];simp)) hl ?_ ?_ h0 (lt_of_heap h3)
  ·intro i j hi hj
   have hm:i*sz+sz≤ys.length*sz:=by have:=aau sz hi;rwa [aaI] at this
   rw[oL h3,abt,aab (by omega)];rfl
  ·intro i j hi hj
   have hm:i*sz+sz≤ys.length*sz:=by have:=aau sz hi;rwa [aaI] at this
   have hf:=Ot hlc (i:=i) (r:=j) (by simpa using hi) hj
   have hg:(ys.map fun l=>l.map C.d).getD i []=(ys.getD i []).map C.d:=by simp[List.getD,hi]
   have hlen:=hl (ys.getD i []) (by rw[aam,aab hi];simp)
   rw[hg,aaH,kW (l:=ys.getD i []) (by omega)] at hf
   obtain⟨u,hu,hru⟩:=h5.get hf
   rw[aaz,if_pos (by omega)] at hu
   rw[hu]
   exact aS.stable hru hle.heap hle.M
theorem Cm (hs:aP x bl cap st w) {id:Nat} {es:List pG} (hid:get st id=some (.map (es.map D7))) {v:Value} (hr:ai (mkK x bl cap st w) (.mp id) v):
 aS (mkK x bl cap (put st id .dead) w).M w (.pm es) v:=by
 have hle:=lZ (x:=x) (bl:=bl) (cap:=cap) (w:=w) hid
 obtain⟨b,ents,clock,h1,h2,h3,h4⟩:=hs.objs id _ hid
 obtain⟨hd,b',bs,hb',rfl⟩:=hr
 simp only[mkK] at hb' h1 h2
 rw[h1] at hb';simp at hb'
 obtain⟨rfl,rfl⟩:=hb'
 have down:∀{p:Bool×List D} {u:Value},dC (ai (mkK x bl cap st w)) (L9 p) u→dC (aS (mkK x bl cap (put st id .dead) w).M w) p u:=by
  intro p u h
  obtain⟨f,ds⟩:=p
  cases f with
  |true=>
   obtain⟨vs,e,hall⟩:=(show ∃vs:List Value,u= .agg vs.toArray∧aj (ai (mkK x bl cap st w)) (ds.map .d) vs from h)
   exact(show dC _ (true,ds) u from⟨vs,e,(aj.jO.1 hall).mono fun _ _ h=>aS.stable h hle.heap hle.M⟩)
  |false=>
   obtain⟨⟨y,e,hr⟩,hna⟩:=(show(∃y,ds.map C.d=[y]∧ai (mkK x bl cap st w) y u)∧∀cs,u≠ .agg cs from h)
   match ds,e with
   |[d],e=>simp at e;subst e;exact(show dC _ (false,[d]) u from⟨⟨d,rfl,aS.stable hr hle.heap hle.M⟩,hna⟩)
 exact Yn (qO hs hid rfl (by rw[h1];simp)) h2 h3 ((aj.jO.1 h4).mono fun _ _ h=>⟨down h.1,down h.2⟩)
theorem ay {s:S} {i id sz n:Nat} {ys:List (List D)} (he:get s.env i=some (.c (.ms id sz 0 n))) (hid:get s.st id=some (.arr sz (ys.map fun l=>l.map C.d))) (hn:n=ys.length):
 mZ x s ⟨s.n,put s.env i (.c (.d (.ps sz ys))),put s.st id .dead⟩:=by
 rintro a w ⟨bl,cap,hs,henv,hd,hsz⟩
 subst hn
 have hle:=lZ (x:=x) (bl:=bl) (cap:=cap) (w:=w) hid
 refine⟨bl,cap,hs.kill hid,?_,hd.le hle,hsz⟩
 intro j v hv
 simp only at hv⊢
 rw[get_put] at hv
 by_cases e:i=j
 ·subst e;simp at hv;subst hv
  obtain⟨u,hu,hr⟩:=henv i _ he
  exact⟨u,hu,JP hs hid hr⟩
 ·simp only[e,if_false] at hv
  obtain⟨u,hu,hr⟩:=henv j v hv
  exact⟨u,hu,hr.le hle⟩
theorem qN {s:S} {i id:Nat} {es:List pG} (he:get s.env i=some (.c (.mp id))) (hid:get s.st id=some (.map (es.map D7))):
 mZ x s ⟨s.n,put s.env i (.c (.d (.pm es))),put s.st id .dead⟩:=by
 rintro a w ⟨bl,cap,hs,henv,hd,hsz⟩
 have hle:=lZ (x:=x) (bl:=bl) (cap:=cap) (w:=w) hid
 refine⟨bl,cap,hs.kill hid,?_,hd.le hle,hsz⟩
 intro j v hv
 simp only at hv⊢
 rw[get_put] at hv
 by_cases e:i=j
 ·subst e;simp at hv;subst hv
  obtain⟨u,hu,hr⟩:=henv i _ he
  exact⟨u,hu,Cm hs hid hr⟩
 ·simp only[e,if_false] at hv
  obtain⟨u,hu,hr⟩:=henv j v hv
  exact⟨u,hu,hr.le hle⟩
theorem lg {s:S} {i id sz:Nat} (he:get s.env i=some (.c (.d (.v (.slice none 0 0))))) (hid:get s.st id=none) (hsz0:0<sz):
 mZ x s ⟨s.n,put s.env i (.c (.ms id sz 0 0)),put s.st id (.arr sz [])⟩:=by
 rintro a w ⟨bl,cap,hs,henv,hd,hsz⟩
 obtain⟨bl',cap',a1,a2,a3⟩:=nG (sz:=sz) none hs hid hsz0
 refine⟨bl',cap',a1,?_,hd.le a2,hsz⟩
 intro j v hv
 simp only at hv⊢
 rw[get_put] at hv
 by_cases e:i=j
 ·subst e;simp at hv;subst hv
  obtain⟨u,hu,hr⟩:=henv i _ he
  have:u= .slice none 0 0:=dL hr
  subst this
  exact⟨_,hu,a3⟩
 ·simp only[e,if_false] at hv
  obtain⟨u,hu,hr⟩:=henv j v hv
  exact⟨u,hu,hr.le a2⟩
theorem Vh {Q:Exit→S→Prop} {s:S} {ops l:List Oper} {d:Tmp} {it:Operand} {ty:TypeId} {pos:String} {after:Array Edge} {id:Nat} {cur:Option pG} {left:List pG}
 (hd:d<s.n) (he:ev s it=some (.c (.ptr id 0))) (hid:get s.st id=some (.iter cur left))
 (h0:left=[]→TO P x ops l ⟨s.n,put s.env d (.tup [(false,[.d (.v (.bool false))])]),s.st⟩ Q)
 (h1:∀l1 e l2,left=l1++e::l2→TO P x ops l ⟨s.n,put s.env d (.tup [(false,[.d (.v (.bool true))]),L9 e.1,L9 e.2]),put s.st id (.iter (some e) (l1++l2))⟩ Q):
 TO P x ops (⟨some d, .next it false,ty,pos,after,none⟩::l) s Q:=by
 rintro a w ⟨bl,cap,hs,henv,hdf,hsz⟩
 obtain⟨hdm,b,hb,hit⟩:=bJ henv he
 obtain⟨b',hbl,hcase⟩:=hs.objs id _ hid
 simp only[mkK] at hb hbl
 rw[hbl] at hb;simp at hb;subst hb
 have fls:dC (ai (mkK x bl cap s.st w)) (false,[.d (.v (.bool false))]) (.bool false):=(show dC _ (false,[_]) _ from⟨⟨_,rfl, .v _ rfl⟩,by simp⟩)
 have over:left=[]→∀{w2:World},(mkK x bl cap s.st w).le (mkK x bl cap s.st w2)→aP x bl cap s.st w2→wpList P ops.toArray (Aq x Q) l (a.put (some d) (.tuple #[.bool false])) w2:=by
  intro hl w2 hle hs2
  refine h0 hl _ _ ⟨bl,cap,hs2,(henv.le hle).put (by rw[hsz];exact hd) ⟨[.bool false],rfl, .cons (fls.mono fun _ _=>ai.le hle) .nil⟩,by rw[Act.put_defers];exact hdf.le hle,by rw[Act.bK];exact hsz⟩
 refine wpList_plain rfl fun K hK=>?_
 unfold Oper.wp
 rcases hcase with⟨hl,hc,since,seen,last,hh⟩|⟨mb,ents,clock,seen,hh,hM,hmb,hent,hall,hcur⟩
 ·simp only[mkK] at hh
  have hg:(getObj b').run P w= .ok (.mapIter none since seen last) w:=by simp only[getObj,Sem.run];rw[hh]
  have hrun:(execOp a.eval ⟨some d, .next it false,ty,pos,after,none⟩).run P w= .ok (.value (.tuple #[.bool false])) w:=by
   simp[execOp,hit,Instr.next,hg]
  rw[hrun]
  exact hK _ _ (over hl (.refl _) hs)
 ·simp only[mkK] at hh hmb
  have hg:(getObj b').run P w= .ok (.mapIter (some mb) clock seen clock) w:=by simp only[getObj,Sem.run];rw[hh]
  have hgm:(getObj mb).run P w= .ok (.map ents.toArray clock) w:=MapKept.run_getObj_map hmb
  have hlt:=lt_of_heap hmb
  have hblt:=lt_of_heap hh
  generalize hL:(ents.filter fun e=>!seen.contains e.born)=L at hall
  have hLm:∀e∈L,e∈ents:=fun e he=>by rw[←hL] at he;exact(aaU.1 he).1
  have hold:L.filter (fun e=>decide (e.born<clock))=L:=abI.2 fun e he=>by simpa using hent.lt e (hLm e he)
  have hnew:L.filter (fun e=>decide (e.born≥clock))=[]:=List.filter_eq_nil_iff.2 fun e he=>by have:=hent.lt e (hLm e he);simp;omega
  have hguard:(!seen.isEmpty&&!ents.toArray.isEmpty&&ents.toArray.all fun e=>decide (e.born≥clock))=false:=by
   cases hE:ents with
   |nil=>simp
   |cons e es=>
    have:e.born<clock:=hent.lt e (by rw[hE];simp)
    have h2:((e::es).toArray.all fun e=>decide (e.born≥clock))=false:=by
     simp only[List.all_toArray,List.all_cons]
     rw[show decide (e.born≥clock)=false by simp;omega];simp
    rw[h2];simp
  have hrun:∀(c:Nat) (w1:World),(choose (.mapNext ((if L.isEmpty then [none] else [])++L.map some).length)).run P w= .ok c w1→
   (execOp a.eval ⟨some d, .next it false,ty,pos,after,none⟩).run P w=
     match((if L.isEmpty then [none] else [])++L.map some)[c]? with
     |some (some e)=>((setObj b' (.mapIter (some mb) clock (seen.push e.born) clock)).run P w1).andThen fun _ w2=> .ok (.value (.tuple #[.bool true,e.key,e.val])) w2
     |some none=> .ok (.value (.tuple #[.bool false])) w1
     |none=> .halt (.stuck "Next: no such candidate") w1:=by
   intro c w1 hc
   have e1:ents.toArray.filter (fun e=>!seen.contains e.born)=L.toArray:=by rw[List.filter_toArray' (by simp),hL]
   have e2:L.toArray.filter (fun e=>decide (e.born<clock))=L.toArray:=by rw[List.filter_toArray' (by simp),hold]
   have e3:L.toArray.filter (fun e=>decide (e.born≥clock))= #[]:=by rw[List.filter_toArray' (by simp),hnew]
   have e4:((if L.toArray.isEmpty then #[none] else #[])++(L.toArray++(#[]:Array MapEntry)).map some)=((if L.isEmpty then [none] else [])++L.map some).toArray:=by
    cases L<;>simp
   simp only[execOp,hit,Instr.next,Sem.run_bind,hg,Result.andThen_ok,hgm]
   simp only[hguard,aak,if_false]
   simp only[e1,e2,e3,e4]
   simp only[Sem.run_bind,abN,hc,Result.andThen_ok,abj]
   cases hq:((if L.isEmpty then [none] else [])++L.map some)[c]? with
   |none=>rfl
   |some q=>
    cases q with
    |none=>rfl
    |some e=>
     simp only[Sem.run_bind,Sem.run_pure]
     generalize (setObj b' (.mapIter (some mb) clock (seen.push e.born) clock)).run P w1=r
     cases r<;>rfl
  cases hLc:L with
  |nil=>
   rw[hLc] at hrun hall
   have hl:left=[]:=by cases hall;rfl
   have:=hrun 0 w (by simp[Question.forced])
   rw[this]
   simp only[List.isEmpty_nil,if_true,aa5,aaM,List.getElem?_cons_zero]
   exact hK _ _ (over hl (.refl _) hs)
  |cons e0 es0=>
   have hne:L≠[]:=by rw[hLc];simp
   have hlen:0<L.length:=abH.2 hne
   have hch:∃c dr,c<L.length∧w.drawn≤dr∧(choose (.mapNext ((if L.isEmpty then [none] else [])++L.map some).length)).run P w= .ok c {w with drawn:=dr}:=by
    have hz:((if L.isEmpty then [none] else [])++L.map some:List (Option MapEntry)).length=L.length:=by rw[hLc];simp
    rw[hz]
    by_cases h1:L.length≤1
    ·exact⟨0,w.drawn,hlen,aat _,by simp[choose,Sem.run,Question.forced,h1]⟩
    ·exact⟨w.tape w.drawn (Question.mapNext L.length)%L.length,w.drawn+1,Nat.mod_lt _ hlen,Nat.le_succ _,by simp[choose,Sem.run,Question.forced,h1,Question.cut]⟩
   obtain⟨c,dr,hc,hdr,hchoose⟩:=hch
   have hget:((if L.isEmpty then [none] else [])++L.map some:List (Option MapEntry))[c]? =some (some L[c]):=by
    have:(if L.isEmpty then [none] else [])=([]:List (Option MapEntry)):=by rw[hLc];rfl
    rw[this,List.nil_append,aaH,aab hc];rfl
   have hr:=hrun c _ hchoose
   rw[hget] at hr
   simp only at hr
   have hset:(setObj b' (.mapIter (some mb) clock (seen.push L[c].born) clock)).run P {w with drawn:=dr}= .ok () {w with drawn:=dr,heap:=w.heap.setIfInBounds b' (.mapIter (some mb) clock (seen.push L[c].born) clock)}:=by
    simp only[setObj,Sem.run];rw[hh]
   rw[hset] at hr
   rw[hr]
   have hsplit:L=L.take c++L[c]::L.drop (c+1):=by simp
   have hle1:=hall.length
   have hcl:c<left.length:=by omega
   have hsplit':left=left.take c++left[c]::left.drop (c+1):=by simp
   obtain⟨m,hm,hrm⟩:=hall.get (i:=c) (a:=left[c]) (by simp[hcl])
   rw[aab hc] at hm;cases hm
   have hne':b'≠mb:=fun e=>hM (.inl ⟨id,_,hid,rfl,by rw[hbl,e];simp⟩)
   have hon:jC (bl id) w {w with drawn:=dr,heap:=w.heap.setIfInBounds b' (.mapIter (some mb) clock (seen.push L[c].born) clock)}:=by
    refine⟨by simp,?_,rfl,rfl,rfl,hdr⟩
    intro i hi
    rw[hbl] at hi
    simp only[aag] at hi
    show(w.heap.setIfInBounds b' _)[i]? =_
    rw[abw (fun h=>hi h.symm)]
   have hle:=lw (x:=x) (cap:=cap) (o':= .iter (some left[c]) (left.take c++left.drop (c+1))) hid rfl hon
   have hfilter:(ents.filter fun e=>!(seen.push L[c].born).contains e.born)=L.take c++L.drop (c+1):=by
    have hnd:(L.map (·.born)).Nodup:=by rw[←hL];exact List.Nodup.sublist (List.Sublist.map _ List.filter_sublist) hent.nodup
    have e1:∀bc,(ents.filter fun e=>!(seen.push bc).contains e.born)=L.filter fun e=>decide (e.born≠bc):=by
     intro bc
     rw[←hL,List.filter_filter]
     refine List.filter_congr fun e _=>?_
     simp only[Array.contains_push]
     by_cases h:e.born=bc
     ·simp[h]
     ·have:(e.born==bc)=false:=by simpa using h
      simp[this,h]
    rw[e1]
    generalize hLc':L[c]=m at*
    conv=>lhs;rw[hsplit]
    rw[hsplit,aa2,aax,List.nodup_append] at hnd
    obtain⟨n1,n2,n3⟩:=hnd
    rw[List.nodup_cons] at n2
    rw[abx,abh]
    simp only[ne_eq,not_true_eq_false,abP,aak,if_false]
    rw[abI.2 fun e he=>?_,abI.2 fun e he=>?_]
    ·have:e.born≠m.born:=fun h=>n2.1 (by rw[←h];exact aaZ he)
     simpa using this
    ·have:e.born≠m.born:=fun h=>n3 e.born (aaZ he) m.born (by simp) h
     simpa using this
   have hs2:aP x bl cap (put s.st id (.iter (some left[c]) (left.take c++left.drop (c+1)))) {w with drawn:=dr,heap:=w.heap.setIfInBounds b' (.mapIter (some mb) clock (seen.push L[c].born) clock)}:=by
    refine hs.upd hid rfl hon ⟨b',hbl, .inr ⟨mb,ents,clock,seen.push L[c].born,?_,?_,?_,hent,?_,?_⟩⟩
    ·show(w.heap.setIfInBounds b' _)[b']? =_
     rw[abG hblt]
    ·intro h;rcases hle.M mb h with h|h
     ·exact hM h
     ·simp only[mkK] at h;omega
    ·show(w.heap.setIfInBounds b' _)[mb]? =_
     rw[abw hne'];exact hmb
    ·rw[hfilter]
     exact((hall.take c).append (hall.drop (c+1))).mono fun _ _=>jD.mono fun _ _ h=>h.stable hle.heap hle.M
    ·intro c' hc'
     cases hc'
     exact⟨L[c],by simp,hLm _ (List.getElem_mem hc),hrm.mono fun _ _ h=>h.stable hle.heap hle.M⟩
   refine hK _ _ (h1 _ _ _ hsplit' _ _ ⟨bl,cap,hs2,(henv.le hle).put (by rw[hsz];exact hd) ⟨[.bool true,L[c].key,L[c].val],rfl, .cons ?_ (.cons ?_ (.cons ?_ .nil))⟩,by rw[Act.put_defers];exact hdf.le hle,by rw[Act.bK];exact hsz⟩)
   ·exact(show dC _ (false,[_]) _ from⟨⟨_,rfl, .v _ rfl⟩,by simp⟩)
   ·exact(rO hrm.1).mono fun _ _=>ai.le hle
   ·exact(rO hrm.2).mono fun _ _=>ai.le hle
end
end Go.Ab
namespace Go.Ab
variable [Dr]
section
variable {P:Program} {x:X} {bl:Nat→List Nat} {cap:Nat→Nat} {st:List (Nat×AO)} {w:World}
theorem aT {s:S} {bid j:Nat} (sz:Nat) {cs:List C} (hb:get s.st bid=some (.box cs)) (hj:cs[j]? =some (.d (.v (.slice none 0 0)))):
 mZ x s ⟨s.n,s.env,put s.st bid (.box (cs.set j (.d (.ps sz []))))⟩:=by
 rintro a w ⟨bl,cap,hs,henv,hd,hsz⟩
 obtain⟨b,T,vs,h1,h2,h3⟩:=hs.objs bid _ hb
 have hon:jC (bl bid) w w:=⟨rfl,fun _ _=>rfl,rfl,rfl,rfl,aat _⟩
 have hle2:=lw (x:=x) (cap:=cap) (o':= .box (cs.set j (.d (.ps sz [])))) hb rfl hon
 refine⟨bl,cap,hs.upd hb rfl hon ⟨b,T,vs,h1,h2,?_⟩,henv.le hle2,hd.le hle2,hsz⟩
 obtain⟨v,hv,hr⟩:=h3.get hj
 have hv':v= .slice none 0 0:=dL hr
 have hd':ai (mkK x bl cap s.st w) (.d (.ps sz [])) v:=by rw[hv'];exact .nil _ _ _
 have:=h3.set (i:=j) hd'
 rw[show vs.set j v=vs from by
  apply aa6;intro i
  rw[abA]
  split
  ·rename_i e;subst e;rw[hv];simp[(aal.1 hv).1]
  ·rfl] at this
 exact this.mono fun _ _=>ai.le hle2
end
end Go.Ab
namespace Go.Ab
variable [Dr]
section
variable {P:Program} {x:X}
theorem BJ {c:Code} {s:S} {Q Q':Exit→S→Prop} (h:T P x c s Q') (hq:∀e s,Q' e s→∀a w,Sat x s a w→∃s',Q e s'∧Sat x s' a w):T P x c s Q:=
 fun a w hs=>wp_mono (h a w hs) fun e a w ⟨s,hQ,hs⟩=>hq e s hQ a w hs
end
end Go.Ab
namespace Go.Ab
variable [Dr]
section
variable {P:Program} {x:X}
omit [Dr] in
theorem I4 {k:K}:∀{vs us:List Value},aj (af k) (vs.map fun v=>AV.c (.d (.v v))) us→us=vs
 |[],us,h=>by cases h;rfl
 |v::vs,us,h=>by
  cases h with
  |cons h t=>
   have:_=v:=dL h
   rw[I4 t,this]
theorem RF {Q:Exit→S→Prop} {s:S} {ops l:List Oper} {dst:Option Tmp} {f:FuncId} {as:List Operand} {ats:Array TypeId} {ty:TypeId} {pos:String} {after:Array Edge}
 (vs:List Value) {r:Value} (hd:∀i,dst=some i→i<s.n) (he:gz s as=some (vs.map fun v=>AV.c (.d (.v v)))) (hrun:∀w,(callFunc f vs.toArray).run P w= .ok (.value r) w) (h1:r.oneCell'=true)
 (hk:TO P x ops l ⟨s.n,dB s.env dst (.c (.d (.v r))),s.st⟩ Q):
 TO P x ops (⟨dst, .call {callee:= .value (.func f),args:=as.toArray,argTypes:=ats},ty,pos,after,none⟩::l) s Q:=by
 rintro a w ⟨bl,cap,hs,henv,hdf,hsz⟩
 refine wpList_plain rfl fun K hK=>?_
 have hargs:=I4 (iq henv he)
 unfold Oper.wp
 have hr:(execOp a.eval ⟨dst, .call {callee:= .value (.func f),args:=as.toArray,argTypes:=ats},ty,pos,after,none⟩).run P w= .ok (.value r) w:=by
  have:=hrun w
  rw[←hargs] at this
  simp only[execOp,resolve,Deferred.ofValue,Act.eval,invoke] at*
  simpa using this
 rw[hr]
 refine hK _ _ (hk _ _ ⟨bl,cap,hs,henv.dB (fun i hi=>by rw[hsz];exact hd i hi) (.v _ h1),by rw[Act.put_defers];exact hdf,by rw[Act.bK];exact hsz⟩)
end
end Go.Ab
