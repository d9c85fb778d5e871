/- A part of the proof. -/
import Derived.Test.YtpoodoknkbojgaaGreatDoorRAbCk
import Derived.RangeFuncCalls
import Derived.RangeFuncLeaves
import Derived.RangeFuncIn
import Derived.TacticsIn
import Derived.Below
set_option linter.all false
namespace Go.Ab
variable [Dr]
section
variable {P:Program} {x:X}
theorem Y6 {s:S} {args:List AV} {st0:List (Nat×AO)} {bl:Nat→List Nat} {cap:Nat→Nat} {w:World} {us:List Value} (hs:aP x bl cap s.st w) (hl:FK s args st0)
 (hargs:aj (af (mkK x bl cap s.st w)) args us):
 ∃F0:Nat→Prop,aP (X.start bl cap F0 st0 w) bl cap st0 w∧aj (af (mkK (X.start bl cap F0 st0 w) bl cap st0 w)) args us∧
  ∀(st':List (Nat×AO)) (bl':Nat→List Nat) (cap':Nat→Nat) (w':World),(st'.map (·.1)).Nodup→jl s st0 st'→aP (X.start bl cap F0 st0 w) bl' cap' st' w'→
   ∃bl'' cap'',aP x bl'' cap'' (ah s.st st') w'∧(mkK x bl cap s.st w).le (mkK x bl'' cap'' (ah s.st st') w')∧
    (mkK (X.start bl cap F0 st0 w) bl' cap' st' w').le (mkK x bl'' cap'' (ah s.st st') w'):=by
 have hsub:∀b,MM bl st0 b→MM bl s.st b:=by
  rintro b ⟨id,o,h1,h2,h3⟩
  exact⟨id,o,hl.mem _ (get_mem h1),h2,h3⟩
 let F0:Nat→Prop:=fun b=>(MM bl s.st b∨x.F b)∧¬MM bl st0 b
 have hM0:∀b,(mkK (X.start bl cap F0 st0 w) bl cap st0 w).M b→(mkK x bl cap s.st w).M b:=by
  rintro b (hb|hb)
  ·exact .inl (hsub b hb)
  ·exact hb.1
 have hR:∀c v,bi (ae st0) c→ai (mkK x bl cap s.st w) (bP (fun i=>i) c) v→ai (mkK (X.start bl cap F0 st0 w) bl cap st0 w) c v:=fun c v hcl hr=>
  Cb (k:=mkK x bl cap s.st w) (ρ:=fun i=>i) (k':=mkK (X.start bl cap F0 st0 w) bl cap st0 w) (dom:=ae st0) (fun id hid=>hid) (fun id _=>rfl) (fun id _=>rfl) rfl hM0 hcl hr
 refine⟨F0,?_,?_,fun st' bl' cap' w' hn hfr hs'=>Ec hs hl (fun b=>Iff.rfl) hn hfr hs'⟩
 ·refine⟨?_,?_,?_,fun b hb=> .inl hb,fun b hb=>hs.lt b (hsub b hb),⟨aat _,fun _ _ _=>rfl,rfl,rfl,rfl,fun _=>aat _⟩,fun id hid=>⟨hid,rfl,rfl⟩,⟨?_,fun b hb=>hb.2⟩⟩
  ·intro id o ho
   exact xC (ρ:=fun i=>i) hR rfl hM0 rfl rfl (hl.cl _ (get_mem ho)) (by rw[aB];exact hs.objs id o (hl.mem _ (get_mem ho)))
  ·intro i j p q b hi hj hp hq hbi hbj
   exact hs.disj i j p q b (hl.mem _ (get_mem hi)) (hl.mem _ (get_mem hj)) hp hq hbi hbj
  ·intro id o ho hlv
   exact hs.nodup id o (hl.mem _ (get_mem ho)) hlv
  ·rintro b ⟨hb|hb,_⟩
   ·exact hs.lt b hb
   ·have:=hs.xok.lt b hb;have:=hs.fr.size;simp only[X.start];omega
 ·have hcl:=hl.args
  clear hl
  induction hargs with
  |nil=>exact .nil
  |cons h _ ih=>exact .cons (ik (ρ:=fun i=>i) hR (hcl _ (by simp)) (by rw[aO];exact h)) (ih fun a ha=>hcl a (by simp[ha]))
variable {Q:Exit→S→Prop} {s s':S} {F:Fence}
theorem Jm {g:Operand} {ps:Array Tmp} {assign body:Code} {vg:AV} {f:FuncId} {cs:List AV} {env0:List (Nat×AV)} (id:Nat) (st0:List (Nat×AO)) {R:Nat→Nat→Loop→AV→List (Nat×AO)→Prop} (hrf:x.rf=true)
 (hg:ev s g=some vg) (hf:IY vg=some (f,cs)) (hid:get s.st id=none) (hm:∀p∈st0,get s.st p.1=some p.2)
 (hcl:∀p∈st0,aN (fun i=>decide (i=id)||ae st0 i) p.2) (hca:∀a∈cs,aA (fun i=>decide (i=id)||ae st0 i) a) (hce:bz (fun i=>decide (i=id)||ae st0 i) env0) (he0:∀i v,get env0 i=some v→get s.env i=some v)
 (hc:∀L D r,r.state= .ready→r.pending=none→r.tmps.size=s.n→r.params=ps→r.assign=assign→r.body=body→
   AC P f (.c (.d (.v (.func (.yield L) #[] #[])))::cs) ((id, .loop L D env0 r)::st0) (R L D r))
 (hk:∀L D r v st',R L D r v st'→(∀p∈st',p.1=id∨ae st0 p.1=true∨get s.st p.1=none)∧(∃r',get st' id=some (.loop L D env0 r')∧r'.state≠ .busy∧r'.pending=none)∧
   Q .normal ⟨s.n,s.env,put (ah (put s.st id (.loop L D env0 r)) st') id .dead⟩):T P x (.rangeFunc g ps assign body) s Q:=by
 rintro a w ⟨bl,cap,hs,henv,hdf,hsz⟩
 refine(wpIn_wide (n:=1)).1 (wpIn_rangeFunc ?_)
 intro fn _
 obtain⟨fs,hgv,hfs⟩:=BB hf (bJ henv hg)
 obtain⟨rec,hrec⟩:∃rec:Loop,rec={state:= .ready,pending:=none,fn,tmps:=a.tmps,params:=ps,assign,body,defers:=w.heap.size}:=⟨_,rfl⟩
 obtain⟨W1,hW1⟩:∃W1,(w.alloc (.deferred (some []))).alloc (.loop rec)=W1:=⟨_,rfl⟩
 have hL1:W1.heap[w.heap.size+1]? =some (.loop rec):=by
  rw[←hW1];have:=World.alloc_heap_new (w.alloc (.deferred (some []))) (.loop rec);rwa [World.size_alloc] at this
 have hK1:W1.heap[w.heap.size]? =some (.deferred (some [])):=by
  rw[←hW1];exact(Go.RowKit.Below.heap_alloc _ _ _ (by simp)).trans (World.alloc_heap_new w _)
 have hsz1:W1.heap.size=w.heap.size+2:=by rw[←hW1];simp
 have hgrew:Grew w W1:=by
  refine⟨by omega,fun b hb=>?_,by rw[←hW1];rfl,by rw[←hW1];rfl,by rw[←hW1];rfl,by rw[←hW1];exact aat _⟩
  rw[←hW1];exact(Go.RowKit.Below.heap_alloc _ _ _ (by simp;omega)).trans (Go.RowKit.Below.heap_alloc _ _ _ hb)
 obtain⟨⟨fn',hfn',hname,hbody⟩,hcalls⟩:=hc (w.heap.size+1) w.heap.size rec (by rw[hrec]) (by rw[hrec]) (by rw[hrec];exact hsz) (by rw[hrec]) (by rw[hrec]) (by rw[hrec])
 have hnb:¬fn'.body=none:=by intro h;rw[h] at hbody;cases hbody
 have hnn:¬fn'.name="runtime.NumGoroutine":=by simpa using hname
 have hle1:=oH (x:=x) (bl:=bl) (cap:=cap) (st:=s.st) (id:=id) (o:= .loop (w.heap.size+1) w.heap.size env0 rec) (w':=W1) (bs:=[w.heap.size+1,w.heap.size]) (c:=0) hid hgrew.heap (by simp)
 have hs1:aP x (fu bl id [w.heap.size+1,w.heap.size]) (fu cap id 0) (put s.st id (.loop (w.heap.size+1) w.heap.size env0 rec)) W1:=by
  refine hs.alloc hid hgrew (by simp;omega) (by simp) ⟨by simp[mkK],hL1,hK1,fun i v hv=>?_⟩
  obtain⟨u,hu,hr⟩:=henv i v (he0 i v hv)
  exact⟨u,by rw[hrec];exact hu,hr.le hle1⟩
 have hdom:∀{o:AO} (i:Nat),ae ((id,o)::st0) i=(decide (i=id)||ae st0 i):=by
  intro o i
  simp only[ae,get]
  by_cases e:id=i
  ·subst e;simp
  ·simp[e,Ne.symm e]
 have hdomf:∀{o:AO},ae ((id,o)::st0)=fun i=>(decide (i=id)||ae st0 i):=funext fun i=>hdom i
 have hlent:FK ⟨s.n,s.env,put s.st id (.loop (w.heap.size+1) w.heap.size env0 rec)⟩ (.c (.d (.v (.func (.yield (w.heap.size+1)) #[] #[])))::cs) ((id, .loop (w.heap.size+1) w.heap.size env0 rec)::st0):=by
  refine⟨?_,?_,?_⟩
  ·intro p hp
   rcases Z9.1 hp with rfl|hp
   ·exact jb _ _ _
   ·have:=hm p hp
    show get (put _ _ _) _=_
    rw[aZ (fun e=>by rw[←e,hid] at this;cases this)];exact this
  ·intro p hp
   rw[hdomf]
   rcases Z9.1 hp with rfl|hp
   ·exact hce
   ·exact hcl p hp
  ·intro p hp
   rw[hdomf]
   rcases Z9.1 hp with rfl|hp
   ·trivial
   ·exact hca p hp
 have hargs:aj (af (mkK x (fu bl id [w.heap.size+1,w.heap.size]) (fu cap id 0) (put s.st id (.loop (w.heap.size+1) w.heap.size env0 rec)) W1)) (.c (.d (.v (.func (.yield (w.heap.size+1)) #[] #[])))::cs)
  (.func (.yield (w.heap.size+1)) #[] #[]::fs):= .cons (.v _ rfl) (hfs.mono fun _ _ h=>af.le hle1 h)
 obtain⟨F0,hs0,ha0,hback⟩:=Y6 hs1 hlent hargs
 refine⟨w.heap.size+1,[{target:= .collected w.heap.size,args:= #[]}],W1,{target:= .fn (.func f) ⟨fs⟩,args:= #[.func (.yield (w.heap.size+1)) #[] #[]]},W1,f,
  #[.func (.yield (w.heap.size+1)) #[] #[]]++⟨fs⟩,W1,?_,?_,?_,?_,fun h=>by simp[Fence.wide] at h,?_⟩
 ·rw[←hW1,hrec];exact run_enterLoop_outer _ _ _ _ _
 ·simp only[resolve,hgv]
  simp[go_sem]
 ·intro f' _;trivial
 ·simp[invoke,callFunc,hfn',hnn,hnb]
 ·refine callsIn_wide.2 ?_
  have e0:(#[.func (.yield (w.heap.size+1)) #[] #[]]++(⟨fs⟩:Array Value):Array Value)=(.func (.yield (w.heap.size+1)) #[] #[]::fs).toArray:=by simp
  rw[e0]
  refine(hcalls _ _ F0 W1 _ hs0 ha0).mono ?_
  rintro e w3 ⟨v,st',bl',cap',u,rfl,hR,hnd,hs',hrv⟩
  obtain⟨hfr,⟨r',hr',hb',hp'⟩,hQ⟩:=hk _ _ _ v st' hR
  obtain⟨bl3,cap3,hs3,le2,_⟩:=hback st' bl' cap' w3 hnd (fun p hp=>by
   rw[hdom]
   rcases hfr p hp with h|h|h
   ·exact .inl (by simp[h])
   ·exact .inl (by simp[h])
   ·by_cases e:id=p.1
    ·exact .inl (by simp[e])
    ·right;show get (put _ _ _) _=none;rw[aZ e];exact h) hs'
  have hg3:get (ah (put s.st id (.loop (w.heap.size+1) w.heap.size env0 rec)) st') id=some (.loop (w.heap.size+1) w.heap.size env0 r'):=by rw[nX hnd,hr'];rfl
  obtain⟨c1,c2,c3,c4⟩:=hs3.objs id _ hg3
  have hlt3:=lt_of_heap c2
  have hon:jC (bl3 id) w3 (w3.putObj (w.heap.size+1) (.loop {r' with state:= .exhausted})):=by
   refine⟨by simp[World.putObj],fun b hb=>?_,rfl,rfl,rfl,aat _⟩
   simp only[mkK] at c1
   exact World.putObj_heap_other (fun e=>hb (by rw[c1,e];simp))
  have le3:=lw (x:=x) (cap:=cap3) (o':= .loop (w.heap.size+1) w.heap.size env0 {r' with state:= .exhausted}) hg3 rfl hon
  have hD4:(w3.putObj (w.heap.size+1) (.loop {r' with state:= .exhausted})).heap[w.heap.size]? =some (.deferred (some [])):=(World.putObj_heap_other (by omega)).trans c3
  have hs4:=hs3.upd hg3 rfl hon (o':= .loop (w.heap.size+1) w.heap.size env0 {r' with state:= .exhausted}) ⟨c1,World.putObj_heap_same hlt3,hD4,fun i v hv=>let⟨u,hu,hr⟩:=c4 i v hv;⟨u,hu,hr.le le3⟩⟩
  have hg4:=jb (ah (put s.st id (.loop (w.heap.size+1) w.heap.size env0 rec)) st') id (AO.loop (w.heap.size+1) w.heap.size env0 {r' with state:= .exhausted})
  have le4:=lZ (x:=x) (bl:=bl3) (cap:=cap3) (w:=w3.putObj (w.heap.size+1) (.loop {r' with state:= .exhausted})) hg4
  have hs5:=hs4.kill hg4
  have eput:put (put (ah (put s.st id (.loop (w.heap.size+1) w.heap.size env0 rec)) st') id (.loop (w.heap.size+1) w.heap.size env0 {r' with state:= .exhausted})) id .dead=put (ah (put s.st id (.loop (w.heap.size+1) w.heap.size env0 rec)) st') id .dead:=by
   generalize ah (put s.st id (.loop (w.heap.size+1) w.heap.size env0 rec)) st'=l
   induction l with
   |nil=>simp[put]
   |cons p l ih=>
    obtain⟨i,o⟩:=p
    simp only[put]
    by_cases e:i=id
    ·simp[e,put]
    ·simp[e,put,ih]
  have hMD:¬(mkK x bl3 cap3 (put (put (ah (put s.st id (.loop (w.heap.size+1) w.heap.size env0 rec)) st') id (.loop (w.heap.size+1) w.heap.size env0 {r' with state:= .exhausted})) id .dead) (w3.putObj (w.heap.size+1) (.loop {r' with state:= .exhausted}))).M w.heap.size:=
   qO hs4 hg4 rfl (by simp only[mkK] at c1;rw[c1];simp)
  rw[eput] at hs5 le4 hMD
  refine⟨r'.pending,_,run_endLoop (P:=P) c2 hb',?_⟩
  split
  rotate_left
  ·rename_i heq;rw[hp'] at heq;cases heq
  refine⟨_,hQ,bl3,cap3,hs5,(((henv.le hle1).le le2).le le3).le le4,?_,hsz⟩
  obtain⟨Ds,d0,d1,d2,d3⟩:=((((show jf x (mkK x bl cap s.st w) a.defers from hdf).le hle1).le le2).le le3).le le4
  obtain⟨Ds',d0',_,_,d3'⟩:=hdf
  have eDs:Ds=Ds':=by
   rw[d0] at d0'
   have:∀{l m:List Nat},l.map (fun D=>({target:= .collected D,args:= #[]}:Deferred))=m.map (fun D=>{target:= .collected D,args:= #[]})→l=m:=by
    intro l
    induction l with
    |nil=>intro m h;cases m with|nil=>rfl|cons _ _=>simp at h
    |cons y l ih=>
     intro m h
     cases m with
     |nil=>simp at h
     |cons z m=>simp at h;obtain⟨rfl,h⟩:=h;rw[ih (by simpa using h)]
   exact this d0'
  refine⟨w.heap.size::Ds,by simp[d0],fun(h:x.rf=false)=>by(rw[hrf] at h;cases h),?_,?_⟩
  ·refine List.nodup_cons.2 ⟨fun hm=>?_,d2⟩
   rw[eDs] at hm
   have:=lt_of_heap (d3' _ hm).2.2
   simp only[mkK] at this;omega
  ·intro D hD
   rcases Z9.1 hD with rfl|hD
   ·exact⟨hMD,hs.fr.size,hD4⟩
   ·exact d3 D hD
def MC:C→Bool
 | .d (.v _)| .ptr _ _| .ep _ _ _ _| .ms _ _ _ _| .mp _=>true
 |_=>false
def KN:AV→Bool
 | .c x=>MC x
 | .agg cs=>cs.all MC
 |_=>false
omit [Dr] in
theorem Gq {k k':K} (hb:k'.bl=k.bl) (hc:k'.cap=k.cap) (hd:k'.dom=k.dom) {c:C} {v:Value} (h:MC c=true) (hr:ai k c v):ai k' c v:=by
 cases c with
 |d y=>
  cases y with
  |v z=>have:v=z:=dL hr;subst this;exact .v _ hr.one
  |_=>simp[MC] at h
 |ptr id off=>simp only[ai,hb,hd] at hr⊢;exact hr
 |ep id sz i off=>simp only[ai,hb,hd] at hr⊢;exact hr
 |ms id sz off len=>simp only[ai,hb,hd,hc] at hr⊢;exact hr
 |mp id=>simp only[ai,hb,hd] at hr⊢;exact hr
 |pp cs=>simp[MC] at h
 |fn f caps=>simp[MC] at h
 |fb f caps=>simp[MC] at h
 |mv id sz off len=>simp[MC] at h
omit [Dr] in
theorem vG {k k':K} (hb:k'.bl=k.bl) (hc:k'.cap=k.cap) (hd:k'.dom=k.dom) {cs:List C} {vs:List Value} (h:cs.all MC=true) (hr:aj (ai k) cs vs):aj (ai k') cs vs:=by
 induction hr with
 |nil=>exact .nil
 |cons h1 _ ih=>
  simp only[List.all_cons,aaj] at h
  exact .cons (Gq hb hc hd h.1 h1) (ih h.2)
theorem TG {k k':K} (hb:k'.bl=k.bl) (hc:k'.cap=k.cap) (hd:k'.dom=k.dom) {a:AV} {v:Value} (h:KN a=true) (hr:af k a v):af k' a v:=by
 cases a with
 |c y=>exact Gq hb hc hd h hr
 |agg cs=>obtain⟨vs,e,hr⟩:=hr;exact⟨vs,e,vG hb hc hd h hr⟩
 |tup ps=>simp[KN] at h
 |cond b y=>simp[KN] at h
end
end Go.Ab
namespace Go.Ab
variable [Dr]
section
variable {P:Program} {x:X}
end
end Go.Ab
