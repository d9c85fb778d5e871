/- A part of the proof. -/
import Derived.Test.YtpoodoknkbojgaaGreatDoorRAbEn
set_option linter.all false
namespace Go.Proofs.YtpoodoknkbojgaaGreatDoor
open Go.Ab
variable [Dr]
@[reducible] def stA (a:Nat) (w:Wt):List (Nat×AO):=[(2000, .box [.ms a 1 0 w.2.length, .d (.v (.bool w.1))]),(a,aC 1 (w.2.map dR))]
@[reducible] def stB (a b:Nat) (w:Wt):List (Nat×AO):=[(2000, .box [.ms b 1 0 w.2.length, .d (.v (.bool w.1))]),(a, .dead),(b,aC 1 (w.2.map dR))]
def pl (v:AV):Prop:=(∀σ,bg σ v=v)∧∀dom,ax dom v
omit [Dr] in
theorem BV (x:D):pl (.c (.d x)):=⟨fun _=>rfl,fun _=>trivial⟩
omit [Dr] in
theorem lN (l:List D):pl (.agg (l.map C.d)):=⟨fun σ=>congrArg AV.agg (Fe σ l),fun dom=>by simp[ax]⟩
omit [Dr] in
theorem Qi:pl (.tup []):=⟨fun _=>rfl,fun _=>trivial⟩
omit [Dr] in
theorem Dh (σ:Nat→Nat) (sz:Nat) (ys:List (List D)):aS σ (aC sz ys)=aC sz ys:=by
 simp only[aC,aS,Vj]
 congr 1
 apply Vu
 intro l _
 exact Fe σ l
omit [Dr] in
theorem Gy (dom:Nat→Bool) (sz:Nat) (ys:List (List D)):aH dom (aC sz ys):=by
 simp only[aC,aH]
 induction ys with
 |nil=>trivial
 |cons y ys ih=>rw[Un,List.flatten_cons];exact ak.2 ⟨by simp,ih⟩
theorem KY {P:Program} {f:FuncId} {xs:List AV} {r0:AV} {w w':Wt} (h:AC P f (.c (.ptr 2000 0)::xs) (stA 2001 w) (fun r st=>r=r0∧st=stB 2001 2002 w')) (hx:∀v∈xs,pl v) (hr:pl r0)
 {a b:Nat} (ha:a≠2000) (hb:b≠2000) (hab:a≠b):AC P f (.c (.ptr 2000 0)::xs) (stA a w) (fun r st=>r=r0∧st=stB a b w'):=by
 obtain⟨σ,τ,h1,h2,e0,ea,eb⟩:=O4 ha hb hab
 have t0:τ 2000=2000:=by rw[←e0,h2,e0]
 have ta:τ a=2001:=by rw[←ea,h2]
 have tb:τ b=2002:=by rw[←eb,h2]
 refine JW h1 h2 h ?_ (by simp) ?_ ?_ ?_ ?_ ?_
 ·intro p hp
  simp only[TS,TV,Uk] at hp
  rcases hp with rfl|rfl
  ·simp[e0,Ab.get,aS,bG,ea]
  ·simp only[ea,Ab.get,Ne.symm ha,if_false,if_true,Dh]
 ·intro p hp
  simp only[TS,TV,Uk] at hp
  rcases hp with rfl|rfl
  ·simp[aH,ay,bC,ae,Ab.get]
  ·exact Gy _ _ _
 ·intro id hid
  simp only[ae,Ab.get] at hid
  by_cases c0:2000=id
  ·subst c0;rw[t0];rfl
  ·by_cases c1:a=id
   ·subst c1;rw[ta];rfl
   ·simp[c0,c1] at hid
 ·rw[Un]
  congr 1
  ·simp[bg,bG,e0]
  ·conv=>lhs;rw[←List.map_id xs]
   exact(Vu fun v hv=>((hx v hv).1 σ).symm)
 ·intro v hv
  rcases TS.1 hv with rfl|hv
  ·simp[ax,bC,ae,Ab.get]
  ·exact(hx v hv).2 _
 ·rintro r0' st0 ⟨rfl,rfl⟩
  refine⟨r0',stB a b w',⟨rfl,rfl⟩,?_,?_,?_,(hr.1 τ).symm,hr.2 _,?_⟩
  ·intro p hp
   simp only[TS,TV,Uk] at hp
   rcases hp with rfl|rfl|rfl
   ·simp[t0,Ab.get,aS,bG,tb]
   ·simp[ta,Ab.get,aS]
   ·simp only[tb,Ab.get,Dh];rfl
  ·simp[Ne.symm ha,Ne.symm hb,hab]
  ·intro p hp
   simp only[TS,TV,Uk] at hp
   rcases hp with rfl|rfl|rfl
   ·simp[aH,ay,bC,ae,Ab.get,Ne.symm hb,hab]
   ·trivial
   ·exact Gy _ _ _
  ·intro id hid
   simp only[ae,Ab.get] at hid⊢
   by_cases c0:2000=id
   ·simp[c0]
   ·by_cases c1:a=id
    ·simp[c0,c1]
    ·simp[c0,c1] at hid
theorem dH {P:Program} {x:X} {c:Code} {s:S} {Q:Exit→S→Prop} (h:T P x c s (fun e s=>∃s1,qc x s s1∧Q e s1)):T P x c s Q:=
 Eo h fun _ _ ⟨s1,he,hq⟩ a w hs=>⟨s1,hq,he a w hs⟩
structure EC (P:Program) (f:FuncId) (xs:List AV) (g:Wt→Wt):Prop where
 ac:∀(a b:Nat) (w:Wt),a≠2000→b≠2000→a≠b→(g w).2.length≤1000000000→AC P f (.c (.ptr 2000 0)::xs) (stA a w) (fun r st=>r= .tup []∧st=stB a b (g w))
 mo:∀w,w.2.length≤(g w).2.length
theorem iI {P:Program} {f:FuncId} {xs:List AV} {g:Wt→Wt} (mo:∀w,w.2.length≤(g w).2.length) (hx:∀v∈xs,pl v)
 (h:∀w,(g w).2.length≤1000000000→AC P f (.c (.ptr 2000 0)::xs) (stA 2001 w) (fun r st=>r= .tup []∧st=stB 2001 2002 (g w))):EC P f xs g:=
 ⟨fun _ _ w ha hb hab hl=>KY (h w hl) hx Qi ha hb hab,mo⟩
end Go.Proofs.YtpoodoknkbojgaaGreatDoor
set_option linter.all false
namespace Go.Ab
variable [Dr]
abbrev iW:=FuncId→List AV→qC→Nat→Option (AV×qC×Nat)
def Aw (s:S) (y:Operand):Option AV:=
 match ev s y with
 |some (.cond _ _)=>none
 |r=>r
def EP (s:S):List Operand→Option (List AV)
 |[]=>some []
 |y::ys=>
  match Aw s y,EP s ys with
  |some v,some vs=>some (v::vs)
  |_,_=>none
def SA:AV→Option (Nat×List AV×List AV)
 | .c (.fn f caps)=>some (f,[],caps.map fun c=> .c c.toC)
 | .c (.fb f caps)=>some (f,caps.map fun c=> .c c.toC,[])
 | .c (.d (.v (.func (.func f) ⟨[]⟩ ⟨[]⟩)))=>some (f,[],[])
 |_=>none
structure DL where
 v:AV
 upd:qC
 ids:List Nat
 nx:Nat
def guardE (ops:List Oper) (o:Oper) (s:S):Option Bool:=
 match o.guard with
 |none=>some true
 |some (j,want)=>
  match oQ ops s j with
  |some (bs,b)=>some (aY bs (if want then b else !b))
  |none=>none
def Bo (st0 st:qC):qC→Bool
 |[]=>true
 |p::ps=>((get st0 p.1).isSome||(get st p.1).isNone)&&Bo st0 st ps
def uZ:List AV→Option (List Value)
 |[]=>some []
 |v::vs=>
  match gB (some v),uZ vs with
  |some u,some us=>some (u::us)
  |_,_=>none
def QV (P:Program) (f:FuncId) (args:List AV):Option Value:=
 match P.funcs[f]? with
 |some fn=>
  if fn.body.isNone then
   match uZ args with
   |some vs=>
    match je P (callFunc f vs.toArray) with
    |some (.value r)=>if r.oneCell' then some r else none
    |_=>none
   |none=>none
  else none
 |none=>none
def O0 (cf:iW) (P:Program) (s:S) (g:Operand) (asq:List Operand) (nx:Nat):Option DL:=
 match(Aw s g).bind SA,EP s asq with
 |some (f,c1,c2),some args=>
  match QV P f (c1++(args++c2)) with
  |some r=>some ⟨.c (.d (.v r)),[],[],nx⟩
  |none=>
  match reach s.st 100000 (wQ (c1++(args++c2))) [] with
  |some st0=>
   match cf f (c1++(args++c2)) st0 nx with
   |some (r,st1,nx')=>if Bo st0 s.st st1 then some ⟨r,st1,st0.map (·.1)++st1.map (·.1),nx'⟩ else none
   |none=>none
  |none=>none
 |_,_=>none
def Po (op:Op) (s:S):List Nat:=
 if FO op then [] else op.operands.toList.flatMap fun y=>match Aw s y with|some v=>bz v|none=>[]
def Lt (op:Op) (s:S):List Nat:=op.operands.toList.flatMap fun y=>match Aw s y with|some v=>bz v|none=>[]
def Hl (P:Program) (op:Op) (s:S) (nx:Nat):Option DL:=
 match Ir P op nx (Aw s) (get s.st) with
 |some r=>some ⟨r.1,r.2,nx::Lt op s,nx+1⟩
 |none=>none
def Pv (cf:iW) (P:Program) (wr:Bool) (o:Oper) (s:S) (nx:Nat):Option DL:=
 match o.op with
 | .call {callee:= .value g,args:=⟨asq⟩,argTypes:=_}=>O0 cf P s g asq nx
 | .pick c a b=>
   match Aw s c with
   |some (.c (.d (.v (.bool t))))=>
    match Aw s (if t then a else b) with
    |some v=>some ⟨v,[],[],nx⟩
    |none=>none
   |_=>none
 |op=>
  match eff P wr op nx (Aw s) (get s.st) with
  |some out=>if okB P wr op nx (Aw s) (get s.st) then some ⟨out.v,out.upd,nx::Po op s,nx+1⟩ else Hl P op s nx
  |none=>Hl P op s nx
def MG (cf:iW) (P:Program) (wr:Bool) (ops:List Oper) (o:Oper) (s:S) (nx:Nat):Option DL:=
 match guardE ops o s with
 |some true=>Pv cf P wr o s nx
 |some false=>some ⟨.cond false (B false),[],[],nx⟩
 |none=>none
def slotsOf:List Operand→List Nat
 |[]=>[]
 | .tmp t::l=>t::slotsOf l
 |_::l=>slotsOf l
def zJ (ops:List Oper) (o:Oper):List Nat:=
 match o.guard with
 |some (j,_)=>match(ops[j]?).bind (·.dst) with
  |some d=>[d]
  |none=>[]
 |none=>[]
def rE (ops:List Oper) (o:Oper) (s:S) (ids:List Nat):List (uz×Option Ct):=
 (slotsOf o.op.operands.toList++zJ ops o).map (fun t=>((true,t),look s (true,t)))++ids.map fun i=>((false,i),look s (false,i))
section
variable {P:Program} {x:X} {ops:List Oper} {o:Oper} {s s':S} {cf:iW} {wr:Bool} {nx:Nat} {r:DL} {ids:List Nat}
omit [Dr] in
theorem sZ {t:Nat}:∀{l:List Operand},Operand.tmp t∈l→t∈slotsOf l
 |[],h=>by cases h
 |y::l,h=>by
  rcases TS.1 h with rfl|h
  ·simp[slotsOf]
  ·have:=sZ h
   cases y<;>simp[slotsOf,this]
omit [Dr] in
theorem PZ (h:∀p∈rE ops o s ids,look s' p.1=p.2) {y:Operand} (hy:y∈o.op.operands):ev s' y=ev s y:=by
 cases y with
 |tmp t=>
  refine qK (h ((true,t),look s (true,t)) ?_)
  simp only[rE,Uw,Uy]
  exact .inl ⟨t, .inl (sZ (by simpa using hy)),rfl⟩
 |_=>rfl
omit [Dr] in
theorem sJ (h:∀p∈rE ops o s ids,look s' p.1=p.2) {y:Operand} (hy:y∈o.op.operands):Aw s' y=Aw s y:=by
 unfold Aw;rw[PZ h hy]
omit [Dr] in
theorem DW (h:∀p∈rE ops o s ids,look s' p.1=p.2) {i:Nat} (hi:i∈ids):get s'.st i=get s.st i:=
 uS (h ((false,i),look s (false,i)) (by simp only[rE,Uw,Uy];exact .inr ⟨i,hi,rfl⟩))
omit [Dr] in
theorem JC (h:∀p∈rE ops o s ids,look s' p.1=p.2):guardE ops o s'=guardE ops o s:=by
 unfold guardE
 cases hg:o.guard with
 |none=>rfl
 |some p=>
  obtain⟨j,want⟩:=p
  simp only
  have:oQ ops s' j=oQ ops s j:=by
   unfold oQ
   cases hd:(ops[j]?).bind (·.dst) with
   |none=>rfl
   |some d=>
    simp only
    rw[qK (h ((true,d),look s (true,d)) (by simp only[rE,Uw,Uy];exact .inl ⟨d, .inr (by simp[zJ,hg,hd]),rfl⟩))]
  rw[this]
omit [Dr] in
theorem yh (h:∀p∈rE ops o s ids,look s' p.1=p.2):∀{l:List Operand},(∀y∈l,y∈o.op.operands)→EP s' l=EP s l
 |[],_=>rfl
 |y::l,hl=>by simp only[EP];rw[sJ h (hl y (by simp)),yh h fun z hz=>hl z (by simp[hz])]
omit [Dr] in
theorem oM {k:K} {a:Act} (he:dV k s.env a.tmps) {y:Operand} {v:AV} (h:Aw s y=some v):af k v (a.eval y):=by
 unfold Aw at h
 split at h
 ·cases h
 ·exact bF he h
omit [Dr] in
theorem wO {k:K} {a:Act} (he:dV k s.env a.tmps):∀{asq:List Operand} {args:List AV},EP s asq=some args→ai (af k) args (asq.map a.eval)
 |[],args,h=>by cases h;exact .nil
 |y::ys,args,h=>by
  simp only[EP] at h
  split at h
  ·rename_i v vs h1 h2
   cases h
   exact .cons (oM he h1) (wO he h2)
  ·cases h
omit [Dr] in
theorem Ij {k:K} {caps:List Cap} {vs:List Value} (h:ai (jZ k) caps vs):ai (af k) (caps.map fun c=> .c c.toC) vs:=by
 rw[ai.iO]
 exact h.mono fun c v hc=>wK.1 hc
omit [Dr] in
theorem Ot {k:K} {v:AV} {u:Value} {f:Nat} {c1 c2:List AV} (h:SA v=some (f,c1,c2)) (hr:af k v u):
 ∃v1 v2:List Value,u= .func (.func f) ⟨v1⟩ ⟨v2⟩∧ai (af k) c1 v1∧ai (af k) c2 v2:=by
 unfold SA at h
 split at h
 ·cases h
  obtain⟨vs,e,h⟩:=hr
  exact⟨[],vs,e, .nil,Ij h⟩
 ·cases h
  obtain⟨vs,e,h⟩:=hr
  exact⟨vs,[],e,Ij h, .nil⟩
 ·cases h
  exact⟨[],[],dY hr, .nil, .nil⟩
 ·cases h
omit [Dr] in
theorem yZ {st0 st:qC}:∀{st1:qC},Bo st0 st st1=true→∀p∈st1,ae st0 p.1=true∨get st p.1=none
 |[],_,_,h=>by cases h
 |q::st1,h,p,hp=>by
  simp only[Bo,Uf,U2,Option.isNone_iff_eq_none] at h
  rcases TS.1 hp with rfl|hp
  ·exact h.1
  ·exact yZ h.2 p hp
omit [Dr] in
theorem tH {k:K}:∀{args:List AV} {vs us:List Value},uZ args=some vs→ai (af k) args us→us=vs
 |[],vs,us,h,hr=>by cases h;cases hr;rfl
 |v::args,vs,us,h,hr=>by
  simp only[uZ] at h
  split at h
  ·rename_i u us' h1 h2
   cases h
   cases hr with
   |cons h3 h4=>
    rw[tH h2 h4]
    unfold gB at h1
    split at h1
    ·rename_i h5;cases h5;cases h1;rw[df h3]
    ·cases h1
  ·cases h
def lq (P:Program) (cf:iW):Prop:=∀f args st nx r st' nx',cf f args st nx=some (r,st',nx')→AC P f args st (fun r' s'=>r'=r∧s'=st')
theorem tq (hcf:lq P cf) (h:MG cf P wr ops o s nx=some r) (hf:∀p∈rE ops o s r.ids,look s' p.1=p.2) (hdst:iV o s'.n=true) {a:Act} {w:World} (hsat:Sat x s' a w)
 {K:Act→World→Prop} {Q:Exit→Act→World→Prop} (hK:∀a w,Sat x ⟨s'.n,cZ s'.env o.dst r.v,ag s'.st r.upd⟩ a w→K a w):
 if Region.wanted o (yielded ops.toArray a.tmps) then o.wp P a w K Q else K (a.put o.dst undef) w:=by
 have hd:∀i,o.dst=some i→i<s'.n:=fun i hi=>by simpa[iV,hi] using hdst
 obtain⟨bl,cap,hs,he,hdf,hn⟩:=hsat
 have hgd:=JC hf
 have hwant:∀b,guardE ops o s=some b→Region.wanted o (yielded ops.toArray a.tmps)=b:=by
  intro b hb
  rw[←hgd] at hb
  unfold guardE at hb
  split at hb
  ·rename_i hg;cases hb;simp[Region.wanted,hg]
  ·rename_i j want hg
   split at hb
   ·rename_i bs b' hgv
    cases hb
    exact lG he hg hgv
   ·cases hb
 have fin:∀{out:Out},out.v=r.v→out.upd=r.upd→Good x bl cap s'.st w out ((execOp a.eval o).run P w)→o.wp P a w K Q:=by
  intro out e1 e2 hg
  obtain⟨u,w',h1,h2⟩:=Sat.GU he hdf hn hd hg
  rw[e1,e2] at h2
  unfold Oper.wp
  rcases h1 with h1|⟨h1,rfl⟩
  ·rw[h1];exact hK _ _ h2
  ·rw[h1];exact hK _ _ h2
 have byN:Hl P o.op s nx=some r→o.wp P a w K Q:=by
  intro h
  unfold Hl at h
  split at h
  ·rename_i r' hr'
   cases h
   simp only at hf
   refine fin (out:=⟨r'.1,r'.2,[]⟩) rfl rfl (NZ (e:=Aw s') (id:=nx) hs ?_ fun y v _ hv=>oM he hv)
   rw[←hr']
   refine(FB (fun y hy=>(sJ hf hy).symm) (fun y hy v hv i hi=>(DW hf ?_).symm) (DW hf (by simp)).symm).symm
   refine U0 _ ?_
   simp only[Lt,UK]
   exact⟨y,by simpa using hy,by rw[hv];exact hi⟩
  ·cases h
 unfold MG at h
 split at h
 ·rename_i hg
  rw[hwant _ hg,if_pos rfl]
  unfold Pv at h
  split at h
  ·-- a call
   rename_i g asq ats hop
   unfold O0 at h
   split at h
   ·rename_i f c1 c2 args hfn hargs
    rw[TU] at hfn
    obtain⟨vg,hvg,hfn⟩:=hfn
    rw[←sJ hf (y:=g) (by rw[hop];simp[Op.operands,Call.operands])] at hvg
    rw[←yh hf (l:=asq) (fun y hy=>by rw[hop];simp[Op.operands,Call.operands,hy])] at hargs
    obtain⟨v1,v2,e1,e2,e3⟩:=Ot hfn (oM he hvg)
    split at h
    ·rename_i v hext
     cases h
     unfold QV at hext
     split at hext
     ·split at hext
      ·split at hext
       ·rename_i vs hvs
        split at hext
        ·rename_i r0 hrun
         split at hext
         ·rename_i h1
          cases hext
          have hev:=tH hvs (e2.append ((wO he hargs).append e3))
          refine fin (out:=⟨.c (.d (.v v)),[],[]⟩) rfl rfl (Good.pure (out:=⟨.c (.d (.v v)),[],[]⟩) hs rfl (aP.v v h1:aP _ _ (.v v) v) ?_)
          have:=iq hrun w
          rw[←hev] at this
          simpa[execOp,hop,resolve,e1,Deferred.ofValue,invoke] using this
         ·cases hext
        ·cases hext
       ·cases hext
      ·cases hext
     ·cases hext
    split at h
    ·rename_i st0 hr0
     split at h
     ·rename_i v st1 nx' hcall
      split at h
      ·rename_i hfr
       cases h
       simp only at hf hK
       obtain⟨m1,m2,m3,m4⟩:=yR hr0
       have hob:∀i,i∈st0.map (·.1)++st1.map (·.1)→get s'.st i=get s.st i:=fun i hi=>DW hf hi
       have hl:Bq s' (c1++(args++c2)) st0:=⟨fun p hp=>by rw[hob p.1 (UR _ (UL hp))];exact m1 p hp,m3,zX m4⟩
       refine Ee (us:=v1++(asq.map a.eval++v2)) hd hl (hcf _ _ _ _ _ _ _ hcall) hs he hdf hn ?_ (e2.append ((wO he hargs).append e3)) ?_
       ·simp[execOp,hop,resolve,e1,Deferred.ofValue,invoke]
       ·rintro r' st' ⟨rfl,rfl⟩
        refine⟨fun p hp=>?_,fun a w h=>hK a w h⟩
        rw[hob p.1 (UM _ (UL hp))]
        exact yZ hfr p hp
      ·cases h
     ·cases h
    ·cases h
   ·cases h
  ·-- a choice
   rename_i c y z hop
   split at h
   ·rename_i t hc
    split at h
    ·rename_i v hv
     cases h
     have hc':=oM he ((sJ hf (y:=c) (by rw[hop];simp[Op.operands])).trans hc)
     have hv':=oM he ((sJ hf (y:=if t then y else z) (by rw[hop];cases t<;>simp[Op.operands])).trans hv)
     refine fin (out:=⟨v,[],[]⟩) rfl rfl (Good.pure hs rfl hv' ?_)
     have hc2:a.eval c= .bool t:=dY hc'
     simp only[execOp,hop,hc2,asBool]
     cases t<;>simp
    ·cases h
   ·cases h
  ·rename_i hnc hnp
   split at h
   ·rename_i out heff
    split at h
    ·rename_i hok
     cases h
     simp only at hf
     have hobl:=Qj hok heff
     have:eff P wr o.op nx (Aw s') (get s'.st)=some out:=by
      rw[←heff]
      refine(rW (fun y hy=>(sJ hf hy).symm) (fun hno y hy v hv i hi=>(DW hf ?_).symm) (DW hf (by simp)).symm).symm
      refine U0 _ ?_
      unfold Po
      rw[hno]
      simp only[Um,if_false,UK]
      exact⟨y,by simpa using hy,by rw[hv];exact hi⟩
     exact fin (out:=out) rfl rfl (BN hs this hobl fun y v _ hv=>oM he hv)
    ·exact byN h
   ·exact byN h
 ·rename_i hg
  cases h
  rw[hwant _ hg,if_neg (by simp)]
  exact hK _ _ ⟨bl,cap,hs,he.cZ (fun i hi=>by rw[hn];exact hd i hi) (And.intro (fun h'=>by cases h') (fun _=>rfl)),by rw[Act.put_defers];exact hdf,by rw[Act.bQ];exact hn⟩
 ·cases h
end
def Me (cf:iW) (P:Program) (wr:Bool) (ops:List Oper):List Oper→S→Nat→Option (List A1×S×Nat)
 |[],s,nx=>some ([],s,nx)
 |o::l,s,nx=>
  if iV o s.n then
   match MG cf P wr ops o s nx with
   |some r=>
    SB r.v fun v=>fL fQ r.upd fun u=>fN r.nx fun nx'=>Kr s.env o.dst v fun env=>vF s.st u fun st=>
     match Me cf P wr ops l ⟨s.n,env,st⟩ nx' with
     |some (As,s',nx'')=>some (⟨rE ops o s r.ids,o.dst.map fun d=>(d,v),u⟩::As,s',nx'')
     |none=>none
   |none=>none
  else none
section
variable {P:Program} {x:X} {ops:List Oper} {cf:iW} {wr:Bool}
omit [Dr] in
theorem Ht {o:Oper} {s:S} {ids:List Nat} {q:uz×Option Ct} (h:q∈rE ops o s ids):q.2=look s q.1:=by
 simp only[rE,Uw,Uy] at h
 rcases h with⟨t,_,rfl⟩|⟨t,_,rfl⟩<;>rfl
omit [Dr] in
theorem Ph {o:Oper} {s s':S} {rd:List (uz×Option Ct)} {v:AV} {u:qC} (hn:s'.n=s.n):(⟨rd,o.dst.map fun d=>(d,v),u⟩:A1).app s'=⟨s.n,cZ s'.env o.dst v,ag s'.st u⟩:=by
 simp only[A1.app,hn]
 cases o.dst<;>rfl
theorem BF (hcf:lq P cf):∀{l:List Oper} {s s':S} {nx nx':Nat} {As:List A1},Me cf P wr ops l s nx=some (As,s',nx')→
 As.length=l.length∧ig As s l.length=s'∧(∀(i:Nat) (A:A1),As[i]? =some A→A.Fits (ig As s i))∧(∀(i:Nat) (o:Oper) (A:A1),l[i]? =some o→As[i]? =some A→A.GX P x s.n ops.toArray o)∧
 ∀{Q:Exit→S→Prop},Q .normal s'→TO P x ops l s Q
 |[],s,s',nx,nx',As,h=>by cases h;exact⟨rfl,rfl,by simp,by simp,fun h=>Md h⟩
 |o::l,s,s',nx,nx',As,h=>by
  simp only[Me] at h
  split at h
  ·rename_i hd
   split at h
   ·rename_i r hr
    simp only[PV,qJ QO,xQ,JR,FZ] at h
    split at h
    ·rename_i As' s'' nx'' hrec
     cases h
     obtain⟨i1,i2,i3,i4,i5⟩:=BF hcf hrec
     have shift:∀i,ig (⟨rE ops o s r.ids,o.dst.map fun d=>(d,r.v),r.upd⟩::As') s (i+1)=ig As' ⟨s.n,cZ s.env o.dst r.v,ag s.st r.upd⟩ i:=by
      intro i
      induction i with
      |zero=>simp only[ig,List.getElem?_cons_zero];exact Ph rfl
      |succ i ih=>
       rw[ig,ih]
       simp only[List.getElem?_cons_succ]
       rfl
     refine⟨by simp[i1],by rw[List.length_cons,shift];exact i2,?_,?_,?_⟩
     ·intro i A hA
      cases i with
      |zero=>simp at hA;subst hA;intro p hp;exact(Ht hp).symm
      |succ i=>rw[shift];exact i3 i A (by simpa using hA)
     ·intro i o' A ho' hA
      cases i with
      |zero=>
       simp at ho' hA;subst ho';subst hA
       intro s1 a w hnn hs1 hf K Q hk
       refine tq hcf hr hf (by rw[hnn];exact hd) hs1 fun a w h=>hk a w ?_
       rw[Ph hnn,←hnn];exact h
      |succ i=>exact i4 i o' A (by simpa using ho') (by simpa using hA)
     ·intro Q hQ a w hs
      refine wpList_step fun K hK=>tq hcf hr (fun p hp=>(Ht hp).symm) hd hs fun a w h=>hK a w (i5 hQ a w h)
    ·cases h
   ·cases h
  ·cases h
theorem NL {id:Nat} {l:List Oper} {s s':S} {nx nx':Nat} {Q:Exit→S→Prop} {As:List A1} (hm:P.follows .mixedOrders=true) (hcf:lq P cf)
 (h:Me cf P wr l l s nx=some (As,s',nx')) (hc:lU l As=true) (hQ:Q .normal s'):T P x (.region id l.toArray true) s Q:=by
 obtain⟨h1,h2,h3,h4, -⟩:=BF (x:=x) hcf h
 have hord:=ww h1 h3 hc
 intro a w hs
 refine wp_region_any hm ?_
 refine wZ hord (fun i o A hi hA=>h4 i o A (by simpa using hi) hA) (by simpa[h2] using hQ) _ _ s a _ (by simp) ?_ rfl ?_ ?_ (hs.drew _ (by first|exact Nat.le_succ _|exact Nat.le_add_right _ _|(simp;done)|omega))
 ·intro i o e hi hL he hb
  have hlt:i<l.length:=by simpa using(Ve.1 hi).1
  rw[getD_in (by simpa using hlt) true false] at hL
  simp[Array.getD,hlt] at hL
 ·intro r
  have hz:∀i,(Array.replicate l.toArray.size false).getD i false=false:=by
   intro i;simp[Array.getD]
  have:cont As s (fun i=>(Array.replicate l.toArray.size false).getD i false) r l.toArray.size=cont As s (fun i=>(Array.replicate l.toArray.size false).getD i false) r 0:=
   jf (U8 _) (fun i _ _ _=>hz i)
  rw[this];rfl
 ·exact pz
end
abbrev H6:=Code→S→Nat→Option (Exit×S×Nat)
def mi (cf:iW) (P:Program) (wr:Bool) (ih:H6):H6:=fun c s nx=>
 match c with
 | .skip=>some (.normal,s,nx)
 | .region _ ⟨ops⟩ draw=>
   match Me cf P wr ops ops s nx with
   |some (As,s',nx')=>if draw then(if lU ops As then some (.normal,s',nx') else none) else some (.normal,s',nx')
   |none=>none
 | .seq a b=>
   match ih a s nx with
   |some (.normal,s',nx')=>ih b s' nx'
   |r=>r
 | .cond c t e=>
   match Aw s c with
   |some (.c (.d (.v (.bool true))))=>ih t s nx
   |some (.c (.d (.v (.bool false))))=>ih e s nx
   |_=>none
 | .block id c=>
   match ih c s nx with
   |some (.exit j,s',nx')=>if j=id then some (.normal,s',nx') else some (.exit j,s',nx')
   |r=>r
 | .loop c=>
   match ih c s nx with
   |some (.normal,s',nx')=>ih (.loop c) s' nx'
   |r=>r
 | .exit id=>some (.exit id,s,nx)
 | .ret=>some (.ret,s,nx)
 | .scope c=>
   match ih c s nx with
   |some (.goto _,_,_)=>none
   |r=>r
 | .label _=>some (.normal,s,nx)
 |_=>none
noncomputable def tX (cf:iW) (P:Program) (wr:Bool) (n:Nat):H6:=Nat.rec (fun _ _ _=>none) (fun _ ih=>mi cf P wr ih) n
def One (e:Exit) (s:S):Exit→S→Prop:=fun e' s'=>e'=e∧s'=s
section
variable {P:Program} {cf:iW} {wr:Bool}
theorem KF (hm:P.follows .mixedOrders=true) (hcf:lq P cf) (x:X):∀{n:Nat} {c:Code} {s s':S} {nx nx':Nat} {e:Exit},tX cf P wr n c s nx=some (e,s',nx')→T P x c s (One e s'):=by
 intro n
 induction n using Nat.strongRecOn with
 |_ n ih=>
 intro c s s' nx nx' e h
 cases n with
 |zero=>cases h
 |succ n=>
  replace h:mi cf P wr (tX cf P wr n) c s nx=some (e,s',nx'):=h
  have seq1:∀{m:Nat} (_:m<n+1) {c:Code} {s:S} {nx:Nat} {e1 s1 nx1} {Q:Exit→S→Prop},tX cf P wr m c s nx=some (e1,s1,nx1)→Q e1 s1→T P x c s Q:=
   by intro m hm c s nx e1 s1 nx1 Q h hq;exact JM (ih _ hm h) fun e s hh=>by obtain⟨rfl,rfl⟩:=hh;exact hq
  have hn:n<n+1:=Nat.lt_succ_self n
  have hd:∀{y:Operand} {v:AV},Aw s y=some v→ev s y=some v:=by
   intro y v hc;unfold Aw at hc;split at hc
   ·cases hc
   ·exact hc
  unfold mi at h
  split at h
  ·cases h;exact KI ⟨rfl,rfl⟩
  ·rename_i id ops draw
   split at h
   ·rename_i As s1 nx1 hr
    cases draw with
    |true=>
     simp only[if_true] at h
     split at h
     ·rename_i hc
      cases h
      exact NL hm hcf hr hc ⟨rfl,rfl⟩
     ·cases h
    |false=>
     simp only[Um,if_false] at h
     cases h
     exact CG ((BF hcf hr).2.2.2.2 ⟨rfl,rfl⟩)
   ·cases h
  ·rename_i a b
   split at h
   ·rename_i s1 nx1 h1
    exact KP (seq1 hn h1 (ih _ hn h))
   ·rename_i hne
    refine KP (seq1 hn h ?_)
    cases e with
    |normal=>exact absurd h (hne _ _)
    |_=>exact⟨rfl,rfl⟩
  ·rename_i c t e'
   split at h
   ·rename_i hc
    exact EU (b:=true) (hd hc) (fun _=>ih _ hn h) (fun h=>by cases h)
   ·rename_i hc
    exact EU (b:=false) (hd hc) (fun h=>by cases h) (fun _=>ih _ hn h)
   ·cases h
  ·rename_i id c
   split at h
   ·rename_i j s1 nx1 h1
    split at h
    ·rename_i e1;cases h;subst e1;exact uV (seq1 hn h1 (Eh ⟨rfl,rfl⟩))
    ·rename_i e1;cases h;exact uV (seq1 hn h1 (Ac e1 ⟨rfl,rfl⟩))
   ·rename_i hne
    refine uV (seq1 hn h ?_)
    cases e with
    |exit j=>exact absurd h (hne _ _ _)
    |_=>exact⟨rfl,rfl⟩
  ·rename_i c
   have h0:tX cf P wr (n+1) (.loop c) s nx=some (e,s',nx'):=h
   refine bP (ι:=Nat×S×Nat) (fun p=>p.2.1) (fun p=>tX cf P wr p.1 (.loop c) p.2.1 p.2.2=some (e,s',nx')∧p.1≤n+1) (fun p=>p.1) (n+1,s,nx) ⟨h0,Ui _⟩ (qc.refl _ _) ?_
   rintro⟨m,s2,nx2⟩ ⟨hi,hm'⟩
   simp only at hi hm'⊢
   cases m with
   |zero=>cases hi
   |succ m=>
    replace hi:mi cf P wr (tX cf P wr m) (.loop c) s2 nx2=some (e,s',nx'):=hi
    have hlt:m<n+1:=by omega
    simp only[mi] at hi
    split at hi
    ·rename_i s1 nx1 h1
     exact seq1 hlt h1 ⟨(m,s1,nx1),⟨hi,by simp;omega⟩,by simp,qc.refl _ _⟩
    ·rename_i hne
     refine seq1 hlt hi ?_
     cases e with
     |normal=>exact absurd hi (hne _ _)
     |_=>exact⟨rfl,rfl⟩
  ·cases h;exact J7 ⟨rfl,rfl⟩
  ·cases h;exact PG ⟨rfl,rfl⟩
  ·rename_i c
   split at h
   ·cases h
   ·rename_i hne
    refine NE ?_ (ih _ hn h)
    intro l s1 hh
    obtain⟨rfl,rfl⟩:=hh
    exact hne _ _ _ h
  ·cases h;exact Nk ⟨rfl,rfl⟩
  ·cases h
end
def EZ (P:Program) (s:S) (rs:List ResultVar):Option AV:=
 match xm P rs s with
 |some (r,_)=>if okRet P s rs then some r else none
 |none=>none
where
 okRet (P:Program) (s:S):List ResultVar→Bool
  |[]=>true
  | .tmp _::rs=>okRet P s rs
  | .cell a T::rs=>((get s.env a).elim true fun v=>A7 P T v (get s.st))&&okRet P s rs
def DX (cf:iW) (P:Program) (wr:Bool) (run:H6):iW:=fun f args st nx=>
 match P.funcs[f]? with
 |some fn=>
  match fn.body with
  |some c=>
   if args.length≤fn.ntmps then
    match run c ⟨fn.ntmps,(List.range args.length).zip args,st⟩ nx with
    |some (e,s,nx')=>
     match e,EZ P s fn.results.toList with
     | .ret,some r=>fin st s r nx'
     | .normal,some r=>fin st s r nx'
     |_,_=>none
    |none=>none
   else none
  |none=>none
 |none=>none
where
 fin (st:qC) (s:S) (r:AV) (nx:Nat):Option (AV×qC×Nat):=
  match reach s.st 100000 (Gz r++st.map (·.1)) [] with
  |some st'=>some (r,st',nx)
  |none=>none
noncomputable def LW (P:Program) (wr:Bool) (kf:iW) (n d:Nat):iW:=
 Nat.rec (fun _ _ _ _=>none) (fun _ ih f args st nx=>
  match kf f args st nx with
  |some r=>some r
  |none=>DX ih P wr (tX ih P wr n) f args st nx) d
section
variable {P:Program} {wr:Bool} {kf:iW}
omit [Dr] in
theorem sN {s:S}:∀{rs:List ResultVar} {ps:List (Bool×List C)} {obl:List Prop},kF P s rs=some (ps,obl)→EZ.okRet P s rs=true→All obl
 |[],ps,obl,h,_=>by cases h;trivial
 |r::rs,ps,obl,h,hk=>by
  simp only[kF] at h
  split at h
  ·rename_i out ho
   split at h
   ·rename_i p ps' obl' _ h2
    cases h
    cases r with
    |tmp t=>
     simp only[resV,xO,Ud] at ho
     obtain⟨v,_,rfl⟩:=ho
     exact sN h2 hk
    |cell c T=>
     simp only[EZ.okRet,Uf] at hk
     simp only[resV,TU] at ho
     obtain⟨v,hv,ho⟩:=ho
     rw[hv] at hk
     have h3:=sN h2 hk.2
     have h1:=rZ hk.1 ho
     generalize out.obl=l at h1
     induction l with
     |nil=>exact h3
     |cons p l ih=>exact⟨h1.1,ih h1.2⟩
   ·cases h
  ·cases h
omit [Dr] in
theorem OC {s:S} {rs:List ResultVar} {r:AV} (h:EZ P s rs=some r):∃obl,xm P rs s=some (r,obl)∧All obl:=by
 unfold EZ at h
 split at h
 ·rename_i r' obl hr
  split at h
  ·rename_i hk
   cases h
   refine⟨obl,hr,?_⟩
   unfold xm at hr
   split at hr
   ·rename_i rv
    simp only[Ud] at hr
    obtain⟨out,ho,e⟩:=hr
    cases e
    cases rv with
    |tmp t=>
     simp only[resV,xO,Ud] at ho
     obtain⟨v,_,rfl⟩:=ho
     trivial
    |cell c T=>
     simp only[EZ.okRet,Uf] at hk
     simp only[resV,TU] at ho
     obtain⟨v,hv,ho⟩:=ho
     rw[hv] at hk
     exact rZ hk.1 ho
   ·simp only[Ud] at hr
    obtain⟨⟨ps,obl'⟩,ho,e⟩:=hr
    cases e
    exact sN ho hk
  ·cases h
 ·cases h
theorem NF (hm:P.follows .mixedOrders=true) (hN:∀(f:Nat) (fn:Func),P.funcs[f]? =some fn→(fn.name=="runtime.NumGoroutine")=false) (hk:lq P kf) (n:Nat):∀d,lq P (LW P wr kf n d):=by
 intro d
 induction d with
 |zero=>intro f args st nx r st' nx' h;cases h
 |succ d ih=>
  intro f args st nx r st' nx' h
  replace h:(match kf f args st nx with|some r=>some r|none=>DX (LW P wr kf n d) P wr (tX (LW P wr kf n d) P wr n) f args st nx)=some (r,st',nx'):=h
  split at h
  ·rename_i hkf;cases h;exact hk _ _ _ _ _ _ _ hkf
  ·unfold DX at h
   split at h
   ·rename_i fn hfn
    split at h
    ·rename_i c hc
     split at h
     ·rename_i hlen
      split at h
      ·rename_i e s nx1 hrun
       have key:∀r0,EZ P s fn.results.toList=some r0→DX.fin st s r0 nx1=some (r,st',nx')→(e= .ret∨e= .normal)→AC P f args st (fun r' s'=>r'=r∧s'=st'):=by
        intro r0 hr0 hfin he
        unfold DX.fin at hfin
        split at hfin
        ·rename_i st1 hre
         cases hfin
         obtain⟨m1,m2,m3,m4⟩:=yR hre
         obtain⟨obl,hrv,hobl⟩:=OC hr0
         refine CV hfn hc (hN _ _ hfn) hlen fun x hx=>JM (KF hm ih x hrun) ?_
         rintro e' s' ⟨rfl,rfl⟩
         refine⟨he,r,obl,hrv,hobl,st',⟨fun p hp=>by rw[aG];exact m1 p hp,m2,m3,fun id hid=>⟨?_,rfl⟩⟩,wH fun i hi=>m4 i (UR _ hi),rfl,rfl⟩
         have:=hx id hid
         refine m4 id (UM _ ?_)
         simp only[ae,Uj] at this
         obtain⟨o,ho⟩:=this
         exact Uy.2 ⟨_,get_mem ho,rfl⟩
        ·cases hfin
       split at h
       ·rename_i hr0;exact key _ hr0 h (.inl rfl)
       ·rename_i hr0;exact key _ hr0 h (.inr rfl)
       ·cases h
      ·cases h
     ·cases h
    ·cases h
   ·cases h
end
end Go.Ab
