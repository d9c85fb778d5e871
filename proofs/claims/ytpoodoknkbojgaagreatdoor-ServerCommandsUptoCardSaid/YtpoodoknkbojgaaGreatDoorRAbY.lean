/- A part of the proof. -/
import Derived.Test.YtpoodoknkbojgaaGreatDoorRAbX
set_option linter.all false
namespace Go.Ab
variable [Dr]
def NZ (P:Program) (f:FuncId) (args:List AV) (r:AV) (ob:Nat→Option AO):Option Out:=
 match args with
 |[.c (.ms id sz off len)]=>
  match ob id with
  |some o=>some ⟨r,[(id, .dead)],[AC P f [.c (.ms id sz off len)] [(id,o)] (fun r' st'=>r'=r∧st'=[(id, .dead)]),aN (fun _=>false) o]⟩
  |none=>none
 |_=>some ⟨r,[],[AC P f args [] (fun r' st'=>r'=r∧st'=[]),∀a∈args,aA (fun _=>false) a]⟩
def iy (P:Program) (wr:Bool) (ops:List Oper) (cs:List (Nat×AV)) (o:Oper) (s:S):Option Out:=
 match o.guard with
 |none=>
  match o.op with
  | .pick c a b=>
    match ev s c,ev s a,ev s b with
    |some (.c (.d (.v (.bool t)))),some u,some v=>yZ t u v
    |_,_,_=>none
  | .call {callee:= .value (.func f),args:=⟨as⟩,argTypes:=_}=>
    match gz s as,o.dst with
    |some args,some d=>
     match get cs d with
     |some r=>NZ P f args r (get s.st)
     |none=>none
    |_,_=>none
  | .call {callee:= .value (.tmp t),args:=⟨as⟩,argTypes:=_}=>
    match(ev s (.tmp t)).bind IY,gz s as,o.dst with
    |some (f,fs),some args,some d=>
     match get cs d with
     |some r=>some ⟨r,[],[AC P f (args++fs) [] (fun r' st'=>r'=r∧st'=[]),∀a∈args++fs,aA (fun _=>false) a]⟩
     |none=>none
    |_,_,_=>none
  |op=>eff P wr op (o.dst.getD 0) (ev s) (get s.st)
 |some (j,want)=>
  match qL ops s j with
  |none=>none
  |some (bs,b)=>
   match o.op with
   | .pick c a b'=>
     match evs s c,ev s a,ev s b' with
     |some (.c (.d (.v (.bool t)))),some u,some v=>
      match yZ t u v with
      |some out=>some ⟨.cond (bG bs (if want then b else !b)) out.v,[],[bG bs (if want then b else !b)=true→All (kJ s [c]++out.obl)]⟩
      |none=>none
     |_,_,_=>none
   | .call {callee:= .value (.func f),args:=⟨as⟩,argTypes:=_}=>
     match evsAll s as,o.dst with
     |some args,some d=>
      match get cs d with
      |some r=>some ⟨.cond (bG bs (if want then b else !b)) r,[],[bG bs (if want then b else !b)=true→All (kJ s as++[AC P f args [] (fun r' st'=>r'=r∧st'=[]),∀a∈args,aA (fun _=>false) a])]⟩
      |none=>none
     |_,_=>none
   | .call {callee:= .value (.tmp t),args:=⟨as⟩,argTypes:=_}=>
     match(evs s (.tmp t)).bind IY,evsAll s as,o.dst with
     |some (f,fs),some args,some d=>
      match get cs d with
      |some r=>some ⟨.cond (bG bs (if want then b else !b)) r,[],[bG bs (if want then b else !b)=true→All (kJ s (.tmp t::as)++[AC P f (args++fs) [] (fun r' st'=>r'=r∧st'=[]),∀a∈args++fs,aA (fun _=>false) a])]⟩
      |none=>none
     |_,_,_=>none
   |op=>
    match eff P wr op (o.dst.getD 0) (evs s) (get s.st) with
    |some ⟨v,[],obl⟩=>some ⟨.cond (bG bs (if want then b else !b)) v,[],[bG bs (if want then b else !b)=true→All (kJ s op.operands.toList++obl)]⟩
    |some ⟨v,u::us,obl⟩=>some ⟨v,u::us,(bG bs (if want then b else !b)=true)::(kJ s op.operands.toList++obl)⟩
    |none=>none
where
 evsAll (s:S):List Operand→Option (List AV)
  |[]=>some []
  |o::os=>
   match evs s o,evsAll s os with
   |some v,some vs=>some (v::vs)
   |_,_=>none
def readsOf (ops:List Oper) (o:Oper) (s:S):List (yg×Option Ct):=
 (o.op.operands.toList.flatMap fun y=>match y with
   | .tmp t=>((true,t),look s (true,t))::(if Kz o.op then [] else match get s.env t with
     |some v=>(bT (strip v).1).map fun id=>((false,id),look s (false,id))
     |none=>[])
   |_=>[])++
 (match o.guard with
   |some (j,_)=>match(ops[j]?).bind (·.dst) with
    |some d=>[((true,d),look s (true,d))]
    |none=>[]
   |none=>[])++
 [((false,o.dst.getD 0),look s (false,o.dst.getD 0))]
def TR (ops:List Oper) (o:Oper) (s:S) (out:Out):A1:=⟨readsOf ops o s,o.dst.map fun d=>(d,out.v),out.upd⟩
def GY (P:Program) (wr:Bool) (ops:List Oper) (cs:List (Nat×AV)):List Oper→S→Option (List A1×List Prop×S)
 |[],s=>some ([],[],s)
 |o::l,s=>
  if jP o s.n then
   match iy P wr ops cs o s with
   |some out=>
    match GY P wr ops cs l ⟨s.n,dB s.env o.dst out.v,ah s.st out.upd⟩ with
    |some (As,ps,s')=>some (TR ops o s out::As,out.obl++ps,s')
    |none=>none
   |none=>none
  else none
omit [Dr] in
theorem vW {s s':S} {t:Nat} (h:look s' (true,t)=look s (true,t)):get s'.env t=get s.env t:=by
 simp only[look,if_true] at h
 cases h1:get s.env t<;>cases h2:get s'.env t<;>simp_all
omit [Dr] in
theorem zN {s s':S} {t:Nat} (h:look s' (false,t)=look s (false,t)):get s'.st t=get s.st t:=by
 simp only[look,aak,if_false] at h
 cases h1:get s.st t<;>cases h2:get s'.st t<;>simp_all
section
variable {P:Program} {x:X} {ops:List Oper} {o:Oper} {s s':S}
omit [Dr] in
theorem uS (h:∀p∈readsOf ops o s,look s' p.1=p.2) {y:Operand} (hy:y∈o.op.operands):ev s' y=ev s y:=by
 cases y with
 |tmp t=>
  refine vW (h ((true,t),look s (true,t)) ?_)
  simp only[readsOf,aay,aaW]
  exact .inl (.inl ⟨.tmp t,by simpa using hy,by simp⟩)
 |_=>rfl
omit [Dr] in
theorem BV (h:∀p∈readsOf ops o s,look s' p.1=p.2) (hno:Kz o.op=false) {y:Operand} (hy:y∈o.op.operands) {v:AV} (hv:ev s y=some v) {id:Nat} (hid:id∈bT (strip v).1):get s'.st id=get s.st id:=by
 cases y with
 |tmp t=>
  refine zN (h ((false,id),look s (false,id)) ?_)
  simp only[readsOf,aay,aaW]
  refine .inl (.inl ⟨.tmp t,by simpa using hy,?_⟩)
  have hv':get s.env t=some v:=hv
  simp only[hv',hno,aak,if_false,Z9,aaD]
  exact .inr ⟨id,hid,rfl⟩
 |const c=>
  simp only[ev] at hv
  split at hv
  ·cases hv;simp[strip,bT] at hid
  ·cases hv
 |global g=>cases hv
 |func f=>cases hv;simp[strip,bT] at hid
omit [Dr] in
theorem Et (h:∀p∈readsOf ops o s,look s' p.1=p.2):get s'.st (o.dst.getD 0)=get s.st (o.dst.getD 0):=
 zN (h ((false,o.dst.getD 0),look s (false,o.dst.getD 0)) (by simp[readsOf]))
omit [Dr] in
theorem mi (h:∀p∈readsOf ops o s,look s' p.1=p.2) {j:Nat} {want:Bool} (hg:o.guard=some (j,want)):qL ops s' j=qL ops s j:=by
 unfold qL
 cases hd:(ops[j]?).bind (·.dst) with
 |none=>rfl
 |some d=>
  simp only
  rw[vW (h ((true,d),look s (true,d)) (by simp[readsOf,hg,hd]))]
omit [Dr] in
theorem Kw (v:AV) (id:Nat) (h:id∈bT v):id∈bT (strip v).1:=by
 cases v with
 |cond b y=>simp[bT] at h
 |_=>exact h
theorem iV (h:∀p∈readsOf ops o s,look s' p.1=p.2):∀{l:List Operand},(∀y∈l,y∈o.op.operands)→kJ s' l=kJ s l
 |[],_=>rfl
 |y::l,hl=>by simp only[kJ];rw[uS h (hl y (by simp)),iV h fun z hz=>hl z (by simp[hz])]
theorem jT (h:∀p∈readsOf ops o s,look s' p.1=p.2):∀{l:List Operand},(∀y∈l,y∈o.op.operands)→gz s' l=gz s l
 |[],_=>rfl
 |y::l,hl=>by simp only[gz];rw[uS h (hl y (by simp)),jT h fun z hz=>hl z (by simp[hz])]
theorem jd (h:∀p∈readsOf ops o s,look s' p.1=p.2):∀{l:List Operand},(∀y∈l,y∈o.op.operands)→iy.evsAll s' l=iy.evsAll s l
 |[],_=>rfl
 |y::l,hl=>by
  simp only[iy.evsAll,evs]
  rw[uS h (hl y (by simp)),jd h fun z hz=>hl z (by simp[hz])]
omit [Dr] in
theorem OQ {l:List Operand} {v:AV} (h:gz s l=some [v]):∃y,l=[y]∧ev s y=some v:=by
 match l,h with
 |[],h=>cases h
 |[y],h=>
  simp only[gz] at h
  cases hy:ev s y with
  |none=>rw[hy] at h;cases h
  |some u=>rw[hy] at h;cases h;exact⟨y,rfl,hy⟩
 |y::z::l,h=>
  simp only[gz] at h
  split at h
  ·rename_i h2
   split at h2
   ·cases h2;cases h
   ·cases h2
  ·cases h
theorem yO {wr:Bool} {cs:List (Nat×AV)} (h:∀p∈readsOf ops o s,look s' p.1=p.2):iy P wr ops cs o s'=iy P wr ops cs o s:=by
 have hev:=fun {y} hy=>uS h (y:=y) hy
 have heff:∀op,o.op=op→eff P wr op (o.dst.getD 0) (ev s') (get s'.st)=eff P wr op (o.dst.getD 0) (ev s) (get s.st):=by
  intro op hop
  refine xB (fun y hy=>hev (by rw[hop];exact hy)) (fun hno y hy v hv i hi=>?_) (Et h)
  rw[hev (by rw[hop];exact hy)] at hv
  exact BV h (by rw[hop];exact hno) (by rw[hop];exact hy) hv (Kw v i hi)
 have heffs:∀op,o.op=op→eff P wr op (o.dst.getD 0) (evs s') (get s'.st)=eff P wr op (o.dst.getD 0) (evs s) (get s.st):=by
  intro op hop
  refine xB (fun y hy=>by simp only[evs];rw[hev (by rw[hop];exact hy)]) (fun hno y hy v hv i hi=>?_) (Et h)
  simp only[evs,aap] at hv
  obtain⟨v',hv',rfl⟩:=hv
  rw[hev (by rw[hop];exact hy)] at hv'
  exact BV h (by rw[hop];exact hno) (by rw[hop];exact hy) hv' hi
 unfold iy
 split
 ·split
  ·rename_i c a b hop
   rw[hev (by rw[hop];simp[Op.operands]),hev (by rw[hop];simp[Op.operands]),hev (by rw[hop];simp[Op.operands])]
  ·rename_i f as ats hop
   rw[jT h fun y hy=>by rw[hop];simp[Op.operands,Call.operands,hy]]
   split
   ·rename_i args d hargs hd
    split
    ·rename_i r hr
     unfold NZ
     split
     ·rename_i id sz off len
      obtain⟨y,rfl,hy⟩:=OQ hargs
      rw[BV h (by rw[hop];rfl) (y:=y) (by rw[hop];simp[Op.operands,Call.operands]) hy (by simp[strip,bT])]
     ·rfl
    ·rfl
   ·rfl
  ·rename_i t as ats hop
   rw[hev (by rw[hop];simp[Op.operands,Call.operands]),jT h fun y hy=>by rw[hop];simp[Op.operands,Call.operands,hy]]
  ·exact heff _ rfl
 ·rename_i j want hg
  rw[mi h hg]
  split
  ·rfl
  ·split
   ·rename_i c a b hop
    have e1:evs s' c=evs s c:=by simp only[evs];rw[hev (by rw[hop];simp[Op.operands])]
    rw[e1,hev (by rw[hop];simp[Op.operands]),hev (by rw[hop];simp[Op.operands]),iV h (l:=[c]) fun y hy=>by simp at hy;subst hy;rw[hop];simp[Op.operands]]
   ·rename_i f as ats hop
    rw[jd h fun y hy=>by rw[hop];simp[Op.operands,Call.operands,hy],iV h (l:=as) fun y hy=>by rw[hop];simp[Op.operands,Call.operands,hy]]
   ·rename_i t as ats hop
    have e1:evs s' (.tmp t)=evs s (.tmp t):=by simp only[evs];rw[hev (by rw[hop];simp[Op.operands,Call.operands])]
    rw[e1,jd h fun y hy=>by rw[hop];simp[Op.operands,Call.operands,hy],iV h (l:= .tmp t::as) fun y hy=>by rw[hop];simp[Op.operands,Call.operands];simpa using hy]
   ·rw[heffs _ rfl,iV h (l:=o.op.operands.toList) fun y hy=>by simpa using hy]
end
end Go.Ab
