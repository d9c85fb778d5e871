/- A part of the proof. -/
import Derived.Test.YtcpgicfphakdaaaGreatDoorRAbX
set_option linter.all false
namespace Go.Ab
variable [Dr]
def Xa (P:Program) (f:FuncId) (args:List AV) (r:AV) (ob:Nat→Option AO):Option Out:=
 match args with
 |[.c (.ms id sz off len)]=>
  match ob id with
  |some o=>some ⟨r,[(id, .dead)],[AC P f [.c (.ms id sz off len)] [(id,o)] (fun r' st'=>r'=r∧st'=[(id, .dead)]),bF (fun _=>false) o]⟩
  |none=>none
 |_=>some ⟨r,[],[AC P f args [] (fun r' st'=>r'=r∧st'=[]),∀a∈args,aJ (fun _=>false) a]⟩
def lM (P:Program) (wr:Bool) (ops:List Oper) (cs:List (Nat×AV)) (o:Oper) (s:S):Option Out:=
 match o.guard with
 |none=>
  match o.op with
  | .pick c a b=>
    match ev s c,ev s a,ev s b with
    |some (.c (.d (.v (.bool t)))),some u,some v=>Gs t u v
    |_,_,_=>none
  | .call {callee:= .value (.func f),args:=⟨as⟩,argTypes:=_}=>
    match jv s as,o.dst with
    |some args,some d=>
     match get cs d with
     |some r=>Xa P f args r (get s.st)
     |none=>none
    |_,_=>none
  | .call {callee:= .value (.tmp t),args:=⟨as⟩,argTypes:=_}=>
    match(ev s (.tmp t)).bind Vu,jv s as,o.dst with
    |some (f,fs),some args,some d=>
     match get cs d with
     |some r=>some ⟨r,[],[AC P f (args++fs) [] (fun r' st'=>r'=r∧st'=[]),∀a∈args++fs,aJ (fun _=>false) a]⟩
     |none=>none
    |_,_,_=>none
  |op=>eff P wr op (o.dst.getD 0) (ev s) (get s.st)
 |some (j,want)=>
  match Hy ops s j with
  |none=>none
  |some (bs,b)=>
   match o.op with
   | .pick c a b'=>
     match evs s c,ev s a,ev s b' with
     |some (.c (.d (.v (.bool t)))),some u,some v=>
      match Gs t u v with
      |some out=>some ⟨.cond (dU bs (if want then b else !b)) out.v,[],[dU bs (if want then b else !b)=true→All (rW s [c]++out.obl)]⟩
      |none=>none
     |_,_,_=>none
   | .call {callee:= .value (.func f),args:=⟨as⟩,argTypes:=_}=>
     match evsAll s as,o.dst with
     |some args,some d=>
      match get cs d with
      |some r=>some ⟨.cond (dU bs (if want then b else !b)) r,[],[dU bs (if want then b else !b)=true→All (rW s as++[AC P f args [] (fun r' st'=>r'=r∧st'=[]),∀a∈args,aJ (fun _=>false) a])]⟩
      |none=>none
     |_,_=>none
   | .call {callee:= .value (.tmp t),args:=⟨as⟩,argTypes:=_}=>
     match(evs s (.tmp t)).bind Vu,evsAll s as,o.dst with
     |some (f,fs),some args,some d=>
      match get cs d with
      |some r=>some ⟨.cond (dU bs (if want then b else !b)) r,[],[dU bs (if want then b else !b)=true→All (rW s (.tmp t::as)++[AC P f (args++fs) [] (fun r' st'=>r'=r∧st'=[]),∀a∈args++fs,aJ (fun _=>false) a])]⟩
      |none=>none
     |_,_,_=>none
   |op=>
    match eff P wr op (o.dst.getD 0) (evs s) (get s.st) with
    |some ⟨v,[],obl⟩=>some ⟨.cond (dU bs (if want then b else !b)) v,[],[dU bs (if want then b else !b)=true→All (rW s op.operands.toList++obl)]⟩
    |some ⟨v,u::us,obl⟩=>some ⟨v,u::us,(dU bs (if want then b else !b)=true)::(rW s op.operands.toList++obl)⟩
    |none=>none
where
 evsAll (s:S):List Operand→Option (List AV)
  |[]=>some []
  |o::os=>
   match evs s o,evsAll s os with
   |some v,some vs=>some (v::vs)
   |_,_=>none
def readsOf (ops:List Oper) (o:Oper) (s:S):List (Ik×Option Ct):=
 (o.op.operands.toList.flatMap fun y=>match y with
   | .tmp t=>((true,t),look s (true,t))::(if Zl o.op then [] else match get s.env t with
     |some v=>(iT (strip v).1).map fun id=>((false,id),look s (false,id))
     |none=>[])
   |_=>[])++
 (match o.guard with
   |some (j,_)=>match(ops[j]?).bind (·.dst) with
    |some d=>[((true,d),look s (true,d))]
    |none=>[]
   |none=>[])++
 [((false,o.dst.getD 0),look s (false,o.dst.getD 0))]
def WC (ops:List Oper) (o:Oper) (s:S) (out:Out):A1:=⟨readsOf ops o s,o.dst.map fun d=>(d,out.v),out.upd⟩
def Qz (P:Program) (wr:Bool) (ops:List Oper) (cs:List (Nat×AV)):List Oper→S→Option (List A1×List Prop×S)
 |[],s=>some ([],[],s)
 |o::l,s=>
  if pO o s.n then
   match lM P wr ops cs o s with
   |some out=>
    match Qz P wr ops cs l ⟨s.n,fZ s.env o.dst out.v,aN s.st out.upd⟩ with
    |some (As,ps,s')=>some (WC ops o s out::As,out.obl++ps,s')
    |none=>none
   |none=>none
  else none
omit [Dr] in
theorem Ui {s s':S} {t:Nat} (h:look s' (true,t)=look s (true,t)):get s'.env t=get s.env t:=by
 simp only[look,if_true] at h
 cases h1:get s.env t<;>cases h2:get s'.env t<;>simp_all
omit [Dr] in
theorem IK {s s':S} {t:Nat} (h:look s' (false,t)=look s (false,t)):get s'.st t=get s.st t:=by
 simp only[look,agF,if_false] at h
 cases h1:get s.st t<;>cases h2:get s'.st t<;>simp_all
section
variable {P:Program} {x:X} {ops:List Oper} {o:Oper} {s s':S}
omit [Dr] in
theorem Ej (h:∀p∈readsOf ops o s,look s' p.1=p.2) {y:Operand} (hy:y∈o.op.operands):ev s' y=ev s y:=by
 cases y with
 |tmp t=>
  refine Ui (h ((true,t),look s (true,t)) ?_)
  simp only[readsOf,afs,akm]
  exact .inl (.inl ⟨.tmp t,by simpa using hy,by simp⟩)
 |_=>rfl
omit [Dr] in
theorem DY (h:∀p∈readsOf ops o s,look s' p.1=p.2) (hno:Zl o.op=false) {y:Operand} (hy:y∈o.op.operands) {v:AV} (hv:ev s y=some v) {id:Nat} (hid:id∈iT (strip v).1):get s'.st id=get s.st id:=by
 cases y with
 |tmp t=>
  refine IK (h ((false,id),look s (false,id)) ?_)
  simp only[readsOf,afs,akm]
  refine .inl (.inl ⟨.tmp t,by simpa using hy,?_⟩)
  have hv':get s.env t=some v:=hv
  simp only[hv',hno,agF,if_false,afr,agh]
  exact .inr ⟨id,hid,rfl⟩
 |const c=>
  simp only[ev] at hv
  split at hv
  ·cases hv;simp[strip,iT] at hid
  ·cases hv
 |global g=>cases hv
 |func f=>cases hv;simp[strip,iT] at hid
omit [Dr] in
theorem Oa (h:∀p∈readsOf ops o s,look s' p.1=p.2):get s'.st (o.dst.getD 0)=get s.st (o.dst.getD 0):=
 IK (h ((false,o.dst.getD 0),look s (false,o.dst.getD 0)) (by simp[readsOf]))
omit [Dr] in
theorem AA (h:∀p∈readsOf ops o s,look s' p.1=p.2) {j:Nat} {want:Bool} (hg:o.guard=some (j,want)):Hy ops s' j=Hy ops s j:=by
 unfold Hy
 cases hd:(ops[j]?).bind (·.dst) with
 |none=>rfl
 |some d=>
  simp only
  rw[Ui (h ((true,d),look s (true,d)) (by simp[readsOf,hg,hd]))]
omit [Dr] in
theorem Vw (v:AV) (id:Nat) (h:id∈iT v):id∈iT (strip v).1:=by
 cases v with
 |cond b y=>simp[iT] at h
 |_=>exact h
theorem qh (h:∀p∈readsOf ops o s,look s' p.1=p.2):∀{l:List Operand},(∀y∈l,y∈o.op.operands)→rW s' l=rW s l
 |[],_=>rfl
 |y::l,hl=>by simp only[rW];rw[Ej h (hl y (by simp)),qh h fun z hz=>hl z (by simp[hz])]
theorem oJ (h:∀p∈readsOf ops o s,look s' p.1=p.2):∀{l:List Operand},(∀y∈l,y∈o.op.operands)→jv s' l=jv s l
 |[],_=>rfl
 |y::l,hl=>by simp only[jv];rw[Ej h (hl y (by simp)),oJ h fun z hz=>hl z (by simp[hz])]
theorem rY (h:∀p∈readsOf ops o s,look s' p.1=p.2):∀{l:List Operand},(∀y∈l,y∈o.op.operands)→lM.evsAll s' l=lM.evsAll s l
 |[],_=>rfl
 |y::l,hl=>by
  simp only[lM.evsAll,evs]
  rw[Ej h (hl y (by simp)),rY h fun z hz=>hl z (by simp[hz])]
omit [Dr] in
theorem OX {l:List Operand} {v:AV} (h:jv s l=some [v]):∃y,l=[y]∧ev s y=some v:=by
 match l,h with
 |[],h=>cases h
 |[y],h=>
  simp only[jv] at h
  cases hy:ev s y with
  |none=>rw[hy] at h;cases h
  |some u=>rw[hy] at h;cases h;exact⟨y,rfl,hy⟩
 |y::z::l,h=>
  simp only[jv] at h
  split at h
  ·rename_i h2
   split at h2
   ·cases h2;cases h
   ·cases h2
  ·cases h
theorem uS {wr:Bool} {cs:List (Nat×AV)} (h:∀p∈readsOf ops o s,look s' p.1=p.2):lM P wr ops cs o s'=lM P wr ops cs o s:=by
 have hev:=fun {y} hy=>Ej h (y:=y) hy
 have heff:∀op,o.op=op→eff P wr op (o.dst.getD 0) (ev s') (get s'.st)=eff P wr op (o.dst.getD 0) (ev s) (get s.st):=by
  intro op hop
  refine Nh (fun y hy=>hev (by rw[hop];exact hy)) (fun hno y hy v hv i hi=>?_) (Oa h)
  rw[hev (by rw[hop];exact hy)] at hv
  exact DY h (by rw[hop];exact hno) (by rw[hop];exact hy) hv (Vw v i hi)
 have heffs:∀op,o.op=op→eff P wr op (o.dst.getD 0) (evs s') (get s'.st)=eff P wr op (o.dst.getD 0) (evs s) (get s.st):=by
  intro op hop
  refine Nh (fun y hy=>by simp only[evs];rw[hev (by rw[hop];exact hy)]) (fun hno y hy v hv i hi=>?_) (Oa h)
  simp only[evs,ahL] at hv
  obtain⟨v',hv',rfl⟩:=hv
  rw[hev (by rw[hop];exact hy)] at hv'
  exact DY h (by rw[hop];exact hno) (by rw[hop];exact hy) hv' hi
 unfold lM
 split
 ·split
  ·rename_i c a b hop
   rw[hev (by rw[hop];simp[Op.operands]),hev (by rw[hop];simp[Op.operands]),hev (by rw[hop];simp[Op.operands])]
  ·rename_i f as ats hop
   rw[oJ h fun y hy=>by rw[hop];simp[Op.operands,Call.operands,hy]]
   split
   ·rename_i args d hargs hd
    split
    ·rename_i r hr
     unfold Xa
     split
     ·rename_i id sz off len
      obtain⟨y,rfl,hy⟩:=OX hargs
      rw[DY h (by rw[hop];rfl) (y:=y) (by rw[hop];simp[Op.operands,Call.operands]) hy (by simp[strip,iT])]
     ·rfl
    ·rfl
   ·rfl
  ·rename_i t as ats hop
   rw[hev (by rw[hop];simp[Op.operands,Call.operands]),oJ h fun y hy=>by rw[hop];simp[Op.operands,Call.operands,hy]]
  ·exact heff _ rfl
 ·rename_i j want hg
  rw[AA h hg]
  split
  ·rfl
  ·split
   ·rename_i c a b hop
    have e1:evs s' c=evs s c:=by simp only[evs];rw[hev (by rw[hop];simp[Op.operands])]
    rw[e1,hev (by rw[hop];simp[Op.operands]),hev (by rw[hop];simp[Op.operands]),qh h (l:=[c]) fun y hy=>by simp at hy;subst hy;rw[hop];simp[Op.operands]]
   ·rename_i f as ats hop
    rw[rY h fun y hy=>by rw[hop];simp[Op.operands,Call.operands,hy],qh h (l:=as) fun y hy=>by rw[hop];simp[Op.operands,Call.operands,hy]]
   ·rename_i t as ats hop
    have e1:evs s' (.tmp t)=evs s (.tmp t):=by simp only[evs];rw[hev (by rw[hop];simp[Op.operands,Call.operands])]
    rw[e1,rY h fun y hy=>by rw[hop];simp[Op.operands,Call.operands,hy],qh h (l:= .tmp t::as) fun y hy=>by rw[hop];simp[Op.operands,Call.operands];simpa using hy]
   ·rw[heffs _ rfl,qh h (l:=o.op.operands.toList) fun y hy=>by simpa using hy]
end
end Go.Ab
