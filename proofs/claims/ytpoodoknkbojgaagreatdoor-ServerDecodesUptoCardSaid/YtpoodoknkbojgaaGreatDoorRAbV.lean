/- A part of the proof. -/
import Derived.Test.YtpoodoknkbojgaaGreatDoorRAbL
import Derived.Deep.LoopGhost
set_option linter.all false
namespace Go.Ab
def ev (s:S):Operand→Option AV
 | .tmp t=>get s.env t
 | .const v=>if v.oneCell' then some (.c (.d (.v v))) else none
 | .func f=>some (.c (.d (.v (.func (.func f) #[] #[]))))
 | .global _=>none
def strip:AV→AV×List Bool
 | .cond b x=>((strip x).1,b::(strip x).2)
 |x=>(x,[])
def evs (s:S) (o:Operand):Option AV:=(ev s o).map fun v=>(strip v).1
def CJ (v:Option AV):Option Out:=v.map fun v=>⟨v,[],[]⟩
def CU (P:Program) (op:BinOp) (T:TypeId) (u v:AV):Option Out:=
 match u with
 | .agg _=>Fe P op T u v
 | .c (.d (.v (.bool a)))=>nT P op T a v
 |_=>xm op u v
def Xj:BinOp→Bool
 | .add| .sub| .mul=>true
 |_=>false
def iP (e:Operand→Option AV):List (Nat×Operand)→Option (List (Nat×AV))
 |[]=>some []
 |p::ps=>
  match e p.2,iP e ps with
  |some v,some vs=>some ((p.1,v)::vs)
  |_,_=>none
def nV (P:Program) (T id:Nat) (u:AV) (ob:Nat→Option AO):Option Out:=
 match BF P T,u with
 |some _, .c (.d (.v (.int _ _)))=>fH id ob
 |_,_=>none
def QL:AV→Option Cap
 | .c (.ptr id off)=>some (.ptr id off)
 | .c (.pp cs)=>some (.pp cs)
 | .c (.d x)=>some (.d x)
 |_=>none
def mQ (e:Operand→Option AV):List Operand→Option (List Cap)
 |[]=>some []
 |y::ys=>
  match(e y).bind QL,mQ e ys with
  |some c,some cs=>some (c::cs)
  |_,_=>none
def eff (P:Program) (wr:Bool) (op:Op) (id:Nat) (e:Operand→Option AV) (ob:Nat→Option AO):Option Out:=
 match op with
 | .move x=>CJ (e x)
 | .assign x=>CJ (e x)
 | .alloc T=>nC P T id ob
 | .box _ x=>(e x).bind fun v=>wZ id v ob
 | .load T a=>(e a).bind fun v=>iM P T v ob
 | .store T a x=>(e a).bind fun u=>(e x).bind fun v=>je P T u v ob
 | .nilCheck x=>(e x).bind Am
 | .binOp op T x y _=>(e x).bind fun u=>(e y).bind fun v=>if wr&&Xj op then qP op u v else CU P op T u v
 | .unOp .not _ x=>(e x).bind Dq
 | .fieldAddr T x f=>(e x).bind fun v=>qc P T v f
 | .field T x f=>(e x).bind fun v=>rH P T v f
 | .indexAddr T x i=>(e x).bind fun u=>(e i).bind fun v=>ig P T u v
 | .index T x i=>(e x).bind fun u=>(e i).bind fun v=>nN P T u v
 | .extract x i=>(e x).bind fun v=>lC v i
 | .call {callee:= .builtin .len,args:=⟨[x]⟩,argTypes:=⟨[T]⟩}=>(e x).bind fun v=>qH P T v ob
 | .call {callee:= .builtin .append,args:=⟨[x,y]⟩,argTypes:=⟨[T,T']⟩}=>(e x).bind fun u=>(e y).bind fun v=>dS P T T' id u v ob
 | .call {callee:= .builtin .max,args:=⟨[x,y]⟩,argTypes:=_}=>(e x).bind fun u=>(e y).bind fun v=>gY true u v
 | .call {callee:= .builtin .min,args:=⟨[x,y]⟩,argTypes:=_}=>(e x).bind fun u=>(e y).bind fun v=>gY false u v
 | .build T ⟨ps⟩=>(iP e ps).bind fun vs=>nM P T vs
 | .buildSlice T n ⟨ps⟩=>(iP e ps).bind fun vs=>dY P T n id vs ob
 | .makeSlice T x y=>(e x).bind fun u=>(e y).bind fun v=>fO P T id u v ob
 | .makeMap T none=>fH id ob
 | .makeMap T (some x)=>(e x).bind fun u=>nV P T id u ob
 | .slice T x (some l) (some h) none=>(e x).bind fun u=>(e l).bind fun a=>(e h).bind fun b=>jK P T u (some a) (some b)
 | .slice T x (some l) none none=>(e x).bind fun u=>(e l).bind fun a=>jK P T u (some a) none
 | .slice T x none (some h) none=>(e x).bind fun u=>(e h).bind fun b=>jK P T u none (some b)
 | .slice T x (some l) (some h) (some m)=>(e x).bind fun u=>(e l).bind fun a=>(e h).bind fun b=>(e m).bind fun c=>rC P T u a b c
 | .convert s d x=>(e x).bind fun u=>jv P s d u
 | .lookup T m k ok=>(e m).bind fun u=>(e k).bind fun v=>iw P T u v ok ob
 | .mapUpdate T m k v=>(e m).bind fun u=>(e k).bind fun a=>(e v).bind fun b=>dA P T u a b ob
 | .insert T m k v=>(e m).bind fun u=>(e k).bind fun a=>(e v).bind fun b=>dA P T u a b ob
 | .range T m=>(e m).bind fun u=>jR P T id u ob
 | .entry it=>(e it).bind fun u=>jI u ob
 | .makeFunc (.func f) ⟨[]⟩ ⟨ys⟩=>(mQ e ys).bind fun cs=>some ⟨.c (.fn f cs),[],[]⟩
 | .makeFunc (.func f) ⟨[y]⟩ ⟨[]⟩=>(mQ e [y]).bind fun cs=>some ⟨.c (.fb f cs),[],[]⟩
 |_=>none
section
variable {P:Program} {x:X} {bl:Nat→List Nat} {cap:Nat→Nat} {st:List (Nat×AO)} {w:World}
variable [Dr]
theorem Good.bM {out:Out} {r:Result Next} (hs:aP x bl cap st w) (h:∃v,r= .ok (.value v) w∧af (mkK x bl cap st w) out.v v∧out.upd=[]):
 Good x bl cap st w out r:=let⟨_,e,hr,h0⟩:=h;Good.pure hs h0 hr e
omit [Dr] in
theorem dW {s:Sem Value} {v:Value} {w w':World} (h:s.run P w= .ok v w'):(do pure (Next.value (←s)):Sem Next).run P w= .ok (.value v) w':=by simp[h]
omit [Dr] in
theorem WA {s:Sem Unit} {w w':World} (h:s.run P w= .ok () w'):(do s;pure Next.skip:Sem Next).run P w= .ok .skip w':=by simp[h]
omit [Dr] in
theorem xN {k:K} {e:Operand→Option AV} {ρ:Operand→Value}:∀{ps:List (Nat×Operand)} {vs:List (Nat×AV)},iP e ps=some vs→(∀y v,y∈ps.map (·.2)→e y=some v→af k v (ρ y))→
 aj (fun(p:Nat×AV) (q:Nat×Value)=>p.1=q.1∧af k p.2 q.2) vs (ps.map fun p=>(p.1,ρ p.2))
 |[],vs,h,_=>by cases h;exact .nil
 |p::ps,vs,h,hr=>by
  simp only[iP] at h
  split at h
  ·rename_i v vs' h1 h2
   cases h
   exact .cons ⟨rfl,hr _ _ (by simp) h1⟩ (xN h2 fun y v hy hv=>hr y v (by simp at hy⊢;exact .inr hy) hv)
  ·cases h
omit [Dr] in
theorem BH {k:K} {e:Operand→Option AV} {ρ:Operand→Value}:∀{ys:List Operand} {cs:List Cap},mQ e ys=some cs→(∀y v,y∈ys→e y=some v→af k v (ρ y))→aj (mM k) cs (ys.map ρ)
 |[],cs,h,_=>by cases h;exact .nil
 |y::ys,cs,h,hr=>by
  simp only[mQ] at h
  split at h
  ·rename_i c cs' h1 h2
   cases h
   rw[aac] at h1
   obtain⟨v,hv,hc⟩:=h1
   refine .cons ?_ (BH h2 fun y v hy hv=>hr y v (by simp[hy]) hv)
   have:=hr y v (by simp) hv
   unfold QL at hc
   split at hc
   ·cases hc;exact this
   ·cases hc;exact this
   ·cases hc;exact this
   ·cases hc
  ·cases h
theorem Gh {wr:Bool} {o:Oper} {id:Nat} {e:Operand→Option AV} {ρ:Operand→Value} {out:Out} (hs:aP x bl cap st w)
 (he:eff P wr o.op id e (get st)=some out) (ho:All out.obl) (hr:∀y v,y∈o.op.operands→e y=some v→af (mkK x bl cap st w) v (ρ y)):Good x bl cap st w out ((execOp ρ o).run P w):=by
 obtain⟨dst,op,type,pos,after,guard⟩:=o
 simp only at he⊢
 unfold eff at he
 split at he
 ·rename_i y
  simp only[CJ,aap] at he
  obtain⟨v,hv,rfl⟩:=he
  exact Good.pure hs rfl (hr _ _ (by simp[Op.operands,Call.operands]) hv) rfl
 ·rename_i y
  simp only[CJ,aap] at he
  obtain⟨v,hv,rfl⟩:=he
  exact Good.pure hs rfl (hr _ _ (by simp[Op.operands,Call.operands]) hv) rfl
 ·rename_i T
  obtain⟨bl',cap',w',u,h1,h2,h3,h4⟩:=II hs he (.tuple #[])
  exact⟨bl',cap',w',u, .inl (dW h1),h2,h3,h4⟩
 ·rename_i T y
  simp only[aac] at he
  obtain⟨v,hv,he⟩:=he
  obtain⟨bl',cap',w',u,h1,h2,h3,h4⟩:=OG (P:=P) (T:=T) hs he (hr _ _ (by simp[Op.operands,Call.operands]) hv)
  exact⟨bl',cap',w',u, .inl (dW h1),h2,h3,h4⟩
 ·rename_i T y
  simp only[aac] at he
  obtain⟨v,hv,he⟩:=he
  obtain⟨r,h1,h2⟩:=Bz hs he ho (hr _ _ (by simp[Op.operands,Call.operands]) hv)
  exact Good.bM hs ⟨r,dW h1,h2⟩
 ·rename_i T y z
  simp only[aac] at he
  obtain⟨u,hu,v,hv,he⟩:=he
  obtain⟨w',h1,h2,h3,h4⟩:=He hs he ho (hr _ _ (by simp[Op.operands,Call.operands]) hu) (hr _ _ (by simp[Op.operands,Call.operands]) hv)
  exact⟨bl,cap,w',undef, .inr ⟨WA h1,rfl⟩,h2,h3,by rw[h4];exact⟨[],rfl, .nil⟩⟩
 ·rename_i y
  simp only[aac] at he
  obtain⟨v,hv,he⟩:=he
  obtain⟨⟨b,hb⟩,h2,h3⟩:=O5 he (hr _ _ (by simp[Op.operands,Call.operands]) hv)
  refine Good.pure hs h3 h2 ?_
  simp only[execOp,hb];rfl
 ·rename_i op' T y z T'
  simp only[aac] at he
  obtain⟨u,hu,v,hv,he⟩:=he
  split at he
  ·obtain⟨r,h1,h2⟩:=KT (P:=P) (T:=T) (ox:=y) (oy:=z) he ho (hr _ _ (by simp[Op.operands,Call.operands]) hu) (hr _ _ (by simp[Op.operands,Call.operands]) hv)
   exact Good.bM hs ⟨r,dW h1,h2⟩
  ·unfold CU at he
   split at he
   ·obtain⟨r,h1,h2⟩:=Qu (P:=P) (T:=T) (ox:=y) (oy:=z) he ho (hr _ _ (by simp[Op.operands,Call.operands]) hu) (hr _ _ (by simp[Op.operands,Call.operands]) hv)
    exact Good.bM hs ⟨r,dW h1,h2⟩
   ·obtain⟨r,h1,h2⟩:=FM (P:=P) (T:=T) (ox:=y) (oy:=z) he (hr _ _ (by simp[Op.operands,Call.operands]) hu) (hr _ _ (by simp[Op.operands,Call.operands]) hv)
    exact Good.bM hs ⟨r,dW h1,h2⟩
   ·obtain⟨r,h1,h2⟩:=Px (P:=P) (T:=T) (ox:=y) (oy:=z) he ho (hr _ _ (by simp[Op.operands,Call.operands]) hu) (hr _ _ (by simp[Op.operands,Call.operands]) hv)
    exact Good.bM hs ⟨r,dW h1,h2⟩
 ·rename_i T y
  simp only[aac] at he
  obtain⟨v,hv,he⟩:=he
  obtain⟨r,h1,h2⟩:=O1 (P:=P) he (hr _ _ (by simp[Op.operands,Call.operands]) hv)
  exact Good.bM hs ⟨r,dW h1,h2⟩
 ·rename_i T y f
  simp only[aac] at he
  obtain⟨v,hv,he⟩:=he
  obtain⟨r,h1,h2⟩:=Iu he (hr _ _ (by simp[Op.operands,Call.operands]) hv)
  exact Good.bM hs ⟨r,dW h1,h2⟩
 ·rename_i T y f
  simp only[aac] at he
  obtain⟨v,hv,he⟩:=he
  obtain⟨r,h1,h2⟩:=KO he ho (hr _ _ (by simp[Op.operands,Call.operands]) hv)
  exact Good.bM hs ⟨r,dW h1,h2⟩
 ·rename_i T y i
  simp only[aac] at he
  obtain⟨u,hu,v,hv,he⟩:=he
  obtain⟨r,h1,h2⟩:=zq he ho (hr _ _ (by simp[Op.operands,Call.operands]) hu) (hr _ _ (by simp[Op.operands,Call.operands]) hv)
  exact Good.bM hs ⟨r,dW h1,h2⟩
 ·rename_i T y i
  simp only[aac] at he
  obtain⟨u,hu,v,hv,he⟩:=he
  obtain⟨r,h1,h2⟩:=Jt he ho (hr _ _ (by simp[Op.operands,Call.operands]) hu) (hr _ _ (by simp[Op.operands,Call.operands]) hv)
  exact Good.bM hs ⟨r,dW h1,h2⟩
 ·rename_i y i
  simp only[aac] at he
  obtain⟨v,hv,he⟩:=he
  obtain⟨r,h1,h2⟩:=DN (P:=P) he (hr _ _ (by simp[Op.operands,Call.operands]) hv)
  exact Good.bM hs ⟨r,dW h1,h2⟩
 ·rename_i y T
  simp only[aac] at he
  obtain⟨v,hv,he⟩:=he
  obtain⟨r,h1,h2⟩:=PQ (P:=P) (ty:=type) hs he (hr _ _ (by simp[Op.operands,Call.operands]) hv)
  refine Good.bM hs ⟨r,?_,h2⟩
  simp only[execOp,resolve,Sem.run_bind,Sem.run_pure,Result.andThen_ok,invoke,builtin]
  have e1:Array.map ρ (⟨[y]⟩:Array Operand)= #[ρ y]:=by simp
  rw[e1]
  have h1':(Builtin.len_ ⟨[T]⟩ type #[ρ y]).run P w= .ok r w:=h1
  rw[h1'];rfl
 ·rename_i y z T T'
  simp only[aac] at he
  obtain⟨u,hu,v,hv,he⟩:=he
  obtain⟨bl',cap',w',r,h1,h2,h3,h4⟩:=vY (P:=P) (ty:=type) hs he ho (hr _ _ (by simp[Op.operands,Call.operands]) hu) (hr _ _ (by simp[Op.operands,Call.operands]) hv)
  refine⟨bl',cap',w',r, .inl ?_,h2,h3,h4⟩
  simp only[execOp,resolve,Sem.run_bind,Sem.run_pure,Result.andThen_ok,invoke,builtin]
  have e1:Array.map ρ (⟨[y,z]⟩:Array Operand)= #[ρ y,ρ z]:=by simp
  rw[e1]
  have h1':(Builtin.append_ ⟨[T,T']⟩ type #[ρ y,ρ z]).run P w= .ok r w':=h1
  rw[h1'];rfl
 ·rename_i y z ts
  simp only[aac] at he
  obtain⟨u,hu,v,hv,he⟩:=he
  obtain⟨r,h1,h2⟩:=PE (P:=P) (ts:=ts) (ty:=type) he (hr _ _ (by simp[Op.operands,Call.operands]) hu) (hr _ _ (by simp[Op.operands,Call.operands]) hv)
  refine Good.bM hs ⟨r,?_,h2⟩
  simp only[execOp,resolve,Sem.run_bind,Sem.run_pure,Result.andThen_ok,invoke,builtin]
  have e1:Array.map ρ (⟨[y,z]⟩:Array Operand)= #[ρ y,ρ z]:=by simp
  rw[e1,h1];rfl
 ·rename_i y z ts
  simp only[aac] at he
  obtain⟨u,hu,v,hv,he⟩:=he
  obtain⟨r,h1,h2⟩:=OM (P:=P) (ts:=ts) (ty:=type) he (hr _ _ (by simp[Op.operands,Call.operands]) hu) (hr _ _ (by simp[Op.operands,Call.operands]) hv)
  refine Good.bM hs ⟨r,?_,h2⟩
  simp only[execOp,resolve,Sem.run_bind,Sem.run_pure,Result.andThen_ok,invoke,builtin]
  have e1:Array.map ρ (⟨[y,z]⟩:Array Operand)= #[ρ y,ρ z]:=by simp
  rw[e1,h1];rfl
 ·rename_i T ps
  simp only[aac] at he
  obtain⟨vs,hvs,he⟩:=he
  have hp:=xN (k:=mkK x bl cap st w) (ρ:=ρ) hvs fun y v hy hv=>hr y v (by simp only[Op.operands];simpa using hy) hv
  obtain⟨r,h1,h2⟩:=Jy (us:=(⟨ps⟩:Array (Nat×Operand)).map fun(i,x)=>(i,ρ x)) he ho (by simpa using hp)
  exact Good.bM hs ⟨r,dW h1,h2⟩
 ·rename_i T n ps
  simp only[aac] at he
  obtain⟨vs,hvs,he⟩:=he
  have hp:=xN (k:=mkK x bl cap st w) (ρ:=ρ) hvs fun y v hy hv=>hr y v (by simp only[Op.operands];simpa using hy) hv
  obtain⟨bl',cap',w',r,h1,h2,h3,h4⟩:=xK (us:=(⟨ps⟩:Array (Nat×Operand)).map fun(i,x)=>(i,ρ x)) hs he ho (by simpa using hp)
  exact⟨bl',cap',w',r, .inl (dW h1),h2,h3,h4⟩
 ·rename_i T y z
  simp only[aac] at he
  obtain⟨u,hu,v,hv,he⟩:=he
  obtain⟨bl',cap',w',r,h1,h2,h3,h4⟩:=zk hs he ho (hr _ _ (by simp[Op.operands,Call.operands]) hu) (hr _ _ (by simp[Op.operands,Call.operands]) hv)
  exact⟨bl',cap',w',r, .inl (dW h1),h2,h3,h4⟩
 ·rename_i T
  obtain⟨bl',cap',w',r,h1,h2,h3,h4⟩:=sV (P:=P) (T:=T) (r:=none) hs he (.inl rfl)
  exact⟨bl',cap',w',r, .inl (dW h1),h2,h3,h4⟩
 ·rename_i T y
  simp only[aac] at he
  obtain⟨u,hu,he⟩:=he
  unfold nV at he
  split at he
  ·rename_i p k n hT
   obtain⟨K,E⟩:=p
   have hv:=hr _ _ (by simp[Op.operands,Call.operands]) hu
   obtain⟨bl',cap',w',r,h1,h2,h3,h4⟩:=sV (P:=P) (T:=T) (r:=some (ρ y)) hs he (.inr ⟨⟨K,E,mY hT⟩,k,n,by rw[dL hv]⟩)
   exact⟨bl',cap',w',r, .inl (dW h1),h2,h3,h4⟩
  ·cases he
 ·rename_i T y l h
  simp only[aac] at he
  obtain⟨u,hu,a,ha,b,hb,he⟩:=he
  obtain⟨r,h1,h2⟩:=qf (ul:=some (ρ l)) (uh:=some (ρ h)) he ho (hr _ _ (by simp[Op.operands,Call.operands]) hu) (fun v hv=>by cases hv;exact⟨_,rfl,hr _ _ (by simp[Op.operands,Call.operands]) ha⟩) (fun h=>by cases h) (fun v hv=>by cases hv;exact⟨_,rfl,hr _ _ (by simp[Op.operands,Call.operands]) hb⟩) (fun h=>by cases h)
  exact Good.bM hs ⟨r,dW h1,h2⟩
 ·rename_i T y l
  simp only[aac] at he
  obtain⟨u,hu,a,ha,he⟩:=he
  obtain⟨r,h1,h2⟩:=qf (ul:=some (ρ l)) (uh:=none) he ho (hr _ _ (by simp[Op.operands,Call.operands]) hu) (fun v hv=>by cases hv;exact⟨_,rfl,hr _ _ (by simp[Op.operands,Call.operands]) ha⟩) (fun h=>by cases h) (fun v hv=>by cases hv) (fun _=>rfl)
  exact Good.bM hs ⟨r,dW h1,h2⟩
 ·rename_i T y h
  simp only[aac] at he
  obtain⟨u,hu,b,hb,he⟩:=he
  obtain⟨r,h1,h2⟩:=qf (ul:=none) (uh:=some (ρ h)) he ho (hr _ _ (by simp[Op.operands,Call.operands]) hu) (fun v hv=>by cases hv) (fun _=>rfl) (fun v hv=>by cases hv;exact⟨_,rfl,hr _ _ (by simp[Op.operands,Call.operands]) hb⟩) (fun h=>by cases h)
  exact Good.bM hs ⟨r,dW h1,h2⟩
 ·rename_i T y l h m
  simp only[aac] at he
  obtain⟨u,hu,a,ha,b,hb,c,hc,he⟩:=he
  obtain⟨r,h1,h2⟩:=GK he ho (hr _ _ (by simp[Op.operands,Call.operands]) hu) (hr _ _ (by simp[Op.operands,Call.operands]) ha) (hr _ _ (by simp[Op.operands,Call.operands]) hb) (hr _ _ (by simp[Op.operands,Call.operands]) hc)
  exact Good.bM hs ⟨r,dW h1,h2⟩
 ·rename_i S D y
  simp only[aac] at he
  obtain⟨u,hu,he⟩:=he
  obtain⟨r,h1,h2⟩:=DU he ho (hr _ _ (by simp[Op.operands,Call.operands]) hu)
  exact Good.bM hs ⟨r,dW h1,h2⟩
 ·rename_i T m k ok
  simp only[aac] at he
  obtain⟨u,hu,v,hv,he⟩:=he
  obtain⟨r,h1,h2⟩:=FT hs he ho (hr _ _ (by simp[Op.operands,Call.operands]) hu) (hr _ _ (by simp[Op.operands,Call.operands]) hv)
  exact Good.bM hs ⟨r,dW h1,h2⟩
 ·rename_i T m k v
  simp only[aac] at he
  obtain⟨u,hu,a,ha,b,hb,he⟩:=he
  obtain⟨w',h1,h2,h3,h4⟩:=o8 hs he ho (hr _ _ (by simp[Op.operands,Call.operands]) hu) (hr _ _ (by simp[Op.operands,Call.operands]) ha) (hr _ _ (by simp[Op.operands,Call.operands]) hb)
  exact⟨bl,cap,w',undef, .inr ⟨WA h1,rfl⟩,h2,h3,by rw[h4];exact⟨[],rfl, .nil⟩⟩
 ·rename_i T m k v
  simp only[aac] at he
  obtain⟨u,hu,a,ha,b,hb,he⟩:=he
  obtain⟨w',h1,h2,h3,h4⟩:=o8 hs he ho (hr _ _ (by simp[Op.operands,Call.operands]) hu) (hr _ _ (by simp[Op.operands,Call.operands]) ha) (hr _ _ (by simp[Op.operands,Call.operands]) hb)
  exact⟨bl,cap,w',undef, .inr ⟨WA h1,rfl⟩,h2,h3,by rw[h4];exact⟨[],rfl, .nil⟩⟩
 ·rename_i T m
  simp only[aac] at he
  obtain⟨u,hu,he⟩:=he
  obtain⟨bl',cap',w',r,h1,h2,h3,h4⟩:=yL (P:=P) hs he (hr _ _ (by simp[Op.operands,Call.operands]) hu)
  exact⟨bl',cap',w',r, .inl (dW h1),h2,h3,h4⟩
 ·rename_i it
  simp only[aac] at he
  obtain⟨u,hu,he⟩:=he
  obtain⟨r,h1,h2⟩:=Hf (P:=P) hs he (hr _ _ (by simp[Op.operands,Call.operands]) hu)
  exact Good.bM hs ⟨r,dW h1,h2⟩
 ·rename_i f ys
  rw[aac] at he
  obtain⟨cs,hcs,he⟩:=he
  cases he
  refine Good.bM hs ⟨.func (.func f) ⟨[]⟩ ⟨ys.map ρ⟩,?_,⟨_,rfl,BH hcs fun y v hy hv=>hr y v (by simp[Op.operands];simpa using hy) hv⟩,rfl⟩
  simp[execOp,Instr.makeFunc]
 ·rename_i f y
  rw[aac] at he
  obtain⟨cs,hcs,he⟩:=he
  cases he
  refine Good.bM hs ⟨.func (.func f) ⟨[y].map ρ⟩ ⟨[]⟩,?_,⟨_,rfl,BH hcs fun y v hy hv=>hr y v (by simp[Op.operands];simpa using hy) hv⟩,rfl⟩
  simp[execOp,Instr.makeFunc]
 ·cases he
end
def bG:List Bool→Bool→Bool
 |[],b=>b
 |c::cs,b=>c&&bG cs b
def qL (ops:List Oper) (s:S) (j:Nat):Option (List Bool×Bool):=
 match(ops[j]?).bind (·.dst) with
 |some d=>
  match get s.env d with
  |some v=>
   match strip v with
   |(.c (.d (.v (.bool b))),bs)=>some (bs,b)
   |_=>none
  |none=>none
 |none=>none
def kJ (s:S):List Operand→List Prop
 |[]=>[]
 |o::l=>(match ev s o with|some v=>(strip v).2.map (· =true)|none=>[])++kJ s l
def yZ (b:Bool) (x y:AV):Option Out:=
 match strip x,strip y with
 |(.c (.d (.v (.bool p))),ps),(.c (.d (.v (.bool q))),qs)=>some ⟨B (bif b then p else q),[],[b=true→bG ps true=true,b=false→bG qs true=true]⟩
 |_,_=>none
def step1 (P:Program) (wr:Bool) (ops:List Oper) (o:Oper) (s:S):Option (S×List Prop):=
 match o.guard with
 |none=>
  match o.op with
  | .pick c a b=>
    match ev s c,ev s a,ev s b with
    |some (.c (.d (.v (.bool t)))),some u,some v=>
     match yZ t u v with
     |some out=>some (⟨s.n,dB s.env o.dst out.v,s.st⟩,out.obl)
     |none=>none
    |_,_,_=>none
  |op=>
   match eff P wr op (o.dst.getD 0) (ev s) (get s.st) with
   |some out=>some (⟨s.n,dB s.env o.dst out.v,ah s.st out.upd⟩,out.obl)
   |none=>none
 |some (j,want)=>
  match qL ops s j with
  |none=>none
  |some (bs,b)=>
   match o.op with
   | .pick c a b'=>
     match evs s c,ev s a,ev s b' with
     |some (.c (.d (.v (.bool t)))),some u,some v=>
      match yZ t u v with
      |some out=>some (⟨s.n,dB s.env o.dst (.cond (bG bs (if want then b else !b)) out.v),s.st⟩,[bG bs (if want then b else !b)=true→All (kJ s [c]++out.obl)])
      |none=>none
     |_,_,_=>none
   |op=>
    match eff P wr op (o.dst.getD 0) (evs s) (get s.st) with
    |some ⟨v,[],obl⟩=>some (⟨s.n,dB s.env o.dst (.cond (bG bs (if want then b else !b)) v),s.st⟩,[bG bs (if want then b else !b)=true→All (kJ s op.operands.toList++obl)])
    |some ⟨v,u::us,obl⟩=>some (⟨s.n,dB s.env o.dst v,ah s.st (u::us)⟩,(bG bs (if want then b else !b)=true)::(kJ s op.operands.toList++obl))
    |none=>none
section
variable {P:Program} {x:X}
variable [Dr]
omit [Dr] in
theorem dH {k:K}:∀{v:AV} {u:Value},af k v u→(bG (strip v).2 true=true→af k (strip v).1 u)∧(bG (strip v).2 true=false→u=undef)
 | .c y,u,h=>⟨fun _=>h,fun h'=>by simp[strip,bG] at h'⟩
 | .agg cs,u,h=>⟨fun _=>h,fun h'=>by simp[strip,bG] at h'⟩
 | .tup vs,u,h=>⟨fun _=>h,fun h'=>by simp[strip,bG] at h'⟩
 | .cond b y,u,h=>by
   cases b with
   |false=>exact⟨fun h'=>by simp[strip,bG] at h',fun _=>h.2 rfl⟩
   |true=>
    have:=dH (h.1 rfl)
    simpa[strip,bG] using this
omit [Dr] in
theorem gG {k:K} {z u:Value} (h:af k (.c (.d (.v z))) u):u=z:=by
 have h':aS k.M k.w (.v z) u:=h
 cases h';rfl
omit [Dr] in
theorem bJ {s:S} {k:K} {a:Act} (he:gB k s.env a.tmps) {y:Operand} {v:AV} (h:ev s y=some v):af k v (a.eval y):=by
 cases y with
 |tmp t=>
  obtain⟨u,hu,hr⟩:=he t v h
  simp only[Act.eval,aaF,hu,Option.getD_some]
  exact hr
 |const c=>
  simp only[ev] at h
  split at h
  ·cases h;rename_i h1;exact .v _ h1
  ·cases h
 |global g=>cases h
 |func f=>cases h;exact .v _ rfl
omit [Dr] in
theorem nI {s:S}:∀{l:List Operand},All (kJ s l)→∀y∈l,∀v,ev s y=some v→bG (strip v).2 true=true
 |[],_,y,hy,_,_=>by simp at hy
 |o::l,h,y,hy,v,hv=>by
  have split:∀(a b:List Prop),All (a++b)→All a∧All b:=by
   intro a b h
   induction a with
   |nil=>exact⟨trivial,h⟩
   |cons p a ih=>exact⟨⟨h.1,(ih h.2).1⟩,(ih h.2).2⟩
  obtain⟨h1,h2⟩:=split _ _ h
  rcases Z9.1 hy with rfl|hy
  ·rw[hv] at h1
   simp only at h1
   generalize (strip v).2=bs at h1
   induction bs with
   |nil=>rfl
   |cons b bs ih=>simp only[aax,All] at h1;simp[bG,h1.1,ih h1.2]
  ·exact nI h2 y hy v hv
omit [Dr] in
theorem kZ {bs:List Bool} {b:Bool}:bG bs b=true↔bG bs true=true∧b=true:=by
 induction bs with
 |nil=>simp[bG]
 |cons c cs ih=>simp[bG,ih,and_assoc]
omit [Dr] in
theorem All.append {a b:List Prop} (h:All (a++b)):All a∧All b:=by
 induction a with
 |nil=>exact⟨trivial,h⟩
 |cons p a ih=>exact⟨⟨h.1,(ih h.2).1⟩,(ih h.2).2⟩
theorem Sat.NC {s:S} {a:Act} {w:World} {bl:Nat→List Nat} {cap:Nat→Nat} {o:Oper} {out:Out} {r:Result Next}
 (he:gB (mkK x bl cap s.st w) s.env a.tmps) (hd:jf x (mkK x bl cap s.st w) a.defers) (hn:a.tmps.size=s.n) (hdst:∀i,o.dst=some i→i<s.n) (h:Good x bl cap s.st w out r):
 ∃u w',(r= .ok (.value u) w'∨(r= .ok .skip w'∧u=undef))∧Sat x ⟨s.n,dB s.env o.dst out.v,ah s.st out.upd⟩ (a.put o.dst u) w':=by
 obtain⟨bl',cap',w',u,h1,h2,h3,h4⟩:=h
 exact⟨u,w',h1,bl',cap',h2,(he.le h3).dB (fun i hi=>by rw[hn];exact hdst i hi) h4,by rw[Act.put_defers];exact hd.le h3,by rw[Act.bK];exact hn⟩
theorem H9 {wr:Bool} {ops:List Oper} {o:Oper} {s s':S} {obl:List Prop} (h:step1 P wr ops o s=some (s',obl)) (ho:All obl) (hdst:∀i,o.dst=some i→i<s.n)
 {a:Act} {w:World} (hsat:Sat x s a w) {K:Act→World→Prop} {Q:Exit→Act→World→Prop} (hK:∀a w,Sat x s' a w→K a w):
 if Region.wanted o (yielded ops.toArray a.tmps) then o.wp P a w K Q else K (a.put o.dst undef) w:=by
 obtain⟨bl,cap,hs,he,hd,hn⟩:=hsat
 have fin:∀{out:Out} {s'':S},s''=⟨s.n,dB s.env o.dst out.v,ah s.st out.upd⟩→(∀a w,Sat x s'' a w→K a w)→Good x bl cap s.st w out ((execOp a.eval o).run P w)→o.wp P a w K Q:=by
  intro out s'' e hK' hg
  obtain⟨u,w',h1,h2⟩:=Sat.NC he hd hn hdst hg
  unfold Oper.wp
  rcases h1 with h1|⟨h1,rfl⟩
  ·rw[h1];exact hK' _ _ (by rw[e];exact h2)
  ·rw[h1];exact hK' _ _ (by rw[e];exact h2)
 unfold step1 at h
 split at h
 ·-- no guard
  rename_i hg
  rw[if_pos (by simp[Region.wanted,hg])]
  split at h
  ·-- pick
   rename_i c y z hop
   split at h
   ·rename_i t u v h1 h2 h3
    split at h
    ·rename_i out hp
     cases h
     have r1:=bJ he h1
     have r2:=dH (bJ he h2)
     have r3:=dH (bJ he h3)
     unfold yZ at hp
     split at hp
     ·rename_i p ps q qs e1 e2
      cases hp
      simp only[All] at ho
      rw[e1] at r2;rw[e2] at r3
      simp only at r2 r3
      refine fin (out:=⟨_,[],[]⟩) rfl hK ?_
      refine Good.pure (out:=⟨B (bif t then p else q),[],[]⟩) hs rfl (u:= .bool (bif t then p else q)) (aS.v (Value.bool (bif t then p else q)) rfl) ?_
      have hc:a.eval c= .bool t:=gG r1
      simp only[execOp,hop,hc,asBool]
      cases t with
      |true=>
       have:=r2.1 (ho.1 rfl)
       have hy:a.eval y= .bool p:=gG this
       simp[hy]
      |false=>
       have:=r3.1 (ho.2.1 rfl)
       have hy:a.eval z= .bool q:=gG this
       simp[hy]
     ·cases hp
    ·cases h
   ·cases h
  ·rename_i hnp
   split at h
   ·rename_i out heff
    cases h
    exact fin rfl hK (Gh hs heff ho fun y v _ hv=>bJ he hv)
   ·cases h
 ·rename_i j want hg
  split at h
  ·cases h
  rename_i bs b hgv
  have hy:(bG bs true=true→yielded ops.toArray a.tmps j=some b)∧(bG bs true=false→yielded ops.toArray a.tmps j=none):=by
   unfold qL at hgv
   split at hgv
   ·rename_i d hj
    split at hgv
    ·rename_i v hv
     split at hgv
     ·rename_i b' bs' hst
      cases hgv
      obtain⟨u,hu,hr⟩:=he d v hv
      have:=dH hr
      rw[hst] at this
      have e:((ops.toArray[j]?).bind (·.dst)).bind (a.tmps[·]?)=some u:=by rw[abj,hj];exact hu
      constructor
      ·intro h1
       have h2:=this.1 h1
       have:u= .bool b:=gG h2
       simp only[yielded,e,this]
      ·intro h1
       have h2:=this.2 h1
       simp only[yielded,e,h2,undef]
     ·cases hgv
    ·cases hgv
   ·cases hgv
  have hwant:Region.wanted o (yielded ops.toArray a.tmps)=bG bs (if want then b else !b):=by
   simp only[Region.wanted,hg]
   cases hc:bG bs true with
   |false=>
    rw[hy.2 hc]
    have:bG bs (if want then b else !b)=false:=by
     cases hh:bG bs (if want then b else !b) with
     |false=>rfl
     |true=>rw[(kZ.1 hh).1] at hc;cases hc
    rw[this];rfl
   |true=>
    rw[hy.1 hc]
    have:bG bs (if want then b else !b)=(if want then b else !b):=by
     rw[abk,kZ];simp[hc]
    rw[this]
    cases want<;>cases b<;>rfl
  rw[hwant]
  have skip:∀{v:AV},bG bs (if want then b else !b)=false→Sat x ⟨s.n,dB s.env o.dst (.cond (bG bs (if want then b else !b)) v),s.st⟩ (a.put o.dst undef) w:=by
   intro v hf
   exact⟨bl,cap,hs,he.dB (fun i hi=>by rw[hn];exact hdst i hi) (And.intro (fun h'=>by rw[hf] at h';cases h') (fun _=>rfl)),by rw[Act.put_defers];exact hd,by rw[Act.bK];exact hn⟩
  have wrap:∀{v:AV} {r:Result Next},bG bs (if want then b else !b)=true→Good x bl cap s.st w ⟨v,[],[]⟩ r→Good x bl cap s.st w ⟨.cond (bG bs (if want then b else !b)) v,[],[]⟩ r:=by
   intro v r ht ⟨bl',cap',w',u,h1,h2,h3,h4⟩
   exact⟨bl',cap',w',u,h1,h2,h3,fun _=>h4,fun h'=>by rw[ht] at h';cases h'⟩
  split at h
  ·-- pick
   rename_i c y z hop
   split at h
   ·rename_i t u v h1 h2 h3
    split at h
    ·rename_i out hp
     cases h
     simp only[All] at ho
     cases hG:bG bs (if want then b else !b) with
     |false=>rw[if_neg (by simp)];have:=skip (v:=out.v) hG;rw[hG] at this;rw[hG] at hK;exact hK _ _ this
     |true=>
      rw[if_pos rfl]
      obtain⟨ho1,ho2⟩:=All.append (ho.1 hG)
      simp only[evs,aap] at h1
      obtain⟨vc,hvc,hsc⟩:=h1
      have r1:=(dH (bJ he hvc)).1 (nI ho1 c (by simp) vc hvc)
      rw[hsc] at r1
      have r2:=dH (bJ he h2)
      have r3:=dH (bJ he h3)
      unfold yZ at hp
      split at hp
      ·rename_i p ps q qs e1 e2
       cases hp
       simp only[All] at ho2
       rw[e1] at r2;rw[e2] at r3
       simp only at r2 r3
       refine fin (out:=⟨_,[],[]⟩) rfl hK (wrap hG ?_)
       refine Good.pure (out:=⟨B (bif t then p else q),[],[]⟩) hs rfl (u:= .bool (bif t then p else q)) (aS.v (Value.bool (bif t then p else q)) rfl) ?_
       have hc:a.eval c= .bool t:=gG r1
       simp only[execOp,hop,hc,asBool]
       cases t with
       |true=>
        have:=r2.1 (ho2.1 rfl)
        have hy:a.eval y= .bool p:=gG this
        simp[hy]
       |false=>
        have:=r3.1 (ho2.2.1 rfl)
        have hy:a.eval z= .bool q:=gG this
        simp[hy]
      ·cases hp
    ·cases h
   ·cases h
  ·rename_i hnp
   split at h
   ·rename_i v obl' heff
    cases h
    simp only[All] at ho
    cases hG:bG bs (if want then b else !b) with
    |false=>rw[if_neg (by simp)];have:=skip (v:=v) hG;rw[hG] at this;rw[hG] at hK;exact hK _ _ this
    |true=>
     rw[if_pos rfl]
     obtain⟨ho1,ho2⟩:=All.append (ho.1 hG)
     refine fin (out:=⟨_,[],[]⟩) rfl hK (wrap hG ?_)
     have hgood:=Gh hs heff ho2 (ρ:=a.eval) fun y v' hy hv=>by
      simp only[evs,aap] at hv
      obtain⟨vy,hvy,rfl⟩:=hv
      exact(dH (bJ he hvy)).1 (nI ho1 y (by simpa using hy) vy hvy)
     exact hgood
   ·rename_i v u us obl' heff
    cases h
    obtain⟨hG,ho3⟩:=ho
    obtain⟨ho1,ho2⟩:=All.append ho3
    rw[if_pos hG]
    refine fin (out:=⟨_,_,_⟩) rfl hK (Gh hs heff ho2 (ρ:=a.eval) fun y v' hy hv=>?_)
    simp only[evs,aap] at hv
    obtain⟨vy,hvy,rfl⟩:=hv
    exact(dH (bJ he hvy)).1 (nI ho1 y (by simpa using hy) vy hvy)
   ·cases h
end
end Go.Ab
namespace Go.Ab
variable [Dr]
def Aq (x:X) (Q:Exit→S→Prop):Exit→Act→World→Prop:=fun e a w=>∃s,Q e s∧Sat x s a w
def TO (P:Program) (x:X) (ops l:List Oper) (s:S) (Q:Exit→S→Prop):Prop:=∀a w,Sat x s a w→wpList P ops.toArray (Aq x Q) l a w
def T (P:Program) (x:X) (c:Code) (s:S) (Q:Exit→S→Prop):Prop:=∀a w,Sat x s a w→c.wp P (Aq x Q) a w
def Then (N:S→Prop) (Q:Exit→S→Prop):Exit→S→Prop
 | .normal,s=>N s
 |e,s=>Q e s
def VY (id:Nat) (Q:Exit→S→Prop):Exit→S→Prop
 | .exit j,s=>if j=id then Q .normal s else Q (.exit j) s
 |e,s=>Q e s
def mZ (x:X) (s s':S):Prop:=∀a w,Sat x s a w→Sat x s' a w
def jP (o:Oper) (n:Nat):Bool:=
 match o.dst with
 |some i=>decide (i<n)
 |none=>true
def run (P:Program) (wr:Bool) (ops:List Oper):Nat→List Oper→S→List Prop→Option (S×List Prop×List Oper)
 |0,l,s,ps=>some (s,ps,l)
 |_+1,[],s,ps=>some (s,ps,[])
 |n+1,o::l,s,ps=>
  if jP o s.n then
   match step1 P wr ops o s with
   |some (s',qs)=>run P wr ops n l s' (ps++qs)
   |none=>some (s,ps,o::l)
  else none
section
variable {P:Program} {x:X} {Q:Exit→S→Prop} {s s':S}
theorem QI {ops:List Oper} (h:Q .normal s):TO P x ops [] s Q:=fun _ _ hs=>⟨s,h,hs⟩
theorem NQ {wr:Bool} {ops l:List Oper} {o:Oper} {obl:List Prop} (hd:jP o s.n=true) (h:step1 P wr ops o s=some (s',obl)) (ho:All obl) (hk:TO P x ops l s' Q):
 TO P x ops (o::l) s Q:=by
 intro a w hs
 refine wpList_step fun K hK=>H9 h ho ?_ hs fun a w hs'=>hK a w (hk a w hs')
 intro i hi
 simpa[jP,hi] using hd
theorem yT {wr:Bool} {ops:List Oper}:∀{n:Nat} {l l':List Oper} {s s':S} {ps ps':List Prop},run P wr ops n l s ps=some (s',ps',l')→
 ∃qs,ps'=ps++qs∧(All qs→TO P x ops l' s' Q→TO P x ops l s Q)
 |0,l,l',s,s',ps,ps',h=>by cases h;exact⟨[],by simp,fun _ h=>h⟩
 |n+1,[],l',s,s',ps,ps',h=>by cases h;exact⟨[],by simp,fun _ h=>h⟩
 |n+1,o::l,l',s,s',ps,ps',h=>by
  simp only[run] at h
  split at h
  ·rename_i hd
   split at h
   ·rename_i s1 qs hst
    obtain⟨rs,e,hk⟩:=yT h
    refine⟨qs++rs,by rw[e];simp,fun ha hto=>?_⟩
    obtain⟨h1,h2⟩:=All.append ha
    exact NQ hd hst h1 (hk h2 hto)
   ·cases h;exact⟨[],by simp,fun _ h=>h⟩
  ·cases h
def OJ (P:Program) (wr:Bool) (ops:List Oper) (n:Nat) (l:List Oper) (s:S):Option (S×List Prop×List Oper):=
 match l with
 |[]=>none
 |o::l=>
  if jP o s.n then
   match step1 P wr ops o s with
   |some (s',qs)=>run P wr ops n l s' qs
   |none=>none
  else none
theorem bu {wr:Bool} {ops l l':List Oper} (n:Nat) {ps:List Prop} (h:OJ P wr ops n l s=some (s',ps,l')) (ho:All ps) (hk:TO P x ops l' s' Q):TO P x ops l s Q:=by
 unfold OJ at h
 split at h
 ·cases h
 ·split at h
  ·rename_i hd
   split at h
   ·rename_i s1 qs hst
    obtain⟨rs,e,hk'⟩:=yT (x:=x) (Q:=Q) h
    subst e
    obtain⟨h1,h2⟩:=All.append ho
    exact NQ hd hst h1 (hk' h2 hk)
   ·cases h
  ·cases h
theorem Jg {id:Nat} {l:List Oper} (h:TO P x l l s Q):T P x (.region id l.toArray false) s Q:=fun a w hs=>wp_region_lit (h a w hs)
theorem lY {c:Code} (he:mZ x s s') (h:T P x c s' Q):T P x c s Q:=fun a w hs=>h a w (he a w hs)
theorem dm {ops l:List Oper} (he:mZ x s s') (h:TO P x ops l s' Q):TO P x ops l s Q:=fun a w hs=>h a w (he a w hs)
theorem mZ.refl (x:X) (s:S):mZ x s s:=fun _ _ h=>h
theorem mZ.trans {x:X} {s s' s'':S} (h:mZ x s s') (h':mZ x s' s''):mZ x s s'':=fun a w hs=>h' a w (h a w hs)
theorem Qn {c:Code} {Q':Exit→S→Prop} (h:T P x c s Q) (hq:∀e s,Q e s→Q' e s):T P x c s Q':=
 fun a w hs=>wp_mono (h a w hs) fun _ _ _ ⟨s,hQ,hs⟩=>⟨s,hq _ _ hQ,hs⟩
theorem Kr (h:Q .normal s):T P x .skip s Q:=fun _ _ hs=>wp_skip ⟨s,h,hs⟩
theorem We (h:Q .ret s):T P x .ret s Q:=fun _ _ hs=>wp_ret ⟨s,h,hs⟩
theorem Qe {id:Nat} (h:Q (.exit id) s):T P x (.exit id) s Q:=fun _ _ hs=>wp_exit ⟨s,h,hs⟩
theorem LX {c d:Code} (h:T P x c s (Then (fun s'=>T P x d s' Q) Q)):T P x (.seq c d) s Q:=fun a w hs=>
 wp_seq (wp_mono (h a w hs) fun e a w ⟨s,hQ,hs⟩=>by
  cases e with
  |normal=>exact hQ a w hs
  |_=>exact⟨s,hQ,hs⟩)
theorem zO {id:Nat} {c:Code} (h:T P x c s (VY id Q)):T P x (.block id c) s Q:=fun a w hs=>
 wp_block (wp_mono (h a w hs) fun e a w ⟨s,hQ,hs⟩=>by
  cases e with
  |exit j=>
   simp only[Exit.inBlock,VY] at*
   split
   ·rename_i e;rw[if_pos e] at hQ;exact⟨s,hQ,hs⟩
   ·rename_i e;rw[if_neg e] at hQ;exact⟨s,hQ,hs⟩
  |_=>exact⟨s,hQ,hs⟩)
theorem xJ {c:Operand} {d d':Code} {b:Bool} (hc:ev s c=some (B b)) (h1:b=true→T P x d s Q) (h2:b=false→T P x d' s Q):T P x (.cond c d d') s Q:=fun a w hs=>by
 have hb:a.eval c= .bool b:=by
  obtain⟨bl,cap,_,he,_⟩:=hs
  exact gG (bJ he hc)
 exact wp_cond_split hb (fun h=>h1 h a w hs) (fun h=>h2 h a w hs)
omit [Dr] in
theorem yA {N:S→Prop} (h:N s):Then N Q .normal s:=h
omit [Dr] in
theorem PG {N:S→Prop} {id:Nat} (h:Q (.exit id) s):Then N Q (.exit id) s:=h
omit [Dr] in
theorem P9 {N:S→Prop} (h:Q .ret s):Then N Q .ret s:=h
omit [Dr] in
theorem IV {id:Nat} (h:Q .normal s):VY id Q (.exit id) s:=by simp only[VY,if_true];exact h
omit [Dr] in
theorem Eo {id j:Nat} (hj:j≠id) (h:Q (.exit j) s):VY id Q (.exit j) s:=by simp only[VY,hj,if_false];exact h
omit [Dr] in
theorem LU {id:Nat} (h:Q .normal s):VY id Q .normal s:=h
omit [Dr] in
theorem UJ {id:Nat} (h:Q .ret s):VY id Q .ret s:=h
theorem aW {c:Code} {ι:Type} (I:ι→S) (Inv:ι→Prop) (μ:ι→Nat) (i₀:ι) (hi₀:Inv i₀) (h₀:mZ x s (I i₀))
 (round:∀i,Inv i→T P x c (I i) (Then (fun s'=>∃j,Inv j∧μ j<μ i∧mZ x s' (I j)) Q)):T P x (.loop c) s Q:=fun a w hs=>by
 refine wp_loop_ghost (fun n a w=>∃i,Inv i∧μ i=n∧Sat x (I i) a w) (μ i₀) ⟨i₀,hi₀,rfl,h₀ a w hs⟩ ?_
 rintro n a w ⟨i,hi,rfl,hsat⟩
 refine wp_mono (round i hi a w hsat) ?_
 rintro e a w ⟨s,hQ,hs⟩
 cases e with
 |normal=>obtain⟨j,hj,hlt,he⟩:=hQ;exact⟨μ j,hlt,j,hj,rfl,he a w hs⟩
 |_=>exact⟨s,hQ,hs⟩
end
def FW (ρ:Nat→Nat):Cap→Cap
 | .ptr id off=> .ptr (ρ id) off
 | .pp cs=> .pp cs
 | .d x=> .d x
def bP (ρ:Nat→Nat):C→C
 | .d x=> .d x
 | .ptr id off=> .ptr (ρ id) off
 | .ep id sz i off=> .ep (ρ id) sz i off
 | .ms id sz off len=> .ms (ρ id) sz off len
 | .mp id=> .mp (ρ id)
 | .pp cs=> .pp cs
 | .fn f caps=> .fn f (caps.map (FW ρ))
 | .fb f caps=> .fb f (caps.map (FW ρ))
 | .mv id sz off len=> .mv (ρ id) sz off len
def wo (ρ:Nat→Nat) (p:Bool×List C):Bool×List C:=(p.1,p.2.map (bP ρ))
def bF (ρ:Nat→Nat):AV→AV
 | .c x=> .c (bP ρ x)
 | .agg cs=> .agg (cs.map (bP ρ))
 | .tup vs=> .tup (vs.map (wo ρ))
 | .cond b x=> .cond b (bF ρ x)
def aX (ρ:Nat→Nat):AO→AO
 | .box cs=> .box (cs.map (bP ρ))
 | .arr sz xs=> .arr sz (xs.map fun l=>l.map (bP ρ))
 | .map es=> .map (es.map fun e=>(wo ρ e.1,wo ρ e.2))
 | .mapx es j β=> .mapx (es.map fun e=>(wo ρ e.1,wo ρ e.2)) j β
 | .pool sz ps=> .pool sz ps
 | .iter c l=> .iter c l
 | .loop l D env r=> .loop l D (env.map fun p=>(p.1,bF ρ p.2)) r
 | .dead=> .dead
omit [Dr] in
@[simp] theorem KJ (ρ:Nat→Nat) (l:List D):(l.map C.d).map (bP ρ)=l.map C.d:=by
 simp[bP]
def aK (dom:Nat→Bool):Cap→Prop
 | .ptr id _=>dom id=true
 |_=>True
def ak (dom:Nat→Bool):List Cap→Prop
 |[]=>True
 |c::cs=>aK dom c∧ak dom cs
def bi (dom:Nat→Bool):C→Prop
 | .ptr id _| .ep id _ _ _| .ms id _ _ _| .mp id| .mv id _ _ _=>dom id=true
 | .fn _ caps=>ak dom caps
 | .fb _ caps=>ak dom caps
 |_=>True
def ax (dom:Nat→Bool):List C→Prop
 |[]=>True
 |c::cs=>bi dom c∧ax dom cs
def bC (dom:Nat→Bool):List (Bool×List C)→Prop
 |[]=>True
 |p::ps=>ax dom p.2∧bC dom ps
def aA (dom:Nat→Bool):AV→Prop
 | .c x=>bi dom x
 | .agg cs=>ax dom cs
 | .tup vs=>bC dom vs
 | .cond _ x=>aA dom x
def bz (dom:Nat→Bool):List (Nat×AV)→Prop
 |[]=>True
 |p::ps=>aA dom p.2∧bz dom ps
omit [Dr] in
theorem Ea {dom:Nat→Bool} {i:Nat} {v:AV}:∀{env:List (Nat×AV)},bz dom env→get env i=some v→aA dom v
 |[],_,h=>by cases h
 |p::ps,hc,h=>by
  simp only[get] at h
  split at h
  ·cases h;exact hc.1
  ·exact Ea hc.2 h
omit [Dr] in
theorem NP {α β:Type} (f:α→β) {i:Nat}:∀{l:List (Nat×α)} {v:α},get l i=some v→get (l.map fun p=>(p.1,f p.2)) i=some (f v)
 |[],_,h=>by cases h
 |p::ps,v,h=>by
  simp only[get,aax] at h⊢
  split at h
  ·rename_i e;rw[if_pos e];cases h;rfl
  ·rename_i e;rw[if_neg e];exact NP f h
def aN (dom:Nat→Bool):AO→Prop
 | .box cs=>ax dom cs
 | .arr _ xs=>ax dom xs.flatten
 | .map es=>bC dom (es.map (·.1))∧bC dom (es.map (·.2))
 | .mapx es _ _=>bC dom (es.map (·.1))∧bC dom (es.map (·.2))
 | .loop _ _ env _=>bz dom env
 |_=>True
omit [Dr] in
@[simp] theorem FZ (dom:Nat→Bool) (l:List D):ax dom (l.map C.d)=True:=by
 induction l with
 |nil=>simp[ax]
 |cons x l ih=>simp[ax,bi,ih]
omit [Dr] in
theorem au {dom:Nat→Bool} {a b:List C}:ax dom (a++b)↔ax dom a∧ax dom b:=by
 induction a with
 |nil=>simp[ax]
 |cons x l ih=>simp[ax,ih,and_assoc]
omit [Dr] in
theorem get_mem {α:Type} {l:List (Nat×α)} {i:Nat} {v:α} (h:get l i=some v):(i,v)∈l:=by
 induction l with
 |nil=>cases h
 |cons p l ih=>
  obtain⟨j,y⟩:=p
  simp only[get] at h
  split at h
  ·rename_i e;cases h;subst e;simp
  ·exact abb _ (ih h)
omit [Dr] in
theorem Cb {k k':K} {ρ:Nat→Nat} {dom:Nat→Bool} (hd:∀id,dom id=true→k'.dom id) (hb:∀id,dom id=true→k'.bl id=k.bl (ρ id))
 (hc:∀id,dom id=true→k'.cap id=k.cap (ρ id)) (hw:k'.w=k.w) (hM:∀b,k'.M b→k.M b) {c:C} {v:Value} (hcl:bi dom c) (h:ai k (bP ρ c) v):ai k' c v:=by
 have stab:∀{y:D} {u:Value},aS k.M k.w y u→aS k'.M k'.w y u:=fun h=>h.stable (fun b _ _=>by rw[hw]) fun b hb=> .inl (hM b hb)
 cases c with
 |d y=>exact stab h
 |ptr id off=>obtain⟨_,b,e,rfl⟩:=h;exact⟨hd id hcl,b,by rw[hb id hcl];exact e,rfl⟩
 |ep id sz i off=>obtain⟨_,b,e,rfl⟩:=h;exact⟨hd id hcl,b,by rw[hb id hcl];exact e,rfl⟩
 |ms id sz off len=>obtain⟨_,h⟩:=h;refine⟨hd id hcl,?_⟩;rw[hc id hcl,hb id hcl];exact h
 |mp id=>obtain⟨_,b,bs,e,rfl⟩:=h;exact⟨hd id hcl,b,bs,by rw[hb id hcl];exact e,rfl⟩
 |mv id sz off len=>obtain⟨_,h⟩:=h;refine⟨hd id hcl,?_⟩;rw[hc id hcl,hb id hcl];exact h
 |pp cs=>
  obtain⟨b,o,e,hm,hlt,h⟩:=h
  exact⟨b,o,e,fun h'=>hm (hM b h'),by rw[hw];exact hlt,fun j y hj=>let⟨u,hu,hr⟩:=h j y hj;⟨u,by rw[hw];exact hu,stab hr⟩⟩
 |fn f caps=>
  obtain⟨vs,e,h⟩:=h
  refine⟨vs,e,?_⟩
  have hcl':ak dom caps:=hcl
  clear e hcl
  induction caps generalizing vs with
  |nil=>cases h;exact .nil
  |cons c caps ih=>
   cases h with
   |cons h1 h2=>
    refine .cons ?_ (ih _ h2 hcl'.2)
    have hc1:=hcl'.1
    cases c with
    |d y=>exact stab h1
    |ptr id off=>obtain⟨_,b,e,rfl⟩:=h1;exact⟨hd id hc1,b,by rw[hb id hc1];exact e,rfl⟩
    |pp cs=>
     obtain⟨b,o,e,hm,hlt,h⟩:=h1
     exact⟨b,o,e,fun h'=>hm (hM b h'),by rw[hw];exact hlt,fun j y hj=>let⟨u,hu,hr⟩:=h j y hj;⟨u,by rw[hw];exact hu,stab hr⟩⟩
 |fb f caps=>
  obtain⟨vs,e,h⟩:=h
  refine⟨vs,e,?_⟩
  have hcl':ak dom caps:=hcl
  clear e hcl
  induction caps generalizing vs with
  |nil=>cases h;exact .nil
  |cons c caps ih=>
   cases h with
   |cons h1 h2=>
    refine .cons ?_ (ih _ h2 hcl'.2)
    have hc1:=hcl'.1
    cases c with
    |d y=>exact stab h1
    |ptr id off=>obtain⟨_,b,e,rfl⟩:=h1;exact⟨hd id hc1,b,by rw[hb id hc1];exact e,rfl⟩
    |pp cs=>
     obtain⟨b,o,e,hm,hlt,h⟩:=h1
     exact⟨b,o,e,fun h'=>hm (hM b h'),by rw[hw];exact hlt,fun j y hj=>let⟨u,hu,hr⟩:=h j y hj;⟨u,by rw[hw];exact hu,stab hr⟩⟩
omit [Dr] in
theorem lh {k k':K} {ρ:Nat→Nat} {dom:Nat→Bool} (hR:∀c v,bi dom c→ai k (bP ρ c) v→ai k' c v):∀{cs:List C} {vs:List Value},ax dom cs→
 aj (ai k) (cs.map (bP ρ)) vs→aj (ai k') cs vs
 |[],_,_,h=>by cases h;exact .nil
 |c::cs,_,hcl,h=>by cases h with|cons h t=>exact .cons (hR _ _ hcl.1 h) (lh hR hcl.2 t)
omit [Dr] in
theorem qB {k k':K} {ρ:Nat→Nat} {dom:Nat→Bool} (hR:∀c v,bi dom c→ai k (bP ρ c) v→ai k' c v) {p:Bool×List C} {v:Value} (hcl:ax dom p.2)
 (h:dC (ai k) (wo ρ p) v):dC (ai k') p v:=by
 obtain⟨f,cs⟩:=p
 cases f with
 |true=>
  obtain⟨vs,e,h⟩:=(show ∃vs:List Value,v= .agg vs.toArray∧aj (ai k) (cs.map (bP ρ)) vs from h)
  exact(show dC (ai k') (true,cs) v from⟨vs,e,lh hR hcl h⟩)
 |false=>
  obtain⟨⟨y,e,h⟩,hn⟩:=(show(∃y,cs.map (bP ρ)=[y]∧ai k y v)∧∀cs,v≠ .agg cs from h)
  match cs,e,hcl with
  |[c],e,hcl=>simp at e;subst e;exact(show dC (ai k') (false,[c]) v from⟨⟨c,rfl,hR _ _ hcl.1 h⟩,hn⟩)
omit [Dr] in
theorem EH {k k':K} {ρ:Nat→Nat} {dom:Nat→Bool} (hR:∀c v,bi dom c→ai k (bP ρ c) v→ai k' c v):∀{ps:List (Bool×List C)} {vs:List Value},bC dom ps→
 aj (dC (ai k)) (ps.map (wo ρ)) vs→aj (dC (ai k')) ps vs
 |[],_,_,h=>by cases h;exact .nil
 |c::cs,_,hcl,h=>by cases h with|cons h t=>exact .cons (qB hR hcl.1 h) (EH hR hcl.2 t)
omit [Dr] in
theorem ik {k k':K} {ρ:Nat→Nat} {dom:Nat→Bool} (hR:∀c v,bi dom c→ai k (bP ρ c) v→ai k' c v):∀{a:AV} {v:Value},aA dom a→af k (bF ρ a) v→af k' a v
 | .c y,_,hcl,h=>hR _ _ hcl h
 | .agg cs,_,hcl,h=>let⟨vs,e,h⟩:=h;⟨vs,e,lh hR hcl h⟩
 | .tup ps,_,hcl,h=>let⟨vs,e,h⟩:=h;⟨vs,e,EH hR hcl h⟩
 | .cond b y,_,hcl,h=>⟨fun hb=>ik hR hcl (h.1 hb),h.2⟩
omit [Dr] in
theorem xC {k k':K} {ρ:Nat→Nat} {dom:Nat→Bool} (hR:∀c v,bi dom c→ai k (bP ρ c) v→ai k' c v) (hw:k'.w=k.w) (hM:∀b,k'.M b→k.M b) {id:Nat}
 (hb:k'.bl id=k.bl (ρ id)) (hc:k'.cap id=k.cap (ρ id)) {o:AO} (hcl:aN dom o) (h:BG k (ρ id) (aX ρ o)):BG k' id o:=by
 have stab:∀{y:D} {u:Value},aS k.M k.w y u→aS k'.M k'.w y u:=fun h=>h.stable (fun b _ _=>by rw[hw]) fun b hb=> .inl (hM b hb)
 cases o with
 |box cs=>
  obtain⟨b,T,vs,h1,h2,h3⟩:=h
  exact⟨b,T,vs,by rw[hb,h1],by rw[hw];exact h2,lh hR hcl h3⟩
 |arr sz xs=>
  obtain⟨h0,h1,hsz,h2⟩:=h
  refine⟨by rw[hc];simpa using h0,fun y hy=>by have:=h1 (y.map (bP ρ)) (aaZ hy);simpa using this,hsz,?_⟩
  rcases h2 with⟨h2,h3⟩|⟨b,T,vs,h2,h3,h4,h5⟩
  ·exact .inl ⟨by rw[hc];exact h2,by rw[hb];exact h3⟩
  ·refine .inr ⟨b,T,vs,by rw[hb,h2],by rw[hw];exact h3,by rw[hc];exact h4,?_⟩
   have e:(xs.map fun l=>l.map (bP ρ)).flatten=xs.flatten.map (bP ρ):=by rw[List.map_flatten]
   rw[e,aai] at h5
   exact lh hR hcl h5
 |map es=>
  obtain⟨b,ents,clock,h1,h2,h3,h4⟩:=h
  refine⟨b,ents,clock,by rw[hb,h1],by rw[hw];exact h2,h3,?_⟩
  clear h1 h2 h3 hb hc
  induction es generalizing ents with
  |nil=>cases h4;exact .nil
  |cons e es ih=>
   cases h4 with
   |cons h t=>exact .cons ⟨qB hR hcl.1.1 h.1,qB hR hcl.2.1 h.2⟩ (ih ⟨hcl.1.2,hcl.2.2⟩ _ t)
 |mapx es j β=>
  obtain⟨b,ents,clock,h1,h2,h3,h4,h5⟩:=h
  refine⟨b,ents,clock,by rw[hb,h1],by rw[hw];exact h2,h3,?_,h5⟩
  clear h1 h2 h3 hb hc h5
  induction es generalizing ents with
  |nil=>cases h4;exact .nil
  |cons e es ih=>
   cases h4 with
   |cons h t=>exact .cons ⟨qB hR hcl.1.1 h.1,qB hR hcl.2.1 h.2⟩ (ih ⟨hcl.1.2,hcl.2.2⟩ _ t)
 |pool sz ps=>
  obtain⟨h0,h1,h2⟩:=h
  refine⟨h0,by rw[hb];exact h1,?_⟩
  intro i v ys hp
  obtain⟨b,cap,T,vs,a1,a2,a3,a4,a5,a6,a7,a8⟩:=h2 i v ys hp
  refine⟨b,cap,T,vs,by rw[hb];exact a1,a2,by rw[hw];exact a3,a4,a5,a6,a7,?_⟩
  exact lh (ρ:=ρ) hR (by rw[FZ];trivial) (by rw[KJ];exact a8)
 |iter cur left=>
  obtain⟨b,h1,h2⟩:=h
  refine⟨b,by rw[hb,h1],?_⟩
  rcases h2 with⟨h2,hc',since,seen,last,h3⟩|⟨mb,ents,clock,seen,h2,h3,h4,h5,h8,h9⟩
  ·exact .inl ⟨h2,hc',since,seen,last,by rw[hw];exact h3⟩
  ·exact .inr ⟨mb,ents,clock,seen,by rw[hw];exact h2,fun hm=>h3 (hM mb hm),by rw[hw];exact h4,h5,h8.mono fun _ _=>jD.mono fun _ _ h=>stab h,
    fun c hc=>let⟨e,a1,a2,a3⟩:=h9 c hc;⟨e,a1,a2,a3.mono fun _ _ h=>stab h⟩⟩
 |loop l D env r=>
  obtain⟨h1,h2,h3,h4⟩:=h
  exact⟨by rw[hb];exact h1,by rw[hw];exact h2,by rw[hw];exact h3,fun i v hv=>let⟨u,hu,hr⟩:=h4 i _ (NP (bF ρ) hv);⟨u,hu,ik hR (Ea hcl hv) hr⟩⟩
 |dead=>trivial
def ae (st:List (Nat×AO)) (id:Nat):Bool:=(get st id).isSome
structure Wq (x:X) (ρ:Nat→Nat) (st st':List (Nat×AO)):Prop where
 mem:∀p∈st',get st (ρ p.1)=some (aX ρ p.2)
 inj:(st'.map fun p=>ρ p.1).Nodup
 cl:∀p∈st',aN (ae st') p.2
 keep:∀id,x.d0 id→ae st' id=true∧ρ id=id
omit [Dr] in
theorem Wq.YA {x:X} {ρ:Nat→Nat} {st st':List (Nat×AO)} (h:Wq x ρ st st') {i j:Nat} {p q:AO} (hi:get st' i=some p) (hj:get st' j=some q) (e:ρ i=ρ j):i=j:=by
 have h1:=get_mem hi
 have h2:=get_mem hj
 have:=h.inj
 clear h hi hj
 induction st' with
 |nil=>cases h1
 |cons r st' ih=>
  simp only[aax,List.nodup_cons,aaD,not_exists,not_and] at this
  rcases Z9.1 h1 with h1|h1
  ·rcases Z9.1 h2 with h2|h2
   ·rw[←h1] at h2;cases h2;rfl
   ·exact absurd (by rw[←h1];exact e.symm) (this.1 _ h2)
  ·rcases Z9.1 h2 with h2|h2
   ·exact absurd (by rw[←h2];exact e) (this.1 _ h1)
   ·exact ih h1 h2 this.2
omit [Dr] in
theorem jo (ρ:Nat→Nat) (o:AO):(aX ρ o).bf=o.bf:=by cases o<;>rfl
theorem aP.sub {x:X} {bl:Nat→List Nat} {cap:Nat→Nat} {st st':List (Nat×AO)} {w:World} {ρ:Nat→Nat} (h:aP x bl cap st w) (hsub:Wq x ρ st st'):
 aP x (bl∘ρ) (cap∘ρ) st' w∧(∀b,(mkK x (bl∘ρ) (cap∘ρ) st' w).M b→(mkK x bl cap st w).M b)∧∀c v,bi (ae st') c→ai (mkK x bl cap st w) (bP ρ c) v→ai (mkK x (bl∘ρ) (cap∘ρ) st' w) c v:=by
 have hM:∀b,MM (bl∘ρ) st' b→MM bl st b:=by
  rintro b ⟨id,o,h1,h2,h3⟩
  exact⟨ρ id,aX ρ o,hsub.mem _ (get_mem h1),by rw[jo];exact h2,h3⟩
 have hM':∀b,(mkK x (bl∘ρ) (cap∘ρ) st' w).M b→(mkK x bl cap st w).M b:=fun b hb=>hb.imp (hM b) fun h=>h
 have hR:∀c v,bi (ae st') c→ai (mkK x bl cap st w) (bP ρ c) v→ai (mkK x (bl∘ρ) (cap∘ρ) st' w) c v:=fun c v hcl hr=>
  Cb (k:=mkK x bl cap st w) (ρ:=ρ) (k':=mkK x (bl∘ρ) (cap∘ρ) st' w) (dom:=ae st') (fun id hid=>hid) (fun id _=>rfl) (fun id _=>rfl) rfl hM' hcl hr
 refine⟨⟨?_,?_,?_,fun b hb=>h.new b (hM b hb),fun b hb=>h.lt b (hM b hb),h.fr,?_,h.xok⟩,hM',hR⟩
 ·intro id o ho
  exact xC hR rfl hM' rfl rfl (hsub.cl _ (get_mem ho)) (h.objs _ _ (hsub.mem _ (get_mem ho)))
 ·intro i j p q b hi hj hp hq hbi hbj
  exact hsub.YA hi hj (h.disj _ _ _ _ b (hsub.mem _ (get_mem hi)) (hsub.mem _ (get_mem hj)) (by rw[jo];exact hp) (by rw[jo];exact hq) hbi hbj)
 ·intro id o ho hl
  exact h.nodup _ _ (hsub.mem _ (get_mem ho)) (by rw[jo];exact hl)
 ·intro id hid
  obtain⟨h1,h2⟩:=hsub.keep id hid
  obtain⟨_,h3,h4⟩:=h.keep id hid
  exact⟨h1,by show bl (ρ id)=_;rw[h2];exact h3,by show cap (ρ id)=_;rw[h2];exact h4⟩
theorem aY {x:X} {s s':S} (ρ:Nat→Nat) (hn:s'.n=s.n) (he:∀p∈s'.env,get s.env p.1=some (bF ρ p.2)∧aA (ae s'.st) p.2) (hsub:Wq x ρ s.st s'.st):mZ x s s':=by
 rintro a w ⟨bl,cap,hs,henv,hd,hsz⟩
 obtain⟨h1,hM,h2⟩:=hs.sub hsub
 refine⟨_,_,h1,?_,hd.sub hM rfl,by rw[hn];exact hsz⟩
 intro i v hv
 obtain⟨e1,e2⟩:=he _ (get_mem hv)
 obtain⟨u,hu,hr⟩:=henv i _ e1
 exact⟨u,hu,ik h2 e2 hr⟩
end Go.Ab
namespace Go.Ab
variable [Dr]
def X.start (bl:Nat→List Nat) (cap:Nat→Nat) (F:Nat→Prop) (st:List (Nat×AO)) (w:World):X:=⟨MM bl st,w,fun id=>(get st id).isSome=true,bl,cap,F,false⟩
def JB (P:Program) (f:FuncId):Prop:=∃fn,P.funcs[f]? =some fn∧(fn.name=="runtime.NumGoroutine")=false∧fn.body.isNone=false
def AC (P:Program) (f:FuncId) (args:List AV) (st:List (Nat×AO)) (R:AV→List (Nat×AO)→Prop):Prop:=
 JB P f∧∀bl cap F w us,aP (X.start bl cap F st w) bl cap st w→aj (af (mkK (X.start bl cap F st w) bl cap st w)) args us→
  Calls P f us.toArray w fun e w'=>∃r st' bl' cap' v,e= .returned v∧R r st'∧(st'.map (·.1)).Nodup∧aP (X.start bl cap F st w) bl' cap' st' w'∧
   af (mkK (X.start bl cap F st w) bl' cap' st' w') r v
theorem AC.mono {P:Program} {f:FuncId} {args:List AV} {st:List (Nat×AO)} {R R':AV→List (Nat×AO)→Prop} (h:AC P f args st R) (hr:∀r st,R r st→R' r st):AC P f args st R':=
 ⟨h.1,fun bl cap F w us hs ha=>(h.2 bl cap F w us hs ha).mono fun _ _ ⟨r,st',bl',cap',v,e,hR,h⟩=>⟨r,st',bl',cap',v,e,hr _ _ hR,h⟩⟩
def toP:AV→Option (Bool×List C)
 | .c x=>some (false,[x])
 | .agg cs=>some (true,cs)
 |_=>none
def resV (P:Program) (s:S):ResultVar→Option Out
 | .tmp t=>CJ (get s.env t)
 | .cell a T=>(get s.env a).bind fun v=>iM P T v (get s.st)
def mJ (P:Program) (s:S):List ResultVar→Option (List (Bool×List C)×List Prop)
 |[]=>some ([],[])
 |r::rs=>
  match resV P s r with
  |some out=>
   match toP out.v,mJ P s rs with
   |some p,some (ps,obl)=>some (p::ps,out.obl++obl)
   |_,_=>none
  |none=>none
def zx (P:Program) (rs:List ResultVar) (s:S):Option (AV×List Prop):=
 match rs with
 |[r]=>(resV P s r).map fun out=>(out.v,out.obl)
 |rs=>(mJ P s rs).map fun p=>(.tup p.1,p.2)
def O8 (P:Program) (rs:List ResultVar) (x:X) (R:AV→List (Nat×AO)→Prop):Exit→S→Prop:=fun e s=>
 (e= .ret∨e= .normal)∧∃r obl,zx P rs s=some (r,obl)∧All obl∧∃st',Wq x (fun i=>i) s.st st'∧aA (ae st') r∧R r st'
omit [Dr] in
theorem tZ {P:Program} {rs:List ResultVar} {x:X} {R:AV→List (Nat×AO)→Prop} {s:S} {r:AV} {obl:List Prop} (h:zx P rs s=some (r,obl)) (ho:All obl)
 (st':List (Nat×AO)) (hsub:Wq x (fun i=>i) s.st st') (hcl:aA (ae st') r) (hR:R r st'):O8 P rs x R .ret s:=
 ⟨.inl rfl,r,obl,h,ho,st',hsub,hcl,hR⟩
omit [Dr] in
theorem ER:FW (fun i=>i)=fun c=>c:=by funext c;cases c<;>rfl
omit [Dr] in
@[simp] theorem Yo:bP (fun i=>i)=fun c=>c:=by
 funext c
 cases c with
 |fn f caps=>simp[bP,ER]
 |fb f caps=>simp[bP,ER]
 |_=>rfl
omit [Dr] in
theorem GZ (p:Bool×List C):wo (fun i=>i) p=p:=by simp[wo]
omit [Dr] in
@[simp] theorem aO:∀(v:AV),bF (fun i=>i) v=v
 | .c x=>by simp[bF]
 | .agg cs=>by simp[bF]
 | .tup vs=>by
   simp only[bF]
   rw[show(wo fun i=>i)=id from funext GZ,List.map_id]
 | .cond b x=>by simp[bF,aO x]
omit [Dr] in
@[simp] theorem aB (o:AO):aX (fun i=>i) o=o:=by
 cases o with
 |map es=>simp only[aX,GZ];simp
 |mapx es j β=>simp only[aX,GZ];simp
 |_=>simp[aX]
section
variable {P:Program} {x:X} {bl:Nat→List Nat} {cap:Nat→Nat} {s:S} {a:Act} {w:World}
omit [Dr] in
theorem Uu {k:K} {v:AV} {u:Value} {p:Bool×List C} (h:toP v=some p) (hr:af k v u):dC (ai k) p u:=by
 cases v with
 |c y=>
  cases h
  have h1:=ai.one hr
  exact(show dC (ai k) (false,[y]) u from⟨⟨y,rfl,hr⟩,fun cs e=>by subst e;simp[Value.oneCell'] at h1⟩)
 |agg cs=>cases h;exact(show dC (ai k) (true,cs) u from hr)
 |_=>cases h
def xq (tm:Array Value):ResultVar→Sem Value
 | .tmp t=>pure (tm.getD t undef)
 | .cell c t=>do loadVar t (←asAddr (tm.getD c undef))
omit [Dr] in
theorem KF (fn:Func) (tm:Array Value):results fn tm=(do let vs ←fn.results.mapM (xq tm);pure (if h:vs.size=1 then vs[0] else .tuple vs)):=by
 unfold results
 have:xq tm=(fun| .tmp t=>pure (tm.getD t undef)| .cell a t=>do loadVar t (←asAddr (tm.getD a undef))):=by funext r;cases r<;>rfl
 rw[this]
 rfl
theorem NM (hs:aP x bl cap s.st w) (he:gB (mkK x bl cap s.st w) s.env a.tmps) {r:ResultVar} {out:Out} (h:resV P s r=some out) (ho:All out.obl):
 ∃v,(xq a.tmps r).run P w= .ok v w∧af (mkK x bl cap s.st w) out.v v:=by
 cases r with
 |tmp t=>
  simp only[resV,CJ,aap] at h
  obtain⟨v,hv,rfl⟩:=h
  obtain⟨u,hu,hr⟩:=he t v hv
  exact⟨u,by simp[xq,aaF,hu],hr⟩
 |cell c T=>
  simp only[resV,aac] at h
  obtain⟨v,hv,h⟩:=h
  obtain⟨u,hu,hr⟩:=he c v hv
  obtain⟨r,h1,h2,_⟩:=Bz hs h ho hr
  have hp:∃b,u= .pointer (some b):=by
   unfold iM at h
   split at h
   ·cases h
   ·split at h
    ·obtain⟨_,b,_,rfl⟩:=hr;exact⟨_,rfl⟩
    ·obtain⟨b,o,rfl,_⟩:=hr;exact⟨_,rfl⟩
    ·obtain⟨_,b,_,rfl⟩:=hr;exact⟨_,rfl⟩
    ·cases h
  obtain⟨b,rfl⟩:=hp
  refine⟨r,?_,h2⟩
  have e:a.tmps.getD c undef= .pointer (some b):=by simp[aaF,hu]
  simp only[xq,e,asAddr,Sem.run_bind,Sem.run_pure,Result.andThen_ok]
  simpa[Instr.loadAt,Instr.sureAddr] using h1
theorem EZ (hs:aP x bl cap s.st w) (he:gB (mkK x bl cap s.st w) s.env a.tmps):∀{rs:List ResultVar} {ps:List (Bool×List C)} {obl:List Prop},mJ P s rs=some (ps,obl)→All obl→
 ∃vs:List Value,(rs.mapM (xq a.tmps)).run P w= .ok vs w∧
  aj (dC (ai (mkK x bl cap s.st w))) ps vs
 |[],ps,obl,h,_=>by cases h;exact⟨[],by simp, .nil⟩
 |r::rs,ps,obl,h,ho=>by
  simp only[mJ] at h
  split at h
  ·rename_i out hout
   split at h
   ·rename_i p ps' obl' hp hrs
    cases h
    obtain⟨h1,h2⟩:=All.append ho
    obtain⟨v,hv,hrv⟩:=NM hs he hout h1
    obtain⟨vs,hvs,hall⟩:=EZ hs he hrs h2
    exact⟨v::vs,by simp only[List.mapM_cons,Sem.run_bind,hv,Result.andThen_ok,hvs,Sem.run_pure], .cons (Uu hp hrv) hall⟩
   ·cases h
  ·cases h
theorem Nu (hs:aP x bl cap s.st w) (he:gB (mkK x bl cap s.st w) s.env a.tmps) {fn:Func} {r:AV} {obl:List Prop} (h:zx P fn.results.toList s=some (r,obl)) (ho:All obl):
 ∃v,(results fn a.tmps).run P w= .ok v w∧af (mkK x bl cap s.st w) r v:=by
 rw[KF,←Array.toArray_toList (xs:=fn.results)]
 generalize fn.results.toList=rs at*
 simp only[List.mapM_toArray,Sem.run_bind,Sem.run_map]
 unfold zx at h
 split at h
 ·rename_i r0
  simp only[aap,aa1] at h
  obtain⟨out,hout,rfl,rfl⟩:=h
  obtain⟨v,hv,hr⟩:=NM hs he hout ho
  refine⟨v,?_,hr⟩
  simp only[List.mapM_cons,List.mapM_nil,Sem.run_bind,hv,Result.andThen_ok,Sem.run_pure]
  simp
 ·rename_i hne
  simp only[aap,aa1] at h
  obtain⟨⟨ps,o⟩,hps,rfl,rfl⟩:=h
  obtain⟨vs,hvs,hall⟩:=EZ hs he hps ho
  refine⟨.tuple vs.toArray,?_,vs,rfl,hall⟩
  simp only[hvs,Result.andThen_ok]
  have hl:=hall.length
  have hrl:∀{rs:List ResultVar} {ps:List (Bool×List C)} {obl:List Prop},mJ P s rs=some (ps,obl)→ps.length=rs.length:=by
   intro rs
   induction rs with
   |nil=>intro ps obl h;cases h;rfl
   |cons r rs ih=>
    intro ps obl h
    simp only[mJ] at h
    split at h
    ·split at h
     ·cases h;rename_i hrs;simp[ih hrs]
     ·cases h
    ·cases h
  have hlen:=hrl hps
  have:vs.length≠1:=by
   intro h1
   match rs,hne,hlen with
   |[r],hne,_=>exact hne r rfl
   |[],_,hlen=>simp at hlen;rw[hlen] at hl;simp at hl;omega
   |_::_::_,_,hlen=>simp at hlen;omega
  simp[this]
theorem AA {f:FuncId} {fn:Func} {c:Code} {args:List AV} {st:List (Nat×AO)} {R:AV→List (Nat×AO)→Prop} (hf:P.funcs[f]? =some fn) (hb:fn.body=some c)
 (hname:(fn.name=="runtime.NumGoroutine")=false) (hlen:args.length≤fn.ntmps)
 (h:∀x:X,(∀id,x.d0 id→ae st id=true)→T P x c ⟨fn.ntmps,(List.range args.length).zip args,st⟩ (O8 P fn.results.toList x R)):AC P f args st R:=by
 refine⟨⟨fn,hf,hname,by rw[hb];rfl⟩,fun bl cap F w us hs ha=>?_⟩
 refine calls_of_wp hf hb ?_
 have hx:=h (X.start bl cap F st w) (fun id h=>h)
 have hl:=ha.length
 refine wp_mono (hx _ w ⟨bl,cap,hs,?_, .nil _ _,?_⟩) ?_
 ·intro i v hv
  have hm:=get_mem hv
  obtain⟨j,hj,e⟩:=aaL.1 hm
  simp only[List.getElem_zip,List.getElem_range,aa1] at e
  obtain⟨rfl,rfl⟩:=e
  simp at hj
  obtain⟨u,hu,hr⟩:=ha.get (i:=j) (a:=args[j]) (by simp[hj])
  refine⟨u,?_,hr⟩
  have hj':j<us.length:=by omega
  rw[Array.getElem?_append_left (by simpa using hj')]
  simpa using hu
 ·simp;omega
 ·rintro e a w' ⟨s',⟨he,r,obl,hret,hobl,st',hsub,hcl,hR⟩,bl',cap',hs',henv,hd,_⟩
  obtain⟨v,hv,hrv⟩:=Nu hs' henv hret hobl
  obtain⟨h1,_,h2⟩:=hs'.sub hsub
  have hd:a.defers=[]:=by obtain⟨Ds,e,hm,_⟩:=hd;rw[e,hm rfl];rfl
  have hrep:=ik (ρ:=fun i=>i) h2 hcl (by rw[aO];exact hrv)
  rcases he with rfl|rfl
  ·exact⟨hd,v,hv,r,st',_,_,v,rfl,hR,hsub.inj,h1,hrep⟩
  ·exact⟨hd,v,hv,r,st',_,_,v,rfl,hR,hsub.inj,h1,hrep⟩
end
def gz (s:S):List Operand→Option (List AV)
 |[]=>some []
 |o::os=>
  match ev s o,gz s os with
  |some v,some vs=>some (v::vs)
  |_,_=>none
omit [Dr] in
theorem nX {st:List (Nat×AO)}:∀{us:List (Nat×AO)},(us.map (·.1)).Nodup→∀id,get (ah st us) id=(get us id).or (get st id)
 |[],_,id=>by simp[ah,get]
 |(i,o)::us,hn,id=>by
  simp only[aax,List.nodup_cons] at hn
  simp only[ah]
  rw[nX hn.2,get_put]
  simp only[get]
  by_cases e:i=id
  ·subst e
   have:get us i=none:=by
    cases h:get us i with
    |none=>rfl
    |some o'=>exact absurd (aaZ (f:=(·.1)) (get_mem h)) hn.1
   simp[this]
  ·simp[e]
structure FK (s:S) (args:List AV) (st0:List (Nat×AO)):Prop where
 mem:∀p∈st0,get s.st p.1=some p.2
 cl:∀p∈st0,aN (ae st0) p.2
 args:∀a∈args,aA (ae st0) a
def jl (s:S) (st0 st':List (Nat×AO)):Prop:=∀p∈st',ae st0 p.1=true∨get s.st p.1=none
theorem Ec {x:X} {bl:Nat→List Nat} {cap:Nat→Nat} {s:S} {w w':World} {args:List AV} {st0 st':List (Nat×AO)} {F0:Nat→Prop} {bl':Nat→List Nat} {cap':Nat→Nat}
 (hs:aP x bl cap s.st w) (hl:FK s args st0) (hF:∀b,F0 b↔(MM bl s.st b∨x.F b)∧¬MM bl st0 b) (hn:(st'.map (·.1)).Nodup) (hfr:jl s st0 st')
 (hs':aP (X.start bl cap F0 st0 w) bl' cap' st' w'):
 ∃bl'' cap'',aP x bl'' cap'' (ah s.st st') w'∧(mkK x bl cap s.st w).le (mkK x bl'' cap'' (ah s.st st') w')∧
  (mkK (X.start bl cap F0 st0 w) bl' cap' st' w').le (mkK x bl'' cap'' (ah s.st st') w'):=by
 have hget:=nX (st:=s.st) hn
 have hdom0:∀id,ae st0 id=true→ae st' id=true∧bl' id=bl id∧cap' id=cap id:=fun id h=>hs'.keep id h
 have hsub:∀b,MM bl st0 b→MM bl s.st b:=by
  rintro b ⟨id,o,h1,h2,h3⟩
  exact⟨id,o,hl.mem _ (get_mem h1),h2,h3⟩
 let bl'':Nat→List Nat:=fun id=>if ae st' id=true then bl' id else bl id
 let cap'':Nat→Nat:=fun id=>if ae st' id=true then cap' id else cap id
 have hb1:∀id,ae st' id=true→bl'' id=bl' id:=fun id h=>if_pos h
 have hb2:∀id,ae st' id=false→bl'' id=bl id:=fun id h=>if_neg (by rw[h];simp)
 have hc1:∀id,ae st' id=true→cap'' id=cap' id:=fun id h=>if_pos h
 have hc2:∀id,ae st' id=false→cap'' id=cap id:=fun id h=>if_neg (by rw[h];simp)
 have hg1:∀id o,get st' id=some o→get (ah s.st st') id=some o:=fun id o h=>by rw[hget,h];rfl
 have hg2:∀id,ae st' id=false→get (ah s.st st') id=get s.st id:=fun id h=>by
  have:get st' id=none:=by simpa[ae] using h
  rw[hget,this];rfl
 have hold:∀id o,get s.st id=some o→bl'' id=bl id∧cap'' id=cap id:=by
  intro id o ho
  cases hd:ae st' id with
  |false=>exact⟨hb2 id hd,hc2 id hd⟩
  |true=>
   have hm:∃o',get st' id=some o':=by simpa[ae,aaq] using hd
   obtain⟨o',ho'⟩:=hm
   rcases hfr _ (get_mem ho') with h|h
   ·obtain⟨_,h2,h3⟩:=hdom0 id h
    exact⟨by rw[hb1 id hd,h2],by rw[hc1 id hd,h3]⟩
   ·simp only at h;rw[ho] at h;cases h
 have hM:∀b,MM bl'' (ah s.st st') b→MM bl' st' b∨(MM bl s.st b∧¬MM bl st0 b):=by
  rintro b ⟨id,o,h1,h2,h3⟩
  cases hd:ae st' id with
  |true=>
   obtain⟨o',ho'⟩:∃o',get st' id=some o':=by simpa[ae,aaq] using hd
   rw[hg1 id o' ho'] at h1;cases h1
   rw[hb1 id hd] at h3
   exact .inl ⟨id,o,ho',h2,h3⟩
  |false=>
   rw[hg2 id hd] at h1
   rw[hb2 id hd] at h3
   refine .inr ⟨⟨id,o,h1,h2,h3⟩,?_⟩
   rintro⟨id0,o0,a1,a2,a3⟩
   have:=hs.disj id id0 o o0 b h1 (hl.mem _ (get_mem a1)) h2 a2 h3 a3
   subst this
   have:=(hdom0 id (by simp[ae,a1])).1
   rw[hd] at this;cases this
 have hMc:∀b,MM bl' st' b→MM bl st0 b∨w.heap.size≤b:=fun b hb=>hs'.new b hb
 have hheap:∀b,b<w.heap.size→¬MM bl st0 b→w'.heap[b]? =w.heap[b]?:=fun b hb hm=>hs'.fr.heap b hb hm
 have hFx:∀b,x.F b→¬MM bl s.st b:=by
  intro b hb hm
  rcases hs.new b hm with h|h
  ·exact hs.xok.dis b hb h
  ·have:=hs.xok.lt b hb;omega
 have le1:(mkK x bl cap s.st w).le (mkK x bl'' cap'' (ah s.st st') w'):=by
  refine⟨?_,?_,?_,?_,?_⟩
  ·intro id hid
   simp only[mkK] at*
   rw[hget]
   obtain⟨o,ho⟩:=aaq.1 hid
   rw[ho];cases get st' id<;>rfl
  ·intro id hid
   obtain⟨o,ho⟩:=aaq.1 (show(get s.st id).isSome=true from hid)
   exact(hold id o ho).1
  ·intro id hid
   obtain⟨o,ho⟩:=aaq.1 (show(get s.st id).isSome=true from hid)
   exact(hold id o ho).2
  ·intro b hb hlt
   exact hheap b hlt fun h=>hb (.inl (hsub b h))
  ·rintro b (hb|hb)
   ·rcases hM b hb with hb|⟨hb,_⟩
    ·rcases hMc b hb with hb|hb
     ·exact .inl (.inl (hsub b hb))
     ·exact .inr hb
    ·exact .inl (.inl hb)
   ·exact .inl (.inr hb)
 have le2:(mkK (X.start bl cap F0 st0 w) bl' cap' st' w').le (mkK x bl'' cap'' (ah s.st st') w'):=by
  refine⟨?_,?_,?_,fun _ _ _=>rfl,?_⟩
  ·intro id hid
   obtain⟨o,ho⟩:=aaq.1 (show(get st' id).isSome=true from hid)
   show(get (ah s.st st') id).isSome=true
   rw[hg1 id o ho];rfl
  ·intro id hid;exact hb1 id hid
  ·intro id hid;exact hc1 id hid
  ·rintro b (hb|hb)
   ·rcases hM b hb with hb|⟨hb,hb'⟩
    ·exact .inl (.inl hb)
    ·exact .inl (.inr ((hF b).2 ⟨.inl hb,hb'⟩))
   ·exact .inl (.inr ((hF b).2 ⟨.inr hb,fun h=>hFx b hb (hsub b h)⟩))
 refine⟨bl'',cap'',⟨?_,?_,?_,?_,?_,?_,?_,hs.xok⟩,le1,le2⟩
 ·intro id o ho
  cases hd:ae st' id with
  |true=>
   obtain⟨o',ho'⟩:∃o',get st' id=some o':=by simpa[ae,aaq] using hd
   rw[hg1 id o' ho'] at ho;cases ho
   exact(hs'.objs id o ho').le le2 hd fun b _=>rfl
  |false=>
   rw[hg2 id hd] at ho
   cases hlv:o.bf with
   |false=>cases o<;>simp[AO.bf] at hlv;trivial
   |true=>
    refine(hs.objs id o ho).le le1 (by simp[mkK,ho]) fun b hb=>?_
    refine hheap b (hs.lt b ⟨id,o,ho,hlv,hb⟩) ?_
    rintro⟨id0,o0,a1,a2,a3⟩
    have:=hs.disj id id0 o o0 b ho (hl.mem _ (get_mem a1)) hlv a2 hb a3
    subst this
    have:=(hdom0 id (by simp[ae,a1])).1
    rw[hd] at this;cases this
 ·-- apart
  have mix:∀i j p q b,get st' i=some p→get s.st j=some q→ae st' j=false→p.bf=true→q.bf=true→b∈bl' i→b∈bl j→False:=by
   intro i j p q b hi hj hdj hp hq hbi hbj
   rcases hMc b ⟨i,p,hi,hp,hbi⟩ with⟨id0,o0,a1,a2,a3⟩|h
   ·have:=hs.disj j id0 q o0 b hj (hl.mem _ (get_mem a1)) hq a2 hbj a3
    subst this
    have:=(hdom0 j (by simp[ae,a1])).1
    rw[hdj] at this;cases this
   ·have:=hs.lt b ⟨j,q,hj,hq,hbj⟩;omega
  intro i j p q b hi hj hp hq hbi hbj
  cases hdi:ae st' i with
  |true=>
   obtain⟨p',hp'⟩:∃o',get st' i=some o':=by simpa[ae,aaq] using hdi
   rw[hg1 i p' hp'] at hi;cases hi
   rw[hb1 i hdi] at hbi
   cases hdj:ae st' j with
   |true=>
    obtain⟨q',hq'⟩:∃o',get st' j=some o':=by simpa[ae,aaq] using hdj
    rw[hg1 j q' hq'] at hj;cases hj
    rw[hb1 j hdj] at hbj
    exact hs'.disj i j p q b hp' hq' hp hq hbi hbj
   |false=>
    rw[hg2 j hdj] at hj;rw[hb2 j hdj] at hbj
    exact(mix i j p q b hp' hj hdj hp hq hbi hbj).elim
  |false=>
   rw[hg2 i hdi] at hi;rw[hb2 i hdi] at hbi
   cases hdj:ae st' j with
   |true=>
    obtain⟨q',hq'⟩:∃o',get st' j=some o':=by simpa[ae,aaq] using hdj
    rw[hg1 j q' hq'] at hj;cases hj
    rw[hb1 j hdj] at hbj
    exact(mix j i q p b hq' hi hdi hq hp hbj hbi).elim
   |false=>
    rw[hg2 j hdj] at hj;rw[hb2 j hdj] at hbj
    exact hs.disj i j p q b hi hj hp hq hbi hbj
 ·intro id o ho hlv
  cases hd:ae st' id with
  |true=>
   obtain⟨o',ho'⟩:∃o',get st' id=some o':=by simpa[ae,aaq] using hd
   rw[hg1 id o' ho'] at ho;cases ho
   rw[hb1 id hd];exact hs'.nodup id o ho' hlv
  |false=>rw[hg2 id hd] at ho;rw[hb2 id hd];exact hs.nodup id o ho hlv
 ·intro b hb
  rcases hM b hb with hb|⟨hb,_⟩
  ·rcases hMc b hb with hb|hb
   ·exact hs.new b (hsub b hb)
   ·have:=hs.fr.size;exact .inr (by omega)
  ·exact hs.new b hb
 ·intro b hb
  rcases hM b hb with hb|⟨hb,_⟩
  ·exact hs'.lt b hb
  ·have:=hs.lt b hb;have:=hs'.fr.size;simp only[X.start] at this;omega
 ·have h0:=hs'.fr
  simp only[X.start] at h0
  refine⟨by have:=hs.fr.size;have:=h0.size;simp only at this;omega,fun b hb hm=>?_,by rw[h0.os];exact hs.fr.os,by rw[h0.output];exact hs.fr.output,by rw[h0.tape];exact hs.fr.tape,fun e=>aav (hs.fr.drawn e) (h0.drawn e)⟩
  rw[hheap b (by have:=hs.fr.size;omega),hs.fr.heap b hb hm]
  intro hb0
  rcases hs.new b (hsub b hb0) with h|h
  ·exact hm h
  ·omega
 ·intro id hid
  obtain⟨h1,h2,h3⟩:=hs.keep id hid
  obtain⟨o,ho⟩:=aaq.1 h1
  obtain⟨e1,e2⟩:=hold id o ho
  refine⟨?_,by rw[e1];exact h2,by rw[e2];exact h3⟩
  rw[hget,ho];cases get st' id<;>rfl
theorem Jb {P:Program} {x:X} {s:S} {o:Oper} {f:FuncId} {us:List Value} {args:List AV} {st0:List (Nat×AO)} {R:AV→List (Nat×AO)→Prop}
 (hd:∀i,o.dst=some i→i<s.n) (hl:FK s args st0) (hc:AC P f args st0 R)
 {bl:Nat→List Nat} {cap:Nat→Nat} {a:Act} {w:World} (hs:aP x bl cap s.st w) (henv:gB (mkK x bl cap s.st w) s.env a.tmps) (hdf:jf x (mkK x bl cap s.st w) a.defers) (hsz:a.tmps.size=s.n)
 (hrun0:(execOp a.eval o).run P w=(do pure (←callFunc f us.toArray):Sem Next).run P w) (hargs:aj (af (mkK x bl cap s.st w)) args us) {K:Act→World→Prop} {Q:Exit→Act→World→Prop}
 (hk:∀r st',R r st'→jl s st0 st'∧∀a w,Sat x ⟨s.n,dB s.env o.dst r,ah s.st st'⟩ a w→K a w):o.wp P a w K Q:=by
 obtain⟨⟨fn,hfn,hname,hbody⟩,hcalls⟩:=hc
 have hsub:∀b,MM bl st0 b→MM bl s.st b:=by
  rintro b ⟨id,o,h1,h2,h3⟩
  exact⟨id,o,hl.mem _ (get_mem h1),h2,h3⟩
 let F0:Nat→Prop:=fun b=>(MM bl s.st b∨x.F b)∧¬MM bl st0 b
 have hM0:∀b,(mkK (X.start bl cap F0 st0 w) bl cap st0 w).M b→(mkK x bl cap s.st w).M b:=by
  rintro b (hb|hb)
  ·exact .inl (hsub b hb)
  ·exact hb.1
 have hR:∀c v,bi (ae st0) c→ai (mkK x bl cap s.st w) (bP (fun i=>i) c) v→ai (mkK (X.start bl cap F0 st0 w) bl cap st0 w) c v:=fun c v hcl hr=>
  Cb (k:=mkK x bl cap s.st w) (ρ:=fun i=>i) (k':=mkK (X.start bl cap F0 st0 w) bl cap st0 w) (dom:=ae st0) (fun id hid=>hid) (fun id _=>rfl) (fun id _=>rfl) rfl hM0 hcl hr
 have hstart:aP (X.start bl cap F0 st0 w) bl cap st0 w:=by
  refine⟨?_,?_,?_,fun b hb=> .inl hb,fun b hb=>hs.lt b (hsub b hb),⟨aat _,fun _ _ _=>rfl,rfl,rfl,rfl,fun _=>aat _⟩,fun id hid=>⟨hid,rfl,rfl⟩,⟨?_,fun b hb=>hb.2⟩⟩
  ·intro id o ho
   exact xC (ρ:=fun i=>i) hR rfl hM0 rfl rfl (hl.cl _ (get_mem ho)) (by rw[aB];exact hs.objs id o (hl.mem _ (get_mem ho)))
  ·intro i j p q b hi hj hp hq hbi hbj
   exact hs.disj i j p q b (hl.mem _ (get_mem hi)) (hl.mem _ (get_mem hj)) hp hq hbi hbj
  ·intro id o ho hlv
   exact hs.nodup id o (hl.mem _ (get_mem ho)) hlv
  ·rintro b ⟨hb|hb,_⟩
   ·exact hs.lt b hb
   ·have:=hs.xok.lt b hb;have:=hs.fr.size;simp only[X.start];omega
 have hargs':aj (af (mkK (X.start bl cap F0 st0 w) bl cap st0 w)) args us:=by
  have hcl:=hl.args
  clear hcalls hk hl hrun0
  induction hargs with
  |nil=>exact .nil
  |cons h _ ih=>exact .cons (ik (ρ:=fun i=>i) hR (hcl _ (by simp)) (by rw[aO];exact h)) (ih fun a ha=>hcl a (by simp[ha]))
 have hrun:(execOp a.eval o).run P w= .ok (.enter f us.toArray) w:=by
  have hnb:¬fn.body=none:=by intro h;rw[h] at hbody;cases hbody
  have hnn:¬fn.name="runtime.NumGoroutine":=by simpa using hname
  rw[hrun0]
  simp[callFunc,hfn,hnn,hnb]
 unfold Oper.wp
 rw[hrun]
 simp only[Oper.upon]
 refine(hcalls bl cap F0 w _ hstart hargs').mono ?_
 rintro e w' ⟨r,st',bl',cap',v,rfl,hRr,hnd,hs',hrv⟩
 obtain⟨hfr,hto⟩:=hk r st' hRr
 obtain⟨bl'',cap'',g1,g2,g3⟩:=Ec hs hl (fun b=>Iff.rfl) hnd hfr hs'
 exact hto _ _ ⟨bl'',cap'',g1,(henv.le g2).dB (fun i hi=>by rw[hsz];exact hd i hi) (hrv.le g3),by rw[Act.put_defers];exact hdf.le g2,by rw[Act.bK];exact hsz⟩
theorem CB {P:Program} {x:X} {s:S} {o:Oper} {g:Operand} {f:FuncId} {fs:List Value} {as:List Operand} {ats:Array TypeId} {args:List AV} {st0:List (Nat×AO)} {R:AV→List (Nat×AO)→Prop}
 (hop:o.op= .call {callee:= .value g,args:=as.toArray,argTypes:=ats}) (hd:∀i,o.dst=some i→i<s.n) (hl:FK s args st0) (hc:AC P f args st0 R)
 {bl:Nat→List Nat} {cap:Nat→Nat} {a:Act} {w:World} (hs:aP x bl cap s.st w) (henv:gB (mkK x bl cap s.st w) s.env a.tmps) (hdf:jf x (mkK x bl cap s.st w) a.defers) (hsz:a.tmps.size=s.n)
 (hfn0:a.eval g= .func (.func f) ⟨[]⟩ ⟨fs⟩) (hargs:aj (af (mkK x bl cap s.st w)) args (as.map a.eval++fs)) {K:Act→World→Prop} {Q:Exit→Act→World→Prop}
 (hk:∀r st',R r st'→jl s st0 st'∧∀a w,Sat x ⟨s.n,dB s.env o.dst r,ah s.st st'⟩ a w→K a w):o.wp P a w K Q:=
 Jb (us:=as.map a.eval++fs) hd hl hc hs henv hdf hsz (by simp[execOp,hop,resolve,hfn0,Deferred.ofValue,invoke]) hargs hk
theorem uK {P:Program} {x:X} {s:S} {o:Oper} {f:FuncId} {as:List Operand} {ats:Array TypeId} {args:List AV} {st0:List (Nat×AO)} {R:AV→List (Nat×AO)→Prop}
 (hop:o.op= .call {callee:= .value (.func f),args:=as.toArray,argTypes:=ats}) (hd:∀i,o.dst=some i→i<s.n) (hl:FK s args st0) (hc:AC P f args st0 R)
 {bl:Nat→List Nat} {cap:Nat→Nat} {a:Act} {w:World} (hs:aP x bl cap s.st w) (henv:gB (mkK x bl cap s.st w) s.env a.tmps) (hdf:jf x (mkK x bl cap s.st w) a.defers) (hsz:a.tmps.size=s.n)
 (hargs:aj (af (mkK x bl cap s.st w)) args (as.map a.eval)) {K:Act→World→Prop} {Q:Exit→Act→World→Prop}
 (hk:∀r st',R r st'→jl s st0 st'∧∀a w,Sat x ⟨s.n,dB s.env o.dst r,ah s.st st'⟩ a w→K a w):o.wp P a w K Q:=
 CB (fs:=[]) hop hd hl hc hs henv hdf hsz rfl (by rw[aaM];exact hargs) hk
def IY:AV→Option (Nat×List AV)
 | .c (.fn f caps)=>some (f,caps.map fun c=> .c c.toC)
 | .c (.d (.v (.func (.func f) ⟨[]⟩ ⟨[]⟩)))=>some (f,[])
 |_=>none
omit [Dr] in
theorem BB {k:K} {v:AV} {u:Value} {f:Nat} {cs:List AV} (h:IY v=some (f,cs)) (hr:af k v u):∃vs:List Value,u= .func (.func f) ⟨[]⟩ ⟨vs⟩∧aj (af k) cs vs:=by
 unfold IY at h
 split at h
 ·cases h
  obtain⟨vs,e,h⟩:=hr
  refine⟨vs,e,?_⟩
  rw[aj.jO]
  exact h.mono fun c v hc=>Bf.1 hc
 ·cases h
  exact⟨[],gG hr, .nil⟩
 ·cases h
omit [Dr] in
theorem iq {s:S} {k:K} {a:Act} (henv:gB k s.env a.tmps):∀{as:List Operand} {args:List AV},gz s as=some args→aj (af k) args (as.map a.eval)
 |[],args,he=>by cases he;exact .nil
 |o::os,args,he=>by
  simp only[gz] at he
  split at he
  ·rename_i v vs h1 h2
   cases he
   exact .cons (bJ henv h1) (iq henv h2)
  ·cases he
theorem Gv {P:Program} {x:X} {Q:Exit→S→Prop} {s:S} {ops l:List Oper} {dst:Option Tmp} {f:FuncId} {as:List Operand} {ats:Array TypeId} {ty:TypeId} {pos:String} {after:Array Edge}
 {args:List AV} (st0:List (Nat×AO)) {R:AV→List (Nat×AO)→Prop} (hd:∀i,dst=some i→i<s.n) (he:gz s as=some args) (hl:FK s args st0) (hc:AC P f args st0 R)
 (hk:∀r st',R r st'→jl s st0 st'∧TO P x ops l ⟨s.n,dB s.env dst r,ah s.st st'⟩ Q):
 TO P x ops (⟨dst, .call {callee:= .value (.func f),args:=as.toArray,argTypes:=ats},ty,pos,after,none⟩::l) s Q:=by
 rintro a w ⟨bl,cap,hs,henv,hdf,hsz⟩
 refine wpList_plain rfl fun K hK=>uK rfl hd hl hc hs henv hdf hsz (iq henv he) fun r st' hR=>?_
 obtain⟨h1,h2⟩:=hk r st' hR
 exact⟨h1,fun a w h=>hK _ _ (h2 a w h)⟩
theorem jQ {P:Program} {x:X} {Q:Exit→S→Prop} {s:S} {ops l:List Oper} {dst:Option Tmp} {g:Operand} {vg:AV} {f:FuncId} {cs:List AV} {as:List Operand} {ats:Array TypeId} {ty:TypeId} {pos:String} {after:Array Edge}
 {args:List AV} (st0:List (Nat×AO)) {R:AV→List (Nat×AO)→Prop} (hd:∀i,dst=some i→i<s.n) (hg:ev s g=some vg) (hf:IY vg=some (f,cs)) (he:gz s as=some args) (hl:FK s (args++cs) st0) (hc:AC P f (args++cs) st0 R)
 (hk:∀r st',R r st'→jl s st0 st'∧TO P x ops l ⟨s.n,dB s.env dst r,ah s.st st'⟩ Q):
 TO P x ops (⟨dst, .call {callee:= .value g,args:=as.toArray,argTypes:=ats},ty,pos,after,none⟩::l) s Q:=by
 rintro a w ⟨bl,cap,hs,henv,hdf,hsz⟩
 obtain⟨fs,h1,h2⟩:=BB hf (bJ henv hg)
 refine wpList_plain rfl fun K hK=>CB (fs:=fs) rfl hd hl hc hs henv hdf hsz h1 ((iq henv he).append h2) fun r st' hR=>?_
 obtain⟨h1,h2⟩:=hk r st' hR
 exact⟨h1,fun a w h=>hK _ _ (h2 a w h)⟩
end Go.Ab
