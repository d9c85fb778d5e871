/- A part of the proof. -/
import Derived.Test.YtpoodoknkbojgaaGreatDoorRAbLb
set_option linter.all false
namespace Go.Ab
variable [Dr] {P:Program} {f:FuncId} {args args1:List AV} {st st1:List (Nat×AO)} {R R1:AV→List (Nat×AO)→Prop}
theorem Fr.start (x:X) (w:World) (h:x.w0=w):Fr x w:=by
 subst h
 exact⟨Ui _,fun _ _ _=>rfl,rfl,rfl,rfl,fun _=>Ui _⟩
omit [Dr] in
theorem sH {σ:Nat→Nat} (h:∀i j,σ i=σ j→i=j):∀{l:List Nat},l.Nodup→(l.map σ).Nodup
 |[],_=> .nil
 |i::l,hl=>by
  rw[List.nodup_cons] at hl
  rw[Un,List.nodup_cons,Uy]
  refine⟨?_,sH h hl.2⟩
  rintro⟨j,hj,e⟩
  exact hl.1 (h _ _ e▸hj)
omit [Dr] in
theorem Dz {k k':K} {σ:Nat→Nat} {dom:Nat→Bool} (hR:∀c v,bC dom c→ah k (bG σ c) v→ah k' c v):∀{l:List AV} {us:List Value},(∀v∈l,ax dom v)→ai (af k) (l.map (bg σ)) us→ai (af k') l us
 |[],us,_,h=>by cases h;exact .nil
 |v::l,us,hc,h=>by
  cases h with
  |cons h h'=>exact .cons (dZ hR (hc v (by simp)) h) (Dz hR (fun u hu=>hc u (by simp[hu])) h')
theorem JW {σ τ:Nat→Nat} (h1:∀i,σ (τ i)=i) (h2:∀i,τ (σ i)=i) (h:AC P f args st R)
 (hst:∀p∈st,get st1 (σ p.1)=some (aS σ p.2)) (hnd:(st.map (·.1)).Nodup) (hcl:∀p∈st,aH (ae st) p.2) (hdom:∀id,ae st1 id=true→ae st (τ id)=true)
 (ha:args1=args.map (bg σ)) (hac:∀v∈args,ax (ae st) v)
 (hR:∀r0 st0,R r0 st0→∃r st2,R1 r st2∧(∀p∈st2,get st0 (τ p.1)=some (aS τ p.2))∧(st2.map (·.1)).Nodup∧(∀p∈st2,aH (ae st2) p.2)∧r0=bg τ r∧ax (ae st2) r∧∀id,ae st1 id=true→ae st2 id=true):
 AC P f args1 st1 R1:=by
 refine⟨h.1,fun bl cap F w us hs hargs=>?_⟩
 subst ha
 have hs0:aA {X.start bl cap F st1 w with d0:=fun _=>False} bl cap st1 w:=
  ⟨hs.objs,hs.disj,hs.nodup,hs.new,hs.lt,Fr.start _ _ rfl,fun _ h=>h.elim,⟨hs.xok.lt,hs.xok.dis⟩⟩
 have hinj:(st.map fun p=>σ p.1).Nodup:=by
  have e:(st.map fun p=>σ p.1)=(st.map (·.1)).map σ:=by rw[Vj];rfl
  rw[e]
  exact sH (fun i j e=>by rw[←h2 i,e,h2 j]) hnd
 obtain⟨s1,s2,s3⟩:=hs0.sub (ρ:=σ) (st':=st) ⟨hst,hinj,hcl,fun _ h=>h.elim⟩
 have hMM:∀b,MM bl st1 b→MM (bl∘σ) st b:=by
  rintro b ⟨id,o,a1,a2,a3⟩
  have hd:=hdom id (by simp[ae,a1])
  simp only[ae,Uj] at hd
  obtain⟨o',ho'⟩:=hd
  have:=hst _ (get_mem ho')
  simp only[h1] at this
  rw[a1] at this
  cases this
  exact⟨τ id,o',ho',by rw[iy] at a2;exact a2,by simpa[h1] using a3⟩
 have hMM':∀b,MM (bl∘σ) st b→MM bl st1 b:=by
  rintro b ⟨id,o,a1,a2,a3⟩
  exact⟨σ id,aS σ o,hst _ (get_mem a1),by rw[iy];exact a2,a3⟩
 have hin:aA (X.start (bl∘σ) (cap∘σ) F st w) (bl∘σ) (cap∘σ) st w:=
  ⟨s1.objs,s1.disj,s1.nodup,fun b hb=> .inl hb,s1.lt,Fr.start _ _ rfl,fun id h=>⟨h,rfl,rfl⟩,⟨hs.xok.lt,fun b hb hm=>hs.xok.dis b hb (hMM' b hm)⟩⟩
 have hargs':ai (af (mkK (X.start (bl∘σ) (cap∘σ) F st w) (bl∘σ) (cap∘σ) st w)) args us:=Dz s3 hac hargs
 refine(h.2 _ _ _ _ _ hin hargs').mono ?_
 rintro e w' ⟨r0,st0,bl',cap',v,rfl,hr0,hnd0,hs',hrep⟩
 obtain⟨r,st2,hr,g1,g2,g3,rfl,g5,g6⟩:=hR r0 st0 hr0
 have t0:aA {X.start (bl∘σ) (cap∘σ) F st w with d0:=fun _=>False} bl' cap' st0 w':=
  ⟨hs'.objs,hs'.disj,hs'.nodup,hs'.new,hs'.lt,⟨hs'.fr.size,hs'.fr.heap,hs'.fr.os,hs'.fr.output,hs'.fr.tape,hs'.fr.drawn⟩,fun _ h=>h.elim,⟨hs'.xok.lt,hs'.xok.dis⟩⟩
 have hinj2:(st2.map fun p=>τ p.1).Nodup:=by
  have e:(st2.map fun p=>τ p.1)=(st2.map (·.1)).map τ:=by rw[Vj];rfl
  rw[e]
  exact sH (fun i j e=>by rw[←h1 i,e,h1 j]) g2
 obtain⟨u1,u2,u3⟩:=t0.sub (ρ:=τ) (st':=st2) ⟨g1,hinj2,g3,fun _ h=>h.elim⟩
 refine⟨r,st2,bl'∘τ,cap'∘τ,v,rfl,hr,g2,⟨u1.objs,u1.disj,u1.nodup,fun b hb=>(u1.new b hb).imp (hMM' b) fun h=>h,u1.lt,⟨hs'.fr.size,fun b hb hm=>hs'.fr.heap b hb fun h=>hm (hMM' b h),hs'.fr.os,hs'.fr.output,hs'.fr.tape,hs'.fr.drawn⟩,?_,hs.xok⟩,dZ u3 g5 hrep⟩
 intro id hid
 have hd:=hdom id hid
 obtain⟨k1,k2,k3⟩:=hs'.keep (τ id) hd
 exact⟨g6 id hid,k2.trans (by simp[X.start,h1]),k3.trans (by simp[X.start,h1])⟩
def sw (i j n:Nat):Nat:=if n=i then j else if n=j then i else n
omit [Dr] in
theorem PE (i j n:Nat):sw i j (sw i j n)=n:=by
 unfold sw
 by_cases h1:n=i
 ·subst h1
  rw[if_pos rfl]
  by_cases h2:j=n
  ·subst h2;simp
  ·rw[if_neg h2,if_pos rfl]
 ·by_cases h2:n=j
  ·subst h2;rw[if_neg h1,if_pos rfl,if_pos rfl]
  ·rw[if_neg h1,if_neg h2,if_neg h1,if_neg h2]
omit [Dr] in
theorem O4 {a b:Nat} (ha:a≠2000) (hb:b≠2000) (hab:a≠b):∃σ τ:Nat→Nat,(∀i,σ (τ i)=i)∧(∀i,τ (σ i)=i)∧σ 2000=2000∧σ 2001=a∧σ 2002=b:=by
 refine⟨fun n=>sw (sw 2001 a 2002) b (sw 2001 a n),fun n=>sw 2001 a (sw (sw 2001 a 2002) b n),fun i=>by simp only[PE],fun i=>by simp only[PE],?_,?_,?_⟩
 ·simp[sw];repeat' split
  all_goals omega
 ·simp[sw];repeat' split
  all_goals omega
 ·simp[sw];repeat' split
  all_goals omega
theorem EL {x:X} {s:S} {i id id' sz off n:Nat} {o:AO} (he:get s.env i=some (.c (.ms id sz off n))) (hid:get s.st id=some o) (hl:o.aV=true) (hid':get s.st id'=none):
 qc x s ⟨s.n,put s.env i (.c (.ms id' sz off n)),put (put s.st id .dead) id' o⟩:=by
 rintro a w ⟨bl,cap,hs,henv,hd,hsz⟩
 have hle:=vH (x:=x) (bl:=bl) (cap:=cap) (w:=w) hid hl hid'
 refine⟨_,_,hs.move hid hl hid',?_,hd.le hle,hsz⟩
 intro j v hv
 simp only at hv⊢
 rw[get_put] at hv
 by_cases e:i=j
 ·subst e;simp at hv;subst hv
  obtain⟨u,hu,hdm,h1,h2⟩:=henv i _ he
  refine⟨u,hu,by simp[mkK,get_put],?_,?_⟩
  ·simpa[mkK] using h1
  ·simpa[mkK] using h2
 ·simp only[e,if_false] at hv
  obtain⟨u,hu,hr⟩:=henv j v hv
  exact⟨u,hu,hr.le hle⟩
theorem iw {x:X} {s:S} {bid id id' sz off n j:Nat} {cs:List C} {o:AO} (hne:bid≠id) (hne':bid≠id') (hb:get s.st bid=some (.box cs)) (hj:cs[j]? =some (.ms id sz off n)) (hid:get s.st id=some o) (hl:o.aV=true) (hid':get s.st id'=none):
 qc x s ⟨s.n,s.env,put (put (put s.st id .dead) id' o) bid (.box (cs.set j (.ms id' sz off n)))⟩:=by
 rintro a w ⟨bl,cap,hs,henv,hd,hsz⟩
 have hle:=vH (x:=x) (bl:=bl) (cap:=cap) (w:=w) hid hl hid'
 have hm:=hs.move hid hl hid'
 have hb':get (put (put s.st id .dead) id' o) bid=some (.box cs):=by rw[aU (Ne.symm hne'),aU (Ne.symm hne)];exact hb
 obtain⟨b,T,vs,h1,h2,h3⟩:=hm.objs bid _ hb'
 have hon:iD (fu bl id' (bl id) bid) w w:=⟨rfl,fun _ _=>rfl,rfl,rfl,rfl,Ui _⟩
 have hle2:=jv (x:=x) (cap:=fu cap id' (cap id)) (o':= .box (cs.set j (.ms id' sz off n))) hb' rfl hon
 refine⟨_,_,hm.upd hb' rfl hon ⟨b,T,vs,h1,h2,?_⟩,(henv.le hle).le hle2,(hd.le hle).le hle2,hsz⟩
 obtain⟨b0,T0,vs0,g1,g2,g3⟩:=hs.objs bid _ hb
 have hvs:vs0=vs:=by
  have e:fu bl id' (bl id) bid=bl bid:=bT _ _ hne'
  simp only[mkK] at h1 g1 h2 g2
  rw[e,g1] at h1
  simp at h1;subst h1
  rw[g2] at h2;simp at h2;exact h2.1
 subst hvs
 obtain⟨v,hv,hr⟩:=g3.get hj
 have hr':ah (mkK x (fu bl id' (bl id)) (fu cap id' (cap id)) (put (put s.st id .dead) id' o) w) (.ms id' sz off n) v:=by
  obtain⟨hdm,k1,k2⟩:=hr
  refine⟨by simp[mkK,get_put],?_,?_⟩
  ·simpa[mkK] using k1
  ·simpa[mkK] using k2
 have:=(g3.mono fun _ _=>ah.le hle).set (i:=j) hr'
 rw[show vs0.set j v=vs0 from by
  apply UV;intro i
  rw[VA]
  split
  ·rename_i e;subst e;rw[hv];simp[(Ue.1 hv).1]
  ·rfl] at this
 exact this.mono fun _ _=>ah.le hle2
end Go.Ab
set_option linter.all false
namespace Go.Ab
def I4:IntKind→Int→Bool
 | .i8,n=>decide (-128≤n)&&decide (n≤127)
 | .i16,n=>decide (-32768≤n)&&decide (n≤32767)
 | .i32,n=>decide (-2147483648≤n)&&decide (n≤2147483647)
 | .i64,n=>decide (-9223372036854775808≤n)&&decide (n≤9223372036854775807)
 | .u8,n=>decide (0≤n)&&decide (n≤255)
 | .u16,n=>decide (0≤n)&&decide (n≤65535)
 | .u32,n=>decide (0≤n)&&decide (n≤4294967295)
 | .u64,n=>decide (0≤n)&&decide (n≤18446744073709551615)
theorem Gt {k:IntKind} {n:Int} (h:I4 k n=true):aZ k n:=by cases k<;>simpa[I4,aZ] using h
def A7 (P:Program) (T:TypeId) (x:AV) (ob:Nat→Option AO):Bool:=
 match ti P T with
 |none=>true
 |some t=>
  match x with
  | .c (.ptr id off)=>
    match ob id with
    |some (.box cs)=>if t.agg then decide (off+t.size≤cs.length) else decide (off<cs.length)
    |_=>true
  | .c (.pp cs)=>if t.agg then decide (t.size≤cs.length) else decide (0<cs.length)
  | .c (.ep id sz i off)=>
    match ob id with
    |some (.arr sz' xs)=>decide (sz=sz')&&(decide (i<xs.length)&&if t.agg then decide (off+t.size≤sz) else decide (off<sz))
    |_=>true
  |_=>true
def Bi (P:Program) (T:TypeId) (x v:AV) (ob:Nat→Option AO):Bool:=
 match ti P T,cellsOf v with
 |some t,some cs'=>
  match x with
  | .c (.ptr id off)=>
    match ob id with
    |some (.box cs)=>decide (cs'.length=t.size)&&decide (off+t.size≤cs.length)
    |_=>true
  | .c (.ep id sz i off)=>
    match ob id with
    |some (.arr sz' xs)=>decide (sz=sz')&&(decide (i<xs.length)&&(decide (cs'.length=t.size)&&decide (off+t.size≤sz)))
    |_=>true
  |_=>true
 |_,_=>true
def EE (P:Program) (T:TypeId) (x:AV) (f:Nat):Bool:=
 match gY P T f with
 |none=>true
 |some (fo,ft)=>
  match ti P ft,x with
  |some t, .agg cs=>if t.agg then decide (fo+t.size≤cs.length) else decide (fo<cs.length)
  |_,_=>true
def nI (P:Program) (T:TypeId) (x ix:AV):Bool:=
 match sQ P T,ix with
 |some e, .c (.d (.v (.int _ n)))=>
  match ti P e with
  |none=>true
  |some t=>
   match x with
   | .c (.d (.ps sz xs))=>decide (sz=t.size)&&(decide (0≤n)&&decide (n<xs.length))
   | .c (.ms id sz off len)=>decide (sz=t.size)&&(decide (0≤n)&&decide (n<len))
   |_=>true
 |_,_=>true
def AY (P:Program) (T:TypeId) (x ix:AV):Bool:=
 match P.underlying T,x,ix with
 |some .string, .c (.d (.v (.string s))), .c (.d (.v (.int _ n)))=>decide (0≤n)&&decide (n<s.size)
 |_,_,_=>true
def JG (op:BinOp) (x y:AV):Bool:=
 match x,y with
 | .c (.d (.v (.int k a))), .c (.d (.v (.int k' b)))=>
   match op with
   | .add=>decide (k=k')&&I4 k (a+b)
   | .sub=>decide (k=k')&&I4 k (a-b)
   | .mul=>decide (k=k')&&I4 k (a*b)
   |_=>decide (k=k')
 |_,_=>true
def EQ (op:BinOp) (x y:AV):Bool:=
 match x,y with
 | .c (.d (.v (.int k a))), .c (.d (.v (.int k' b)))=>decide (k=k')
 | .c (.d (.v (.string p))), .c (.d (.v (.string q)))=>decide (p.size+q.size≤140737488355328)
 |_,_=>true
def P6 (P:Program) (T:TypeId) (x y:AV):Bool:=
 match Qw P T,x,y with
 |some ks, .agg xs, .agg ys=>
  match zW xs ys with
  |some (ks',b)=>decide (ks=ks')
  |none=>true
 |_,_,_=>true
def wM (P:Program) (op:BinOp) (T:TypeId) (u v:AV):Bool:=
 match u with
 | .agg _=>P6 P T u v
 | .c (.d (.v (.bool a)))=>true
 |_=>JG op u v
def BR (P:Program) (T:TypeId):List C→List (Nat×AV)→Bool
 |cs,[]=>true
 |cs,(f,v)::rest=>
  match gY P T f,cellsOf v with
  |some (fo,ft),some cs'=>
   match ti P ft with
   |some t=>decide (cs'.length=t.size)&&(decide (fo+t.size≤cs.length)&&BR P T (splice cs fo cs') rest)
   |none=>true
  |_,_=>true
def BC (P:Program) (T:TypeId) (parts:List (Nat×AV)):Bool:=
 match ti P T,jC P T with
 |some t,true=>BR P T (t.zero.map fun z=> .d (.v z)) parts
 |_,_=>true
def vI (sz n:Nat):List (Nat×AV)→Bool
 |[]=>true
 |(i,v)::rest=>
  match cellsOf v with
  |some cs=>decide (cs.length=sz)&&(decide (i<n)&&vI sz n rest)
  |none=>true
def lT (P:Program) (T n:Nat) (parts:List (Nat×AV)):Bool:=
 match sQ P T with
 |some e=>
  match ti P e with
  |some t=>decide (n*t.size≤16777216)&&vI t.size n parts
  |none=>true
 |none=>true
def nY (P:Program) (T:TypeId) (x y:AV):Bool:=
 match sQ P T,x,y with
 |some e, .c (.d (.v (.int _ n))), .c (.d (.v (.int _ m)))=>
  match ti P e with
  |some t=>decide (n=m)&&(decide (0≤n)&&(decide ((t.bytes:Int)*n≤140737488355328)&&decide (n≤9223372036854775807)))
  |none=>true
 |_,_,_=>true
def GG (sz:Nat):List (List C)→Bool
 |[]=>true
 |l::ls=>decide (l.length=sz)&&GG sz ls
theorem xg {sz:Nat}:∀{ls:List (List C)},GG sz ls=true→∀l∈ls,l.length=sz
 |[],_,_,h=>by cases h
 |l::ls,h,y,hy=>by
  simp only[GG,Uf,TW] at h
  rcases TS.1 hy with rfl|hy
  ·exact h.1
  ·exact xg h.2 y hy
def jg (y:AV) (ob:Nat→Option AO):Bool:=
 match y with
 | .c (.ms id sz off len)=>
   match ob id with
   |some (.arr sz' xs)=>decide (off+len≤xs.length)&&decide (sz=sz')
   |_=>true
 |_=>true
def jE (P:Program) (T T' id:Nat) (x y:AV) (ob:Nat→Option AO):Bool:=
 match sQ P T,sQ P T' with
 |some e,some e'=>
  match ti P e with
  |some t=>
   match elemsOf y ob with
   |some (ys,ids,ps)=>
    decide (e=e')&&(decide (t.bytes≠0)&&(GG t.size ys&&(jg y ob&&
    match x with
    | .c (.ms id0 sz off len)=>
      match ob id0 with
      |some (.arr sz' xs)=>decide (sz=t.size)&&(decide (sz'=t.size)&&(decide (off=0)&&(decide (len=xs.length)&&(decide (id0≠id)&&(decide (id0∉ids)&&decide ((len+ys.length)*t.bytes≤140737488355328))))))
      |_=>true
    |_=>decide (ys.length*t.bytes≤140737488355328))))
   |none=>true
  |none=>true
 |_,_=>true
def oh (P:Program) (T:TypeId) (x:AV) (lo hi:Option AV):Bool:=
 match P.underlying T,x with
 |some .string, .c (.d (.v (.string s)))=>
  match lo,hi with
  |some (.c (.d (.v (.int _ l)))),some (.c (.d (.v (.int _ h))))=>decide (0≤l)&&(decide (l≤h)&&decide (h≤s.size))
  |some (.c (.d (.v (.int _ l)))),none=>decide (0≤l)&&decide (l≤s.size)
  |none,some (.c (.d (.v (.int _ h))))=>decide (0≤h)&&decide (h≤s.size)
  |_,_=>true
 |some (.slice e), .c (.d (.ps sz xs))=>
  match ti P e with
  |some t=>
   match lo,hi with
   |some (.c (.d (.v (.int _ l)))),some (.c (.d (.v (.int _ h))))=>decide (sz=t.size)&&(decide (0≤l)&&(decide (l≤h)&&decide (h≤xs.length)))
   |some (.c (.d (.v (.int _ l)))),none=>decide (sz=t.size)&&(decide (0≤l)&&decide (l≤xs.length))
   |none,some (.c (.d (.v (.int _ h))))=>decide (sz=t.size)&&(decide (0≤h)&&decide (h≤xs.length))
   |_,_=>true
  |none=>true
 |_,_=>true
def rG (P:Program) (src dst:TypeId) (x:AV):Bool:=
 match P.underlying src,P.underlying dst,x with
 |some (.int _),some (.int k), .c (.d (.v (.int _ n)))=>I4 k n
 |_,_,_=>true
def o8:List Kd→List C→Bool
 |[],[]=>true
 | .int k::ks, .d (.v (.int k' _))::cs=>decide (k=k')&&o8 ks cs
 | .str::ks, .d (.v (.string _))::cs=>o8 ks cs
 | .bool::ks, .d (.v (.bool _))::cs=>o8 ks cs
 |_,_=>false
theorem vV:∀{ks:List Kd} {cs:List C},o8 ks cs=true→bi ks cs:=by
 intro ks cs
 induction ks,cs using o8.induct with
 |case1=>intro _;trivial
 |case2 k ks k' n cs ih=>intro h;simp only[o8,Uf,TW] at h;exact⟨h.1,ih h.2⟩
 |case3 ks s cs ih=>intro h;exact ih h
 |case4 ks s cs ih=>intro h;exact ih h
 |case5 ks cs h1 h2 h3 h4=>intro h;simp[o8] at h
def keysB (f:Bool) (ks:List Kd):List oU→Bool
 |[]=>true
 |e::es=>decide (e.1.1=f)&&(o8 ks e.1.2&&keysB f ks es)
theorem bJ {f:Bool} {ks:List Kd}:∀{es:List oU},keysB f ks es=true→∀e∈es,e.1.1=f∧bi ks e.1.2
 |[],_,_,h=>by cases h
 |e::es,h,y,hy=>by
  simp only[keysB,Uf,TW] at h
  rcases TS.1 hy with rfl|hy
  ·exact⟨h.1,vV h.2.1⟩
  ·exact bJ h.2.2 y hy
def xH (P:Program) (T:TypeId) (m k:AV) (ob:Nat→Option AO):Bool:=
 match vY P T with
 |none=>true
 |some (K,E)=>
  match sG P K,FC k,nV m ob with
  |some (f,ks),some key,some es=>decide (key.1=f)&&(o8 ks key.2&&keysB f ks es)
  |_,_,_=>true
def jV (P:Program) (T:TypeId) (m k:AV) (ob:Nat→Option AO):Bool:=
 match vY P T with
 |none=>true
 |some (K,_)=>
  match sG P K,FC k,m with
  |some (f,ks),some key, .c (.mp id)=>
   match ob id with
   |some (.map es)=>decide (key.1=f)&&(o8 ks key.2&&keysB f ks es)
   |_=>true
  |_,_,_=>true
def okB (P:Program) (wr:Bool) (op:Op) (id:Nat) (e:Operand→Option AV) (ob:Nat→Option AO):Bool:=
 match op with
 | .load T a=>(e a).elim true fun v=>A7 P T v ob
 | .store T a x=>(e a).elim true fun u=>(e x).elim true fun v=>Bi P T u v ob
 | .binOp op T x y _=>(e x).elim true fun u=>(e y).elim true fun v=>if wr&&Qb op then EQ op u v else wM P op T u v
 | .field T x f=>(e x).elim true fun v=>EE P T v f
 | .indexAddr T x i=>(e x).elim true fun u=>(e i).elim true fun v=>nI P T u v
 | .index T x i=>(e x).elim true fun u=>(e i).elim true fun v=>AY P T u v
 | .call {callee:= .builtin .append,args:=⟨[x,y]⟩,argTypes:=⟨[T,T']⟩}=>(e x).elim true fun u=>(e y).elim true fun v=>jE P T T' id u v ob
 | .build T ⟨ps⟩=>(fF e ps).elim true fun vs=>BC P T vs
 | .buildSlice T n ⟨ps⟩=>(fF e ps).elim true fun vs=>lT P T n vs
 | .makeSlice T x y=>(e x).elim true fun u=>(e y).elim true fun v=>nY P T u v
 | .slice T x (some l) (some h) none=>(e x).elim true fun u=>(e l).elim true fun a=>(e h).elim true fun b=>oh P T u (some a) (some b)
 | .slice T x (some l) none none=>(e x).elim true fun u=>(e l).elim true fun a=>oh P T u (some a) none
 | .slice T x none (some h) none=>(e x).elim true fun u=>(e h).elim true fun b=>oh P T u none (some b)
 | .slice _ _ _ _ (some _)=>false
 | .convert s d x=>(e x).elim true fun u=>rG P s d u
 | .lookup T m k ok=>(e m).elim true fun u=>(e k).elim true fun v=>xH P T u v ob
 | .mapUpdate T m k v=>(e m).elim true fun u=>(e k).elim true fun a=>jV P T u a ob
 | .insert T m k v=>(e m).elim true fun u=>(e k).elim true fun a=>jV P T u a ob
 |_=>true
section
variable {P:Program} {out:Out} {ob:Nat→Option AO}
theorem rZ {T:TypeId} {x:AV} (h:A7 P T x ob=true) (he:fG P T x ob=some out):All out.obl:=by
 unfold A7 at h;unfold fG at he
 repeat' split at he
 all_goals first|(cases he;done)|(cases he;simp_all[All];done)|(cases he;simp_all[All];obtain⟨rfl,h⟩:=h;simp_all)
theorem ER {T:TypeId} {x v:AV} (h:Bi P T x v ob=true) (he:gu P T x v ob=some out):All out.obl:=by
 unfold Bi at h;unfold gu at he
 repeat' split at he
 all_goals first|(cases he;done)|(cases he;simp_all[All];done)|(cases he;simp_all[All];obtain⟨rfl,h⟩:=h;simp_all)
theorem II {T:TypeId} {x:AV} {f:Nat} (h:EE P T x f=true) (he:oG P T x f=some out):All out.obl:=by
 unfold EE at h;unfold oG at he
 repeat' split at he
 all_goals first|(cases he;done)|(cases he;simp_all[All];done)|(cases he;simp_all[All];obtain⟨rfl,h⟩:=h;simp_all)
theorem wE {T:TypeId} {x i:AV} (h:nI P T x i=true) (he:eF P T x i=some out):All out.obl:=by
 unfold nI at h;unfold eF at he
 repeat' split at he
 all_goals first|(cases he;done)|(cases he;simp_all[All];done)|(cases he;simp_all[All];obtain⟨rfl,h⟩:=h;simp_all)
theorem FI {T:TypeId} {x i:AV} (h:AY P T x i=true) (he:kZ P T x i=some out):All out.obl:=by
 unfold AY at h;unfold kZ at he
 repeat' split at he
 all_goals first|(cases he;done)|(cases he;simp_all[All];done)|(cases he;simp_all[All];obtain⟨rfl,h⟩:=h;simp_all)
theorem JY {op:BinOp} {x y:AV} (h:JG op x y=true) (he:rF op x y=some out):All out.obl:=by
 unfold JG at h;unfold rF at he
 repeat' split at he
 all_goals first|(cases he;done)|(cases he;simp only[Uf,TW] at h;first|exact⟨h.1,Gt h.2,trivial⟩|exact⟨h,trivial⟩|trivial)
theorem IC {op:BinOp} {x y:AV} (h:EQ op x y=true) (he:oN op x y=some out):All out.obl:=by
 unfold EQ at h;unfold oN at he
 repeat' split at he
 all_goals first|(cases he;done)|(cases he;simp_all[All];done)|(cases he;simp_all[All];obtain⟨rfl,h⟩:=h;simp_all)
theorem Ny {op:BinOp} {T:TypeId} {x y:AV} (h:P6 P T x y=true) (he:zT P op T x y=some out):All out.obl:=by
 unfold P6 at h;unfold zT at he
 repeat' split at he
 all_goals first|(cases he;done)|(cases he;simp_all[All];done)|(cases he;simp_all[All];obtain⟨rfl,h⟩:=h;simp_all)
theorem Dv {op:BinOp} {T:TypeId} {u v:AV} (h:wM P op T u v=true) (he:xG P op T u v=some out):All out.obl:=by
 unfold wM at h;unfold xG at he
 split at he
 ·exact Ny h he
 ·unfold lm at he
  split at he
  ·cases he;trivial
  ·cases he;trivial
  ·cases he
 ·rename_i h1 h2
  split at h
  ·exact absurd rfl (h1 _)
  ·exact absurd rfl (h2 _)
  ·exact JY h he
theorem yY {T:TypeId}:∀{ps:List (Nat×AV)} {cs r:List C} {qs:List Prop},BR P T cs ps=true→uj P T cs ps=some (r,qs)→All qs
 |[],cs,r,qs,_,he=>by cases he;trivial
 |(f,v)::ps,cs,r,qs,h,he=>by
  simp only[BR] at h;simp only[uj] at he
  split at he
  ·rename_i h1 h2
   split at he
   ·rename_i h3
    split at he
    ·rename_i h4
     cases he
     simp only[h1,h2,h3,Uf,TW] at h
     exact⟨h.1,h.2.1,yY h.2.2 h4⟩
    ·cases he
   ·cases he
  ·cases he
theorem FU {T:TypeId} {ps:List (Nat×AV)} (h:BC P T ps=true) (he:lh P T ps=some out):All out.obl:=by
 unfold BC at h;unfold lh at he
 split at he
 ·rename_i h1 h2
  simp only[h1,h2] at h
  split at he
  ·rename_i h3;cases he;exact yY h h3
  ·cases he
 ·cases he
theorem xP {sz:Nat}:∀{ps:List (Nat×AV)} {xs r:List (List C)} {qs:List Prop},vI sz xs.length ps=true→nJ sz xs ps=some (r,qs)→All qs
 |[],xs,r,qs,_,he=>by cases he;trivial
 |(i,v)::ps,xs,r,qs,h,he=>by
  simp only[vI] at h;simp only[nJ] at he
  split at he
  ·rename_i cs h1
   split at he
   ·rename_i h2
    cases he
    simp only[h1,Uf,TW] at h
    exact⟨h.1,h.2.1,xP (by rw[List.length_set];exact h.2.2) h2⟩
   ·cases he
  ·cases he
theorem uF {T n id:Nat} {ps:List (Nat×AV)} (h:lT P T n ps=true) (he:dw P T n id ps ob=some out):All out.obl:=by
 unfold lT at h;unfold dw at he
 split at he
 ·rename_i h1 _
  split at he
  ·rename_i t h2
   split at he
   ·rename_i h3
    cases he
    simp only[h1,h2,Uf,TW] at h
    exact⟨h.1,xP (by rw[List.length_replicate];exact h.2) h3⟩
   ·cases he
  ·cases he
 ·cases he
theorem xZ {T id:Nat} {x y:AV} (h:nY P T x y=true) (he:dL P T id x y ob=some out):All out.obl:=by
 unfold nY at h;unfold dL at he
 repeat' split at he
 all_goals first|(cases he;done)|(cases he;simp_all[All];done)|(cases he;simp_all[All];obtain⟨rfl,h⟩:=h;simp_all)
theorem Cf {y:AV} {ys:List (List C)} {ids:List Nat} {ps:List Prop} (h:jg y ob=true) (he:elemsOf y ob=some (ys,ids,ps)):All ps:=by
 unfold jg at h;unfold elemsOf at he
 repeat' split at he
 all_goals first|(cases he;done)|(cases he;simp_all[All];done)|(cases he;simp_all[All];obtain⟨rfl,h⟩:=h;simp_all)
theorem sS {T T' id:Nat} {x y:AV} (h:jE P T T' id x y ob=true) (he:di P T T' id x y ob=some out):All out.obl:=by
 unfold jE at h;unfold di at he
 split at he
 ·rename_i e e' h1 h2 h3
  split at he
  ·rename_i t h4
   split at he
   ·rename_i ys ids ps h5
    simp only[h1,h2,h4,h5,Uf] at h
    obtain⟨g1,g2,g3,g4,h⟩:=h
    have g5:=Cf g4 h5
    split at he
    ·cases he
     simp only[TW] at g1 g2 h
     exact⟨g1,g2,h,xg g3,g5⟩
    ·split at he
     ·rename_i h6
      cases he
      simp only[h6,Uf,TW] at g1 g2 h
      obtain⟨a1,a2,a3,a4,a5,a6,a7⟩:=h
      exact⟨g1,g2,a1,a2,a3,a4,a5,a6,a7,xg g3,g5⟩
     ·cases he
    ·cases he
   ·cases he
  ·cases he
 ·cases he
theorem pW {T:TypeId} {x:AV} {lo hi:Option AV} (h:oh P T x lo hi=true) (he:iM P T x lo hi=some out):All out.obl:=by
 unfold oh at h;unfold iM at he
 repeat' split at he
 all_goals first|(cases he;done)|(cases he;simp_all[All];done)|(cases he;simp_all[All];obtain⟨rfl,h⟩:=h;simp_all)
theorem BQ {S D:TypeId} {x:AV} (h:rG P S D x=true) (he:iE P S D x=some out):All out.obl:=by
 unfold rG at h;unfold iE at he
 split at he
 ·rename_i h1 h2;cases he;simp only[h1,h2] at h;exact⟨Gt h,trivial⟩
 ·cases he;trivial
 ·cases he
theorem Di {T:TypeId} {m k:AV} {ok:Bool} (h:xH P T m k ob=true) (he:eu P T m k ok ob=some out):All out.obl:=by
 unfold xH at h;unfold eu at he
 split at he
 ·cases he
 ·rename_i h1
  simp only[h1] at h
  split at he
  ·rename_i h2 h3 h4 h5
   simp only[h2,h4,h5,Uf,TW] at h
   have key:=And.intro h.1 (And.intro (vV h.2.1) (And.intro (bJ h.2.2) trivial))
   split at he
   ·cases he;exact key
   ·split at he
    ·cases he;exact key
    ·cases he
  ·cases he
theorem mV {T:TypeId} {m k v:AV} (h:jV P T m k ob=true) (he:bK P T m k v ob=some out):All out.obl:=by
 unfold jV at h;unfold bK at he
 split at he
 ·cases he
 ·rename_i h1
  simp only[h1] at h
  split at he
  ·rename_i h2 h3 h4
   simp only[h2,h3] at h
   split at he
   ·rename_i h5
    cases he
    simp only[h5,Uf,TW] at h
    exact⟨h.1,vV h.2.1,bJ h.2.2,trivial⟩
   ·cases he
  ·cases he
theorem Qj {wr:Bool} {op:Op} {id:Nat} {e:Operand→Option AV} (h:okB P wr op id e ob=true) (he:eff P wr op id e ob=some out):All out.obl:=by
 unfold eff at he
 split at he
 all_goals(simp only[okB] at h)
 all_goals(try simp only[xO,Ud,TU] at he)
 ·obtain⟨_,_,rfl⟩:=he;trivial
 ·obtain⟨_,_,rfl⟩:=he;trivial
 ·unfold kY at he;split at he<;>cases he;trivial
 ·obtain⟨_,_,he⟩:=he;unfold rC at he;split at he<;>cases he;trivial
 ·obtain⟨v,hv,he⟩:=he;rw[hv] at h;exact rZ h he
 ·obtain⟨v,hv,u,hu,he⟩:=he;rw[hv,hu] at h;exact ER h he
 ·obtain⟨v,hv,he⟩:=he;unfold wu at he;split at he<;>cases he<;>trivial
 ·obtain⟨v,hv,u,hu,he⟩:=he
  rw[hv,hu] at h;simp only[Option.elim] at h
  split at he
  ·rename_i hw;rw[if_pos hw] at h;exact IC h he
  ·rename_i hw;rw[if_neg hw] at h;exact Dv h he
 ·obtain⟨v,hv,he⟩:=he;unfold yz at he;split at he<;>cases he;trivial
 ·obtain⟨v,hv,he⟩:=he;unfold nO at he;repeat' split at he
  all_goals first|(cases he;done)|(cases he;trivial)
 ·obtain⟨v,hv,he⟩:=he;rw[hv] at h;exact II h he
 ·obtain⟨v,hv,u,hu,he⟩:=he;rw[hv,hu] at h;exact wE h he
 ·obtain⟨v,hv,u,hu,he⟩:=he;rw[hv,hu] at h;exact FI h he
 ·obtain⟨v,hv,he⟩:=he;unfold jo at he;repeat' split at he
  all_goals first|(cases he;done)|(cases he;trivial)
 ·obtain⟨v,hv,he⟩:=he;unfold nT at he;repeat' split at he
  all_goals first|(cases he;done)|(cases he;trivial)
 ·obtain⟨v,hv,u,hu,he⟩:=he;rw[hv,hu] at h;exact sS h he
 ·obtain⟨v,hv,u,hu,he⟩:=he;unfold eP at he;split at he<;>cases he;trivial
 ·obtain⟨v,hv,u,hu,he⟩:=he;unfold eP at he;split at he<;>cases he;trivial
 ·obtain⟨v,hv,he⟩:=he;rw[hv] at h;exact FU h he
 ·obtain⟨v,hv,he⟩:=he;rw[hv] at h;exact uF h he
 ·obtain⟨v,hv,u,hu,he⟩:=he;rw[hv,hu] at h;exact xZ h he
 ·unfold dI at he;split at he<;>cases he;trivial
 ·obtain⟨v,hv,he⟩:=he;unfold kK at he;split at he
  ·unfold dI at he;split at he<;>cases he;trivial
  ·cases he
 ·obtain⟨v,hv,u,hu,y,hy,he⟩:=he;rw[hv,hu,hy] at h;exact pW h he
 ·obtain⟨v,hv,u,hu,he⟩:=he;rw[hv,hu] at h;exact pW h he
 ·obtain⟨v,hv,u,hu,he⟩:=he;rw[hv,hu] at h;exact pW h he
 ·cases h
 ·obtain⟨v,hv,he⟩:=he;rw[hv] at h;exact BQ h he
 ·obtain⟨v,hv,u,hu,he⟩:=he;rw[hv,hu] at h;exact Di h he
 ·obtain⟨v,hv,u,hu,y,hy,he⟩:=he;rw[hv,hu] at h;exact mV h he
 ·obtain⟨v,hv,u,hu,y,hy,he⟩:=he;rw[hv,hu] at h;exact mV h he
 ·obtain⟨v,hv,he⟩:=he;unfold iK at he;split at he<;>cases he<;>trivial
 ·obtain⟨v,hv,he⟩:=he;unfold iP at he;repeat' split at he
  all_goals first|(cases he;done)|(cases he;trivial)
 ·obtain⟨v,hv,he⟩:=he;cases he;trivial
 ·obtain⟨v,hv,he⟩:=he;cases he;trivial
 ·cases he
end
end Go.Ab
