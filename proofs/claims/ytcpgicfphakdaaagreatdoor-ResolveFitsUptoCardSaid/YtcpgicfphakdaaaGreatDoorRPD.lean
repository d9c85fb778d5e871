/- A part of the proof. -/
import Derived.Test.YtcpgicfphakdaaaGreatDoorRBd
import Derived.Test.YtcpgicfphakdaaaGreatDoorRAbDl
set_option linter.all false
namespace Go.Proofs.YtcpgicfphakdaaaGreatDoor.Tys
open Go.Ab Go.Proofs
end Go.Proofs.YtcpgicfphakdaaaGreatDoor.Tys
set_option linter.all false
namespace Go.Proofs.YtcpgicfphakdaaaGreatDoor
section
open Go.Ab Tys
theorem p2 {A B:Prop} (a:A) (b:B):A∧B:=⟨a,b⟩
theorem p3 {A B C:Prop} (a:A) (b:B) (c:C):A∧B∧C:=⟨a,b,c⟩
theorem p4 {A B C D:Prop} (a:A) (b:B) (c:C) (d:D):A∧B∧C∧D:=⟨a,b,c,d⟩
theorem p5 {A B C D E:Prop} (a:A) (b:B) (c:C) (d:D) (e:E):A∧B∧C∧D∧E:=⟨a,b,c,d,e⟩
theorem p6 {A B C D E F:Prop} (a:A) (b:B) (c:C) (d:D) (e:E) (f:F):A∧B∧C∧D∧E∧F:=⟨a,b,c,d,e,f⟩
theorem p7 {A B C D E F G:Prop} (a:A) (b:B) (c:C) (d:D) (e:E) (f:F) (g:G):A∧B∧C∧D∧E∧F∧G:=⟨a,b,c,d,e,f,g⟩
theorem p8 {A B C D E F G H:Prop} (a:A) (b:B) (c:C) (d:D) (e:E) (f:F) (g:G) (h:H):A∧B∧C∧D∧E∧F∧G∧H:=⟨a,b,c,d,e,f,g,h⟩
theorem p9 {A B C D E F G H I:Prop} (a:A) (b:B) (c:C) (d:D) (e:E) (f:F) (g:G) (h:H) (i:I):A∧B∧C∧D∧E∧F∧G∧H∧I:=⟨a,b,c,d,e,f,g,h,i⟩
theorem p10 {A B C D E F G H I J:Prop} (a:A) (b:B) (c:C) (d:D) (e:E) (f:F) (g:G) (h:H) (i:I) (j:J):A∧B∧C∧D∧E∧F∧G∧H∧I∧J:=⟨a,b,c,d,e,f,g,h,i,j⟩
theorem p11 {A B C D E F G H I J K:Prop} (a:A) (b:B) (c:C) (d:D) (e:E) (f:F) (g:G) (h:H) (i:I) (j:J) (k:K):A∧B∧C∧D∧E∧F∧G∧H∧I∧J∧K:=⟨a,b,c,d,e,f,g,h,i,j,k⟩
theorem p12 {A B C D E F G H I J K L:Prop} (a:A) (b:B) (c:C) (d:D) (e:E) (f:F) (g:G) (h:H) (i:I) (j:J) (k:K) (l:L):A∧B∧C∧D∧E∧F∧G∧H∧I∧J∧K∧L:=⟨a,b,c,d,e,f,g,h,i,j,k,l⟩
theorem p13 {A B C D E F G H I J K L M:Prop} (a:A) (b:B) (c:C) (d:D) (e:E) (f:F) (g:G) (h:H) (i:I) (j:J) (k:K) (l:L) (m:M):A∧B∧C∧D∧E∧F∧G∧H∧I∧J∧K∧L∧M:=⟨a,b,c,d,e,f,g,h,i,j,k,l,m⟩
theorem MP {A B C D E F G H I J K L M N:Prop} (a:A) (b:B) (c:C) (d:D) (e:E) (f:F) (g:G) (h:H) (i:I) (j:J) (k:K) (l:L) (m:M) (n:N):A∧B∧C∧D∧E∧F∧G∧H∧I∧J∧K∧L∧M∧N:=⟨a,b,c,d,e,f,g,h,i,j,k,l,m,n⟩
theorem U6 {A B C D E F G H I J K L M N O:Prop} (a:A) (b:B) (c:C) (d:D) (e:E) (f:F) (g:G) (h:H) (i:I) (j:J) (k:K) (l:L) (m:M) (n:N) (o:O):A∧B∧C∧D∧E∧F∧G∧H∧I∧J∧K∧L∧M∧N∧O:=⟨a,b,c,d,e,f,g,h,i,j,k,l,m,n,o⟩
theorem p16 {A B C D E F G H I J K L M N O P:Prop} (a:A) (b:B) (c:C) (d:D) (e:E) (f:F) (g:G) (h:H) (i:I) (j:J) (k:K) (l:L) (m:M) (n:N) (o:O) (p:P):A∧B∧C∧D∧E∧F∧G∧H∧I∧J∧K∧L∧M∧N∧O∧P:=⟨a,b,c,d,e,f,g,h,i,j,k,l,m,n,o,p⟩
section
variable [Dr] {P:Program} {x:X} {s s':S} {Q:Exit→S→Prop} {ops l l':List Oper} {G G':Prop}
structure Hid (G:Prop):Prop where
 out:G
theorem aZ (g:G') (h:G'→G:=by intro h9;(repeat (with_reducible first|refine na ?_|refine nb ?_|refine nc ?_|refine nd ?_|refine ne ?_|refine nf ?_|refine ng ?_|refine nh ?_|refine ni ?_|refine nj ?_|refine nk ?_|refine nl ?_|refine nm (by decide) ?_|refine nn ?_));exact h9):G:=h g
theorem Io (g:G') (h:G'→G:=by intro h9;(with_reducible first|refine na ?_|refine nb ?_|refine nc ?_|refine nd ?_|refine ne ?_|refine nf ?_|refine ng ?_|refine nh ?_|refine ni ?_|refine nj ?_|refine nk ?_|refine nl ?_|refine nm (by decide) ?_|refine nn ?_);(repeat (with_reducible first|refine na ?_|refine nb ?_|refine nc ?_|refine nd ?_|refine ne ?_|refine nf ?_|refine ng ?_|refine nh ?_|refine ni ?_|refine nj ?_|refine nk ?_|refine nl ?_|refine nm (by decide) ?_|refine nn ?_));exact h9):G:=h g
theorem fE (g:G') (h:G'→G:=by intro h9;simp only[Ab.put,Nat.reduceEqDiff, ↓reduceIte,reduceCtorEq,if_false,if_true];exact h9):G:=h g
theorem Gl {wr:Bool} {ps:List Prop} (h:Uc P wr ops 400 l s=some (s',ps,l')) (hk:TO P x ops l' s' Q) (ho:All ps:=by first|exact trivial|(simp only[kO];omega)|(simp[All,dB];first|done|omega)|(simp+contextual [All,dB];first|done|grind)):TO P x ops l s Q:=dD 400 h ho hk
theorem nv (g:G') (h:Hid G'→G:=by intro h9;(first|refine Io ?_|refine Gl (wr:=false) (by simp only[kk,Nat.reduceAdd,Nat.reduceLT,Nat.reduceEqDiff, ↓reduceIte,reduceCtorEq];first|done|rfl) ?_);(repeat (first|refine Io ?_|refine Gl (wr:=false) (by simp only[kk,Nat.reduceAdd,Nat.reduceLT,Nat.reduceEqDiff, ↓reduceIte,reduceCtorEq];first|done|rfl) ?_));exact h9.out):G:=h ⟨g⟩
theorem nx {E:Prop} (e:E) (g:G') (h:E→Hid G'→G:=by intro e9 h9;(first|refine Io ?_|refine Gl (wr:=false) (by simp only[kk,Nat.reduceAdd,Nat.reduceLT,Nat.reduceEqDiff, ↓reduceIte,reduceCtorEq,e9];first|done|rfl) ?_);(repeat (first|refine Io ?_|refine Gl (wr:=false) (by simp only[kk,Nat.reduceAdd,Nat.reduceLT,Nat.reduceEqDiff, ↓reduceIte,reduceCtorEq,e9];first|done|rfl) ?_));exact h9.out):G:=h e ⟨g⟩
theorem gg {ps:List Prop} (hk:TO P x ops l' s' Q) (h:Uc P false ops 400 l s=some (s',ps,l'):=by simp only[kk,Nat.reduceAdd,Nat.reduceLT,Nat.reduceEqDiff, ↓reduceIte,reduceCtorEq];first|done|rfl) (ho:All ps:=by first|exact trivial|(simp only[kO];omega)|(simp[All,dB];first|done|omega)|(simp+contextual [All,dB];first|done|grind)):TO P x ops l s Q:=dD 400 h ho hk
theorem gx {E:Prop} (e:E) {ps:List Prop} (hk:TO P x ops l' s' Q) (h:E→Uc P false ops 400 l s=some (s',ps,l'):=by intro e9;simp only[kk,Nat.reduceAdd,Nat.reduceLT,Nat.reduceEqDiff, ↓reduceIte,reduceCtorEq,e9];first|done|rfl) (ho:All ps:=by first|exact trivial|(simp only[kO];omega)|(simp[All,dB];first|done|omega)|(simp+contextual [All,dB];first|done|grind)):TO P x ops l s Q:=dD 400 (h e) ho hk
theorem gq {ps:List Prop} (ho:All ps) (hk:TO P x ops l' s' Q) (h:Uc P false ops 400 l s=some (s',ps,l'):=by simp only[kk,Nat.reduceAdd,Nat.reduceLT,Nat.reduceEqDiff, ↓reduceIte,reduceCtorEq];first|done|rfl):TO P x ops l s Q:=dD 400 h ho hk
theorem gy {E:Prop} (e:E) {ps:List Prop} (ho:All ps) (hk:TO P x ops l' s' Q) (h:E→Uc P false ops 400 l s=some (s',ps,l'):=by intro e9;simp only[kk,Nat.reduceAdd,Nat.reduceLT,Nat.reduceEqDiff, ↓reduceIte,reduceCtorEq,e9];first|done|rfl):TO P x ops l s Q:=dD 400 (h e) ho hk
theorem aj {c:Operand} {d d':Code} {b:Bool} (h1:b=true→T P x d s Q) (h2:b=false→T P x d' s Q) (hc:ev s c=some (B b):=by simp only[kV, ↓reduceIte,Nat.reduceEqDiff,reduceCtorEq];first|done|rfl):T P x (.cond c d d') s Q:=yj hc h1 h2
theorem bQ (hn:s'.n=s.n:=by rfl) (he:∀p∈s'.env,get s.env p.1=some (gz (fun i=>i) p.2)∧aJ (ae s'.st) p.2:=by first|(simp only[kE,ay,bM,dV,aV,bT, ↓reduceIte,Nat.reduceEqDiff,reduceCtorEq];done)|simp[aH,ax,ah,Ab.get,aJ,cZ,aB,bM,dV,aV,bT,bF,aI,aS,aO,aQ,aT,aP,ae,List.flatten]) (h1:∀p∈s'.st,get s.st ((fun i=>i) p.1)=some (eU (fun i=>i) p.2):=by first|(simp only[kE,ay,bM,dV,aV,bT, ↓reduceIte,Nat.reduceEqDiff,reduceCtorEq];done)|simp[aH,ax,ah,Ab.get,aJ,cZ,aB,bM,dV,aV,bT,bF,aI,aS,aO,aQ,aT,aP,ae,List.flatten]) (h2:(s'.st.map fun p=>(fun i=>i) p.1).Nodup:=by first|(simp only[kE,ay,bM,dV,aV,bT, ↓reduceIte,Nat.reduceEqDiff,reduceCtorEq];done)|simp[aH,ax,ah,Ab.get,aJ,cZ,aB,bM,dV,aV,bT,bF,aI,aS,aO,aQ,aT,aP,ae,List.flatten]) (h3:∀p∈s'.st,bF (ae s'.st) p.2:=by first|(simp only[kE,ay,bM,dV,aV,bT, ↓reduceIte,Nat.reduceEqDiff,reduceCtorEq];done)|simp[aH,ax,ah,Ab.get,aJ,cZ,aB,bM,dV,aV,bT,bF,aI,aS,aO,aQ,aT,aP,ae,List.flatten]) (h4:∀id,x.d0 id→ae s'.st id=true∧id=id:=by exact bW (by assumption) (by simp[ae,Ab.get])):BN x s s':=bi (fun i=>i) hn he ⟨h1,h2,h3,h4⟩
theorem Dc {E:Prop} (e:E) (hn:s'.n=s.n:=by rfl) (he:E→∀p∈s'.env,get s.env p.1=some (gz (fun i=>i) p.2)∧aJ (ae s'.st) p.2:=by intro e9;first|(simp only[kE,ay,bM,dV,aV,bT, ↓reduceIte,Nat.reduceEqDiff,reduceCtorEq,e9];done)|simp[aH,ax,ah,Ab.get,aJ,cZ,aB,bM,dV,aV,bT,bF,aI,aS,aO,aQ,aT,aP,ae,List.flatten,e9]) (h1:E→∀p∈s'.st,get s.st ((fun i=>i) p.1)=some (eU (fun i=>i) p.2):=by intro e9;first|(simp only[kE,ay,bM,dV,aV,bT, ↓reduceIte,Nat.reduceEqDiff,reduceCtorEq,e9];done)|simp[aH,ax,ah,Ab.get,aJ,cZ,aB,bM,dV,aV,bT,bF,aI,aS,aO,aQ,aT,aP,ae,List.flatten,e9]) (h2:E→(s'.st.map fun p=>(fun i=>i) p.1).Nodup:=by intro e9;first|(simp only[kE,ay,bM,dV,aV,bT, ↓reduceIte,Nat.reduceEqDiff,reduceCtorEq,e9];done)|simp[aH,ax,ah,Ab.get,aJ,cZ,aB,bM,dV,aV,bT,bF,aI,aS,aO,aQ,aT,aP,ae,List.flatten,e9]) (h3:E→∀p∈s'.st,bF (ae s'.st) p.2:=by intro e9;first|(simp only[kE,ay,bM,dV,aV,bT, ↓reduceIte,Nat.reduceEqDiff,reduceCtorEq,e9];done)|simp[aH,ax,ah,Ab.get,aJ,cZ,aB,bM,dV,aV,bT,bF,aI,aS,aO,aQ,aT,aP,ae,List.flatten,e9]) (h4:∀id,x.d0 id→ae s'.st id=true∧id=id:=by exact bW (by assumption) (by simp[ae,Ab.get])):BN x s s':=bi (fun i=>i) hn (he e) ⟨h1 e,h2 e,h3 e,h4⟩
theorem uZ (ρ:Nat→Nat) (hn:s'.n=s.n:=by rfl) (he:∀p∈s'.env,get s.env p.1=some (gz ρ p.2)∧aJ (ae s'.st) p.2:=by first|(simp only[kE,ay, ↓reduceIte,Nat.reduceEqDiff,reduceCtorEq];done)|(simp only[ay,pz,o9,afr,agW,ajr,forall_eq_or_imp,forall_eq];simp[gz,gK,eU,iP,ah,Ab.get,aJ,cZ,aB,bM,dV,aV,bT,aI,jD,bF,aS,aO,aQ,aT,aP,ae,List.flatten];done)|simp[gz,gK,eU,iP,ah,Ab.get,aJ,cZ,aB,bM,dV,aV,bT,aI,jD,bF,aS,aO,aQ,aT,aP,ae,List.flatten]) (h1:∀p∈s'.st,get s.st (ρ p.1)=some (eU ρ p.2):=by first|(simp only[kE,ay, ↓reduceIte,Nat.reduceEqDiff,reduceCtorEq];done)|(simp only[ay,pz,o9,afr,agW,ajr,forall_eq_or_imp,forall_eq];simp[gz,gK,eU,iP,ah,Ab.get,aJ,cZ,aB,bM,dV,aV,bT,aI,jD,bF,aS,aO,aQ,aT,aP,ae,List.flatten];done)|simp[gz,gK,eU,iP,ah,Ab.get,aJ,cZ,aB,bM,dV,aV,bT,aI,jD,bF,aS,aO,aQ,aT,aP,ae,List.flatten]) (h2:(s'.st.map fun p=>ρ p.1).Nodup:=by first|(simp only[kE,ay, ↓reduceIte,Nat.reduceEqDiff,reduceCtorEq];done)|(simp only[ay,pz,o9,afr,agW,ajr,forall_eq_or_imp,forall_eq];simp[gz,gK,eU,iP,ah,Ab.get,aJ,cZ,aB,bM,dV,aV,bT,aI,jD,bF,aS,aO,aQ,aT,aP,ae,List.flatten];done)|simp[gz,gK,eU,iP,ah,Ab.get,aJ,cZ,aB,bM,dV,aV,bT,aI,jD,bF,aS,aO,aQ,aT,aP,ae,List.flatten]) (h3:∀p∈s'.st,bF (ae s'.st) p.2:=by first|(simp only[kE,ay, ↓reduceIte,Nat.reduceEqDiff,reduceCtorEq];done)|(simp only[ay,pz,o9,afr,agW,ajr,forall_eq_or_imp,forall_eq];simp[gz,gK,eU,iP,ah,Ab.get,aJ,cZ,aB,bM,dV,aV,bT,aI,jD,bF,aS,aO,aQ,aT,aP,ae,List.flatten];done)|simp[gz,gK,eU,iP,ah,Ab.get,aJ,cZ,aB,bM,dV,aV,bT,aI,jD,bF,aS,aO,aQ,aT,aP,ae,List.flatten]) (h4:∀id,x.d0 id→ae s'.st id=true∧ρ id=id:=by exact keepR (by assumption) (by simp[ae,Ab.get])):BN x s s':=bi ρ hn he ⟨h1,h2,h3,h4⟩
theorem enS {E:Prop} (e:E) (ρ:Nat→Nat) (hn:s'.n=s.n:=by rfl) (he:E→∀p∈s'.env,get s.env p.1=some (gz ρ p.2)∧aJ (ae s'.st) p.2:=by intro e9;first|(simp only[kE,ay, ↓reduceIte,Nat.reduceEqDiff,reduceCtorEq];done)|(simp only[ay,pz,o9,afr,agW,ajr,forall_eq_or_imp,forall_eq];simp[gz,gK,eU,iP,ah,Ab.get,aJ,cZ,aB,bM,dV,aV,bT,aI,jD,bF,aS,aO,aQ,aT,aP,ae,List.flatten,e9];done)|simp[gz,gK,eU,iP,ah,Ab.get,aJ,cZ,aB,bM,dV,aV,bT,aI,jD,bF,aS,aO,aQ,aT,aP,ae,List.flatten,e9]) (h1:E→∀p∈s'.st,get s.st (ρ p.1)=some (eU ρ p.2):=by intro e9;first|(simp only[kE,ay, ↓reduceIte,Nat.reduceEqDiff,reduceCtorEq];done)|(simp only[ay,pz,o9,afr,agW,ajr,forall_eq_or_imp,forall_eq];simp[gz,gK,eU,iP,ah,Ab.get,aJ,cZ,aB,bM,dV,aV,bT,aI,jD,bF,aS,aO,aQ,aT,aP,ae,List.flatten,e9];done)|simp[gz,gK,eU,iP,ah,Ab.get,aJ,cZ,aB,bM,dV,aV,bT,aI,jD,bF,aS,aO,aQ,aT,aP,ae,List.flatten,e9]) (h2:E→(s'.st.map fun p=>ρ p.1).Nodup:=by intro e9;first|(simp only[kE,ay, ↓reduceIte,Nat.reduceEqDiff,reduceCtorEq];done)|(simp only[ay,pz,o9,afr,agW,ajr,forall_eq_or_imp,forall_eq];simp[gz,gK,eU,iP,ah,Ab.get,aJ,cZ,aB,bM,dV,aV,bT,aI,jD,bF,aS,aO,aQ,aT,aP,ae,List.flatten,e9];done)|simp[gz,gK,eU,iP,ah,Ab.get,aJ,cZ,aB,bM,dV,aV,bT,aI,jD,bF,aS,aO,aQ,aT,aP,ae,List.flatten,e9]) (h3:E→∀p∈s'.st,bF (ae s'.st) p.2:=by intro e9;first|(simp only[kE,ay, ↓reduceIte,Nat.reduceEqDiff,reduceCtorEq];done)|(simp only[ay,pz,o9,afr,agW,ajr,forall_eq_or_imp,forall_eq];simp[gz,gK,eU,iP,ah,Ab.get,aJ,cZ,aB,bM,dV,aV,bT,aI,jD,bF,aS,aO,aQ,aT,aP,ae,List.flatten,e9];done)|simp[gz,gK,eU,iP,ah,Ab.get,aJ,cZ,aB,bM,dV,aV,bT,aI,jD,bF,aS,aO,aQ,aT,aP,ae,List.flatten,e9]) (h4:∀id,x.d0 id→ae s'.st id=true∧ρ id=id:=by exact keepR (by assumption) (by simp[ae,Ab.get])):BN x s s':=bi ρ hn (he e) ⟨h1 e,h2 e,h3 e,h4⟩
theorem nP {A:Prop} (g:G') (ha:A:=by simp[lH,ae,Ab.get]) (h:G'→G:=by intro h9;(try simp only[kP,Nat.reduceEqDiff, ↓reduceIte,reduceCtorEq,List.cons_append,List.nil_append]);exact h9):A∧G:=⟨ha,h g⟩
theorem nJ {dst:Option Tmp} {f:FuncId} {bs:List Operand} {ats:Array TypeId} {ty:TypeId} {pos:String} {after:Array Edge} {args:List AV} (st0:List (Nat×AO)) {R:AV→List (Nat×AO)→Prop} (hc:AC P f args st0 R)
 (hk:∀r st',R r st'→lH s st0 st'∧TO P x ops l ⟨s.n,fZ s.env dst r,aN s.st st'⟩ Q) (hd:∀i,dst=some i→i<s.n:=by simp) (he:jv s bs=some args:=by simp only[kV, ↓reduceIte,Nat.reduceEqDiff,reduceCtorEq];first|done|rfl)
 (l1:∀p∈st0,get s.st p.1=some p.2:=by simp[Ab.get]) (l2:∀p∈st0,bF (ae st0) p.2:=by simp[bF,aS,aO,aQ,aT,aP,ah,bM,dV,aV,bT,aB,cZ,ae,Ab.get]) (l3:∀a∈args,aJ (ae st0) a:=by simp[aJ,cZ,aB,aV,bT,ae,Ab.get]):
 TO P x ops (⟨dst, .call {callee:= .value (.func f),args:=bs.toArray,argTypes:=ats},ty,pos,after,none⟩::l) s Q:=oU st0 hd he ⟨l1,l2,l3⟩ hc hk
theorem cf {dst:Option Tmp} {f:FuncId} {bs:List Operand} {ats:Array TypeId} {ty:TypeId} {pos:String} {after:Array Edge} {args:List AV} {R0:AV} (hc:AC P f args [] (fun r st=>r=R0∧st=[])) (g:G')
 (hk:G'→TO P x ops l ⟨s.n,fZ s.env dst R0,aN s.st []⟩ Q:=by intro h9;(try simp only[kP,Nat.reduceEqDiff, ↓reduceIte,reduceCtorEq,List.cons_append,List.nil_append]);exact h9) (hd:∀i,dst=some i→i<s.n:=by simp) (he:jv s bs=some args:=by simp only[kV, ↓reduceIte,Nat.reduceEqDiff,reduceCtorEq];first|done|rfl)
 (l3:∀a∈args,aJ (ae []) a:=by simp[aJ,cZ,aB,aV,bT,ae,Ab.get]):
 TO P x ops (⟨dst, .call {callee:= .value (.func f),args:=bs.toArray,argTypes:=ats},ty,pos,after,none⟩::l) s Q:=oU [] hd he ⟨by simp,by simp,l3⟩ hc (by rintro r st' ⟨rfl,rfl⟩;exact⟨by simp[lH],hk g⟩)
theorem qP (h:G:=by simp only[All,List.cons_append,List.nil_append,dB,afr,agW,ajr,forall_eq_or_imp,forall_eq,aJ,aB,cZ,aV,bT,ahu,ajG,implies_true,ae1,List.length_cons,List.length_nil,ay,jT,cu];repeat' (first|exact trivial|refine And.intro ?_ ?_|intro _|assumption|rfl|omega|(rw[afU];assumption)|(simp;done)|(simp only[aeB] at*;omega)|(simp_all;done))):G:=h
theorem eQ {F0:Prop} (f0:F0) (h:F0→G:=by intro f0;simp only[All,List.cons_append,List.nil_append,dB,afr,agW,ajr,forall_eq_or_imp,forall_eq,aJ,aB,cZ,aV,bT,ahu,ajG,implies_true,ae1,List.length_cons,List.length_nil,ay,jT,cu];repeat' (first|exact trivial|exact f0|exact f0 _|exact f0 (by assumption)|refine And.intro ?_ ?_|intro _|assumption|rfl|omega|(rw[afU];assumption)|(simp;done)|(simp only[aeB] at*;omega)|(simp_all;done))):G:=h f0
theorem ob2 {F0 F1:Prop} (f0:F0) (f1:F1) (h:F0→F1→G:=by intro f0 f1;simp only[All,List.cons_append,List.nil_append,dB,afr,agW,ajr,forall_eq_or_imp,forall_eq,aJ,aB,cZ,aV,bT,ahu,ajG,implies_true,ae1,List.length_cons,List.length_nil,ay,jT,cu];repeat' (first|exact trivial|exact f0|exact f0 _|exact f0 (by assumption)|exact f1|exact f1 _|exact f1 (by assumption)|refine And.intro ?_ ?_|intro _|assumption|rfl|omega|(rw[afU];assumption)|(simp;done)|(simp only[aeB] at*;omega)|(simp_all;done))):G:=h f0 f1
theorem ob3 {F0 F1 F2:Prop} (f0:F0) (f1:F1) (f2:F2) (h:F0→F1→F2→G:=by intro f0 f1 f2;simp only[All,List.cons_append,List.nil_append,dB,afr,agW,ajr,forall_eq_or_imp,forall_eq,aJ,aB,cZ,aV,bT,ahu,ajG,implies_true,ae1,List.length_cons,List.length_nil,ay,jT,cu];repeat' (first|exact trivial|exact f0|exact f0 _|exact f0 (by assumption)|exact f1|exact f1 _|exact f1 (by assumption)|exact f2|exact f2 _|exact f2 (by assumption)|refine And.intro ?_ ?_|intro _|assumption|rfl|omega|(rw[afU];assumption)|(simp;done)|(simp only[aeB] at*;omega)|(simp_all;done))):G:=h f0 f1 f2
theorem ob4 {F0 F1 F2 F3:Prop} (f0:F0) (f1:F1) (f2:F2) (f3:F3) (h:F0→F1→F2→F3→G:=by intro f0 f1 f2 f3;simp only[All,List.cons_append,List.nil_append,dB,afr,agW,ajr,forall_eq_or_imp,forall_eq,aJ,aB,cZ,aV,bT,ahu,ajG,implies_true,ae1,List.length_cons,List.length_nil,ay,jT,cu];repeat' (first|exact trivial|exact f0|exact f0 _|exact f0 (by assumption)|exact f1|exact f1 _|exact f1 (by assumption)|exact f2|exact f2 _|exact f2 (by assumption)|exact f3|exact f3 _|exact f3 (by assumption)|refine And.intro ?_ ?_|intro _|assumption|rfl|omega|(rw[afU];assumption)|(simp;done)|(simp only[aeB] at*;omega)|(simp_all;done))):G:=h f0 f1 f2 f3
theorem ob5 {F0 F1 F2 F3 F4:Prop} (f0:F0) (f1:F1) (f2:F2) (f3:F3) (f4:F4) (h:F0→F1→F2→F3→F4→G:=by intro f0 f1 f2 f3 f4;simp only[All,List.cons_append,List.nil_append,dB,afr,agW,ajr,forall_eq_or_imp,forall_eq,aJ,aB,cZ,aV,bT,ahu,ajG,implies_true,ae1,List.length_cons,List.length_nil,ay,jT,cu];repeat' (first|exact trivial|exact f0|exact f0 _|exact f0 (by assumption)|exact f1|exact f1 _|exact f1 (by assumption)|exact f2|exact f2 _|exact f2 (by assumption)|exact f3|exact f3 _|exact f3 (by assumption)|exact f4|exact f4 _|exact f4 (by assumption)|refine And.intro ?_ ?_|intro _|assumption|rfl|omega|(rw[afU];assumption)|(simp;done)|(simp only[aeB] at*;omega)|(simp_all;done))):G:=h f0 f1 f2 f3 f4
theorem Bg {wr:Bool} {id:Nat} {s1:S} (cs:List (Nat×AV)) {As:List A1} {ps:List Prop} (h:Qz P wr l cs l s=some (As,ps,s1)) (ho:All ps) (hk:Q .normal s1) (hm:P.follows .mixedOrders=true:=by kernel_rfl) (hc:ww l As=true:=by kernel_rfl):
 T P x (.region id l.toArray true) s Q:=pM cs hm h ho hc hk
theorem dr {id:Nat} {s1:S} (cs:List (Nat×AV)) {As:List A1} {ps:List Prop} (ho:All ps) (hk:Q .normal s1) (h:Qz P false l cs l s=some (As,ps,s1):=by simp only[kD,kk,Nat.reduceAdd,Nat.reduceLT,Nat.reduceEqDiff, ↓reduceIte,reduceCtorEq];first|done|rfl) (hm:P.follows .mixedOrders=true:=by kernel_rfl) (hc:ww l As=true:=by kernel_rfl):
 T P x (.region id l.toArray true) s Q:=pM cs hm h ho hc hk
theorem dx {id:Nat} {s1:S} (cs:List (Nat×AV)) {E:Prop} (e:E) {As:List A1} {ps:List Prop} (ho:All ps) (hk:Q .normal s1) (h:E→Qz P false l cs l s=some (As,ps,s1):=by intro e9;simp only[kD,kk,Nat.reduceAdd,Nat.reduceLT,Nat.reduceEqDiff, ↓reduceIte,reduceCtorEq,e9];first|done|rfl) (hm:P.follows .mixedOrders=true:=by kernel_rfl) (hc:ww l As=true:=by kernel_rfl):
 T P x (.region id l.toArray true) s Q:=pM cs hm (h e) ho hc hk
theorem so {o:Oper} (cs:List (Nat×AV)) {out:Out} (ho:All out.obl) (g:G') (hk:G'→TO P x ops l ⟨s.n,fZ s.env o.dst out.v,aN s.st out.upd⟩ Q:=by intro h9;simp only[kP,Nat.reduceEqDiff, ↓reduceIte,reduceCtorEq];exact h9) (hd:pO o s.n=true:=by rfl) (h:lM P false ops cs o s=some out:=by simp only[kD,kk,Nat.reduceAdd,Nat.reduceLT,Nat.reduceEqDiff, ↓reduceIte,reduceCtorEq];first|done|rfl):TO P x ops (o::l) s Q:=Sz cs hd h ho (hk g)
theorem rA {rs:List ResultVar} {R:AV→List (Nat×AO)→Prop} {r:AV} {obl:List Prop} (st':List (Nat×AO)) (hR:R r st') (h:Pq P rs s=some (r,obl):=by simp only[kR,kk, ↓reduceIte,Nat.reduceEqDiff,reduceCtorEq];first|done|rfl) (ho:All obl:=by first|exact trivial|(simp only[kO];omega)|(simp[All,dB];first|done|omega)|(simp+contextual [All,dB];first|done|grind)) (h1:∀p∈st',get s.st ((fun i=>i) p.1)=some (eU (fun i=>i) p.2):=by simp[Ab.get,ax]) (h2:(st'.map fun p=>(fun i=>i) p.1).Nodup:=by simp) (h3:∀p∈st',bF (ae st') p.2:=by simp[Ab.get,bF,aJ,aS,aO,aQ,aT,aP,ah,aI,bM,dV,aV,bT,aB,cZ,ae]) (h4:∀id,x.d0 id→ae st' id=true∧id=id:=by exact bW (by assumption) (by simp[ae,Ab.get])) (hcl:aJ (ae st') r:=by simp[Ab.get,bF,aJ,aS,aO,aQ,aT,aP,ah,aI,bM,dV,aV,bT,aB,cZ,ae]):Tj P rs x R .ret s:=⟨.inl rfl,r,obl,h,ho,st',⟨h1,h2,h3,h4⟩,hcl,hR⟩
theorem rN {rs:List ResultVar} {R:AV→List (Nat×AO)→Prop} {r:AV} {obl:List Prop} (st':List (Nat×AO)) (hR:R r st') (h:Pq P rs s=some (r,obl):=by simp only[kR,kk, ↓reduceIte,Nat.reduceEqDiff,reduceCtorEq];first|done|rfl) (ho:All obl:=by first|exact trivial|(simp only[kO];omega)|(simp[All,dB];first|done|omega)|(simp+contextual [All,dB];first|done|grind)) (h1:∀p∈st',get s.st ((fun i=>i) p.1)=some (eU (fun i=>i) p.2):=by simp[Ab.get,ax]) (h2:(st'.map fun p=>(fun i=>i) p.1).Nodup:=by simp) (h3:∀p∈st',bF (ae st') p.2:=by simp[Ab.get,bF,aJ,aS,aO,aQ,aT,aP,ah,aI,bM,dV,aV,bT,aB,cZ,ae]) (h4:∀id,x.d0 id→ae st' id=true∧id=id:=by exact bW (by assumption) (by simp[ae,Ab.get])) (hcl:aJ (ae st') r:=by simp[Ab.get,bF,aJ,aS,aO,aQ,aT,aP,ah,aI,bM,dV,aV,bT,aB,cZ,ae]):Tj P rs x R .normal s:=⟨.inr rfl,r,obl,h,ho,st',⟨h1,h2,h3,h4⟩,hcl,hR⟩
theorem rV {rs:List ResultVar} {R:AV→List (Nat×AO)→Prop} {r:AV} {obl:List Prop} {e:Exit} (st':List (Nat×AO)) (hR:R r st') (he:e= .ret∨e= .normal:=by first|exact .inl rfl|exact .inr rfl) (h:Pq P rs s=some (r,obl):=by simp only[kR,kk, ↓reduceIte,Nat.reduceEqDiff,reduceCtorEq];first|done|rfl) (ho:All obl:=by first|exact trivial|(simp only[kO];omega)|(simp[All,dB];first|done|omega)|(simp+contextual [All,dB];first|done|grind)) (h1:∀p∈st',get s.st ((fun i=>i) p.1)=some (eU (fun i=>i) p.2):=by simp[Ab.get,ax]) (h2:(st'.map fun p=>(fun i=>i) p.1).Nodup:=by simp) (h3:∀p∈st',bF (ae st') p.2:=by simp[Ab.get,bF,aJ,aS,aO,aQ,aT,aP,ah,aI,bM,dV,aV,bT,aB,cZ,ae]) (h4:∀id,x.d0 id→ae st' id=true∧id=id:=by exact bW (by assumption) (by simp[ae,Ab.get])) (hcl:aJ (ae st') r:=by simp[Ab.get,bF,aJ,aS,aO,aQ,aT,aP,ah,aI,bM,dV,aV,bT,aB,cZ,ae]):Tj P rs x R e s:=⟨he,r,obl,h,ho,st',⟨h1,h2,h3,h4⟩,hcl,hR⟩
theorem df {f:FuncId} {fn:Func} {c:Code} {args:List AV} {st:List (Nat×AO)} {R:AV→List (Nat×AO)→Prop} {n:Nat} {env:List (Nat×AV)} (hf:P.funcs[f]? =some fn) (hn:fn.ntmps=n) (h:∀x:X,(∀id,x.d0 id→ae st id=true)→T P x c ⟨n,env,st⟩ (Tj P fn.results.toList x R)) (hb:fn.body=some c:=by rfl) (hname:(fn.name=="runtime.NumGoroutine")=false:=by rfl)
 (he:(List.range args.length).zip args=env:=by simp only[List.range,List.range.loop,List.length,List.zip,List.zipWith];first|done|rfl) (hl:args.length≤n:=by simp only[List.length];omega):AC P f args st R:=zD hf hb hname (by rw[hn];exact hl) (by rw[hn,he];exact h)
end
end
section
open Go.Ab Tys
def cnt (d:aW) (c:Int):Nat:=(d.revs.filter fun u=>decide (u.chg<c)).length
def lN (d:aW):Nat→Rev→bJ
 |0,v=>fileOf v
 |n+1,v=>
  match gB d v with
  |none=>fileOf v
  |some u=>if v.chg≤u.chg then fileOf v else lN d n u
def first (d:aW) (v:Rev):bJ:=lN d (cnt d v.chg) v
theorem Ey {d:aW} {p:akK} {n:Int} {u:Rev} (h:iE d p n=some u):u∈d.revs∧u.path=p∧u.num=n:=by
 have h1:=List.mem_of_find?_eq_some h
 have h2:=List.find?_some h
 simp only[log,ahI] at h1
 exact⟨h1.1,by simpa using h1.2,by simpa using h2⟩
theorem Bc {d:aW} {v u:Rev} (h:gB d v=some u):u∈d.revs:=by
 unfold gB at h
 split at h
 ·cases h
 ·split at h
  ·exact(Ey h).1
  ·exact(Ey h).1
theorem cnt_lt {d:aW} {u:Rev} {c:Int} (hu:u∈d.revs) (h:u.chg<c):cnt d u.chg<cnt d c:=by
 unfold cnt
 generalize d.revs=l at hu
 have hle:∀l:List Rev,(l.filter fun w=>decide (w.chg<u.chg)).length≤(l.filter fun w=>decide (w.chg<c)).length:=by
  intro l
  induction l with
  |nil=>simp
  |cons w l ih=>
   simp only[ajj]
   by_cases h1:w.chg<u.chg
   ·rw[if_pos (by simpa using h1),if_pos (by simp;omega)];simpa using ih
   ·rw[if_neg (by simpa using h1)]
    split
    ·simp;omega
    ·exact ih
 induction l with
 |nil=>cases hu
 |cons w l ih=>
  rcases afr.1 hu with rfl|hu
  ·simp only[ajj]
   rw[if_neg (by simp),if_pos (by simpa using h)]
   have:=hle l
   simp;omega
  ·have:=ih hu
   simp only[ajj]
   by_cases h1:w.chg<u.chg
   ·rw[if_pos (by simpa using h1),if_pos (by simp;omega)];simpa using this
   ·rw[if_neg (by simpa using h1)]
    split
    ·simp;omega
    ·exact this
theorem MQ (d:aW):∀(n m:Nat) (v:Rev),cnt d v.chg≤n→cnt d v.chg≤m→lN d n v=lN d m v:=by
 have step:∀(n:Nat) (v:Rev),cnt d v.chg≤n→lN d (n+1) v=lN d n v:=by
  intro n
  induction n with
  |zero=>
   intro v hv
   simp only[lN]
   split
   ·rfl
   ·rename_i u hu
    split
    ·rfl
    ·rename_i hc
     have:=cnt_lt (Bc hu) (by omega:u.chg<v.chg)
     omega
  |succ n ih=>
   intro v hv
   rw[lN]
   conv=>rhs;rw[lN]
   split
   ·rfl
   ·rename_i u hu
    split
    ·rfl
    ·rename_i hc
     have:=cnt_lt (Bc hu) (by omega:u.chg<v.chg)
     exact ih u (by omega)
 have up:∀(k n:Nat) (v:Rev),cnt d v.chg≤n→lN d (n+k) v=lN d n v:=by
  intro k
  induction k with
  |zero=>intros;rfl
  |succ k ih=>intro n v hv;rw[←Nat.add_assoc,step _ _ (by omega),ih n v hv]
 intro n m v hn hm
 rcases Nat.le_total n m with h|h
 ·obtain⟨k,rfl⟩:=Nat.exists_eq_add_of_le h;exact(up k n v hn).symm
 ·obtain⟨k,rfl⟩:=Nat.exists_eq_add_of_le h;exact up k m v hm
theorem fM {d:aW} {v:Rev} (h:gB d v=none):first d v=fileOf v:=by
 unfold first
 cases cnt d v.chg with
 |zero=>rfl
 |succ n=>simp[lN,h]
theorem Zo {d:aW} {v u:Rev} (h:gB d v=some u) (hc:v.chg≤u.chg):first d v=fileOf v:=by
 unfold first
 cases cnt d v.chg with
 |zero=>rfl
 |succ n=>simp[lN,h,hc]
theorem qj {d:aW} {v u:Rev} (h:gB d v=some u) (hc:u.chg<v.chg):first d v=first d u:=by
 have hlt:=cnt_lt (Bc h) hc
 unfold first
 obtain⟨n,hn⟩:∃n,cnt d v.chg=n+1:=⟨cnt d v.chg-1,by omega⟩
 rw[hn,lN,h]
 simp only
 rw[if_neg (by omega)]
 exact MQ d _ _ u (by omega) (afJ _)
def hasPrefix (s p:akK):Bool:=decide (p.size≤s.size)&&decide (s.extract 0 p.size=p)
@[reducible] def slash:akK:={data:= #[47]}
theorem qp:slash.size=1:=rfl
theorem U9:((#[47]:Array UInt8).getD 0 0).toNat.toUInt8=47:=by decide
theorem indexByte_lt (l:List UInt8) (c:UInt8):Lib.indexByte l c<l.length:=by
 induction l with
 |nil=>simp[Lib.indexByte]
 |cons b l ih=>
  unfold Lib.indexByte
  split
  ·simp
  ·split
   ·simp;omega
   ·simp;omega
def o6 (s:akK):Nat:=Lib.countByte s.data.toList 47
def uK (s:akK):Int:=Lib.indexByte s.data.toList 47
theorem XR (s:akK):o6 s≤s.size:=by
 unfold o6 Lib.countByte
 have:=List.count_le_length (a:=(47:UInt8)) (l:=s.data.toList)
 simpa using this
theorem aee (s:akK):uK s<s.size:=by
 have:=indexByte_lt s.data.toList 47
 simpa[uK] using this
theorem adU (s:akK): -1≤uK s:=Lib.indexByte_ge _ _
def splitN:Nat→akK→List akK
 |0,s=>[s]
 |n+1,s=>if uK s<0 then [s] else s.extract 0 (uK s).toNat::splitN n (s.extract ((uK s).toNat+1) s.size)
def split (s:akK):List akK:=splitN (o6 s) s
@[reducible] def encS (b:akK):List D:=[.v (.string b)]
@[reducible] def jr (l:List akK):AV:= .c (.d (.ps 1 (l.map encS)))
theorem JM:∀(n:Nat) (s:akK),(splitN n s).length≤n+1
 |0,s=>by simp[splitN]
 |n+1,s=>by
  simp only[splitN]
  split
  ·simp
  ·simpa using JM n _
theorem IQ {α:Type} (e:α→List D) (l:List α) (i:Nat) (v:α) (n:Nat) (hn:∀a,(e a).length=n):
 ((l.map e).map fun l=>l.map C.d).set i ((e v).map C.d++List.drop n (((l.map e).map fun l=>l.map C.d).getD i []))=((l.set i v).map e).map fun l=>l.map C.d:=by
 by_cases h:i<l.length
 ·have:(((l.map e).map fun l=>l.map C.d).getD i []).length=n:=by simp[List.getD,h,hn]
  rw[ajW (by omega),ajt];simp[List.map_set]
 ·rw[List.set_eq_of_length_le (by simp;omega),List.set_eq_of_length_le (by omega)]
theorem Cb (l:List akK) (i:Nat) (v:akK):((l.map encS).map fun l=>l.map C.d).set i (C.d (.v (.string v))::List.drop 1 (((l.map encS).map fun l=>l.map C.d).getD i []))=((l.set i v).map encS).map fun l=>l.map C.d:=
 IQ encS l i v 1 (fun _=>rfl)
theorem KA {n:Nat} {s:akK} (h:uK s<0):splitN n s=[s]:=by
 cases n with
 |zero=>rfl
 |succ n=>simp[splitN,h]
theorem CO (l:List akK) (i:Nat) (v:akK):((l.map encS).map fun l=>l.map C.d).set i [C.d (.v (.string v))]=((l.set i v).map encS).map fun l=>l.map C.d:=by
 simp only[ajM,List.map_set];rfl
theorem OU (done:List akK) (k:Nat) (e v:akK):(done++List.replicate (k+1) e).set done.length v=(done++[v])++List.replicate k e:=by
 rw[List.set_append,if_neg (by omega)];simp[List.replicate_succ]
theorem Ub (done:List akK) (k:Nat) (rest:akK) (h:0<k):((done++List.replicate k ByteArray.empty).set done.length rest).take (done.length+1)=done++[rest]:=by
 obtain⟨j,rfl⟩:∃j,k=j+1:=⟨k-1,by omega⟩
 rw[OU,List.take_append_of_le_length (by simp),ahH (by simp)]
@[reducible] def letters:akK:={data:=([65,66,67,68,69,70,71,72,73,74,75,76,77,78,79,80,81,82,83,84,85,86,87,88,89,90,97,98,99,100,101,102,103].append [104,105,106,107,108,109,110,111,112,113,114,115,116,117,118,119,120,121,122,48,49,50,51,52,53,54,55,56,57,95,46,43,45]).toArray}
def okB (b:Int):Bool:=decide (0≤Lib.indexByte letters.data.toList b.toNat.toUInt8)
@[reducible] def byteAt (s:akK) (k:Nat):Int:=((s.data.getD k 0).toNat:Int)
def comp (s:akK):Bool:=!(decide (s={data:= #[]})||decide (byteAt s 0=46))&&(List.range s.size).all fun k=>okB (byteAt s k)
theorem kC (n k:Nat) (p:Nat→Bool) (hk:k<n) (h:(List.range n).all p=true):p k=true:=by
 rw[agr] at h;exact h k (aht.2 hk)
theorem tN {s:akK} (h:s≠{data:= #[]}):0<s.size:=by
 rcases Nat.eq_zero_or_pos s.size with e|e
 ·exfalso;apply h;cases s with|mk d=>have:d.size=0:=e
                                     rw[Array.eq_empty_of_size_eq_zero this]
 ·exact e
@[reducible] def fD:akK:={data:= #[47,47]}
theorem qL:∀(n:Nat) (s x:akK),x∈splitN n s→x.size≤s.size
 |0,s,x,h=>by simp[splitN] at h;rw[h];omega
 |n+1,s,x,h=>by
  simp only[splitN] at h
  split at h
  ·simp at h;rw[h];omega
  ·rcases afr.1 h with rfl|h
   ·simp;omega
   ·have:=qL n _ x h;simp at this;omega
def jm (p:akK):Option (List akK):=if hasPrefix p fD then(if(split (p.extract 2 p.size)).all comp then some (split (p.extract 2 p.size)) else none) else none
@[reducible] def jJ:Option (List akK)→Bool×List C
 |none=>(false,[.d (.v (.slice none 0 0))])
 |some l=>(false,[.d (.ps 1 (l.map encS))])
theorem xx (s:akK):(split s).length≤s.size+1:=ajo (JM _ _) (by have:=XR s;omega)
def aG (p:akK):Option (List akK):=match jm p with|some l=>if l.length<2 then none else some l|none=>none
def cb (a b:akK):Int:=Lib.compareBytes a.data.toList b.data.toList
def cmpL:List akK→List akK→Int
 |[],[]=>0
 |[],_::_=> -1
 |_::_,[]=>1
 |a::l,b::m=>if cb a b=0 then cmpL l m else cb a b
def ord (p q:akK):Int:=
 match aG p,aG q with
 |none,none=>cb p q
 |none,some _=> -1
 |some _,none=>1
 |some a,some b=>cmpL a b
theorem ZX {p:akK} {l:List akK} (h:aG p=some l):l.length≤p.size+1:=by
 unfold aG at h
 split at h
 ·rename_i l' hl
  split at h
  ·cases h
  ·cases h
   unfold jm at hl
   split at hl
   ·split at hl
    ·cases hl
     have:=xx (p.extract 2 p.size)
     simp at this;omega
    ·cases hl
   ·cases hl
 ·cases h
def before (a b:dZ):Bool:=
 if ord a.to b.to≠0 then decide (ord a.to b.to<0) else if a.num≠b.num then decide (a.num<b.num) else if ord a.frm b.frm≠0 then decide (ord a.frm b.frm<0) else decide (a.first<b.first)
def IM (r:dZ):Prop:=r.frm.size≤100000∧r.to.size≤100000
def dS:dZ:=⟨ByteArray.empty,0,0,ByteArray.empty,0,0⟩
def zY:Nat→List dZ→List dZ
 |0,l=>l
 |k+1,l=>if before (l.getD (k+1) dS) (l.getD k dS) then zY k ((l.set (k+1) (l.getD k dS)).set k (l.getD (k+1) dS)) else l
def G9 (l:List dZ):Nat→List dZ
 |0=>l
 |k+1=>zY k (G9 l k)
def NI (l:List dZ):List dZ:=G9 l l.length
@[reducible] def ai6 {α:Type} (e:α→List D) (l:List α):List (List C):=(l.map e).map fun l=>l.map C.d
theorem lI {α:Type} (e:α→List D) (l:List α) (k:Nat) (z:α) (h:k<l.length):(ai6 e l).getD k []=(e (l.getD k z)).map C.d:=by
 simp[List.getD,h]
theorem Tt (l:List dZ) (i:Nat) (v:dZ):((l.map af).map fun l=>l.map C.d).set i (C.d (.v (.string v.frm))::C.d (.v (.int .i64 v.first))::C.d (.v (.int .i64 v.last))::C.d (.v (.string v.to))::C.d (.v (.int .i64 v.num))::C.d (.v (.int .i64 v.how))::List.drop 6 (((l.map af).map fun l=>l.map C.d).getD i []))=((l.set i v).map af).map fun l=>l.map C.d:=
 IQ af l i v 6 (fun _=>rfl)
theorem L8 (l:List dZ) (i:Nat) (v:dZ):((l.map af).map fun l=>l.map C.d).set i [C.d (.v (.string v.frm)),C.d (.v (.int .i64 v.first)),C.d (.v (.int .i64 v.last)),C.d (.v (.string v.to)),C.d (.v (.int .i64 v.num)),C.d (.v (.int .i64 v.how))]=((l.set i v).map af).map fun l=>l.map C.d:=by
 simp[List.map_set]
theorem Sr {l:List dZ} {i j:Nat} {v w:dZ} (hv:v∈l) (hw:w∈l) {P:dZ→Prop} (h:∀r∈l,P r):∀r∈(l.set i w).set j v,P r:=by
 intro r hr
 rcases ajN hr with hr|rfl
 ·rcases ajN hr with hr|rfl
  ·exact h r hr
  ·exact h _ hw
 ·exact h _ hv
def gQ (base:Int) (kw xe:Bool):Bool:=decide (base<1)||decide (3<base)||(kw&&!decide (base=1))||(xe&&decide (base=3))
def rP (x y:ou):Bool:=(decide (x.act=5)&&decide (y.act=4)&&decide (y.frm=x.path))||(decide (x.act=4)&&decide (y.act=5)&&decide (y.path=x.frm))
def Nb (c:iZ) (x:ou):Nat:=(c.edits.filter (rP x)).length
def wH (c:iZ) (x:ou):Bool:=decide ((Nb c x:Int)=1)||(!decide (x.act=5)&&!decide (x.act=4))
def bZ:ou:=⟨ByteArray.empty,0,0,false,false,false,0,0,0,ByteArray.empty,0,0⟩
def eOK (e:ou):Prop:=e.path.size≤100000
structure wK (d:aW) (c:iZ) (i:Nat) (e:ou):Prop where
 okPath:(aG e.path).isSome=true
 okOrder:0<i→ord (c.edits.getD (i-1) bZ).path e.path<0
 okLo:1≤e.act
 okHi:e.act≤5
 okLive:(e.act=1∨e.act=4)↔live d e.path=false
 okPrev:e.prev=bf d e.path
 okFrm:e.act=4→live d e.frm=true∧bf d e.frm=e.fnum∧e.frm≠e.path
 okGone:e.act=3∨e.act=5→e.sum=0∧e.size=0
 okTyp:gQ e.base e.kw e.xe=false∧0≤e.size
@[reducible] def oD (d:aW) (p:akK) (n:Int):Rev:=(iE d p n).getD ag
def agU (r:dZ) (e:ou):Prop:=e.path=r.to∧wr (e.prev+1)=r.num∧¬e.act=5
structure Hq (d:aW) (c:iZ) (r:dZ):Prop where
 okHow:1≤r.how∧r.how≤4
 okLo:1≤r.first
 okLe:r.first≤r.last
 okHi:r.last≤(log d r.frm).length
 okLine:∀n,r.first≤n→n≤r.last→¬(oD d r.frm n).act=5∧first d (oD d r.frm n)=first d (oD d r.frm r.last)
 okTgt:∃e∈c.edits,agU r e∧(¬e.act=1→¬first d ((gB d (made c e)).getD ag)=first d (oD d r.frm r.last))
structure pG (d:aW) (c:iZ):Prop where
 len1:1≤c.edits.length
 len2:c.edits.length≤64
 len3:c.recs.length≤64
 num:1≤c.num∧c.num≤1073741824
 old:∀v∈d.revs,v.chg<c.num
 edit:∀i,i<c.edits.length→wK d c i (c.edits.getD i bZ)
 move:∀e∈c.edits,wH c e=true
 recd:∀i,i<c.recs.length→Hq d c (c.recs.getD i dS)
 tot1:d.revs.length+c.edits.length≤512
 tot2:d.recs.length+c.recs.length≤512
theorem OD:∀(k:Nat) (l:List dZ),(zY k l).length=l.length
 |0,l=>rfl
 |k+1,l=>by
  simp only[zY]
  split
  ·rw[OD k];simp
  ·rfl
theorem NV {P:dZ→Prop}:∀(k:Nat) (l:List dZ),k<l.length→(∀r∈l,P r)→∀r∈zY k l,P r
 |0,l,_,h=>h
 |k+1,l,hk,h=>by
  simp only[zY]
  split
  ·refine NV k _ (by simp;omega) (Sr ?_ ?_ h)
   ·rw[adI,adH hk];simp
   ·rw[adI,adH (by omega:k<l.length)];simp
  ·exact h
theorem Bf (l:List dZ):∀k,(G9 l k).length=l.length
 |0=>rfl
 |k+1=>by rw[G9,OD,Bf l k]
theorem NJ {P:dZ→Prop} {l:List dZ} (h:∀r∈l,P r):∀k,k≤l.length→∀r∈G9 l k,P r
 |0,_=>h
 |k+1,hk=>NV k _ (by rw[Bf];omega) (NJ h k (by omega))
theorem ZM (l:List dZ):(NI l).length=l.length:=Bf l _
theorem YQ {P:dZ→Prop} {l:List dZ} (h:∀r∈l,P r):∀r∈NI l,P r:=NJ h _ (afJ _)
def eG (d:aW) (c:iZ):aW:=⟨d.revs++c.edits.map (made c),NI (d.recs++c.recs)⟩
theorem afZ (sz:Nat) (a b:List (List D)):bF (fun _=>false) (.arr sz (a.map (fun l=>l.map C.d)++b.map (fun l=>l.map C.d))):=by
 simp only[bF]
 rw[akG,aI,ah,ah,FZ,FZ]
 exact⟨trivial,trivial⟩
theorem up6 (m:List dZ):∀l∈(m.map af).map (fun l=>l.map C.d),l.length=6:=by simp
@[reducible] def Fb:C:= .d (.v (.slice none 0 0))
def cOK (c:iZ):Prop:=(∀e∈c.edits,eOK e)∧(∀r∈c.recs,IM r)∧c.edits.length≤100000∧c.recs.length≤100000
inductive gY:List iZ→aW→Prop
 |nil:gY [] Ee
 |skip {l:List iZ} {d:aW} (c:iZ) (h:gY l d):gY (l++[c]) d
 |app {l:List iZ} {d:aW} {c:iZ} (h:gY l d) (hc:cOK c) (hk:pG d c):gY (l++[c]) (eG d c)
theorem gY.ok {l:List iZ} {d:aW} (h:gY l d):d.revs.length≤512∧d.recs.length≤512∧∀r∈d.recs,IM r:=by
 induction h with
 |nil=>simp[Ee]
 |skip c h ih=>exact ih
 |app h hc hk ih=>
  refine⟨?_,?_,?_⟩
  ·have:=hk.tot1;simp[eG];omega
  ·have:=hk.tot2;simp[eG,ZM];omega
  ·exact YQ fun r hr=>by rcases afs.1 hr with hr|hr;exact ih.2.2 r hr;exact hc.2.1 r hr
def ag4:iZ:=⟨0,ByteArray.empty,ByteArray.empty,[],[]⟩
def tot (l:List iZ):Nat:=(l.map fun c=>c.edits.length+c.recs.length).sum
def sE (e:ou):Prop:=e.path.size+e.frm.size≤500
def sR (r:dZ):Prop:=r.frm.size+r.to.size≤500
def sC (c:iZ):Prop:=(∀e∈c.edits,sE e)∧∀r∈c.recs,sR r
structure Few (l:List iZ):Prop where
 len:l.length≤2000000
 tot:tot l≤2000000
 es:∀c∈l,∀e∈c.edits,e.path.size≤2000000∧e.frm.size≤2000000
 rs:∀c∈l,∀r∈c.recs,r.frm.size≤2000000∧r.to.size≤2000000
theorem Lp (a b:List iZ):tot (a++b)=tot a+tot b:=by simp[tot]
theorem YA {l:List iZ} {c:iZ} (h:c∈l):c.edits.length+c.recs.length≤tot l:=by
 induction l with
 |nil=>cases h
 |cons d l ih=>
  have e:tot (d::l)=d.edits.length+d.recs.length+tot l:=by simp[tot]
  rcases afr.1 h with rfl|h
  ·omega
  ·have:=ih h;omega
theorem SB (l:List iZ) (k:Nat):tot (l.take k)≤tot l:=by
 conv=>rhs;rw[←agu k l,Lp]
 omega
theorem afv {l:List iZ} (h1:tot l≤200) (h2:∀c∈l,sC c):∀c∈l,cOK c:=by
 intro c hc
 have h:=YA hc
 obtain⟨a,b⟩:=h2 c hc
 refine⟨fun e he=>?_,fun r hr=>?_,by omega,by omega⟩
 ·have:=a e he;simp only[sE] at this;simp only[eOK];omega
 ·have:=b r hr;simp only[sR] at this;simp only[IM];omega
def kY (d:aW) (p:akK) (n:Int):Option Rev:=match iE d p n with|some v=>if v.act=5 then none else some v|none=>none
def o7 (d:aW) (f:bJ) (v:Rev):Bool:=!decide (v.act=5)&&decide (first d v=f)
def line (d:aW) (f:bJ):List Rev:=d.revs.filter (o7 d f)
end
end Go.Proofs.YtcpgicfphakdaaaGreatDoor
