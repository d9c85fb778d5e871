/- A part of the proof. -/
import Derived.Test.YtcpgicfphakdaaaGreatDoorRBd
import Derived.Test.YtcpgicfphakdaaaGreatDoorRAbDl
set_option linter.all false
namespace Go.Proofs.YtcpgicfphakdaaaGreatDoor.Tys
open Go.Ab Go.Proofs
end Go.Proofs.YtcpgicfphakdaaaGreatDoor.Tys
set_option linter.all false
namespace Go.Proofs.YtcpgicfphakdaaaGreatDoor
open Go.Ab Tys
theorem p2 {A B:Prop} (a:A) (b:B):A∧B:=⟨a,b⟩
theorem p3 {A B C:Prop} (a:A) (b:B) (c:C):A∧B∧C:=⟨a,b,c⟩
theorem p4 {A B C D:Prop} (a:A) (b:B) (c:C) (d:D):A∧B∧C∧D:=⟨a,b,c,d⟩
theorem p5 {A B C D E:Prop} (a:A) (b:B) (c:C) (d:D) (e:E):A∧B∧C∧D∧E:=⟨a,b,c,d,e⟩
theorem p6 {A B C D E F:Prop} (a:A) (b:B) (c:C) (d:D) (e:E) (f:F):A∧B∧C∧D∧E∧F:=⟨a,b,c,d,e,f⟩
theorem p7 {A B C D E F G:Prop} (a:A) (b:B) (c:C) (d:D) (e:E) (f:F) (g:G):A∧B∧C∧D∧E∧F∧G:=⟨a,b,c,d,e,f,g⟩
theorem p8 {A B C D E F G H:Prop} (a:A) (b:B) (c:C) (d:D) (e:E) (f:F) (g:G) (h:H):A∧B∧C∧D∧E∧F∧G∧H:=⟨a,b,c,d,e,f,g,h⟩
theorem p9 {A B C D E F G H I:Prop} (a:A) (b:B) (c:C) (d:D) (e:E) (f:F) (g:G) (h:H) (i:I):A∧B∧C∧D∧E∧F∧G∧H∧I:=⟨a,b,c,d,e,f,g,h,i⟩
theorem p10 {A B C D E F G H I J:Prop} (a:A) (b:B) (c:C) (d:D) (e:E) (f:F) (g:G) (h:H) (i:I) (j:J):A∧B∧C∧D∧E∧F∧G∧H∧I∧J:=⟨a,b,c,d,e,f,g,h,i,j⟩
theorem p11 {A B C D E F G H I J K:Prop} (a:A) (b:B) (c:C) (d:D) (e:E) (f:F) (g:G) (h:H) (i:I) (j:J) (k:K):A∧B∧C∧D∧E∧F∧G∧H∧I∧J∧K:=⟨a,b,c,d,e,f,g,h,i,j,k⟩
theorem p12 {A B C D E F G H I J K L:Prop} (a:A) (b:B) (c:C) (d:D) (e:E) (f:F) (g:G) (h:H) (i:I) (j:J) (k:K) (l:L):A∧B∧C∧D∧E∧F∧G∧H∧I∧J∧K∧L:=⟨a,b,c,d,e,f,g,h,i,j,k,l⟩
theorem p13 {A B C D E F G H I J K L M:Prop} (a:A) (b:B) (c:C) (d:D) (e:E) (f:F) (g:G) (h:H) (i:I) (j:J) (k:K) (l:L) (m:M):A∧B∧C∧D∧E∧F∧G∧H∧I∧J∧K∧L∧M:=⟨a,b,c,d,e,f,g,h,i,j,k,l,m⟩
theorem LK {A B C D E F G H I J K L M N:Prop} (a:A) (b:B) (c:C) (d:D) (e:E) (f:F) (g:G) (h:H) (i:I) (j:J) (k:K) (l:L) (m:M) (n:N):A∧B∧C∧D∧E∧F∧G∧H∧I∧J∧K∧L∧M∧N:=⟨a,b,c,d,e,f,g,h,i,j,k,l,m,n⟩
theorem XD {A B C D E F G H I J K L M N O:Prop} (a:A) (b:B) (c:C) (d:D) (e:E) (f:F) (g:G) (h:H) (i:I) (j:J) (k:K) (l:L) (m:M) (n:N) (o:O):A∧B∧C∧D∧E∧F∧G∧H∧I∧J∧K∧L∧M∧N∧O:=⟨a,b,c,d,e,f,g,h,i,j,k,l,m,n,o⟩
theorem p16 {A B C D E F G H I J K L M N O P:Prop} (a:A) (b:B) (c:C) (d:D) (e:E) (f:F) (g:G) (h:H) (i:I) (j:J) (k:K) (l:L) (m:M) (n:N) (o:O) (p:P):A∧B∧C∧D∧E∧F∧G∧H∧I∧J∧K∧L∧M∧N∧O∧P:=⟨a,b,c,d,e,f,g,h,i,j,k,l,m,n,o,p⟩
section
variable [Dr] {P:Program} {x:X} {s s':S} {Q:Exit→S→Prop} {ops l l':List Oper} {G G':Prop}
structure Hid (G:Prop):Prop where
 out:G
theorem aJ (g:G') (h:G'→G:=by intro h9;(repeat (with_reducible first|refine na ?_|refine nb ?_|refine nc ?_|refine nd ?_|refine ne ?_|refine nf ?_|refine ng ?_|refine nh ?_|refine ni ?_|refine nj ?_|refine nk ?_|refine nl ?_|refine nm (by decide) ?_|refine nn ?_));exact h9):G:=h g
theorem xO (g:G') (h:G'→G:=by intro h9;(with_reducible first|refine na ?_|refine nb ?_|refine nc ?_|refine nd ?_|refine ne ?_|refine nf ?_|refine ng ?_|refine nh ?_|refine ni ?_|refine nj ?_|refine nk ?_|refine nl ?_|refine nm (by decide) ?_|refine nn ?_);(repeat (with_reducible first|refine na ?_|refine nb ?_|refine nc ?_|refine nd ?_|refine ne ?_|refine nf ?_|refine ng ?_|refine nh ?_|refine ni ?_|refine nj ?_|refine nk ?_|refine nl ?_|refine nm (by decide) ?_|refine nn ?_));exact h9):G:=h g
theorem dM (g:G') (h:G'→G:=by intro h9;simp only[Ab.put,Nat.reduceEqDiff, ↓reduceIte,reduceCtorEq,if_false,if_true];exact h9):G:=h g
theorem wX {wr:Bool} {ps:List Prop} (h:QL P wr ops 400 l s=some (s',ps,l')) (hk:TO P x ops l' s' Q) (ho:All ps:=by first|exact trivial|(simp only[kO];omega)|(simp[All,dI];first|done|omega)|(simp+contextual [All,dI];first|done|grind)):TO P x ops l s Q:=dR 400 h ho hk
theorem nv (g:G') (h:Hid G'→G:=by intro h9;(first|refine xO ?_|refine wX (wr:=false) (by simp only[kk,Nat.reduceAdd,Nat.reduceLT,Nat.reduceEqDiff, ↓reduceIte,reduceCtorEq];first|done|rfl) ?_);(repeat (first|refine xO ?_|refine wX (wr:=false) (by simp only[kk,Nat.reduceAdd,Nat.reduceLT,Nat.reduceEqDiff, ↓reduceIte,reduceCtorEq];first|done|rfl) ?_));exact h9.out):G:=h ⟨g⟩
theorem nx {E:Prop} (e:E) (g:G') (h:E→Hid G'→G:=by intro e9 h9;(first|refine xO ?_|refine wX (wr:=false) (by simp only[kk,Nat.reduceAdd,Nat.reduceLT,Nat.reduceEqDiff, ↓reduceIte,reduceCtorEq,e9];first|done|rfl) ?_);(repeat (first|refine xO ?_|refine wX (wr:=false) (by simp only[kk,Nat.reduceAdd,Nat.reduceLT,Nat.reduceEqDiff, ↓reduceIte,reduceCtorEq,e9];first|done|rfl) ?_));exact h9.out):G:=h e ⟨g⟩
theorem gg {ps:List Prop} (hk:TO P x ops l' s' Q) (h:QL P false ops 400 l s=some (s',ps,l'):=by simp only[kk,Nat.reduceAdd,Nat.reduceLT,Nat.reduceEqDiff, ↓reduceIte,reduceCtorEq];first|done|rfl) (ho:All ps:=by first|exact trivial|(simp only[kO];omega)|(simp[All,dI];first|done|omega)|(simp+contextual [All,dI];first|done|grind)):TO P x ops l s Q:=dR 400 h ho hk
theorem gx {E:Prop} (e:E) {ps:List Prop} (hk:TO P x ops l' s' Q) (h:E→QL P false ops 400 l s=some (s',ps,l'):=by intro e9;simp only[kk,Nat.reduceAdd,Nat.reduceLT,Nat.reduceEqDiff, ↓reduceIte,reduceCtorEq,e9];first|done|rfl) (ho:All ps:=by first|exact trivial|(simp only[kO];omega)|(simp[All,dI];first|done|omega)|(simp+contextual [All,dI];first|done|grind)):TO P x ops l s Q:=dR 400 (h e) ho hk
theorem gq {ps:List Prop} (ho:All ps) (hk:TO P x ops l' s' Q) (h:QL P false ops 400 l s=some (s',ps,l'):=by simp only[kk,Nat.reduceAdd,Nat.reduceLT,Nat.reduceEqDiff, ↓reduceIte,reduceCtorEq];first|done|rfl):TO P x ops l s Q:=dR 400 h ho hk
theorem gy {E:Prop} (e:E) {ps:List Prop} (ho:All ps) (hk:TO P x ops l' s' Q) (h:E→QL P false ops 400 l s=some (s',ps,l'):=by intro e9;simp only[kk,Nat.reduceAdd,Nat.reduceLT,Nat.reduceEqDiff, ↓reduceIte,reduceCtorEq,e9];first|done|rfl):TO P x ops l s Q:=dR 400 (h e) ho hk
theorem af {c:Operand} {d d':Code} {b:Bool} (h1:b=true→T P x d s Q) (h2:b=false→T P x d' s Q) (hc:ev s c=some (B b):=by simp only[kV, ↓reduceIte,Nat.reduceEqDiff,reduceCtorEq];first|done|rfl):T P x (.cond c d d') s Q:=wR hc h1 h2
theorem aW (hn:s'.n=s.n:=by rfl) (he:∀p∈s'.env,get s.env p.1=some (gJ (fun i=>i) p.2)∧aZ (ae s'.st) p.2:=by first|(simp only[kE,aQ,cu,dX,aO,bF, ↓reduceIte,Nat.reduceEqDiff,reduceCtorEq];done)|simp[di,bf,aA,Ab.get,aZ,dH,aN,cu,dX,aO,bF,bY,ay,bG,bH,bD,bI,bC,ae,List.flatten]) (h1:∀p∈s'.st,get s.st ((fun i=>i) p.1)=some (eX (fun i=>i) p.2):=by first|(simp only[kE,aQ,cu,dX,aO,bF, ↓reduceIte,Nat.reduceEqDiff,reduceCtorEq];done)|simp[di,bf,aA,Ab.get,aZ,dH,aN,cu,dX,aO,bF,bY,ay,bG,bH,bD,bI,bC,ae,List.flatten]) (h2:(s'.st.map fun p=>(fun i=>i) p.1).Nodup:=by first|(simp only[kE,aQ,cu,dX,aO,bF, ↓reduceIte,Nat.reduceEqDiff,reduceCtorEq];done)|simp[di,bf,aA,Ab.get,aZ,dH,aN,cu,dX,aO,bF,bY,ay,bG,bH,bD,bI,bC,ae,List.flatten]) (h3:∀p∈s'.st,bY (ae s'.st) p.2:=by first|(simp only[kE,aQ,cu,dX,aO,bF, ↓reduceIte,Nat.reduceEqDiff,reduceCtorEq];done)|simp[di,bf,aA,Ab.get,aZ,dH,aN,cu,dX,aO,bF,bY,ay,bG,bH,bD,bI,bC,ae,List.flatten]) (h4:∀id,x.d0 id→ae s'.st id=true∧id=id:=by exact gu (by assumption) (by simp[ae,Ab.get])):zK x s s':=fZ (fun i=>i) hn he ⟨h1,h2,h3,h4⟩
theorem tK {E:Prop} (e:E) (hn:s'.n=s.n:=by rfl) (he:E→∀p∈s'.env,get s.env p.1=some (gJ (fun i=>i) p.2)∧aZ (ae s'.st) p.2:=by intro e9;first|(simp only[kE,aQ,cu,dX,aO,bF, ↓reduceIte,Nat.reduceEqDiff,reduceCtorEq,e9];done)|simp[di,bf,aA,Ab.get,aZ,dH,aN,cu,dX,aO,bF,bY,ay,bG,bH,bD,bI,bC,ae,List.flatten,e9]) (h1:E→∀p∈s'.st,get s.st ((fun i=>i) p.1)=some (eX (fun i=>i) p.2):=by intro e9;first|(simp only[kE,aQ,cu,dX,aO,bF, ↓reduceIte,Nat.reduceEqDiff,reduceCtorEq,e9];done)|simp[di,bf,aA,Ab.get,aZ,dH,aN,cu,dX,aO,bF,bY,ay,bG,bH,bD,bI,bC,ae,List.flatten,e9]) (h2:E→(s'.st.map fun p=>(fun i=>i) p.1).Nodup:=by intro e9;first|(simp only[kE,aQ,cu,dX,aO,bF, ↓reduceIte,Nat.reduceEqDiff,reduceCtorEq,e9];done)|simp[di,bf,aA,Ab.get,aZ,dH,aN,cu,dX,aO,bF,bY,ay,bG,bH,bD,bI,bC,ae,List.flatten,e9]) (h3:E→∀p∈s'.st,bY (ae s'.st) p.2:=by intro e9;first|(simp only[kE,aQ,cu,dX,aO,bF, ↓reduceIte,Nat.reduceEqDiff,reduceCtorEq,e9];done)|simp[di,bf,aA,Ab.get,aZ,dH,aN,cu,dX,aO,bF,bY,ay,bG,bH,bD,bI,bC,ae,List.flatten,e9]) (h4:∀id,x.d0 id→ae s'.st id=true∧id=id:=by exact gu (by assumption) (by simp[ae,Ab.get])):zK x s s':=fZ (fun i=>i) hn (he e) ⟨h1 e,h2 e,h3 e,h4⟩
theorem uY (ρ:Nat→Nat) (hn:s'.n=s.n:=by rfl) (he:∀p∈s'.env,get s.env p.1=some (gJ ρ p.2)∧aZ (ae s'.st) p.2:=by first|(simp only[kE,aQ, ↓reduceIte,Nat.reduceEqDiff,reduceCtorEq];done)|(simp only[aQ,oN,oh,List.mem_cons,List.not_mem_nil,or_false,forall_eq_or_imp,forall_eq];simp[gJ,gX,eX,iM,aA,Ab.get,aZ,dH,aN,cu,dX,aO,bF,ay,jB,bY,bG,bH,bD,bI,bC,ae,List.flatten];done)|simp[gJ,gX,eX,iM,aA,Ab.get,aZ,dH,aN,cu,dX,aO,bF,ay,jB,bY,bG,bH,bD,bI,bC,ae,List.flatten]) (h1:∀p∈s'.st,get s.st (ρ p.1)=some (eX ρ p.2):=by first|(simp only[kE,aQ, ↓reduceIte,Nat.reduceEqDiff,reduceCtorEq];done)|(simp only[aQ,oN,oh,List.mem_cons,List.not_mem_nil,or_false,forall_eq_or_imp,forall_eq];simp[gJ,gX,eX,iM,aA,Ab.get,aZ,dH,aN,cu,dX,aO,bF,ay,jB,bY,bG,bH,bD,bI,bC,ae,List.flatten];done)|simp[gJ,gX,eX,iM,aA,Ab.get,aZ,dH,aN,cu,dX,aO,bF,ay,jB,bY,bG,bH,bD,bI,bC,ae,List.flatten]) (h2:(s'.st.map fun p=>ρ p.1).Nodup:=by first|(simp only[kE,aQ, ↓reduceIte,Nat.reduceEqDiff,reduceCtorEq];done)|(simp only[aQ,oN,oh,List.mem_cons,List.not_mem_nil,or_false,forall_eq_or_imp,forall_eq];simp[gJ,gX,eX,iM,aA,Ab.get,aZ,dH,aN,cu,dX,aO,bF,ay,jB,bY,bG,bH,bD,bI,bC,ae,List.flatten];done)|simp[gJ,gX,eX,iM,aA,Ab.get,aZ,dH,aN,cu,dX,aO,bF,ay,jB,bY,bG,bH,bD,bI,bC,ae,List.flatten]) (h3:∀p∈s'.st,bY (ae s'.st) p.2:=by first|(simp only[kE,aQ, ↓reduceIte,Nat.reduceEqDiff,reduceCtorEq];done)|(simp only[aQ,oN,oh,List.mem_cons,List.not_mem_nil,or_false,forall_eq_or_imp,forall_eq];simp[gJ,gX,eX,iM,aA,Ab.get,aZ,dH,aN,cu,dX,aO,bF,ay,jB,bY,bG,bH,bD,bI,bC,ae,List.flatten];done)|simp[gJ,gX,eX,iM,aA,Ab.get,aZ,dH,aN,cu,dX,aO,bF,ay,jB,bY,bG,bH,bD,bI,bC,ae,List.flatten]) (h4:∀id,x.d0 id→ae s'.st id=true∧ρ id=id:=by exact keepR (by assumption) (by simp[ae,Ab.get])):zK x s s':=fZ ρ hn he ⟨h1,h2,h3,h4⟩
theorem enS {E:Prop} (e:E) (ρ:Nat→Nat) (hn:s'.n=s.n:=by rfl) (he:E→∀p∈s'.env,get s.env p.1=some (gJ ρ p.2)∧aZ (ae s'.st) p.2:=by intro e9;first|(simp only[kE,aQ, ↓reduceIte,Nat.reduceEqDiff,reduceCtorEq];done)|(simp only[aQ,oN,oh,List.mem_cons,List.not_mem_nil,or_false,forall_eq_or_imp,forall_eq];simp[gJ,gX,eX,iM,aA,Ab.get,aZ,dH,aN,cu,dX,aO,bF,ay,jB,bY,bG,bH,bD,bI,bC,ae,List.flatten,e9];done)|simp[gJ,gX,eX,iM,aA,Ab.get,aZ,dH,aN,cu,dX,aO,bF,ay,jB,bY,bG,bH,bD,bI,bC,ae,List.flatten,e9]) (h1:E→∀p∈s'.st,get s.st (ρ p.1)=some (eX ρ p.2):=by intro e9;first|(simp only[kE,aQ, ↓reduceIte,Nat.reduceEqDiff,reduceCtorEq];done)|(simp only[aQ,oN,oh,List.mem_cons,List.not_mem_nil,or_false,forall_eq_or_imp,forall_eq];simp[gJ,gX,eX,iM,aA,Ab.get,aZ,dH,aN,cu,dX,aO,bF,ay,jB,bY,bG,bH,bD,bI,bC,ae,List.flatten,e9];done)|simp[gJ,gX,eX,iM,aA,Ab.get,aZ,dH,aN,cu,dX,aO,bF,ay,jB,bY,bG,bH,bD,bI,bC,ae,List.flatten,e9]) (h2:E→(s'.st.map fun p=>ρ p.1).Nodup:=by intro e9;first|(simp only[kE,aQ, ↓reduceIte,Nat.reduceEqDiff,reduceCtorEq];done)|(simp only[aQ,oN,oh,List.mem_cons,List.not_mem_nil,or_false,forall_eq_or_imp,forall_eq];simp[gJ,gX,eX,iM,aA,Ab.get,aZ,dH,aN,cu,dX,aO,bF,ay,jB,bY,bG,bH,bD,bI,bC,ae,List.flatten,e9];done)|simp[gJ,gX,eX,iM,aA,Ab.get,aZ,dH,aN,cu,dX,aO,bF,ay,jB,bY,bG,bH,bD,bI,bC,ae,List.flatten,e9]) (h3:E→∀p∈s'.st,bY (ae s'.st) p.2:=by intro e9;first|(simp only[kE,aQ, ↓reduceIte,Nat.reduceEqDiff,reduceCtorEq];done)|(simp only[aQ,oN,oh,List.mem_cons,List.not_mem_nil,or_false,forall_eq_or_imp,forall_eq];simp[gJ,gX,eX,iM,aA,Ab.get,aZ,dH,aN,cu,dX,aO,bF,ay,jB,bY,bG,bH,bD,bI,bC,ae,List.flatten,e9];done)|simp[gJ,gX,eX,iM,aA,Ab.get,aZ,dH,aN,cu,dX,aO,bF,ay,jB,bY,bG,bH,bD,bI,bC,ae,List.flatten,e9]) (h4:∀id,x.d0 id→ae s'.st id=true∧ρ id=id:=by exact keepR (by assumption) (by simp[ae,Ab.get])):zK x s s':=fZ ρ hn (he e) ⟨h1 e,h2 e,h3 e,h4⟩
theorem qU {A:Prop} (g:G') (ha:A:=by simp[lC,ae,Ab.get]) (h:G'→G:=by intro h9;(try simp only[kP,Nat.reduceEqDiff, ↓reduceIte,reduceCtorEq,List.cons_append,List.nil_append]);exact h9):A∧G:=⟨ha,h g⟩
theorem qQ {dst:Option Tmp} {f:FuncId} {bs:List Operand} {ats:Array TypeId} {ty:TypeId} {pos:String} {after:Array Edge} {args:List AV} (st0:List (Nat×AO)) {R:AV→List (Nat×AO)→Prop} (hc:AC P f args st0 R)
 (hk:∀r st',R r st'→lC s st0 st'∧TO P x ops l ⟨s.n,iy s.env dst r,aK s.st st'⟩ Q) (hd:∀i,dst=some i→i<s.n:=by simp) (he:iV s bs=some args:=by simp only[kV, ↓reduceIte,Nat.reduceEqDiff,reduceCtorEq];first|done|rfl)
 (l1:∀p∈st0,get s.st p.1=some p.2:=by simp[Ab.get]) (l2:∀p∈st0,bY (ae st0) p.2:=by simp[bY,bG,bH,bD,bI,bC,aA,cu,dX,aO,bF,aN,dH,ae,Ab.get]) (l3:∀a∈args,aZ (ae st0) a:=by simp[aZ,dH,aN,aO,bF,ae,Ab.get]):
 TO P x ops (⟨dst, .call {callee:= .value (.func f),args:=bs.toArray,argTypes:=ats},ty,pos,after,none⟩::l) s Q:=oG st0 hd he ⟨l1,l2,l3⟩ hc hk
theorem cf {dst:Option Tmp} {f:FuncId} {bs:List Operand} {ats:Array TypeId} {ty:TypeId} {pos:String} {after:Array Edge} {args:List AV} {R0:AV} (hc:AC P f args [] (fun r st=>r=R0∧st=[])) (g:G')
 (hk:G'→TO P x ops l ⟨s.n,iy s.env dst R0,aK s.st []⟩ Q:=by intro h9;(try simp only[kP,Nat.reduceEqDiff, ↓reduceIte,reduceCtorEq,List.cons_append,List.nil_append]);exact h9) (hd:∀i,dst=some i→i<s.n:=by simp) (he:iV s bs=some args:=by simp only[kV, ↓reduceIte,Nat.reduceEqDiff,reduceCtorEq];first|done|rfl)
 (l3:∀a∈args,aZ (ae []) a:=by simp[aZ,dH,aN,aO,bF,ae,Ab.get]):
 TO P x ops (⟨dst, .call {callee:= .value (.func f),args:=bs.toArray,argTypes:=ats},ty,pos,after,none⟩::l) s Q:=oG [] hd he ⟨by simp,by simp,l3⟩ hc (by rintro r st' ⟨rfl,rfl⟩;exact⟨by simp[lC],hk g⟩)
theorem rC (h:G:=by simp only[All,List.cons_append,List.nil_append,dI,List.mem_cons,List.not_mem_nil,or_false,forall_eq_or_imp,forall_eq,aZ,aN,dH,aO,bF,and_true,true_and,implies_true,List.length_map,List.length_cons,List.length_nil,aQ,jo,dm];repeat' (first|exact trivial|refine And.intro ?_ ?_|intro _|assumption|rfl|omega|(rw[Bool.not_eq_true'];assumption)|(simp;done)|(simp only[decide_eq_true_eq] at*;omega)|(simp_all;done))):G:=h
theorem gI {F0:Prop} (f0:F0) (h:F0→G:=by intro f0;simp only[All,List.cons_append,List.nil_append,dI,List.mem_cons,List.not_mem_nil,or_false,forall_eq_or_imp,forall_eq,aZ,aN,dH,aO,bF,and_true,true_and,implies_true,List.length_map,List.length_cons,List.length_nil,aQ,jo,dm];repeat' (first|exact trivial|exact f0|exact f0 _|exact f0 (by assumption)|refine And.intro ?_ ?_|intro _|assumption|rfl|omega|(rw[Bool.not_eq_true'];assumption)|(simp;done)|(simp only[decide_eq_true_eq] at*;omega)|(simp_all;done))):G:=h f0
theorem ob2 {F0 F1:Prop} (f0:F0) (f1:F1) (h:F0→F1→G:=by intro f0 f1;simp only[All,List.cons_append,List.nil_append,dI,List.mem_cons,List.not_mem_nil,or_false,forall_eq_or_imp,forall_eq,aZ,aN,dH,aO,bF,and_true,true_and,implies_true,List.length_map,List.length_cons,List.length_nil,aQ,jo,dm];repeat' (first|exact trivial|exact f0|exact f0 _|exact f0 (by assumption)|exact f1|exact f1 _|exact f1 (by assumption)|refine And.intro ?_ ?_|intro _|assumption|rfl|omega|(rw[Bool.not_eq_true'];assumption)|(simp;done)|(simp only[decide_eq_true_eq] at*;omega)|(simp_all;done))):G:=h f0 f1
theorem ob3 {F0 F1 F2:Prop} (f0:F0) (f1:F1) (f2:F2) (h:F0→F1→F2→G:=by intro f0 f1 f2;simp only[All,List.cons_append,List.nil_append,dI,List.mem_cons,List.not_mem_nil,or_false,forall_eq_or_imp,forall_eq,aZ,aN,dH,aO,bF,and_true,true_and,implies_true,List.length_map,List.length_cons,List.length_nil,aQ,jo,dm];repeat' (first|exact trivial|exact f0|exact f0 _|exact f0 (by assumption)|exact f1|exact f1 _|exact f1 (by assumption)|exact f2|exact f2 _|exact f2 (by assumption)|refine And.intro ?_ ?_|intro _|assumption|rfl|omega|(rw[Bool.not_eq_true'];assumption)|(simp;done)|(simp only[decide_eq_true_eq] at*;omega)|(simp_all;done))):G:=h f0 f1 f2
theorem ob4 {F0 F1 F2 F3:Prop} (f0:F0) (f1:F1) (f2:F2) (f3:F3) (h:F0→F1→F2→F3→G:=by intro f0 f1 f2 f3;simp only[All,List.cons_append,List.nil_append,dI,List.mem_cons,List.not_mem_nil,or_false,forall_eq_or_imp,forall_eq,aZ,aN,dH,aO,bF,and_true,true_and,implies_true,List.length_map,List.length_cons,List.length_nil,aQ,jo,dm];repeat' (first|exact trivial|exact f0|exact f0 _|exact f0 (by assumption)|exact f1|exact f1 _|exact f1 (by assumption)|exact f2|exact f2 _|exact f2 (by assumption)|exact f3|exact f3 _|exact f3 (by assumption)|refine And.intro ?_ ?_|intro _|assumption|rfl|omega|(rw[Bool.not_eq_true'];assumption)|(simp;done)|(simp only[decide_eq_true_eq] at*;omega)|(simp_all;done))):G:=h f0 f1 f2 f3
theorem DD {wr:Bool} {id:Nat} {s1:S} (cs:List (Nat×AV)) {As:List A1} {ps:List Prop} (h:Fz P wr l cs l s=some (As,ps,s1)) (ho:All ps) (hk:Q .normal s1) (hm:P.follows .mixedOrders=true:=by kernel_rfl) (hc:qw l As=true:=by kernel_rfl):
 T P x (.region id l.toArray true) s Q:=qx cs hm h ho hc hk
theorem dr {id:Nat} {s1:S} (cs:List (Nat×AV)) {As:List A1} {ps:List Prop} (ho:All ps) (hk:Q .normal s1) (h:Fz P false l cs l s=some (As,ps,s1):=by simp only[kD,kk,Nat.reduceAdd,Nat.reduceLT,Nat.reduceEqDiff, ↓reduceIte,reduceCtorEq];first|done|rfl) (hm:P.follows .mixedOrders=true:=by kernel_rfl) (hc:qw l As=true:=by kernel_rfl):
 T P x (.region id l.toArray true) s Q:=qx cs hm h ho hc hk
theorem dx {id:Nat} {s1:S} (cs:List (Nat×AV)) {E:Prop} (e:E) {As:List A1} {ps:List Prop} (ho:All ps) (hk:Q .normal s1) (h:E→Fz P false l cs l s=some (As,ps,s1):=by intro e9;simp only[kD,kk,Nat.reduceAdd,Nat.reduceLT,Nat.reduceEqDiff, ↓reduceIte,reduceCtorEq,e9];first|done|rfl) (hm:P.follows .mixedOrders=true:=by kernel_rfl) (hc:qw l As=true:=by kernel_rfl):
 T P x (.region id l.toArray true) s Q:=qx cs hm (h e) ho hc hk
theorem so {o:Oper} (cs:List (Nat×AV)) {out:Out} (ho:All out.obl) (g:G') (hk:G'→TO P x ops l ⟨s.n,iy s.env o.dst out.v,aK s.st out.upd⟩ Q:=by intro h9;simp only[kP,Nat.reduceEqDiff, ↓reduceIte,reduceCtorEq];exact h9) (hd:qG o s.n=true:=by rfl) (h:lN P false ops cs o s=some out:=by simp only[kD,kk,Nat.reduceAdd,Nat.reduceLT,Nat.reduceEqDiff, ↓reduceIte,reduceCtorEq];first|done|rfl):TO P x ops (o::l) s Q:=YC cs hd h ho (hk g)
theorem rA {rs:List ResultVar} {R:AV→List (Nat×AO)→Prop} {r:AV} {obl:List Prop} (st':List (Nat×AO)) (hR:R r st') (h:Jt P rs s=some (r,obl):=by simp only[kR,kk, ↓reduceIte,Nat.reduceEqDiff,reduceCtorEq];first|done|rfl) (ho:All obl:=by first|exact trivial|(simp only[kO];omega)|(simp[All,dI];first|done|omega)|(simp+contextual [All,dI];first|done|grind)) (h1:∀p∈st',get s.st ((fun i=>i) p.1)=some (eX (fun i=>i) p.2):=by simp[Ab.get,bf]) (h2:(st'.map fun p=>(fun i=>i) p.1).Nodup:=by simp) (h3:∀p∈st',bY (ae st') p.2:=by simp[Ab.get,bY,aZ,bG,bH,bD,bI,bC,aA,cu,dX,aO,bF,aN,dH,ae]) (h4:∀id,x.d0 id→ae st' id=true∧id=id:=by exact gu (by assumption) (by simp[ae,Ab.get])) (hcl:aZ (ae st') r:=by simp[Ab.get,bY,aZ,bG,bH,bD,bI,bC,aA,cu,dX,aO,bF,aN,dH,ae]):MK P rs x R .ret s:=⟨.inl rfl,r,obl,h,ho,st',⟨h1,h2,h3,h4⟩,hcl,hR⟩
theorem rN {rs:List ResultVar} {R:AV→List (Nat×AO)→Prop} {r:AV} {obl:List Prop} (st':List (Nat×AO)) (hR:R r st') (h:Jt P rs s=some (r,obl):=by simp only[kR,kk, ↓reduceIte,Nat.reduceEqDiff,reduceCtorEq];first|done|rfl) (ho:All obl:=by first|exact trivial|(simp only[kO];omega)|(simp[All,dI];first|done|omega)|(simp+contextual [All,dI];first|done|grind)) (h1:∀p∈st',get s.st ((fun i=>i) p.1)=some (eX (fun i=>i) p.2):=by simp[Ab.get,bf]) (h2:(st'.map fun p=>(fun i=>i) p.1).Nodup:=by simp) (h3:∀p∈st',bY (ae st') p.2:=by simp[Ab.get,bY,aZ,bG,bH,bD,bI,bC,aA,cu,dX,aO,bF,aN,dH,ae]) (h4:∀id,x.d0 id→ae st' id=true∧id=id:=by exact gu (by assumption) (by simp[ae,Ab.get])) (hcl:aZ (ae st') r:=by simp[Ab.get,bY,aZ,bG,bH,bD,bI,bC,aA,cu,dX,aO,bF,aN,dH,ae]):MK P rs x R .normal s:=⟨.inr rfl,r,obl,h,ho,st',⟨h1,h2,h3,h4⟩,hcl,hR⟩
theorem rV {rs:List ResultVar} {R:AV→List (Nat×AO)→Prop} {r:AV} {obl:List Prop} {e:Exit} (st':List (Nat×AO)) (hR:R r st') (he:e= .ret∨e= .normal:=by first|exact .inl rfl|exact .inr rfl) (h:Jt P rs s=some (r,obl):=by simp only[kR,kk, ↓reduceIte,Nat.reduceEqDiff,reduceCtorEq];first|done|rfl) (ho:All obl:=by first|exact trivial|(simp only[kO];omega)|(simp[All,dI];first|done|omega)|(simp+contextual [All,dI];first|done|grind)) (h1:∀p∈st',get s.st ((fun i=>i) p.1)=some (eX (fun i=>i) p.2):=by simp[Ab.get,bf]) (h2:(st'.map fun p=>(fun i=>i) p.1).Nodup:=by simp) (h3:∀p∈st',bY (ae st') p.2:=by simp[Ab.get,bY,aZ,bG,bH,bD,bI,bC,aA,cu,dX,aO,bF,aN,dH,ae]) (h4:∀id,x.d0 id→ae st' id=true∧id=id:=by exact gu (by assumption) (by simp[ae,Ab.get])) (hcl:aZ (ae st') r:=by simp[Ab.get,bY,aZ,bG,bH,bD,bI,bC,aA,cu,dX,aO,bF,aN,dH,ae]):MK P rs x R e s:=⟨he,r,obl,h,ho,st',⟨h1,h2,h3,h4⟩,hcl,hR⟩
theorem bV {f:FuncId} {fn:Func} {c:Code} {args:List AV} {st:List (Nat×AO)} {R:AV→List (Nat×AO)→Prop} {n:Nat} {env:List (Nat×AV)} (hf:P.funcs[f]? =some fn) (hn:fn.ntmps=n) (h:∀x:X,(∀id,x.d0 id→ae st id=true)→T P x c ⟨n,env,st⟩ (MK P fn.results.toList x R)) (hb:fn.body=some c:=by rfl) (hname:(fn.name=="runtime.NumGoroutine")=false:=by rfl)
 (he:(List.range args.length).zip args=env:=by simp only[List.range,List.range.loop,List.length,List.zip,List.zipWith];first|done|rfl) (hl:args.length≤n:=by simp only[List.length];omega):AC P f args st R:=x8 hf hb hname (by rw[hn];exact hl) (by rw[hn,he];exact h)
end
end Go.Proofs.YtcpgicfphakdaaaGreatDoor
namespace Go.Proofs.YtcpgicfphakdaaaGreatDoor
open Go.Ab Tys
def cnt (d:bK) (c:Int):Nat:=(d.revs.filter fun u=>decide (u.chg<c)).length
def nY (d:bK):Nat→Rev→bP
 |0,v=>fileOf v
 |n+1,v=>
  match jQ d v with
  |none=>fileOf v
  |some u=>if v.chg≤u.chg then fileOf v else nY d n u
def first(d:bK) (v:Rev):bP:=nY d (cnt d v.chg) v
theorem BV {d:bK} {p:ByteArray} {n:Int} {u:Rev} (h:oQ d p n=some u):u∈d.revs∧u.path=p∧u.num=n:=by
 have h1:=List.mem_of_find?_eq_some h
 have h2:=List.find?_some h
 simp only[log,List.mem_filter] at h1
 exact⟨h1.1,by simpa using h1.2,by simpa using h2⟩
theorem zQ {d:bK} {v u:Rev} (h:jQ d v=some u):u∈d.revs:=by
 unfold jQ at h
 split at h
 ·cases h
 ·split at h
  ·exact(BV h).1
  ·exact(BV h).1
theorem cnt_lt {d:bK} {u:Rev} {c:Int} (hu:u∈d.revs) (h:u.chg<c):cnt d u.chg<cnt d c:=by
 unfold cnt
 generalize d.revs=l at hu
 have hle:∀l:List Rev,(l.filter fun w=>decide (w.chg<u.chg)).length≤(l.filter fun w=>decide (w.chg<c)).length:=by
  intro l
  induction l with
  |nil=>simp
  |cons w l ih=>
   simp only[List.filter_cons]
   by_cases h1:w.chg<u.chg
   ·rw[if_pos (by simpa using h1),if_pos (by simp;omega)];simpa using ih
   ·rw[if_neg (by simpa using h1)]
    split
    ·simp;omega
    ·exact ih
 induction l with
 |nil=>cases hu
 |cons w l ih=>
  rcases List.mem_cons.1 hu with rfl|hu
  ·simp only[List.filter_cons]
   rw[if_neg (by simp),if_pos (by simpa using h)]
   have:=hle l
   simp;omega
  ·have:=ih hu
   simp only[List.filter_cons]
   by_cases h1:w.chg<u.chg
   ·rw[if_pos (by simpa using h1),if_pos (by simp;omega)];simpa using this
   ·rw[if_neg (by simpa using h1)]
    split
    ·simp;omega
    ·exact this
theorem Jo (d:bK):∀(n m:Nat) (v:Rev),cnt d v.chg≤n→cnt d v.chg≤m→nY d n v=nY d m v:=by
 have step:∀(n:Nat) (v:Rev),cnt d v.chg≤n→nY d (n+1) v=nY d n v:=by
  intro n
  induction n with
  |zero=>
   intro v hv
   simp only[nY]
   split
   ·rfl
   ·rename_i u hu
    split
    ·rfl
    ·rename_i hc
     have:=cnt_lt (zQ hu) (by omega:u.chg<v.chg)
     omega
  |succ n ih=>
   intro v hv
   rw[nY]
   conv=>rhs;rw[nY]
   split
   ·rfl
   ·rename_i u hu
    split
    ·rfl
    ·rename_i hc
     have:=cnt_lt (zQ hu) (by omega:u.chg<v.chg)
     exact ih u (by omega)
 have up:∀(k n:Nat) (v:Rev),cnt d v.chg≤n→nY d (n+k) v=nY d n v:=by
  intro k
  induction k with
  |zero=>intros;rfl
  |succ k ih=>intro n v hv;rw[←Nat.add_assoc,step _ _ (by omega),ih n v hv]
 intro n m v hn hm
 rcases Nat.le_total n m with h|h
 ·obtain⟨k,rfl⟩:=Nat.exists_eq_add_of_le h;exact(up k n v hn).symm
 ·obtain⟨k,rfl⟩:=Nat.exists_eq_add_of_le h;exact up k m v hm
theorem ji {d:bK} {v:Rev} (h:jQ d v=none):first d v=fileOf v:=by
 unfold first
 cases cnt d v.chg with
 |zero=>rfl
 |succ n=>simp[nY,h]
theorem Xy {d:bK} {v u:Rev} (h:jQ d v=some u) (hc:v.chg≤u.chg):first d v=fileOf v:=by
 unfold first
 cases cnt d v.chg with
 |zero=>rfl
 |succ n=>simp[nY,h,hc]
theorem A8 {d:bK} {v u:Rev} (h:jQ d v=some u) (hc:u.chg<v.chg):first d v=first d u:=by
 have hlt:=cnt_lt (zQ h) hc
 unfold first
 obtain⟨n,hn⟩:∃n,cnt d v.chg=n+1:=⟨cnt d v.chg-1,by omega⟩
 rw[hn,nY,h]
 simp only
 rw[if_neg (by omega)]
 exact Jo d _ _ u (by omega) (Nat.le_refl _)
def hasPrefix (s p:ByteArray):Bool:=decide (p.size≤s.size)&&decide (s.extract 0 p.size=p)
@[reducible] def slash:ByteArray:={data:= #[47]}
theorem pG:slash.size=1:=rfl
theorem RH:((#[47]:Array UInt8).getD 0 0).toNat.toUInt8=47:=by decide
theorem indexByte_lt (l:List UInt8) (c:UInt8):Lib.indexByte l c<l.length:=by
 induction l with
 |nil=>simp[Lib.indexByte]
 |cons b l ih=>
  unfold Lib.indexByte
  split
  ·simp
  ·split
   ·simp;omega
   ·simp;omega
def ou (s:ByteArray):Nat:=Lib.countByte s.data.toList 47
def sO (s:ByteArray):Int:=Lib.indexByte s.data.toList 47
theorem TW (s:ByteArray):ou s≤s.size:=by
 unfold ou Lib.countByte
 have:=List.count_le_length (a:=(47:UInt8)) (l:=s.data.toList)
 simpa using this
theorem abd (s:ByteArray):sO s<s.size:=by
 have:=indexByte_lt s.data.toList 47
 simpa[sO] using this
theorem aa7 (s:ByteArray): -1≤sO s:=Lib.indexByte_ge _ _
def splitN:Nat→ByteArray→List ByteArray
 |0,s=>[s]
 |n+1,s=>if sO s<0 then [s] else s.extract 0 (sO s).toNat::splitN n (s.extract ((sO s).toNat+1) s.size)
def split (s:ByteArray):List ByteArray:=splitN (ou s) s
@[reducible] def encS (b:ByteArray):List D:=[.v (.string b)]
@[reducible] def dJ (l:List ByteArray):AV:= .c (.d (.ps 1 (l.map encS)))
theorem IV:∀(n:Nat) (s:ByteArray),(splitN n s).length≤n+1
 |0,s=>by simp[splitN]
 |n+1,s=>by
  simp only[splitN]
  split
  ·simp
  ·simpa using IV n _
theorem CE {α:Type} (e:α→List D) (l:List α) (i:Nat) (v:α) (n:Nat) (hn:∀a,(e a).length=n):
 ((l.map e).map fun l=>l.map C.d).set i ((e v).map C.d++List.drop n (((l.map e).map fun l=>l.map C.d).getD i []))=((l.set i v).map e).map fun l=>l.map C.d:=by
 by_cases h:i<l.length
 ·have:(((l.map e).map fun l=>l.map C.d).getD i []).length=n:=by simp[List.getD,h,hn]
  rw[List.drop_eq_nil_of_le (by omega),List.append_nil];simp[List.map_set]
 ·rw[List.set_eq_of_length_le (by simp;omega),List.set_eq_of_length_le (by omega)]
theorem yS (l:List ByteArray) (i:Nat) (v:ByteArray):((l.map encS).map fun l=>l.map C.d).set i (C.d (.v (.string v))::List.drop 1 (((l.map encS).map fun l=>l.map C.d).getD i []))=((l.set i v).map encS).map fun l=>l.map C.d:=
 CE encS l i v 1 (fun _=>rfl)
theorem Ho {n:Nat} {s:ByteArray} (h:sO s<0):splitN n s=[s]:=by
 cases n with
 |zero=>rfl
 |succ n=>simp[splitN,h]
theorem Az (l:List ByteArray) (i:Nat) (v:ByteArray):((l.map encS).map fun l=>l.map C.d).set i [C.d (.v (.string v))]=((l.set i v).map encS).map fun l=>l.map C.d:=by
 simp only[List.map_map,List.map_set];rfl
theorem Kv (done:List ByteArray) (k:Nat) (e v:ByteArray):(done++List.replicate (k+1) e).set done.length v=(done++[v])++List.replicate k e:=by
 rw[List.set_append,if_neg (by omega)];simp[List.replicate_succ]
theorem Pi (done:List ByteArray) (k:Nat) (rest:ByteArray) (h:0<k):((done++List.replicate k ByteArray.empty).set done.length rest).take (done.length+1)=done++[rest]:=by
 obtain⟨j,rfl⟩:∃j,k=j+1:=⟨k-1,by omega⟩
 rw[Kv,List.take_append_of_le_length (by simp),List.take_of_length_le (by simp)]
@[reducible] def letters:ByteArray:={data:=([65,66,67,68,69,70,71,72,73,74,75,76,77,78,79,80,81,82,83,84,85,86,87,88,89,90,97,98,99,100,101,102,103].append [104,105,106,107,108,109,110,111,112,113,114,115,116,117,118,119,120,121,122,48,49,50,51,52,53,54,55,56,57,95,46,43,45]).toArray}
def okB (b:Int):Bool:=decide (0≤Lib.indexByte letters.data.toList b.toNat.toUInt8)
@[reducible] def byteAt (s:ByteArray) (k:Nat):Int:=((s.data.getD k 0).toNat:Int)
def comp (s:ByteArray):Bool:=!(decide (s={data:= #[]})||decide (byteAt s 0=46))&&(List.range s.size).all fun k=>okB (byteAt s k)
theorem gB (n k:Nat) (p:Nat→Bool) (hk:k<n) (h:(List.range n).all p=true):p k=true:=by
 rw[List.all_eq_true] at h;exact h k (List.mem_range.2 hk)
theorem nG {s:ByteArray} (h:s≠{data:= #[]}):0<s.size:=by
 rcases Nat.eq_zero_or_pos s.size with e|e
 ·exfalso;apply h;cases s with|mk d=>have:d.size=0:=e
                                     rw[Array.eq_empty_of_size_eq_zero this]
 ·exact e
@[reducible] def iJ:ByteArray:={data:= #[47,47]}
theorem lG:∀(n:Nat) (s x:ByteArray),x∈splitN n s→x.size≤s.size
 |0,s,x,h=>by simp[splitN] at h;rw[h];omega
 |n+1,s,x,h=>by
  simp only[splitN] at h
  split at h
  ·simp at h;rw[h];omega
  ·rcases List.mem_cons.1 h with rfl|h
   ·simp;omega
   ·have:=lG n _ x h;simp at this;omega
def jK (p:ByteArray):Option (List ByteArray):=if hasPrefix p iJ then(if(split (p.extract 2 p.size)).all comp then some (split (p.extract 2 p.size)) else none) else none
@[reducible] def gZ:Option (List ByteArray)→Bool×List C
 |none=>(false,[.d (.v (.slice none 0 0))])
 |some l=>(false,[.d (.ps 1 (l.map encS))])
theorem qX (s:ByteArray):(split s).length≤s.size+1:=Nat.le_trans (IV _ _) (by have:=TW s;omega)
def aV (p:ByteArray):Option (List ByteArray):=match jK p with|some l=>if l.length<2 then none else some l|none=>none
def cb (a b:ByteArray):Int:=Lib.compareBytes a.data.toList b.data.toList
def cmpL:List ByteArray→List ByteArray→Int
 |[],[]=>0
 |[],_::_=> -1
 |_::_,[]=>1
 |a::l,b::m=>if cb a b=0 then cmpL l m else cb a b
def ord (p q:ByteArray):Int:=
 match aV p,aV q with
 |none,none=>cb p q
 |none,some _=> -1
 |some _,none=>1
 |some a,some b=>cmpL a b
theorem VU {p:ByteArray} {l:List ByteArray} (h:aV p=some l):l.length≤p.size+1:=by
 unfold aV at h
 split at h
 ·rename_i l' hl
  split at h
  ·cases h
  ·cases h
   unfold jK at hl
   split at hl
   ·split at hl
    ·cases hl
     have:=qX (p.extract 2 p.size)
     simp at this;omega
    ·cases hl
   ·cases hl
 ·cases h
def before (a b:jk):Bool:=
 if ord a.to b.to≠0 then decide (ord a.to b.to<0) else if a.num≠b.num then decide (a.num<b.num) else if ord a.frm b.frm≠0 then decide (ord a.frm b.frm<0) else decide (a.first<b.first)
def Va (r:jk):Prop:=r.frm.size≤100000∧r.to.size≤100000
def mr:jk:=⟨ByteArray.empty,0,0,ByteArray.empty,0,0⟩
def yx:Nat→List jk→List jk
 |0,l=>l
 |k+1,l=>if before (l.getD (k+1) mr) (l.getD k mr) then yx k ((l.set (k+1) (l.getD k mr)).set k (l.getD (k+1) mr)) else l
def EO (l:List jk):Nat→List jk
 |0=>l
 |k+1=>yx k (EO l k)
def Lt (l:List jk):List jk:=EO l l.length
@[reducible] def aeR {α:Type} (e:α→List D) (l:List α):List (List C):=(l.map e).map fun l=>l.map C.d
theorem pY {α:Type} (e:α→List D) (l:List α) (k:Nat) (z:α) (h:k<l.length):(aeR e l).getD k []=(e (l.getD k z)).map C.d:=by
 simp[List.getD,h]
theorem adu (l:List jk) (i:Nat) (v:jk):((l.map bg).map fun l=>l.map C.d).set i (C.d (.v (.string v.frm))::C.d (.v (.int .i64 v.first))::C.d (.v (.int .i64 v.last))::C.d (.v (.string v.to))::C.d (.v (.int .i64 v.num))::C.d (.v (.int .i64 v.how))::List.drop 6 (((l.map bg).map fun l=>l.map C.d).getD i []))=((l.set i v).map bg).map fun l=>l.map C.d:=
 CE bg l i v 6 (fun _=>rfl)
theorem acM (l:List jk) (i:Nat) (v:jk):((l.map bg).map fun l=>l.map C.d).set i [C.d (.v (.string v.frm)),C.d (.v (.int .i64 v.first)),C.d (.v (.int .i64 v.last)),C.d (.v (.string v.to)),C.d (.v (.int .i64 v.num)),C.d (.v (.int .i64 v.how))]=((l.set i v).map bg).map fun l=>l.map C.d:=by
 simp[List.map_set]
theorem Qe {l:List jk} {i j:Nat} {v w:jk} (hv:v∈l) (hw:w∈l) {P:jk→Prop} (h:∀r∈l,P r):∀r∈(l.set i w).set j v,P r:=by
 intro r hr
 rcases List.mem_or_eq_of_mem_set hr with hr|rfl
 ·rcases List.mem_or_eq_of_mem_set hr with hr|rfl
  ·exact h r hr
  ·exact h _ hw
 ·exact h _ hv
def I4 (base:Int) (kw xe:Bool):Bool:=decide (base<1)||decide (3<base)||(kw&&!decide (base=1))||(xe&&decide (base=3))
def Dc (x y:Oo):Bool:=(decide (x.act=5)&&decide (y.act=4)&&decide (y.frm=x.path))||(decide (x.act=4)&&decide (y.act=5)&&decide (y.path=x.frm))
def Ut (c:o6) (x:Oo):Nat:=(c.edits.filter (Dc x)).length
def BA (c:o6) (x:Oo):Bool:=decide ((Ut c x:Int)=1)||(!decide (x.act=5)&&!decide (x.act=4))
def fF:Oo:=⟨ByteArray.empty,0,0,false,false,false,0,0,0,ByteArray.empty,0,0⟩
def eOK (e:Oo):Prop:=e.path.size≤100000
structure Bh (d:bK) (c:o6) (i:Nat) (e:Oo):Prop where
 okPath:(aV e.path).isSome=true
 okOrder:0<i→ord (c.edits.getD (i-1) fF).path e.path<0
 okLo:1≤e.act
 okHi:e.act≤5
 okLive:(e.act=1∨e.act=4)↔live d e.path=false
 okPrev:e.prev=dh d e.path
 okFrm:e.act=4→live d e.frm=true∧dh d e.frm=e.fnum∧e.frm≠e.path
 okGone:e.act=3∨e.act=5→e.sum=0∧e.size=0
@[reducible] def uz (d:bK) (p:ByteArray) (n:Int):Rev:=(oQ d p n).getD ai
def acO (r:jk) (e:Oo):Prop:=e.path=r.to∧wr (e.prev+1)=r.num∧¬e.act=5
structure PQ (d:bK) (c:o6) (r:jk):Prop where
 okHow:1≤r.how∧r.how≤4
 okLo:1≤r.first
 okLe:r.first≤r.last
 okHi:r.last≤(log d r.frm).length
 okLine:∀n,r.first≤n→n≤r.last→¬(uz d r.frm n).act=5∧first d (uz d r.frm n)=first d (uz d r.frm r.last)
 okTgt:∃e∈c.edits,acO r e∧(¬e.act=1→¬first d ((jQ d (made c e)).getD ai)=first d (uz d r.frm r.last))
structure Am (d:bK) (c:o6):Prop where
 len1:1≤c.edits.length
 len2:c.edits.length≤64
 len3:c.recs.length≤64
 num:1≤c.num∧c.num≤1073741824
 old:∀v∈d.revs,v.chg<c.num
 edit:∀i,i<c.edits.length→Bh d c i (c.edits.getD i fF)
 move:∀e∈c.edits,BA c e=true
 recd:∀i,i<c.recs.length→PQ d c (c.recs.getD i mr)
 tot1:d.revs.length+c.edits.length≤512
 tot2:d.recs.length+c.recs.length≤512
theorem LG:∀(k:Nat) (l:List jk),(yx k l).length=l.length
 |0,l=>rfl
 |k+1,l=>by
  simp only[yx]
  split
  ·rw[LG k];simp
  ·rfl
theorem KD {P:jk→Prop}:∀(k:Nat) (l:List jk),k<l.length→(∀r∈l,P r)→∀r∈yx k l,P r
 |0,l,_,h=>h
 |k+1,l,hk,h=>by
  simp only[yx]
  split
  ·refine KD k _ (by simp;omega) (Qe ?_ ?_ h)
   ·rw[List.getD_eq_getElem?_getD,List.getElem?_eq_getElem hk];simp
   ·rw[List.getD_eq_getElem?_getD,List.getElem?_eq_getElem (by omega:k<l.length)];simp
  ·exact h
theorem zX (l:List jk):∀k,(EO l k).length=l.length
 |0=>rfl
 |k+1=>by rw[EO,LG,zX l k]
theorem Kt {P:jk→Prop} {l:List jk} (h:∀r∈l,P r):∀k,k≤l.length→∀r∈EO l k,P r
 |0,_=>h
 |k+1,hk=>KD k _ (by rw[zX];omega) (Kt h k (by omega))
theorem WP (l:List jk):(Lt l).length=l.length:=zX l _
theorem KA {P:jk→Prop} {l:List jk} (h:∀r∈l,P r):∀r∈Lt l,P r:=Kt h _ (Nat.le_refl _)
def lX (d:bK) (c:o6):bK:=⟨d.revs++c.edits.map (made c),Lt (d.recs++c.recs)⟩
theorem acS (sz:Nat) (a b:List (List D)):bY (fun _=>false) (.arr sz (a.map (fun l=>l.map C.d)++b.map (fun l=>l.map C.d))):=by
 simp only[bY]
 rw[List.flatten_append,ay,aA,aA,DX,DX]
 exact⟨trivial,trivial⟩
theorem up6 (m:List jk):∀l∈(m.map bg).map (fun l=>l.map C.d),l.length=6:=by simp
@[reducible] def RF:C:= .d (.v (.slice none 0 0))
def cOK (c:o6):Prop:=(∀e∈c.edits,eOK e)∧(∀r∈c.recs,Va r)∧c.edits.length≤100000∧c.recs.length≤100000
inductive kQ:List o6→bK→Prop
 |nil:kQ [] Jp
 |skip {l:List o6} {d:bK} (c:o6) (h:kQ l d):kQ (l++[c]) d
 |app {l:List o6} {d:bK} {c:o6} (h:kQ l d) (hc:cOK c) (hk:Am d c):kQ (l++[c]) (lX d c)
theorem kQ.ok {l:List o6} {d:bK} (h:kQ l d):d.revs.length≤512∧d.recs.length≤512∧∀r∈d.recs,Va r:=by
 induction h with
 |nil=>simp[Jp]
 |skip c h ih=>exact ih
 |app h hc hk ih=>
  refine⟨?_,?_,?_⟩
  ·have:=hk.tot1;simp[lX];omega
  ·have:=hk.tot2;simp[lX,WP];omega
  ·exact KA fun r hr=>by rcases List.mem_append.1 hr with hr|hr;exact ih.2.2 r hr;exact hc.2.1 r hr
def adG:o6:=⟨0,ByteArray.empty,ByteArray.empty,[],[]⟩
def tot (l:List o6):Nat:=(l.map fun c=>c.edits.length+c.recs.length).sum
def sE (e:Oo):Prop:=e.path.size+e.frm.size≤500
def sR (r:jk):Prop:=r.frm.size+r.to.size≤500
def sC (c:o6):Prop:=(∀e∈c.edits,sE e)∧∀r∈c.recs,sR r
structure Few (l:List o6):Prop where
 len:l.length≤2000000
 tot:tot l≤2000000
 es:∀c∈l,∀e∈c.edits,e.path.size≤2000000∧e.frm.size≤2000000
 rs:∀c∈l,∀r∈c.recs,r.frm.size≤2000000∧r.to.size≤2000000
theorem G7 (a b:List o6):tot (a++b)=tot a+tot b:=by simp[tot]
theorem TV {l:List o6} {c:o6} (h:c∈l):c.edits.length+c.recs.length≤tot l:=by
 induction l with
 |nil=>cases h
 |cons d l ih=>
  have e:tot (d::l)=d.edits.length+d.recs.length+tot l:=by simp[tot]
  rcases List.mem_cons.1 h with rfl|h
  ·omega
  ·have:=ih h;omega
theorem OM (l:List o6) (k:Nat):tot (l.take k)≤tot l:=by
 conv=>rhs;rw[←List.take_append_drop k l,G7]
 omega
theorem adn {l:List o6} (h1:tot l≤200) (h2:∀c∈l,sC c):∀c∈l,cOK c:=by
 intro c hc
 have h:=TV hc
 obtain⟨a,b⟩:=h2 c hc
 refine⟨fun e he=>?_,fun r hr=>?_,by omega,by omega⟩
 ·have:=a e he;simp only[sE] at this;simp only[eOK];omega
 ·have:=b r hr;simp only[sR] at this;simp only[Va];omega
def iE (d:bK) (p:ByteArray) (n:Int):Option Rev:=match oQ d p n with|some v=>if v.act=5 then none else some v|none=>none
def lU (d:bK) (f:bP) (v:Rev):Bool:=!decide (v.act=5)&&decide (first d v=f)
def line (d:bK) (f:bP):List Rev:=d.revs.filter (lU d f)
end Go.Proofs.YtcpgicfphakdaaaGreatDoor
