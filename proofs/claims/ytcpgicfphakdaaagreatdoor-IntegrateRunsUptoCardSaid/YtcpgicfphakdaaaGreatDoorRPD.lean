/- A part of the proof. -/
import Derived.Test.YtcpgicfphakdaaaGreatDoorRBd
import Derived.Test.YtcpgicfphakdaaaGreatDoorRAbDl
set_option linter.all false
namespace Go.Proofs.YtcpgicfphakdaaaGreatDoor.Tys
open Go.Ab Go.Proofs
end Go.Proofs.YtcpgicfphakdaaaGreatDoor.Tys
set_option linter.all false
namespace Go.Proofs.YtcpgicfphakdaaaGreatDoor
open Go.Ab Tys
theorem p2 {A B:Prop} (a:A) (b:B):A∧B:=⟨a,b⟩
theorem p3 {A B C:Prop} (a:A) (b:B) (c:C):A∧B∧C:=⟨a,b,c⟩
theorem p4 {A B C D:Prop} (a:A) (b:B) (c:C) (d:D):A∧B∧C∧D:=⟨a,b,c,d⟩
theorem p5 {A B C D E:Prop} (a:A) (b:B) (c:C) (d:D) (e:E):A∧B∧C∧D∧E:=⟨a,b,c,d,e⟩
theorem p6 {A B C D E F:Prop} (a:A) (b:B) (c:C) (d:D) (e:E) (f:F):A∧B∧C∧D∧E∧F:=⟨a,b,c,d,e,f⟩
theorem p7 {A B C D E F G:Prop} (a:A) (b:B) (c:C) (d:D) (e:E) (f:F) (g:G):A∧B∧C∧D∧E∧F∧G:=⟨a,b,c,d,e,f,g⟩
theorem p8 {A B C D E F G H:Prop} (a:A) (b:B) (c:C) (d:D) (e:E) (f:F) (g:G) (h:H):A∧B∧C∧D∧E∧F∧G∧H:=⟨a,b,c,d,e,f,g,h⟩
theorem p9 {A B C D E F G H I:Prop} (a:A) (b:B) (c:C) (d:D) (e:E) (f:F) (g:G) (h:H) (i:I):A∧B∧C∧D∧E∧F∧G∧H∧I:=⟨a,b,c,d,e,f,g,h,i⟩
theorem p10 {A B C D E F G H I J:Prop} (a:A) (b:B) (c:C) (d:D) (e:E) (f:F) (g:G) (h:H) (i:I) (j:J):A∧B∧C∧D∧E∧F∧G∧H∧I∧J:=⟨a,b,c,d,e,f,g,h,i,j⟩
theorem p11 {A B C D E F G H I J K:Prop} (a:A) (b:B) (c:C) (d:D) (e:E) (f:F) (g:G) (h:H) (i:I) (j:J) (k:K):A∧B∧C∧D∧E∧F∧G∧H∧I∧J∧K:=⟨a,b,c,d,e,f,g,h,i,j,k⟩
theorem p12 {A B C D E F G H I J K L:Prop} (a:A) (b:B) (c:C) (d:D) (e:E) (f:F) (g:G) (h:H) (i:I) (j:J) (k:K) (l:L):A∧B∧C∧D∧E∧F∧G∧H∧I∧J∧K∧L:=⟨a,b,c,d,e,f,g,h,i,j,k,l⟩
theorem p13 {A B C D E F G H I J K L M:Prop} (a:A) (b:B) (c:C) (d:D) (e:E) (f:F) (g:G) (h:H) (i:I) (j:J) (k:K) (l:L) (m:M):A∧B∧C∧D∧E∧F∧G∧H∧I∧J∧K∧L∧M:=⟨a,b,c,d,e,f,g,h,i,j,k,l,m⟩
theorem RJ {A B C D E F G H I J K L M N:Prop} (a:A) (b:B) (c:C) (d:D) (e:E) (f:F) (g:G) (h:H) (i:I) (j:J) (k:K) (l:L) (m:M) (n:N):A∧B∧C∧D∧E∧F∧G∧H∧I∧J∧K∧L∧M∧N:=⟨a,b,c,d,e,f,g,h,i,j,k,l,m,n⟩
theorem p15 {A B C D E F G H I J K L M N O:Prop} (a:A) (b:B) (c:C) (d:D) (e:E) (f:F) (g:G) (h:H) (i:I) (j:J) (k:K) (l:L) (m:M) (n:N) (o:O):A∧B∧C∧D∧E∧F∧G∧H∧I∧J∧K∧L∧M∧N∧O:=⟨a,b,c,d,e,f,g,h,i,j,k,l,m,n,o⟩
theorem p16 {A B C D E F G H I J K L M N O P:Prop} (a:A) (b:B) (c:C) (d:D) (e:E) (f:F) (g:G) (h:H) (i:I) (j:J) (k:K) (l:L) (m:M) (n:N) (o:O) (p:P):A∧B∧C∧D∧E∧F∧G∧H∧I∧J∧K∧L∧M∧N∧O∧P:=⟨a,b,c,d,e,f,g,h,i,j,k,l,m,n,o,p⟩
section
variable [Dr] {P:Program} {x:X} {s s':S} {Q:Exit→S→Prop} {ops l l':List Oper} {G G':Prop}
structure Hid (G:Prop):Prop where
 out:G
theorem bC (g:G') (h:G'→G:=by intro h9;(repeat (with_reducible first|refine na ?_|refine nb ?_|refine nc ?_|refine nd ?_|refine ne ?_|refine nf ?_|refine ng ?_|refine nh ?_|refine ni ?_|refine nj ?_|refine nk ?_|refine nl ?_|refine nm (by decide) ?_|refine nn ?_));exact h9):G:=h g
theorem Eb (g:G') (h:G'→G:=by intro h9;(with_reducible first|refine na ?_|refine nb ?_|refine nc ?_|refine nd ?_|refine ne ?_|refine nf ?_|refine ng ?_|refine nh ?_|refine ni ?_|refine nj ?_|refine nk ?_|refine nl ?_|refine nm (by decide) ?_|refine nn ?_);(repeat (with_reducible first|refine na ?_|refine nb ?_|refine nc ?_|refine nd ?_|refine ne ?_|refine nf ?_|refine ng ?_|refine nh ?_|refine ni ?_|refine nj ?_|refine nk ?_|refine nl ?_|refine nm (by decide) ?_|refine nn ?_));exact h9):G:=h g
theorem dZ (g:G') (h:G'→G:=by intro h9;simp only[Ab.put,Nat.reduceEqDiff, ↓reduceIte,reduceCtorEq,if_false,if_true];exact h9):G:=h g
theorem BP {wr:Bool} {ps:List Prop} (h:OX P wr ops 400 l s=some (s',ps,l')) (hk:TO P x ops l' s' Q) (ho:All ps:=by first|exact trivial|(simp only[kO];omega)|(simp[All,dG];first|done|omega)|(simp+contextual [All,dG];first|done|grind)):TO P x ops l s Q:=dw 400 h ho hk
theorem nv (g:G') (h:Hid G'→G:=by intro h9;(first|refine Eb ?_|refine BP (wr:=false) (by simp only[kk,Nat.reduceAdd,Nat.reduceLT,Nat.reduceEqDiff, ↓reduceIte,reduceCtorEq];first|done|rfl) ?_);(repeat (first|refine Eb ?_|refine BP (wr:=false) (by simp only[kk,Nat.reduceAdd,Nat.reduceLT,Nat.reduceEqDiff, ↓reduceIte,reduceCtorEq];first|done|rfl) ?_));exact h9.out):G:=h ⟨g⟩
theorem nx {E:Prop} (e:E) (g:G') (h:E→Hid G'→G:=by intro e9 h9;(first|refine Eb ?_|refine BP (wr:=false) (by simp only[kk,Nat.reduceAdd,Nat.reduceLT,Nat.reduceEqDiff, ↓reduceIte,reduceCtorEq,e9];first|done|rfl) ?_);(repeat (first|refine Eb ?_|refine BP (wr:=false) (by simp only[kk,Nat.reduceAdd,Nat.reduceLT,Nat.reduceEqDiff, ↓reduceIte,reduceCtorEq,e9];first|done|rfl) ?_));exact h9.out):G:=h e ⟨g⟩
theorem gg {ps:List Prop} (hk:TO P x ops l' s' Q) (h:OX P false ops 400 l s=some (s',ps,l'):=by simp only[kk,Nat.reduceAdd,Nat.reduceLT,Nat.reduceEqDiff, ↓reduceIte,reduceCtorEq];first|done|rfl) (ho:All ps:=by first|exact trivial|(simp only[kO];omega)|(simp[All,dG];first|done|omega)|(simp+contextual [All,dG];first|done|grind)):TO P x ops l s Q:=dw 400 h ho hk
theorem gx {E:Prop} (e:E) {ps:List Prop} (hk:TO P x ops l' s' Q) (h:E→OX P false ops 400 l s=some (s',ps,l'):=by intro e9;simp only[kk,Nat.reduceAdd,Nat.reduceLT,Nat.reduceEqDiff, ↓reduceIte,reduceCtorEq,e9];first|done|rfl) (ho:All ps:=by first|exact trivial|(simp only[kO];omega)|(simp[All,dG];first|done|omega)|(simp+contextual [All,dG];first|done|grind)):TO P x ops l s Q:=dw 400 (h e) ho hk
theorem gq {ps:List Prop} (ho:All ps) (hk:TO P x ops l' s' Q) (h:OX P false ops 400 l s=some (s',ps,l'):=by simp only[kk,Nat.reduceAdd,Nat.reduceLT,Nat.reduceEqDiff, ↓reduceIte,reduceCtorEq];first|done|rfl):TO P x ops l s Q:=dw 400 h ho hk
theorem gy {E:Prop} (e:E) {ps:List Prop} (ho:All ps) (hk:TO P x ops l' s' Q) (h:E→OX P false ops 400 l s=some (s',ps,l'):=by intro e9;simp only[kk,Nat.reduceAdd,Nat.reduceLT,Nat.reduceEqDiff, ↓reduceIte,reduceCtorEq,e9];first|done|rfl):TO P x ops l s Q:=dw 400 (h e) ho hk
theorem aj {c:Operand} {d d':Code} {b:Bool} (h1:b=true→T P x d s Q) (h2:b=false→T P x d' s Q) (hc:ev s c=some (B b):=by simp only[kV, ↓reduceIte,Nat.reduceEqDiff,reduceCtorEq];first|done|rfl):T P x (.cond c d d') s Q:=uP hc h1 h2
theorem cO (hn:s'.n=s.n:=by rfl) (he:∀p∈s'.env,get s.env p.1=some (dQ (fun i=>i) p.2)∧aH (ae s'.st) p.2:=by first|(simp only[kE,aK,bP,dM,aG,bG, ↓reduceIte,Nat.reduceEqDiff,reduceCtorEq];done)|simp[aW,aA,ag,Ab.get,aH,cu,aB,bP,dM,aG,bG,bD,ah,aS,aQ,aU,aP,aT,ae,List.flatten]) (h1:∀p∈s'.st,get s.st ((fun i=>i) p.1)=some (dK (fun i=>i) p.2):=by first|(simp only[kE,aK,bP,dM,aG,bG, ↓reduceIte,Nat.reduceEqDiff,reduceCtorEq];done)|simp[aW,aA,ag,Ab.get,aH,cu,aB,bP,dM,aG,bG,bD,ah,aS,aQ,aU,aP,aT,ae,List.flatten]) (h2:(s'.st.map fun p=>(fun i=>i) p.1).Nodup:=by first|(simp only[kE,aK,bP,dM,aG,bG, ↓reduceIte,Nat.reduceEqDiff,reduceCtorEq];done)|simp[aW,aA,ag,Ab.get,aH,cu,aB,bP,dM,aG,bG,bD,ah,aS,aQ,aU,aP,aT,ae,List.flatten]) (h3:∀p∈s'.st,bD (ae s'.st) p.2:=by first|(simp only[kE,aK,bP,dM,aG,bG, ↓reduceIte,Nat.reduceEqDiff,reduceCtorEq];done)|simp[aW,aA,ag,Ab.get,aH,cu,aB,bP,dM,aG,bG,bD,ah,aS,aQ,aU,aP,aT,ae,List.flatten]) (h4:∀id,x.d0 id→ae s'.st id=true∧id=id:=by exact di (by assumption) (by simp[ae,Ab.get])):yQ x s s':=bI (fun i=>i) hn he ⟨h1,h2,h3,h4⟩
theorem EH {E:Prop} (e:E) (hn:s'.n=s.n:=by rfl) (he:E→∀p∈s'.env,get s.env p.1=some (dQ (fun i=>i) p.2)∧aH (ae s'.st) p.2:=by intro e9;first|(simp only[kE,aK,bP,dM,aG,bG, ↓reduceIte,Nat.reduceEqDiff,reduceCtorEq,e9];done)|simp[aW,aA,ag,Ab.get,aH,cu,aB,bP,dM,aG,bG,bD,ah,aS,aQ,aU,aP,aT,ae,List.flatten,e9]) (h1:E→∀p∈s'.st,get s.st ((fun i=>i) p.1)=some (dK (fun i=>i) p.2):=by intro e9;first|(simp only[kE,aK,bP,dM,aG,bG, ↓reduceIte,Nat.reduceEqDiff,reduceCtorEq,e9];done)|simp[aW,aA,ag,Ab.get,aH,cu,aB,bP,dM,aG,bG,bD,ah,aS,aQ,aU,aP,aT,ae,List.flatten,e9]) (h2:E→(s'.st.map fun p=>(fun i=>i) p.1).Nodup:=by intro e9;first|(simp only[kE,aK,bP,dM,aG,bG, ↓reduceIte,Nat.reduceEqDiff,reduceCtorEq,e9];done)|simp[aW,aA,ag,Ab.get,aH,cu,aB,bP,dM,aG,bG,bD,ah,aS,aQ,aU,aP,aT,ae,List.flatten,e9]) (h3:E→∀p∈s'.st,bD (ae s'.st) p.2:=by intro e9;first|(simp only[kE,aK,bP,dM,aG,bG, ↓reduceIte,Nat.reduceEqDiff,reduceCtorEq,e9];done)|simp[aW,aA,ag,Ab.get,aH,cu,aB,bP,dM,aG,bG,bD,ah,aS,aQ,aU,aP,aT,ae,List.flatten,e9]) (h4:∀id,x.d0 id→ae s'.st id=true∧id=id:=by exact di (by assumption) (by simp[ae,Ab.get])):yQ x s s':=bI (fun i=>i) hn (he e) ⟨h1 e,h2 e,h3 e,h4⟩
theorem Af (ρ:Nat→Nat) (hn:s'.n=s.n:=by rfl) (he:∀p∈s'.env,get s.env p.1=some (dQ ρ p.2)∧aH (ae s'.st) p.2:=by first|(simp only[kE,aK, ↓reduceIte,Nat.reduceEqDiff,reduceCtorEq];done)|(simp only[aK,jv,jy,List.mem_cons,List.not_mem_nil,or_false,forall_eq_or_imp,forall_eq];simp[dQ,dX,dK,dY,ag,Ab.get,aH,cu,aB,bP,dM,aG,bG,ah,eU,bD,aS,aQ,aU,aP,aT,ae,List.flatten];done)|simp[dQ,dX,dK,dY,ag,Ab.get,aH,cu,aB,bP,dM,aG,bG,ah,eU,bD,aS,aQ,aU,aP,aT,ae,List.flatten]) (h1:∀p∈s'.st,get s.st (ρ p.1)=some (dK ρ p.2):=by first|(simp only[kE,aK, ↓reduceIte,Nat.reduceEqDiff,reduceCtorEq];done)|(simp only[aK,jv,jy,List.mem_cons,List.not_mem_nil,or_false,forall_eq_or_imp,forall_eq];simp[dQ,dX,dK,dY,ag,Ab.get,aH,cu,aB,bP,dM,aG,bG,ah,eU,bD,aS,aQ,aU,aP,aT,ae,List.flatten];done)|simp[dQ,dX,dK,dY,ag,Ab.get,aH,cu,aB,bP,dM,aG,bG,ah,eU,bD,aS,aQ,aU,aP,aT,ae,List.flatten]) (h2:(s'.st.map fun p=>ρ p.1).Nodup:=by first|(simp only[kE,aK, ↓reduceIte,Nat.reduceEqDiff,reduceCtorEq];done)|(simp only[aK,jv,jy,List.mem_cons,List.not_mem_nil,or_false,forall_eq_or_imp,forall_eq];simp[dQ,dX,dK,dY,ag,Ab.get,aH,cu,aB,bP,dM,aG,bG,ah,eU,bD,aS,aQ,aU,aP,aT,ae,List.flatten];done)|simp[dQ,dX,dK,dY,ag,Ab.get,aH,cu,aB,bP,dM,aG,bG,ah,eU,bD,aS,aQ,aU,aP,aT,ae,List.flatten]) (h3:∀p∈s'.st,bD (ae s'.st) p.2:=by first|(simp only[kE,aK, ↓reduceIte,Nat.reduceEqDiff,reduceCtorEq];done)|(simp only[aK,jv,jy,List.mem_cons,List.not_mem_nil,or_false,forall_eq_or_imp,forall_eq];simp[dQ,dX,dK,dY,ag,Ab.get,aH,cu,aB,bP,dM,aG,bG,ah,eU,bD,aS,aQ,aU,aP,aT,ae,List.flatten];done)|simp[dQ,dX,dK,dY,ag,Ab.get,aH,cu,aB,bP,dM,aG,bG,ah,eU,bD,aS,aQ,aU,aP,aT,ae,List.flatten]) (h4:∀id,x.d0 id→ae s'.st id=true∧ρ id=id:=by exact keepR (by assumption) (by simp[ae,Ab.get])):yQ x s s':=bI ρ hn he ⟨h1,h2,h3,h4⟩
theorem enS {E:Prop} (e:E) (ρ:Nat→Nat) (hn:s'.n=s.n:=by rfl) (he:E→∀p∈s'.env,get s.env p.1=some (dQ ρ p.2)∧aH (ae s'.st) p.2:=by intro e9;first|(simp only[kE,aK, ↓reduceIte,Nat.reduceEqDiff,reduceCtorEq];done)|(simp only[aK,jv,jy,List.mem_cons,List.not_mem_nil,or_false,forall_eq_or_imp,forall_eq];simp[dQ,dX,dK,dY,ag,Ab.get,aH,cu,aB,bP,dM,aG,bG,ah,eU,bD,aS,aQ,aU,aP,aT,ae,List.flatten,e9];done)|simp[dQ,dX,dK,dY,ag,Ab.get,aH,cu,aB,bP,dM,aG,bG,ah,eU,bD,aS,aQ,aU,aP,aT,ae,List.flatten,e9]) (h1:E→∀p∈s'.st,get s.st (ρ p.1)=some (dK ρ p.2):=by intro e9;first|(simp only[kE,aK, ↓reduceIte,Nat.reduceEqDiff,reduceCtorEq];done)|(simp only[aK,jv,jy,List.mem_cons,List.not_mem_nil,or_false,forall_eq_or_imp,forall_eq];simp[dQ,dX,dK,dY,ag,Ab.get,aH,cu,aB,bP,dM,aG,bG,ah,eU,bD,aS,aQ,aU,aP,aT,ae,List.flatten,e9];done)|simp[dQ,dX,dK,dY,ag,Ab.get,aH,cu,aB,bP,dM,aG,bG,ah,eU,bD,aS,aQ,aU,aP,aT,ae,List.flatten,e9]) (h2:E→(s'.st.map fun p=>ρ p.1).Nodup:=by intro e9;first|(simp only[kE,aK, ↓reduceIte,Nat.reduceEqDiff,reduceCtorEq];done)|(simp only[aK,jv,jy,List.mem_cons,List.not_mem_nil,or_false,forall_eq_or_imp,forall_eq];simp[dQ,dX,dK,dY,ag,Ab.get,aH,cu,aB,bP,dM,aG,bG,ah,eU,bD,aS,aQ,aU,aP,aT,ae,List.flatten,e9];done)|simp[dQ,dX,dK,dY,ag,Ab.get,aH,cu,aB,bP,dM,aG,bG,ah,eU,bD,aS,aQ,aU,aP,aT,ae,List.flatten,e9]) (h3:E→∀p∈s'.st,bD (ae s'.st) p.2:=by intro e9;first|(simp only[kE,aK, ↓reduceIte,Nat.reduceEqDiff,reduceCtorEq];done)|(simp only[aK,jv,jy,List.mem_cons,List.not_mem_nil,or_false,forall_eq_or_imp,forall_eq];simp[dQ,dX,dK,dY,ag,Ab.get,aH,cu,aB,bP,dM,aG,bG,ah,eU,bD,aS,aQ,aU,aP,aT,ae,List.flatten,e9];done)|simp[dQ,dX,dK,dY,ag,Ab.get,aH,cu,aB,bP,dM,aG,bG,ah,eU,bD,aS,aQ,aU,aP,aT,ae,List.flatten,e9]) (h4:∀id,x.d0 id→ae s'.st id=true∧ρ id=id:=by exact keepR (by assumption) (by simp[ae,Ab.get])):yQ x s s':=bI ρ hn (he e) ⟨h1 e,h2 e,h3 e,h4⟩
theorem uo {A:Prop} (g:G') (ha:A:=by simp[lW,ae,Ab.get]) (h:G'→G:=by intro h9;(try simp only[kP,Nat.reduceEqDiff, ↓reduceIte,reduceCtorEq,List.cons_append,List.nil_append]);exact h9):A∧G:=⟨ha,h g⟩
theorem tX {dst:Option Tmp} {f:FuncId} {bs:List Operand} {ats:Array TypeId} {ty:TypeId} {pos:String} {after:Array Edge} {args:List AV} (st0:List (Nat×AO)) {R:AV→List (Nat×AO)→Prop} (hc:AC P f args st0 R)
 (hk:∀r st',R r st'→lW s st0 st'∧TO P x ops l ⟨s.n,fO s.env dst r,aF s.st st'⟩ Q) (hd:∀i,dst=some i→i<s.n:=by simp) (he:iH s bs=some args:=by simp only[kV, ↓reduceIte,Nat.reduceEqDiff,reduceCtorEq];first|done|rfl)
 (l1:∀p∈st0,get s.st p.1=some p.2:=by simp[Ab.get]) (l2:∀p∈st0,bD (ae st0) p.2:=by simp[bD,aS,aQ,aU,aP,aT,ag,bP,dM,aG,bG,aB,cu,ae,Ab.get]) (l3:∀a∈args,aH (ae st0) a:=by simp[aH,cu,aB,aG,bG,ae,Ab.get]):
 TO P x ops (⟨dst, .call {callee:= .value (.func f),args:=bs.toArray,argTypes:=ats},ty,pos,after,none⟩::l) s Q:=mZ st0 hd he ⟨l1,l2,l3⟩ hc hk
theorem cf {dst:Option Tmp} {f:FuncId} {bs:List Operand} {ats:Array TypeId} {ty:TypeId} {pos:String} {after:Array Edge} {args:List AV} {R0:AV} (hc:AC P f args [] (fun r st=>r=R0∧st=[])) (g:G')
 (hk:G'→TO P x ops l ⟨s.n,fO s.env dst R0,aF s.st []⟩ Q:=by intro h9;(try simp only[kP,Nat.reduceEqDiff, ↓reduceIte,reduceCtorEq,List.cons_append,List.nil_append]);exact h9) (hd:∀i,dst=some i→i<s.n:=by simp) (he:iH s bs=some args:=by simp only[kV, ↓reduceIte,Nat.reduceEqDiff,reduceCtorEq];first|done|rfl)
 (l3:∀a∈args,aH (ae []) a:=by simp[aH,cu,aB,aG,bG,ae,Ab.get]):
 TO P x ops (⟨dst, .call {callee:= .value (.func f),args:=bs.toArray,argTypes:=ats},ty,pos,after,none⟩::l) s Q:=mZ [] hd he ⟨by simp,by simp,l3⟩ hc (by rintro r st' ⟨rfl,rfl⟩;exact⟨by simp[lW],hk g⟩)
theorem vO (h:G:=by simp only[All,List.cons_append,List.nil_append,dG,List.mem_cons,List.not_mem_nil,or_false,forall_eq_or_imp,forall_eq,aH,aB,cu,aG,bG,and_true,true_and,implies_true,List.length_map,List.length_cons,List.length_nil,aK,iZ,cZ];repeat' (first|exact trivial|refine And.intro ?_ ?_|intro _|assumption|rfl|omega|(rw[Bool.not_eq_true'];assumption)|(simp;done)|(simp only[decide_eq_true_eq] at*;omega)|(simp_all;done))):G:=h
theorem iw {F0:Prop} (f0:F0) (h:F0→G:=by intro f0;simp only[All,List.cons_append,List.nil_append,dG,List.mem_cons,List.not_mem_nil,or_false,forall_eq_or_imp,forall_eq,aH,aB,cu,aG,bG,and_true,true_and,implies_true,List.length_map,List.length_cons,List.length_nil,aK,iZ,cZ];repeat' (first|exact trivial|exact f0|exact f0 _|exact f0 (by assumption)|refine And.intro ?_ ?_|intro _|assumption|rfl|omega|(rw[Bool.not_eq_true'];assumption)|(simp;done)|(simp only[decide_eq_true_eq] at*;omega)|(simp_all;done))):G:=h f0
theorem ob2 {F0 F1:Prop} (f0:F0) (f1:F1) (h:F0→F1→G:=by intro f0 f1;simp only[All,List.cons_append,List.nil_append,dG,List.mem_cons,List.not_mem_nil,or_false,forall_eq_or_imp,forall_eq,aH,aB,cu,aG,bG,and_true,true_and,implies_true,List.length_map,List.length_cons,List.length_nil,aK,iZ,cZ];repeat' (first|exact trivial|exact f0|exact f0 _|exact f0 (by assumption)|exact f1|exact f1 _|exact f1 (by assumption)|refine And.intro ?_ ?_|intro _|assumption|rfl|omega|(rw[Bool.not_eq_true'];assumption)|(simp;done)|(simp only[decide_eq_true_eq] at*;omega)|(simp_all;done))):G:=h f0 f1
theorem ob4 {F0 F1 F2 F3:Prop} (f0:F0) (f1:F1) (f2:F2) (f3:F3) (h:F0→F1→F2→F3→G:=by intro f0 f1 f2 f3;simp only[All,List.cons_append,List.nil_append,dG,List.mem_cons,List.not_mem_nil,or_false,forall_eq_or_imp,forall_eq,aH,aB,cu,aG,bG,and_true,true_and,implies_true,List.length_map,List.length_cons,List.length_nil,aK,iZ,cZ];repeat' (first|exact trivial|exact f0|exact f0 _|exact f0 (by assumption)|exact f1|exact f1 _|exact f1 (by assumption)|exact f2|exact f2 _|exact f2 (by assumption)|exact f3|exact f3 _|exact f3 (by assumption)|refine And.intro ?_ ?_|intro _|assumption|rfl|omega|(rw[Bool.not_eq_true'];assumption)|(simp;done)|(simp only[decide_eq_true_eq] at*;omega)|(simp_all;done))):G:=h f0 f1 f2 f3
theorem BO {wr:Bool} {id:Nat} {s1:S} (cs:List (Nat×AV)) {As:List A1} {ps:List Prop} (h:ML P wr l cs l s=some (As,ps,s1)) (ho:All ps) (hk:Q .normal s1) (hm:P.follows .mixedOrders=true:=by kernel_rfl) (hc:vC l As=true:=by kernel_rfl):
 T P x (.region id l.toArray true) s Q:=sD cs hm h ho hc hk
theorem dr {id:Nat} {s1:S} (cs:List (Nat×AV)) {As:List A1} {ps:List Prop} (ho:All ps) (hk:Q .normal s1) (h:ML P false l cs l s=some (As,ps,s1):=by simp only[kD,kk,Nat.reduceAdd,Nat.reduceLT,Nat.reduceEqDiff, ↓reduceIte,reduceCtorEq];first|done|rfl) (hm:P.follows .mixedOrders=true:=by kernel_rfl) (hc:vC l As=true:=by kernel_rfl):
 T P x (.region id l.toArray true) s Q:=sD cs hm h ho hc hk
theorem dx {id:Nat} {s1:S} (cs:List (Nat×AV)) {E:Prop} (e:E) {As:List A1} {ps:List Prop} (ho:All ps) (hk:Q .normal s1) (h:E→ML P false l cs l s=some (As,ps,s1):=by intro e9;simp only[kD,kk,Nat.reduceAdd,Nat.reduceLT,Nat.reduceEqDiff, ↓reduceIte,reduceCtorEq,e9];first|done|rfl) (hm:P.follows .mixedOrders=true:=by kernel_rfl) (hc:vC l As=true:=by kernel_rfl):
 T P x (.region id l.toArray true) s Q:=sD cs hm (h e) ho hc hk
theorem so {o:Oper} (cs:List (Nat×AV)) {out:Out} (ho:All out.obl) (g:G') (hk:G'→TO P x ops l ⟨s.n,fO s.env o.dst out.v,aF s.st out.upd⟩ Q:=by intro h9;simp only[kP,Nat.reduceEqDiff, ↓reduceIte,reduceCtorEq];exact h9) (hd:pJ o s.n=true:=by rfl) (h:jT P false ops cs o s=some out:=by simp only[kD,kk,Nat.reduceAdd,Nat.reduceLT,Nat.reduceEqDiff, ↓reduceIte,reduceCtorEq];first|done|rfl):TO P x ops (o::l) s Q:=Py cs hd h ho (hk g)
theorem rA {rs:List ResultVar} {R:AV→List (Nat×AO)→Prop} {r:AV} {obl:List Prop} (st':List (Nat×AO)) (hR:R r st') (h:LY P rs s=some (r,obl):=by simp only[kR,kk, ↓reduceIte,Nat.reduceEqDiff,reduceCtorEq];first|done|rfl) (ho:All obl:=by first|exact trivial|(simp only[kO];omega)|(simp[All,dG];first|done|omega)|(simp+contextual [All,dG];first|done|grind)) (h1:∀p∈st',get s.st ((fun i=>i) p.1)=some (dK (fun i=>i) p.2):=by simp[Ab.get,aA]) (h2:(st'.map fun p=>(fun i=>i) p.1).Nodup:=by simp) (h3:∀p∈st',bD (ae st') p.2:=by simp[Ab.get,bD,aH,aS,aQ,aU,aP,aT,ag,bP,dM,aG,bG,aB,cu,ae]) (h4:∀id,x.d0 id→ae st' id=true∧id=id:=by exact di (by assumption) (by simp[ae,Ab.get])) (hcl:aH (ae st') r:=by simp[Ab.get,bD,aH,aS,aQ,aU,aP,aT,ag,bP,dM,aG,bG,aB,cu,ae]):PG P rs x R .ret s:=⟨.inl rfl,r,obl,h,ho,st',⟨h1,h2,h3,h4⟩,hcl,hR⟩
theorem rN {rs:List ResultVar} {R:AV→List (Nat×AO)→Prop} {r:AV} {obl:List Prop} (st':List (Nat×AO)) (hR:R r st') (h:LY P rs s=some (r,obl):=by simp only[kR,kk, ↓reduceIte,Nat.reduceEqDiff,reduceCtorEq];first|done|rfl) (ho:All obl:=by first|exact trivial|(simp only[kO];omega)|(simp[All,dG];first|done|omega)|(simp+contextual [All,dG];first|done|grind)) (h1:∀p∈st',get s.st ((fun i=>i) p.1)=some (dK (fun i=>i) p.2):=by simp[Ab.get,aA]) (h2:(st'.map fun p=>(fun i=>i) p.1).Nodup:=by simp) (h3:∀p∈st',bD (ae st') p.2:=by simp[Ab.get,bD,aH,aS,aQ,aU,aP,aT,ag,bP,dM,aG,bG,aB,cu,ae]) (h4:∀id,x.d0 id→ae st' id=true∧id=id:=by exact di (by assumption) (by simp[ae,Ab.get])) (hcl:aH (ae st') r:=by simp[Ab.get,bD,aH,aS,aQ,aU,aP,aT,ag,bP,dM,aG,bG,aB,cu,ae]):PG P rs x R .normal s:=⟨.inr rfl,r,obl,h,ho,st',⟨h1,h2,h3,h4⟩,hcl,hR⟩
theorem rV {rs:List ResultVar} {R:AV→List (Nat×AO)→Prop} {r:AV} {obl:List Prop} {e:Exit} (st':List (Nat×AO)) (hR:R r st') (he:e= .ret∨e= .normal:=by first|exact .inl rfl|exact .inr rfl) (h:LY P rs s=some (r,obl):=by simp only[kR,kk, ↓reduceIte,Nat.reduceEqDiff,reduceCtorEq];first|done|rfl) (ho:All obl:=by first|exact trivial|(simp only[kO];omega)|(simp[All,dG];first|done|omega)|(simp+contextual [All,dG];first|done|grind)) (h1:∀p∈st',get s.st ((fun i=>i) p.1)=some (dK (fun i=>i) p.2):=by simp[Ab.get,aA]) (h2:(st'.map fun p=>(fun i=>i) p.1).Nodup:=by simp) (h3:∀p∈st',bD (ae st') p.2:=by simp[Ab.get,bD,aH,aS,aQ,aU,aP,aT,ag,bP,dM,aG,bG,aB,cu,ae]) (h4:∀id,x.d0 id→ae st' id=true∧id=id:=by exact di (by assumption) (by simp[ae,Ab.get])) (hcl:aH (ae st') r:=by simp[Ab.get,bD,aH,aS,aQ,aU,aP,aT,ag,bP,dM,aG,bG,aB,cu,ae]):PG P rs x R e s:=⟨he,r,obl,h,ho,st',⟨h1,h2,h3,h4⟩,hcl,hR⟩
theorem dA {f:FuncId} {fn:Func} {c:Code} {args:List AV} {st:List (Nat×AO)} {R:AV→List (Nat×AO)→Prop} {n:Nat} {env:List (Nat×AV)} (hf:P.funcs[f]? =some fn) (hn:fn.ntmps=n) (h:∀x:X,(∀id,x.d0 id→ae st id=true)→T P x c ⟨n,env,st⟩ (PG P fn.results.toList x R)) (hb:fn.body=some c:=by rfl) (hname:(fn.name=="runtime.NumGoroutine")=false:=by rfl)
 (he:(List.range args.length).zip args=env:=by simp only[List.range,List.range.loop,List.length,List.zip,List.zipWith];first|done|rfl) (hl:args.length≤n:=by simp only[List.length];omega):AC P f args st R:=wH hf hb hname (by rw[hn];exact hl) (by rw[hn,he];exact h)
end
end Go.Proofs.YtcpgicfphakdaaaGreatDoor
namespace Go.Proofs.YtcpgicfphakdaaaGreatDoor
open Go.Ab Tys
def cnt (d:bJ) (c:Int):Nat:=(d.revs.filter fun u=>decide (u.chg<c)).length
def mW (d:bJ):Nat→Rev→bf
 |0,v=>fileOf v
 |n+1,v=>
  match jG d v with
  |none=>fileOf v
  |some u=>if v.chg≤u.chg then fileOf v else mW d n u
def first(d:bJ) (v:Rev):bf:=mW d (cnt d v.chg) v
theorem AY {d:bJ} {p:ByteArray} {n:Int} {u:Rev} (h:lF d p n=some u):u∈d.revs∧u.path=p∧u.num=n:=by
 have h1:=List.mem_of_find?_eq_some h
 have h2:=List.find?_some h
 simp only[log,List.mem_filter] at h1
 exact⟨h1.1,by simpa using h1.2,by simpa using h2⟩
theorem yD {d:bJ} {v u:Rev} (h:jG d v=some u):u∈d.revs:=by
 unfold jG at h
 split at h
 ·cases h
 ·split at h
  ·exact(AY h).1
  ·exact(AY h).1
theorem cnt_lt {d:bJ} {u:Rev} {c:Int} (hu:u∈d.revs) (h:u.chg<c):cnt d u.chg<cnt d c:=by
 unfold cnt
 generalize d.revs=l at hu
 have hle:∀l:List Rev,(l.filter fun w=>decide (w.chg<u.chg)).length≤(l.filter fun w=>decide (w.chg<c)).length:=by
  intro l
  induction l with
  |nil=>simp
  |cons w l ih=>
   simp only[List.filter_cons]
   by_cases h1:w.chg<u.chg
   ·rw[if_pos (by simpa using h1),if_pos (by simp;omega)];simpa using ih
   ·rw[if_neg (by simpa using h1)]
    split
    ·simp;omega
    ·exact ih
 induction l with
 |nil=>cases hu
 |cons w l ih=>
  rcases List.mem_cons.1 hu with rfl|hu
  ·simp only[List.filter_cons]
   rw[if_neg (by simp),if_pos (by simpa using h)]
   have:=hle l
   simp;omega
  ·have:=ih hu
   simp only[List.filter_cons]
   by_cases h1:w.chg<u.chg
   ·rw[if_pos (by simpa using h1),if_pos (by simp;omega)];simpa using this
   ·rw[if_neg (by simpa using h1)]
    split
    ·simp;omega
    ·exact this
theorem IC (d:bJ):∀(n m:Nat) (v:Rev),cnt d v.chg≤n→cnt d v.chg≤m→mW d n v=mW d m v:=by
 have step:∀(n:Nat) (v:Rev),cnt d v.chg≤n→mW d (n+1) v=mW d n v:=by
  intro n
  induction n with
  |zero=>
   intro v hv
   simp only[mW]
   split
   ·rfl
   ·rename_i u hu
    split
    ·rfl
    ·rename_i hc
     have:=cnt_lt (yD hu) (by omega:u.chg<v.chg)
     omega
  |succ n ih=>
   intro v hv
   rw[mW]
   conv=>rhs;rw[mW]
   split
   ·rfl
   ·rename_i u hu
    split
    ·rfl
    ·rename_i hc
     have:=cnt_lt (yD hu) (by omega:u.chg<v.chg)
     exact ih u (by omega)
 have up:∀(k n:Nat) (v:Rev),cnt d v.chg≤n→mW d (n+k) v=mW d n v:=by
  intro k
  induction k with
  |zero=>intros;rfl
  |succ k ih=>intro n v hv;rw[←Nat.add_assoc,step _ _ (by omega),ih n v hv]
 intro n m v hn hm
 rcases Nat.le_total n m with h|h
 ·obtain⟨k,rfl⟩:=Nat.exists_eq_add_of_le h;exact(up k n v hn).symm
 ·obtain⟨k,rfl⟩:=Nat.exists_eq_add_of_le h;exact up k m v hm
theorem iq {d:bJ} {v:Rev} (h:jG d v=none):first d v=fileOf v:=by
 unfold first
 cases cnt d v.chg with
 |zero=>rfl
 |succ n=>simp[mW,h]
theorem UO {d:bJ} {v u:Rev} (h:jG d v=some u) (hc:v.chg≤u.chg):first d v=fileOf v:=by
 unfold first
 cases cnt d v.chg with
 |zero=>rfl
 |succ n=>simp[mW,h,hc]
theorem zD {d:bJ} {v u:Rev} (h:jG d v=some u) (hc:u.chg<v.chg):first d v=first d u:=by
 have hlt:=cnt_lt (yD h) hc
 unfold first
 obtain⟨n,hn⟩:∃n,cnt d v.chg=n+1:=⟨cnt d v.chg-1,by omega⟩
 rw[hn,mW,h]
 simp only
 rw[if_neg (by omega)]
 exact IC d _ _ u (by omega) (Nat.le_refl _)
def hasPrefix (s p:ByteArray):Bool:=decide (p.size≤s.size)&&decide (s.extract 0 p.size=p)
@[reducible] def slash:ByteArray:={data:= #[47]}
theorem nM:slash.size=1:=rfl
theorem QG:((#[47]:Array UInt8).getD 0 0).toNat.toUInt8=47:=by decide
theorem indexByte_lt (l:List UInt8) (c:UInt8):Lib.indexByte l c<l.length:=by
 induction l with
 |nil=>simp[Lib.indexByte]
 |cons b l ih=>
  unfold Lib.indexByte
  split
  ·simp
  ·split
   ·simp;omega
   ·simp;omega
def mM (s:ByteArray):Nat:=Lib.countByte s.data.toList 47
def qQ (s:ByteArray):Int:=Lib.indexByte s.data.toList 47
theorem UE (s:ByteArray):mM s≤s.size:=by
 unfold mM Lib.countByte
 have:=List.count_le_length (a:=(47:UInt8)) (l:=s.data.toList)
 simpa using this
theorem aag (s:ByteArray):qQ s<s.size:=by
 have:=indexByte_lt s.data.toList 47
 simpa[qQ] using this
theorem aaY (s:ByteArray): -1≤qQ s:=Lib.indexByte_ge _ _
def splitN:Nat→ByteArray→List ByteArray
 |0,s=>[s]
 |n+1,s=>if qQ s<0 then [s] else s.extract 0 (qQ s).toNat::splitN n (s.extract ((qQ s).toNat+1) s.size)
def split (s:ByteArray):List ByteArray:=splitN (mM s) s
@[reducible] def encS (b:ByteArray):List D:=[.v (.string b)]
@[reducible] def iy (l:List ByteArray):AV:= .c (.d (.ps 1 (l.map encS)))
theorem Hr:∀(n:Nat) (s:ByteArray),(splitN n s).length≤n+1
 |0,s=>by simp[splitN]
 |n+1,s=>by
  simp only[splitN]
  split
  ·simp
  ·simpa using Hr n _
theorem EX {α:Type} (e:α→List D) (l:List α) (i:Nat) (v:α) (n:Nat) (hn:∀a,(e a).length=n):
 ((l.map e).map fun l=>l.map C.d).set i ((e v).map C.d++List.drop n (((l.map e).map fun l=>l.map C.d).getD i []))=((l.set i v).map e).map fun l=>l.map C.d:=by
 by_cases h:i<l.length
 ·have:(((l.map e).map fun l=>l.map C.d).getD i []).length=n:=by simp[List.getD,h,hn]
  rw[List.drop_eq_nil_of_le (by omega),List.append_nil];simp[List.map_set]
 ·rw[List.set_eq_of_length_le (by simp;omega),List.set_eq_of_length_le (by omega)]
theorem zn (l:List ByteArray) (i:Nat) (v:ByteArray):((l.map encS).map fun l=>l.map C.d).set i (C.d (.v (.string v))::List.drop 1 (((l.map encS).map fun l=>l.map C.d).getD i []))=((l.set i v).map encS).map fun l=>l.map C.d:=
 EX encS l i v 1 (fun _=>rfl)
theorem Hg {n:Nat} {s:ByteArray} (h:qQ s<0):splitN n s=[s]:=by
 cases n with
 |zero=>rfl
 |succ n=>simp[splitN,h]
theorem zO (l:List ByteArray) (i:Nat) (v:ByteArray):((l.map encS).map fun l=>l.map C.d).set i [C.d (.v (.string v))]=((l.set i v).map encS).map fun l=>l.map C.d:=by
 simp only[List.map_map,List.map_set];rfl
theorem JL (done:List ByteArray) (k:Nat) (e v:ByteArray):(done++List.replicate (k+1) e).set done.length v=(done++[v])++List.replicate k e:=by
 rw[List.set_append,if_neg (by omega)];simp[List.replicate_succ]
theorem Pe (done:List ByteArray) (k:Nat) (rest:ByteArray) (h:0<k):((done++List.replicate k ByteArray.empty).set done.length rest).take (done.length+1)=done++[rest]:=by
 obtain⟨j,rfl⟩:∃j,k=j+1:=⟨k-1,by omega⟩
 rw[JL,List.take_append_of_le_length (by simp),List.take_of_length_le (by simp)]
@[reducible] def letters:ByteArray:={data:=([65,66,67,68,69,70,71,72,73,74,75,76,77,78,79,80,81,82,83,84,85,86,87,88,89,90,97,98,99,100,101,102,103].append [104,105,106,107,108,109,110,111,112,113,114,115,116,117,118,119,120,121,122,48,49,50,51,52,53,54,55,56,57,95,46,43,45]).toArray}
def okB (b:Int):Bool:=decide (0≤Lib.indexByte letters.data.toList b.toNat.toUInt8)
@[reducible] def byteAt (s:ByteArray) (k:Nat):Int:=((s.data.getD k 0).toNat:Int)
def comp (s:ByteArray):Bool:=!(decide (s={data:= #[]})||decide (byteAt s 0=46))&&(List.range s.size).all fun k=>okB (byteAt s k)
theorem jm (n k:Nat) (p:Nat→Bool) (hk:k<n) (h:(List.range n).all p=true):p k=true:=by
 rw[List.all_eq_true] at h;exact h k (List.mem_range.2 hk)
theorem qL {s:ByteArray} (h:s≠{data:= #[]}):0<s.size:=by
 rcases Nat.eq_zero_or_pos s.size with e|e
 ·exfalso;apply h;cases s with|mk d=>have:d.size=0:=e
                                     rw[Array.eq_empty_of_size_eq_zero this]
 ·exact e
@[reducible] def dV:ByteArray:={data:= #[47,47]}
theorem oQ:∀(n:Nat) (s x:ByteArray),x∈splitN n s→x.size≤s.size
 |0,s,x,h=>by simp[splitN] at h;rw[h];omega
 |n+1,s,x,h=>by
  simp only[splitN] at h
  split at h
  ·simp at h;rw[h];omega
  ·rcases List.mem_cons.1 h with rfl|h
   ·simp;omega
   ·have:=oQ n _ x h;simp at this;omega
def iT (p:ByteArray):Option (List ByteArray):=if hasPrefix p dV then(if(split (p.extract 2 p.size)).all comp then some (split (p.extract 2 p.size)) else none) else none
@[reducible] def iJ:Option (List ByteArray)→Bool×List C
 |none=>(false,[.d (.v (.slice none 0 0))])
 |some l=>(false,[.d (.ps 1 (l.map encS))])
theorem sJ (s:ByteArray):(split s).length≤s.size+1:=Nat.le_trans (Hr _ _) (by have:=UE s;omega)
def aJ (p:ByteArray):Option (List ByteArray):=match iT p with|some l=>if l.length<2 then none else some l|none=>none
def cb (a b:ByteArray):Int:=Lib.compareBytes a.data.toList b.data.toList
def cmpL:List ByteArray→List ByteArray→Int
 |[],[]=>0
 |[],_::_=> -1
 |_::_,[]=>1
 |a::l,b::m=>if cb a b=0 then cmpL l m else cb a b
def ord (p q:ByteArray):Int:=
 match aJ p,aJ q with
 |none,none=>cb p q
 |none,some _=> -1
 |some _,none=>1
 |some a,some b=>cmpL a b
theorem V5 {p:ByteArray} {l:List ByteArray} (h:aJ p=some l):l.length≤p.size+1:=by
 unfold aJ at h
 split at h
 ·rename_i l' hl
  split at h
  ·cases h
  ·cases h
   unfold iT at hl
   split at hl
   ·split at hl
    ·cases hl
     have:=sJ (p.extract 2 p.size)
     simp at this;omega
    ·cases hl
   ·cases hl
 ·cases h
def before (a b:iD):Bool:=
 if ord a.to b.to≠0 then decide (ord a.to b.to<0) else if a.num≠b.num then decide (a.num<b.num) else if ord a.frm b.frm≠0 then decide (ord a.frm b.frm<0) else decide (a.first<b.first)
def Ub (r:iD):Prop:=r.frm.size≤100000∧r.to.size≤100000
def lZ:iD:=⟨ByteArray.empty,0,0,ByteArray.empty,0,0⟩
def x9:Nat→List iD→List iD
 |0,l=>l
 |k+1,l=>if before (l.getD (k+1) lZ) (l.getD k lZ) then x9 k ((l.set (k+1) (l.getD k lZ)).set k (l.getD (k+1) lZ)) else l
def DL (l:List iD):Nat→List iD
 |0=>l
 |k+1=>x9 k (DL l k)
def JX (l:List iD):List iD:=DL l l.length
@[reducible] def adC {α:Type} (e:α→List D) (l:List α):List (List C):=(l.map e).map fun l=>l.map C.d
theorem tJ {α:Type} (e:α→List D) (l:List α) (k:Nat) (z:α) (h:k<l.length):(adC e l).getD k []=(e (l.getD k z)).map C.d:=by
 simp[List.getD,h]
theorem ac7 (l:List iD) (i:Nat) (v:iD):((l.map bi).map fun l=>l.map C.d).set i (C.d (.v (.string v.frm))::C.d (.v (.int .i64 v.first))::C.d (.v (.int .i64 v.last))::C.d (.v (.string v.to))::C.d (.v (.int .i64 v.num))::C.d (.v (.int .i64 v.how))::List.drop 6 (((l.map bi).map fun l=>l.map C.d).getD i []))=((l.set i v).map bi).map fun l=>l.map C.d:=
 EX bi l i v 6 (fun _=>rfl)
theorem acz (l:List iD) (i:Nat) (v:iD):((l.map bi).map fun l=>l.map C.d).set i [C.d (.v (.string v.frm)),C.d (.v (.int .i64 v.first)),C.d (.v (.int .i64 v.last)),C.d (.v (.string v.to)),C.d (.v (.int .i64 v.num)),C.d (.v (.int .i64 v.how))]=((l.set i v).map bi).map fun l=>l.map C.d:=by
 simp[List.map_set]
theorem Oz {l:List iD} {i j:Nat} {v w:iD} (hv:v∈l) (hw:w∈l) {P:iD→Prop} (h:∀r∈l,P r):∀r∈(l.set i w).set j v,P r:=by
 intro r hr
 rcases List.mem_or_eq_of_mem_set hr with hr|rfl
 ·rcases List.mem_or_eq_of_mem_set hr with hr|rfl
  ·exact h r hr
  ·exact h _ hw
 ·exact h _ hv
def o6 (base:Int) (kw xe:Bool):Bool:=decide (base<1)||decide (3<base)||(kw&&!decide (base=1))||(xe&&decide (base=3))
def Aq (x y:Nq):Bool:=(decide (x.act=5)&&decide (y.act=4)&&decide (y.frm=x.path))||(decide (x.act=4)&&decide (y.act=5)&&decide (y.path=x.frm))
def Uj (c:oD) (x:Nq):Nat:=(c.edits.filter (Aq x)).length
def zB (c:oD) (x:Nq):Bool:=decide ((Uj c x:Int)=1)||(!decide (x.act=5)&&!decide (x.act=4))
def dU:Nq:=⟨ByteArray.empty,0,0,false,false,false,0,0,0,ByteArray.empty,0,0⟩
def eOK (e:Nq):Prop:=e.path.size≤100000
structure Ae (d:bJ) (c:oD) (i:Nat) (e:Nq):Prop where
 okPath:(aJ e.path).isSome=true
 okOrder:0<i→ord (c.edits.getD (i-1) dU).path e.path<0
 okLo:1≤e.act
 okHi:e.act≤5
 okLive:(e.act=1∨e.act=4)↔live d e.path=false
 okPrev:e.prev=dh d e.path
 okFrm:e.act=4→live d e.frm=true∧dh d e.frm=e.fnum∧e.frm≠e.path
 okGone:e.act=3∨e.act=5→e.sum=0∧e.size=0
 okTyp:o6 e.base e.kw e.xe=false∧0≤e.size
@[reducible] def rO (d:bJ) (p:ByteArray) (n:Int):Rev:=(lF d p n).getD af
def abP (r:iD) (e:Nq):Prop:=e.path=r.to∧wr (e.prev+1)=r.num∧¬e.act=5
structure Oa (d:bJ) (c:oD) (r:iD):Prop where
 okHow:1≤r.how∧r.how≤4
 okLo:1≤r.first
 okLe:r.first≤r.last
 okHi:r.last≤(log d r.frm).length
 okLine:∀n,r.first≤n→n≤r.last→¬(rO d r.frm n).act=5∧first d (rO d r.frm n)=first d (rO d r.frm r.last)
 okTgt:∃e∈c.edits,abP r e∧(¬e.act=1→¬first d ((jG d (made c e)).getD af)=first d (rO d r.frm r.last))
structure yV (d:bJ) (c:oD):Prop where
 len1:1≤c.edits.length
 len2:c.edits.length≤64
 len3:c.recs.length≤64
 num:1≤c.num∧c.num≤1073741824
 old:∀v∈d.revs,v.chg<c.num
 edit:∀i,i<c.edits.length→Ae d c i (c.edits.getD i dU)
 move:∀e∈c.edits,zB c e=true
 recd:∀i,i<c.recs.length→Oa d c (c.recs.getD i lZ)
 tot1:d.revs.length+c.edits.length≤512
 tot2:d.recs.length+c.recs.length≤512
theorem JC:∀(k:Nat) (l:List iD),(x9 k l).length=l.length
 |0,l=>rfl
 |k+1,l=>by
  simp only[x9]
  split
  ·rw[JC k];simp
  ·rfl
theorem Jk {P:iD→Prop}:∀(k:Nat) (l:List iD),k<l.length→(∀r∈l,P r)→∀r∈x9 k l,P r
 |0,l,_,h=>h
 |k+1,l,hk,h=>by
  simp only[x9]
  split
  ·refine Jk k _ (by simp;omega) (Oz ?_ ?_ h)
   ·rw[List.getD_eq_getElem?_getD,List.getElem?_eq_getElem hk];simp
   ·rw[List.getD_eq_getElem?_getD,List.getElem?_eq_getElem (by omega:k<l.length)];simp
  ·exact h
theorem yf (l:List iD):∀k,(DL l k).length=l.length
 |0=>rfl
 |k+1=>by rw[DL,JC,yf l k]
theorem JD {P:iD→Prop} {l:List iD} (h:∀r∈l,P r):∀k,k≤l.length→∀r∈DL l k,P r
 |0,_=>h
 |k+1,hk=>Jk k _ (by rw[yf];omega) (JD h k (by omega))
theorem VR (l:List iD):(JX l).length=l.length:=yf l _
theorem Vt {P:iD→Prop} {l:List iD} (h:∀r∈l,P r):∀r∈JX l,P r:=JD h _ (Nat.le_refl _)
def ku (d:bJ) (c:oD):bJ:=⟨d.revs++c.edits.map (made c),JX (d.recs++c.recs)⟩
theorem ab6 (sz:Nat) (a b:List (List D)):bD (fun _=>false) (.arr sz (a.map (fun l=>l.map C.d)++b.map (fun l=>l.map C.d))):=by
 simp only[bD]
 rw[List.flatten_append,ah,ag,ag,CQ,CQ]
 exact⟨trivial,trivial⟩
theorem up6 (m:List iD):∀l∈(m.map bi).map (fun l=>l.map C.d),l.length=6:=by simp
@[reducible] def QI:C:= .d (.v (.slice none 0 0))
def cOK (c:oD):Prop:=(∀e∈c.edits,eOK e)∧(∀r∈c.recs,Ub r)∧c.edits.length≤100000∧c.recs.length≤100000
inductive jX:List oD→bJ→Prop
 |nil:jX [] IP
 |skip {l:List oD} {d:bJ} (c:oD) (h:jX l d):jX (l++[c]) d
 |app {l:List oD} {d:bJ} {c:oD} (h:jX l d) (hc:cOK c) (hk:yV d c):jX (l++[c]) (ku d c)
theorem jX.ok {l:List oD} {d:bJ} (h:jX l d):d.revs.length≤512∧d.recs.length≤512∧∀r∈d.recs,Ub r:=by
 induction h with
 |nil=>simp[IP]
 |skip c h ih=>exact ih
 |app h hc hk ih=>
  refine⟨?_,?_,?_⟩
  ·have:=hk.tot1;simp[ku];omega
  ·have:=hk.tot2;simp[ku,VR];omega
  ·exact Vt fun r hr=>by rcases List.mem_append.1 hr with hr|hr;exact ih.2.2 r hr;exact hc.2.1 r hr
def acS:oD:=⟨0,ByteArray.empty,ByteArray.empty,[],[]⟩
def tot (l:List oD):Nat:=(l.map fun c=>c.edits.length+c.recs.length).sum
def sE (e:Nq):Prop:=e.path.size+e.frm.size≤500
def sR (r:iD):Prop:=r.frm.size+r.to.size≤500
def sC (c:oD):Prop:=(∀e∈c.edits,sE e)∧∀r∈c.recs,sR r
structure Few (l:List oD):Prop where
 len:l.length≤2000000
 tot:tot l≤2000000
 es:∀c∈l,∀e∈c.edits,e.path.size≤2000000∧e.frm.size≤2000000
 rs:∀c∈l,∀r∈c.recs,r.frm.size≤2000000∧r.to.size≤2000000
theorem Gu (a b:List oD):tot (a++b)=tot a+tot b:=by simp[tot]
theorem SG {l:List oD} {c:oD} (h:c∈l):c.edits.length+c.recs.length≤tot l:=by
 induction l with
 |nil=>cases h
 |cons d l ih=>
  have e:tot (d::l)=d.edits.length+d.recs.length+tot l:=by simp[tot]
  rcases List.mem_cons.1 h with rfl|h
  ·omega
  ·have:=ih h;omega
theorem PZ (l:List oD) (k:Nat):tot (l.take k)≤tot l:=by
 conv=>rhs;rw[←List.take_append_drop k l,Gu]
 omega
theorem acH {l:List oD} (h1:tot l≤200) (h2:∀c∈l,sC c):∀c∈l,cOK c:=by
 intro c hc
 have h:=SG hc
 obtain⟨a,b⟩:=h2 c hc
 refine⟨fun e he=>?_,fun r hr=>?_,by omega,by omega⟩
 ·have:=a e he;simp only[sE] at this;simp only[eOK];omega
 ·have:=b r hr;simp only[sR] at this;simp only[Ub];omega
def jQ (d:bJ) (p:ByteArray) (n:Int):Option Rev:=match lF d p n with|some v=>if v.act=5 then none else some v|none=>none
def BX (d:bJ) (f:bf) (v:Rev):Bool:=!decide (v.act=5)&&decide (first d v=f)
def line (d:bJ) (f:bf):List Rev:=d.revs.filter (BX d f)
end Go.Proofs.YtcpgicfphakdaaaGreatDoor
