/- A part of the proof. -/
import Derived.Test.YtpoodoknkbojgaaGreatDoorRE11
import Derived.Test.YtpoodoknkbojgaaGreatDoorRE14
set_option linter.all false
namespace Go.Proofs.YtpoodoknkbojgaaGreatDoor
open Go.Ab Tys
variable [wJ]
theorem XN {p:Prop} [Decidable p] {a b:cO} (ha:tJ a) (hb:tJ b):tJ (if p then a else b):=by
 by_cases h:p
 ·rw[if_pos h];exact ha
 ·rw[if_neg h];exact hb
theorem tJ.used {c:cO} (h:tJ c):tJ (dG c):=by
 unfold dG
 repeat' refine XN ?_ ?_
 all_goals exact⟨by first|exact h.s0|exact aaA _,by first|exact h.s1|exact aaA _,by first|exact h.s2|exact aaA _,by first|exact h.s3|exact aaA _,by first|exact h.s4|exact aaA _,by first|exact h.s5|exact aaA _,
  by first|exact h.paths|simp[df,mG],by first|exact h.rules|simp[df],by first|exact h.edits|simp[df],by first|exact h.recs|simp[df],
  by first|exact h.n1|simp[df,mG],by first|exact h.n2|simp[df],by first|exact h.n3|simp[df],by first|exact h.n4|simp[df]⟩
theorem zJ {α β:Type} {f:α→List β} {l:List α} {j:Nat} {v:α} (h:l.take (j+1)=l.take j++[v]):(l.take (j+1)).flatMap f=(l.take j).flatMap f++f v:=by
 rw[h,List.flatMap_append];simp
theorem Td {α β:Type} {f:α→List β} {n:Nat} (h:∀a,(f a).length≤n):∀l:List α,(l.flatMap f).length≤l.length*n
 |[]=>by simp
 |a::l=>by
  have:=h a
  have:=Td h l
  rw[List.flatMap_cons,aan,List.length_cons,aaI]
  omega
theorem Oo {α β:Type} {f:α→List β} {n m:Nat} (h:∀a,(f a).length≤n) (l:List α) (hl:l.length≤m) (j:Nat):((l.take j).flatMap f).length≤m*n:=by
 refine aav (Td h _) (aau _ ?_)
 rw[aaK];omega
theorem Mc {α:Type} {p:α→Bool} {l:List α} (h:∀(i:Nat) a,i<l.length→l[i]? =some a→p a=true):l.all p=true:=
 aaC.2 fun x hx=>by
  obtain⟨i,hi⟩:=aaX hx
  exact h i x (aal.1 hi).1 hi
theorem Ob {α:Type} {p:α→Bool} {l:List α} {i:Nat} {a:α} (h:l[i]? =some a) (hp:p a=false):l.all p=false:=by
 rw[List.all_eq_false]
 exact⟨a,aah h,by rw[hp];simp⟩
def z12.kk:=p4 (p16 kB kG kS Tryz.ntmps12 Tryz.underlying22 Tryz.underlying25 Tryz.underlying26 Tryz.underlying27 Tryz.underlying52 Tryz.underlying53 Tryz.underlying9 uJ qI Bq BL iF) (p16 Ae BK Hw Js Ir Ia VM uA ww uT uY wz rX nD nK nZ) (p16 qQ qU rW qV zV zL zH zM jF oJ wu uX vJ uU JK Fq) (ZO G5 FX FP BI pg vO Ll KR X4 CO lS KG KP sQ Tryz.results12)
set_option maxRecDepth 100000 in
set_option maxHeartbeats 16000000 in
open z12 in
theorem J8 (c:cO) (hc:tJ c):AC Tryz.prog 12 [wK c] [] (fun r st=>r=B (Dp c)∧st=[]):=by
 have hu:=GX c
 have hcu:=hc.used
 by_cases hkd:1≤c.kind∧c.kind≤14
 rotate_left
 ·have hz:Dp c=false:=by unfold Dp;rw[aaE hkd,abR]
  rw[hz]
  refine dI Tryz.func12 Tryz.ntmps12 fun x hx=>?_
  try refine nv ?_
  refine aU ?_ ?_
  rotate_left
  ·intro h
   exfalso
   by_cases h1:c.kind<1
   ·simp[h1] at h
   ·have h2:14<c.kind:=by omega
    simp[h2] at h
  intro _
  try refine nv ?_
  refine rA [] ?_
  refine⟨?_,rfl⟩
  rfl
 have hz:Dp c=H5 (dG c):=by unfold Dp;rw[aaV hkd,abg]
 rw[hz]
 generalize dG c=u at hu hcu⊢
 obtain⟨-, -, -, -, -, -,hpt,hrt, -, -,n1,n2,n3,n4⟩:=hcu
 have q1:=Oo (f:=fun e:mV=>[e.path,e.frm]) (n:=2) (fun _=>aat _) u.edits n3
 have q2:=Oo (f:=fun e:iI=>[e.frm,e.to]) (n:=2) (fun _=>aat _) u.recs n4
 refine dI Tryz.func12 Tryz.ntmps12 fun x hx=>?_
 try refine nv ?_
 refine aU ?_ ?_
 ·intro h
  exfalso
  have h1:¬c.kind<1:=by omega
  have h2:¬14<c.kind:=by omega
  simp[h1,h2] at h
 intro _
 (repeat (first|refine nv ?_|refine cf (hu) ?_))
 refine aW (ι:=Nat) (I:=fun j=>⟨164,[(1, .c (.ptr 1 0)),(3, .c (.ms 3000 1 0 (Lj u++JH (u.edits.take j)).length)),(43, .c (.d (.ps 12 (u.edits.map eu)))),(44,I .i64 u.edits.length),(45,I .i64 j)],[(1, .box ((dZ u).map C.d)),(3000,aC 1 ((Lj u++JH (u.edits.take j)).map encS))]⟩)
  (Inv:=fun j=>j≤u.edits.length) (μ:=fun j=>u.edits.length-j) 0 (by omega) ?_ ?_
 ·(refine aY (fun i=>if i=3000 then 41 else i) rfl ?_ ⟨?_,?_,?_,keepR hx (by simp[ae,Ab.get])⟩<;>first|(intro i hi;have h0:=hx i hi;constructor<;>(revert h0;simp only[ae,Ab.get];(repeat' split)<;>simp_all);done)|(simp only[kE,aC, ↓reduceIte,Nat.reduceEqDiff,reduceCtorEq];done)|(simp only[aC,iQ,iO,Z9,aad,aaw,forall_eq_or_imp,forall_eq];simp[bF,bP,aX,dD,ag,Ab.get,aA,bi,ax,aN,aF,aI,aG,aJ,aH,ae,List.flatten,Lj,JH,List.take_zero,List.flatMap_nil];done)|simp[bF,bP,aX,dD,ag,Ab.get,aA,bi,ax,aN,aF,aI,aG,aJ,aH,ae,List.flatten,Lj,JH,List.take_zero,List.flatMap_nil])
 intro j hj
 try refine nv ?_
 refine aU ?_ ?_
 ·intro hlt
  have hlt':j<u.edits.length:=by simpa using hlt
  obtain⟨v,hv,he,htk⟩:=round eu u.edits j dP hlt'
  have hs1:Lj u++JH (u.edits.take (j+1))=(Lj u++JH (u.edits.take j))++[v.path,v.frm]:=by
   unfold JH
   rw[zJ htk,aas]
  have q1j:(Lj u++JH (u.edits.take j)).length≤8000000:=by
   have:=q1 j
   rw[aan]
   unfold JH
   simp only[Lj,List.length_cons,List.length_nil]
   omega
  generalize Lj u++JH (u.edits.take j)=X at hs1 q1j
  try refine nx @he ?_
  refine⟨j+1,by omega,by omega,?_⟩
  exact DZ @hs1 (fun i=>if i=3000 then 55 else i)
 intro hge
 have hj':j=u.edits.length:=by have:¬j<u.edits.length:=(by simpa using hge);omega
 subst hj'
 have q1n:=q1 u.edits.length
 rw[aaJ] at q1n
 rw[aaJ]
 have hX:(Lj u++JH u.edits).length≤4000006:=by
  rw[aan]
  unfold JH
  simp only[Lj,List.length_cons,List.length_nil]
  omega
 have hTX:Xx u=(Lj u++JH u.edits)++LQ u.recs:=rfl
 generalize Lj u++JH u.edits=X at hX hTX
 try refine nv ?_
 refine aW (ι:=Nat) (I:=fun j=>⟨164,[(1, .c (.ptr 1 0)),(3, .c (.ms 3000 1 0 (X++LQ (u.recs.take j)).length)),(58, .c (.d (.ps 6 (u.recs.map dM)))),(59,I .i64 u.recs.length),(60,I .i64 j)],[(1, .box ((dZ u).map C.d)),(3000,aC 1 ((X++LQ (u.recs.take j)).map encS))]⟩)
  (Inv:=fun j=>j≤u.recs.length) (μ:=fun j=>u.recs.length-j) 0 (by omega) ?_ ?_
 ·(refine aY (fun i=>i) rfl ?_ ⟨?_,?_,?_,dK hx (by simp[ae,Ab.get])⟩<;>first|(simp only[kE,aC, ↓reduceIte,Nat.reduceEqDiff,reduceCtorEq,LQ,List.take_zero,List.flatMap_nil,aaM];done)|simp[aO,aB,ag,Ab.get,aA,bi,ax,aN,aF,aI,aG,aJ,aH,ae,List.flatten,LQ,List.take_zero,List.flatMap_nil,aaM])
 intro j hj
 try refine nv ?_
 refine aU ?_ ?_
 ·intro hlt
  have hlt':j<u.recs.length:=by simpa using hlt
  obtain⟨v,hv,he,htk⟩:=round dM u.recs j vT hlt'
  have hs1:X++LQ (u.recs.take (j+1))=(X++LQ (u.recs.take j))++[v.frm,v.to]:=by
   unfold LQ
   rw[zJ htk,aas]
  have q2j:(X++LQ (u.recs.take j)).length≤9000000:=by
   have:=q2 j
   rw[aan]
   unfold LQ
   omega
  generalize X++LQ (u.recs.take j)=Y at hs1 q2j
  try refine nx @he ?_
  refine⟨j+1,by omega,by omega,?_⟩
  exact DZ @hs1 (fun i=>if i=3000 then 70 else i)
 intro hge
 have hj':j=u.recs.length:=by have:¬j<u.recs.length:=(by simpa using hge);omega
 subst hj'
 have q2n:=q2 u.recs.length
 rw[aaJ] at q2n
 rw[aaJ]
 have hT:(X++LQ u.recs).length≤9000000:=by
  rw[aan]
  unfold LQ
  omega
 rw[←hTX] at hT⊢
 clear hTX hX
 have henc:H5 u=((Xx u).all Il&&(Xi u).all Gj&&XM u):=rfl
 rw[henc]
 generalize Xx u=T at hT⊢
 refine jk ?_
 refine dm (ay (i:=3) (id:=3000) (ys:=T.map encS) rfl rfl (by rw[aai])) ?_
 refine dQ ?_
 try refine nv ?_
 refine aW (ι:=Nat) (I:=fun j=>⟨164,[(1, .c (.ptr 1 0)),(72,yw T),(73,I .i64 T.length),(74,I .i64 j)],[(1, .box ((dZ u).map C.d))]⟩)
  (Inv:=fun j=>j≤T.length∧∀(i:Nat) a,i<j→T[i]? =some a→Il a=true) (μ:=fun j=>T.length-j) 0 ⟨by omega,by omega⟩ ?_ ?_
 ·exact fM
 rintro j ⟨hj,hall⟩
 try refine nv ?_
 refine aU ?_ ?_
 ·intro hlt
  have hlt':j<T.length:=by simpa using hlt
  obtain⟨v,hv,he,_⟩:=round encS T j noS hlt'
  try refine nx @he ?_
  refine aU ?_ ?_
  ·intro h
   have h':Il v=false:=by
    have:(1024:Int)<v.size:=(by simpa using h)
    exact aaE (by omega)
   rw[Ob hv h']
   try refine nv ?_
   refine rA [] ?_
   refine⟨?_,rfl⟩
   rfl
  intro h
  have h':Il v=true:=by
   have:¬(1024:Int)<v.size:=(by simpa using h)
   exact aaV (by omega)
  try refine nv ?_
  refine⟨j+1,⟨by omega,fun i a hi ha=>?_⟩,by omega,?_⟩
  ·rcases aaT i j with h|h
   ·exact hall i a h ha
   ·obtain rfl:i=j:=by omega
    rw[hv] at ha;cases ha;exact h'
  ·exact fM
 intro hge
 have hj':j=T.length:=by have:¬j<T.length:=(by simpa using hge);omega
 subst hj'
 rw[Mc hall,abg]
 clear hall
 have q3:=Oo (f:=fun e:yX=>[e.left,e.right]) (n:=2) (fun _=>aat _) u.rules n2
 have q4:=Oo (f:=fun x:DT=>if Az x.frm then [x.path,x.frm] else [x.path]) (n:=2) (fun x=>by split<;>simp) u.stream.paths n1
 try refine nv ?_
 refine lY (lg (i:=10) (id:=3000) (sz:=2) rfl rfl (by omega)) ?_
 refine dQ ?_
 refine aW (ι:=Nat) (I:=fun j=>⟨164,[(1, .c (.ptr 1 0)),(10, .c (.ms 3000 2 0 (J7 (u.rules.take j)).length)),(83, .c (.d (.ps 5 (u.rules.map dX)))),(84,I .i64 u.rules.length),(85,I .i64 j)],[(1, .box ((dZ u).map C.d)),(3000,aC 2 ((J7 (u.rules.take j)).map iG))]⟩)
  (Inv:=fun j=>j≤u.rules.length) (μ:=fun j=>u.rules.length-j) 0 (by omega) ?_ ?_
 ·(refine aY (fun i=>i) rfl ?_ ⟨?_,?_,?_,dK hx (by simp[ae,Ab.get])⟩<;>first|(simp only[kE,aC, ↓reduceIte,Nat.reduceEqDiff,reduceCtorEq,J7,List.take_zero,List.flatMap_nil];done)|simp[aO,aB,ag,Ab.get,aA,bi,ax,aN,aF,aI,aG,aJ,aH,ae,List.flatten,J7,List.take_zero,List.flatMap_nil])
 intro j hj
 try refine nv ?_
 refine aU ?_ ?_
 ·intro hlt
  have hlt':j<u.rules.length:=by simpa using hlt
  obtain⟨v,hv,he,htk⟩:=round dX u.rules j Rn hlt'
  have hs1:J7 (u.rules.take (j+1))=J7 (u.rules.take j)++[v.left,v.right]:=by
   unfold J7
   rw[zJ htk]
  have q3j:(J7 (u.rules.take j)).length≤4000000:=q3 j
  generalize J7 (u.rules.take j)=X at hs1 q3j
  try refine nx @he ?_
  refine⟨j+1,by omega,by omega,?_⟩
  exact DZ @hs1 (fun i=>if i=3000 then 95 else i)
 intro hge
 have hj':j=u.rules.length:=by have:¬j<u.rules.length:=(by simpa using hge);omega
 subst hj'
 have q3n:(J7 u.rules).length≤4000000:=by
  have:=q3 u.rules.length
  rw[aaJ] at this
  exact this
 rw[aaJ]
 have hPX:Xi u=J7 u.rules++JG u.stream.paths:=rfl
 have hpb1:∀p∈J7 u.rules,PB 2000000 p:=by
  intro p hp
  obtain⟨r,h1,h2⟩:=aaW.1 hp
  simp only[Z9,aad,aaw] at h2
  rcases h2 with rfl|rfl
  ·exact(hrt r h1).1
  ·exact(hrt r h1).2
 have hpb2:∀p∈JG u.stream.paths,PB 2000000 p:=by
  intro p hp
  obtain⟨r,h1,h2⟩:=aaW.1 hp
  split at h2
  ·simp only[Z9,aad,aaw] at h2
   rcases h2 with rfl|rfl
   ·exact(hpt r h1).1
   ·exact(hpt r h1).2
  ·rw[aag] at h2;subst h2;exact(hpt r h1).1
 have hpb:∀p∈Xi u,PB 2000000 p:=by
  rw[hPX]
  intro p hp
  exact(aay.1 hp).elim (hpb1 p) (hpb2 p)
 clear hpb1 hpb2
 generalize J7 u.rules=X at q3n hPX
 try refine nv ?_
 refine aW (ι:=Nat) (I:=fun j=>⟨164,[(1, .c (.ptr 1 0)),(10, .c (.ms 3000 2 0 (X++JG (u.stream.paths.take j)).length)),(99, .c (.d (.ps 5 (u.stream.paths.map eU)))),(100,I .i64 u.stream.paths.length),(101,I .i64 j)],[(1, .box ((dZ u).map C.d)),(3000,aC 2 ((X++JG (u.stream.paths.take j)).map iG))]⟩)
  (Inv:=fun j=>j≤u.stream.paths.length) (μ:=fun j=>u.stream.paths.length-j) 0 (by omega) ?_ ?_
 ·(refine aY (fun i=>i) rfl ?_ ⟨?_,?_,?_,dK hx (by simp[ae,Ab.get])⟩<;>first|(simp only[kE,aC, ↓reduceIte,Nat.reduceEqDiff,reduceCtorEq,JG,List.take_zero,List.flatMap_nil,aaM];done)|simp[aO,aB,ag,Ab.get,aA,bi,ax,aN,aF,aI,aG,aJ,aH,ae,List.flatten,JG,List.take_zero,List.flatMap_nil,aaM])
 intro j hj
 try refine nv ?_
 refine aU ?_ ?_
 ·intro hlt
  have hlt':j<u.stream.paths.length:=by simpa using hlt
  obtain⟨v,hv,he,htk⟩:=round eU u.stream.paths j ⟨0,jM,jM⟩ hlt'
  have hs1:X++JG (u.stream.paths.take (j+1))=(X++JG (u.stream.paths.take j))++(if Az v.frm then [v.path,v.frm] else [v.path]):=by
   unfold JG
   rw[zJ htk,aas]
  have q4j:(X++JG (u.stream.paths.take j)).length≤9000000:=by
   have:=q4 j
   rw[aan]
   unfold JG
   omega
  generalize X++JG (u.stream.paths.take j)=Y at hs1 q4j
  obtain⟨vk,vp,⟨fp,fr⟩⟩:=v
  simp only at hs1
  try refine nx @he ?_
  refine aU ?_ ?_
  ·intro h
   have h':Az ⟨fp,fr⟩=true:=by
    unfold Az
    by_cases e:0<fp.length
    ·simp[e]
    ·have e':¬(0:Int)<fp.length:=by omega
     simp[e'] at h
     simp[h]
   rw[h',if_pos rfl] at hs1
   try refine nv ?_
   refine⟨j+1,by omega,by omega,?_⟩
   exact DZ @hs1 (fun i=>if i=3000 then 124 else i)
  ·intro h
   have h':Az ⟨fp,fr⟩=false:=by
    unfold Az
    by_cases e:0<fp.length
    ·have e':(0:Int)<fp.length:=by omega
     simp[e'] at h
     rw[h.1] at e
     exact absurd e (by simp)
    ·have e':¬(0:Int)<fp.length:=by omega
     simp[e'] at h
     simp[e,h]
   rw[h',if_neg (by simp)] at hs1
   try refine nv ?_
   refine⟨j+1,by omega,by omega,?_⟩
   exact DZ @hs1 (fun i=>if i=3000 then 109 else i)
 intro hge
 have hj':j=u.stream.paths.length:=by have:¬j<u.stream.paths.length:=(by simpa using hge);omega
 subst hj'
 have q4n:=q4 u.stream.paths.length
 rw[aaJ] at q4n
 rw[aaJ]
 have hP:(X++JG u.stream.paths).length≤9000000:=by
  rw[aan]
  unfold JG
  omega
 rw[←hPX] at hP⊢
 clear hPX
 generalize Xi u=P at hP hpb⊢
 refine jk ?_
 refine dm (ay (i:=10) (id:=3000) (ys:=P.map iG) rfl rfl (by rw[aai])) ?_
 refine dQ ?_
 try refine nv ?_
 refine aW (ι:=Nat) (I:=fun j=>⟨164,[(1, .c (.ptr 1 0)),(126,VU P),(127,I .i64 P.length),(128,I .i64 j)],[(1, .box ((dZ u).map C.d))]⟩)
  (Inv:=fun j=>j≤P.length∧∀(i:Nat) a,i<j→P[i]? =some a→Gj a=true) (μ:=fun j=>P.length-j) 0 ⟨by omega,by omega⟩ ?_ ?_
 ·exact fM
 rintro j ⟨hj,hall⟩
 try refine nv ?_
 refine aU ?_ ?_
 ·intro hlt
  have hlt':j<P.length:=by simpa using hlt
  obtain⟨v,hv,he,_⟩:=round iG P j jM hlt'
  have hvb:=hpb v (aah hv)
  have hsh:=Dv v hvb
  have hck:=J3 v (hvb.mono (by omega))
  have hok:Gj v=(decide (dR v=0)&&gQ v):=rfl
  generalize dR v=e at hck hok
  generalize gQ v=sv at hsh hok
  (repeat (first|refine nx @he ?_|refine cf (hck) ?_))
  refine so ([(137,B sv)]) ?_ ?_
  ·exact Fa @hsh
  try refine nv ?_
  refine aU ?_ ?_
  ·intro h
   have h':Gj v=false:=by
    rw[hok]
    by_cases he:e=0
    ·subst he;cases sv
     ·simp
     ·simp at h
    ·simp[he]
   rw[Ob hv h']
   try refine nv ?_
   refine rA [] ?_
   refine⟨?_,rfl⟩
   rfl
  intro h
  have h':Gj v=true:=by
   rw[hok]
   by_cases he:e=0
   ·subst he;cases sv
    ·simp at h
    ·simp
   ·simp[he] at h
  try refine nv ?_
  refine⟨j+1,⟨by omega,fun i a hi ha=>?_⟩,by omega,?_⟩
  ·rcases aaT i j with h|h
   ·exact hall i a h ha
   ·obtain rfl:i=j:=by omega
    rw[hv] at ha;cases ha;exact h'
  ·exact fM
 intro hge
 have hj':j=P.length:=by have:¬j<P.length:=(by simpa using hge);omega
 subst hj'
 rw[Mc hall,abg]
 clear hall
 try refine nv ?_
 refine rA [] ?_
 refine⟨?_,rfl⟩
 unfold XM
 have cd:∀a b:Nat,decide ((a:Int)≤(b:Int))=decide (a≤b):=fun a b=>abO.2 (by omega)
 have c1:=cd u.edits.length 64
 have c2:=cd u.recs.length 64
 have c3:=cd u.rules.length 16
 have c4:=cd u.stream.paths.length 12
 rw[show((64:Nat):Int)=64 by rfl] at c1 c2
 rw[show((16:Nat):Int)=16 by rfl] at c3
 rw[show((12:Nat):Int)=12 by rfl] at c4
 rw[c1,c2,c3,c4]
 cases decide (u.edits.length≤64)<;>cases decide (u.recs.length≤64)<;>cases decide (u.rules.length≤16)<;>rfl
end Go.Proofs.YtpoodoknkbojgaaGreatDoor
