/- A part of the proof. -/
import Derived.Test.YtpoodoknkbojgaaGreatDoorRE5
set_option maxRecDepth 100000
set_option maxHeartbeats 8000000
set_option linter.all false
namespace Go.Proofs.YtpoodoknkbojgaaGreatDoor
open Go.Ab Tys
variable [Ez]
@[reducible] def fnv (f:Nat):AV:= .c (.d (.v (.func (.func f) ⟨[]⟩ ⟨[]⟩)))
def wk {α:Type} (f:α→Wt→Wt) (l:List α) (w:Wt) (k:Nat):Wt:=(l.take k).foldl (fun w a=>f a w) w
theorem eH {α:Type} {f:α→Wt→Wt} {l:List α} {w:Wt}:wk f l w 0=w:=by simp[wk]
theorem lX {α:Type} {f:α→Wt→Wt} {l:List α} {w:Wt}:wk f l w l.length=l.foldl (fun w a=>f a w) w:=by simp[wk]
theorem qB {α:Type} {f:α→Wt→Wt} {l:List α} {w:Wt} {k:Nat} {v:α} (h:l[k]? =some v):wk f l w (k+1)=f v (wk f l w k):=by
 unfold wk
 rw[VF,h,List.foldl_append]
 rfl
theorem Ia {α:Type} {f:α→Wt→Wt}:∀(l:List α),(∀a∈l,∀w:Wt,w.2.length≤(f a w).2.length)→∀w:Wt,w.2.length≤(l.foldl (fun w a=>f a w) w).2.length
 |[],_,w=>Ui _
 |a::l,h,w=>Ur (h a (by simp) w) (Ia l (fun b hb=>h b (by simp[hb])) _)
theorem GR {α:Type} {f:α→Wt→Wt} {l:List α} (h:∀a∈l,∀w:Wt,w.2.length≤(f a w).2.length) {w:Wt} (k:Nat):(wk f l w k).2.length≤(wk f l w l.length).2.length:=by
 have e:wk f l w l.length=(l.drop k).foldl (fun w a=>f a w) (wk f l w k):=by
  unfold wk
  rw[←List.foldl_append,UF,U4]
 rw[e]
 exact Ia _ (fun a ha=>h a (VC ha)) _
def z51.kk:=p16 kB MO Tryz.ntmps51 Tryz.underlying25 Tryz.underlying3 Tryz.underlying45 Ii oV MI lH IX ED Gu Oa yJ Tryz.results51
open z51 in
theorem JF (l:List yH) (hn:l.length≤4000000) (hl0:∀r∈l,PS r.left∧PS r.right):EC Tryz.prog 51 [.c (.d (.ps 5 (l.map fH))),I .i64 16,fnv 52] (wL 16 jI l):=by
 have hmo1:∀a∈l,∀w:Wt,w.2.length≤(jI a w).2.length:=fun a ha=>(GZ a (hl0 a ha).1 (hl0 a ha).2).mo
 have hfold:=fun w0=>GR (f:=jI) (l:=l) hmo1 (w:=w0)
 have cu:=nZ l.length (by omega)
 have hmo:∀w:Wt,w.2.length≤(wL 16 jI l w).2.length:=by
  intro w
  unfold wL
  split
  ·exact Ui _
  ·have h1:=cu.mo w
   have h2:=hfold (wU l.length w) 0
   rw[eH,lX] at h2
   omega
 refine iI hmo (by intro v hv;simp only[TS,TV,Uk] at hv;rcases hv with rfl|rfl|rfl<;>exact BV _) fun w hl=>?_
 unfold wL at hl⊢
 refine jH Tryz.func51 Tryz.ntmps51 fun x hx=>?_
 refine dH ?_
 try refine nv ?_
 refine bV ?_ ?_
 ·intro h
  have h':16<l.length:=by have:(16:Int)<l.length:=(by simpa using h);omega
  rw[if_pos h'] at hl⊢
  try refine nv ?_
  refine⟨⟨33,[],stB 2001 2002 (true,w.2)⟩,?_,?_⟩
  ·refine(iw (bid:=2000) (id:=2001) (id':=2002) (j:=0) (by decide) (by decide) rfl rfl rfl rfl rfl).trans ?_
   refine jF ?_
   exact jG
  refine rV ((stB 2001 2002 (true,w.2))) ?_
  refine⟨?_,rfl⟩
  rfl
 intro h
 have h':¬16<l.length:=by have:(l.length:Int)≤16:=(by simpa using h);omega
 rw[if_neg h',←lX] at hl⊢
 have hk0:=hfold (wU l.length w) 0
 rw[eH] at hk0
 try refine nv ?_
 refine gQ ((stA 2001 w)) (cu.ac 2001 2003 w (by decide) (by decide) (by decide) (by omega)) ?_
 rintro rv9 st' ⟨rfl,rfl⟩<;>refine gU ?_
 generalize wU l.length w=u at hl hk0
 try refine nv ?_
 refine bP (ι:=Nat) (I:=fun k=>⟨33,[(0, .c (.ptr 2000 0)),(3,fnv 52),(22, .c (.d (.ps 5 (l.map fH)))),(23,I .i64 l.length),(24,I .i64 k)],[(2000, .box [.ms 2010 1 0 (wk jI l u k).2.length, .d (.v (.bool (wk jI l u k).1))]),(2001, .dead),(2010,aC 1 ((wk jI l u k).2.map dR))]⟩)
  (Inv:=fun k=>k≤l.length) (μ:=fun k=>l.length-k) 0 (by omega) ?_ ?_
 ·exact Jv @eH (fun i=>if i=2010 then 2003 else i)
 intro k hk
 try refine nv ?_
 refine bV ?_ ?_
 ·intro hlt
  have hlt':k<l.length:=by simpa using hlt
  obtain⟨v,hv,he,htk⟩:=round fH l k Oj hlt'
  have hmem:=TZ hv
  have hs1:wk jI l u (k+1)=jI v (wk jI l u k):=qB hv
  have hle:=hfold u (k+1)
  rw[hs1] at hle
  try refine nx @he ?_
  refine qU ((stA 2010 (wk jI l u k))) (by simp) (by simp only[kV, ↓reduceIte,Nat.reduceEqDiff,reduceCtorEq];first|done|rfl) (by simp only[MO,List.map];first|done|rfl) (by simp only[kV, ↓reduceIte,Nat.reduceEqDiff,reduceCtorEq];first|done|rfl) ⟨by simp[Ab.get],by simp[aH,aN,aO,aI,aK,aJ,aj,ay,bC,ae,Ab.get],by simp[Cap.toC,ax,bC,ay,au,aF,ae,Ab.get]⟩ ((GZ v (hl0 v hmem).1 (hl0 v hmem).2).ac 2010 2011 (wk jI l u k) (by decide) (by decide) (by decide) (by omega)) ?_
  rintro rv9 st' ⟨rfl,rfl⟩<;>(refine⟨by simp[jP,ae,Ab.get],?_⟩;simp only[kP,Nat.reduceEqDiff, ↓reduceIte,reduceCtorEq,List.cons_append,List.nil_append])
  try refine nv ?_
  refine⟨k+1,by omega,by omega,?_⟩
  exact Jv @hs1 (fun i=>if i=2010 then 2011 else i)
 ·intro hge
  have hk':k=l.length:=by have:¬k<l.length:=(by simpa using hge);omega
  subst hk'
  try refine nv ?_
  refine⟨⟨33,[],stB 2001 2002 (wk jI l u l.length)⟩,?_,?_⟩
  ·exact OU (fun i=>if i=2002 then 2010 else i)
  refine rN ((stB 2001 2002 (wk jI l u l.length))) ?_
  refine⟨?_,rfl⟩
  rfl
def z53.kk:=p16 kB MO Tryz.ntmps53 Tryz.underlying26 Tryz.underlying3 Tryz.underlying45 Hr oV JZ lH Ji ED Gu NV yJ Tryz.results53
open z53 in
theorem KH (l:List mg) (hn:l.length≤4000000) (hl0:∀e∈l,ES e∧e.path.size≤2000000∧e.frm.size≤2000000):EC Tryz.prog 53 [.c (.d (.ps 12 (l.map fK))),I .i64 64,fnv 54] (wL 64 jJ l):=by
 have hmo1:∀a∈l,∀w:Wt,w.2.length≤(jJ a w).2.length:=fun a ha=>(Ie a (hl0 a ha).1 (hl0 a ha).2.1 (hl0 a ha).2.2).mo
 have hfold:=fun w0=>GR (f:=jJ) (l:=l) hmo1 (w:=w0)
 have cu:=nZ l.length (by omega)
 have hmo:∀w:Wt,w.2.length≤(wL 64 jJ l w).2.length:=by
  intro w
  unfold wL
  split
  ·exact Ui _
  ·have h1:=cu.mo w
   have h2:=hfold (wU l.length w) 0
   rw[eH,lX] at h2
   omega
 refine iI hmo (by intro v hv;simp only[TS,TV,Uk] at hv;rcases hv with rfl|rfl|rfl<;>exact BV _) fun w hl=>?_
 unfold wL at hl⊢
 refine jH Tryz.func53 Tryz.ntmps53 fun x hx=>?_
 refine dH ?_
 try refine nv ?_
 refine bV ?_ ?_
 ·intro h
  have h':64<l.length:=by have:(64:Int)<l.length:=(by simpa using h);omega
  rw[if_pos h'] at hl⊢
  try refine nv ?_
  refine⟨⟨33,[],stB 2001 2002 (true,w.2)⟩,?_,?_⟩
  ·refine(iw (bid:=2000) (id:=2001) (id':=2002) (j:=0) (by decide) (by decide) rfl rfl rfl rfl rfl).trans ?_
   refine jF ?_
   exact jG
  refine rV ((stB 2001 2002 (true,w.2))) ?_
  refine⟨?_,rfl⟩
  rfl
 intro h
 have h':¬64<l.length:=by have:(l.length:Int)≤64:=(by simpa using h);omega
 rw[if_neg h',←lX] at hl⊢
 have hk0:=hfold (wU l.length w) 0
 rw[eH] at hk0
 try refine nv ?_
 refine gQ ((stA 2001 w)) (cu.ac 2001 2003 w (by decide) (by decide) (by decide) (by omega)) ?_
 rintro rv9 st' ⟨rfl,rfl⟩<;>refine gU ?_
 generalize wU l.length w=u at hl hk0
 try refine nv ?_
 refine bP (ι:=Nat) (I:=fun k=>⟨33,[(0, .c (.ptr 2000 0)),(3,fnv 54),(22, .c (.d (.ps 12 (l.map fK)))),(23,I .i64 l.length),(24,I .i64 k)],[(2000, .box [.ms 2010 1 0 (wk jJ l u k).2.length, .d (.v (.bool (wk jJ l u k).1))]),(2001, .dead),(2010,aC 1 ((wk jJ l u k).2.map dR))]⟩)
  (Inv:=fun k=>k≤l.length) (μ:=fun k=>l.length-k) 0 (by omega) ?_ ?_
 ·exact Jv @eH (fun i=>if i=2010 then 2003 else i)
 intro k hk
 try refine nv ?_
 refine bV ?_ ?_
 ·intro hlt
  have hlt':k<l.length:=by simpa using hlt
  obtain⟨v,hv,he,htk⟩:=round fK l k dh hlt'
  have hmem:=TZ hv
  have hs1:wk jJ l u (k+1)=jJ v (wk jJ l u k):=qB hv
  have hle:=hfold u (k+1)
  rw[hs1] at hle
  try refine nx @he ?_
  refine qU ((stA 2010 (wk jJ l u k))) (by simp) (by simp only[kV, ↓reduceIte,Nat.reduceEqDiff,reduceCtorEq];first|done|rfl) (by simp only[MO,List.map];first|done|rfl) (by simp only[kV, ↓reduceIte,Nat.reduceEqDiff,reduceCtorEq];first|done|rfl) ⟨by simp[Ab.get],by simp[aH,aN,aO,aI,aK,aJ,aj,ay,bC,ae,Ab.get],by simp[Cap.toC,ax,bC,ay,au,aF,ae,Ab.get]⟩ ((Ie v (hl0 v hmem).1 (hl0 v hmem).2.1 (hl0 v hmem).2.2).ac 2010 2011 (wk jJ l u k) (by decide) (by decide) (by decide) (by omega)) ?_
  rintro rv9 st' ⟨rfl,rfl⟩<;>(refine⟨by simp[jP,ae,Ab.get],?_⟩;simp only[kP,Nat.reduceEqDiff, ↓reduceIte,reduceCtorEq,List.cons_append,List.nil_append])
  try refine nv ?_
  refine⟨k+1,by omega,by omega,?_⟩
  exact Jv @hs1 (fun i=>if i=2010 then 2011 else i)
 ·intro hge
  have hk':k=l.length:=by have:¬k<l.length:=(by simpa using hge);omega
  subst hk'
  try refine nv ?_
  refine⟨⟨33,[],stB 2001 2002 (wk jJ l u l.length)⟩,?_,?_⟩
  ·exact OU (fun i=>if i=2002 then 2010 else i)
  refine rN ((stB 2001 2002 (wk jJ l u l.length))) ?_
  refine⟨?_,rfl⟩
  rfl
def z55.kk:=p16 kB MO Tryz.ntmps55 Tryz.underlying27 Tryz.underlying3 Tryz.underlying45 Gp oV KG lH Jp ED Gu NW yJ Tryz.results55
open z55 in
theorem MK (l:List iR) (hn:l.length≤4000000) (hl0:∀e∈l,IG e∧e.frm.size≤2000000∧e.to.size≤2000000):EC Tryz.prog 55 [.c (.d (.ps 6 (l.map dX))),I .i64 64,fnv 56] (wL 64 jK l):=by
 have hmo1:∀a∈l,∀w:Wt,w.2.length≤(jK a w).2.length:=fun a ha=>(Ha a (hl0 a ha).1 (hl0 a ha).2.1 (hl0 a ha).2.2).mo
 have hfold:=fun w0=>GR (f:=jK) (l:=l) hmo1 (w:=w0)
 have cu:=nZ l.length (by omega)
 have hmo:∀w:Wt,w.2.length≤(wL 64 jK l w).2.length:=by
  intro w
  unfold wL
  split
  ·exact Ui _
  ·have h1:=cu.mo w
   have h2:=hfold (wU l.length w) 0
   rw[eH,lX] at h2
   omega
 refine iI hmo (by intro v hv;simp only[TS,TV,Uk] at hv;rcases hv with rfl|rfl|rfl<;>exact BV _) fun w hl=>?_
 unfold wL at hl⊢
 refine jH Tryz.func55 Tryz.ntmps55 fun x hx=>?_
 refine dH ?_
 try refine nv ?_
 refine bV ?_ ?_
 ·intro h
  have h':64<l.length:=by have:(64:Int)<l.length:=(by simpa using h);omega
  rw[if_pos h'] at hl⊢
  try refine nv ?_
  refine⟨⟨33,[],stB 2001 2002 (true,w.2)⟩,?_,?_⟩
  ·refine(iw (bid:=2000) (id:=2001) (id':=2002) (j:=0) (by decide) (by decide) rfl rfl rfl rfl rfl).trans ?_
   refine jF ?_
   exact jG
  refine rV ((stB 2001 2002 (true,w.2))) ?_
  refine⟨?_,rfl⟩
  rfl
 intro h
 have h':¬64<l.length:=by have:(l.length:Int)≤64:=(by simpa using h);omega
 rw[if_neg h',←lX] at hl⊢
 have hk0:=hfold (wU l.length w) 0
 rw[eH] at hk0
 try refine nv ?_
 refine gQ ((stA 2001 w)) (cu.ac 2001 2003 w (by decide) (by decide) (by decide) (by omega)) ?_
 rintro rv9 st' ⟨rfl,rfl⟩<;>refine gU ?_
 generalize wU l.length w=u at hl hk0
 try refine nv ?_
 refine bP (ι:=Nat) (I:=fun k=>⟨33,[(0, .c (.ptr 2000 0)),(3,fnv 56),(22, .c (.d (.ps 6 (l.map dX)))),(23,I .i64 l.length),(24,I .i64 k)],[(2000, .box [.ms 2010 1 0 (wk jK l u k).2.length, .d (.v (.bool (wk jK l u k).1))]),(2001, .dead),(2010,aC 1 ((wk jK l u k).2.map dR))]⟩)
  (Inv:=fun k=>k≤l.length) (μ:=fun k=>l.length-k) 0 (by omega) ?_ ?_
 ·exact Jv @eH (fun i=>if i=2010 then 2003 else i)
 intro k hk
 try refine nv ?_
 refine bV ?_ ?_
 ·intro hlt
  have hlt':k<l.length:=by simpa using hlt
  obtain⟨v,hv,he,htk⟩:=round dX l k rM hlt'
  have hmem:=TZ hv
  have hs1:wk jK l u (k+1)=jK v (wk jK l u k):=qB hv
  have hle:=hfold u (k+1)
  rw[hs1] at hle
  try refine nx @he ?_
  refine qU ((stA 2010 (wk jK l u k))) (by simp) (by simp only[kV, ↓reduceIte,Nat.reduceEqDiff,reduceCtorEq];first|done|rfl) (by simp only[MO,List.map];first|done|rfl) (by simp only[kV, ↓reduceIte,Nat.reduceEqDiff,reduceCtorEq];first|done|rfl) ⟨by simp[Ab.get],by simp[aH,aN,aO,aI,aK,aJ,aj,ay,bC,ae,Ab.get],by simp[Cap.toC,ax,bC,ay,au,aF,ae,Ab.get]⟩ ((Ha v (hl0 v hmem).1 (hl0 v hmem).2.1 (hl0 v hmem).2.2).ac 2010 2011 (wk jK l u k) (by decide) (by decide) (by decide) (by omega)) ?_
  rintro rv9 st' ⟨rfl,rfl⟩<;>(refine⟨by simp[jP,ae,Ab.get],?_⟩;simp only[kP,Nat.reduceEqDiff, ↓reduceIte,reduceCtorEq,List.cons_append,List.nil_append])
  try refine nv ?_
  refine⟨k+1,by omega,by omega,?_⟩
  exact Jv @hs1 (fun i=>if i=2010 then 2011 else i)
 ·intro hge
  have hk':k=l.length:=by have:¬k<l.length:=(by simpa using hge);omega
  subst hk'
  try refine nv ?_
  refine⟨⟨33,[],stB 2001 2002 (wk jK l u l.length)⟩,?_,?_⟩
  ·exact OU (fun i=>if i=2002 then 2010 else i)
  refine rN ((stB 2001 2002 (wk jK l u l.length))) ?_
  refine⟨?_,rfl⟩
  rfl
def Tj.kk:=p16 kB MO Tryz.ntmps113 Tryz.underlying22 Tryz.underlying3 Tryz.underlying45 H8 oV Kq lH Ob ED Gu Ou yJ Tryz.results113
open Tj in
theorem Ld (l:List Ey) (hn:l.length≤4000000) (hl0:∀e∈l,aZ .i64 e.kind∧PS e.path∧PS e.frm):EC Tryz.prog 113 [.c (.d (.ps 5 (l.map gI))),I .i64 12,fnv 114] (wL 12 iY l):=by
 have hmo1:∀a∈l,∀w:Wt,w.2.length≤(iY a w).2.length:=fun a ha=>(GH a (hl0 a ha).1 (hl0 a ha).2.1 (hl0 a ha).2.2).mo
 have hfold:=fun w0=>GR (f:=iY) (l:=l) hmo1 (w:=w0)
 have cu:=nZ l.length (by omega)
 have hmo:∀w:Wt,w.2.length≤(wL 12 iY l w).2.length:=by
  intro w
  unfold wL
  split
  ·exact Ui _
  ·have h1:=cu.mo w
   have h2:=hfold (wU l.length w) 0
   rw[eH,lX] at h2
   omega
 refine iI hmo (by intro v hv;simp only[TS,TV,Uk] at hv;rcases hv with rfl|rfl|rfl<;>exact BV _) fun w hl=>?_
 unfold wL at hl⊢
 refine jH Tryz.func113 Tryz.ntmps113 fun x hx=>?_
 refine dH ?_
 try refine nv ?_
 refine bV ?_ ?_
 ·intro h
  have h':12<l.length:=by have:(12:Int)<l.length:=(by simpa using h);omega
  rw[if_pos h'] at hl⊢
  try refine nv ?_
  refine⟨⟨33,[],stB 2001 2002 (true,w.2)⟩,?_,?_⟩
  ·refine(iw (bid:=2000) (id:=2001) (id':=2002) (j:=0) (by decide) (by decide) rfl rfl rfl rfl rfl).trans ?_
   refine jF ?_
   exact jG
  refine rV ((stB 2001 2002 (true,w.2))) ?_
  refine⟨?_,rfl⟩
  rfl
 intro h
 have h':¬12<l.length:=by have:(l.length:Int)≤12:=(by simpa using h);omega
 rw[if_neg h',←lX] at hl⊢
 have hk0:=hfold (wU l.length w) 0
 rw[eH] at hk0
 try refine nv ?_
 refine gQ ((stA 2001 w)) (cu.ac 2001 2003 w (by decide) (by decide) (by decide) (by omega)) ?_
 rintro rv9 st' ⟨rfl,rfl⟩<;>refine gU ?_
 generalize wU l.length w=u at hl hk0
 try refine nv ?_
 refine bP (ι:=Nat) (I:=fun k=>⟨33,[(0, .c (.ptr 2000 0)),(3,fnv 114),(22, .c (.d (.ps 5 (l.map gI)))),(23,I .i64 l.length),(24,I .i64 k)],[(2000, .box [.ms 2010 1 0 (wk iY l u k).2.length, .d (.v (.bool (wk iY l u k).1))]),(2001, .dead),(2010,aC 1 ((wk iY l u k).2.map dR))]⟩)
  (Inv:=fun k=>k≤l.length) (μ:=fun k=>l.length-k) 0 (by omega) ?_ ?_
 ·exact Jv @eH (fun i=>if i=2010 then 2003 else i)
 intro k hk
 try refine nv ?_
 refine bV ?_ ?_
 ·intro hlt
  have hlt':k<l.length:=by simpa using hlt
  obtain⟨v,hv,he,htk⟩:=round gI l k ⟨0,lQ,lQ⟩ hlt'
  have hmem:=TZ hv
  have hs1:wk iY l u (k+1)=iY v (wk iY l u k):=qB hv
  have hle:=hfold u (k+1)
  rw[hs1] at hle
  try refine nx @he ?_
  refine qU ((stA 2010 (wk iY l u k))) (by simp) (by simp only[kV, ↓reduceIte,Nat.reduceEqDiff,reduceCtorEq];first|done|rfl) (by simp only[MO,List.map];first|done|rfl) (by simp only[kV, ↓reduceIte,Nat.reduceEqDiff,reduceCtorEq];first|done|rfl) ⟨by simp[Ab.get],by simp[aH,aN,aO,aI,aK,aJ,aj,ay,bC,ae,Ab.get],by simp[Cap.toC,ax,bC,ay,au,aF,ae,Ab.get]⟩ ((GH v (hl0 v hmem).1 (hl0 v hmem).2.1 (hl0 v hmem).2.2).ac 2010 2011 (wk iY l u k) (by decide) (by decide) (by decide) (by omega)) ?_
  rintro rv9 st' ⟨rfl,rfl⟩<;>(refine⟨by simp[jP,ae,Ab.get],?_⟩;simp only[kP,Nat.reduceEqDiff, ↓reduceIte,reduceCtorEq,List.cons_append,List.nil_append])
  try refine nv ?_
  refine⟨k+1,by omega,by omega,?_⟩
  exact Jv @hs1 (fun i=>if i=2010 then 2011 else i)
 ·intro hge
  have hk':k=l.length:=by have:¬k<l.length:=(by simpa using hge);omega
  subst hk'
  try refine nv ?_
  refine⟨⟨33,[],stB 2001 2002 (wk iY l u l.length)⟩,?_,?_⟩
  ·exact OU (fun i=>if i=2002 then 2010 else i)
  refine rN ((stB 2001 2002 (wk iY l u l.length))) ?_
  refine⟨?_,rfl⟩
  rfl
end Go.Proofs.YtpoodoknkbojgaaGreatDoor
