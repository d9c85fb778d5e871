/- A part of the proof. -/
import Derived.Test.YtpoodoknkbojgaaGreatDoorRE5
set_option maxRecDepth 100000
set_option maxHeartbeats 8000000
set_option linter.all false
namespace Go.Proofs.YtpoodoknkbojgaaGreatDoor
open Go.Ab Tys
variable [wJ]
@[reducible] def fnv (f:Nat):AV:= .c (.d (.v (.func (.func f) ⟨[]⟩ ⟨[]⟩)))
def wk {α:Type} (f:α→Wt→Wt) (l:List α) (w:Wt) (k:Nat):Wt:=(l.take k).foldl (fun w a=>f a w) w
theorem gX {α:Type} {f:α→Wt→Wt} {l:List α} {w:Wt}:wk f l w 0=w:=by simp[wk]
theorem oK {α:Type} {f:α→Wt→Wt} {l:List α} {w:Wt}:wk f l w l.length=l.foldl (fun w a=>f a w) w:=by simp[wk]
theorem uC {α:Type} {f:α→Wt→Wt} {l:List α} {w:Wt} {k:Nat} {v:α} (h:l[k]? =some v):wk f l w (k+1)=f v (wk f l w k):=by
 unfold wk
 rw[abM,h,abT]
 rfl
theorem MQ {α:Type} {f:α→Wt→Wt}:∀(l:List α),(∀a∈l,∀w:Wt,w.2.length≤(f a w).2.length)→∀w:Wt,w.2.length≤(l.foldl (fun w a=>f a w) w).2.length
 |[],_,w=>aat _
 |a::l,h,w=>aav (h a (by simp) w) (MQ l (fun b hb=>h b (by simp[hb])) _)
theorem Nb {α:Type} {f:α→Wt→Wt} {l:List α} (h:∀a∈l,∀w:Wt,w.2.length≤(f a w).2.length) {w:Wt} (k:Nat):(wk f l w k).2.length≤(wk f l w l.length).2.length:=by
 have e:wk f l w l.length=(l.drop k).foldl (fun w a=>f a w) (wk f l w k):=by
  unfold wk
  rw[←abT,aaO,aaJ]
 rw[e]
 exact MQ _ (fun a ha=>h a (abD ha)) _
def z51.kk:=p16 kB G6 Tryz.ntmps51 Tryz.underlying25 Tryz.underlying3 Tryz.underlying45 Ae rZ Js oZ G5 pg vO KG DL Tryz.results51
open z51 in
theorem Qz (l:List yX) (hn:l.length≤4000000) (hl0:∀r∈l,PS r.left∧PS r.right):EC Tryz.prog 51 [.c (.d (.ps 5 (l.map dX))),I .i64 16,fnv 52] (wL 16 lQ l):=by
 have hmo1:∀a∈l,∀w:Wt,w.2.length≤(lQ a w).2.length:=fun a ha=>(LZ a (hl0 a ha).1 (hl0 a ha).2).mo
 have hfold:=fun w0=>Nb (f:=lQ) (l:=l) hmo1 (w:=w0)
 have cu:=qj l.length (by omega)
 have hmo:∀w:Wt,w.2.length≤(wL 16 lQ l w).2.length:=by
  intro w
  unfold wL
  split
  ·exact aat _
  ·have h1:=cu.mo w
   have h2:=hfold (wU l.length w) 0
   rw[gX,oK] at h2
   omega
 refine jU hmo (by intro v hv;simp only[Z9,aad,aaw] at hv;rcases hv with rfl|rfl|rfl<;>exact Fz _) fun w hl=>?_
 unfold wL at hl⊢
 refine dI Tryz.func51 Tryz.ntmps51 fun x hx=>?_
 refine bZ ?_
 try refine nv ?_
 refine aU ?_ ?_
 ·intro h
  have h':16<l.length:=by have:(16:Int)<l.length:=(by simpa using h);omega
  rw[if_pos h'] at hl⊢
  try refine nv ?_
  refine⟨⟨33,[],stB 2001 2002 (true,w.2)⟩,?_,?_⟩
  ·refine(jA (bid:=2000) (id:=2001) (id':=2002) (j:=0) (by decide) (by decide) rfl rfl rfl rfl rfl).trans ?_
   refine dQ ?_
   exact fM
  refine rV ((stB 2001 2002 (true,w.2))) ?_
  refine⟨?_,rfl⟩
  rfl
 intro h
 have h':¬16<l.length:=by have:(l.length:Int)≤16:=(by simpa using h);omega
 rw[if_neg h',←oK] at hl⊢
 have hk0:=hfold (wU l.length w) 0
 rw[gX] at hk0
 try refine nv ?_
 refine dh ((stA 2001 w)) (cu.ac 2001 2003 w (by decide) (by decide) (by decide) (by omega)) ?_
 rintro rv9 st' ⟨rfl,rfl⟩<;>refine di ?_
 generalize wU l.length w=u at hl hk0
 try refine nv ?_
 refine aW (ι:=Nat) (I:=fun k=>⟨33,[(0, .c (.ptr 2000 0)),(3,fnv 52),(22, .c (.d (.ps 5 (l.map dX)))),(23,I .i64 l.length),(24,I .i64 k)],[(2000, .box [.ms 2010 1 0 (wk lQ l u k).2.length, .d (.v (.bool (wk lQ l u k).1))]),(2001, .dead),(2010,aC 1 ((wk lQ l u k).2.map bU))]⟩)
  (Inv:=fun k=>k≤l.length) (μ:=fun k=>l.length-k) 0 (by omega) ?_ ?_
 ·exact DZ @gX (fun i=>if i=2010 then 2003 else i)
 intro k hk
 try refine nv ?_
 refine aU ?_ ?_
 ·intro hlt
  have hlt':k<l.length:=by simpa using hlt
  obtain⟨v,hv,he,htk⟩:=round dX l k Rn hlt'
  have hmem:=aah hv
  have hs1:wk lQ l u (k+1)=lQ v (wk lQ l u k):=uC hv
  have hle:=hfold u (k+1)
  rw[hs1] at hle
  try refine nx @he ?_
  refine jQ ((stA 2010 (wk lQ l u k))) (by simp) (by simp only[kV, ↓reduceIte,Nat.reduceEqDiff,reduceCtorEq];first|done|rfl) (by simp only[G6,List.map];first|done|rfl) (by simp only[kV, ↓reduceIte,Nat.reduceEqDiff,reduceCtorEq];first|done|rfl) ⟨by simp[Ab.get],by simp[aN,aF,aI,aG,aJ,aH,ag,ax,bi,ae,Ab.get],by simp[Cap.toC,aA,bi,ax,ak,aK,ae,Ab.get]⟩ ((LZ v (hl0 v hmem).1 (hl0 v hmem).2).ac 2010 2011 (wk lQ l u k) (by decide) (by decide) (by decide) (by omega)) ?_
  rintro rv9 st' ⟨rfl,rfl⟩<;>(refine⟨by simp[jl,ae,Ab.get],?_⟩;simp only[kP,Nat.reduceEqDiff, ↓reduceIte,reduceCtorEq,List.cons_append,List.nil_append])
  try refine nv ?_
  refine⟨k+1,by omega,by omega,?_⟩
  exact DZ @hs1 (fun i=>if i=2010 then 2011 else i)
 ·intro hge
  have hk':k=l.length:=by have:¬k<l.length:=(by simpa using hge);omega
  subst hk'
  try refine nv ?_
  refine⟨⟨33,[],stB 2001 2002 (wk lQ l u l.length)⟩,?_,?_⟩
  ·exact Ro (fun i=>if i=2002 then 2010 else i)
  refine rN ((stB 2001 2002 (wk lQ l u l.length))) ?_
  refine⟨?_,rfl⟩
  rfl
def z53.kk:=p16 kB G6 Tryz.ntmps53 Tryz.underlying26 Tryz.underlying3 Tryz.underlying45 Bq rZ Ir oZ FX pg vO Ll DL Tryz.results53
open z53 in
theorem Qx (l:List mV) (hn:l.length≤4000000) (hl0:∀e∈l,G8 e∧e.path.size≤2000000∧e.frm.size≤2000000):EC Tryz.prog 53 [.c (.d (.ps 12 (l.map eu))),I .i64 64,fnv 54] (wL 64 lV l):=by
 have hmo1:∀a∈l,∀w:Wt,w.2.length≤(lV a w).2.length:=fun a ha=>(NL a (hl0 a ha).1 (hl0 a ha).2.1 (hl0 a ha).2.2).mo
 have hfold:=fun w0=>Nb (f:=lV) (l:=l) hmo1 (w:=w0)
 have cu:=qj l.length (by omega)
 have hmo:∀w:Wt,w.2.length≤(wL 64 lV l w).2.length:=by
  intro w
  unfold wL
  split
  ·exact aat _
  ·have h1:=cu.mo w
   have h2:=hfold (wU l.length w) 0
   rw[gX,oK] at h2
   omega
 refine jU hmo (by intro v hv;simp only[Z9,aad,aaw] at hv;rcases hv with rfl|rfl|rfl<;>exact Fz _) fun w hl=>?_
 unfold wL at hl⊢
 refine dI Tryz.func53 Tryz.ntmps53 fun x hx=>?_
 refine bZ ?_
 try refine nv ?_
 refine aU ?_ ?_
 ·intro h
  have h':64<l.length:=by have:(64:Int)<l.length:=(by simpa using h);omega
  rw[if_pos h'] at hl⊢
  try refine nv ?_
  refine⟨⟨33,[],stB 2001 2002 (true,w.2)⟩,?_,?_⟩
  ·refine(jA (bid:=2000) (id:=2001) (id':=2002) (j:=0) (by decide) (by decide) rfl rfl rfl rfl rfl).trans ?_
   refine dQ ?_
   exact fM
  refine rV ((stB 2001 2002 (true,w.2))) ?_
  refine⟨?_,rfl⟩
  rfl
 intro h
 have h':¬64<l.length:=by have:(l.length:Int)≤64:=(by simpa using h);omega
 rw[if_neg h',←oK] at hl⊢
 have hk0:=hfold (wU l.length w) 0
 rw[gX] at hk0
 try refine nv ?_
 refine dh ((stA 2001 w)) (cu.ac 2001 2003 w (by decide) (by decide) (by decide) (by omega)) ?_
 rintro rv9 st' ⟨rfl,rfl⟩<;>refine di ?_
 generalize wU l.length w=u at hl hk0
 try refine nv ?_
 refine aW (ι:=Nat) (I:=fun k=>⟨33,[(0, .c (.ptr 2000 0)),(3,fnv 54),(22, .c (.d (.ps 12 (l.map eu)))),(23,I .i64 l.length),(24,I .i64 k)],[(2000, .box [.ms 2010 1 0 (wk lV l u k).2.length, .d (.v (.bool (wk lV l u k).1))]),(2001, .dead),(2010,aC 1 ((wk lV l u k).2.map bU))]⟩)
  (Inv:=fun k=>k≤l.length) (μ:=fun k=>l.length-k) 0 (by omega) ?_ ?_
 ·exact DZ @gX (fun i=>if i=2010 then 2003 else i)
 intro k hk
 try refine nv ?_
 refine aU ?_ ?_
 ·intro hlt
  have hlt':k<l.length:=by simpa using hlt
  obtain⟨v,hv,he,htk⟩:=round eu l k dP hlt'
  have hmem:=aah hv
  have hs1:wk lV l u (k+1)=lV v (wk lV l u k):=uC hv
  have hle:=hfold u (k+1)
  rw[hs1] at hle
  try refine nx @he ?_
  refine jQ ((stA 2010 (wk lV l u k))) (by simp) (by simp only[kV, ↓reduceIte,Nat.reduceEqDiff,reduceCtorEq];first|done|rfl) (by simp only[G6,List.map];first|done|rfl) (by simp only[kV, ↓reduceIte,Nat.reduceEqDiff,reduceCtorEq];first|done|rfl) ⟨by simp[Ab.get],by simp[aN,aF,aI,aG,aJ,aH,ag,ax,bi,ae,Ab.get],by simp[Cap.toC,aA,bi,ax,ak,aK,ae,Ab.get]⟩ ((NL v (hl0 v hmem).1 (hl0 v hmem).2.1 (hl0 v hmem).2.2).ac 2010 2011 (wk lV l u k) (by decide) (by decide) (by decide) (by omega)) ?_
  rintro rv9 st' ⟨rfl,rfl⟩<;>(refine⟨by simp[jl,ae,Ab.get],?_⟩;simp only[kP,Nat.reduceEqDiff, ↓reduceIte,reduceCtorEq,List.cons_append,List.nil_append])
  try refine nv ?_
  refine⟨k+1,by omega,by omega,?_⟩
  exact DZ @hs1 (fun i=>if i=2010 then 2011 else i)
 ·intro hge
  have hk':k=l.length:=by have:¬k<l.length:=(by simpa using hge);omega
  subst hk'
  try refine nv ?_
  refine⟨⟨33,[],stB 2001 2002 (wk lV l u l.length)⟩,?_,?_⟩
  ·exact Ro (fun i=>if i=2002 then 2010 else i)
  refine rN ((stB 2001 2002 (wk lV l u l.length))) ?_
  refine⟨?_,rfl⟩
  rfl
def z55.kk:=p16 kB G6 Tryz.ntmps55 Tryz.underlying27 Tryz.underlying3 Tryz.underlying45 BL rZ Ia oZ FP pg vO KR DL Tryz.results55
open z55 in
theorem RJ (l:List iI) (hn:l.length≤4000000) (hl0:∀e∈l,LH e∧e.frm.size≤2000000∧e.to.size≤2000000):EC Tryz.prog 55 [.c (.d (.ps 6 (l.map dM))),I .i64 64,fnv 56] (wL 64 lT l):=by
 have hmo1:∀a∈l,∀w:Wt,w.2.length≤(lT a w).2.length:=fun a ha=>(Oe a (hl0 a ha).1 (hl0 a ha).2.1 (hl0 a ha).2.2).mo
 have hfold:=fun w0=>Nb (f:=lT) (l:=l) hmo1 (w:=w0)
 have cu:=qj l.length (by omega)
 have hmo:∀w:Wt,w.2.length≤(wL 64 lT l w).2.length:=by
  intro w
  unfold wL
  split
  ·exact aat _
  ·have h1:=cu.mo w
   have h2:=hfold (wU l.length w) 0
   rw[gX,oK] at h2
   omega
 refine jU hmo (by intro v hv;simp only[Z9,aad,aaw] at hv;rcases hv with rfl|rfl|rfl<;>exact Fz _) fun w hl=>?_
 unfold wL at hl⊢
 refine dI Tryz.func55 Tryz.ntmps55 fun x hx=>?_
 refine bZ ?_
 try refine nv ?_
 refine aU ?_ ?_
 ·intro h
  have h':64<l.length:=by have:(64:Int)<l.length:=(by simpa using h);omega
  rw[if_pos h'] at hl⊢
  try refine nv ?_
  refine⟨⟨33,[],stB 2001 2002 (true,w.2)⟩,?_,?_⟩
  ·refine(jA (bid:=2000) (id:=2001) (id':=2002) (j:=0) (by decide) (by decide) rfl rfl rfl rfl rfl).trans ?_
   refine dQ ?_
   exact fM
  refine rV ((stB 2001 2002 (true,w.2))) ?_
  refine⟨?_,rfl⟩
  rfl
 intro h
 have h':¬64<l.length:=by have:(l.length:Int)≤64:=(by simpa using h);omega
 rw[if_neg h',←oK] at hl⊢
 have hk0:=hfold (wU l.length w) 0
 rw[gX] at hk0
 try refine nv ?_
 refine dh ((stA 2001 w)) (cu.ac 2001 2003 w (by decide) (by decide) (by decide) (by omega)) ?_
 rintro rv9 st' ⟨rfl,rfl⟩<;>refine di ?_
 generalize wU l.length w=u at hl hk0
 try refine nv ?_
 refine aW (ι:=Nat) (I:=fun k=>⟨33,[(0, .c (.ptr 2000 0)),(3,fnv 56),(22, .c (.d (.ps 6 (l.map dM)))),(23,I .i64 l.length),(24,I .i64 k)],[(2000, .box [.ms 2010 1 0 (wk lT l u k).2.length, .d (.v (.bool (wk lT l u k).1))]),(2001, .dead),(2010,aC 1 ((wk lT l u k).2.map bU))]⟩)
  (Inv:=fun k=>k≤l.length) (μ:=fun k=>l.length-k) 0 (by omega) ?_ ?_
 ·exact DZ @gX (fun i=>if i=2010 then 2003 else i)
 intro k hk
 try refine nv ?_
 refine aU ?_ ?_
 ·intro hlt
  have hlt':k<l.length:=by simpa using hlt
  obtain⟨v,hv,he,htk⟩:=round dM l k vT hlt'
  have hmem:=aah hv
  have hs1:wk lT l u (k+1)=lT v (wk lT l u k):=uC hv
  have hle:=hfold u (k+1)
  rw[hs1] at hle
  try refine nx @he ?_
  refine jQ ((stA 2010 (wk lT l u k))) (by simp) (by simp only[kV, ↓reduceIte,Nat.reduceEqDiff,reduceCtorEq];first|done|rfl) (by simp only[G6,List.map];first|done|rfl) (by simp only[kV, ↓reduceIte,Nat.reduceEqDiff,reduceCtorEq];first|done|rfl) ⟨by simp[Ab.get],by simp[aN,aF,aI,aG,aJ,aH,ag,ax,bi,ae,Ab.get],by simp[Cap.toC,aA,bi,ax,ak,aK,ae,Ab.get]⟩ ((Oe v (hl0 v hmem).1 (hl0 v hmem).2.1 (hl0 v hmem).2.2).ac 2010 2011 (wk lT l u k) (by decide) (by decide) (by decide) (by omega)) ?_
  rintro rv9 st' ⟨rfl,rfl⟩<;>(refine⟨by simp[jl,ae,Ab.get],?_⟩;simp only[kP,Nat.reduceEqDiff, ↓reduceIte,reduceCtorEq,List.cons_append,List.nil_append])
  try refine nv ?_
  refine⟨k+1,by omega,by omega,?_⟩
  exact DZ @hs1 (fun i=>if i=2010 then 2011 else i)
 ·intro hge
  have hk':k=l.length:=by have:¬k<l.length:=(by simpa using hge);omega
  subst hk'
  try refine nv ?_
  refine⟨⟨33,[],stB 2001 2002 (wk lT l u l.length)⟩,?_,?_⟩
  ·exact Ro (fun i=>if i=2002 then 2010 else i)
  refine rN ((stB 2001 2002 (wk lT l u l.length))) ?_
  refine⟨?_,rfl⟩
  rfl
def YR.kk:=p16 kB G6 Tryz.ntmps113 Tryz.underlying22 Tryz.underlying3 Tryz.underlying45 BK rZ Hw oZ JK pg vO KP DL Tryz.results113
open YR in
theorem Q7 (l:List DT) (hn:l.length≤4000000) (hl0:∀e∈l,aV .i64 e.kind∧PS e.path∧PS e.frm):EC Tryz.prog 113 [.c (.d (.ps 5 (l.map eU))),I .i64 12,fnv 114] (wL 12 kU l):=by
 have hmo1:∀a∈l,∀w:Wt,w.2.length≤(kU a w).2.length:=fun a ha=>(Oc a (hl0 a ha).1 (hl0 a ha).2.1 (hl0 a ha).2.2).mo
 have hfold:=fun w0=>Nb (f:=kU) (l:=l) hmo1 (w:=w0)
 have cu:=qj l.length (by omega)
 have hmo:∀w:Wt,w.2.length≤(wL 12 kU l w).2.length:=by
  intro w
  unfold wL
  split
  ·exact aat _
  ·have h1:=cu.mo w
   have h2:=hfold (wU l.length w) 0
   rw[gX,oK] at h2
   omega
 refine jU hmo (by intro v hv;simp only[Z9,aad,aaw] at hv;rcases hv with rfl|rfl|rfl<;>exact Fz _) fun w hl=>?_
 unfold wL at hl⊢
 refine dI Tryz.func113 Tryz.ntmps113 fun x hx=>?_
 refine bZ ?_
 try refine nv ?_
 refine aU ?_ ?_
 ·intro h
  have h':12<l.length:=by have:(12:Int)<l.length:=(by simpa using h);omega
  rw[if_pos h'] at hl⊢
  try refine nv ?_
  refine⟨⟨33,[],stB 2001 2002 (true,w.2)⟩,?_,?_⟩
  ·refine(jA (bid:=2000) (id:=2001) (id':=2002) (j:=0) (by decide) (by decide) rfl rfl rfl rfl rfl).trans ?_
   refine dQ ?_
   exact fM
  refine rV ((stB 2001 2002 (true,w.2))) ?_
  refine⟨?_,rfl⟩
  rfl
 intro h
 have h':¬12<l.length:=by have:(l.length:Int)≤12:=(by simpa using h);omega
 rw[if_neg h',←oK] at hl⊢
 have hk0:=hfold (wU l.length w) 0
 rw[gX] at hk0
 try refine nv ?_
 refine dh ((stA 2001 w)) (cu.ac 2001 2003 w (by decide) (by decide) (by decide) (by omega)) ?_
 rintro rv9 st' ⟨rfl,rfl⟩<;>refine di ?_
 generalize wU l.length w=u at hl hk0
 try refine nv ?_
 refine aW (ι:=Nat) (I:=fun k=>⟨33,[(0, .c (.ptr 2000 0)),(3,fnv 114),(22, .c (.d (.ps 5 (l.map eU)))),(23,I .i64 l.length),(24,I .i64 k)],[(2000, .box [.ms 2010 1 0 (wk kU l u k).2.length, .d (.v (.bool (wk kU l u k).1))]),(2001, .dead),(2010,aC 1 ((wk kU l u k).2.map bU))]⟩)
  (Inv:=fun k=>k≤l.length) (μ:=fun k=>l.length-k) 0 (by omega) ?_ ?_
 ·exact DZ @gX (fun i=>if i=2010 then 2003 else i)
 intro k hk
 try refine nv ?_
 refine aU ?_ ?_
 ·intro hlt
  have hlt':k<l.length:=by simpa using hlt
  obtain⟨v,hv,he,htk⟩:=round eU l k ⟨0,jM,jM⟩ hlt'
  have hmem:=aah hv
  have hs1:wk kU l u (k+1)=kU v (wk kU l u k):=uC hv
  have hle:=hfold u (k+1)
  rw[hs1] at hle
  try refine nx @he ?_
  refine jQ ((stA 2010 (wk kU l u k))) (by simp) (by simp only[kV, ↓reduceIte,Nat.reduceEqDiff,reduceCtorEq];first|done|rfl) (by simp only[G6,List.map];first|done|rfl) (by simp only[kV, ↓reduceIte,Nat.reduceEqDiff,reduceCtorEq];first|done|rfl) ⟨by simp[Ab.get],by simp[aN,aF,aI,aG,aJ,aH,ag,ax,bi,ae,Ab.get],by simp[Cap.toC,aA,bi,ax,ak,aK,ae,Ab.get]⟩ ((Oc v (hl0 v hmem).1 (hl0 v hmem).2.1 (hl0 v hmem).2.2).ac 2010 2011 (wk kU l u k) (by decide) (by decide) (by decide) (by omega)) ?_
  rintro rv9 st' ⟨rfl,rfl⟩<;>(refine⟨by simp[jl,ae,Ab.get],?_⟩;simp only[kP,Nat.reduceEqDiff, ↓reduceIte,reduceCtorEq,List.cons_append,List.nil_append])
  try refine nv ?_
  refine⟨k+1,by omega,by omega,?_⟩
  exact DZ @hs1 (fun i=>if i=2010 then 2011 else i)
 ·intro hge
  have hk':k=l.length:=by have:¬k<l.length:=(by simpa using hge);omega
  subst hk'
  try refine nv ?_
  refine⟨⟨33,[],stB 2001 2002 (wk kU l u l.length)⟩,?_,?_⟩
  ·exact Ro (fun i=>if i=2002 then 2010 else i)
  refine rN ((stB 2001 2002 (wk kU l u l.length))) ?_
  refine⟨?_,rfl⟩
  rfl
end Go.Proofs.YtpoodoknkbojgaaGreatDoor
