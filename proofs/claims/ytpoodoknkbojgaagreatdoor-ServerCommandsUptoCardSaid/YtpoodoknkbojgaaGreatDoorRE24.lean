/- A part of the proof. -/
import Derived.Test.YtpoodoknkbojgaaGreatDoorRE23
import Derived.Test.YtpoodoknkbojgaaGreatDoorRE6
set_option maxRecDepth 100000
set_option maxHeartbeats 8000000
set_option linter.all false
namespace Go.Proofs.YtpoodoknkbojgaaGreatDoor
open Go.Ab Tys
variable [wJ]
def z62.kk:=p2 (p9 kB kG kS G6 Tryz.ntmps62 Tryz.underlying25 Tryz.underlying3 Tryz.underlying45 Ae) (p9 lK Js jG G5 pg vO KG tC Tryz.results62)
open z62 in
theorem Tm (l:List UInt8) (hl:l.length≤1000000000) (s:Ds) (hs:s.1≤l.length):AC Tryz.prog 62 [.c (.ptr 3000 0),I .i64 16,fnv 63] (bH l s) (fun r st=>r= .c (.d (.ps 5 ((lD 16 Lt l s).1.map dX)))∧st=bH l (lD 16 Lt l s).2):=by
 have c0:=qA l hl s hs
 rw[Yw] at c0
 have l0:=sK.le l s hs
 have hc:=Ut l hl
 unfold lD headD
 generalize uD l s=u at c0 l0⊢
 obtain⟨n,p,b⟩:=u
 simp only at c0 l0⊢
 obtain⟨h0,hh⟩:∃h0:Ds,h0=(if 16<n then(p,true) else(p,b)):=⟨_,rfl⟩
 rw[←hh]
 have hn:h0.2=false→n≤16:=by
  intro h
  rw[hh] at h
  split at h
  ·cases h
  ·omega
 have hp0:h0.1≤l.length:=by
  rw[hh]
  split<;>exact l0
 refine dI Tryz.func62 Tryz.ntmps62 fun x hx=>?_
 refine bZ ?_
 try refine nv ?_
 refine dh ((bH l s)) (c0) ?_
 rintro rv9 st' ⟨rfl,rfl⟩<;>refine di ?_
 try refine nv ?_
 refine Cf ⟨38,[(0, .c (.ptr 3000 0)),(2,fnv 63),(7,I .u64 n)],[(3000,oW l h0.1 h0.2)]⟩ ?_ ?_
 ·refine aU ?_ ?_
  ·intro h
   have h':16<n:=by have:(16:Int)<n:=(by simpa using h);omega
   rw[if_pos h'] at hh
   subst hh
   try refine nv ?_
   refine⟨rfl,?_⟩
   exact fM
  ·intro h
   have h':¬16<n:=by have:¬(16:Int)<n:=(by simpa using h);omega
   rw[if_neg h'] at hh
   subst hh
   try refine nv ?_
   refine⟨rfl,?_⟩
   exact fM
 try refine nv ?_
 refine lY (lg (i:=8) (id:=100) (sz:=5) rfl rfl (by omega)) ?_
 refine dQ ?_
 refine aW (ι:=Nat×List yX×Ds) (I:=fun i=>⟨38,[(0, .c (.ptr 3000 0)),(2,fnv 63),(7,I .u64 n),(8, .c (.ms 100 5 0 i.2.1.length)),(9,I .u64 i.1)],[(3000,oW l i.2.2.1 i.2.2.2),(100,aC 5 (i.2.1.map dX))]⟩)
  (Inv:=fun i=>i.1≤n∧i.2.1.length=i.1∧i.2.2.1≤l.length∧(i.2.2.2=false→n≤16)∧dV Lt l (n-i.1) i.2.1 i.2.2=dV Lt l n [] h0) (μ:=fun i=>n-i.1) (0,[],h0) ⟨by omega,rfl,hp0,hn,rfl⟩ ?_ ?_
 ·exact fM
 rintro⟨k,acc,q,f⟩ ⟨h1,h2,h3,h4,h5⟩
 simp only at h1 h2 h3 h4 h5⊢
 try refine nv ?_
 refine aU ?_ ?_
 ·intro h
  obtain⟨hk,hf⟩:k<n∧f=false:=by
   by_cases hk:(k:Int)<n
   ·cases f
    ·exact⟨by omega,rfl⟩
    ·simp[hk] at h
   ·simp[hk] at h
  subst hf
  have hn16:=h4 rfl
  have hcr:=hc (q,false) h3
  obtain⟨j,hj⟩:∃j,n-k=j+1:=⟨n-k-1,by omega⟩
  rw[hj] at h5
  simp only[dV,aak,if_false] at h5
  have hl2:=Qr.le l (q,false) h3
  generalize Lt l (q,false)=v at hcr h5 hl2
  try refine nv ?_
  refine jQ ((bH l (q,false))) (by simp) (by simp only[kV, ↓reduceIte,Nat.reduceEqDiff,reduceCtorEq];first|done|rfl) (by simp only[G6,List.map];first|done|rfl) (by simp only[kV, ↓reduceIte,Nat.reduceEqDiff,reduceCtorEq];first|done|rfl) ⟨by simp[Ab.get],by simp[aN,aF,aI,aG,aJ,aH,ag,ax,bi,ae,Ab.get],by simp[Cap.toC,aA,bi,ax,ak,aK,ae,Ab.get]⟩ (hcr) ?_
  rintro rv9 st' ⟨rfl,rfl⟩<;>(refine⟨by simp[jl,ae,Ab.get],?_⟩;simp only[kP,Nat.reduceEqDiff, ↓reduceIte,reduceCtorEq,List.cons_append,List.nil_append])
  try refine nv ?_
  refine⟨(k+1,acc++[v.1],v.2),⟨by simp only;omega,by simp[h2],hl2,fun _=>hn16,by simp only;rw[show n-(k+1)=j by omega];exact h5⟩,by simp only;omega,?_⟩
  exact DZ @Int.natCast_add (fun i=>if i=100 then 36 else i)
 ·intro h
  have hdone:dV Lt l (n-k) acc (q,f)=(acc,q,f):=by
   cases f with
   |true=>exact fK _ _ _ _ _
   |false=>
    have hk:¬k<n:=by
     intro hk
     have:(k:Int)<n:=by omega
     simp[this] at h
    rw[show n-k=0 by omega];rfl
  rw[hdone] at h5
  rw[←h5]
  try refine nv ?_
  refine⟨⟨38,[(6, .c (.d (.ps 5 (acc.map dX))))],[(3000,oW l q f)]⟩,?_,?_⟩
  ·refine(ay (i:=6) (id:=100) (ys:=acc.map dX) rfl rfl (by rw[aai])).trans ?_
   refine dQ ?_
   exact fM
  refine rA ((bH l (q,f))) ?_
  refine⟨?_,rfl⟩
  rfl
def z64.kk:=p2 (p9 kB kG kS G6 Tryz.ntmps64 Tryz.underlying26 Tryz.underlying3 Tryz.underlying45 Bq) (p9 lK Ir jG FX pg vO Ll tC Tryz.results64)
open z64 in
theorem QE (l:List UInt8) (hl:l.length≤1000000000) (s:Ds) (hs:s.1≤l.length):AC Tryz.prog 64 [.c (.ptr 3000 0),I .i64 64,fnv 65] (bH l s) (fun r st=>r= .c (.d (.ps 12 ((lD 64 eD l s).1.map eu)))∧st=bH l (lD 64 eD l s).2):=by
 have c0:=qA l hl s hs
 rw[Yw] at c0
 have l0:=sK.le l s hs
 have hc:=Ve l hl
 unfold lD headD
 generalize uD l s=u at c0 l0⊢
 obtain⟨n,p,b⟩:=u
 simp only at c0 l0⊢
 obtain⟨h0,hh⟩:∃h0:Ds,h0=(if 64<n then(p,true) else(p,b)):=⟨_,rfl⟩
 rw[←hh]
 have hn:h0.2=false→n≤64:=by
  intro h
  rw[hh] at h
  split at h
  ·cases h
  ·omega
 have hp0:h0.1≤l.length:=by
  rw[hh]
  split<;>exact l0
 refine dI Tryz.func64 Tryz.ntmps64 fun x hx=>?_
 refine bZ ?_
 try refine nv ?_
 refine dh ((bH l s)) (c0) ?_
 rintro rv9 st' ⟨rfl,rfl⟩<;>refine di ?_
 try refine nv ?_
 refine Cf ⟨38,[(0, .c (.ptr 3000 0)),(2,fnv 65),(7,I .u64 n)],[(3000,oW l h0.1 h0.2)]⟩ ?_ ?_
 ·refine aU ?_ ?_
  ·intro h
   have h':64<n:=by have:(64:Int)<n:=(by simpa using h);omega
   rw[if_pos h'] at hh
   subst hh
   try refine nv ?_
   refine⟨rfl,?_⟩
   exact fM
  ·intro h
   have h':¬64<n:=by have:¬(64:Int)<n:=(by simpa using h);omega
   rw[if_neg h'] at hh
   subst hh
   try refine nv ?_
   refine⟨rfl,?_⟩
   exact fM
 try refine nv ?_
 refine lY (lg (i:=8) (id:=100) (sz:=12) rfl rfl (by omega)) ?_
 refine dQ ?_
 refine aW (ι:=Nat×List mV×Ds) (I:=fun i=>⟨38,[(0, .c (.ptr 3000 0)),(2,fnv 65),(7,I .u64 n),(8, .c (.ms 100 12 0 i.2.1.length)),(9,I .u64 i.1)],[(3000,oW l i.2.2.1 i.2.2.2),(100,aC 12 (i.2.1.map eu))]⟩)
  (Inv:=fun i=>i.1≤n∧i.2.1.length=i.1∧i.2.2.1≤l.length∧(i.2.2.2=false→n≤64)∧dV eD l (n-i.1) i.2.1 i.2.2=dV eD l n [] h0) (μ:=fun i=>n-i.1) (0,[],h0) ⟨by omega,rfl,hp0,hn,rfl⟩ ?_ ?_
 ·exact fM
 rintro⟨k,acc,q,f⟩ ⟨h1,h2,h3,h4,h5⟩
 simp only at h1 h2 h3 h4 h5⊢
 try refine nv ?_
 refine aU ?_ ?_
 ·intro h
  obtain⟨hk,hf⟩:k<n∧f=false:=by
   by_cases hk:(k:Int)<n
   ·cases f
    ·exact⟨by omega,rfl⟩
    ·simp[hk] at h
   ·simp[hk] at h
  subst hf
  have hn16:=h4 rfl
  have hcr:=hc (q,false) h3
  obtain⟨j,hj⟩:∃j,n-k=j+1:=⟨n-k-1,by omega⟩
  rw[hj] at h5
  simp only[dV,aak,if_false] at h5
  have hl2:=Vz.le l (q,false) h3
  generalize eD l (q,false)=v at hcr h5 hl2
  try refine nv ?_
  refine jQ ((bH l (q,false))) (by simp) (by simp only[kV, ↓reduceIte,Nat.reduceEqDiff,reduceCtorEq];first|done|rfl) (by simp only[G6,List.map];first|done|rfl) (by simp only[kV, ↓reduceIte,Nat.reduceEqDiff,reduceCtorEq];first|done|rfl) ⟨by simp[Ab.get],by simp[aN,aF,aI,aG,aJ,aH,ag,ax,bi,ae,Ab.get],by simp[Cap.toC,aA,bi,ax,ak,aK,ae,Ab.get]⟩ (hcr) ?_
  rintro rv9 st' ⟨rfl,rfl⟩<;>(refine⟨by simp[jl,ae,Ab.get],?_⟩;simp only[kP,Nat.reduceEqDiff, ↓reduceIte,reduceCtorEq,List.cons_append,List.nil_append])
  try refine nv ?_
  refine⟨(k+1,acc++[v.1],v.2),⟨by simp only;omega,by simp[h2],hl2,fun _=>hn16,by simp only;rw[show n-(k+1)=j by omega];exact h5⟩,by simp only;omega,?_⟩
  exact DZ @Int.natCast_add (fun i=>if i=100 then 36 else i)
 ·intro h
  have hdone:dV eD l (n-k) acc (q,f)=(acc,q,f):=by
   cases f with
   |true=>exact fK _ _ _ _ _
   |false=>
    have hk:¬k<n:=by
     intro hk
     have:(k:Int)<n:=by omega
     simp[this] at h
    rw[show n-k=0 by omega];rfl
  rw[hdone] at h5
  rw[←h5]
  try refine nv ?_
  refine⟨⟨38,[(6, .c (.d (.ps 12 (acc.map eu))))],[(3000,oW l q f)]⟩,?_,?_⟩
  ·refine(ay (i:=6) (id:=100) (ys:=acc.map eu) rfl rfl (by rw[aai])).trans ?_
   refine dQ ?_
   exact fM
  refine rA ((bH l (q,f))) ?_
  refine⟨?_,rfl⟩
  rfl
def z66.kk:=p2 (p9 kB kG kS G6 Tryz.ntmps66 Tryz.underlying27 Tryz.underlying3 Tryz.underlying45 BL) (p9 lK Ia jG FP pg vO KR tC Tryz.results66)
open z66 in
theorem Qa (l:List UInt8) (hl:l.length≤1000000000) (s:Ds) (hs:s.1≤l.length):AC Tryz.prog 66 [.c (.ptr 3000 0),I .i64 64,fnv 67] (bH l s) (fun r st=>r= .c (.d (.ps 6 ((lD 64 rD l s).1.map dM)))∧st=bH l (lD 64 rD l s).2):=by
 have c0:=qA l hl s hs
 rw[Yw] at c0
 have l0:=sK.le l s hs
 have hc:=TY l hl
 unfold lD headD
 generalize uD l s=u at c0 l0⊢
 obtain⟨n,p,b⟩:=u
 simp only at c0 l0⊢
 obtain⟨h0,hh⟩:∃h0:Ds,h0=(if 64<n then(p,true) else(p,b)):=⟨_,rfl⟩
 rw[←hh]
 have hn:h0.2=false→n≤64:=by
  intro h
  rw[hh] at h
  split at h
  ·cases h
  ·omega
 have hp0:h0.1≤l.length:=by
  rw[hh]
  split<;>exact l0
 refine dI Tryz.func66 Tryz.ntmps66 fun x hx=>?_
 refine bZ ?_
 try refine nv ?_
 refine dh ((bH l s)) (c0) ?_
 rintro rv9 st' ⟨rfl,rfl⟩<;>refine di ?_
 try refine nv ?_
 refine Cf ⟨38,[(0, .c (.ptr 3000 0)),(2,fnv 67),(7,I .u64 n)],[(3000,oW l h0.1 h0.2)]⟩ ?_ ?_
 ·refine aU ?_ ?_
  ·intro h
   have h':64<n:=by have:(64:Int)<n:=(by simpa using h);omega
   rw[if_pos h'] at hh
   subst hh
   try refine nv ?_
   refine⟨rfl,?_⟩
   exact fM
  ·intro h
   have h':¬64<n:=by have:¬(64:Int)<n:=(by simpa using h);omega
   rw[if_neg h'] at hh
   subst hh
   try refine nv ?_
   refine⟨rfl,?_⟩
   exact fM
 try refine nv ?_
 refine lY (lg (i:=8) (id:=100) (sz:=6) rfl rfl (by omega)) ?_
 refine dQ ?_
 refine aW (ι:=Nat×List iI×Ds) (I:=fun i=>⟨38,[(0, .c (.ptr 3000 0)),(2,fnv 67),(7,I .u64 n),(8, .c (.ms 100 6 0 i.2.1.length)),(9,I .u64 i.1)],[(3000,oW l i.2.2.1 i.2.2.2),(100,aC 6 (i.2.1.map dM))]⟩)
  (Inv:=fun i=>i.1≤n∧i.2.1.length=i.1∧i.2.2.1≤l.length∧(i.2.2.2=false→n≤64)∧dV rD l (n-i.1) i.2.1 i.2.2=dV rD l n [] h0) (μ:=fun i=>n-i.1) (0,[],h0) ⟨by omega,rfl,hp0,hn,rfl⟩ ?_ ?_
 ·exact fM
 rintro⟨k,acc,q,f⟩ ⟨h1,h2,h3,h4,h5⟩
 simp only at h1 h2 h3 h4 h5⊢
 try refine nv ?_
 refine aU ?_ ?_
 ·intro h
  obtain⟨hk,hf⟩:k<n∧f=false:=by
   by_cases hk:(k:Int)<n
   ·cases f
    ·exact⟨by omega,rfl⟩
    ·simp[hk] at h
   ·simp[hk] at h
  subst hf
  have hn16:=h4 rfl
  have hcr:=hc (q,false) h3
  obtain⟨j,hj⟩:∃j,n-k=j+1:=⟨n-k-1,by omega⟩
  rw[hj] at h5
  simp only[dV,aak,if_false] at h5
  have hl2:=VG.le l (q,false) h3
  generalize rD l (q,false)=v at hcr h5 hl2
  try refine nv ?_
  refine jQ ((bH l (q,false))) (by simp) (by simp only[kV, ↓reduceIte,Nat.reduceEqDiff,reduceCtorEq];first|done|rfl) (by simp only[G6,List.map];first|done|rfl) (by simp only[kV, ↓reduceIte,Nat.reduceEqDiff,reduceCtorEq];first|done|rfl) ⟨by simp[Ab.get],by simp[aN,aF,aI,aG,aJ,aH,ag,ax,bi,ae,Ab.get],by simp[Cap.toC,aA,bi,ax,ak,aK,ae,Ab.get]⟩ (hcr) ?_
  rintro rv9 st' ⟨rfl,rfl⟩<;>(refine⟨by simp[jl,ae,Ab.get],?_⟩;simp only[kP,Nat.reduceEqDiff, ↓reduceIte,reduceCtorEq,List.cons_append,List.nil_append])
  try refine nv ?_
  refine⟨(k+1,acc++[v.1],v.2),⟨by simp only;omega,by simp[h2],hl2,fun _=>hn16,by simp only;rw[show n-(k+1)=j by omega];exact h5⟩,by simp only;omega,?_⟩
  exact DZ @Int.natCast_add (fun i=>if i=100 then 36 else i)
 ·intro h
  have hdone:dV rD l (n-k) acc (q,f)=(acc,q,f):=by
   cases f with
   |true=>exact fK _ _ _ _ _
   |false=>
    have hk:¬k<n:=by
     intro hk
     have:(k:Int)<n:=by omega
     simp[this] at h
    rw[show n-k=0 by omega];rfl
  rw[hdone] at h5
  rw[←h5]
  try refine nv ?_
  refine⟨⟨38,[(6, .c (.d (.ps 6 (acc.map dM))))],[(3000,oW l q f)]⟩,?_,?_⟩
  ·refine(ay (i:=6) (id:=100) (ys:=acc.map dM) rfl rfl (by rw[aai])).trans ?_
   refine dQ ?_
   exact fM
  refine rA ((bH l (q,f))) ?_
  refine⟨?_,rfl⟩
  rfl
def YQ.kk:=p2 (p9 kB kG kS G6 Tryz.ntmps123 Tryz.underlying22 Tryz.underlying3 Tryz.underlying45 BK) (p9 lK Hw jG JK pg vO KP tC Tryz.results123)
open YQ in
theorem SL (l:List UInt8) (hl:l.length≤1000000000) (s:Ds) (hs:s.1≤l.length):AC Tryz.prog 123 [.c (.ptr 3000 0),I .i64 12,fnv 124] (bH l s) (fun r st=>r= .c (.d (.ps 5 ((lD 12 Om l s).1.map eU)))∧st=bH l (lD 12 Om l s).2):=by
 have c0:=qA l hl s hs
 rw[Yw] at c0
 have l0:=sK.le l s hs
 have hc:=UT l hl
 unfold lD headD
 generalize uD l s=u at c0 l0⊢
 obtain⟨n,p,b⟩:=u
 simp only at c0 l0⊢
 obtain⟨h0,hh⟩:∃h0:Ds,h0=(if 12<n then(p,true) else(p,b)):=⟨_,rfl⟩
 rw[←hh]
 have hn:h0.2=false→n≤12:=by
  intro h
  rw[hh] at h
  split at h
  ·cases h
  ·omega
 have hp0:h0.1≤l.length:=by
  rw[hh]
  split<;>exact l0
 refine dI Tryz.func123 Tryz.ntmps123 fun x hx=>?_
 refine bZ ?_
 try refine nv ?_
 refine dh ((bH l s)) (c0) ?_
 rintro rv9 st' ⟨rfl,rfl⟩<;>refine di ?_
 try refine nv ?_
 refine Cf ⟨38,[(0, .c (.ptr 3000 0)),(2,fnv 124),(7,I .u64 n)],[(3000,oW l h0.1 h0.2)]⟩ ?_ ?_
 ·refine aU ?_ ?_
  ·intro h
   have h':12<n:=by have:(12:Int)<n:=(by simpa using h);omega
   rw[if_pos h'] at hh
   subst hh
   try refine nv ?_
   refine⟨rfl,?_⟩
   exact fM
  ·intro h
   have h':¬12<n:=by have:¬(12:Int)<n:=(by simpa using h);omega
   rw[if_neg h'] at hh
   subst hh
   try refine nv ?_
   refine⟨rfl,?_⟩
   exact fM
 try refine nv ?_
 refine lY (lg (i:=8) (id:=100) (sz:=5) rfl rfl (by omega)) ?_
 refine dQ ?_
 refine aW (ι:=Nat×List DT×Ds) (I:=fun i=>⟨38,[(0, .c (.ptr 3000 0)),(2,fnv 124),(7,I .u64 n),(8, .c (.ms 100 5 0 i.2.1.length)),(9,I .u64 i.1)],[(3000,oW l i.2.2.1 i.2.2.2),(100,aC 5 (i.2.1.map eU))]⟩)
  (Inv:=fun i=>i.1≤n∧i.2.1.length=i.1∧i.2.2.1≤l.length∧(i.2.2.2=false→n≤12)∧dV Om l (n-i.1) i.2.1 i.2.2=dV Om l n [] h0) (μ:=fun i=>n-i.1) (0,[],h0) ⟨by omega,rfl,hp0,hn,rfl⟩ ?_ ?_
 ·exact fM
 rintro⟨k,acc,q,f⟩ ⟨h1,h2,h3,h4,h5⟩
 simp only at h1 h2 h3 h4 h5⊢
 try refine nv ?_
 refine aU ?_ ?_
 ·intro h
  obtain⟨hk,hf⟩:k<n∧f=false:=by
   by_cases hk:(k:Int)<n
   ·cases f
    ·exact⟨by omega,rfl⟩
    ·simp[hk] at h
   ·simp[hk] at h
  subst hf
  have hn16:=h4 rfl
  have hcr:=hc (q,false) h3
  obtain⟨j,hj⟩:∃j,n-k=j+1:=⟨n-k-1,by omega⟩
  rw[hj] at h5
  simp only[dV,aak,if_false] at h5
  have hl2:=J9.le l (q,false) h3
  generalize Om l (q,false)=v at hcr h5 hl2
  try refine nv ?_
  refine jQ ((bH l (q,false))) (by simp) (by simp only[kV, ↓reduceIte,Nat.reduceEqDiff,reduceCtorEq];first|done|rfl) (by simp only[G6,List.map];first|done|rfl) (by simp only[kV, ↓reduceIte,Nat.reduceEqDiff,reduceCtorEq];first|done|rfl) ⟨by simp[Ab.get],by simp[aN,aF,aI,aG,aJ,aH,ag,ax,bi,ae,Ab.get],by simp[Cap.toC,aA,bi,ax,ak,aK,ae,Ab.get]⟩ (hcr) ?_
  rintro rv9 st' ⟨rfl,rfl⟩<;>(refine⟨by simp[jl,ae,Ab.get],?_⟩;simp only[kP,Nat.reduceEqDiff, ↓reduceIte,reduceCtorEq,List.cons_append,List.nil_append])
  try refine nv ?_
  refine⟨(k+1,acc++[v.1],v.2),⟨by simp only;omega,by simp[h2],hl2,fun _=>hn16,by simp only;rw[show n-(k+1)=j by omega];exact h5⟩,by simp only;omega,?_⟩
  exact DZ @Int.natCast_add (fun i=>if i=100 then 36 else i)
 ·intro h
  have hdone:dV Om l (n-k) acc (q,f)=(acc,q,f):=by
   cases f with
   |true=>exact fK _ _ _ _ _
   |false=>
    have hk:¬k<n:=by
     intro hk
     have:(k:Int)<n:=by omega
     simp[this] at h
    rw[show n-k=0 by omega];rfl
  rw[hdone] at h5
  rw[←h5]
  try refine nv ?_
  refine⟨⟨38,[(6, .c (.d (.ps 5 (acc.map eU))))],[(3000,oW l q f)]⟩,?_,?_⟩
  ·refine(ay (i:=6) (id:=100) (ys:=acc.map eU) rfl rfl (by rw[aai])).trans ?_
   refine dQ ?_
   exact fM
  refine rA ((bH l (q,f))) ?_
  refine⟨?_,rfl⟩
  rfl
theorem Vf:Rd (lD 12 Om) (fun l=>l.length≤12∧∀e∈l,aV .i64 e.kind∧kQ e.path∧GI e.frm) (xk vC):=JD J9 12 (by omega)
def z61.kk:=p11 kB kS Tryz.ntmps61 uJ ww uT uY JK Fq sQ Tryz.results61
open z61 in
theorem U2 (l:List UInt8) (hl:l.length≤1000000000) (s:Ds) (hs:s.1≤l.length):AC Tryz.prog 61 [.c (.ptr 3000 0)] (bH l s) (fun r st=>r=UC (VN l s).1∧st=bH l (VN l s).2):=by
 simp only[VN]
 have c1:=gm l hl s hs
 have l1:=bQ.le l s hs
 generalize tD l s=u1 at c1 l1⊢
 have c2:=gm l hl u1.2 l1
 have l2:=bQ.le l u1.2 l1
 generalize tD l u1.2=u2 at c2 l2⊢
 have c3:=SL l hl u2.2 l2
 have l3:=Vf.le l u2.2 l2
 generalize lD 12 Om l u2.2=u3 at c3 l3⊢
 refine dI Tryz.func61 Tryz.ntmps61 fun x hx=>?_
 try refine nv ?_
 refine dh ((bH l s)) (c1) ?_
 rintro rv9 st' ⟨rfl,rfl⟩<;>refine di ?_
 try refine nv ?_
 refine dh ((bH l u1.2)) (c2) ?_
 rintro rv9 st' ⟨rfl,rfl⟩<;>refine di ?_
 try refine nv ?_
 refine dh ((bH l u2.2)) (c3) ?_
 rintro rv9 st' ⟨rfl,rfl⟩<;>refine di ?_
 try refine nv ?_
 refine rA ((bH l u3.2)) ?_
 refine⟨?_,rfl⟩
 rfl
end Go.Proofs.YtpoodoknkbojgaaGreatDoor
