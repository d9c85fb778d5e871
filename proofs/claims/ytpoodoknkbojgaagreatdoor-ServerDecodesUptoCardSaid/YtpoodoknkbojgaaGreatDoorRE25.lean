/- A part of the proof. -/
import Derived.Test.YtpoodoknkbojgaaGreatDoorRE24
set_option linter.all false
namespace Go.Proofs.YtpoodoknkbojgaaGreatDoor
open Go.Ab Tys
variable [wJ]
@[reducible] def Me (l:List UInt8) (u:cO×Ds):List (Nat×AO):=[(3000,oW l u.2.1 u.2.2),(4000, .box ((dZ u.1).map C.d))]
def z24.kk:=p2 (p12 kB Tryz.ntmps24 uJ qI rX nD nK nZ qQ zK zS zY) (p11 qU rW qV Fq G5 FX FP BI pg sQ Tryz.results24)
set_option maxRecDepth 100000 in
set_option maxHeartbeats 16000000 in
open z24 in
theorem OO (l:List UInt8) (hl:l.length≤1000000000) (c:cO) (s:Ds) (hs:s.1≤l.length) (fl:Nat) (hf:fl≤10):AC Tryz.prog 24 [.c (.ptr 3000 0), .c (.ptr 4000 0),I .i64 fl] (Me l (c,s)) (fun r st=>r= .tup []∧st=Me l (fD fl l c s)):=by
 have c0:=gm l hl s hs
 have c1:=gm l hl s hs
 have c2:=gm l hl s hs
 have c3:=fB l hl s hs
 have c4:=fB l hl s hs
 have c5:=fB l hl s hs
 have c6:=gm l hl s hs
 have c7:=U2 l hl s hs
 have c8:=Tm l hl s hs
 have c9:=QE l hl s hs
 have c10:=Qa l hl s hs
 refine dI Tryz.func24 Tryz.ntmps24 fun x hx=>?_
 try refine nv ?_
 refine aU ?_ ?_
 ·intro h
  obtain rfl:fl=0:=by have:(fl:Int)=0:=(by simpa using h);omega
  simp only[fD]
  generalize tD l s=u at c0⊢
  try refine nv ?_
  refine dh ((bH l s)) (c0) ?_
  rintro rv9 st' ⟨rfl,rfl⟩<;>refine di ?_
  try refine nv ?_
  refine rN ((Me l ({c with client:=u.1},u.2))) ?_
  refine⟨?_,rfl⟩
  rfl
 intro h
 have n0:fl≠0:=by intro e;subst e;simp at h
 clear h
 try refine nv ?_
 refine aU ?_ ?_
 ·intro h
  obtain rfl:fl=1:=by have:(fl:Int)=1:=(by simpa using h);omega
  simp only[fD]
  generalize tD l s=u at c1⊢
  try refine nv ?_
  refine dh ((bH l s)) (c1) ?_
  rintro rv9 st' ⟨rfl,rfl⟩<;>refine di ?_
  try refine nv ?_
  refine rN ((Me l ({c with name:=u.1},u.2))) ?_
  refine⟨?_,rfl⟩
  rfl
 intro h
 have n1:fl≠1:=by intro e;subst e;simp at h
 clear h
 try refine nv ?_
 refine aU ?_ ?_
 ·intro h
  obtain rfl:fl=2:=by have:(fl:Int)=2:=(by simpa using h);omega
  simp only[fD]
  generalize tD l s=u at c2⊢
  try refine nv ?_
  refine dh ((bH l s)) (c2) ?_
  rintro rv9 st' ⟨rfl,rfl⟩<;>refine di ?_
  try refine nv ?_
  refine rN ((Me l ({c with path:=u.1},u.2))) ?_
  refine⟨?_,rfl⟩
  rfl
 intro h
 have n2:fl≠2:=by intro e;subst e;simp at h
 clear h
 try refine nv ?_
 refine aU ?_ ?_
 ·intro h
  obtain rfl:fl=3:=by have:(fl:Int)=3:=(by simpa using h);omega
  simp only[fD]
  generalize iD l s=u at c3⊢
  try refine nv ?_
  refine dh ((bH l s)) (c3) ?_
  rintro rv9 st' ⟨rfl,rfl⟩<;>refine di ?_
  try refine nv ?_
  refine rN ((Me l ({c with number:=u.1},u.2))) ?_
  refine⟨?_,rfl⟩
  rfl
 intro h
 have n3:fl≠3:=by intro e;subst e;simp at h
 clear h
 try refine nv ?_
 refine aU ?_ ?_
 ·intro h
  obtain rfl:fl=4:=by have:(fl:Int)=4:=(by simpa using h);omega
  simp only[fD]
  generalize iD l s=u at c4⊢
  try refine nv ?_
  refine dh ((bH l s)) (c4) ?_
  rintro rv9 st' ⟨rfl,rfl⟩<;>refine di ?_
  try refine nv ?_
  refine rN ((Me l ({c with fence:=u.1},u.2))) ?_
  refine⟨?_,rfl⟩
  rfl
 intro h
 have n4:fl≠4:=by intro e;subst e;simp at h
 clear h
 try refine nv ?_
 refine aU ?_ ?_
 ·intro h
  obtain rfl:fl=5:=by have:(fl:Int)=5:=(by simpa using h);omega
  simp only[fD]
  generalize iD l s=u at c5⊢
  try refine nv ?_
  refine dh ((bH l s)) (c5) ?_
  rintro rv9 st' ⟨rfl,rfl⟩<;>refine di ?_
  try refine nv ?_
  refine rN ((Me l ({c with ticks:=u.1},u.2))) ?_
  refine⟨?_,rfl⟩
  rfl
 intro h
 have n5:fl≠5:=by intro e;subst e;simp at h
 clear h
 try refine nv ?_
 refine aU ?_ ?_
 ·intro h
  obtain rfl:fl=6:=by have:(fl:Int)=6:=(by simpa using h);omega
  simp only[fD]
  generalize tD l s=u at c6⊢
  try refine nv ?_
  refine dh ((bH l s)) (c6) ?_
  rintro rv9 st' ⟨rfl,rfl⟩<;>refine di ?_
  try refine nv ?_
  refine rN ((Me l ({c with text:=u.1},u.2))) ?_
  refine⟨?_,rfl⟩
  rfl
 intro h
 have n6:fl≠6:=by intro e;subst e;simp at h
 clear h
 try refine nv ?_
 refine aU ?_ ?_
 ·intro h
  obtain rfl:fl=7:=by have:(fl:Int)=7:=(by simpa using h);omega
  simp only[fD]
  generalize VN l s=u at c7⊢
  try refine nv ?_
  refine dh ((bH l s)) (c7) ?_
  rintro rv9 st' ⟨rfl,rfl⟩<;>refine di ?_
  try refine nv ?_
  refine rN ((Me l ({c with stream:=u.1},u.2))) ?_
  refine⟨?_,rfl⟩
  rfl
 intro h
 have n7:fl≠7:=by intro e;subst e;simp at h
 clear h
 try refine nv ?_
 refine aU ?_ ?_
 ·intro h
  obtain rfl:fl=8:=by have:(fl:Int)=8:=(by simpa using h);omega
  simp only[fD]
  generalize lD 16 Lt l s=u at c8⊢
  try refine nv ?_
  refine dh ((bH l s)) (c8) ?_
  rintro rv9 st' ⟨rfl,rfl⟩<;>refine di ?_
  try refine nv ?_
  refine rN ((Me l ({c with rules:=u.1},u.2))) ?_
  refine⟨?_,rfl⟩
  rfl
 intro h
 have n8:fl≠8:=by intro e;subst e;simp at h
 clear h
 try refine nv ?_
 refine aU ?_ ?_
 ·intro h
  obtain rfl:fl=9:=by have:(fl:Int)=9:=(by simpa using h);omega
  simp only[fD]
  generalize lD 64 eD l s=u at c9⊢
  try refine nv ?_
  refine dh ((bH l s)) (c9) ?_
  rintro rv9 st' ⟨rfl,rfl⟩<;>refine di ?_
  try refine nv ?_
  refine rN ((Me l ({c with edits:=u.1},u.2))) ?_
  refine⟨?_,rfl⟩
  rfl
 intro h
 have n9:fl≠9:=by intro e;subst e;simp at h
 clear h
 try refine nv ?_
 refine aU ?_ ?_
 ·intro h
  obtain rfl:fl=10:=by have:(fl:Int)=10:=(by simpa using h);omega
  simp only[fD]
  generalize lD 64 rD l s=u at c10⊢
  try refine nv ?_
  refine dh ((bH l s)) (c10) ?_
  rintro rv9 st' ⟨rfl,rfl⟩<;>refine di ?_
  try refine nv ?_
  refine rN ((Me l ({c with recs:=u.1},u.2))) ?_
  refine⟨?_,rfl⟩
  rfl
 intro h
 have n10:fl≠10:=by intro e;subst e;simp at h
 clear h
 omega
end Go.Proofs.YtpoodoknkbojgaaGreatDoor
