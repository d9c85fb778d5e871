/- A part of the proof. -/
import Derived.Test.YtpoodoknkbojgaaGreatDoorRE7
import Derived.Test.YtpoodoknkbojgaaGreatDoorRP58
import Derived.Test.YtpoodoknkbojgaaGreatDoorRAbCe
set_option linter.all false
namespace Go.Proofs.YtpoodoknkbojgaaGreatDoor
open Go.Ab Tys
variable [Ez]
@[reducible] def O7 (n:Nat):List D:=[D.v (.int .i64 (n:Int))]
theorem Qc (k:Int):jM [C.d (.v (.int .i64 k))] ((D7 kN NH jw).map yP)=(gX jw k).map fun v=>Ib (NH v):=Jg (ve:=NH) Q4 jw k
theorem QS:∀e∈(D7 kN NH jw).map yP,e.1.1=false∧bi [.int .i64] e.1.2:=bJ (by kernel_rfl)
theorem Oh (k:Int):uq k=(gX jw k).map (·.1):=by
 by_cases h1:k=1
 ·subst h1;rfl
 by_cases h2:k=2
 ·subst h2;rfl
 by_cases h3:k=3
 ·subst h3;rfl
 by_cases h4:k=4
 ·subst h4;rfl
 by_cases h5:k=5
 ·subst h5;rfl
 by_cases h6:k=6
 ·subst h6;rfl
 by_cases h7:k=7
 ·subst h7;rfl
 by_cases h8:k=8
 ·subst h8;rfl
 by_cases h9:k=9
 ·subst h9;rfl
 by_cases h10:k=10
 ·subst h10;rfl
 by_cases h11:k=11
 ·subst h11;rfl
 by_cases h12:k=12
 ·subst h12;rfl
 by_cases h13:k=13
 ·subst h13;rfl
 by_cases h14:k=14
 ·subst h14;rfl
 simp[uq,Hz,gX,jw,h1,h2,h3,h4,h5,h6,h7,h8,h9,h10,h11,h12,h13,h14,eq_comm]
theorem LY {k:Int} {fs:List Nat} {fn:Nat} (h:gX jw k=some (fs,fn)):fs.length≤4∧∀f∈fs,f≤10:=by
 have hm:(k,fs,fn)∈jw:=by
  revert h
  generalize jw=m
  induction m with
  |nil=>intro h;cases h
  |cons e m ih=>
   intro h
   obtain⟨a,b⟩:=e
   simp only[gX] at h
   split at h
   ·rename_i e;cases h;rw[e];simp
   ·exact U0 _ (ih h)
 have hall:∀e∈jw,e.2.1.length≤4∧∀f∈e.2.1,f≤10:=by decide
 exact hall _ hm
def z8.kk:=p2 (p12 kB kS kM Tryz.ntmps8 Tryz.underlying78 zH Pj oV O3 Ce Ho qR) (p12 lH Ro O5 Iw ED AQ Gu Q8 Rq Q6 yJ Tryz.results8)
set_option maxRecDepth 100000 in
set_option maxHeartbeats 16000000 in
open z8 in
theorem zt (c:iH) (hc:yj c):AC Tryz.prog 8 [uO c] [] (fun r st=>r=(match Ba c with|none=> .tup [(false,[.d (.v (.slice none 0 0))]),pI 218]|some l=> .tup [(false,[.d (.ps 1 (l.map dR))]),pI 0])∧st=[]):=by
 have hlk:=Qc c.kind
 have hkf:=Oh c.kind
 have hk:=Lp
 unfold Ba
 refine jH Tryz.func8 Tryz.ntmps8 fun x hx=>?_
 refine dH ?_
 cases ha:gX jw c.kind with
 |none=>
  rw[ha] at hlk hkf
  simp only[Option.map_none] at hkf
  rw[hkf]
  refine mW ?_
  refine gg ?_
  refine mW ?_
  refine TC (wr:=false) ([(10, .c (.d (.pm (D7 kN NH jw))))]:List (Nat×AV)) (by simp only[kD,kk,Nat.reduceAdd,Nat.reduceLT,Nat.reduceEqDiff, ↓reduceIte,reduceCtorEq,hlk,Option.map_none,Option.getD,Option.isSome];first|done|rfl) ?_ ?_
  ·exact RU @hk @QS
  try refine nv ?_
  refine bV ?_ ?_
  rotate_left
  ·intro h;cases h
  intro _
  try refine nv ?_
  refine⟨_,qc.refl _ _,?_⟩
  refine rA [] ?_
  refine⟨?_,rfl⟩
  rfl
 |some p=>
  obtain⟨fs,fn⟩:=p
  rw[ha] at hlk hkf
  simp only[Option.map_some] at hkf
  rw[hkf]
  simp only
  obtain⟨hf1,hf2⟩:=LY ha
  clear ha hkf
  have ci:=dJ c.kind hc.i.kind
  have hmi:=ci.mo (false,[])
  have hgi:=jl c.kind (false,[])
  have hgr:=fun k=>Ll c (fs.take k) (wI c.kind (false,[]))
  have hbig:∀k,(wk (fun f w=>wF f c w) fs (wI c.kind (false,[])) k).2.length≤1000000:=by
   intro k
   have h1:=hgr k
   have h2:(fs.take k).length*160000≤4*160000:=Ul _ (by rw[UE];omega)
   show(Lc (fs.take k) c (wI c.kind (false,[]))).2.length≤_
   simp only[List.length_nil] at hgi
   omega
  have hfin:Lc fs c (wI c.kind (false,[]))=wk (fun f w=>wF f c w) fs (wI c.kind (false,[])) fs.length:=lX.symm
  rw[hfin]
  have hw0:wk (fun f w=>wF f c w) fs (wI c.kind (false,[])) 0=wI c.kind (false,[]):=eH
  have hb0:=hbig 0
  rw[hw0] at hb0
  refine mW ?_
  refine gg ?_
  refine mW ?_
  refine TC (wr:=false) ([(10, .c (.d (.pm (D7 kN NH jw))))]:List (Nat×AV)) (by simp only[kD,kk,Nat.reduceAdd,Nat.reduceLT,Nat.reduceEqDiff, ↓reduceIte,reduceCtorEq,hlk,Option.map_some,Option.getD,Option.isSome];first|done|rfl) ?_ ?_
  ·exact RU @hk @QS
  try refine nv ?_
  refine bV ?_ ?_
  ·intro h;cases h
  intro _
  try refine nv ?_
  refine dD (yI (bid:=19) (j:=0) (id:=2001) (sz:=1) rfl rfl rfl (by omega)) ?_
  refine jF ?_
  refine dD (s':=⟨44,[(1, .c (.ptr 1 0)),(4, .c (.ptr 4 0)),(6, .c (.ptr 2000 0)),(20, .c (.ptr 2000 0)),(22,I .i64 c.kind)],[(1, .box ((iC c).map C.d)),(4, .box ((NH (fs,fn)).2.map C.d)),(2000, .box [.ms 2001 1 0 0, .d (.v (.bool false))]),(2001,aC 1 (([]:List UInt8).map dR))]⟩) ?_ ?_
  ·exact OU (fun i=>if i=2000 then 19 else i)
  refine gQ ((stA 2001 (false,[]))) (ci.ac 2001 2003 (false,[]) (by decide) (by decide) (by decide) (by omega)) ?_
  rintro rv9 st' ⟨rfl,rfl⟩<;>refine gU ?_
  try refine nv ?_
  refine bP (ι:=Nat) (I:=fun k=>⟨44,[(1, .c (.ptr 1 0)),(6, .c (.ptr 2000 0)),(25, .c (.d (.ps 1 (fs.map O7)))),(26,I .i64 fs.length),(27,I .i64 k)],[(1, .box ((iC c).map C.d)),(2000, .box [.ms 2010 1 0 (wk (fun f w=>wF f c w) fs (wI c.kind (false,[])) k).2.length, .d (.v (.bool (wk (fun f w=>wF f c w) fs (wI c.kind (false,[])) k).1))]),(2010,aC 1 ((wk (fun f w=>wF f c w) fs (wI c.kind (false,[])) k).2.map dR))]⟩)
   (Inv:=fun k=>k≤fs.length) (μ:=fun k=>fs.length-k) 0 (by omega) ?_ ?_
  ·exact Jv @hw0 (fun i=>if i=2010 then 2003 else i)
  intro k hk'
  try refine nv ?_
  refine bV ?_ ?_
  ·intro hlt
   have hlt':k<fs.length:=by simpa using hlt
   obtain⟨v,hv,he,htk⟩:=round O7 fs k 0 hlt'
   have hv10:=hf2 v (TZ hv)
   have hs1:wk (fun f w=>wF f c w) fs (wI c.kind (false,[])) (k+1)=wF v c (wk (fun f w=>wF f c w) fs (wI c.kind (false,[])) k):=qB hv
   have hb1:=hbig (k+1)
   rw[hs1] at hb1
   try refine nx @he ?_
   refine gQ ((stA 2010 (wk (fun f w=>wF f c w) fs (wI c.kind (false,[])) k))) ((Jh c hc v hv10).ac 2010 2011 (wk (fun f w=>wF f c w) fs (wI c.kind (false,[])) k) (by decide) (by decide) (by decide) (by omega)) ?_
   rintro rv9 st' ⟨rfl,rfl⟩<;>refine gU ?_
   try refine nv ?_
   refine⟨k+1,by omega,by omega,?_⟩
   exact Jv @hs1 (fun i=>if i=2010 then 2011 else i)
  ·intro hge
   have hk2:k=fs.length:=by have:¬k<fs.length:=(by simpa using hge);omega
   subst hk2
   generalize wk (fun f w=>wF f c w) fs (wI c.kind (false,[])) fs.length=u
   try refine nv ?_
   refine bV ?_ ?_
   ·intro h
    rw[if_pos h]
    try refine nv ?_
    refine⟨_,qc.refl _ _,?_⟩
    refine rA [] ?_
    refine⟨?_,rfl⟩
    rfl
   ·intro h
    rw[if_neg (by rw[h];exact Bool.false_ne_true)]
    try refine nv ?_
    refine⟨⟨44,[(2, .c (.d (.ps 1 (u.2.map dR)))),(3,I .i64 0)],[]⟩,?_,?_⟩
    ·refine(aT (i:=2) (id:=2010) (ys:=u.2.map dR) rfl rfl (by rw[Ub])).trans ?_
     refine jF ?_
     exact jG
    refine rA [] ?_
    refine⟨?_,rfl⟩
    rfl
end Go.Proofs.YtpoodoknkbojgaaGreatDoor
