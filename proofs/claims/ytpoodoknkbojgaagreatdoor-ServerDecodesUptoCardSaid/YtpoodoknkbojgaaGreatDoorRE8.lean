/- A part of the proof. -/
import Derived.Test.YtpoodoknkbojgaaGreatDoorRE7
import Derived.Test.YtpoodoknkbojgaaGreatDoorRP37
set_option linter.all false
namespace Go.Proofs.YtpoodoknkbojgaaGreatDoor
open Go.Ab Tys
variable [wJ]
@[reducible] def Ig (n:Nat):List D:=[D.v (.int .i64 (n:Int))]
theorem QK (k:Int):mF [C.d (.v (.int .i64 k))] ((zn kN OL iW).map D7)=(bY iW k).map fun v=>L9 (OL v):=Pm (ve:=OL) XG iW k
theorem OE:∀e∈(zn kN OL iW).map D7,e.1.1=false∧bI [.int .i64] e.1.2:=cZ (by kernel_rfl)
theorem MH (k:Int):nz k=(bY iW k).map (·.1):=by
 by_cases h1:k=1
 ·subst h1;rfl
 by_cases h2:k=2
 ·subst h2;rfl
 by_cases h3:k=3
 ·subst h3;rfl
 by_cases h4:k=4
 ·subst h4;rfl
 by_cases h5:k=5
 ·subst h5;rfl
 by_cases h6:k=6
 ·subst h6;rfl
 by_cases h7:k=7
 ·subst h7;rfl
 by_cases h8:k=8
 ·subst h8;rfl
 by_cases h9:k=9
 ·subst h9;rfl
 by_cases h10:k=10
 ·subst h10;rfl
 by_cases h11:k=11
 ·subst h11;rfl
 by_cases h12:k=12
 ·subst h12;rfl
 by_cases h13:k=13
 ·subst h13;rfl
 by_cases h14:k=14
 ·subst h14;rfl
 simp[nz,BP,bY,iW,h1,h2,h3,h4,h5,h6,h7,h8,h9,h10,h11,h12,h13,h14,eq_comm]
theorem Jn {k:Int} {fs:List Nat} {fn:Nat} (h:bY iW k=some (fs,fn)):fs.length≤4∧∀f∈fs,f≤10:=by
 have hm:(k,fs,fn)∈iW:=by
  revert h
  generalize iW=m
  induction m with
  |nil=>intro h;cases h
  |cons e m ih=>
   intro h
   obtain⟨a,b⟩:=e
   simp only[bY] at h
   split at h
   ·rename_i e;cases h;rw[e];simp
   ·exact abb _ (ih h)
 have hall:∀e∈iW,e.2.1.length≤4∧∀f∈e.2.1,f≤10:=by decide
 exact hall _ hm
def z8.kk:=p2 (p12 kB kS kM Tryz.ntmps8 Tryz.underlying78 qI Rq rZ Rf wz Gz wG) (p12 oZ WL Tj BI pg oh vO Xe Wy WR DL Tryz.results8)
set_option maxRecDepth 100000 in
set_option maxHeartbeats 16000000 in
open z8 in
theorem xA (c:cO) (hc:xW c):AC Tryz.prog 8 [wK c] [] (fun r st=>r=(match zl c with|none=> .tup [(false,[.d (.v (.slice none 0 0))]),pI 218]|some l=> .tup [(false,[.d (.ps 1 (l.map bU))]),pI 0])∧st=[]):=by
 have hlk:=QK c.kind
 have hkf:=MH c.kind
 have hk:=IE
 unfold zl
 refine dI Tryz.func8 Tryz.ntmps8 fun x hx=>?_
 refine bZ ?_
 cases ha:bY iW c.kind with
 |none=>
  rw[ha] at hlk hkf
  simp only[Option.map_none] at hkf
  rw[hkf]
  refine jk ?_
  refine gg ?_
  refine jk ?_
  refine Xo (wr:=false) ([(10, .c (.d (.pm (zn kN OL iW))))]:List (Nat×AV)) (by simp only[kD,kk,Nat.reduceAdd,Nat.reduceLT,Nat.reduceEqDiff, ↓reduceIte,reduceCtorEq,hlk,Option.map_none,Option.getD,Option.isSome];first|done|rfl) ?_ ?_
  ·exact Xg @hk @OE
  try refine nv ?_
  refine aU ?_ ?_
  rotate_left
  ·intro h;cases h
  intro _
  try refine nv ?_
  refine⟨_,mZ.refl _ _,?_⟩
  refine rA [] ?_
  refine⟨?_,rfl⟩
  rfl
 |some p=>
  obtain⟨fs,fn⟩:=p
  rw[ha] at hlk hkf
  simp only[Option.map_some] at hkf
  rw[hkf]
  simp only
  obtain⟨hf1,hf2⟩:=Jn ha
  clear ha hkf
  have ci:=fG c.kind hc.i.kind
  have hmi:=ci.mo (false,[])
  have hgi:=kF c.kind (false,[])
  have hgr:=fun k=>LM c (fs.take k) (wI c.kind (false,[]))
  have hbig:∀k,(wk (fun f w=>wF f c w) fs (wI c.kind (false,[])) k).2.length≤1000000:=by
   intro k
   have h1:=hgr k
   have h2:(fs.take k).length*160000≤4*160000:=aau _ (by rw[aaK];omega)
   show(RN (fs.take k) c (wI c.kind (false,[]))).2.length≤_
   simp only[List.length_nil] at hgi
   omega
  have hfin:RN fs c (wI c.kind (false,[]))=wk (fun f w=>wF f c w) fs (wI c.kind (false,[])) fs.length:=oK.symm
  rw[hfin]
  have hw0:wk (fun f w=>wF f c w) fs (wI c.kind (false,[])) 0=wI c.kind (false,[]):=gX
  have hb0:=hbig 0
  rw[hw0] at hb0
  refine jk ?_
  refine gg ?_
  refine jk ?_
  refine Xo (wr:=false) ([(10, .c (.d (.pm (zn kN OL iW))))]:List (Nat×AV)) (by simp only[kD,kk,Nat.reduceAdd,Nat.reduceLT,Nat.reduceEqDiff, ↓reduceIte,reduceCtorEq,hlk,Option.map_some,Option.getD,Option.isSome];first|done|rfl) ?_ ?_
  ·exact Xg @hk @OE
  try refine nv ?_
  refine aU ?_ ?_
  ·intro h;cases h
  intro _
  try refine nv ?_
  refine dm (D6 (bid:=19) (j:=0) (id:=2001) (sz:=1) rfl rfl rfl (by omega)) ?_
  refine dQ ?_
  refine dm (s':=⟨44,[(1, .c (.ptr 1 0)),(4, .c (.ptr 4 0)),(6, .c (.ptr 2000 0)),(20, .c (.ptr 2000 0)),(22,I .i64 c.kind)],[(1, .box ((dZ c).map C.d)),(4, .box ((OL (fs,fn)).2.map C.d)),(2000, .box [.ms 2001 1 0 0, .d (.v (.bool false))]),(2001,aC 1 (([]:List UInt8).map bU))]⟩) ?_ ?_
  ·exact Ro (fun i=>if i=2000 then 19 else i)
  refine dh ((stA 2001 (false,[]))) (ci.ac 2001 2003 (false,[]) (by decide) (by decide) (by decide) (by omega)) ?_
  rintro rv9 st' ⟨rfl,rfl⟩<;>refine di ?_
  try refine nv ?_
  refine aW (ι:=Nat) (I:=fun k=>⟨44,[(1, .c (.ptr 1 0)),(6, .c (.ptr 2000 0)),(25, .c (.d (.ps 1 (fs.map Ig)))),(26,I .i64 fs.length),(27,I .i64 k)],[(1, .box ((dZ c).map C.d)),(2000, .box [.ms 2010 1 0 (wk (fun f w=>wF f c w) fs (wI c.kind (false,[])) k).2.length, .d (.v (.bool (wk (fun f w=>wF f c w) fs (wI c.kind (false,[])) k).1))]),(2010,aC 1 ((wk (fun f w=>wF f c w) fs (wI c.kind (false,[])) k).2.map bU))]⟩)
   (Inv:=fun k=>k≤fs.length) (μ:=fun k=>fs.length-k) 0 (by omega) ?_ ?_
  ·exact DZ @hw0 (fun i=>if i=2010 then 2003 else i)
  intro k hk'
  try refine nv ?_
  refine aU ?_ ?_
  ·intro hlt
   have hlt':k<fs.length:=by simpa using hlt
   obtain⟨v,hv,he,htk⟩:=round Ig fs k 0 hlt'
   have hv10:=hf2 v (aah hv)
   have hs1:wk (fun f w=>wF f c w) fs (wI c.kind (false,[])) (k+1)=wF v c (wk (fun f w=>wF f c w) fs (wI c.kind (false,[])) k):=uC hv
   have hb1:=hbig (k+1)
   rw[hs1] at hb1
   try refine nx @he ?_
   refine dh ((stA 2010 (wk (fun f w=>wF f c w) fs (wI c.kind (false,[])) k))) ((PK c hc v hv10).ac 2010 2011 (wk (fun f w=>wF f c w) fs (wI c.kind (false,[])) k) (by decide) (by decide) (by decide) (by omega)) ?_
   rintro rv9 st' ⟨rfl,rfl⟩<;>refine di ?_
   try refine nv ?_
   refine⟨k+1,by omega,by omega,?_⟩
   exact DZ @hs1 (fun i=>if i=2010 then 2011 else i)
  ·intro hge
   have hk2:k=fs.length:=by have:¬k<fs.length:=(by simpa using hge);omega
   subst hk2
   generalize wk (fun f w=>wF f c w) fs (wI c.kind (false,[])) fs.length=u
   try refine nv ?_
   refine aU ?_ ?_
   ·intro h
    rw[if_pos h]
    try refine nv ?_
    refine⟨_,mZ.refl _ _,?_⟩
    refine rA [] ?_
    refine⟨?_,rfl⟩
    rfl
   ·intro h
    rw[if_neg (by rw[h];exact Bool.false_ne_true)]
    try refine nv ?_
    refine⟨⟨44,[(2, .c (.d (.ps 1 (u.2.map bU)))),(3,I .i64 0)],[]⟩,?_,?_⟩
    ·refine(ay (i:=2) (id:=2010) (ys:=u.2.map bU) rfl rfl (by rw[aai])).trans ?_
     refine dQ ?_
     exact fM
    refine rA [] ?_
    refine⟨?_,rfl⟩
    rfl
end Go.Proofs.YtpoodoknkbojgaaGreatDoor
