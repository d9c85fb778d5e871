/- A part of the proof. -/
import Derived.Test.YtcpgicfphakdaaaGreatDoorRV2
import Derived.Test.YtcpgicfphakdaaaGreatDoorRK16
import Derived.Ground.Names8Prog
import Derived.Shelf.Lay
set_option maxRecDepth 100000
set_option maxHeartbeats 8000000
set_option linter.all false
namespace Go.Proofs.YtcpgicfphakdaaaGreatDoor
open Go.Ab Tys
variable [zg]
theorem Dk (z:bV×Int):∃c e,VQ z=(true,c)∧z.2=e∧((e=0∧c=(bU z.1).map C.d)∨(¬e=0∧c=[Lt, .d (.v (.bool false))])):=by
 by_cases h0:z.2=0
 ·exact⟨_,_,by simp only[VQ,h0,if_true],h0, .inl ⟨rfl,rfl⟩⟩
 ·exact⟨_,_,by simp only[VQ,h0,if_false],rfl, .inr ⟨h0,rfl⟩⟩
def aiF.kk:=p6 kB kS Tryz.ntmps177 iW nU Tryz.results177
open aiF in
theorem ac9 (a m b:bV) (ha:PB 10000 a) (hm:PB 10000 m) (hb:PB 10000 b):AC Tryz.prog 177 [aPat a,aPat m,aPat b] [] (fun r st=>r= .tup [VQ (qV a m b),pI (qV a m b).2]∧st=[]):=by
 have h4:=aaR a m (ha.mono (by omega)) (hm.mono (by omega))
 have h5:=aao b (hb.mono (by omega))
 have hbb:=fun l h=>QV (n:=10000) (p:=a) (q:=m) (l:=l) (by omega) ha hm h
 have hR:qV a m b=if(jL b ((l7 a m).getD [])).2=0 then((jL b ((l7 a m).getD [])).1,0) else(dG,43):=rfl
 generalize qV a m b=R at hR
 generalize hM:l7 a m=M at h4 hR
 generalize hsP:(fun l=>jL b l)=sP at*
 have hsP':∀l,jL b l=sP l:=fun l=>by rw[←hsP]
 simp only[hsP'] at h5 hR
 obtain⟨ps,rp⟩:=a
 obtain⟨qs,rq⟩:=m
 obtain⟨us,ru⟩:=b
 cases M with
 |none=>
  simp only[acY,pB,Option.isSome] at h4
  simp only[Option.getD] at hR
  have h5:=h5 [] (by simp) (by simp)
  obtain⟨c,e,k1,k2,k3⟩:=Dk (sP [])
  rw[k1,k2] at h5
  rw[k2] at hR
  refine df Tryz.func177 Tryz.ntmps177 fun x hx=>?_
  (repeat (first|refine nv ?_|refine cf (h4) ?_))
  refine bC (jf (i:=20) 2 rfl) ?_
  refine fE ?_
  rcases k3 with⟨rfl,rfl⟩|⟨e0,rfl⟩
  ·rw[if_pos rfl] at hR
   (repeat (first|refine nv ?_|refine cf (h5) ?_))
   refine aj ?_ ?_
   ·intro h;cases h
   intro _
   try refine nv ?_
   refine rA [] ?_
   refine⟨?_,rfl⟩
   rw[hR];rfl
  ·rw[if_neg e0] at hR
   (repeat (first|refine nv ?_|refine cf (h5) ?_))
   refine aj ?_ ?_
   ·intro _
    try refine nv ?_
    refine rA [] ?_
    refine⟨?_,rfl⟩
    rw[hR];rfl
   ·intro h;simp[e0] at h
 |some l=>
  have hl9:=hbb l hM
  simp only[acY,pB,Option.isSome] at h4
  simp only[Option.getD] at hR
  have h5:=h5 l (by omega) (fun b hb=>(hl9.2 b hb).mono (by omega))
  obtain⟨c,e,k1,k2,k3⟩:=Dk (sP l)
  rw[k1,k2] at h5
  rw[k2] at hR
  rcases k3 with⟨rfl,rfl⟩|⟨e0,rfl⟩
  ·rw[if_pos rfl] at hR
   refine df Tryz.func177 Tryz.ntmps177 fun x hx=>?_
   (repeat (first|refine nv ?_|refine cf (h4) ?_|refine cf (h5) ?_))
   refine aj ?_ ?_
   ·intro h;cases h
   intro _
   try refine nv ?_
   refine rA [] ?_
   refine⟨?_,rfl⟩
   rw[hR];rfl
  ·rw[if_neg e0] at hR
   refine df Tryz.func177 Tryz.ntmps177 fun x hx=>?_
   (repeat (first|refine nv ?_|refine cf (h4) ?_|refine cf (h5) ?_))
   refine aj ?_ ?_
   ·intro _
    try refine nv ?_
    refine rA [] ?_
    refine⟨?_,rfl⟩
    rw[hR];rfl
   ·intro h;simp[e0] at h
theorem abE (a m b:bV):(qV a m b).2=0∨(qV a m b).2=43:=by
 unfold qV;split
 ·exact .inl rfl
 ·exact .inr rfl
def ai5.kk:=p10 kB kS Tryz.ntmps128 FH iW Af xN NC nU Tryz.results128
open ai5 in
theorem acK (r:MB) (p:bV) (hl:PB 10000 r.left) (hr:PB 10000 r.right) (hp:PB 10000 p):AC Tryz.prog 128 [QY r,aPat p] [] (fun x st=>x=aiL (qX r p)∧st=[]):=by
 have h1:=Di r (hl.mono (by omega)) (hr.mono (by omega))
 have h2:=lX p (hp.mono (by omega))
 have h3:=UV r.left p (hl.mono (by omega)) (hp.mono (by omega))
 have h4:=fun m hm=>ac9 r.left m r.right hl hm hr
 have hmb:=fun m=>LY (m:=m) hl hp
 have hR:=WQ r p
 have o1:okR r=decide (iQ r=0):=rfl
 have o2:iU p=decide (dm p=0):=rfl
 generalize qX r p=R at hR
 generalize iQ r=er at h1 o1 hR
 generalize dm p=ep at h2 o2 hR
 obtain⟨ex,lf,rg⟩:=r
 simp only at h1 h3 h4 hmb hR
 generalize hM:lK lf p=M at h3 hR
 obtain⟨ps,rp⟩:=lf
 obtain⟨qs,rq⟩:=rg
 obtain⟨us,ru⟩:=p
 refine df Tryz.func128 Tryz.ntmps128 fun x hx=>?_
 (repeat (first|refine nv ?_|refine cf (h1) ?_))
 refine aj ?_ ?_
 ·intro h
  have e:¬er=0:=by simpa using h
  rw[o1,ahK e,if_neg (by simp)] at hR
  try refine nv ?_
  refine rA [] ?_
  refine⟨?_,rfl⟩
  rw[hR];rfl
 intro h
 have e:er=0:=by simpa using h
 rw[o1,ajk e,if_pos rfl] at hR
 (repeat (first|refine nv ?_|refine cf (h2) ?_))
 refine aj ?_ ?_
 ·intro h
  have e:¬ep=0:=by simpa using h
  rw[o2,ahK e,if_neg (by simp)] at hR
  try refine nv ?_
  refine rA [] ?_
  refine⟨?_,rfl⟩
  rw[hR];rfl
 intro h
 have e:ep=0:=by simpa using h
 rw[o2,ajk e,if_pos rfl] at hR
 cases M with
 |none=>
  simp only[aaS,pB,Option.isSome] at h3
  simp only at hR
  (repeat (first|refine nv ?_|refine cf (h3) ?_))
  refine aj ?_ ?_
  ·intro _
   try refine nv ?_
   refine rA [] ?_
   refine⟨?_,rfl⟩
   rw[hR];rfl
  ·intro h;cases h
 |some m=>
  have hm:=hmb m hM
  have h4:=h4 m hm
  simp only at hR
  obtain⟨c,e,k1,k2,k3⟩:=Dk (qV ⟨ps,rp⟩ m ⟨qs,rq⟩)
  have k4:=abE ⟨ps,rp⟩ m ⟨qs,rq⟩
  rw[k2] at k4
  rw[k1,k2] at h4
  rw[k2] at hR
  generalize qV ⟨ps,rp⟩ m ⟨qs,rq⟩=cz at k3 hR
  obtain⟨ms,rm⟩:=m
  simp only[aaS,pB,Option.isSome] at h3
  (repeat (first|refine nv ?_|refine cf (h3) ?_))
  refine aj ?_ ?_
  ·intro h;cases h
  intro _
  rcases k3 with⟨rfl,rfl⟩|⟨e0,rfl⟩
  ·rw[if_pos rfl] at hR
   (repeat (first|refine nv ?_|refine cf (h4) ?_))
   refine aj ?_ ?_
   ·intro h;cases h
   intro _
   try refine nv ?_
   refine rA [] ?_
   refine⟨?_,rfl⟩
   rw[hR];rfl
  ·rw[if_neg e0] at hR
   obtain rfl:e=43:=by rcases k4 with k4|k4;exact absurd k4 e0;exact k4
   (repeat (first|refine nv ?_|refine cf (h4) ?_))
   refine aj ?_ ?_
   ·intro _
    try refine nv ?_
    refine rA [] ?_
    refine⟨?_,rfl⟩
    rw[hR];rfl
   ·intro h;cases h
end Go.Proofs.YtcpgicfphakdaaaGreatDoor
namespace Go.Proofs
open Go.Shelf
shelf_lay_g Lays8.n4 Nm8 4 at Tryz 182 as Tryz.growP
end Go.Proofs
namespace Go.Proofs.YtcpgicfphakdaaaGreatDoor
section
open Go.Ab Tys
variable [zg]
theorem abn (id n:Nat) (hn:n≤1000000):AC Tryz.prog 182 [.c (.d (.v (.slice none 0 0))),I .i64 n] [] (fun r st=>r= .c (.ms id 2 0 0)∧st=[(id, .arr 2 [])]):=by
 obtain⟨i,u,z,h1,h2,h3,h4,h5,h6,h7,h8,h9,h10,h11⟩:=jE (P:=Tryz.prog) (T:=76) nU
 have ht:Tryz.growP_ren.t 25=76:=by kernel_rfl
 have h4':i.size=2:=h4
 have h:=SQ (P:=Tryz.prog) (f:=182) ⟨_,Tryz.func182,by kernel_rfl,by kernel_rfl⟩ (by kernel_rfl) Tryz.growP i z (by rw[ht];exact h1) h3 (by omega) (by rw[←Array.length_toList,h6,h7];exact h4.symm) id n (by rw[h5];simp only;omega) (by omega)
 rw[h4'] at h
 exact h
@[reducible] def GM (l:List bV):List D:=[.ps 2 (l.map bU)]
def z131.kk:=p12 kB kS Tryz.ntmps131 Tryz.underlying264 Tryz.underlying77 iW ack Pe afx nU Pj Tryz.results131
open z131 in
theorem WI (ls:List (List bV)) (hl:ls.length≤1000) (hn:∀l∈ls,l.length≤1000):AC Tryz.prog 131 [.c (.ms 22 1 0 ls.length)] [(22,ay 1 (ls.map GM))] (fun r st=>r=jR ls.flatten∧st=[(22, .dead)]):=by
 have hfl:∀k,(ls.take k).flatten.length≤k*1000:=by
  intro k
  induction k with
  |zero=>simp
  |succ k ih=>
   by_cases h:k<ls.length
   ·rw[List.take_succ_eq_append_getElem h,akG,afI]
    have:=hn _ (ajI h)
    simp only[List.flatten_cons,List.flatten_nil,ajt]
    omega
   ·rw[ahH (by omega)];rw[ahH (by omega)] at ih;omega
 have hsn:∀k v,ls[k]? =some v→(ls.take (k+1)).flatten=(ls.take k).flatten++v:=by
  intro k v h
  rw[List.take_succ,h];simp
 refine df Tryz.func131 Tryz.ntmps131 fun x hx=>?_
 refine mQ (aY (i:=0) (id:=22) (ys:=ls.map GM) rfl rfl (by rw[ae1])) ?_
 refine fE ?_
 try refine nv ?_
 refine au (ι:=Nat) (I:=fun k=>⟨36,[(0, .c (.d (.ps 1 (ls.map GM)))),(3,I .i64 (ls.take k).flatten.length),(9, .c (.d (.ps 1 (ls.map GM)))),(10,I .i64 ls.length),(11,I .i64 k)],[(22, .dead)]⟩)
  (Inv:=fun k=>k≤ls.length) (μ:=fun k=>ls.length-k) 0 (by omega) ?_ ?_
 ·exact bQ
 intro k hk
 have hk0:=hfl k
 try refine nv ?_
 refine aj ?_ ?_
 ·intro hlt
  have hlt':k<ls.length:=by simpa using hlt
  obtain⟨v,hv,he,_⟩:=round GM ls k [] hlt'
  have hvn:=hn v (aem hv)
  have hs1:=hsn k v hv
  have hadd:(((ls.take k).flatten.length:Nat):Int)+((v.length:Nat):Int)=(((ls.take (k+1)).flatten.length:Nat):Int):=by rw[hs1,afI];omega
  try refine nx (p2 @he @hadd) ?_
  refine aj ?_ ?_
  ·intro h;simp at h;omega
  intro _
  try refine nv ?_
  refine⟨k+1,by omega,by omega,?_⟩
  exact bQ
 intro hge
 have hk':k=ls.length:=by have:¬k<ls.length:=by simpa using hge
                          omega
 rw[hk',afu] at hk0⊢
 try refine nv ?_
 refine nJ [] (abn 46 ls.flatten.length (by omega)) ?_
 rintro r st' ⟨rfl,rfl⟩<;>refine nP ?_
 try refine nv ?_
 refine au (ι:=Nat) (I:=fun k=>⟨36,[(6, .c (.ms 46 2 0 (ls.take k).flatten.length)),(25, .c (.d (.ps 1 (ls.map GM)))),(26,I .i64 ls.length),(27,I .i64 k)],[(22, .dead),(46,ay 2 ((ls.take k).flatten.map bU))]⟩)
  (Inv:=fun k=>k≤ls.length) (μ:=fun k=>ls.length-k) 0 (by omega) ?_ ?_
 ·exact bQ
 intro k hk
 have hk1:=hfl k
 try refine nv ?_
 refine aj ?_ ?_
 ·intro hlt
  have hlt':k<ls.length:=by simpa using hlt
  obtain⟨v,hv,he,_⟩:=round GM ls k [] hlt'
  have hvn:=hn v (aem hv)
  have hs1:=hsn k v hv
  have o1:∀l∈List.map (fun l=>List.map C.d l) (List.map bU v),l.length=2:=by
   intro l hl
   obtain⟨y,hy,rfl⟩:=agh.1 hl
   obtain⟨z,_,rfl⟩:=agh.1 hy
   rfl
  generalize hA:(ls.take k).flatten=A at hs1 hk1
  refine aZ ?_
  refine gx @he ?_
  refine aZ ?_
  refine gq ?_ ?_
  ·exact eQ @o1
  try refine nv ?_
  refine⟨k+1,by omega,by omega,?_⟩
  rw[hs1]
  exact uZ (fun i=>if i=46 then 33 else i)
 intro hge2
 have hk2:k=ls.length:=by have:¬k<ls.length:=by simpa using hge2
                          omega
 rw[hk2,afu]
 generalize ls.flatten=A
 refine aZ ?_
 refine bC (aY (i:=6) (id:=46) (ys:=A.map bU) rfl rfl (by rw[ae1])) ?_
 refine fE ?_
 try refine nv ?_
 refine rA ([(22, .dead)]) ?_
 refine⟨?_,rfl⟩
 rfl
def z62.kk:=MP kB kG kS Tryz.ntmps62 Jb iW ack Eh DZ QT afx nU Pj Tryz.results62
open z62 in
theorem Jn (a b:Mc) (ha:PB 100000 a.base) (hb:PB 100000 b.base) (hal:a.holes.length≤1000) (hbl:b.holes.length≤1000) (hah:∀h∈a.holes,PB 100000 h∧iU h=true) (hbh:∀h∈b.holes,PB 100000 h∧iU h=true):
 AC Tryz.prog 62 [WN a,WN b] [] (fun r st=>r=B (nI a b)∧st=[]):=by
 have hC:nI a b=match lK a.base b.base with|none=>false|some m=>decide (0<Hz ⟨m,a.holes++b.holes⟩):=rfl
 have hme:=UV a.base b.base (ha.mono (by omega)) (hb.mono (by omega))
 have hmp:=fun m=>LY (m:=m) ha hb
 have hmo:=fun m=>Jy (m:=m) (p:=a.base) (q:=b.base)
 generalize nI a b=R at hC
 generalize lK a.base b.base=M at hC hme hmp hmo
 have hcc:AC Tryz.prog 131 [.c (.ms 22 1 0 2)] [(22, .arr 1 [[.d (.ps 2 (a.holes.map bU))],[.d (.ps 2 (b.holes.map bU))]])] (fun r st=>r=jR (a.holes++b.holes)∧st=[(22, .dead)]):=by
  have hls:∀l∈[a.holes,b.holes],l.length≤1000:=by
   intro l hl
   simp only[afr,agW,ajr] at hl
   rcases hl with rfl|rfl
   ·omega
   ·omega
  have:=WI [a.holes,b.holes] (by simp) hls
  simpa[ay,GM] using this
 cases M with
 |none=>
  simp only at hC
  refine df Tryz.func62 Tryz.ntmps62 fun x hx=>?_
  (repeat (first|refine nv ?_|refine cf (hme) ?_))
  refine aZ ?_
  refine uN (wr:=false) [(23, .c (.d (.v (.int .i64 0)))),(24,B false)] [(22,([],none))] (by kernel_rfl) (by simp only[wZ.eq_1,wZ.eq_2,uQ.eq_def,H8.eq_def,tZ.eq_def,Option.getD,kD,kk,Nat.reduceAdd,Nat.reduceLT,Nat.reduceEqDiff, ↓reduceIte,reduceCtorEq];first|done|rfl) ?_ (by kernel_rfl) ?_
  ·(simp only[All,List.cons_append,List.nil_append,dB,afr,agW,ajr,forall_eq_or_imp,forall_eq,ahu,ajG,implies_true,ae1,List.length_cons,List.length_nil];repeat' (first|exact trivial|exact hcc|refine And.intro ?_ ?_|(intro h;cases h;done)|(rintro _ ⟨⟩;done)|assumption|rfl|omega|intro _|(simp[dU,bF,aS,aO,aQ,aT,aP,ah,aB,cZ,aJ,bM,ae,Ab.get];done)))
  try refine nv ?_
  refine rA [] ?_
  refine⟨?_,rfl⟩
  rw[hC];rfl
 |some m=>
  simp only at hC
  have hv:=aer m (a.holes++b.holes) (hmp m rfl) (by simp;omega) (fun h hh=>by rcases afs.1 hh with hh|hh;exact(hah h hh).1;exact(hbh h hh).1) (hmo m rfl).1 (fun h hh=>by rcases afs.1 hh with hh|hh;exact dO (hah h hh).2;exact dO (hbh h hh).2)
  generalize Hz ⟨m,a.holes++b.holes⟩=n at hv hC
  refine df Tryz.func62 Tryz.ntmps62 fun x hx=>?_
  (repeat (first|refine nv ?_|refine cf (hme) ?_))
  refine aZ ?_
  refine uN (wr:=false) [(23,jR (a.holes++b.holes)),(24,B (decide (n=0)))] [(23,([(22, .arr 1 [[.d (.ps 2 (a.holes.map bU))],[.d (.ps 2 (b.holes.map bU))]])],some [(22, .dead)]))] (by kernel_rfl) (by simp only[wZ.eq_1,wZ.eq_2,uQ.eq_def,H8.eq_def,tZ.eq_def,Option.getD,kD,kk,Nat.reduceAdd,Nat.reduceLT,Nat.reduceEqDiff, ↓reduceIte,reduceCtorEq];first|done|rfl) ?_ (by kernel_rfl) ?_
  ·(simp only[All,List.cons_append,List.nil_append,dB,afr,agW,ajr,forall_eq_or_imp,forall_eq,ahu,ajG,implies_true,ae1,List.length_cons,List.length_nil];repeat' (first|exact trivial|exact hcc|exact hv|refine And.intro ?_ ?_|(intro h;cases h;done)|(rintro _ ⟨⟩;done)|assumption|rfl|omega|intro _|(simp[dU,bF,aS,aO,aQ,aT,aP,ah,aB,cZ,aJ,bM,ae,Ab.get];done)))
  try refine nv ?_
  refine rA [] ?_
  refine⟨?_,rfl⟩
  rw[hC]
  cases n<;>rfl
end
section
open Go.Ab Tys
variable [zg]
theorem NW {m:List fA} (h:tX m=true) (hb:∀e∈m,EB 1048576 e∧e.holes.length≤1000000):m.length≤10000∧∀e∈m,EB1 e:=by
 obtain⟨h1,h2⟩:=YK h
 refine⟨by omega,fun e he=>⟨?_,?_,(hb e he).2,fun x hx=>?_⟩⟩
 ·exact(h2 e he e.left (by simp[jO])).mono (by omega)
 ·exact(h2 e he e.right (by simp[jO])).mono (by omega)
 ·exact(h2 e he x (by simp[jO,hx])).mono (by omega)
end
end Go.Proofs.YtcpgicfphakdaaaGreatDoor
