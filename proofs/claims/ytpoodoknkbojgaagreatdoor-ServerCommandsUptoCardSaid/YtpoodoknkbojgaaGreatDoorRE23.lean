/- A part of the proof. -/
import Derived.Test.YtpoodoknkbojgaaGreatDoorRE21
import Derived.Test.YtpoodoknkbojgaaGreatDoorRE22
set_option maxRecDepth 100000
set_option maxHeartbeats 8000000
set_option linter.all false
namespace Go.Proofs.YtpoodoknkbojgaaGreatDoor
open Go.Ab Tys
variable [wJ]
theorem Md (l:List UInt8) (s:Ds):(tD l s).1.size≤1024:=by
 unfold tD takeD
 split
 ·exact aaA _
 ·cases e:Wp (l.drop s.1) with
  |none=>exact aaA _
  |some q=>
   simp only
   unfold Wp at e
   obtain⟨u,_,e⟩:=aac.1 e
   split at e
   ·cases e
   ·rename_i h
    cases e
    show((u.2.take u.1).toArray).size≤1024
    simp only[abN,aaK]
    omega
def Zn.kk:=p11 kB kG kS Tryz.ntmps178 iF lK jG vO lS tC Tryz.results178
open Zn in
theorem Ez (l:List UInt8) (t:abW) (ht:t.size≤1000000) (s:Ds):AC Tryz.prog 178 [.c (.ptr 3000 0),Str t] (bH l s) (fun r st=>r=aPat (eH t s).1∧st=bH l (eH t s).2):=by
 obtain⟨p,b⟩:=s
 have hpr:=TE t ht
 have hsh:=AL (gW t) (Pi ht)
 unfold eH
 simp only
 generalize jW t=e at hpr⊢
 generalize gW t=q at hpr hsh⊢
 generalize gQ q=sq at hsh⊢
 obtain⟨qp,qr⟩:=q
 refine dI Tryz.func178 Tryz.ntmps178 fun x hx=>?_
 refine bZ ?_
 (repeat (first|refine nv ?_|refine cf (hpr) ?_))
 refine so ([(22,B sq)]) ?_ ?_
 ·exact Fa @hsh
 try refine nv ?_
 refine aU ?_ ?_
 ·intro h
  have hc:b=true∨e≠0∨sq=false:=by
   cases b
   ·by_cases he:e=0
    ·subst he
     cases sq
     ·exact .inr (.inr rfl)
     ·simp at h
    ·exact .inr (.inl he)
   ·exact .inl rfl
  rw[if_pos hc]
  try refine nv ?_
  refine⟨_,aT 1 (bid:=4) (j:=0) rfl rfl,?_⟩
  refine dQ ?_
  refine rA ((bH l (p,true))) ?_
  refine⟨?_,rfl⟩
  rfl
 intro h
 have hc:¬(b=true∨e≠0∨sq=false):=by
  rintro(rfl|hc|rfl)
  ·simp at h
  ·cases b<;>simp[hc] at h
  ·cases b
   ·by_cases he:e=0
    ·subst he;simp at h
    ·simp[he] at h
   ·simp at h
 rw[if_neg hc]
 obtain rfl:b=false:=by
  cases b
  ·rfl
  ·exact absurd (.inl rfl) hc
 try refine nv ?_
 refine⟨_,mZ.refl _ _,?_⟩
 refine rA ((bH l (p,false))) ?_
 refine⟨?_,rfl⟩
 rfl
def z127.kk:=p5 kB Tryz.ntmps127 iF lS Tryz.results127
open z127 in
theorem Gx (l:List UInt8) (hl:l.length≤1000000000) (s:Ds) (hs:s.1≤l.length):AC Tryz.prog 127 [.c (.ptr 3000 0)] (bH l s) (fun r st=>r=aPat (pD l s).1∧st=bH l (pD l s).2):=by
 have c1:=gm l hl s hs
 have hp:=Ez l (tD l s).1 (aav (Md l s) (by omega)) (tD l s).2
 unfold pD
 generalize tD l s=u at c1 hp⊢
 generalize eH u.1 u.2=v at hp⊢
 refine dI Tryz.func127 Tryz.ntmps127 fun x hx=>?_
 try refine nv ?_
 refine dh ((bH l s)) (c1) ?_
 rintro rv9 st' ⟨rfl,rfl⟩<;>refine di ?_
 try refine nv ?_
 refine dh ((bH l u.2)) (hp) ?_
 rintro rv9 st' ⟨rfl,rfl⟩<;>refine di ?_
 try refine nv ?_
 refine rA ((bH l v.2)) ?_
 refine⟨?_,rfl⟩
 rfl
def Zz.kk:=p6 kB kS Tryz.ntmps174 iF lS Tryz.results174
open Zz in
theorem Uk (l:List UInt8) (hl:l.length≤1000000000) (s:Ds) (hs:s.1≤l.length):AC Tryz.prog 174 [.c (.ptr 3000 0)] (bH l s) (fun r st=>r=aPat (sD l s).1∧st=bH l (sD l s).2):=by
 have c1:=gm l hl s hs
 have hp:=Ez l (tD l s).1 (aav (Md l s) (by omega)) (tD l s).2
 unfold sD
 generalize tD l s=u at c1 hp⊢
 obtain⟨t,u⟩:=u
 simp only at c1 hp⊢
 generalize eH t u=v at hp⊢
 refine dI Tryz.func174 Tryz.ntmps174 fun x hx=>?_
 refine bZ ?_
 try refine nv ?_
 refine dh ((bH l s)) (c1) ?_
 rintro rv9 st' ⟨rfl,rfl⟩<;>refine di ?_
 try refine nv ?_
 refine aU ?_ ?_
 ·intro h
  have h':t=noS:=by simpa using h
  rw[if_pos h']
  try refine nv ?_
  refine⟨_,aT 1 (bid:=2) (j:=0) rfl rfl,?_⟩
  refine dQ ?_
  refine rA ((bH l u)) ?_
  refine⟨?_,rfl⟩
  rfl
 intro h
 have h':¬t=noS:=by simpa using h
 rw[if_neg h']
 try refine nv ?_
 refine dh ((bH l u)) (hp) ?_
 rintro rv9 st' ⟨rfl,rfl⟩<;>refine di ?_
 try refine nv ?_
 refine⟨_,mZ.refl _ _,?_⟩
 refine rA ((bH l v.2)) ?_
 refine⟨?_,rfl⟩
 rfl
@[reducible] def ZX (y:Int×Bool×Bool×Bool):AV:= .agg [.d (.v (.int .i64 y.1)), .d (.v (.bool y.2.1)), .d (.v (.bool y.2.2.1)), .d (.v (.bool y.2.2.2))]
def Y7.kk:=p12 kB kS Tryz.ntmps128 Oq Ns LW L6 NR pg vO Vy Tryz.results128
open Y7 in
theorem Ur (l:List UInt8) (hl:l.length≤1000000000) (s:Ds) (hs:s.1≤l.length):AC Tryz.prog 128 [.c (.ptr 3000 0)] (bH l s) (fun r st=>r=ZX (yD l s).1∧st=bH l (yD l s).2):=by
 simp only[yD,Hq]
 have c1:=fB l hl s hs
 have l1:=bW.le l s hs
 generalize iD l s=u1 at c1 l1⊢
 have c2:=uB l hl u1.2 l1
 have l2:=yC.le l u1.2 l1
 generalize bD l u1.2=u2 at c2 l2⊢
 have c3:=uB l hl u2.2 l2
 have l3:=yC.le l u2.2 l2
 generalize bD l u2.2=u3 at c3 l3⊢
 have c4:=uB l hl u3.2 l3
 have l4:=yC.le l u3.2 l3
 generalize bD l u3.2=u4 at c4 l4⊢
 refine dI Tryz.func128 Tryz.ntmps128 fun x hx=>?_
 try refine nv ?_
 refine dh ((bH l s)) (c1) ?_
 rintro rv9 st' ⟨rfl,rfl⟩<;>refine di ?_
 try refine nv ?_
 refine dh ((bH l u1.2)) (c2) ?_
 rintro rv9 st' ⟨rfl,rfl⟩<;>refine di ?_
 try refine nv ?_
 refine dh ((bH l u2.2)) (c3) ?_
 rintro rv9 st' ⟨rfl,rfl⟩<;>refine di ?_
 try refine nv ?_
 refine dh ((bH l u3.2)) (c4) ?_
 rintro rv9 st' ⟨rfl,rfl⟩<;>refine di ?_
 try refine nv ?_
 refine rA ((bH l u4.2)) ?_
 refine⟨?_,rfl⟩
 rfl
def z65.kk:=p2 (p12 kB kS Tryz.ntmps65 Oq V3 Bq N9 Oj zV Nj NS Nq) (p11 Na zL NW LV pg Vy RS Yl Ll sQ Tryz.results65)
open z65 in
theorem Ve (l:List UInt8) (hl:l.length≤1000000000) (s:Ds) (hs:s.1≤l.length):AC Tryz.prog 65 [.c (.ptr 3000 0)] (bH l s) (fun r st=>r=Yj (eD l s).1∧st=bH l (eD l s).2):=by
 simp only[eD]
 have c1:=gm l hl s hs
 have l1:=bQ.le l s hs
 generalize tD l s=u1 at c1 l1⊢
 have c2:=fB l hl u1.2 l1
 have l2:=bW.le l u1.2 l1
 generalize iD l u1.2=u2 at c2 l2⊢
 have c3:=Ur l hl u2.2 l2
 have l3:=V7.le l u2.2 l2
 generalize yD l u2.2=u3 at c3 l3⊢
 have c4:=qA l hl u3.2 l3
 have l4:=VO.le l u3.2 l3
 generalize wD l u3.2=u4 at c4 l4⊢
 have c5:=fB l hl u4.2 l4
 have l5:=bW.le l u4.2 l4
 generalize iD l u4.2=u5 at c5 l5⊢
 have c6:=fB l hl u5.2 l5
 have l6:=bW.le l u5.2 l5
 generalize iD l u5.2=u6 at c6 l6⊢
 have c7:=gm l hl u6.2 l6
 have l7:=bQ.le l u6.2 l6
 generalize tD l u6.2=u7 at c7 l7⊢
 have c8:=fB l hl u7.2 l7
 have l8:=bW.le l u7.2 l7
 generalize iD l u7.2=u8 at c8 l8⊢
 have c9:=fB l hl u8.2 l8
 have l9:=bW.le l u8.2 l8
 generalize iD l u8.2=u9 at c9 l9⊢
 refine dI Tryz.func65 Tryz.ntmps65 fun x hx=>?_
 try refine nv ?_
 refine dh ((bH l s)) (c1) ?_
 rintro rv9 st' ⟨rfl,rfl⟩<;>refine di ?_
 try refine nv ?_
 refine dh ((bH l u1.2)) (c2) ?_
 rintro rv9 st' ⟨rfl,rfl⟩<;>refine di ?_
 try refine nv ?_
 refine dh ((bH l u2.2)) (c3) ?_
 rintro rv9 st' ⟨rfl,rfl⟩<;>refine di ?_
 try refine nv ?_
 refine dh ((bH l u3.2)) (c4) ?_
 rintro rv9 st' ⟨rfl,rfl⟩<;>refine di ?_
 try refine nv ?_
 refine dh ((bH l u4.2)) (c5) ?_
 rintro rv9 st' ⟨rfl,rfl⟩<;>refine di ?_
 try refine nv ?_
 refine dh ((bH l u5.2)) (c6) ?_
 rintro rv9 st' ⟨rfl,rfl⟩<;>refine di ?_
 try refine nv ?_
 refine dh ((bH l u6.2)) (c7) ?_
 rintro rv9 st' ⟨rfl,rfl⟩<;>refine di ?_
 try refine nv ?_
 refine dh ((bH l u7.2)) (c8) ?_
 rintro rv9 st' ⟨rfl,rfl⟩<;>refine di ?_
 try refine nv ?_
 refine dh ((bH l u8.2)) (c9) ?_
 rintro rv9 st' ⟨rfl,rfl⟩<;>refine di ?_
 try refine nv ?_
 refine rA ((bH l u9.2)) ?_
 refine⟨?_,rfl⟩
 rfl
def z67.kk:=X6 kB kS Tryz.ntmps67 BL zH ML Np zM NE Ol pg KR sQ Tryz.results67
open z67 in
theorem TY (l:List UInt8) (hl:l.length≤1000000000) (s:Ds) (hs:s.1≤l.length):AC Tryz.prog 67 [.c (.ptr 3000 0)] (bH l s) (fun r st=>r=X5 (rD l s).1∧st=bH l (rD l s).2):=by
 simp only[rD]
 have c1:=gm l hl s hs
 have l1:=bQ.le l s hs
 generalize tD l s=u1 at c1 l1⊢
 have c2:=fB l hl u1.2 l1
 have l2:=bW.le l u1.2 l1
 generalize iD l u1.2=u2 at c2 l2⊢
 have c3:=fB l hl u2.2 l2
 have l3:=bW.le l u2.2 l2
 generalize iD l u2.2=u3 at c3 l3⊢
 have c4:=gm l hl u3.2 l3
 have l4:=bQ.le l u3.2 l3
 generalize tD l u3.2=u4 at c4 l4⊢
 have c5:=fB l hl u4.2 l4
 have l5:=bW.le l u4.2 l4
 generalize iD l u4.2=u5 at c5 l5⊢
 have c6:=fB l hl u5.2 l5
 have l6:=bW.le l u5.2 l5
 generalize iD l u5.2=u6 at c6 l6⊢
 refine dI Tryz.func67 Tryz.ntmps67 fun x hx=>?_
 try refine nv ?_
 refine dh ((bH l s)) (c1) ?_
 rintro rv9 st' ⟨rfl,rfl⟩<;>refine di ?_
 try refine nv ?_
 refine dh ((bH l u1.2)) (c2) ?_
 rintro rv9 st' ⟨rfl,rfl⟩<;>refine di ?_
 try refine nv ?_
 refine dh ((bH l u2.2)) (c3) ?_
 rintro rv9 st' ⟨rfl,rfl⟩<;>refine di ?_
 try refine nv ?_
 refine dh ((bH l u3.2)) (c4) ?_
 rintro rv9 st' ⟨rfl,rfl⟩<;>refine di ?_
 try refine nv ?_
 refine dh ((bH l u4.2)) (c5) ?_
 rintro rv9 st' ⟨rfl,rfl⟩<;>refine di ?_
 try refine nv ?_
 refine dh ((bH l u5.2)) (c6) ?_
 rintro rv9 st' ⟨rfl,rfl⟩<;>refine di ?_
 try refine nv ?_
 refine rA ((bH l u6.2)) ?_
 refine⟨?_,rfl⟩
 rfl
def z63.kk:=p12 kB kS Tryz.ntmps63 iF Ae FD wu uX vO lS KG Tryz.results63
open z63 in
theorem Ut (l:List UInt8) (hl:l.length≤1000000000) (s:Ds) (hs:s.1≤l.length):AC Tryz.prog 63 [.c (.ptr 3000 0)] (bH l s) (fun r st=>r=XB (Lt l s).1∧st=bH l (Lt l s).2):=by
 simp only[Lt]
 have c1:=uB l hl s hs
 have l1:=yC.le l s hs
 generalize bD l s=u1 at c1 l1⊢
 have c2:=Gx l hl u1.2 l1
 have l2:=Ff.le l u1.2 l1
 generalize pD l u1.2=u2 at c2 l2⊢
 have c3:=Gx l hl u2.2 l2
 have l3:=Ff.le l u2.2 l2
 generalize pD l u2.2=u3 at c3 l3⊢
 refine dI Tryz.func63 Tryz.ntmps63 fun x hx=>?_
 try refine nv ?_
 refine dh ((bH l s)) (c1) ?_
 rintro rv9 st' ⟨rfl,rfl⟩<;>refine di ?_
 try refine nv ?_
 refine dh ((bH l u1.2)) (c2) ?_
 rintro rv9 st' ⟨rfl,rfl⟩<;>refine di ?_
 try refine nv ?_
 refine dh ((bH l u2.2)) (c3) ?_
 rintro rv9 st' ⟨rfl,rfl⟩<;>refine di ?_
 try refine nv ?_
 refine rA ((bH l u3.2)) ?_
 refine⟨?_,rfl⟩
 rfl
def z124.kk:=p12 kB kS Tryz.ntmps124 iF BK Fp vJ uU pg lS KP Tryz.results124
open z124 in
theorem UT (l:List UInt8) (hl:l.length≤1000000000) (s:Ds) (hs:s.1≤l.length):AC Tryz.prog 124 [.c (.ptr 3000 0)] (bH l s) (fun r st=>r=X0 (Om l s).1∧st=bH l (Om l s).2):=by
 simp only[Om]
 have c1:=fB l hl s hs
 have l1:=bW.le l s hs
 generalize iD l s=u1 at c1 l1⊢
 have c2:=Gx l hl u1.2 l1
 have l2:=Ff.le l u1.2 l1
 generalize pD l u1.2=u2 at c2 l2⊢
 have c3:=Uk l hl u2.2 l2
 have l3:=V5.le l u2.2 l2
 generalize sD l u2.2=u3 at c3 l3⊢
 refine dI Tryz.func124 Tryz.ntmps124 fun x hx=>?_
 try refine nv ?_
 refine dh ((bH l s)) (c1) ?_
 rintro rv9 st' ⟨rfl,rfl⟩<;>refine di ?_
 try refine nv ?_
 refine dh ((bH l u1.2)) (c2) ?_
 rintro rv9 st' ⟨rfl,rfl⟩<;>refine di ?_
 try refine nv ?_
 refine dh ((bH l u2.2)) (c3) ?_
 rintro rv9 st' ⟨rfl,rfl⟩<;>refine di ?_
 try refine nv ?_
 refine rA ((bH l u3.2)) ?_
 refine⟨?_,rfl⟩
 rfl
end Go.Proofs.YtpoodoknkbojgaaGreatDoor
