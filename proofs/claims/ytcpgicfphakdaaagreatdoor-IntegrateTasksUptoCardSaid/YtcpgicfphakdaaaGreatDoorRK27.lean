/- A part of the proof. -/
import Derived.Test.YtcpgicfphakdaaaGreatDoorRK27a
import Derived.Test.YtcpgicfphakdaaaGreatDoorRK25
set_option linter.all false
namespace Go.Proofs.YtcpgicfphakdaaaGreatDoor
open Go.Ab Tys
variable [zG]
def z11.kk:=p2 (p16 kB kG kS kM Tryz.ntmps11 Tryz.underlying32 Tryz.underlying74 kZ O6 Qx sV PH Aj eH FX UG) (p16 zM uq Ru JV VC uK rJ aaf Ji jO abo Yq Wu jy CJ Tryz.results11)
set_option maxRecDepth 100000 in
set_option maxHeartbeats 32000000 in
open z11 in
theorem WA (d:bK) (hg:Good d.revs) (hN:d.revs.length≤512) (hrn:d.recs.length≤512) (hpt:Qy d) (hf:ET d) (m:List dU) (hm:m.length≤10000) (hb:∀e∈m,EB1 e):
 AC Tryz.prog 11 [sH d,dZ m] [] (fun r st=>((uN m∧r= .tup [Lc (QR d m),pI 0])∨(¬uN m∧r= .tup [Lc [],pI 151]))∧st=[]):=by
 have hPm:∀p∈jm d,p.size≤100000∧∃v,eQ d p=some v:=by
  intro p hp
  obtain⟨v,h1,h2⟩:=Ia hp
  rw[←h2]
  exact⟨(hpt v h1).2,MI h1⟩
 have hPl:=Bj d
 have hF:QR d m=(jm d).flatMap (oO d m):=rfl
 have hck:=SY m hm hb
 have hfl:=fun l=>CW hN m l
 have hsn:=fun l p=> @Ll d m l p
 have hP:=fun L la me hla=>WN d hN hpt L la me hla
 generalize jm d=P at hP hPm hPl hF
 generalize QR d m=R at hF
 refine bV Tryz.func11 Tryz.ntmps11 fun x hx=>?_
 try refine nv ?_
 refine qQ [] (hck) ?_
 rintro r st' ⟨⟨ci,ce,rfl,hM⟩,rfl⟩<;>refine qU ?_
 try refine nv ?_
 refine af ?_ ?_
 ·intro hc
  have hc':¬uN m:=by rw[←hM];simpa using hc
  refine aJ ?_
  refine gg ?_
  refine aG (fO (i:=4) 11 rfl) ?_
  refine dM ?_
  try refine nv ?_
  refine rA [] ?_
  refine⟨?_,rfl⟩
  exact .inr ⟨hc',rfl⟩
 intro hc
 have hMO:uN m:=by rw[←hM];simpa using hc
 have hMX:MX m:=⟨by omega,fun e he=>(hb e he).eb (hMO.ent e he).2,fun e he=>(hMO.ent e he).1⟩
 try refine nv ?_
 refine qQ [] (Dt d hg hN hrn) ?_
 rintro r st' ⟨⟨L,la,me,hrun,hla,rfl⟩,rfl⟩<;>refine qU ?_
 have hX:LX d L la me:=⟨hg,hN,hrun,hla,hpt,hf⟩
 have hI:=hrun.inv hg
 have hrl:L.revs=d.revs:=hI.revs
 have hfl2:L.fst.length=L.revs.length:=by rw[hI.lf,hrl]
 try refine nv ?_
 refine af ?_ ?_
 ·intro h;cases h
 intro _
 (repeat (first|refine nv ?_|refine cf (hP L la me hla) ?_))
 refine mg (eG (i:=11) (id:=100) (sz:=11) rfl rfl (by omega)) ?_
 refine dM ?_
 refine ag (ι:=Nat) (I:=fun k=>⟨72,[(8, .c (.pp (sG L la me))),(10, .c (.ptr 10 0)),(11, .c (.ms 100 11 0 ((P.take k).flatMap (oO d m)).length)),(35,dJ P),(36,I .i64 P.length),(37,I .i64 k)],
  [(10, .box [.pp (sG L la me), .d (.ps 5 (m.map dK))]),(100,aQ 11 (((P.take k).flatMap (oO d m)).map ik))]⟩)
  (Inv:=fun k=>k≤P.length) (μ:=fun k=>P.length-k) 0 (by omega) ?_ ?_
 ·exact aW
 intro k hk
 have hfk:=hfl (P.take k)
 have hfk2:(P.take k).length≤512:=by simp;omega
 try refine nv ?_
 refine af ?_ ?_
 rotate_left
 ·intro hge
  have hk':k=P.length:=by have:¬k<P.length:=by simpa using hge
                          omega
  rw[hk',List.take_length,←hF]
  rw[hk',List.take_length,←hF] at hfk
  refine aJ ?_
  refine gg ?_
  refine aG (aI (i:=4) (id:=100) (ys:=R.map ik) rfl rfl (by simp)) ?_
  refine dM ?_
  try refine nv ?_
  refine rA [] ?_
  refine⟨?_,rfl⟩
  exact .inl ⟨hMO,rfl⟩
 intro hlt
 have hlt':k<P.length:=by simpa using hlt
 obtain⟨p,hp,he,htk⟩:=round encS P k noS hlt'
 obtain⟨hps,v,hv⟩:=hPm p (List.mem_of_getElem? hp)
 have hsn:=hsn (P.take k) p
 rw[←htk] at hsn
 generalize hO1:(P.take (k+1)).flatMap (oO d m)=O1 at hsn
 generalize (P.take k).flatMap (oO d m)=O at hsn hfk
 rcases hla.last p with⟨_,a2⟩|⟨i0,v9,a1,a2,a3⟩
 ·rw[hv] at a2;cases a2
 rw[hv] at a3;cases a3
 have hvp:=(CS hv).2
 subst hvp
 have hi0:=(List.getElem?_eq_some_iff.1 a2).1
 have hfw:=Hl L la me m hMX.len hMX.eb hMX.ck v.path (by omega)
 have hi02:(i0:Int)<(L.fst.length:Int):=by rw[hfl2,hrl];omega
 try refine nx @he ?_
 refine aJ ?_
 refine gy (p3 @mM @a1 @Option.map_some.{0,0}) ?_ ?_
 ·exact gI @qH
 have hoff:=Pg (m:=m) hv
 generalize hbv:nP m v.path=bv at hfw hoff
 obtain⟨t,b⟩:=bv
 simp only at hfw hoff
 (repeat (first|refine nx (D9 L.fst) ?_|refine cf (hfw) ?_))
 have hf5:(0≤L.fst.getD i0 0)↔¬v.act=5:=by
  constructor
  ·intro h h5;have:=(hI.f5 i0 v hi0 a2 h5).1;omega
  ·intro h;exact(hI.fm i0 v hi0 a2 h).1
 refine af ?_ ?_
 rotate_left
 ·intro hc
  have hc':b=false∨v.act=5:=by
   cases b with
   |false=>exact .inl rfl
   |true=>
    by_cases h5:v.act=5
    ·exact .inr h5
    ·have h9:=hf5.2 h5
     simp at hc
     rw[List.getD_eq_getElem?_getD] at h9
     omega
  rw[hoff hc',List.append_nil] at hsn
  try refine nv ?_
  refine⟨k+1,by omega,by omega,?_⟩
  rw[hO1,hsn]
  exact aW
 intro hc
 have hc':b=true∧0≤L.fst.getD i0 0:=by
  cases b with
  |false=>simp at hc
  |true=>exact⟨rfl,by simpa using hc⟩
 obtain⟨rfl,hf0⟩:=hc'
 have v5:=hf5.1 hf0
 obtain⟨is,hx,hin⟩:=ab1 hg hN hI a2 v5
 obtain⟨hp0,hlast⟩:=aa2 hg hN hI a2 v5 hv hx hin
 have htl:=Ir hN m v.path
 have hts:=WO d L la me hX m hMX i0 v is ⟨a2,v5,hx,hlast,hp0⟩ hv t hbv
 generalize oO d m v.path=TP at hsn hts htl
 have o2:∀l∈List.map (fun l=>List.map C.d l) (List.map ik TP),l.length=11:=by
  intro l hl
  obtain⟨y,hy,rfl⟩:=List.mem_map.1 hl
  obtain⟨z,_,rfl⟩:=List.mem_map.1 hy
  rfl
 (repeat (first|refine nv ?_|refine cf (hts) ?_))
 refine⟨k+1,by omega,by omega,?_⟩
 rw[hO1,hsn]
 exact uY (fun i=>if i=100 then 69 else i)
end Go.Proofs.YtcpgicfphakdaaaGreatDoor
namespace Go.Proofs.YtcpgicfphakdaaaGreatDoor
open Go.Ab Tys
variable [zG]
def zTk:Fv:=⟨0,noS,0,noS,0,0,noS,0,noS,0,noS⟩
def z3.kk:=p12 kB kG Tryz.ntmps3 Tryz.underlying32 kZ O6 PH adB rJ aa9 aaf Tryz.results3
set_option maxRecDepth 100000 in
set_option maxHeartbeats 16000000 in
open z3 in
theorem BR (l:List o6) (hf:Few l) (m:List dU) (hm:m.length≤1048576) (hb:∀e∈m,EB 1048576 e∧e.holes.length≤1000000):
 AC Tryz.prog 3 [.c (.d (.ps 5 (l.map iw))),dZ m] [] (fun r st=>r=B true∧st=[]):=by
 have haw:=Ze
 have hsm:=TC m hm (fun e he=>(hb e he).1)
 have hsz:=fun h=>VT (m:=m) h hb
 generalize uH m=sb at hsm hsz
 refine bV Tryz.func3 Tryz.ntmps3 fun x hx=>?_
 try refine nv ?_
 refine qQ [] (Yg l hf) ?_
 rintro r st' ⟨⟨b,rfl,hb1⟩,rfl⟩<;>refine qU ?_
 try refine nv ?_
 refine so ([(16,B sb)]) ?_ ?_
 ·exact gI @hsm
 try refine nv ?_
 refine af ?_ ?_
 ·intro _
  (repeat (first|refine nv ?_|refine cf (haw) ?_))
  refine rA [] ?_
  refine⟨?_,rfl⟩
  rfl
 intro hc
 have hb2:b=true:=by cases b<;>simp_all
 have hs1:sb=true:=by cases sb<;>simp_all
 obtain⟨b1,b2,b3⟩:=hb1 hb2
 obtain⟨m1,m2⟩:=hsz hs1
 try refine nv ?_
 refine qQ [] (ZZ l (by omega) (adn b2 b3)) ?_
 rintro r st' ⟨⟨d,rfl,hB⟩,rfl⟩<;>refine qU ?_
 obtain⟨o1,o2,o3⟩:=hB.ok
 have hA:=WA d hB.good o1 o2 hB.adq hB.ady m m1 m2
 have hR:=X9 d hB.good o1 o2 hB.rc (fun v hv=>(hB.adq v hv).2) m m1 m2
 have hfl:=CW o1 m (jm d)
 have hpl:=Bj d
 have hF:QR d m=(jm d).flatMap (oO d m):=rfl
 rw[←hF] at hfl
 obtain⟨ts,e,h1,h2,hlen⟩:∃ts e,AC Tryz.prog 11 [sH d,dZ m] [] (fun r st=>r= .tup [Lc ts,pI e]∧st=[])∧AC Tryz.prog 12 [sH d,dZ m] [] (fun r st=>r= .tup [Lc ts,pI e]∧st=[])∧ts.length≤1000000:=by
  by_cases hM:uN m
  ·refine⟨QR d m,0,hA.mono fun r st h=>⟨?_,h.2⟩,hR.mono fun r st h=>⟨?_,h.2⟩,by omega⟩<;>(rcases h.1 with h|h;exact h.2;exact absurd hM h.1)
  ·refine⟨[],151,hA.mono fun r st h=>⟨?_,h.2⟩,hR.mono fun r st h=>⟨?_,h.2⟩,by simp⟩<;>(rcases h.1 with h|h;exact absurd h.1 hM;exact h.2)
 clear hA hR hfl hF
 (repeat (first|refine nv ?_|refine cf (h1) ?_|refine cf (h2) ?_))
 refine af ?_ ?_
 ·intro h;simp at h
 intro _
 try refine nv ?_
 refine ag (ι:=Nat) (I:=fun k=>⟨60,[(6,UC ts),(8,UC ts),(45,I .i64 ts.length),(46,I .i64 k)],[]⟩)
  (Inv:=fun k=>k≤ts.length) (μ:=fun k=>ts.length-k) 0 (by simp) ?_ ?_
 ·exact aW
 intro k hk
 try refine nv ?_
 refine af ?_ ?_
 ·intro hlt
  have hlt':k<ts.length:=by simpa using hlt
  obtain⟨x,hx1,he,htk⟩:=round ik ts k zTk hlt'
  try refine nv ?_
  refine dx ([]) @he ?_ ?_
  ·exact rC
  refine aJ ?_
  refine af ?_ ?_
  ·intro h;simp at h
  intro _
  try refine nv ?_
  refine⟨k+1,by omega,by omega,?_⟩
  exact aW
 intro hge
 (repeat (first|refine nv ?_|refine cf (haw) ?_))
 refine rA [] ?_
 refine⟨?_,rfl⟩
 rfl
end Go.Proofs.YtcpgicfphakdaaaGreatDoor
