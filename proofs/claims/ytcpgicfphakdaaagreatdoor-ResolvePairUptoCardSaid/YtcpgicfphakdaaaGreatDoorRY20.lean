/- A part of the proof. -/
import Derived.Test.YtcpgicfphakdaaaGreatDoorRK14b
import Derived.Test.YtcpgicfphakdaaaGreatDoorRK25
set_option linter.all false
namespace Go.Proofs.YtcpgicfphakdaaaGreatDoor
section
open Go.Ab Tys
variable [zg]
def z11.kk:=p2 (p16 kB kG kS kM Tryz.ntmps11 Tryz.underlying32 Tryz.underlying74 iH wM Tu vG UZ uf jy IG Yw) (p16 Bz vP EY KW aeb mG ny FB DU rZ aeI abG Va jB Em Tryz.results11)
set_option maxRecDepth 100000 in
set_option maxHeartbeats 32000000 in
open z11 in
theorem Nu (d:aW) (hg:Good d.revs) (hN:d.revs.length≤512) (hrn:d.recs.length≤512) (hpt:Jw d) (hf:zq d) (m:List fA) (hm:m.length≤10000) (hb:∀e∈m,EB1 e):
 AC Tryz.prog 11 [lT d,iV m] [] (fun r st=>((Cc m∧r= .tup [Ht (xw d m),pI 0])∨(¬Cc m∧r= .tup [Ht [],pI 151]))∧st=[]):=by
 have hPm:∀p∈oz d,p.size≤100000∧∃v,aU d p=some v:=by
  intro p hp
  obtain⟨v,h1,h2⟩:=CZ hp
  rw[←h2]
  exact⟨(hpt v h1).2,DJ h1⟩
 have hPl:=J9 d
 have hF:xw d m=(oz d).flatMap (rC d m):=rfl
 have hck:=WP m hm hb
 have hfl:=fun l=>JI hN m l
 have hsn:=fun l p=> @ZR d m l p
 have hP:=fun L la me hla=>Zu d hN hpt L la me hla
 generalize oz d=P at hP hPm hPl hF
 generalize xw d m=R at hF
 refine df Tryz.func11 Tryz.ntmps11 fun x hx=>?_
 try refine nv ?_
 refine nJ [] (hck) ?_
 rintro r st' ⟨⟨ci,ce,rfl,hM⟩,rfl⟩<;>refine nP ?_
 try refine nv ?_
 refine aj ?_ ?_
 ·intro hc
  have hc':¬Cc m:=by rw[←hM];simpa using hc
  refine aZ ?_
  refine gg ?_
  refine bC (jf (i:=4) 11 rfl) ?_
  refine fE ?_
  try refine nv ?_
  refine rA [] ?_
  refine⟨?_,rfl⟩
  exact .inr ⟨hc',rfl⟩
 intro hc
 have hMO:Cc m:=by rw[←hM];simpa using hc
 have hMX:MX m:=⟨by omega,fun e he=>(hb e he).eb (hMO.ent e he).2,fun e he=>(hMO.ent e he).1⟩
 try refine nv ?_
 refine nJ [] (Ew d hg hN hrn) ?_
 rintro r st' ⟨⟨L,la,me,hrun,hla,rfl⟩,rfl⟩<;>refine nP ?_
 have hX:LX d L la me:=⟨hg,hN,hrun,hla,hpt,hf⟩
 have hI:=hrun.inv hg
 have hrl:L.revs=d.revs:=hI.revs
 have hfl2:L.fst.length=L.revs.length:=by rw[hI.lf,hrl]
 try refine nv ?_
 refine aj ?_ ?_
 ·intro h;cases h
 intro _
 (repeat (first|refine nv ?_|refine cf (hP L la me hla) ?_))
 refine mQ (kH (i:=11) (id:=100) (sz:=11) rfl rfl (by omega)) ?_
 refine fE ?_
 refine au (ι:=Nat) (I:=fun k=>⟨72,[(8, .c (.pp (uw L la me))),(10, .c (.ptr 10 0)),(11, .c (.ms 100 11 0 ((P.take k).flatMap (rC d m)).length)),(35,jr P),(36,I .i64 P.length),(37,I .i64 k)],
  [(10, .box [.pp (uw L la me), .d (.ps 5 (m.map fV))]),(100,ay 11 (((P.take k).flatMap (rC d m)).map ik))]⟩)
  (Inv:=fun k=>k≤P.length) (μ:=fun k=>P.length-k) 0 (by omega) ?_ ?_
 ·exact bQ
 intro k hk
 have hfk:=hfl (P.take k)
 have hfk2:(P.take k).length≤512:=by simp;omega
 try refine nv ?_
 refine aj ?_ ?_
 rotate_left
 ·intro hge
  have hk':k=P.length:=by have:¬k<P.length:=by simpa using hge
                          omega
  rw[hk',afu,←hF]
  rw[hk',afu,←hF] at hfk
  refine aZ ?_
  refine gg ?_
  refine bC (aY (i:=4) (id:=100) (ys:=R.map ik) rfl rfl (by simp)) ?_
  refine fE ?_
  try refine nv ?_
  refine rA [] ?_
  refine⟨?_,rfl⟩
  exact .inl ⟨hMO,rfl⟩
 intro hlt
 have hlt':k<P.length:=by simpa using hlt
 obtain⟨p,hp,he,htk⟩:=round encS P k noS hlt'
 obtain⟨hps,v,hv⟩:=hPm p (aem hp)
 have hsn:=hsn (P.take k) p
 rw[←htk] at hsn
 generalize hO1:(P.take (k+1)).flatMap (rC d m)=O1 at hsn
 generalize (P.take k).flatMap (rC d m)=O at hsn hfk
 rcases hla.last p with⟨_,a2⟩|⟨i0,v9,a1,a2,a3⟩
 ·rw[hv] at a2;cases a2
 rw[hv] at a3;cases a3
 have hvp:=(lJ hv).2
 subst hvp
 have hi0:=(adK.1 a2).1
 have hfw:=Lr L la me m hMX.len hMX.eb hMX.ck v.path (by omega)
 have hi02:(i0:Int)<(L.fst.length:Int):=by rw[hfl2,hrl];omega
 try refine nx @he ?_
 refine aZ ?_
 refine gy (p3 @nO @a1 @Option.map_some.{0,0}) ?_ ?_
 ·exact eQ @rJ
 have hoff:=ab7 (m:=m) hv
 generalize hbv:nG m v.path=bv at hfw hoff
 obtain⟨t,b⟩:=bv
 simp only at hfw hoff
 (repeat (first|refine nx (FP L.fst) ?_|refine cf (hfw) ?_))
 have hf5:(0≤L.fst.getD i0 0)↔¬v.act=5:=by
  constructor
  ·intro h h5;have:=(hI.f5 i0 v hi0 a2 h5).1;omega
  ·intro h;exact(hI.fm i0 v hi0 a2 h).1
 refine aj ?_ ?_
 rotate_left
 ·intro hc
  have hc':b=false∨v.act=5:=by
   cases b with
   |false=>exact .inl rfl
   |true=>
    by_cases h5:v.act=5
    ·exact .inr h5
    ·have h9:=hf5.2 h5
     simp at hc
     rw[adI] at h9
     omega
  rw[hoff hc',ajt] at hsn
  try refine nv ?_
  refine⟨k+1,by omega,by omega,?_⟩
  rw[hO1,hsn]
  exact bQ
 intro hc
 have hc':b=true∧0≤L.fst.getD i0 0:=by
  cases b with
  |false=>simp at hc
  |true=>exact⟨rfl,by simpa using hc⟩
 obtain⟨rfl,hf0⟩:=hc'
 have v5:=hf5.1 hf0
 obtain⟨is,hx,hin⟩:=acS hg hN hI a2 v5
 obtain⟨hp0,hlast⟩:=W9 hg hN hI a2 v5 hv hx hin
 have htl:=UM hN m v.path
 have hts:=Z4 d L la me hX m hMX i0 v is ⟨a2,v5,hx,hlast,hp0⟩ hv t hbv
 generalize rC d m v.path=TP at hsn hts htl
 have o2:∀l∈List.map (fun l=>List.map C.d l) (List.map ik TP),l.length=11:=by
  intro l hl
  obtain⟨y,hy,rfl⟩:=agh.1 hl
  obtain⟨z,_,rfl⟩:=agh.1 hy
  rfl
 (repeat (first|refine nv ?_|refine cf (hts) ?_))
 refine⟨k+1,by omega,by omega,?_⟩
 rw[hO1,hsn]
 exact uZ (fun i=>if i=100 then 69 else i)
end
section
open Go.Ab Tys
variable [zg]
def kZ:=And.intro @Uf.eq_1<|And.intro @Uf.eq_2<|And.intro @ES.eq_def<|And.intro @Rj.eq_def @Option.some.injEq.{0}
def Uu (d:aW) (c:iZ) (x:D×D×Int):Prop:=
 (∃n:aW,Yj d c n∧n.recs.length=d.recs.length+c.recs.length∧LG d c∧x=(.ps 12 (n.revs.map aA), .ps 6 (n.recs.map af),0))∨x=(.v (.slice none 0 0), .v (.slice none 0 0),110)
theorem YL {d:aW} (hg:Good d.revs) (hN:d.revs.length≤512) {c:iZ} {e:ou} (h:e.prev=bf d e.path):made c e=Fe d c e:=by
 unfold made
 rw[h,QA hg hN]
theorem Yf {d:aW} (hD:Pv d) {c:iZ} {r0:dZ} {s0:Rev} {f0:bJ} (hC:adX d c r0 s0 f0) (h0:d.revs≠[]) (hcr:∀r∈c.recs,IM r):
 AC Tryz.prog 21 [lT d,Px c] [] (fun r st=>(∃x,Uu d c x∧r= .tup [(true,[.d x.1, .d x.2.1]),pI x.2.2])∧st=[]):=by
 refine(VL hD.good hD.N hD.M hC h0 hD.rok hcr).mono ?_
 rintro r st ⟨h,rfl⟩
 refine⟨?_,rfl⟩
 rcases h with⟨rs,h1,h2,h3,rfl⟩|rfl
 ·refine⟨_, .inl ⟨⟨d.revs++c.edits.map (Fe d c),rs⟩,⟨?_,fun r=>by rw[h1.mem_iff,afs]⟩,by rw[h1.length_eq,afI],⟨h2,h3⟩,rfl⟩,rfl⟩
  show d.revs++c.edits.map (Fe d c)=d.revs++c.edits.map (made c)
  rw[ajZ (g:=made c) fun e he=>(YL hD.good hD.N (hC.ed e he).prev).symm]
 ·exact⟨_, .inr rfl,rfl⟩
theorem Xi (k:Int):0<(Lc k).length:=by
 unfold Lc
 split
 ·simp
 ·split<;>simp
end
end Go.Proofs.YtcpgicfphakdaaaGreatDoor
