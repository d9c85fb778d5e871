/- A part of the proof. -/
import Derived.Test.YtpoodoknkbojgaaGreatDoorRE28
set_option linter.all false
namespace Go.Proofs.YtpoodoknkbojgaaGreatDoor
open Go.Ab Tys
variable [wJ]
theorem Jr {α:Type} {m:α→Nat}:∀{l:List α} {x:α},x∈l→m x≤(l.map m).sum
 |a::l,x,h=>by
  rw[aax,List.sum_cons]
  rcases Z9.1 h with rfl|h
  ·omega
  ·have:=Jr (m:=m) h;omega
theorem yI.s {c:cO} (h:yI c):xW c:=by
 have tz:∀{s:abW},lG s→s.size≤2000000:=fun h=>aav h (by omega)
 have pz:∀{p:fZ},kQ p→PS p:=by
  intro p hp
  obtain⟨_,_,_,_,h5⟩:=oC.1 hp.1
  refine⟨by omega,fun s hs=>?_⟩
  have h1:=hp.2
  rw[gQ,aae] at h1
  have h2:=Jr (m:=fun x:abW=>x.size+1) hs
  omega
 have sz:∀{p:fZ},GI p→PS p:=by
  rintro p (rfl|hp)
  ·exact⟨aaA _,fun s hs=>by cases hs⟩
  ·exact pz hp
 obtain⟨s1,s2,s3,s4⟩:=h.ok 7
 obtain⟨r1,r2⟩:=h.ok 8
 obtain⟨e1,e2⟩:=h.ok 9
 obtain⟨v1,v2⟩:=h.ok 10
 exact⟨h.i,tz (h.ok 0),tz (h.ok 1),tz (h.ok 2),tz (h.ok 6),tz s1,tz s2,fun x hx=>⟨pz (s4 x hx).1,sz (s4 x hx).2⟩,fun x hx=>⟨pz (r2 x hx).1,pz (r2 x hx).2⟩,
  fun x hx=>⟨tz (e2 x hx).1,tz (e2 x hx).2⟩,fun x hx=>⟨tz (v2 x hx).1,tz (v2 x hx).2⟩,by omega,by omega,by omega,by omega⟩
theorem YU (a b:UInt8):bits .xor .u8 (a.toNat:Int) (b.toNat:Int)=((a ^^^ b).toNat:Int):=by
 have ha:=UInt8.toNat_lt a
 have hb:=UInt8.toNat_lt b
 have hc:=UInt8.toNat_lt (a ^^^ b)
 unfold bits
 have e:(BitVec.ofInt IntKind.u8.bits (a.toNat:Int) ^^^ BitVec.ofInt IntKind.u8.bits (b.toNat:Int)).toNat=(a ^^^ b).toNat:=by
  show(BitVec.ofInt 8 (a.toNat:Int) ^^^ BitVec.ofInt 8 (b.toNat:Int)).toNat=_
  rw[BitVec.toNat_xor,BitVec.toNat_ofInt,BitVec.toNat_ofInt,UInt8.toNat_xor,show(((a.toNat:Int)%((2^8:Nat):Int)).toNat)=a.toNat by omega,show(((b.toNat:Int)%((2^8:Nat):Int)).toNat)=b.toNat by omega]
 simp only[e]
 rw[IntKind.wrap_u8]
 omega
theorem Qg:xW df:=(PX (k:=0) (by simp[aV,IntKind.bits])).s
theorem NU {α β:Type} {R:α→β→Prop}:∀{l l':List α} {us:List β},aj (fun a a'=>∀u,R a u→R a' u) l l'→aj R l us→aj R l' us
 |[],_,_, .nil, .nil=> .nil
 |_::_,_,_, .cons h t, .cons h' t'=> .cons (h _ h') (NU t t')
theorem GG {k:K} (sz:Nat) {u:Value} (h:ai k (.d (.v (.slice none 0 0))) u):ai k (.d (.ps sz [])) u:=by
 have h:aS k.M k.w (.v (.slice none 0 0)) u:=h
 cases h
 exact aS.nil sz none 0
theorem RX:AC Tryz.prog 9 [wK df, .agg Xn] [] (fun r st=>r=B true∧st=[]):=by
 have h:=uq df df Qg Qg
 rw[show decide (df=df)=true from aaV rfl] at h
 refine Vr h (fun k us hu=>?_)
 obtain⟨u1,us1,rfl,h1,h2⟩:=hu.dw
 obtain⟨u2,us2,rfl,h3,h4⟩:=h2.dw
 refine .cons h1 (.cons ?_ h4)
 obtain⟨vs,rfl,hv⟩:=h3
 refine⟨vs,rfl,NU ?_ hv⟩
 exact .cons (fun _ h=>h) (.cons (fun _ h=>h) (.cons (fun _ h=>h) (.cons (fun _ h=>h) (.cons (fun _ h=>h) (.cons (fun _ h=>h) (.cons (fun _ h=>h) (.cons (fun _ h=>h) (.cons (fun _ h=>h) (.cons (fun _ h=>h)
  (.cons (fun _ h=>GG 5 h) (.cons (fun _ h=>GG 5 h) (.cons (fun _ h=>GG 12 h) (.cons (fun _ h=>GG 6 h) .nil)))))))))))))
def z4.kk:=p16 kB kG kS Tryz.ntmps4 Tryz.underlying33 Tryz.underlying9 qI Nl jJ nZ BI TU oh Jp sQ Tryz.results4
set_option maxRecDepth 100000 in
set_option maxHeartbeats 16000000 in
open z4 in
theorem xu (c:cO) (hc:tJ c) (ic:DX c) (bs:List UInt8) (hbs:bs.length≤2000000) (p:Int) (y:UInt8):
 AC Tryz.prog 4 [wK c, .c (.d (.ps 1 (bs.map bU))),I .i64 p, .c (.d (.v (.int .u8 (y.toNat:Int))))] [] (fun r st=>r=B true∧st=[]):=by
 have haw:=JE
 have hsm:=Ag [c] (by simp) (by intro x hx;rw[aag] at hx;subst hx;exact hc)
 have hxc:=fun m:Sm c=>xA c (hc.s ic m)
 refine dI Tryz.func4 Tryz.ntmps4 fun x hx=>?_
 try refine nv ?_
 refine dm (ay (i:=16) (id:=16) (ys:=[dZ c]) rfl rfl rfl) ?_
 refine dQ ?_
 refine dh [] (hsm) ?_
 rintro r st' ⟨⟨b,rfl,hb⟩,rfl⟩<;>refine di ?_
 try refine nv ?_
 refine aU ?_ ?_
 ·intro _
  (repeat (first|refine nv ?_|refine cf (haw) ?_))
  refine rA [] ?_
  refine⟨?_,rfl⟩
  rfl
 intro h
 have hb:b=true:=by
  cases b
  ·simp at h
  ·rfl
 have mc:=(‹b=true→∀c_1∈[c],Sm c_1› hb) c (by simp)
 have hbl:bs.length≤4000:=by
  subst hb
  have:¬(4000:Int)<bs.length:=by simpa using h
  omega
 clear h
 refine Kr ?_
 refine yA ?_
 refine LX ?_
 refine Vp (ι:=List UInt8) (fun b'=>⟨108,[(1, .c (.d (.ps 1 (b'.map bU))))],[]⟩) (fun b'=>b'.length≤1000001) ?_ ?_
 ·have hxc:=hxc mc
  cases ec:zl c with
  |none=>
   simp only[ec] at hxc
   (repeat (first|refine nv ?_|refine cf (hxc) ?_))
   refine aU ?_ ?_
   ·intro h;simp at h
   intro _
   try refine nv ?_
   refine⟨rfl,bs,by omega,?_⟩
   exact fM
  |some z=>
   have hz:=Ji ec
   simp only[ec] at hxc
   (repeat (first|refine nv ?_|refine cf (hxc) ?_))
   refine aU ?_ ?_
   rotate_left
   ·intro _
    try refine nv ?_
    refine⟨rfl,bs,by omega,?_⟩
    exact fM
   intro _
   try refine nv ?_
   refine aU ?_ ?_
   ·intro h
    obtain⟨h0,h1⟩:0≤p∧p<z.length:=by
     by_cases e:0≤p
     ·refine⟨e,?_⟩
      simpa[e] using h
     ·simp[e] at h
    obtain⟨k,rfl⟩:∃k:Nat,p=k:=⟨p.toNat,by omega⟩
    have hk:k<z.length:=by omega
    clear h
    obtain⟨v,hv,he,htk⟩:=round bU z k 0 hk
    have hg:(List.map (fun l=>List.map C.d l) (List.map bU z)).getD k []=[C.d (.v (.int .u8 (v.toNat:Int)))]:=by
     rw[aam,aaH,aaH,hv];rfl
    try refine nx @hg ?_
    refine mg (.inr (.inr rfl)) (by simp) rfl rfl ?_
    refine dQ ?_
    rw[YU]
    try refine nx @hg ?_
    refine⟨rfl,z.set k (v ^^^ y),by rw[List.length_set];omega,?_⟩
    refine(ay (i:=1) (id:=38) (ys:=(z.set k (v ^^^ y)).map bU) rfl (by rw[List.map_set,List.map_set];rfl) (by rw[aai,List.length_set])).trans ?_
    refine dQ ?_
    exact fM
   intro h
   try refine nv ?_
   refine aU ?_ ?_
   ·intro h0
    try refine nv ?_
    refine⟨rfl,z++[y],by rw[aan,List.length_singleton];omega,?_⟩
    refine(ay (i:=1) (id:=59) (ys:=(z++[y]).map bU) rfl (by rw[aa2,aa2];rfl) (by rw[aai,aan,List.length_singleton])).trans ?_
    refine dQ ?_
    exact fM
   intro h0
   try refine nv ?_
   refine aU ?_ ?_
   ·intro h1
    have hz1:0<z.length:=by have:(0:Int)<z.length:=(by simpa using h1);omega
    refine jk ?_
    refine dm (ay (i:=1) (id:=38) (ys:=z.map bU) rfl rfl (by rw[aai])) ?_
    refine dQ ?_
    try refine nv ?_
    have e:List.take ((z.length:Int)-1).toNat (List.map bU z)=List.map bU (z.take (z.length-1)):=by
     rw[List.map_take,show((z.length:Int)-1).toNat=z.length-1 by omega]
    refine⟨rfl,z.take (z.length-1),by rw[aaK];omega,?_⟩
    exact WF @e
   ·intro _
    try refine nv ?_
    refine⟨rfl,z,by omega,?_⟩
    refine(ay (i:=1) (id:=38) (ys:=z.map bU) rfl rfl (by rw[aai])).trans ?_
    refine dQ ?_
    exact fM
 intro b' hb'
 have hde:=Em b' (by omega)
 cases ed:LP b' with
 |none=>
  rw[ed] at hde
  simp only at hde
  (repeat (first|refine nv ?_|refine cf (hde) ?_))
  refine aU ?_ ?_
  rotate_left
  ·intro h;simp at h
  intro _
  try refine nv ?_
  refine so ([(80,B true)]) ?_ ?_
  ·exact Fa @RX
  try refine nv ?_
  refine so ([(83,B true)]) ?_ ?_
  ·exact Fa @haw
  try refine nv ?_
  refine rA [] ?_
  refine⟨?_,rfl⟩
  rfl
 |some d=>
  obtain⟨e1,e2,e3⟩:=Sj ed
  have hx:=xA d e3.s
  have hus:=GX d
  rw[e2] at hus
  have hsame:=uq d d e3.s e3.s
  rw[show decide (d=d)=true from aaV rfl] at hsame
  rw[e1] at hx
  rw[ed] at hde
  simp only at hde hx
  (repeat (first|refine nv ?_|refine cf (hde) ?_))
  refine aU ?_ ?_
  ·intro h;simp at h
  intro _
  (repeat (first|refine nv ?_|refine cf (hx) ?_))
  refine jk ?_
  refine uQ (wr:=false) [(94, .c (.d (.v (.string ⟨b'.toArray⟩)))),(96, .c (.d (.v (.string ⟨b'.toArray⟩)))),(102,wK d),(103,B true),(106,B true)] [(94,([],none)),(96,([],none))] (by kernel_rfl) (by simp only[vS.eq_1,vS.eq_2,nH.eq_def,DC.eq_def,nU.eq_def,Option.getD,kD,kk,Nat.reduceAdd,Nat.reduceLT,Nat.reduceEqDiff, ↓reduceIte,reduceCtorEq];first|done|rfl) ?_ (by kernel_rfl) ?_
  ·refine⟨trivial,fun _=>trivial,trivial,trivial,⟨_,rfl,by kernel_rfl⟩,trivial,trivial,fun _=>trivial,trivial,trivial,⟨_,rfl,by kernel_rfl⟩,?_⟩
   exact ZN @hus @hsame @haw
  try refine nv ?_
  refine rA [] ?_
  refine⟨?_,rfl⟩
  rfl
end Go.Proofs.YtpoodoknkbojgaaGreatDoor
