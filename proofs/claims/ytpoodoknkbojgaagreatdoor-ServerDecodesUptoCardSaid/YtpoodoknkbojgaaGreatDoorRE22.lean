/- A part of the proof. -/
import Derived.Test.YtpoodoknkbojgaaGreatDoorRK9
import Derived.Test.YtpoodoknkbojgaaGreatDoorRE4
set_option linter.all false
namespace Go.Proofs.YtpoodoknkbojgaaGreatDoor
open Go.Ab Tys
variable [wJ]
theorem Jq (b:abW):En b=⟨split (zo b yt).1,(zo b yt).2⟩:=by
 unfold En zo
 split<;>rfl
theorem IK (b:abW):(zo b yt).1.size≤b.size:=by
 unfold zo
 split
 ·simp only[aby];omega
 ·exact aat _
theorem UI {s:abW} (h:s.size≤1000000):PB 1000001 (su s):=by
 unfold su
 rw[Jq]
 have h1:=IK (s.extract 2 s.size)
 rw[aby] at h1
 exact⟨aav (xH _) (by omega),fun x hx=>aav (pO _ _ x hx) (by omega)⟩
theorem Pi {s:abW} (h:s.size≤1000000):PS (gW s):=by
 by_cases e:jW s=0
 ·have ho:=(CZ e).1
  obtain⟨_,_,_,_,h5⟩:=oC.1 ho
  unfold gW at h5⊢
  rw[if_pos e] at h5⊢
  exact⟨by omega,fun x hx=>aav ((UI h).2 x hx) (by omega)⟩
 ·unfold gW
  rw[if_neg e]
  exact⟨aaA _,fun x hx=>by cases hx⟩
def Y4.kk:=p10 kB kS Tryz.ntmps216 iF jF oJ vO CO lS Tryz.results216
set_option maxRecDepth 100000 in
set_option maxHeartbeats 8000000 in
open Y4 in
theorem TE (s:abW) (hs:s.size≤1000000):AC Tryz.prog 216 [Str s] [] (fun r st=>r= .tup [Zp (gW s),pI (jW s)]∧st=[]):=by
 have hpre:=Oy s fA hs
 unfold gW jW
 cases h:hasPrefix s fA with
 |false=>
  have hc:DR s fA=(s,false):=by simp only[DR,h,aak,if_false]
  rw[hc] at hpre
  simp only[aak,if_false]
  rw[if_neg (by decide)]
  refine dI Tryz.func216 Tryz.ntmps216 fun x hx=>?_
  refine bZ ?_
  (repeat (first|refine nv ?_|refine cf (hpre) ?_))
  refine aU ?_ ?_
  rotate_left
  ·intro h;cases h
  intro _
  try refine nv ?_
  refine⟨_,aT 1 (bid:=2) (j:=0) rfl rfl,?_⟩
  refine dQ ?_
  refine rA [] ?_
  refine⟨?_,rfl⟩
  rfl
 |true=>
  have hc:DR s fA=(s.extract 2 s.size,true):=by simp only[DR,h,if_true];rfl
  rw[hc] at hpre
  simp only[if_true]
  have hb:(s.extract 2 s.size).size≤s.size:=by rw[aby];omega
  unfold su
  generalize s.extract 2 s.size=b at hpre hb⊢
  have hsuf:=PP b yt (by omega) (by decide)
  have hcsz:=IK b
  rw[Jq]
  generalize zo b yt=c at hsuf hcsz⊢
  obtain⟨c,rs⟩:=c
  simp only at hsuf hcsz⊢
  have hsp:=Qc c (by omega)
  have hpb:PB 4000000 ⟨split c,rs⟩:=⟨aav (xH c) (by omega),fun x hx=>aav (pO _ _ x hx) (by omega)⟩
  have hck:=BD ⟨split c,rs⟩ hpb
  clear hpb
  generalize split c=ps at hsp hck⊢
  generalize dR ⟨ps,rs⟩=e at hck⊢
  refine dI Tryz.func216 Tryz.ntmps216 fun x hx=>?_
  refine bZ ?_
  (repeat (first|refine nv ?_|refine cf (hpre) ?_))
  refine aU ?_ ?_
  ·intro h;cases h
  intro _
  (repeat (first|refine nv ?_|refine cf (hsuf) ?_|refine cf (hsp) ?_|refine cf (hck) ?_))
  refine aU ?_ ?_
  ·intro h
   have h':¬e=0:=by simpa using h
   rw[if_neg h']
   try refine nv ?_
   refine⟨_,aT 1 (bid:=2) (j:=0) rfl rfl,?_⟩
   refine dQ ?_
   refine rA [] ?_
   refine⟨?_,rfl⟩
   rfl
  intro h
  have h':e=0:=by simpa using h
  subst h'
  rw[if_pos rfl]
  try refine nv ?_
  refine⟨_,mZ.refl _ _,?_⟩
  refine rA [] ?_
  refine⟨?_,rfl⟩
  rfl
end Go.Proofs.YtpoodoknkbojgaaGreatDoor
