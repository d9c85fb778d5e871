/- A part of the proof. -/
import Derived.Test.YtpoodoknkbojgaaGreatDoorRP26
import Derived.Test.YtpoodoknkbojgaaGreatDoorCards
import Derived.Test.YtpoodoknkbojgaaGreatDoorTie
import Derived.WalkKit
import Derived.ProofKit
import Derived.OpenShut
import Derived.Carry
import Derived.Deep.DeepHandedRow
import Derived.Lib.LaidTab
import Derived.Test.YtpoodoknkbojgaaGreatDoorRE1
set_option maxRecDepth 100000
set_option maxHeartbeats 4000000
set_option linter.all false
namespace Go.Proofs.YtpoodoknkbojgaaGreatDoor
section
open Go.Ab Go.ChangeShapes Go.WideShapes Go.ChangeAt Go.RowKit
instance ZR:wJ where
 d:=false
 no:=rfl
theorem own:ownKnob Tryz.prog.godebug=none:=by kernel_rfl
theorem laidOut:laidOutB Tryz.prog=true:=by kernel_rfl
@[reducible] def DF:Nat→List Nat:=fun _=>[]
@[reducible] def cap0:Nat→Nat:=fun _=>0
theorem TV (b:Nat):¬MM DF [] b:=by
 rintro⟨id,o,h,_⟩;simp[Ab.get] at h
theorem PN (W:World):aP (X.start DF cap0 uo [] W) DF cap0 [] W:=by
 refine⟨?_,?_,?_,?_,?_,?_,?_,?_⟩
 ·intro id o h;simp[Ab.get] at h
 ·intro id id' o o' b h;simp[Ab.get] at h
 ·intro id o h;simp[Ab.get] at h
 ·intro b h;exact absurd h (TV b)
 ·intro b h;exact absurd h (TV b)
 ·exact⟨aat _,fun _ _ _=>rfl,rfl,rfl,rfl,fun _=>aat _⟩
 ·intro id h;simp[X.start,Ab.get] at h
 ·exact⟨fun b h=>False.elim h,fun b h=>False.elim h⟩
theorem rJ {W:World} {x:D} {v:Value} (h:aS uo W x v):aS (mkK (X.start DF cap0 uo [] W) DF cap0 [] W).M W x v:=
 h.stable (fun _ _ _=>rfl) (fun b hb=>by
  rcases hb with hb|hb
  ·exact absurd hb (TV b)
  ·exact False.elim hb)
theorem WH {W:World} {xs:List D} {vs:List Value} (h:aj (aS uo W) xs vs):af (mkK (X.start DF cap0 uo [] W) DF cap0 [] W) (.agg (xs.map C.d)) (.agg vs.toArray):=
 ⟨vs,rfl,aj.jO.2 (h.mono fun _ _ h=>rJ h)⟩
theorem QD {W W':World} {bl':Nat→List Nat} {cap':Nat→Nat} (h:aP (X.start DF cap0 uo [] W) bl' cap' [] W'):Below W.heap.size W W':=
 ⟨h.fr.os,h.fr.tape,h.fr.output,h.fr.size,fun k hk=>h.fr.heap k hk (TV k)⟩
theorem CQ {f:FuncId} {args:List AV} {us:List Value} {W:World} (h:AC Tryz.prog f args [] (fun r st=>r=B true∧st=[])) (ha:aj (af (mkK (X.start DF cap0 uo [] W) DF cap0 [] W)) args us):
 Calls Tryz.prog f us.toArray W fun e W'=>e= .returned (.bool true)∧Below W.heap.size W W':=
 (h.2 DF cap0 uo W us (PN W) ha).mono fun e W' ⟨r,st',bl',cap',v,he,⟨hr,hst⟩,_,hs,hv⟩=>by
   subst hr hst
   have:v= .bool true:=gG hv
   subst this
   exact⟨he,QD hs⟩
theorem oI {W:World} {base:Nat} {t e:TypeId} {v:Value} (hu:Tryz.prog.underlying t=some (.slice e)) (h:Value.okWide Tryz.prog W .any base t v):v.cells.toList=[v]:=by
 simp only[Value.okWide,hu,Cell.okWide] at h
 cases v<;>first|rfl|(simp[Cell.ok,hu] at h)
theorem VA {W:World} {base:Nat} {t:TypeId} {k:IntKind} {v:Value} (hu:Tryz.prog.underlying t=some (.int k)) (h:Value.okWide Tryz.prog W .any base t v):v.cells.toList=[v]:=by
 simp only[Value.okWide,hu,Cell.okWide] at h
 cases v<;>first|rfl|(simp[Cell.ok,hu] at h)
theorem X7 {W:World} {base:Nat} {t:TypeId} {fs:Array Field} {v:Value} (hu:Tryz.prog.underlying t=some (.struct fs)) (h:Value.okWide Tryz.prog W .any base t v):v= .agg v.cells:=by
 simp only[Value.okWide,hu] at h
 obtain⟨cs,rfl,_⟩:=h
 rfl
noncomputable def firstCells:Array Value:=(Go.Pinned.utf8FirstZ.map fun n:Nat=>Value.int .u8 (n:Int)).toArray
def I5:Array Value:=([128,191,160,191,128,159,144,191,128,143,0,0,0,0,0,0,0,0,0,0,0,0,0,0,0,0,0,0,0,0,0,0].map fun n:Nat=>Value.int .u8 (n:Int)).toArray
def lay (c:Array Value):Obj→Obj
 | .cells _ t frozen=> .cells c t frozen
 |o=>o
noncomputable def laidWorld (os:Os):World:=
 {World.holding Tryz.prog os ⟨#[], #[],[]⟩ with heap:=((World.holding Tryz.prog os ⟨#[], #[],[]⟩).heap.modify 1 (lay firstCells)).modify 2 (lay I5)}
end
section
open Go.Ab Tys
variable [Dr]
def ZB.kk:=p3 kB Tryz.ntmps111 Tryz.results111
open ZB in
theorem Df (v:Nat) (hv:v<2^64):AC Tryz.prog 111 [.c (.d (.v (.slice none 0 0))),I .u64 v] [] (fun r st=>r= .c (.ms 20 1 0 (iH v).length)∧st=[(20,aC 1 ((iH v).map bU))]):=by
 refine dI Tryz.func111 Tryz.ntmps111 fun x hx=>?_
 try refine nv ?_
 refine dh ([]) (yx v hv) ?_
 rintro rv9 st' ⟨⟨n,h1,h2,rfl⟩,rfl⟩<;>refine di ?_
 try refine nv ?_
 refine dh ([]) (mr n (by omega)) ?_
 rintro rv9 st' ⟨rfl,rfl⟩<;>refine di ?_
 try refine nv ?_
 refine dh ([(12,aC 1 (([]:List UInt8).map bU))]) (sS [] v hv (by simp)) ?_
 rintro rv9 st' ⟨rfl,rfl⟩<;>refine di ?_
 try refine nv ?_
 refine rA ([(20,aC 1 ((iH v).map bU))]) ?_
 refine⟨?_,rfl⟩
 rfl
omit [Dr] in
theorem Us {a:Nat} (h:a<18446744073709551616):a ^^^ 18446744073709551615=18446744073709551615-a:=by
 have e:=congrArg BitVec.toNat (BitVec.xor_allOnes (x:=BitVec.ofNat 64 a))
 rw[BitVec.toNat_xor,BitVec.toNat_not,BitVec.toNat_ofNat,BitVec.toNat_allOnes,Nat.mod_eq_of_lt (by omega)] at e
 exact e
omit [Dr] in
theorem ZC (v:Int) (h:aV .i64 v):bits .xor .u64 (IntKind.u64.wrap (IntKind.u64.wrap v*2^1)) (IntKind.u64.wrap (v/2^63))=((zz v:Nat):Int):=by
 simp only[aV] at h
 rw[show(2:Int)^1=2 by decide,show(2:Int)^63=9223372036854775808 by decide]
 unfold zz
 by_cases hv:0≤v
 ·rw[if_pos hv]
  have e1:IntKind.u64.wrap (IntKind.u64.wrap v*2)=(((2*v).toNat:Nat):Int):=by rw[IntKind.wrap_u64,IntKind.wrap_u64];omega
  have e2:IntKind.u64.wrap (v/9223372036854775808)=((0:Nat):Int):=by rw[IntKind.wrap_u64];omega
  rw[e1,e2,bits_xor_u64_nat _ _ (by omega) (by omega),Nat.xor_zero]
 ·rw[if_neg hv]
  have e1:IntKind.u64.wrap (IntKind.u64.wrap v*2)=(((2*v+18446744073709551616).toNat:Nat):Int):=by rw[IntKind.wrap_u64,IntKind.wrap_u64];omega
  have e2:IntKind.u64.wrap (v/9223372036854775808)=((18446744073709551615:Nat):Int):=by rw[IntKind.wrap_u64];omega
  rw[e1,e2,bits_xor_u64_nat _ _ (by omega) (by omega),Us (by omega)]
  omega
def z48.kk:=p6 kB Tryz.ntmps48 Tryz.underlying3 Tryz.underlying45 pg Tryz.results48
open z48 in
theorem Pe (v:Int) (hv:aV .i64 v):AC Tryz.prog 48 [.c (.d (.v (.slice none 0 0))),I .i64 v] [] (fun r st=>r= .c (.ms 20 1 0 (encI v).length)∧st=[(20,aC 1 ((encI v).map bU))]):=by
 refine dI Tryz.func48 Tryz.ntmps48 fun x hx=>?_
 refine jk ?_
 refine gg ?_
 refine jk ?_
 refine bu (wr:=false) 1 (by simp only[kk,Nat.reduceAdd,Nat.reduceLT,Nat.reduceEqDiff, ↓reduceIte,reduceCtorEq];first|done|rfl) (by first|exact trivial|(simp[All,aV];done)|(simp[All,aV];omega)) ?_
 refine uH (by simp) rfl Tryz.underlying3 Tryz.underlying45 ?_
 refine dQ ?_
 refine Qh (n:=1) (by simp) rfl rfl rfl (by decide) ?_
 refine dQ ?_
 refine bu (wr:=false) 0 (by simp only[kk,Nat.reduceAdd,Nat.reduceLT,Nat.reduceEqDiff, ↓reduceIte,reduceCtorEq];first|done|rfl) (by first|exact trivial|(simp[All,aV];done)|(simp[All,aV];omega)) ?_
 refine CG (n:=63) (by simp) rfl rfl rfl (by decide) ?_
 refine dQ ?_
 refine uH (by simp) rfl Tryz.underlying3 Tryz.underlying45 ?_
 refine dQ ?_
 refine mg (.inr (.inr rfl)) (by simp) rfl rfl ?_
 refine dQ ?_
 rw[ZC v hv]
 try refine nv ?_
 refine dh ([]) (Df (zz v) (PV hv)) ?_
 rintro rv9 st' ⟨rfl,rfl⟩<;>refine di ?_
 try refine nv ?_
 refine rA ([(20,aC 1 ((iH (zz v)).map bU))]) ?_
 refine⟨?_,rfl⟩
 rfl
def Zx.kk:=p11 kB kS Tryz.ntmps112 Tryz.underlying3 Tryz.underlying33 Tryz.underlying45 Tryz.underlying9 jJ pg Jp Tryz.results112
open Zx in
theorem KW (s:abW) (hs:s.size≤100000):AC Tryz.prog 112 [.c (.d (.v (.slice none 0 0))),Str s] [] (fun r st=>r= .c (.ms 19 1 0 (gK s).length)∧st=[(19,aC 1 ((gK s).map bU))]):=by
 have hl:=BA s.size
 refine dI Tryz.func112 Tryz.ntmps112 fun x hx=>?_
 try refine nv ?_
 refine dh ([]) (yx s.size (by omega)) ?_
 rintro rv9 st' ⟨⟨n,h1,h2,rfl⟩,rfl⟩<;>refine di ?_
 try refine nv ?_
 refine dh ([]) (mr (n+s.size) (by omega)) ?_
 rintro rv9 st' ⟨rfl,rfl⟩<;>refine di ?_
 try refine nv ?_
 refine dh ([(12,aC 1 (([]:List UInt8).map bU))]) (sS [] s.size (by omega) (by simp)) ?_
 rintro rv9 st' ⟨rfl,rfl⟩<;>refine di ?_
 refine bu (wr:=false) 0 (by simp only[kk,Nat.reduceAdd,Nat.reduceLT,Nat.reduceEqDiff, ↓reduceIte,reduceCtorEq];first|done|rfl) (by first|exact trivial|(simp[All,aV];done)|(simp[All,aV];omega)) ?_
 refine PR (id0:=20) (xs:=jX (iH s.size)) (by simp) rfl rfl (by simp[jX]) (by simp[Ab.get,jX]) (by decide) rfl jJ Jp rfl rfl Tryz.underlying9 (by omega) ?_
 refine dQ ?_
 rw[show jX (iH s.size)++jX s.data.toList=((gK s).map bU).map (fun l=>l.map C.d) by simp[jX,gK,bU,Function.comp_def]]
 try refine nv ?_
 refine rA ([(19,aC 1 ((gK s).map bU))]) ?_
 exact⟨by simp[gK],rfl⟩
def YX.kk:=p8 kB kS Tryz.ntmps172 Tryz.underlying33 jJ oh Jp Tryz.results172
open YX in
theorem LK (b:Bool):AC Tryz.prog 172 [.c (.d (.v (.slice none 0 0))),B b] [] (fun r st=>r= .c (.ms 20 1 0 (iC b).length)∧st=[(20,aC 1 ((iC b).map bU))]):=by
 refine dI Tryz.func172 Tryz.ntmps172 fun x hx=>?_
 refine bZ ?_
 try refine nv ?_
 refine aU ?_ ?_
 ·intro hb
  subst hb
  try refine nv ?_
  refine dh ([]) (mr 1 (by omega)) ?_
  rintro rv9 st' ⟨rfl,rfl⟩<;>refine di ?_
  try refine nv ?_
  refine⟨⟨12,[(4, .c (.ms 20 1 0 1))],[(20,aC 1 (([1]:List UInt8).map bU))]⟩,?_,?_⟩
  ·exact Ro (fun i=>if i=20 then 11 else i)
  refine rA ([(20,aC 1 (([1]:List UInt8).map bU))]) ?_
  refine⟨?_,rfl⟩
  rfl
 ·intro hb
  subst hb
  try refine nv ?_
  refine dh ([]) (mr 1 (by omega)) ?_
  rintro rv9 st' ⟨rfl,rfl⟩<;>refine di ?_
  try refine nv ?_
  refine⟨⟨12,[(4, .c (.ms 20 1 0 1))],[(20,aC 1 (([0]:List UInt8).map bU))]⟩,?_,?_⟩
  ·exact Ro (fun i=>if i=20 then 11 else i)
  refine rA ([(20,aC 1 (([0]:List UInt8).map bU))]) ?_
  refine⟨?_,rfl⟩
  rfl
end
end Go.Proofs.YtpoodoknkbojgaaGreatDoor
