/- A part of the proof. -/
import Derived.Test.YtpoodoknkbojgaaGreatDoorRE8
import Derived.Test.YtpoodoknkbojgaaGreatDoorRE10
import Derived.Test.YtpoodoknkbojgaaGreatDoorRE14
set_option linter.all false
namespace Go.Proofs.YtpoodoknkbojgaaGreatDoor
open Go.Ab Tys
variable [Ez]
theorem EN:aZ .i64 0:=by simp[aZ,IntKind.bits]
theorem QN {p:Prop} [Decidable p] {a b:iH} (ha:yj a) (hb:yj b):yj (if p then a else b):=by
 by_cases h:p
 ·rw[if_pos h];exact ha
 ·rw[if_neg h];exact hb
theorem yj.used {c:iH} (h:yj c):yj (dm c):=by
 unfold dm
 repeat' refine QN ?_ ?_
 all_goals exact⟨⟨h.i.kind,by first|exact h.i.number|exact EN,by first|exact h.i.fence|exact EN,by first|exact h.i.ticks|exact EN,
  by first|exact h.i.paths|simp[dF,lS],by first|exact h.i.edits|simp[dF],by first|exact h.i.recs|simp[dF]⟩,
  by first|exact h.s0|exact U8 _,by first|exact h.s1|exact U8 _,by first|exact h.s2|exact U8 _,by first|exact h.s3|exact U8 _,by first|exact h.s4|exact U8 _,by first|exact h.s5|exact U8 _,
  by first|exact h.paths|simp[dF,lS],by first|exact h.rules|simp[dF],by first|exact h.edits|simp[dF],by first|exact h.recs|simp[dF],
  by first|exact h.n1|simp[dF,lS],by first|exact h.n2|simp[dF],by first|exact h.n3|simp[dF],by first|exact h.n4|simp[dF]⟩
theorem DN.s {c:iH} (h:DN c) (i:uK c) (m:Sm c):yj c:=
 ⟨i,h.s0,h.s1,h.s2,h.s3,h.s4,h.s5,fun x hx=>⟨⟨Ur (m.2 x hx).1 (by omega),(h.paths x hx).1.2⟩,⟨Ur (m.2 x hx).2 (by omega),(h.paths x hx).2.2⟩⟩,
   fun x hx=>⟨⟨Ur (m.1 x hx).1 (by omega),(h.rules x hx).1.2⟩,⟨Ur (m.1 x hx).2 (by omega),(h.rules x hx).2.2⟩⟩,h.edits,h.recs,
   Ur h.n1 (by omega),Ur h.n2 (by omega),Ur h.n3 (by omega),Ur h.n4 (by omega)⟩
theorem PX {x y:List UInt8}:((⟨x.toArray⟩:VJ)=⟨y.toArray⟩)↔x=y:=
 ⟨fun h=>by simpa using h,fun h=>by rw[h]⟩
def z3.kk:=p13 kB kG kS Tryz.ntmps3 Tryz.underlying33 Tryz.underlying4 Tryz.underlying9 zH Pm Iw Rj AQ Tryz.results3
set_option maxRecDepth 100000 in
set_option maxHeartbeats 16000000 in
open z3 in
theorem uG (c d:iH) (hc:DN c) (hd:DN d) (ic:uK c) (jd:uK d):AC Tryz.prog 3 [uO c,uO d] [] (fun r st=>r=B true∧st=[]):=by
 have haw:=LU
 have hsm:=F6 [c,d] (by simp) (by intro x hx;simp only[TS,TV,Uk] at hx;rcases hx with rfl|rfl<;>assumption)
 have hxc:=fun m:Sm c=>zt c (hc.s ic m)
 have hxd:=fun m:Sm d=>zt d (hd.s jd m)
 have huc:=F9 c
 have hud:=F9 d
 have hsame:=fun(m:Sm c) (m2:Sm d)=>EG (dm c) (dm d) (hc.s ic m).used (hd.s jd m2).used
 have hun:=fun x y=>PU (x:=x) (y:=y) ic jd
 have hin:uO c= .agg ((iC c).map C.d):=rfl
 generalize dm c=uc at huc hsame hun
 generalize dm d=ud at hud hsame hun
 refine jH Tryz.func3 Tryz.ntmps3 fun x hx=>?_
 try refine nv ?_
 refine dD (aT (i:=11) (id:=11) (ys:=[iC c,iC d]) rfl rfl rfl) ?_
 refine jF ?_
 refine gQ [] (hsm) ?_
 rintro r st' ⟨⟨b,rfl,hb⟩,rfl⟩<;>refine gU ?_
 try refine nv ?_
 refine bV ?_ ?_
 ·intro _
  (repeat (first|refine nv ?_|refine cf (haw) ?_))
  refine rA [] ?_
  refine⟨?_,rfl⟩
  rfl
 intro h
 have hb:=hb (by simpa using h)
 have mc:=hb c (by simp)
 have md:=hb d (by simp)
 have hxc:=hxc mc
 have hxd:=hxd md
 have hsame:=hsame mc md
 clear h hb hsm
 cases ec:Ba c with
 |none=>
  simp only[ec] at hxc
  cases ed:Ba d with
  |none=>
   simp only[ed] at hxd
   (repeat (first|refine nv ?_|refine cf (hxc) ?_|refine cf (hxd) ?_))
   refine bV ?_ ?_
   rotate_left
   ·intro h;cases h
   intro _
   (repeat (first|refine nv ?_|refine cf (haw) ?_))
   refine rA [] ?_
   refine⟨?_,rfl⟩
   rfl
  |some y=>
   simp only[ed] at hxd
   (repeat (first|refine nv ?_|refine cf (hxc) ?_|refine cf (hxd) ?_))
   refine bV ?_ ?_
   rotate_left
   ·intro h;cases h
   intro _
   (repeat (first|refine nv ?_|refine cf (haw) ?_))
   refine rA [] ?_
   refine⟨?_,rfl⟩
   rfl
 |some z=>
  simp only[ec] at hxc
  cases ed:Ba d with
  |none=>
   simp only[ed] at hxd
   (repeat (first|refine nv ?_|refine cf (hxc) ?_|refine cf (hxd) ?_))
   refine bV ?_ ?_
   rotate_left
   ·intro h;cases h
   intro _
   (repeat (first|refine nv ?_|refine cf (haw) ?_))
   refine rA [] ?_
   refine⟨?_,rfl⟩
   rfl
  |some y=>
   simp only[ed] at hxd
   have hun:=hun z y ec ed
   (repeat (first|refine nv ?_|refine cf (hxc) ?_|refine cf (hxd) ?_))
   refine bV ?_ ?_
   ·intro h;cases h
   intro _
   refine mW ?_
   refine qf (wr:=false) [(33, .c (.d (.v (.string ⟨z.toArray⟩)))),(35, .c (.d (.v (.string ⟨y.toArray⟩)))),(38,uO uc),(40,uO ud),(41,B (decide (uc=ud))),(44,B true)] [(33,([],none)),(35,([],none))] (by kernel_rfl) (by simp only[qW.eq_1,qW.eq_2,mY.eq_def,BD.eq_def,mr.eq_def,Option.getD,kD,kk,Nat.reduceAdd,Nat.reduceLT,Nat.reduceEqDiff, ↓reduceIte,reduceCtorEq];first|done|rfl) ?_ (by kernel_rfl) ?_
   ·exact⟨⟨_,rfl,by kernel_rfl⟩,trivial,trivial,⟨_,rfl,by kernel_rfl⟩,trivial,trivial,Ui _,huc,by simp[ax,bC,ay],Ui _,hud,by simp[ax,bC,ay],hsame,by simp[ax,bC,ay],fun _=>⟨haw,(fun a h=>by cases h),trivial⟩,fun h=>h,fun _=>trivial,trivial⟩
   have hdec:(decide ((⟨z.toArray⟩:VJ)=⟨y.toArray⟩)==decide (uc=ud))=true:=by
    rw[beq_iff_eq]
    exact decide_eq_decide.2 (PX.trans hun)
   simp only[hdec,cond_true]
   try refine nv ?_
   refine rA [] ?_
   refine⟨?_,rfl⟩
   rfl
end Go.Proofs.YtpoodoknkbojgaaGreatDoor
