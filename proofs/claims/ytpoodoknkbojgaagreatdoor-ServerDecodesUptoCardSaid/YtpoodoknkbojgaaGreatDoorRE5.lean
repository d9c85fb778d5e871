/- A part of the proof. -/
import Derived.Test.YtpoodoknkbojgaaGreatDoorRE4
set_option maxRecDepth 100000
set_option maxHeartbeats 8000000
set_option linter.all false
namespace Go.Proofs.YtpoodoknkbojgaaGreatDoor
open Go.Ab Tys
variable [wJ]
theorem V6 (p:fZ) (w:Wt):w.2.length≤(wP p w).2.length:=by
 unfold wP
 split
 ·exact SY _ _
 ·exact aat _
def z117.kk:=p10 kB kG Tryz.ntmps117 iF rZ oZ vO lS DL Tryz.results117
open z117 in
theorem zQ (p:fZ) (hp:PS p):EC Tryz.prog 117 [aPat p] (wP p):=by
 have hf:=Lh p hp
 have hs:=AL p hp
 have hok:G7 p=decide (dR p=0):=rfl
 have hsz:=fun h1 h2=>oP (p:=p) h1 h2
 refine jU (V6 p) (by intro v hv;rw[aag] at hv;subst hv;exact oD _) fun w hl=>?_
 unfold wP at hl⊢
 generalize G7 p=op at*
 generalize gQ p=sp at*
 generalize dR p=cp at*
 generalize eF p=tx at*
 refine dI Tryz.func117 Tryz.ntmps117 fun x hx=>?_
 refine bZ ?_
 (repeat (first|refine nv ?_|refine cf (hf) ?_))
 refine so ([(15,B sp)]) ?_ ?_
 ·exact Fa @hs
 try refine nv ?_
 refine aU ?_ ?_
 ·intro h
  have hno:(op&&sp)=false:=by
   cases op
   ·rfl
   ·cases sp
    ·rfl
    ·have:=aaG hok.symm
     simp[this] at h
  rw[hno] at hl⊢
  simp only[aak,if_false] at hl⊢
  try refine nv ?_
  refine⟨⟨24,[],stB 2001 2002 (true,w.2)⟩,?_,?_⟩
  ·refine(jA (bid:=2000) (id:=2001) (id':=2002) (j:=0) (by decide) (by decide) rfl rfl rfl rfl rfl).trans ?_
   refine dQ ?_
   exact fM
  refine rV ((stB 2001 2002 (true,w.2))) ?_
  refine⟨?_,rfl⟩
  rfl
 ·intro h
  obtain⟨rfl,rfl⟩:op=true∧sp=true:=by
   by_cases e:cp=0
   ·subst e
    rw[hok]
    refine⟨by simp,?_⟩
    cases sp
    ·simp at h
    ·rfl
   ·simp[e] at h
  simp only[Bool.and_self,if_true] at hl⊢
  try refine nv ?_
  refine dh ((stA 2001 w)) ((gu tx (aav (hsz rfl rfl) (by omega))).ac 2001 2002 w (by decide) (by decide) (by decide) hl) ?_
  rintro rv9 st' ⟨rfl,rfl⟩<;>refine di ?_
  try refine nv ?_
  refine⟨⟨24,[],stB 2001 2002 (wT tx w)⟩,?_,?_⟩
  ·exact fM
  refine rN ((stB 2001 2002 (wT tx w))) ?_
  refine⟨?_,rfl⟩
  rfl
theorem XR (p:fZ) (w:Wt):w.2.length≤(wS p w).2.length:=by
 unfold wS
 split
 ·exact SY _ _
 ·exact V6 _ _
def z171.kk:=p13 kB kG Tryz.ntmps171 Tryz.underlying53 iF uA jF oJ vO CO lS sQ Tryz.results171
open z171 in
theorem Vj (p:fZ) (hp:PS p):EC Tryz.prog 171 [aPat p] (wS p):=by
 have hf:=zQ p hp
 refine jU (XR p) (by intro v hv;rw[aag] at hv;subst hv;exact oD _) fun w hl=>?_
 unfold wS at hl⊢
 obtain⟨ps,rs⟩:=p
 simp only at hl⊢
 refine dI Tryz.func171 Tryz.ntmps171 fun x hx=>?_
 refine bZ ?_
 try refine nv ?_
 refine aU ?_ ?_
 ·intro h
  have h':ps.length=0∧rs=false:=by
   by_cases e:ps.length=0
   ·refine⟨e,?_⟩
    simp only[e] at h
    cases rs
    ·rfl
    ·simp at h
   ·have e':¬((ps.length:Int)=0):=by omega
    simp only[aaE e'] at h;simp at h
  rw[if_pos h'] at hl⊢
  try refine nv ?_
  refine dh ((stA 2001 w)) ((gu noS (by decide)).ac 2001 2002 w (by decide) (by decide) (by decide) hl) ?_
  rintro rv9 st' ⟨rfl,rfl⟩<;>refine di ?_
  try refine nv ?_
  refine⟨⟨18,[],stB 2001 2002 (wT noS w)⟩,?_,?_⟩
  ·exact fM
  refine rV ((stB 2001 2002 (wT noS w))) ?_
  refine⟨?_,rfl⟩
  rfl
 ·intro h
  have h':¬(ps.length=0∧rs=false):=by
   rintro⟨e,rfl⟩
   have e':((ps.length:Int)=0):=by omega
   simp only[aaV e'] at h;simp at h
  rw[if_neg h'] at hl⊢
  try refine nv ?_
  refine dh ((stA 2001 w)) (hf.ac 2001 2002 w (by decide) (by decide) (by decide) hl) ?_
  rintro rv9 st' ⟨rfl,rfl⟩<;>refine di ?_
  try refine nv ?_
  refine⟨⟨18,[],stB 2001 2002 (wP ⟨ps,rs⟩ w)⟩,?_,?_⟩
  ·exact fM
  refine rN ((stB 2001 2002 (wP ⟨ps,rs⟩ w))) ?_
  refine⟨?_,rfl⟩
  rfl
@[reducible] def Ze (e:mV):AV:= .agg [.d (.v (.int .i64 e.base)), .d (.v (.bool e.kw)), .d (.v (.bool e.ex)), .d (.v (.bool e.xe))]
def Zd.kk:=p11 kB Tryz.ntmps118 Oq Ns LW L6 NR pg vO Vy Tryz.results118
open Zd in
theorem UU (e:mV) (he:G8 e):EC Tryz.prog 118 [Ze e] (wY e):=by
 have c1:=fG e.base he.base
 have c2:=uI e.kw
 have c3:=uI e.ex
 have c4:=uI e.xe
 have hmo:∀w,w.2.length≤(wY e w).2.length:=fun w=>by have m1:=c1.mo w;have m2:=c2.mo (wI e.base w);have m3:=c3.mo (wB e.kw (wI e.base w));have m4:=c4.mo (wB e.ex (wB e.kw (wI e.base w)));simp only[wY];omega
 refine jU hmo (by intro v hv;rw[aag] at hv;subst hv;exact oD [.v (.int .i64 e.base), .v (.bool e.kw), .v (.bool e.ex), .v (.bool e.xe)]) fun w hl=>?_
 have m1:=c1.mo w
 have m2:=c2.mo (wI e.base w)
 have m3:=c3.mo (wB e.kw (wI e.base w))
 have m4:=c4.mo (wB e.ex (wB e.kw (wI e.base w)))
 simp only[wY] at hl⊢
 refine dI Tryz.func118 Tryz.ntmps118 fun x hx=>?_
 refine bZ ?_
 try refine nv ?_
 refine dh ((stA 2001 w)) (c1.ac 2001 2003 w (by decide) (by decide) (by decide) (by omega)) ?_
 rintro rv9 st' ⟨rfl,rfl⟩<;>refine di ?_
 try refine nv ?_
 refine dh ((stA 2003 (wI e.base w))) (c2.ac 2003 2004 (wI e.base w) (by decide) (by decide) (by decide) (by omega)) ?_
 rintro rv9 st' ⟨rfl,rfl⟩<;>refine di ?_
 try refine nv ?_
 refine dh ((stA 2004 (wB e.kw (wI e.base w)))) (c3.ac 2004 2005 (wB e.kw (wI e.base w)) (by decide) (by decide) (by decide) (by omega)) ?_
 rintro rv9 st' ⟨rfl,rfl⟩<;>refine di ?_
 try refine nv ?_
 refine dh ((stA 2005 (wB e.ex (wB e.kw (wI e.base w))))) (c4.ac 2005 2002 (wB e.ex (wB e.kw (wI e.base w))) (by decide) (by decide) (by decide) (by omega)) ?_
 rintro rv9 st' ⟨rfl,rfl⟩<;>refine di ?_
 try refine nv ?_
 refine⟨⟨20,[],stB 2001 2002 (wB e.xe (wB e.ex (wB e.kw (wI e.base w))))⟩,?_,?_⟩
 ·exact fM
 refine rN ((stB 2001 2002 (wB e.xe (wB e.ex (wB e.kw (wI e.base w)))))) ?_
 refine⟨?_,rfl⟩
 rfl
theorem XY (v:Int) (hv:aV .u64 v):EC Tryz.prog 115 [I .u64 v] (wW v):=by
 have h:=qj v.toNat (by simp only[aV] at hv;omega)
 rw[show((v.toNat:Nat):Int)=v by simp only[aV] at hv;omega] at h
 exact h
def z54.kk:=p2 (p11 kB Tryz.ntmps54 Oq V3 Bq N9 Oj zV Nj NS Nq) (p11 Na zL NW LV pg Vy RS Yl Ll sQ Tryz.results54)
open z54 in
theorem NL (e:mV) (he:G8 e) (h1:e.path.size≤2000000) (h2:e.frm.size≤2000000):EC Tryz.prog 54 [Yj e] (lV e):=by
 have c1:=gu e.path h1
 have c2:=fG e.act he.act
 have c3:=UU e he
 have c4:=XY e.sum he.sum
 have c5:=fG e.size he.size
 have c6:=fG e.prev he.prev
 have c7:=gu e.frm h2
 have c8:=fG e.fnum he.fnum
 have c9:=fG e.fence he.fence
 have hmo:∀w,w.2.length≤(lV e w).2.length:=fun w=>by have m1:=c1.mo w;have m2:=c2.mo (wT e.path w);have m3:=c3.mo (wI e.act (wT e.path w));have m4:=c4.mo (wY e (wI e.act (wT e.path w)));have m5:=c5.mo (wW e.sum (wY e (wI e.act (wT e.path w))));have m6:=c6.mo (wI e.size (wW e.sum (wY e (wI e.act (wT e.path w)))));have m7:=c7.mo (wI e.prev (wI e.size (wW e.sum (wY e (wI e.act (wT e.path w))))));have m8:=c8.mo (wT e.frm (wI e.prev (wI e.size (wW e.sum (wY e (wI e.act (wT e.path w)))))));have m9:=c9.mo (wI e.fnum (wT e.frm (wI e.prev (wI e.size (wW e.sum (wY e (wI e.act (wT e.path w))))))));simp only[lV];omega
 refine jU hmo (by intro v hv;rw[aag] at hv;subst hv;exact oD _) fun w hl=>?_
 have m1:=c1.mo w
 have m2:=c2.mo (wT e.path w)
 have m3:=c3.mo (wI e.act (wT e.path w))
 have m4:=c4.mo (wY e (wI e.act (wT e.path w)))
 have m5:=c5.mo (wW e.sum (wY e (wI e.act (wT e.path w))))
 have m6:=c6.mo (wI e.size (wW e.sum (wY e (wI e.act (wT e.path w)))))
 have m7:=c7.mo (wI e.prev (wI e.size (wW e.sum (wY e (wI e.act (wT e.path w))))))
 have m8:=c8.mo (wT e.frm (wI e.prev (wI e.size (wW e.sum (wY e (wI e.act (wT e.path w)))))))
 have m9:=c9.mo (wI e.fnum (wT e.frm (wI e.prev (wI e.size (wW e.sum (wY e (wI e.act (wT e.path w))))))))
 simp only[lV] at hl⊢
 refine dI Tryz.func54 Tryz.ntmps54 fun x hx=>?_
 refine bZ ?_
 try refine nv ?_
 refine dh ((stA 2001 w)) (c1.ac 2001 2003 w (by decide) (by decide) (by decide) (by omega)) ?_
 rintro rv9 st' ⟨rfl,rfl⟩<;>refine di ?_
 try refine nv ?_
 refine dh ((stA 2003 (wT e.path w))) (c2.ac 2003 2004 (wT e.path w) (by decide) (by decide) (by decide) (by omega)) ?_
 rintro rv9 st' ⟨rfl,rfl⟩<;>refine di ?_
 try refine nv ?_
 refine dh ((stA 2004 (wI e.act (wT e.path w)))) (c3.ac 2004 2005 (wI e.act (wT e.path w)) (by decide) (by decide) (by decide) (by omega)) ?_
 rintro rv9 st' ⟨rfl,rfl⟩<;>refine di ?_
 try refine nv ?_
 refine dh ((stA 2005 (wY e (wI e.act (wT e.path w))))) (c4.ac 2005 2006 (wY e (wI e.act (wT e.path w))) (by decide) (by decide) (by decide) (by omega)) ?_
 rintro rv9 st' ⟨rfl,rfl⟩<;>refine di ?_
 try refine nv ?_
 refine dh ((stA 2006 (wW e.sum (wY e (wI e.act (wT e.path w)))))) (c5.ac 2006 2007 (wW e.sum (wY e (wI e.act (wT e.path w)))) (by decide) (by decide) (by decide) (by omega)) ?_
 rintro rv9 st' ⟨rfl,rfl⟩<;>refine di ?_
 try refine nv ?_
 refine dh ((stA 2007 (wI e.size (wW e.sum (wY e (wI e.act (wT e.path w))))))) (c6.ac 2007 2008 (wI e.size (wW e.sum (wY e (wI e.act (wT e.path w))))) (by decide) (by decide) (by decide) (by omega)) ?_
 rintro rv9 st' ⟨rfl,rfl⟩<;>refine di ?_
 try refine nv ?_
 refine dh ((stA 2008 (wI e.prev (wI e.size (wW e.sum (wY e (wI e.act (wT e.path w)))))))) (c7.ac 2008 2009 (wI e.prev (wI e.size (wW e.sum (wY e (wI e.act (wT e.path w)))))) (by decide) (by decide) (by decide) (by omega)) ?_
 rintro rv9 st' ⟨rfl,rfl⟩<;>refine di ?_
 try refine nv ?_
 refine dh ((stA 2009 (wT e.frm (wI e.prev (wI e.size (wW e.sum (wY e (wI e.act (wT e.path w))))))))) (c8.ac 2009 2010 (wT e.frm (wI e.prev (wI e.size (wW e.sum (wY e (wI e.act (wT e.path w))))))) (by decide) (by decide) (by decide) (by omega)) ?_
 rintro rv9 st' ⟨rfl,rfl⟩<;>refine di ?_
 try refine nv ?_
 refine dh ((stA 2010 (wI e.fnum (wT e.frm (wI e.prev (wI e.size (wW e.sum (wY e (wI e.act (wT e.path w)))))))))) (c9.ac 2010 2002 (wI e.fnum (wT e.frm (wI e.prev (wI e.size (wW e.sum (wY e (wI e.act (wT e.path w)))))))) (by decide) (by decide) (by decide) (by omega)) ?_
 rintro rv9 st' ⟨rfl,rfl⟩<;>refine di ?_
 try refine nv ?_
 refine⟨⟨42,[],stB 2001 2002 (wI e.fence (wI e.fnum (wT e.frm (wI e.prev (wI e.size (wW e.sum (wY e (wI e.act (wT e.path w)))))))))⟩,?_,?_⟩
 ·exact fM
 refine rN ((stB 2001 2002 (wI e.fence (wI e.fnum (wT e.frm (wI e.prev (wI e.size (wW e.sum (wY e (wI e.act (wT e.path w))))))))))) ?_
 refine⟨?_,rfl⟩
 rfl
def z56.kk:=p13 kB Tryz.ntmps56 BL zH ML Np zM NE Ol pg KR sQ Tryz.results56
open z56 in
theorem Oe (r:iI) (he:LH r) (h1:r.frm.size≤2000000) (h2:r.to.size≤2000000):EC Tryz.prog 56 [X5 r] (lT r):=by
 have c1:=gu r.frm h1
 have c2:=fG r.first he.first
 have c3:=fG r.last he.last
 have c4:=gu r.to h2
 have c5:=fG r.num he.num
 have c6:=fG r.how he.how
 have hmo:∀w,w.2.length≤(lT r w).2.length:=fun w=>by have m1:=c1.mo w;have m2:=c2.mo (wT r.frm w);have m3:=c3.mo (wI r.first (wT r.frm w));have m4:=c4.mo (wI r.last (wI r.first (wT r.frm w)));have m5:=c5.mo (wT r.to (wI r.last (wI r.first (wT r.frm w))));have m6:=c6.mo (wI r.num (wT r.to (wI r.last (wI r.first (wT r.frm w)))));simp only[lT];omega
 refine jU hmo (by intro v hv;rw[aag] at hv;subst hv;exact oD _) fun w hl=>?_
 have m1:=c1.mo w
 have m2:=c2.mo (wT r.frm w)
 have m3:=c3.mo (wI r.first (wT r.frm w))
 have m4:=c4.mo (wI r.last (wI r.first (wT r.frm w)))
 have m5:=c5.mo (wT r.to (wI r.last (wI r.first (wT r.frm w))))
 have m6:=c6.mo (wI r.num (wT r.to (wI r.last (wI r.first (wT r.frm w)))))
 simp only[lT] at hl⊢
 refine dI Tryz.func56 Tryz.ntmps56 fun x hx=>?_
 refine bZ ?_
 try refine nv ?_
 refine dh ((stA 2001 w)) (c1.ac 2001 2003 w (by decide) (by decide) (by decide) (by omega)) ?_
 rintro rv9 st' ⟨rfl,rfl⟩<;>refine di ?_
 try refine nv ?_
 refine dh ((stA 2003 (wT r.frm w))) (c2.ac 2003 2004 (wT r.frm w) (by decide) (by decide) (by decide) (by omega)) ?_
 rintro rv9 st' ⟨rfl,rfl⟩<;>refine di ?_
 try refine nv ?_
 refine dh ((stA 2004 (wI r.first (wT r.frm w)))) (c3.ac 2004 2005 (wI r.first (wT r.frm w)) (by decide) (by decide) (by decide) (by omega)) ?_
 rintro rv9 st' ⟨rfl,rfl⟩<;>refine di ?_
 try refine nv ?_
 refine dh ((stA 2005 (wI r.last (wI r.first (wT r.frm w))))) (c4.ac 2005 2006 (wI r.last (wI r.first (wT r.frm w))) (by decide) (by decide) (by decide) (by omega)) ?_
 rintro rv9 st' ⟨rfl,rfl⟩<;>refine di ?_
 try refine nv ?_
 refine dh ((stA 2006 (wT r.to (wI r.last (wI r.first (wT r.frm w)))))) (c5.ac 2006 2007 (wT r.to (wI r.last (wI r.first (wT r.frm w)))) (by decide) (by decide) (by decide) (by omega)) ?_
 rintro rv9 st' ⟨rfl,rfl⟩<;>refine di ?_
 try refine nv ?_
 refine dh ((stA 2007 (wI r.num (wT r.to (wI r.last (wI r.first (wT r.frm w))))))) (c6.ac 2007 2002 (wI r.num (wT r.to (wI r.last (wI r.first (wT r.frm w))))) (by decide) (by decide) (by decide) (by omega)) ?_
 rintro rv9 st' ⟨rfl,rfl⟩<;>refine di ?_
 try refine nv ?_
 refine⟨⟨28,[],stB 2001 2002 (wI r.how (wI r.num (wT r.to (wI r.last (wI r.first (wT r.frm w))))))⟩,?_,?_⟩
 ·exact fM
 refine rN ((stB 2001 2002 (wI r.how (wI r.num (wT r.to (wI r.last (wI r.first (wT r.frm w)))))))) ?_
 refine⟨?_,rfl⟩
 rfl
def z52.kk:=p11 kB Tryz.ntmps52 iF Ae FD wu uX vO lS KG Tryz.results52
open z52 in
theorem LZ (r:yX) (h1:PS r.left) (h2:PS r.right):EC Tryz.prog 52 [XB r] (lQ r):=by
 have c1:=uI r.excl
 have c2:=zQ r.left h1
 have c3:=zQ r.right h2
 have hmo:∀w,w.2.length≤(lQ r w).2.length:=fun w=>by have m1:=c1.mo w;have m2:=c2.mo (wB r.excl w);have m3:=c3.mo (wP r.left (wB r.excl w));simp only[lQ];omega
 refine jU hmo (by intro v hv;rw[aag] at hv;subst hv;exact oD _) fun w hl=>?_
 have m1:=c1.mo w
 have m2:=c2.mo (wB r.excl w)
 have m3:=c3.mo (wP r.left (wB r.excl w))
 simp only[lQ] at hl⊢
 refine dI Tryz.func52 Tryz.ntmps52 fun x hx=>?_
 refine bZ ?_
 try refine nv ?_
 refine dh ((stA 2001 w)) (c1.ac 2001 2003 w (by decide) (by decide) (by decide) (by omega)) ?_
 rintro rv9 st' ⟨rfl,rfl⟩<;>refine di ?_
 try refine nv ?_
 refine dh ((stA 2003 (wB r.excl w))) (c2.ac 2003 2004 (wB r.excl w) (by decide) (by decide) (by decide) (by omega)) ?_
 rintro rv9 st' ⟨rfl,rfl⟩<;>refine di ?_
 try refine nv ?_
 refine dh ((stA 2004 (wP r.left (wB r.excl w)))) (c3.ac 2004 2002 (wP r.left (wB r.excl w)) (by decide) (by decide) (by decide) (by omega)) ?_
 rintro rv9 st' ⟨rfl,rfl⟩<;>refine di ?_
 try refine nv ?_
 refine⟨⟨16,[],stB 2001 2002 (wP r.right (wP r.left (wB r.excl w)))⟩,?_,?_⟩
 ·exact fM
 refine rN ((stB 2001 2002 (wP r.right (wP r.left (wB r.excl w))))) ?_
 refine⟨?_,rfl⟩
 rfl
def Za.kk:=p11 kB Tryz.ntmps114 iF BK Fp vJ uU pg lS KP Tryz.results114
open Za in
theorem Oc (y:DT) (hi:aV .i64 y.kind) (h1:PS y.path) (h2:PS y.frm):EC Tryz.prog 114 [X0 y] (kU y):=by
 have c1:=fG y.kind hi
 have c2:=zQ y.path h1
 have c3:=Vj y.frm h2
 have hmo:∀w,w.2.length≤(kU y w).2.length:=fun w=>by have m1:=c1.mo w;have m2:=c2.mo (wI y.kind w);have m3:=c3.mo (wP y.path (wI y.kind w));simp only[kU];omega
 refine jU hmo (by intro v hv;rw[aag] at hv;subst hv;exact oD _) fun w hl=>?_
 have m1:=c1.mo w
 have m2:=c2.mo (wI y.kind w)
 have m3:=c3.mo (wP y.path (wI y.kind w))
 simp only[kU] at hl⊢
 refine dI Tryz.func114 Tryz.ntmps114 fun x hx=>?_
 refine bZ ?_
 try refine nv ?_
 refine dh ((stA 2001 w)) (c1.ac 2001 2003 w (by decide) (by decide) (by decide) (by omega)) ?_
 rintro rv9 st' ⟨rfl,rfl⟩<;>refine di ?_
 try refine nv ?_
 refine dh ((stA 2003 (wI y.kind w))) (c2.ac 2003 2004 (wI y.kind w) (by decide) (by decide) (by decide) (by omega)) ?_
 rintro rv9 st' ⟨rfl,rfl⟩<;>refine di ?_
 try refine nv ?_
 refine dh ((stA 2004 (wP y.path (wI y.kind w)))) (c3.ac 2004 2002 (wP y.path (wI y.kind w)) (by decide) (by decide) (by decide) (by omega)) ?_
 rintro rv9 st' ⟨rfl,rfl⟩<;>refine di ?_
 try refine nv ?_
 refine⟨⟨16,[],stB 2001 2002 (wS y.frm (wP y.path (wI y.kind w)))⟩,?_,?_⟩
 ·exact fM
 refine rN ((stB 2001 2002 (wS y.frm (wP y.path (wI y.kind w))))) ?_
 refine⟨?_,rfl⟩
 rfl
end Go.Proofs.YtpoodoknkbojgaaGreatDoor
