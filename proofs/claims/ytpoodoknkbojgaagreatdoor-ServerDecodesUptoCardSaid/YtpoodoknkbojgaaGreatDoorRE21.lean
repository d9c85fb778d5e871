/- A part of the proof. -/
import Derived.Test.YtpoodoknkbojgaaGreatDoorRE11
import Derived.Test.YtpoodoknkbojgaaGreatDoorRE20
set_option maxRecDepth 100000
set_option maxHeartbeats 8000000
set_option linter.all false
namespace Go.Proofs.YtpoodoknkbojgaaGreatDoor
section
open Go.Ab Go.ChangeShapes Go.WideShapes Go.ChangeAt Go.RowKit
theorem W9 {k:IntKind} {n:Int} (h:(Lit.int k n).wf=true):aV k n:=by
 cases k<;>simp[Lit.wf,aV,IntKind.min,IntKind.max,IntKind.signed,IntKind.bits] at h⊢ <;>omega
theorem dO {H:Type} {enc:TypeId×Value→H} {w:World} {t:TypeId} {k:IntKind} (hu:Tryz.prog.underlying t=some (.int k)) {fuel:Nat} {cs:List Value} {d:DataW H} {p:List MemPlace} (h:tr enc w fuel t cs=some (d,p)):∃n:Int,cs=[.int k n]∧aV k n:=by
 cases fuel with
 |zero=>simp[tr,DataW.trod] at h
 |succ fuel=>
  rcases cs with _|⟨c,_|⟨c2,cs⟩⟩
  ·simp[tr,DataW.trod,hu] at h
  ·cases c<;>simp[tr,DataW.trod,hu] at h
   obtain⟨⟨rfl,hw⟩,_⟩:=h
   exact⟨_,rfl,W9 hw⟩
  ·simp[tr,DataW.trod,hu] at h
theorem rE {H:Type} {enc:TypeId×Value→H} {w:World} {α:Type} {e:α→List D} {m:α→Nat} {I:α→Prop} {sz:Nat} {t E:TypeId} (hu:Tryz.prog.underlying t=some (.slice E)) (hsz:Tryz.prog.cellsOf E=sz) (h0:0<sz)
 (he:∀(fuel:Nat) (cs:List Value) (d:DataW H) (p:List MemPlace),tr enc w fuel E cs=some (d,p)→∃x:α,aj (aS uo w) (e x) cs∧m x≤Rows.uptoBulk d∧I x)
 {fuel:Nat} {cs:List Value} {d:DataW H} {p:List MemPlace} (h:tr enc w fuel t cs=some (d,p)):∃(l:List α) (v:Value),cs=[v]∧aS uo w (.ps sz (l.map e)) v∧(l.map m).sum+1≤Rows.uptoBulk d∧∀x∈l,I x:=by
 obtain⟨l,v,h1,h2,h3⟩:=Bj (α:={x // I x}) (e:=fun x=>e x.1) (m:=fun x=>m x.1) hu hsz h0 (fun f c d p h=>by
  obtain⟨x,a,b,i⟩:=he f c d p h
  exact⟨⟨x,i⟩,a,b⟩) h
 refine⟨l.map (·.1),v,h1,?_,?_,?_⟩
 ·rw[abl];exact h2
 ·rw[abl];exact h3
 ·intro x hx
  obtain⟨y,_,rfl⟩:=aaD.1 hx
  exact y.2
def mT (x:DT):Nat:=max (mP x.path) (mP x.frm)
def mU (x:yX):Nat:=max (mP x.left) (mP x.right)
def Z5 (s:Dx):Prop:=s.name.size≤2000000∧s.parent.size≤2000000∧s.paths.length≤2000000∧∀x∈s.paths,PB 2000000 x.path∧PB 2000000 x.frm
theorem MZ {n:Nat} {p:fZ} (h:mP p≤n):PB n p:=by
 unfold mP at h
 refine⟨?_,fun s hs=>?_⟩
 ·have:=qZ (m:=mS) (fun x=>by simp[mS]) p.parts;omega
 ·have:=xX (m:=mS) hs;simp only[mS] at this h;omega
theorem Tc {l:List DT} (h:(l.map mT).sum≤1048576):l.length≤2000000∧∀x∈l,PB 2000000 x.path∧PB 2000000 x.frm:=by
 refine⟨?_,fun x hx=>?_⟩
 ·have:=qZ (m:=mT) (fun x=>by simp only[mT,mP];omega) l;omega
 ·have h1:=aav (xX (m:=mT) hx) h
  simp only[mT] at h1
  exact⟨MZ (by omega),MZ (by omega)⟩
theorem Ti {l:List yX} (h:(l.map mU).sum≤1048576):l.length≤2000000∧∀x∈l,PB 2000000 x.left∧PB 2000000 x.right:=by
 refine⟨?_,fun x hx=>?_⟩
 ·have:=qZ (m:=mU) (fun x=>by simp only[mU,mP];omega) l;omega
 ·have h1:=aav (xX (m:=mU) hx) h
  simp only[mU] at h1
  exact⟨MZ (by omega),MZ (by omega)⟩
theorem RQ {l:List mV} (h:(l.map mE).sum≤1048576):l.length≤2000000∧∀e∈l,e.path.size≤2000000∧e.frm.size≤2000000:=by
 refine⟨?_,fun x hx=>?_⟩
 ·have:=qZ (m:=mE) (fun x=>by simp[mE]) l;omega
 ·have h1:=aav (xX (m:=mE) hx) h
  simp only[mE] at h1;omega
theorem Uc {l:List iI} (h:(l.map mR).sum≤1048576):l.length≤2000000∧∀e∈l,e.frm.size≤2000000∧e.to.size≤2000000:=by
 refine⟨?_,fun x hx=>?_⟩
 ·have:=qZ (m:=mR) (fun x=>by simp[mR]) l;omega
 ·have h1:=aav (xX (m:=mR) hx) h
  simp only[mR] at h1;omega
theorem UE {H:Type} {enc:TypeId×Value→H} {w:World} {fuel:Nat} {cs:List Value} {d:DataW H} {p:List MemPlace} (h:tr enc w fuel 44 cs=some (d,p)):∃(a:Int) (b c e:Bool),cs=[.int .i64 a, .bool b, .bool c, .bool e]∧aV .i64 a:=by
 obtain⟨hl,f,xs,hm,rfl⟩:=gZ Tryz.underlying44 h
 rw[show Tryz.prog.cellsOf 44=4 by kernel_rfl] at hl
 obtain⟨c0,c1,c2,c3,rfl⟩:∃c0 c1 c2 c3,cs=[c0,c1,c2,c3]:=by
  rcases cs with _|⟨a0,_|⟨a1,_|⟨a2,_|⟨a3,_|⟨az,cs⟩⟩⟩⟩⟩
  all_goals simp at hl
  exact⟨_,_,_,_,rfl⟩
 obtain⟨_,hg⟩:=gU hm
 obtain⟨b0,g0,e0⟩:=hg 0 _ rfl
 rw[show(([c0,c1,c2,c3]:List Value).drop 0).take (Tryz.prog.cellsOf 3)=[c0] by rw[show Tryz.prog.cellsOf 3=1 by kernel_rfl];rfl] at e0
 obtain⟨b1,g1,e1⟩:=hg 1 _ rfl
 rw[show(([c0,c1,c2,c3]:List Value).drop 1).take (Tryz.prog.cellsOf 4)=[c1] by rw[show Tryz.prog.cellsOf 4=1 by kernel_rfl];rfl] at e1
 obtain⟨b2,g2,e2⟩:=hg 2 _ rfl
 rw[show(([c0,c1,c2,c3]:List Value).drop 2).take (Tryz.prog.cellsOf 4)=[c2] by rw[show Tryz.prog.cellsOf 4=1 by kernel_rfl];rfl] at e2
 obtain⟨b3,g3,e3⟩:=hg 3 _ rfl
 rw[show(([c0,c1,c2,c3]:List Value).drop 3).take (Tryz.prog.cellsOf 4)=[c3] by rw[show Tryz.prog.cellsOf 4=1 by kernel_rfl];rfl] at e3
 obtain⟨a,h0,i0⟩:=dO Tryz.underlying3 e0
 simp only[aaf,aao] at h0;subst h0
 obtain⟨b,h1⟩:=uN Tryz.underlying4 e1
 simp only[aaf,aao] at h1;subst h1
 obtain⟨c,h2⟩:=uN Tryz.underlying4 e2
 simp only[aaf,aao] at h2;subst h2
 obtain⟨e,h3⟩:=uN Tryz.underlying4 e3
 simp only[aaf,aao] at h3;subst h3
 exact⟨a,b,c,e,rfl,i0⟩
theorem Vm {H:Type} {enc:TypeId×Value→H} {w:World} {fuel:Nat} {cs:List Value} {d:DataW H} {p:List MemPlace} (h:tr enc w fuel 47 cs=some (d,p)):∃(a b:Int),cs=[.int .u64 a, .int .i64 b]∧aV .u64 a∧aV .i64 b:=by
 obtain⟨hl,f,xs,hm,rfl⟩:=gZ Tryz.underlying47 h
 rw[show Tryz.prog.cellsOf 47=2 by kernel_rfl] at hl
 obtain⟨c0,c1,rfl⟩:∃c0 c1,cs=[c0,c1]:=by
  rcases cs with _|⟨a0,_|⟨a1,_|⟨az,cs⟩⟩⟩
  all_goals simp at hl
  exact⟨_,_,rfl⟩
 obtain⟨_,hg⟩:=gU hm
 obtain⟨b0,g0,e0⟩:=hg 0 _ rfl
 rw[show(([c0,c1]:List Value).drop 0).take (Tryz.prog.cellsOf 45)=[c0] by rw[show Tryz.prog.cellsOf 45=1 by kernel_rfl];rfl] at e0
 obtain⟨b1,g1,e1⟩:=hg 1 _ rfl
 rw[show(([c0,c1]:List Value).drop 1).take (Tryz.prog.cellsOf 3)=[c1] by rw[show Tryz.prog.cellsOf 3=1 by kernel_rfl];rfl] at e1
 obtain⟨a,h0,i0⟩:=dO Tryz.underlying45 e0
 simp only[aaf,aao] at h0;subst h0
 obtain⟨b,h1,i1⟩:=dO Tryz.underlying3 e1
 simp only[aaf,aao] at h1;subst h1
 exact⟨a,b,rfl,i0,i1⟩
theorem Ul {H:Type} {enc:TypeId×Value→H} {w:World} {fuel:Nat} {cs:List Value} {d:DataW H} {p:List MemPlace} (h:tr enc w fuel 51 cs=some (d,p)):∃x:iI,aj (aS uo w) (dM x) cs∧mR x≤Rows.uptoBulk d∧LH x:=by
 obtain⟨hl,f,xs,hm,rfl⟩:=gZ Tryz.underlying51 h
 rw[show Tryz.prog.cellsOf 51=6 by kernel_rfl] at hl
 obtain⟨c0,c1,c2,c3,c4,c5,rfl⟩:∃c0 c1 c2 c3 c4 c5,cs=[c0,c1,c2,c3,c4,c5]:=by
  rcases cs with _|⟨a0,_|⟨a1,_|⟨a2,_|⟨a3,_|⟨a4,_|⟨a5,_|⟨az,cs⟩⟩⟩⟩⟩⟩⟩
  all_goals simp at hl
  exact⟨_,_,_,_,_,_,rfl⟩
 obtain⟨_,hg⟩:=gU hm
 obtain⟨b0,g0,e0⟩:=hg 0 _ rfl
 rw[show(([c0,c1,c2,c3,c4,c5]:List Value).drop 0).take (Tryz.prog.cellsOf 9)=[c0] by rw[show Tryz.prog.cellsOf 9=1 by kernel_rfl];rfl] at e0
 obtain⟨b1,g1,e1⟩:=hg 1 _ rfl
 rw[show(([c0,c1,c2,c3,c4,c5]:List Value).drop 1).take (Tryz.prog.cellsOf 3)=[c1] by rw[show Tryz.prog.cellsOf 3=1 by kernel_rfl];rfl] at e1
 obtain⟨b2,g2,e2⟩:=hg 2 _ rfl
 rw[show(([c0,c1,c2,c3,c4,c5]:List Value).drop 2).take (Tryz.prog.cellsOf 3)=[c2] by rw[show Tryz.prog.cellsOf 3=1 by kernel_rfl];rfl] at e2
 obtain⟨b3,g3,e3⟩:=hg 3 _ rfl
 rw[show(([c0,c1,c2,c3,c4,c5]:List Value).drop 3).take (Tryz.prog.cellsOf 9)=[c3] by rw[show Tryz.prog.cellsOf 9=1 by kernel_rfl];rfl] at e3
 obtain⟨b4,g4,e4⟩:=hg 4 _ rfl
 rw[show(([c0,c1,c2,c3,c4,c5]:List Value).drop 4).take (Tryz.prog.cellsOf 3)=[c4] by rw[show Tryz.prog.cellsOf 3=1 by kernel_rfl];rfl] at e4
 obtain⟨b5,g5,e5⟩:=hg 5 _ rfl
 rw[show(([c0,c1,c2,c3,c4,c5]:List Value).drop 5).take (Tryz.prog.cellsOf 3)=[c5] by rw[show Tryz.prog.cellsOf 3=1 by kernel_rfl];rfl] at e5
 obtain⟨s,h0,q0⟩:=lm Tryz.underlying9 e0
 simp only[aaf,aao] at h0;subst h0
 have r0:=bg g0
 obtain⟨n1,h1,i1⟩:=dO Tryz.underlying3 e1
 simp only[aaf,aao] at h1;subst h1
 obtain⟨n2,h2,i2⟩:=dO Tryz.underlying3 e2
 simp only[aaf,aao] at h2;subst h2
 obtain⟨t,h3,q3⟩:=lm Tryz.underlying9 e3
 simp only[aaf,aao] at h3;subst h3
 have r3:=bg g3
 obtain⟨n3,h4,i4⟩:=dO Tryz.underlying3 e4
 simp only[aaf,aao] at h4;subst h4
 obtain⟨n4,h5,i5⟩:=dO Tryz.underlying3 e5
 simp only[aaf,aao] at h5;subst h5
 have r9:=Fg (by omega:0<3) g0 g3
 exact⟨⟨s,n1,n2,t,n3,n4⟩, .cons (.v _ rfl) (.cons (.v _ rfl) (.cons (.v _ rfl) (.cons (.v _ rfl) (.cons (.v _ rfl) (.cons (.v _ rfl) (.nil)))))),by simp only[Rows.uptoBulk,mR];omega,by constructor<;>assumption⟩
theorem Uh {H:Type} {enc:TypeId×Value→H} {w:World} {fuel:Nat} {cs:List Value} {d:DataW H} {p:List MemPlace} (h:tr enc w fuel 49 cs=some (d,p)):∃x:mV,aj (aS uo w) (eu x) cs∧mE x≤Rows.uptoBulk d∧G8 x:=by
 obtain⟨hl,f,xs,hm,rfl⟩:=gZ Tryz.underlying49 h
 rw[show Tryz.prog.cellsOf 49=12 by kernel_rfl] at hl
 obtain⟨c0,c1,c2,c3,c4,c5,c6,c7,c8,c9,c10,c11,rfl⟩:∃c0 c1 c2 c3 c4 c5 c6 c7 c8 c9 c10 c11,cs=[c0,c1,c2,c3,c4,c5,c6,c7,c8,c9,c10,c11]:=by
  rcases cs with _|⟨a0,_|⟨a1,_|⟨a2,_|⟨a3,_|⟨a4,_|⟨a5,_|⟨a6,_|⟨a7,_|⟨a8,_|⟨a9,_|⟨a10,_|⟨a11,_|⟨az,cs⟩⟩⟩⟩⟩⟩⟩⟩⟩⟩⟩⟩⟩
  all_goals simp at hl
  exact⟨_,_,_,_,_,_,_,_,_,_,_,_,rfl⟩
 obtain⟨_,hg⟩:=gU hm
 obtain⟨b0,g0,e0⟩:=hg 0 _ rfl
 rw[show(([c0,c1,c2,c3,c4,c5,c6,c7,c8,c9,c10,c11]:List Value).drop 0).take (Tryz.prog.cellsOf 9)=[c0] by rw[show Tryz.prog.cellsOf 9=1 by kernel_rfl];rfl] at e0
 obtain⟨b1,g1,e1⟩:=hg 1 _ rfl
 rw[show(([c0,c1,c2,c3,c4,c5,c6,c7,c8,c9,c10,c11]:List Value).drop 1).take (Tryz.prog.cellsOf 3)=[c1] by rw[show Tryz.prog.cellsOf 3=1 by kernel_rfl];rfl] at e1
 obtain⟨b2,g2,e2⟩:=hg 2 _ rfl
 rw[show(([c0,c1,c2,c3,c4,c5,c6,c7,c8,c9,c10,c11]:List Value).drop 2).take (Tryz.prog.cellsOf 44)=[c2,c3,c4,c5] by rw[show Tryz.prog.cellsOf 44=4 by kernel_rfl];rfl] at e2
 obtain⟨b3,g3,e3⟩:=hg 3 _ rfl
 rw[show(([c0,c1,c2,c3,c4,c5,c6,c7,c8,c9,c10,c11]:List Value).drop 6).take (Tryz.prog.cellsOf 47)=[c6,c7] by rw[show Tryz.prog.cellsOf 47=2 by kernel_rfl];rfl] at e3
 obtain⟨b4,g4,e4⟩:=hg 4 _ rfl
 rw[show(([c0,c1,c2,c3,c4,c5,c6,c7,c8,c9,c10,c11]:List Value).drop 8).take (Tryz.prog.cellsOf 3)=[c8] by rw[show Tryz.prog.cellsOf 3=1 by kernel_rfl];rfl] at e4
 obtain⟨b5,g5,e5⟩:=hg 5 _ rfl
 rw[show(([c0,c1,c2,c3,c4,c5,c6,c7,c8,c9,c10,c11]:List Value).drop 9).take (Tryz.prog.cellsOf 9)=[c9] by rw[show Tryz.prog.cellsOf 9=1 by kernel_rfl];rfl] at e5
 obtain⟨b6,g6,e6⟩:=hg 6 _ rfl
 rw[show(([c0,c1,c2,c3,c4,c5,c6,c7,c8,c9,c10,c11]:List Value).drop 10).take (Tryz.prog.cellsOf 3)=[c10] by rw[show Tryz.prog.cellsOf 3=1 by kernel_rfl];rfl] at e6
 obtain⟨b7,g7,e7⟩:=hg 7 _ rfl
 rw[show(([c0,c1,c2,c3,c4,c5,c6,c7,c8,c9,c10,c11]:List Value).drop 11).take (Tryz.prog.cellsOf 3)=[c11] by rw[show Tryz.prog.cellsOf 3=1 by kernel_rfl];rfl] at e7
 obtain⟨s,h0,q0⟩:=lm Tryz.underlying9 e0
 simp only[aaf,aao] at h0;subst h0
 have r0:=bg g0
 obtain⟨n1,h1,i1⟩:=dO Tryz.underlying3 e1
 simp only[aaf,aao] at h1;subst h1
 obtain⟨vb,vk,ve,vx,h2,i2⟩:=UE e2
 simp only[aaf,aao] at h2;obtain⟨rfl,rfl,rfl,rfl⟩:=h2
 obtain⟨vs,vz,h3,i3,j3⟩:=Vm e3
 simp only[aaf,aao] at h3;obtain⟨rfl,rfl⟩:=h3
 obtain⟨n2,h4,i4⟩:=dO Tryz.underlying3 e4
 simp only[aaf,aao] at h4;subst h4
 obtain⟨t,h5,q5⟩:=lm Tryz.underlying9 e5
 simp only[aaf,aao] at h5;subst h5
 have r5:=bg g5
 obtain⟨n3,h6,i6⟩:=dO Tryz.underlying3 e6
 simp only[aaf,aao] at h6;subst h6
 obtain⟨n4,h7,i7⟩:=dO Tryz.underlying3 e7
 simp only[aaf,aao] at h7;subst h7
 have r9:=Fg (by omega:0<5) g0 g5
 exact⟨⟨s,n1,vb,vk,ve,vx,vs,vz,n2,t,n3,n4⟩, .cons (.v _ rfl) (.cons (.v _ rfl) (.cons (.v _ rfl) (.cons (.v _ rfl) (.cons (.v _ rfl) (.cons (.v _ rfl) (.cons (.v _ rfl) (.cons (.v _ rfl) (.cons (.v _ rfl) (.cons (.v _ rfl) (.cons (.v _ rfl) (.cons (.v _ rfl) (.nil)))))))))))),by simp only[Rows.uptoBulk,mE];omega,by constructor<;>assumption⟩
theorem QW {H:Type} {enc:TypeId×Value→H} {w:World} {fuel:Nat} {cs:List Value} {d:DataW H} {p:List MemPlace} (h:tr enc w fuel 26 cs=some (d,p)):∃(l:List mV) (v:Value),cs=[v]∧aS uo w (.ps 12 (l.map eu)) v∧(l.map mE).sum+1≤Rows.uptoBulk d∧∀x∈l,G8 x:=
 rE Tryz.underlying26 (by kernel_rfl) (by omega) (fun _ _ _ _ h=>Uh h) h
theorem Su {H:Type} {enc:TypeId×Value→H} {w:World} {fuel:Nat} {cs:List Value} {d:DataW H} {p:List MemPlace} (h:tr enc w fuel 27 cs=some (d,p)):∃(l:List iI) (v:Value),cs=[v]∧aS uo w (.ps 6 (l.map dM)) v∧(l.map mR).sum+1≤Rows.uptoBulk d∧∀x∈l,LH x:=
 rE Tryz.underlying27 (by kernel_rfl) (by omega) (fun _ _ _ _ h=>Ul h) h
theorem WT {H:Type} {enc:TypeId×Value→H} {w:World} {fuel:Nat} {cs:List Value} {d:DataW H} {p:List MemPlace} (h:tr enc w fuel 59 cs=some (d,p)):∃x:DT,aj (aS uo w) (eU x) cs∧mT x≤Rows.uptoBulk d∧aV .i64 x.kind:=by
 obtain⟨hl,f,xs,hm,rfl⟩:=gZ Tryz.underlying59 h
 rw[show Tryz.prog.cellsOf 59=5 by kernel_rfl] at hl
 obtain⟨c0,c1,c2,c3,c4,rfl⟩:∃c0 c1 c2 c3 c4,cs=[c0,c1,c2,c3,c4]:=by
  rcases cs with _|⟨a0,_|⟨a1,_|⟨a2,_|⟨a3,_|⟨a4,_|⟨az,cs⟩⟩⟩⟩⟩⟩
  all_goals simp at hl
  exact⟨_,_,_,_,_,rfl⟩
 obtain⟨_,hg⟩:=gU hm
 obtain⟨b0,g0,e0⟩:=hg 0 _ rfl
 rw[show(([c0,c1,c2,c3,c4]:List Value).drop 0).take (Tryz.prog.cellsOf 3)=[c0] by rw[show Tryz.prog.cellsOf 3=1 by kernel_rfl];rfl] at e0
 obtain⟨b1,g1,e1⟩:=hg 1 _ rfl
 rw[show(([c0,c1,c2,c3,c4]:List Value).drop 1).take (Tryz.prog.cellsOf 55)=[c1,c2] by rw[show Tryz.prog.cellsOf 55=2 by kernel_rfl];rfl] at e1
 obtain⟨b2,g2,e2⟩:=hg 2 _ rfl
 rw[show(([c0,c1,c2,c3,c4]:List Value).drop 3).take (Tryz.prog.cellsOf 55)=[c3,c4] by rw[show Tryz.prog.cellsOf 55=2 by kernel_rfl];rfl] at e2
 obtain⟨n,h0,i0⟩:=dO Tryz.underlying3 e0
 simp only[aaf,aao] at h0;subst h0
 obtain⟨l,lv,lb,h1,q1,k1⟩:=Gn e1
 simp only[aaf,aao] at h1;obtain⟨rfl,rfl⟩:=h1
 have r1:=bg g1
 obtain⟨m,mv,mb,h2,q2,k2⟩:=Gn e2
 simp only[aaf,aao] at h2;obtain⟨rfl,rfl⟩:=h2
 have r2:=bg g2
 exact⟨⟨n,⟨l,lb⟩,⟨m,mb⟩⟩, .cons (.v _ rfl) (.cons q1 (.cons (.v _ rfl) (.cons q2 (.cons (.v _ rfl) (.nil))))),by simp only[Rows.uptoBulk,mT];omega,i0⟩
theorem WP {H:Type} {enc:TypeId×Value→H} {w:World} {fuel:Nat} {cs:List Value} {d:DataW H} {p:List MemPlace} (h:tr enc w fuel 57 cs=some (d,p)):∃x:yX,aj (aS uo w) (dX x) cs∧mU x≤Rows.uptoBulk d∧True:=by
 obtain⟨hl,f,xs,hm,rfl⟩:=gZ Tryz.underlying57 h
 rw[show Tryz.prog.cellsOf 57=5 by kernel_rfl] at hl
 obtain⟨c0,c1,c2,c3,c4,rfl⟩:∃c0 c1 c2 c3 c4,cs=[c0,c1,c2,c3,c4]:=by
  rcases cs with _|⟨a0,_|⟨a1,_|⟨a2,_|⟨a3,_|⟨a4,_|⟨az,cs⟩⟩⟩⟩⟩⟩
  all_goals simp at hl
  exact⟨_,_,_,_,_,rfl⟩
 obtain⟨_,hg⟩:=gU hm
 obtain⟨b0,g0,e0⟩:=hg 0 _ rfl
 rw[show(([c0,c1,c2,c3,c4]:List Value).drop 0).take (Tryz.prog.cellsOf 4)=[c0] by rw[show Tryz.prog.cellsOf 4=1 by kernel_rfl];rfl] at e0
 obtain⟨b1,g1,e1⟩:=hg 1 _ rfl
 rw[show(([c0,c1,c2,c3,c4]:List Value).drop 1).take (Tryz.prog.cellsOf 55)=[c1,c2] by rw[show Tryz.prog.cellsOf 55=2 by kernel_rfl];rfl] at e1
 obtain⟨b2,g2,e2⟩:=hg 2 _ rfl
 rw[show(([c0,c1,c2,c3,c4]:List Value).drop 3).take (Tryz.prog.cellsOf 55)=[c3,c4] by rw[show Tryz.prog.cellsOf 55=2 by kernel_rfl];rfl] at e2
 obtain⟨b,h0⟩:=uN Tryz.underlying4 e0
 simp only[aaf,aao] at h0;subst h0
 obtain⟨l,lv,lb,h1,q1,k1⟩:=Gn e1
 simp only[aaf,aao] at h1;obtain⟨rfl,rfl⟩:=h1
 have r1:=bg g1
 obtain⟨m,mv,mb,h2,q2,k2⟩:=Gn e2
 simp only[aaf,aao] at h2;obtain⟨rfl,rfl⟩:=h2
 have r2:=bg g2
 exact⟨⟨b,⟨l,lb⟩,⟨m,mb⟩⟩, .cons (.v _ rfl) (.cons q1 (.cons (.v _ rfl) (.cons q2 (.cons (.v _ rfl) (.nil))))),by simp only[Rows.uptoBulk,mU];omega,trivial⟩
theorem U4 {H:Type} {enc:TypeId×Value→H} {w:World} {fuel:Nat} {cs:List Value} {d:DataW H} {p:List MemPlace} (h:tr enc w fuel 22 cs=some (d,p)):∃(l:List DT) (v:Value),cs=[v]∧aS uo w (.ps 5 (l.map eU)) v∧(l.map mT).sum+1≤Rows.uptoBulk d∧∀x∈l,aV .i64 x.kind:=
 rE Tryz.underlying22 (by kernel_rfl) (by omega) (fun _ _ _ _ h=>WT h) h
theorem UV {H:Type} {enc:TypeId×Value→H} {w:World} {fuel:Nat} {cs:List Value} {d:DataW H} {p:List MemPlace} (h:tr enc w fuel 25 cs=some (d,p)):∃(l:List yX) (v:Value),cs=[v]∧aS uo w (.ps 5 (l.map dX)) v∧(l.map mU).sum+1≤Rows.uptoBulk d∧∀x∈l,True:=
 rE Tryz.underlying25 (by kernel_rfl) (by omega) (fun _ _ _ _ h=>WP h) h
theorem Xl {H:Type} {enc:TypeId×Value→H} {w:World} {fuel:Nat} {cs:List Value} {d:DataW H} {p:List MemPlace} (h:tr enc w fuel 24 cs=some (d,p)):∃(x:Dx) (v:Value),cs=[.string x.name, .string x.parent,v]∧aS uo w (.ps 5 (x.paths.map eU)) v∧(Rows.uptoBulk d≤1048576→Z5 x)∧∀y∈x.paths,aV .i64 y.kind:=by
 obtain⟨hl,f,xs,hm,rfl⟩:=gZ Tryz.underlying24 h
 rw[show Tryz.prog.cellsOf 24=3 by kernel_rfl] at hl
 obtain⟨c0,c1,c2,rfl⟩:∃c0 c1 c2,cs=[c0,c1,c2]:=by
  rcases cs with _|⟨a0,_|⟨a1,_|⟨a2,_|⟨az,cs⟩⟩⟩⟩
  all_goals simp at hl
  exact⟨_,_,_,rfl⟩
 obtain⟨_,hg⟩:=gU hm
 obtain⟨b0,g0,e0⟩:=hg 0 _ rfl
 rw[show(([c0,c1,c2]:List Value).drop 0).take (Tryz.prog.cellsOf 9)=[c0] by rw[show Tryz.prog.cellsOf 9=1 by kernel_rfl];rfl] at e0
 obtain⟨b1,g1,e1⟩:=hg 1 _ rfl
 rw[show(([c0,c1,c2]:List Value).drop 1).take (Tryz.prog.cellsOf 9)=[c1] by rw[show Tryz.prog.cellsOf 9=1 by kernel_rfl];rfl] at e1
 obtain⟨b2,g2,e2⟩:=hg 2 _ rfl
 rw[show(([c0,c1,c2]:List Value).drop 2).take (Tryz.prog.cellsOf 22)=[c2] by rw[show Tryz.prog.cellsOf 22=1 by kernel_rfl];rfl] at e2
 obtain⟨s,h0,q0⟩:=lm Tryz.underlying9 e0
 simp only[aaf,aao] at h0;subst h0
 have r0:=bg g0
 obtain⟨t,h1,q1⟩:=lm Tryz.underlying9 e1
 simp only[aaf,aao] at h1;subst h1
 have r1:=bg g1
 obtain⟨l,lv,h2,q2,k2,i2⟩:=U4 e2
 simp only[aaf,aao] at h2;subst h2
 have r2:=bg g2
 refine⟨⟨s,t,l⟩,_,rfl,q2,fun hb=>?_,i2⟩
 simp only[Rows.uptoBulk] at hb
 have:=Tc (l:=l) (by omega)
 exact⟨by simp only;omega,by simp only;omega,this.1,this.2⟩
theorem WB {H:Type} {enc:TypeId×Value→H} {w:World} {fuel:Nat} {cs:List Value} {d:DataW H} {p:List MemPlace} (h:tr enc w fuel 29 cs=some (d,p)):∃x:cO,aj (aS uo w) (dZ x) cs∧DX x∧(Rows.uptoBulk d≤1048576→tJ x):=by
 obtain⟨hl,f,xs,hm,rfl⟩:=gZ Tryz.underlying29 h
 rw[show Tryz.prog.cellsOf 29=14 by kernel_rfl] at hl
 obtain⟨c0,c1,c2,c3,c4,c5,c6,c7,c8,c9,c10,c11,c12,c13,rfl⟩:∃c0 c1 c2 c3 c4 c5 c6 c7 c8 c9 c10 c11 c12 c13,cs=[c0,c1,c2,c3,c4,c5,c6,c7,c8,c9,c10,c11,c12,c13]:=by
  rcases cs with _|⟨a0,_|⟨a1,_|⟨a2,_|⟨a3,_|⟨a4,_|⟨a5,_|⟨a6,_|⟨a7,_|⟨a8,_|⟨a9,_|⟨a10,_|⟨a11,_|⟨a12,_|⟨a13,_|⟨az,cs⟩⟩⟩⟩⟩⟩⟩⟩⟩⟩⟩⟩⟩⟩⟩
  all_goals simp at hl
  exact⟨_,_,_,_,_,_,_,_,_,_,_,_,_,_,rfl⟩
 obtain⟨_,hg⟩:=gU hm
 obtain⟨b0,g0,e0⟩:=hg 0 _ rfl
 rw[show(([c0,c1,c2,c3,c4,c5,c6,c7,c8,c9,c10,c11,c12,c13]:List Value).drop 0).take (Tryz.prog.cellsOf 3)=[c0] by rw[show Tryz.prog.cellsOf 3=1 by kernel_rfl];rfl] at e0
 obtain⟨b1,g1,e1⟩:=hg 1 _ rfl
 rw[show(([c0,c1,c2,c3,c4,c5,c6,c7,c8,c9,c10,c11,c12,c13]:List Value).drop 1).take (Tryz.prog.cellsOf 9)=[c1] by rw[show Tryz.prog.cellsOf 9=1 by kernel_rfl];rfl] at e1
 obtain⟨b2,g2,e2⟩:=hg 2 _ rfl
 rw[show(([c0,c1,c2,c3,c4,c5,c6,c7,c8,c9,c10,c11,c12,c13]:List Value).drop 2).take (Tryz.prog.cellsOf 9)=[c2] by rw[show Tryz.prog.cellsOf 9=1 by kernel_rfl];rfl] at e2
 obtain⟨b3,g3,e3⟩:=hg 3 _ rfl
 rw[show(([c0,c1,c2,c3,c4,c5,c6,c7,c8,c9,c10,c11,c12,c13]:List Value).drop 3).take (Tryz.prog.cellsOf 9)=[c3] by rw[show Tryz.prog.cellsOf 9=1 by kernel_rfl];rfl] at e3
 obtain⟨b4,g4,e4⟩:=hg 4 _ rfl
 rw[show(([c0,c1,c2,c3,c4,c5,c6,c7,c8,c9,c10,c11,c12,c13]:List Value).drop 4).take (Tryz.prog.cellsOf 3)=[c4] by rw[show Tryz.prog.cellsOf 3=1 by kernel_rfl];rfl] at e4
 obtain⟨b5,g5,e5⟩:=hg 5 _ rfl
 rw[show(([c0,c1,c2,c3,c4,c5,c6,c7,c8,c9,c10,c11,c12,c13]:List Value).drop 5).take (Tryz.prog.cellsOf 3)=[c5] by rw[show Tryz.prog.cellsOf 3=1 by kernel_rfl];rfl] at e5
 obtain⟨b6,g6,e6⟩:=hg 6 _ rfl
 rw[show(([c0,c1,c2,c3,c4,c5,c6,c7,c8,c9,c10,c11,c12,c13]:List Value).drop 6).take (Tryz.prog.cellsOf 3)=[c6] by rw[show Tryz.prog.cellsOf 3=1 by kernel_rfl];rfl] at e6
 obtain⟨b7,g7,e7⟩:=hg 7 _ rfl
 rw[show(([c0,c1,c2,c3,c4,c5,c6,c7,c8,c9,c10,c11,c12,c13]:List Value).drop 7).take (Tryz.prog.cellsOf 9)=[c7] by rw[show Tryz.prog.cellsOf 9=1 by kernel_rfl];rfl] at e7
 obtain⟨b8,g8,e8⟩:=hg 8 _ rfl
 rw[show(([c0,c1,c2,c3,c4,c5,c6,c7,c8,c9,c10,c11,c12,c13]:List Value).drop 8).take (Tryz.prog.cellsOf 24)=[c8,c9,c10] by rw[show Tryz.prog.cellsOf 24=3 by kernel_rfl];rfl] at e8
 obtain⟨b9,g9,e9⟩:=hg 9 _ rfl
 rw[show(([c0,c1,c2,c3,c4,c5,c6,c7,c8,c9,c10,c11,c12,c13]:List Value).drop 11).take (Tryz.prog.cellsOf 25)=[c11] by rw[show Tryz.prog.cellsOf 25=1 by kernel_rfl];rfl] at e9
 obtain⟨b10,g10,e10⟩:=hg 10 _ rfl
 rw[show(([c0,c1,c2,c3,c4,c5,c6,c7,c8,c9,c10,c11,c12,c13]:List Value).drop 12).take (Tryz.prog.cellsOf 26)=[c12] by rw[show Tryz.prog.cellsOf 26=1 by kernel_rfl];rfl] at e10
 obtain⟨b11,g11,e11⟩:=hg 11 _ rfl
 rw[show(([c0,c1,c2,c3,c4,c5,c6,c7,c8,c9,c10,c11,c12,c13]:List Value).drop 13).take (Tryz.prog.cellsOf 27)=[c13] by rw[show Tryz.prog.cellsOf 27=1 by kernel_rfl];rfl] at e11
 obtain⟨n0,h0,i0⟩:=dO Tryz.underlying3 e0
 simp only[aaf,aao] at h0;subst h0
 obtain⟨s1,h1,q1⟩:=lm Tryz.underlying9 e1
 simp only[aaf,aao] at h1;subst h1
 have r1:=bg g1
 obtain⟨s2,h2,q2⟩:=lm Tryz.underlying9 e2
 simp only[aaf,aao] at h2;subst h2
 have r2:=bg g2
 obtain⟨s3,h3,q3⟩:=lm Tryz.underlying9 e3
 simp only[aaf,aao] at h3;subst h3
 have r3:=bg g3
 obtain⟨n4,h4,i4⟩:=dO Tryz.underlying3 e4
 simp only[aaf,aao] at h4;subst h4
 obtain⟨n5,h5,i5⟩:=dO Tryz.underlying3 e5
 simp only[aaf,aao] at h5;subst h5
 obtain⟨n6,h6,i6⟩:=dO Tryz.underlying3 e6
 simp only[aaf,aao] at h6;subst h6
 obtain⟨s7,h7,q7⟩:=lm Tryz.underlying9 e7
 simp only[aaf,aao] at h7;subst h7
 have r7:=bg g7
 obtain⟨st,stv,h8,q8,k8,i8⟩:=Xl e8
 simp only[aaf,aao] at h8;obtain⟨rfl,rfl,rfl⟩:=h8
 have r8:=bg g8
 obtain⟨l9,l9v,h9,q9,k9,i9⟩:=UV e9
 simp only[aaf,aao] at h9;subst h9
 have r9:=bg g9
 obtain⟨l10,l10v,h10,q10,k10,i10⟩:=QW e10
 simp only[aaf,aao] at h10;subst h10
 have r10:=bg g10
 obtain⟨l11,l11v,h11,q11,k11,i11⟩:=Su e11
 simp only[aaf,aao] at h11;subst h11
 have r11:=bg g11
 refine⟨⟨n0,s1,s2,s3,n4,n5,n6,s7,st,l9,l10,l11⟩, .cons (.v _ rfl) (.cons (.v _ rfl) (.cons (.v _ rfl) (.cons (.v _ rfl) (.cons (.v _ rfl) (.cons (.v _ rfl) (.cons (.v _ rfl) (.cons (.v _ rfl) (.cons (.v _ rfl) (.cons (.v _ rfl) (.cons q8 (.cons q9 (.cons q10 (.cons q11 (.nil)))))))))))))),⟨i0,i4,i5,i6,i8,i10,i11⟩,fun hb=>?_⟩
 simp only[Rows.uptoBulk] at hb
 have u8:=k8 (by omega)
 have u9:=Ti (l:=l9) (by omega)
 have u10:=RQ (l:=l10) (by omega)
 have u11:=Uc (l:=l11) (by omega)
 exact⟨by simp only;omega,by simp only;omega,by simp only;omega,by simp only;omega,u8.1,u8.2.1,u8.2.2.2,u9.2,u10.2,u11.2,u8.2.2.1,u9.1,u10.1,u11.1⟩
theorem NY {H:Type} {enc:TypeId×Value→H} {W:World} {base:Nat} {v:Value} {d:DataW H} {p:List MemPlace} (h:DataW.Trod enc Tryz.prog W 0 (fun _=>true) true 29 v d p) (ok:Value.okWide Tryz.prog W .any base 29 v):
 ∃x:cO,af (mkK (X.start DF cap0 uo [] W) DF cap0 [] W) (wK x) v∧DX x∧(Rows.uptoBulk d≤1048576→tJ x):=by
 obtain⟨fuel,h⟩:=h
 obtain⟨x,rep,k⟩:=WB h
 refine⟨x,?_,k⟩
 rw[X7 Tryz.underlying29 ok]
 have:=WH rep
 rw[Array.toArray_toList] at this
 exact this
end
section
open Go.Ab Tys
variable [Dr]
@[reducible] def pW (v:Int):Bool×List C:=(false,[.d (.v (.int .u64 v))])
omit [Dr] in
theorem WN:∀m,bL m=Yu m
 |[]=>rfl
 |_::_=>rfl
omit [Dr] in
theorem Yw (l:List UInt8) (s:Ds):wD l s=(((uD l s).1:Int),(uD l s).2):=by
 unfold wD uD takeD Yv
 split
 ·rfl
 ·cases uL (l.drop s.1) 0 0<;>rfl
def z23.kk:=p9 kB Tryz.ntmps23 lK rF kL pg oh tC Tryz.results23
open z23 in
theorem fB (l:List UInt8) (hl:l.length≤1000000000) (s:Ds) (hs:s.1≤l.length):AC Tryz.prog 23 [.c (.ptr 3000 0)] (bH l s) (fun r st=>r=I .i64 (iD l s).1∧st=bH l (iD l s).2):=by
 have hi:=WQ l s.1 hs hl
 obtain⟨v,nx,e,hres,hq⟩:∃(v:Int) (nx:Nat) (e:Int),Vq l s.1=[pI v,pI nx,pI e]∧Xv l (Zh (l.drop s.1)) v nx e:=by
  unfold Vq Zh
  cases uL (l.drop s.1) 0 0 with
  |none=>exact⟨0,0,_,rfl,VP _ _⟩
  |some q=>exact⟨_,_,_,rfl,rfl,rfl,rfl⟩
 rw[hres] at hi
 have hd:iD l s=Dy 0 v nx e s:=FO hq
 rw[hd]
 have ht:=Ry l s v nx e
 generalize Dy 0 v nx e s=g at ht⊢
 refine dI Tryz.func23 Tryz.ntmps23 fun x hx=>?_
 refine jk ?_
 refine gg ?_
 refine jk ?_
 refine dr ([(15, .tup [pI v,pI nx,pI e])]) ?_ ?_
 ·exact Fa @hi
 try refine nv ?_
 refine dh ((bH l s)) (ht) ?_
 rintro rv9 st' ⟨rfl,rfl⟩<;>refine di ?_
 try refine nv ?_
 refine rA ((bH l g.2)) ?_
 refine⟨?_,rfl⟩
 rfl
def YY.kk:=p9 kB Tryz.ntmps125 lK rF kL pg oh tC Tryz.results125
open YY in
theorem qA (l:List UInt8) (hl:l.length≤1000000000) (s:Ds) (hs:s.1≤l.length):AC Tryz.prog 125 [.c (.ptr 3000 0)] (bH l s) (fun r st=>r=I .u64 (wD l s).1∧st=bH l (wD l s).2):=by
 have hi:=FH l s.1 hs hl
 obtain⟨v,nx,e,hres,hq⟩:∃(v:Int) (nx:Nat) (e:Int),Pv l s.1=[pW v,pI nx,pI e]∧Xv l (Yv (l.drop s.1)) v nx e:=by
  unfold Pv Yv
  cases uL (l.drop s.1) 0 0 with
  |none=>exact⟨0,0,_,rfl,VP _ _⟩
  |some q=>exact⟨_,_,_,rfl,rfl,rfl,rfl⟩
 rw[hres] at hi
 have hd:wD l s=Dy 0 v nx e s:=FO hq
 rw[hd]
 have ht:=PW l s v nx e
 generalize Dy 0 v nx e s=g at ht⊢
 refine dI Tryz.func125 Tryz.ntmps125 fun x hx=>?_
 refine jk ?_
 refine gg ?_
 refine jk ?_
 refine dr ([(15, .tup [pW v,pI nx,pI e])]) ?_ ?_
 ·exact Fa @hi
 try refine nv ?_
 refine dh ((bH l s)) (ht) ?_
 rintro rv9 st' ⟨rfl,rfl⟩<;>refine di ?_
 try refine nv ?_
 refine rA ((bH l g.2)) ?_
 refine⟨?_,rfl⟩
 rfl
def Zi.kk:=p9 kB Tryz.ntmps126 lK rF kL pg oh tC Tryz.results126
open Zi in
theorem uB (l:List UInt8) (hl:l.length≤1000000000) (s:Ds) (hs:s.1≤l.length):AC Tryz.prog 126 [.c (.ptr 3000 0)] (bH l s) (fun r st=>r=B (bD l s).1∧st=bH l (bD l s).2):=by
 have hi:=U3 l s.1 hs hl
 obtain⟨v,nx,e,hres,hq⟩:∃(v:Bool) (nx:Nat) (e:Int),UQ l s.1=[pB v,pI nx,pI e]∧Xv l (Yu (l.drop s.1)) v nx e:=by
  unfold UQ
  rw[WN]
  cases Yu (l.drop s.1) with
  |none=>exact⟨false,0,_,rfl,XJ _⟩
  |some q=>exact⟨_,_,_,rfl,rfl,rfl,rfl⟩
 rw[hres] at hi
 have hd:bD l s=Dy false v nx e s:=FO hq
 rw[hd]
 have ht:=RP l s v nx e
 generalize Dy false v nx e s=g at ht⊢
 refine dI Tryz.func126 Tryz.ntmps126 fun x hx=>?_
 refine jk ?_
 refine gg ?_
 refine jk ?_
 refine dr ([(15, .tup [pB v,pI nx,pI e])]) ?_ ?_
 ·exact Fa @hi
 try refine nv ?_
 refine dh ((bH l s)) (ht) ?_
 rintro rv9 st' ⟨rfl,rfl⟩<;>refine di ?_
 try refine nv ?_
 refine rA ((bH l g.2)) ?_
 refine⟨?_,rfl⟩
 rfl
def z60.kk:=p9 kB Tryz.ntmps60 lK rF kL pg oh tC Tryz.results60
open z60 in
theorem gm (l:List UInt8) (hl:l.length≤1000000000) (s:Ds) (hs:s.1≤l.length):AC Tryz.prog 60 [.c (.ptr 3000 0)] (bH l s) (fun r st=>r=Str (tD l s).1∧st=bH l (tD l s).2):=by
 have hi:=TT l s.1 hs hl
 obtain⟨v,nx,e,hres,hq⟩:∃(v:abW) (nx:Nat) (e:Int),UR l s.1=[pS v,pI nx,pI e]∧Xv l (Wp (l.drop s.1)) v nx e:=by
  unfold UR
  cases Wp (l.drop s.1) with
  |none=>exact⟨noS,0,_,rfl,XA l s.1⟩
  |some q=>exact⟨_,_,_,rfl,rfl,rfl,rfl⟩
 rw[hres] at hi
 have hd:tD l s=Dy noS v nx e s:=FO hq
 rw[hd]
 have ht:=QA l s v nx e
 generalize Dy noS v nx e s=g at ht⊢
 refine dI Tryz.func60 Tryz.ntmps60 fun x hx=>?_
 refine jk ?_
 refine gg ?_
 refine jk ?_
 refine dr ([(15, .tup [pS v,pI nx,pI e])]) ?_ ?_
 ·exact Fa @hi
 try refine nv ?_
 refine dh ((bH l s)) (ht) ?_
 rintro rv9 st' ⟨rfl,rfl⟩<;>refine di ?_
 try refine nv ?_
 refine rA ((bH l g.2)) ?_
 refine⟨?_,rfl⟩
 rfl
end
section
open Go.Ab Go.ChangeShapes Go.WideShapes Go.ChangeAt Go.RowKit
theorem QV {H:Type} (d:DataW H):1≤Rows.uptoBulk d:=by
 cases d with
 |lit l=>cases l<;>simp[Rows.uptoBulk]
 |_=>simp[Rows.uptoBulk]
theorem VK {H:Type} {enc:TypeId×Value→H} {w:World} {fuel:Nat} {cs:List Value} {d:DataW H} {p:List MemPlace} (h:tr enc w fuel 5 cs=some (d,p)):∃y:UInt8,cs=[.int .u8 (y.toNat:Int)]:=by
 obtain⟨n,rfl,hn⟩:=dO Tryz.underlying5 h
 simp only[aV] at hn
 refine⟨UInt8.ofNat n.toNat,?_⟩
 rw[show(((UInt8.ofNat n.toNat).toNat:Nat):Int)=n by rw[UInt8.toNat_ofNat'];omega]
theorem Ru {H:Type} {enc:TypeId×Value→H} {w:World} {fuel:Nat} {cs:List Value} {d:DataW H} {p:List MemPlace} (h:tr enc w fuel 33 cs=some (d,p)):∃(l:List UInt8) (v:Value),cs=[v]∧aS uo w (.ps 1 (l.map bU)) v∧(l.map fun _=>1).sum+1≤Rows.uptoBulk d:=
 Bj Tryz.underlying33 (by kernel_rfl) (by omega) (fun _ _ d _ h=>by
  obtain⟨n,rfl⟩:=VK h
  exact⟨n, .cons (.v _ rfl) .nil,QV d⟩) h
theorem OD {H:Type} {enc:TypeId×Value→H} {W:World} {base:Nat} {v:Value} {d:DataW H} {p:List MemPlace} (h:DataW.Trod enc Tryz.prog W 0 (fun _=>true) true 33 v d p) (ok:Value.okWide Tryz.prog W .any base 33 v):
 ∃l:List UInt8,af (mkK (X.start DF cap0 uo [] W) DF cap0 [] W) (.c (.d (.ps 1 (l.map bU)))) v∧l.length+1≤Rows.uptoBulk d:=by
 obtain⟨fuel,h⟩:=h
 obtain⟨l,w0,e0,rep0,k0⟩:=Ru h
 rw[oI Tryz.underlying33 ok] at e0
 simp only[aaf,aao] at e0
 subst e0
 refine⟨l,rJ rep0,?_⟩
 have:∀l:List UInt8,(l.map fun _=>1).sum=l.length:=by
  intro l
  induction l with
  |nil=>rfl
  |cons a l ih=>simp[ih];omega
 rw[this] at k0
 exact k0
theorem WW {H:Type} {enc:TypeId×Value→H} {W:World} {base:Nat} {v:Value} {d:DataW H} {p:List MemPlace} (h:DataW.Trod enc Tryz.prog W 0 (fun _=>true) true 5 v d p) (ok:Value.okWide Tryz.prog W .any base 5 v):
 ∃y:UInt8,af (mkK (X.start DF cap0 uo [] W) DF cap0 [] W) (.c (.d (.v (.int .u8 (y.toNat:Int))))) v:=by
 obtain⟨fuel,h⟩:=h
 obtain⟨n,e⟩:=VK h
 rw[VA Tryz.underlying5 ok] at e
 simp only[aaf,aao] at e
 subst e
 exact⟨n,rJ (.v _ rfl)⟩
theorem TZ {H:Type} {enc:TypeId×Value→H} {W:World} {base:Nat} {v:Value} {d:DataW H} {p:List MemPlace} (h:DataW.Trod enc Tryz.prog W 0 (fun _=>true) true 3 v d p) (ok:Value.okWide Tryz.prog W .any base 3 v):
 ∃n:Int,af (mkK (X.start DF cap0 uo [] W) DF cap0 [] W) (I .i64 n) v:=by
 obtain⟨fuel,h⟩:=h
 obtain⟨n,e,_⟩:=dO Tryz.underlying3 h
 rw[VA Tryz.underlying3 ok] at e
 simp only[aaf,aao] at e
 subst e
 exact⟨n,rJ (.v _ rfl)⟩
end
end Go.Proofs.YtpoodoknkbojgaaGreatDoor
