/- A part of the proof. -/
import Derived.Test.YtcpgicfphakdaaaGreatDoorRC5
import Derived.Test.YtcpgicfphakdaaaGreatDoorRK5
set_option maxRecDepth 100000
set_option linter.all false
namespace Go.Proofs.YtcpgicfphakdaaaGreatDoor
open Go.Ab Go.ChangeShapes Go.WideShapes Go.ChangeAt Go.RowKit
theorem agq {H:Type} {enc:TypeId×Value→H} {w:World} {fuel:Nat} {cs:List Value} {d:DataW H} {p:List MemPlace} (h:tr enc w fuel 57 cs=some (d,p)):∃x:y9,aX (cO DC w) (Ai x) cs:=by
 obtain⟨hl,f,xs,hm,rfl⟩:=oO Tryz.underlying57 h
 rw[show Tryz.prog.cellsOf 57=7 by kernel_rfl] at hl
 obtain⟨c0,c1,c2,c3,c4,c5,c6,rfl⟩:∃c0 c1 c2 c3 c4 c5 c6,cs=[c0,c1,c2,c3,c4,c5,c6]:=by
  rcases cs with _|⟨a0,_|⟨a1,_|⟨a2,_|⟨a3,_|⟨a4,_|⟨a5,_|⟨a6,_|⟨az,cs⟩⟩⟩⟩⟩⟩⟩⟩
  all_goals simp at hl
  exact⟨_,_,_,_,_,_,_,rfl⟩
 obtain⟨_,hg⟩:=mX hm
 obtain⟨b0,g0,e0⟩:=hg 0 _ rfl
 rw[show(([c0,c1,c2,c3,c4,c5,c6]:List Value).drop 0).take (Tryz.prog.cellsOf 46)=[c0,c1,c2,c3] by rw[show Tryz.prog.cellsOf 46=4 by kernel_rfl];rfl] at e0
 obtain⟨b1,g1,e1⟩:=hg 1 _ rfl
 rw[show(([c0,c1,c2,c3,c4,c5,c6]:List Value).drop 4).take (Tryz.prog.cellsOf 49)=[c4,c5] by rw[show Tryz.prog.cellsOf 49=2 by kernel_rfl];rfl] at e1
 obtain⟨b2,g2,e2⟩:=hg 2 _ rfl
 rw[show(([c0,c1,c2,c3,c4,c5,c6]:List Value).drop 6).take (Tryz.prog.cellsOf 4)=[c6] by rw[show Tryz.prog.cellsOf 4=1 by kernel_rfl];rfl] at e2
 obtain⟨vb,vk,ve,vx,h0⟩:=abl e0
 simp only[ahw,ahu] at h0;obtain⟨rfl,rfl,rfl,rfl⟩:=h0
 obtain⟨vs,vz,h1⟩:=acy e1
 simp only[ahw,ahu] at h1;obtain⟨rfl,rfl⟩:=h1
 obtain⟨mv,h2⟩:=EW Tryz.underlying4 e2
 simp only[ahw,ahu] at h2;subst h2
 exact⟨⟨vb,vk,ve,vx,vs,vz,mv⟩, .cons (.v _ rfl) (.cons (.v _ rfl) (.cons (.v _ rfl) (.cons (.v _ rfl) (.cons (.v _ rfl) (.cons (.v _ rfl) (.cons (.v _ rfl) (.nil)))))))⟩
theorem Xv {H:Type} {enc:TypeId×Value→H} {W:World} {base:Nat} {v:Value} {d:DataW H} {p:List MemPlace} (h:DataW.Trod enc Tryz.prog W 0 (fun _=>true) true 57 v d p) (ok:Value.okWide Tryz.prog W .any base 57 v):
 ∃s:y9,aC (mkK (X.start KI cap0 DC [] W) KI cap0 [] W) (.agg ((Ai s).map C.d)) v:=by
 obtain⟨fuel,h⟩:=h
 obtain⟨s,rep⟩:=agq h
 refine⟨s,?_⟩
 rw[ag7 Tryz.underlying57 ok]
 have:=agx rep
 simpa using this
def mS (s:akK):Nat:=s.size+1
def mP (p:bV):Nat:=(p.parts.map mS).sum+2
def mH (x:fA):Nat:=max (max (mP x.left) (mP x.right)) ((x.holes.map mP).sum+1)
theorem ae8 {H:Type} {enc:TypeId×Value→H} {w:World} {fuel:Nat} {cs:List Value} {d:DataW H} {p:List MemPlace} (h:tr enc w fuel 74 cs=some (d,p)):∃(l:List akK) (v:Value),cs=[v]∧cO DC w (.ps 1 (l.map encS)) v∧(l.map mS).sum+1≤Rows.uptoBulk d:=
 tJ Tryz.underlying74 (by kernel_rfl) (by omega) (fun _ _ _ _ h=>by
  obtain⟨s,e,k⟩:=CP Tryz.underlying9 h
  subst e
  exact⟨s, .cons (.v _ rfl) .nil,by simp only[mS];omega⟩) h
theorem V4 {H:Type} {enc:TypeId×Value→H} {w:World} {fuel:Nat} {cs:List Value} {d:DataW H} {p:List MemPlace} (h:tr enc w fuel 76 cs=some (d,p)):∃(l:List akK) (v:Value) (b:Bool),cs=[v, .bool b]∧cO DC w (.ps 1 (l.map encS)) v∧mP ⟨l,b⟩≤Rows.uptoBulk d:=by
 obtain⟨hl,f,xs,hm,rfl⟩:=oO Tryz.underlying76 h
 rw[show Tryz.prog.cellsOf 76=2 by kernel_rfl] at hl
 obtain⟨c0,c1,rfl⟩:∃c0 c1,cs=[c0,c1]:=by
  rcases cs with _|⟨a0,_|⟨a1,_|⟨az,cs⟩⟩⟩
  all_goals simp at hl
  exact⟨_,_,rfl⟩
 obtain⟨_,hg⟩:=mX hm
 obtain⟨b0,g0,e0⟩:=hg 0 _ rfl
 rw[show(([c0,c1]:List Value).drop 0).take (Tryz.prog.cellsOf 74)=[c0] by rw[show Tryz.prog.cellsOf 74=1 by kernel_rfl];rfl] at e0
 obtain⟨b1,g1,e1⟩:=hg 1 _ rfl
 rw[show(([c0,c1]:List Value).drop 1).take (Tryz.prog.cellsOf 4)=[c1] by rw[show Tryz.prog.cellsOf 4=1 by kernel_rfl];rfl] at e1
 obtain⟨l,v,h0,q0,k0⟩:=ae8 e0
 simp only[ahw,ahu] at h0;subst h0
 have r0:=jd g0
 obtain⟨b,h1⟩:=EW Tryz.underlying4 e1
 simp only[ahw,ahu] at h1;subst h1
 exact⟨l,_,b,rfl,q0,by simp only[Rows.uptoBulk,mP];omega⟩
theorem afk {H:Type} {enc:TypeId×Value→H} {w:World} {fuel:Nat} {cs:List Value} {d:DataW H} {p:List MemPlace} (h:tr enc w fuel 77 cs=some (d,p)):∃(l:List bV) (v:Value),cs=[v]∧cO DC w (.ps 2 (l.map bU)) v∧(l.map mP).sum+1≤Rows.uptoBulk d:=
 tJ Tryz.underlying77 (by kernel_rfl) (by omega) (fun _ _ _ _ h=>by
  obtain⟨l,v,b,e,q,k⟩:=V4 h
  subst e
  exact⟨⟨l,b⟩, .cons q (.cons (.v _ rfl) .nil),k⟩) h
theorem agL {H:Type} {enc:TypeId×Value→H} {w:World} {fuel:Nat} {cs:List Value} {d:DataW H} {p:List MemPlace} (h:tr enc w fuel 79 cs=some (d,p)):∃x:fA,aX (cO DC w) (fV x) cs∧mH x≤Rows.uptoBulk d:=by
 obtain⟨hl,f,xs,hm,rfl⟩:=oO Tryz.underlying79 h
 rw[show Tryz.prog.cellsOf 79=5 by kernel_rfl] at hl
 obtain⟨c0,c1,c2,c3,c4,rfl⟩:∃c0 c1 c2 c3 c4,cs=[c0,c1,c2,c3,c4]:=by
  rcases cs with _|⟨a0,_|⟨a1,_|⟨a2,_|⟨a3,_|⟨a4,_|⟨az,cs⟩⟩⟩⟩⟩⟩
  all_goals simp at hl
  exact⟨_,_,_,_,_,rfl⟩
 obtain⟨_,hg⟩:=mX hm
 obtain⟨b0,g0,e0⟩:=hg 0 _ rfl
 rw[show(([c0,c1,c2,c3,c4]:List Value).drop 0).take (Tryz.prog.cellsOf 76)=[c0,c1] by rw[show Tryz.prog.cellsOf 76=2 by kernel_rfl];rfl] at e0
 obtain⟨b1,g1,e1⟩:=hg 1 _ rfl
 rw[show(([c0,c1,c2,c3,c4]:List Value).drop 2).take (Tryz.prog.cellsOf 76)=[c2,c3] by rw[show Tryz.prog.cellsOf 76=2 by kernel_rfl];rfl] at e1
 obtain⟨b2,g2,e2⟩:=hg 2 _ rfl
 rw[show(([c0,c1,c2,c3,c4]:List Value).drop 4).take (Tryz.prog.cellsOf 77)=[c4] by rw[show Tryz.prog.cellsOf 77=1 by kernel_rfl];rfl] at e2
 obtain⟨l0,v0,b0',h0,q0,k0⟩:=V4 e0
 simp only[ahw,ahu] at h0;obtain⟨rfl,rfl⟩:=h0
 have r0:=jd g0
 obtain⟨l1,v1,b1',h1,q1,k1⟩:=V4 e1
 simp only[ahw,ahu] at h1;obtain⟨rfl,rfl⟩:=h1
 have r1:=jd g1
 obtain⟨l2,v2,h2,q2,k2⟩:=afk e2
 simp only[ahw,ahu] at h2;subst h2
 have r2:=jd g2
 exact⟨⟨⟨l0,b0'⟩,⟨l1,b1'⟩,l2⟩, .cons q0 (.cons (.v _ rfl) (.cons q1 (.cons (.v _ rfl) (.cons q2 .nil)))),by simp only[Rows.uptoBulk,mH];omega⟩
theorem aeE {H:Type} {enc:TypeId×Value→H} {w:World} {fuel:Nat} {cs:List Value} {d:DataW H} {p:List MemPlace} (h:tr enc w fuel 23 cs=some (d,p)):∃(l:List fA) (v:Value),cs=[v]∧cO DC w (.ps 5 (l.map fV)) v∧(l.map mH).sum+1≤Rows.uptoBulk d:=
 tJ Tryz.underlying23 (by kernel_rfl) (by omega) (fun _ _ _ _ h=>agL h) h
theorem UC {H:Type} {enc:TypeId×Value→H} {W:World} {base:Nat} {v:Value} {d:DataW H} {p:List MemPlace} (h:DataW.Trod enc Tryz.prog W 0 (fun _=>true) true 23 v d p) (ok:Value.okWide Tryz.prog W .any base 23 v):
 ∃l:List fA,aC (mkK (X.start KI cap0 DC [] W) KI cap0 [] W) (iV l) v∧(l.map mH).sum+1≤Rows.uptoBulk d:=by
 obtain⟨fuel,h⟩:=h
 obtain⟨l,w0,e0,rep0,k0⟩:=aeE h
 rw[Qu Tryz.underlying23 ok] at e0
 simp only[ahw,ahu] at e0
 subst e0
 exact⟨l,wV rep0,k0⟩
theorem acL {n:Nat} {p:bV} (h:mP p≤n):PB n p:=by
 unfold mP at h
 refine⟨?_,fun s hs=>?_⟩
 ·have:=xZ (m:=mS) (fun x=>by simp[mS]) p.parts;omega
 ·have:=Ad (m:=mS) hs;simp only[mS] at this h;omega
theorem TU {α:Type} {m:α→Nat} (hm:∀x,2≤m x):∀l:List α,2*l.length≤(l.map m).sum
 |[]=>by simp
 |y::l=>by
  have:=TU hm l
  have:=hm y
  simp only[agV,List.sum_cons,List.length_cons];omega
theorem AU {l:List fA} {n:Nat} (h:(l.map mH).sum≤n):l.length≤n∧(∀e∈l,EB n e)∧∀e∈l,2*e.holes.length≤n:=by
 refine⟨?_,fun e he=>?_,fun e he=>?_⟩
 ·have:=xZ (m:=mH) (fun x=>by simp only[mH];omega) l;omega
 ·have h1:=ajo (Ad (m:=mH) he) h
  have h2:mP e.left≤n:=by simp only[mH] at h1;omega
  have h3:mP e.right≤n:=by simp only[mH] at h1;omega
  have h4:(e.holes.map mP).sum≤n:=by simp only[mH] at h1;omega
  refine⟨acL h2,acL h3,?_,fun x hx=>acL (ajo (Ad (m:=mP) hx) h4)⟩
  have:=xZ (m:=mP) (fun x=>by simp[mP]) e.holes;omega
 ·have h1:=ajo (Ad (m:=mH) he) h
  have h4:(e.holes.map mP).sum≤n:=by simp only[mH] at h1;omega
  have:=TU (m:=mP) (fun x=>by simp only[mP];omega) e.holes;omega
theorem afl {H:Type} {enc:TypeId×Value→H} {w:World} {fuel:Nat} {cs:List Value} {d:DataW H} {p:List MemPlace} (h:tr enc w fuel 55 cs=some (d,p)):∃(l:List Int) (v:Value),cs=[v]∧cO DC w (.ps 1 (l.map xW)) v∧(l.map fun _=>0).sum+1≤Rows.uptoBulk d:=
 tJ Tryz.underlying55 (by kernel_rfl) (by omega) (fun _ _ _ _ h=>by
  obtain⟨n,rfl⟩:=oW Tryz.underlying3 h
  exact⟨n, .cons (.v _ rfl) .nil,aj8 _⟩) h
theorem abq {H:Type} {enc:TypeId×Value→H} {W:World} {base:Nat} {v:Value} {d:DataW H} {p:List MemPlace} (h:DataW.Trod enc Tryz.prog W 0 (fun _=>true) true 55 v d p) (ok:Value.okWide Tryz.prog W .any base 55 v):
 ∃l:List Int,aC (mkK (X.start KI cap0 DC [] W) KI cap0 [] W) (.c (.d (.ps 1 (l.map xW)))) v:=by
 obtain⟨fuel,h⟩:=h
 obtain⟨l,w0,e0,rep0,k0⟩:=afl h
 rw[Qu Tryz.underlying55 ok] at e0
 simp only[ahw,ahu] at e0
 subst e0
 exact⟨l,wV rep0⟩
end Go.Proofs.YtcpgicfphakdaaaGreatDoor
