/- A part of the proof. -/
import Derived.Test.YtcpgicfphakdaaaGreatDoorRC5
import Derived.Test.YtcpgicfphakdaaaGreatDoorRX10
import Derived.Test.YtcpgicfphakdaaaGreatDoorRK27
set_option maxRecDepth 100000
set_option maxHeartbeats 16000000
set_option linter.all false
namespace Go.Proofs.YtcpgicfphakdaaaGreatDoor
open Go.Ab Go.ChangeShapes Go.WideShapes Go.ChangeAt Go.RowKit
def mS (s:ByteArray):Nat:=s.size+1
def mP (p:aX):Nat:=(p.parts.map mS).sum+2
def mH (x:dU):Nat:=max (max (mP x.left) (mP x.right)) ((x.holes.map mP).sum+1)
theorem aaL {H:Type} {enc:TypeId×Value→H} {w:World} {fuel:Nat} {cs:List Value} {d:DataW H} {p:List MemPlace} (h:tr enc w fuel 74 cs=some (d,p)):∃(l:List ByteArray) (v:Value),cs=[v]∧bQ IW w (.ps 1 (l.map encS)) v∧(l.map mS).sum+1≤Rows.uptoBulk d:=
 vJ Tryz.underlying74 (by kernel_rfl) (by omega) (fun _ _ _ _ h=>by
  obtain⟨s,e,k⟩:=Bi Tryz.underlying9 h
  subst e
  exact⟨s, .cons (.v _ rfl) .nil,by simp only[mS];omega⟩) h
theorem Tu {H:Type} {enc:TypeId×Value→H} {w:World} {fuel:Nat} {cs:List Value} {d:DataW H} {p:List MemPlace} (h:tr enc w fuel 76 cs=some (d,p)):∃(l:List ByteArray) (v:Value) (b:Bool),cs=[v, .bool b]∧bQ IW w (.ps 1 (l.map encS)) v∧mP ⟨l,b⟩≤Rows.uptoBulk d:=by
 obtain⟨hl,f,xs,hm,rfl⟩:=pO Tryz.underlying76 h
 rw[show Tryz.prog.cellsOf 76=2 by kernel_rfl] at hl
 obtain⟨c0,c1,rfl⟩:∃c0 c1,cs=[c0,c1]:=by
  rcases cs with _|⟨a0,_|⟨a1,_|⟨az,cs⟩⟩⟩
  all_goals simp at hl
  exact⟨_,_,rfl⟩
 obtain⟨_,hg⟩:=oM hm
 obtain⟨b0,g0,e0⟩:=hg 0 _ rfl
 rw[show(([c0,c1]:List Value).drop 0).take (Tryz.prog.cellsOf 74)=[c0] by rw[show Tryz.prog.cellsOf 74=1 by kernel_rfl];rfl] at e0
 obtain⟨b1,g1,e1⟩:=hg 1 _ rfl
 rw[show(([c0,c1]:List Value).drop 1).take (Tryz.prog.cellsOf 4)=[c1] by rw[show Tryz.prog.cellsOf 4=1 by kernel_rfl];rfl] at e1
 obtain⟨l,v,h0,q0,k0⟩:=aaL e0
 simp only[List.cons.injEq,and_true] at h0;subst h0
 have r0:=iR g0
 obtain⟨b,h1⟩:=FV Tryz.underlying4 e1
 simp only[List.cons.injEq,and_true] at h1;subst h1
 exact⟨l,_,b,rfl,q0,by simp only[Rows.uptoBulk,mP];omega⟩
theorem aa3 {H:Type} {enc:TypeId×Value→H} {w:World} {fuel:Nat} {cs:List Value} {d:DataW H} {p:List MemPlace} (h:tr enc w fuel 77 cs=some (d,p)):∃(l:List aX) (v:Value),cs=[v]∧bQ IW w (.ps 2 (l.map au)) v∧(l.map mP).sum+1≤Rows.uptoBulk d:=
 vJ Tryz.underlying77 (by kernel_rfl) (by omega) (fun _ _ _ _ h=>by
  obtain⟨l,v,b,e,q,k⟩:=Tu h
  subst e
  exact⟨⟨l,b⟩, .cons q (.cons (.v _ rfl) .nil),k⟩) h
theorem acm {H:Type} {enc:TypeId×Value→H} {w:World} {fuel:Nat} {cs:List Value} {d:DataW H} {p:List MemPlace} (h:tr enc w fuel 79 cs=some (d,p)):∃x:dU,aU (bQ IW w) (dK x) cs∧mH x≤Rows.uptoBulk d:=by
 obtain⟨hl,f,xs,hm,rfl⟩:=pO Tryz.underlying79 h
 rw[show Tryz.prog.cellsOf 79=5 by kernel_rfl] at hl
 obtain⟨c0,c1,c2,c3,c4,rfl⟩:∃c0 c1 c2 c3 c4,cs=[c0,c1,c2,c3,c4]:=by
  rcases cs with _|⟨a0,_|⟨a1,_|⟨a2,_|⟨a3,_|⟨a4,_|⟨az,cs⟩⟩⟩⟩⟩⟩
  all_goals simp at hl
  exact⟨_,_,_,_,_,rfl⟩
 obtain⟨_,hg⟩:=oM hm
 obtain⟨b0,g0,e0⟩:=hg 0 _ rfl
 rw[show(([c0,c1,c2,c3,c4]:List Value).drop 0).take (Tryz.prog.cellsOf 76)=[c0,c1] by rw[show Tryz.prog.cellsOf 76=2 by kernel_rfl];rfl] at e0
 obtain⟨b1,g1,e1⟩:=hg 1 _ rfl
 rw[show(([c0,c1,c2,c3,c4]:List Value).drop 2).take (Tryz.prog.cellsOf 76)=[c2,c3] by rw[show Tryz.prog.cellsOf 76=2 by kernel_rfl];rfl] at e1
 obtain⟨b2,g2,e2⟩:=hg 2 _ rfl
 rw[show(([c0,c1,c2,c3,c4]:List Value).drop 4).take (Tryz.prog.cellsOf 77)=[c4] by rw[show Tryz.prog.cellsOf 77=1 by kernel_rfl];rfl] at e2
 obtain⟨l0,v0,b0',h0,q0,k0⟩:=Tu e0
 simp only[List.cons.injEq,and_true] at h0;obtain⟨rfl,rfl⟩:=h0
 have r0:=iR g0
 obtain⟨l1,v1,b1',h1,q1,k1⟩:=Tu e1
 simp only[List.cons.injEq,and_true] at h1;obtain⟨rfl,rfl⟩:=h1
 have r1:=iR g1
 obtain⟨l2,v2,h2,q2,k2⟩:=aa3 e2
 simp only[List.cons.injEq,and_true] at h2;subst h2
 have r2:=iR g2
 exact⟨⟨⟨l0,b0'⟩,⟨l1,b1'⟩,l2⟩, .cons q0 (.cons (.v _ rfl) (.cons q1 (.cons (.v _ rfl) (.cons q2 .nil)))),by simp only[Rows.uptoBulk,mH];omega⟩
theorem aaw {H:Type} {enc:TypeId×Value→H} {w:World} {fuel:Nat} {cs:List Value} {d:DataW H} {p:List MemPlace} (h:tr enc w fuel 23 cs=some (d,p)):∃(l:List dU) (v:Value),cs=[v]∧bQ IW w (.ps 5 (l.map dK)) v∧(l.map mH).sum+1≤Rows.uptoBulk d:=
 vJ Tryz.underlying23 (by kernel_rfl) (by omega) (fun _ _ _ _ h=>acm h) h
theorem YW {H:Type} {enc:TypeId×Value→H} {W:World} {base:Nat} {v:Value} {d:DataW H} {p:List MemPlace} (h:DataW.Trod enc Tryz.prog W 0 (fun _=>true) true 23 v d p) (ok:Value.okWide Tryz.prog W .any base 23 v):
 ∃l:List dU,aC (mkK (X.start SK cap0 IW [] W) SK cap0 [] W) (dZ l) v∧(l.map mH).sum+1≤Rows.uptoBulk d:=by
 obtain⟨fuel,h⟩:=h
 obtain⟨l,w0,e0,rep0,k0⟩:=aaw h
 rw[TU Tryz.underlying23 ok] at e0
 simp only[List.cons.injEq,and_true] at e0
 subst e0
 exact⟨l,JD rep0,k0⟩
theorem X5 {n:Nat} {p:aX} (h:mP p≤n):PB n p:=by
 unfold mP at h
 refine⟨?_,fun s hs=>?_⟩
 ·have:=wP (m:=mS) (fun x=>by simp[mS]) p.parts;omega
 ·have:=xR (m:=mS) hs;simp only[mS] at this h;omega
theorem O3 {α:Type} {m:α→Nat} (hm:∀x,2≤m x):∀l:List α,2*l.length≤(l.map m).sum
 |[]=>by simp
 |y::l=>by
  have:=O3 hm l
  have:=hm y
  simp only[List.map_cons,List.sum_cons,List.length_cons];omega
theorem MC {l:List dU} {n:Nat} (h:(l.map mH).sum≤n):l.length≤n∧(∀e∈l,EB n e)∧∀e∈l,2*e.holes.length≤n:=by
 refine⟨?_,fun e he=>?_,fun e he=>?_⟩
 ·have:=wP (m:=mH) (fun x=>by simp only[mH];omega) l;omega
 ·have h1:=Nat.le_trans (xR (m:=mH) he) h
  have h2:mP e.left≤n:=by simp only[mH] at h1;omega
  have h3:mP e.right≤n:=by simp only[mH] at h1;omega
  have h4:(e.holes.map mP).sum≤n:=by simp only[mH] at h1;omega
  refine⟨X5 h2,X5 h3,?_,fun x hx=>X5 (Nat.le_trans (xR (m:=mP) hx) h4)⟩
  have:=wP (m:=mP) (fun x=>by simp[mP]) e.holes;omega
 ·have h1:=Nat.le_trans (xR (m:=mH) he) h
  have h4:(e.holes.map mP).sum≤n:=by simp only[mH] at h1;omega
  have:=O3 (m:=mP) (fun x=>by simp only[mP];omega) e.holes;omega
end Go.Proofs.YtcpgicfphakdaaaGreatDoor
namespace Go.Proofs.YtcpgicfphakdaaaGreatDoor.tasksC
open Go.Ab Go.ChangeShapes Go.WideShapes Go.ChangeAt Go.RowKit
theorem contract (H:Type) (enc:TypeId×Value→H) (W:World) (base:Nat) (args:Array Value) (ds gs:List (DataW H)) (before:List MemPlace)
 (hval:∀(j:Nat) t v,Tryz.f3.params[j]? =some t→args[j]? =some v→Value.okWide Tryz.prog W .any base t v)
 (hW:DataW.Whole enc Tryz.prog Tryz.f3.params.toList Rows.integrateTasksSpec.vars false W args.toList ds gs before) (hk:Rows.uptoSmall H (ds++gs)=true):
 Calls Tryz.prog 3 args W fun e W'=>∃v,e= .returned v∧Rows.integrateTasksSpec.post enc Tryz.prog Tryz.f3 false true false false W args v W':=by
 have hW':=hW
 have hlt:=hW.lt
 obtain⟨p,q,hA0,hV,rfl,hfz,hnd⟩:=hW
 have hA:DataW.TrodAll enc Tryz.prog W 0 (fun _=>true) true Tryz.f3.params.toList args.toList ds p:=hA0
 rw[Tryz.params3] at hA hval
 obtain⟨v0,vs0,d0,ds0,p0,q0,hargs,rfl,rfl,h0,r0⟩:=trodAll_cons hA
 obtain⟨v1,vs1,d1,ds1,p1,q1,rfl,rfl,rfl,h1,r1⟩:=trodAll_cons r0
 obtain⟨rfl,rfl,rfl⟩:=trodAll_nil r1
 obtain rfl:args= #[v0,v1]:=by cases args;simp_all
 obtain⟨rfl,rfl⟩:=trodVars_none hV
 have hb:=of_decide_eq_true hk
 simp only[List.cons_append,List.nil_append,Rows.uptoBulkAll] at hb
 obtain⟨x0,rep0,k0⟩:=YP h0 (hval 0 22 v0 rfl rfl)
 obtain⟨x1,rep1,k1⟩:=YW h1 (hval 1 23 v1 rfl rfl)
 have hc:=BR x0 (acn (n:=1048576) (by omega) (by omega)) x1 (MC (n:=1048576) (by omega)).1 (fun e he=>⟨(MC (n:=1048576) (by omega)).2.1 e he,by have:=(MC (l:=x1) (n:=1048576) (by omega)).2.2 e he;omega⟩)
 refine(RD hc (us:=[v0,v1]) (.cons rep0 (.cons rep1 .nil))).mono fun e W' ⟨he,hbel⟩=>?_
 subst he
 have hl0:∀x∈p0,x.block<W.heap.size:=fun x hx=>hlt x (by simp[hx])
 have hl1:∀x∈p1,x.block<W.heap.size:=fun x hx=>hlt x (by simp[hx])
 refine⟨_,rfl,_,_,_,[],_,[],hW',trodAll_cons_mk (shut_bool Tryz.underlying4 _) trodAll_mk0,
  trodAll_cons_mk (Below.trod laidOut (by kernel_rfl) (of_decide_eq_true (by kernel_rfl)) h0 hbel hl0) (trodAll_cons_mk (Below.trod laidOut (by kernel_rfl) (of_decide_eq_true (by kernel_rfl)) h1 hbel hl1) (trodAll_mk0)),
  rfl,hbel.frame _,fun h=>by cases h⟩
@[reducible] def UW:Array Value:= #[.slice none 0 0, .slice none 0 0]
theorem laid_met (os:Os):laidMet Tryz.prog Rows.integrateTasksUptoRow.laid ((laidWorld os).forCall (fun _ _=>0) ⟨#[],UW,[]⟩).memory:=
 laidMet_of_run' 8 (by kernel_rfl) (by kernel_rfl)
theorem reads (os:Os) {H:Type} (enc:TypeId×Value→H):∃places,DataW.whole enc Tryz.prog ((laidWorld os).forCall (fun _ _=>0) ⟨#[],UW,[]⟩).memory Tryz.f3.params.toList Rows.integrateTasksSpec.vars false UW.toList 8=
 some ([.nil, .nil],[],places):=
 ⟨[],by kernel_rfl⟩
theorem TQ (os:Os) (started:os.Started) (H:Type) (enc:TypeId×Value→H) (F:Stop.Interp):
 ReturnsInHanded {} Tryz.checked os 3 .any ((Rows.OpenSpec.upto Rows.integrateTasksSpec).preRow enc Tryz.prog Tryz.f3 Rows.integrateTasksUptoRow.domain false Rows.integrateTasksUptoRow.laid) (((Rows.OpenSpec.upto Rows.integrateTasksSpec).at F).post enc Tryz.prog Tryz.f3 false true false false):=by
 obtain⟨places,hx⟩:=reads os enc
 refine returnsInHanded_of_row (C:=Tryz.checked) (s:=Rows.OpenSpec.upto Rows.integrateTasksSpec) own started (by kernel_rfl) Tryz.func3
  (witness_row_at (enc:=enc) (C:=Tryz.checked) false (laidWorld os) UW rfl (by kernel_rfl) (by kernel_rfl) (by kernel_rfl)
    (OpenSpec.preRow_of_cond 8 hx (by kernel_rfl) (fun k hk=>by cases hk;kernel_rfl) (by kernel_rfl) (laid_met os))) ?_
 intro W base args ds gs before hval hW q1 q2 q3 q4 q5 q6
 first|exact contract H enc W base args ds gs before hval hW (q1 _ rfl)|exact contract H enc W base args ds gs before hval hW (q2 _ rfl)|exact contract H enc W base args ds gs before hval hW (q4 _ rfl)|exact contract H enc W base args ds gs before hval hW (q5 _ rfl)|exact contract H enc W base args ds gs before hval hW (q6 _ rfl)
theorem Zu:Rows.IntegrateTasksUptoSaid:=
 OpenClaim.holds_of_cond 3 Tryz.f3 rfl rfl rfl rfl rfl rfl rfl ⟨rfl,rfl,rfl,rfl,rfl⟩ rfl rfl rfl rfl rfl (by as_aux_lemma=>kernel_rfl) Tryz.func3
  (by unfold joinedFacts;simp only[Bool.and_eq_true];repeat' apply And.intro
      all_goals(as_aux_lemma=>kernel_rfl))
  (of_decide_eq_true (by as_aux_lemma=>kernel_rfl)) (by unfold Func.isWrapper;first|(rw[if_pos (by decide+kernel)];kernel_rfl)|(rw[if_neg (by decide+kernel)];exact⟨rfl,rfl⟩))
  (fun os started H enc _ F=>by rw[OpenClaim.pre_eq_preRow];exact TQ os started H enc F)
theorem plain (f:FuncId) (fn:Func) (hf:Tryz.pinned.checked.prog.funcNamed "stockyard/stockyardlaw15.IntegrateTasks"=some f) (hfn:Tryz.pinned.checked.prog.funcs[f]? =some fn):
 false=Tryz.pinned.checked.prog.looks []∧∀(j:Nat) t,fn.params[j]? =some t→Tryz.pinned.checked.prog.wantsStandIn t=false:=by
 obtain rfl:f=3:=Option.some.inj ((show Tryz.prog.funcNamed "stockyard/stockyardlaw15.IntegrateTasks"=some 3 by kernel_rfl).symm.trans hf) |>.symm
 obtain rfl:fn=Tryz.f3:=(Option.some.inj (Tryz.func3.symm.trans hfn)).symm
 refine⟨by kernel_rfl,fun j t ht=>?_⟩
 rw[Tryz.params3] at ht
 have hm:t∈ #[22,23]:=Array.mem_of_getElem? ht
 simp only[List.mem_toArray,List.mem_cons,List.not_mem_nil,or_false] at hm
 rcases hm with rfl|rfl
 ·exact(show Tryz.prog.wantsStandIn 22=false by kernel_rfl)
 ·exact(show Tryz.prog.wantsStandIn 23=false by kernel_rfl)
end Go.Proofs.YtcpgicfphakdaaaGreatDoor.tasksC
namespace Go.Proofs.YtcpgicfphakdaaaGreatDoor
theorem tasks_card:Rows.IntegrateTasksUptoCardSaid:=
 Claim7.holds_tied_plain_at .later [] _ _ _ _ tasksC.Zu (fun _ h=>by cases h) (by kernel_rfl) (fun _ h=>by cases h) integrateTasksUpto_row_tie rfl ⟨rfl,rfl⟩ (by kernel_rfl) rfl tasksC.plain (by kernel_rfl)
end Go.Proofs.YtcpgicfphakdaaaGreatDoor
#print axioms Go.Proofs.YtcpgicfphakdaaaGreatDoor.tasks_card
