/- A part of the proof. -/
import Derived.Test.YtcpgicfphakdaaaGreatDoorRC5
import Derived.Test.YtcpgicfphakdaaaGreatDoorRX10
import Derived.Test.YtcpgicfphakdaaaGreatDoorRK28
set_option maxRecDepth 100000
set_option maxHeartbeats 16000000
set_option linter.all false
namespace Go.Proofs.YtcpgicfphakdaaaGreatDoor
open Go.Ab Go.ChangeShapes Go.WideShapes Go.ChangeAt Go.RowKit
def mS (s:ByteArray):Nat:=s.size+1
def mP (p:bH):Nat:=(p.parts.map mS).sum+2
def mH (x:eQ):Nat:=max (max (mP x.left) (mP x.right)) ((x.holes.map mP).sum+1)
theorem aaS {H:Type} {enc:TypeId×Value→H} {w:World} {fuel:Nat} {cs:List Value} {d:DataW H} {p:List MemPlace} (h:tr enc w fuel 74 cs=some (d,p)):∃(l:List ByteArray) (v:Value),cs=[v]∧bU Ha w (.ps 1 (l.map encS)) v∧(l.map mS).sum+1≤Rows.uptoBulk d:=
 sS Tryz.underlying74 (by kernel_rfl) (by omega) (fun _ _ _ _ h=>by
  obtain⟨s,e,k⟩:=zY Tryz.underlying9 h
  subst e
  exact⟨s, .cons (.v _ rfl) .nil,by simp only[mS];omega⟩) h
theorem SC {H:Type} {enc:TypeId×Value→H} {w:World} {fuel:Nat} {cs:List Value} {d:DataW H} {p:List MemPlace} (h:tr enc w fuel 76 cs=some (d,p)):∃(l:List ByteArray) (v:Value) (b:Bool),cs=[v, .bool b]∧bU Ha w (.ps 1 (l.map encS)) v∧mP ⟨l,b⟩≤Rows.uptoBulk d:=by
 obtain⟨hl,f,xs,hm,rfl⟩:=nK Tryz.underlying76 h
 rw[show Tryz.prog.cellsOf 76=2 by kernel_rfl] at hl
 obtain⟨c0,c1,rfl⟩:∃c0 c1,cs=[c0,c1]:=by
  rcases cs with _|⟨a0,_|⟨a1,_|⟨az,cs⟩⟩⟩
  all_goals simp at hl
  exact⟨_,_,rfl⟩
 obtain⟨_,hg⟩:=mV hm
 obtain⟨b0,g0,e0⟩:=hg 0 _ rfl
 rw[show(([c0,c1]:List Value).drop 0).take (Tryz.prog.cellsOf 74)=[c0] by rw[show Tryz.prog.cellsOf 74=1 by kernel_rfl];rfl] at e0
 obtain⟨b1,g1,e1⟩:=hg 1 _ rfl
 rw[show(([c0,c1]:List Value).drop 1).take (Tryz.prog.cellsOf 4)=[c1] by rw[show Tryz.prog.cellsOf 4=1 by kernel_rfl];rfl] at e1
 obtain⟨l,v,h0,q0,k0⟩:=aaS e0
 simp only[List.cons.injEq,and_true] at h0;subst h0
 have r0:=gQ g0
 obtain⟨b,h1⟩:=EG Tryz.underlying4 e1
 simp only[List.cons.injEq,and_true] at h1;subst h1
 exact⟨l,_,b,rfl,q0,by simp only[Rows.uptoBulk,mP];omega⟩
theorem aaM {H:Type} {enc:TypeId×Value→H} {w:World} {fuel:Nat} {cs:List Value} {d:DataW H} {p:List MemPlace} (h:tr enc w fuel 77 cs=some (d,p)):∃(l:List bH) (v:Value),cs=[v]∧bU Ha w (.ps 2 (l.map bF)) v∧(l.map mP).sum+1≤Rows.uptoBulk d:=
 sS Tryz.underlying77 (by kernel_rfl) (by omega) (fun _ _ _ _ h=>by
  obtain⟨l,v,b,e,q,k⟩:=SC h
  subst e
  exact⟨⟨l,b⟩, .cons q (.cons (.v _ rfl) .nil),k⟩) h
theorem acg {H:Type} {enc:TypeId×Value→H} {w:World} {fuel:Nat} {cs:List Value} {d:DataW H} {p:List MemPlace} (h:tr enc w fuel 79 cs=some (d,p)):∃x:eQ,aN (bU Ha w) (eY x) cs∧mH x≤Rows.uptoBulk d:=by
 obtain⟨hl,f,xs,hm,rfl⟩:=nK Tryz.underlying79 h
 rw[show Tryz.prog.cellsOf 79=5 by kernel_rfl] at hl
 obtain⟨c0,c1,c2,c3,c4,rfl⟩:∃c0 c1 c2 c3 c4,cs=[c0,c1,c2,c3,c4]:=by
  rcases cs with _|⟨a0,_|⟨a1,_|⟨a2,_|⟨a3,_|⟨a4,_|⟨az,cs⟩⟩⟩⟩⟩⟩
  all_goals simp at hl
  exact⟨_,_,_,_,_,rfl⟩
 obtain⟨_,hg⟩:=mV hm
 obtain⟨b0,g0,e0⟩:=hg 0 _ rfl
 rw[show(([c0,c1,c2,c3,c4]:List Value).drop 0).take (Tryz.prog.cellsOf 76)=[c0,c1] by rw[show Tryz.prog.cellsOf 76=2 by kernel_rfl];rfl] at e0
 obtain⟨b1,g1,e1⟩:=hg 1 _ rfl
 rw[show(([c0,c1,c2,c3,c4]:List Value).drop 2).take (Tryz.prog.cellsOf 76)=[c2,c3] by rw[show Tryz.prog.cellsOf 76=2 by kernel_rfl];rfl] at e1
 obtain⟨b2,g2,e2⟩:=hg 2 _ rfl
 rw[show(([c0,c1,c2,c3,c4]:List Value).drop 4).take (Tryz.prog.cellsOf 77)=[c4] by rw[show Tryz.prog.cellsOf 77=1 by kernel_rfl];rfl] at e2
 obtain⟨l0,v0,b0',h0,q0,k0⟩:=SC e0
 simp only[List.cons.injEq,and_true] at h0;obtain⟨rfl,rfl⟩:=h0
 have r0:=gQ g0
 obtain⟨l1,v1,b1',h1,q1,k1⟩:=SC e1
 simp only[List.cons.injEq,and_true] at h1;obtain⟨rfl,rfl⟩:=h1
 have r1:=gQ g1
 obtain⟨l2,v2,h2,q2,k2⟩:=aaM e2
 simp only[List.cons.injEq,and_true] at h2;subst h2
 have r2:=gQ g2
 exact⟨⟨⟨l0,b0'⟩,⟨l1,b1'⟩,l2⟩, .cons q0 (.cons (.v _ rfl) (.cons q1 (.cons (.v _ rfl) (.cons q2 .nil)))),by simp only[Rows.uptoBulk,mH];omega⟩
theorem aa3 {H:Type} {enc:TypeId×Value→H} {w:World} {fuel:Nat} {cs:List Value} {d:DataW H} {p:List MemPlace} (h:tr enc w fuel 23 cs=some (d,p)):∃(l:List eQ) (v:Value),cs=[v]∧bU Ha w (.ps 5 (l.map eY)) v∧(l.map mH).sum+1≤Rows.uptoBulk d:=
 sS Tryz.underlying23 (by kernel_rfl) (by omega) (fun _ _ _ _ h=>acg h) h
theorem Xa {H:Type} {enc:TypeId×Value→H} {W:World} {base:Nat} {v:Value} {d:DataW H} {p:List MemPlace} (h:DataW.Trod enc Tryz.prog W 0 (fun _=>true) true 23 v d p) (ok:Value.okWide Tryz.prog W .any base 23 v):
 ∃l:List eQ,au (mkK (X.start QH cap0 Ha [] W) QH cap0 [] W) (jW l) v∧(l.map mH).sum+1≤Rows.uptoBulk d:=by
 obtain⟨fuel,h⟩:=h
 obtain⟨l,w0,e0,rep0,k0⟩:=aa3 h
 rw[Tq Tryz.underlying23 ok] at e0
 simp only[List.cons.injEq,and_true] at e0
 subst e0
 exact⟨l,Jc rep0,k0⟩
theorem Zw {n:Nat} {p:bH} (h:mP p≤n):PB n p:=by
 unfold mP at h
 refine⟨?_,fun s hs=>?_⟩
 ·have:=vG (m:=mS) (fun x=>by simp[mS]) p.parts;omega
 ·have:=xW (m:=mS) hs;simp only[mS] at this h;omega
theorem PH {α:Type} {m:α→Nat} (hm:∀x,2≤m x):∀l:List α,2*l.length≤(l.map m).sum
 |[]=>by simp
 |y::l=>by
  have:=PH hm l
  have:=hm y
  simp only[List.map_cons,List.sum_cons,List.length_cons];omega
theorem LM {l:List eQ} {n:Nat} (h:(l.map mH).sum≤n):l.length≤n∧(∀e∈l,EB n e)∧∀e∈l,2*e.holes.length≤n:=by
 refine⟨?_,fun e he=>?_,fun e he=>?_⟩
 ·have:=vG (m:=mH) (fun x=>by simp only[mH];omega) l;omega
 ·have h1:=Nat.le_trans (xW (m:=mH) he) h
  have h2:mP e.left≤n:=by simp only[mH] at h1;omega
  have h3:mP e.right≤n:=by simp only[mH] at h1;omega
  have h4:(e.holes.map mP).sum≤n:=by simp only[mH] at h1;omega
  refine⟨Zw h2,Zw h3,?_,fun x hx=>Zw (Nat.le_trans (xW (m:=mP) hx) h4)⟩
  have:=vG (m:=mP) (fun x=>by simp[mP]) e.holes;omega
 ·have h1:=Nat.le_trans (xW (m:=mH) he) h
  have h4:(e.holes.map mP).sum≤n:=by simp only[mH] at h1;omega
  have:=PH (m:=mP) (fun x=>by simp only[mP];omega) e.holes;omega
end Go.Proofs.YtcpgicfphakdaaaGreatDoor
namespace Go.Proofs.YtcpgicfphakdaaaGreatDoor.runsC
open Go.Ab Go.ChangeShapes Go.WideShapes Go.ChangeAt Go.RowKit
theorem contract (H:Type) (enc:TypeId×Value→H) (W:World) (base:Nat) (args:Array Value) (ds gs:List (DataW H)) (before:List MemPlace)
 (hval:∀(j:Nat) t v,Tryz.f4.params[j]? =some t→args[j]? =some v→Value.okWide Tryz.prog W .any base t v)
 (hW:DataW.Whole enc Tryz.prog Tryz.f4.params.toList Rows.integrateRunsSpec.vars false W args.toList ds gs before) (hk:Rows.uptoSmall H (ds++gs)=true):
 Calls Tryz.prog 4 args W fun e W'=>∃v,e= .returned v∧Rows.integrateRunsSpec.post enc Tryz.prog Tryz.f4 false true false false W args v W':=by
 have hW':=hW
 have hlt:=hW.lt
 obtain⟨p,q,hA0,hV,rfl,hfz,hnd⟩:=hW
 have hA:DataW.TrodAll enc Tryz.prog W 0 (fun _=>true) true Tryz.f4.params.toList args.toList ds p:=hA0
 rw[Tryz.params4] at hA hval
 obtain⟨v0,vs0,d0,ds0,p0,q0,hargs,rfl,rfl,h0,r0⟩:=trodAll_cons hA
 obtain⟨v1,vs1,d1,ds1,p1,q1,rfl,rfl,rfl,h1,r1⟩:=trodAll_cons r0
 obtain⟨rfl,rfl,rfl⟩:=trodAll_nil r1
 obtain rfl:args= #[v0,v1]:=by cases args;simp_all
 obtain⟨rfl,rfl⟩:=trodVars_none hV
 have hb:=of_decide_eq_true hk
 simp only[List.cons_append,List.nil_append,Rows.uptoBulkAll] at hb
 obtain⟨x0,rep0,k0⟩:=YZ h0 (hval 0 22 v0 rfl rfl)
 obtain⟨x1,rep1,k1⟩:=Xa h1 (hval 1 23 v1 rfl rfl)
 have hc:=CG x0 (abT (n:=1048576) (by omega) (by omega)) x1 (LM (n:=1048576) (by omega)).1 (fun e he=>⟨(LM (n:=1048576) (by omega)).2.1 e he,by have:=(LM (l:=x1) (n:=1048576) (by omega)).2.2 e he;omega⟩)
 refine(Q9 hc (us:=[v0,v1]) (.cons rep0 (.cons rep1 .nil))).mono fun e W' ⟨he,hbel⟩=>?_
 subst he
 have hl0:∀x∈p0,x.block<W.heap.size:=fun x hx=>hlt x (by simp[hx])
 have hl1:∀x∈p1,x.block<W.heap.size:=fun x hx=>hlt x (by simp[hx])
 refine⟨_,rfl,_,_,_,[],_,[],hW',trodAll_cons_mk (shut_bool Tryz.underlying4 _) trodAll_mk0,
  trodAll_cons_mk (Below.trod laidOut (by kernel_rfl) (of_decide_eq_true (by kernel_rfl)) h0 hbel hl0) (trodAll_cons_mk (Below.trod laidOut (by kernel_rfl) (of_decide_eq_true (by kernel_rfl)) h1 hbel hl1) (trodAll_mk0)),
  rfl,hbel.frame _,fun h=>by cases h⟩
@[reducible] def TT:Array Value:= #[.slice none 0 0, .slice none 0 0]
theorem laid_met (os:Os):laidMet Tryz.prog Rows.integrateRunsUptoRow.laid ((laidWorld os).forCall (fun _ _=>0) ⟨#[],TT,[]⟩).memory:=
 laidMet_of_run' 8 (by kernel_rfl) (by kernel_rfl)
theorem reads (os:Os) {H:Type} (enc:TypeId×Value→H):∃places,DataW.whole enc Tryz.prog ((laidWorld os).forCall (fun _ _=>0) ⟨#[],TT,[]⟩).memory Tryz.f4.params.toList Rows.integrateRunsSpec.vars false TT.toList 8=
 some ([.nil, .nil],[],places):=
 ⟨[],by kernel_rfl⟩
theorem Rk (os:Os) (started:os.Started) (H:Type) (enc:TypeId×Value→H) (F:Stop.Interp):
 ReturnsInHanded {} Tryz.checked os 4 .any ((Rows.OpenSpec.upto Rows.integrateRunsSpec).preRow enc Tryz.prog Tryz.f4 Rows.integrateRunsUptoRow.domain false Rows.integrateRunsUptoRow.laid) (((Rows.OpenSpec.upto Rows.integrateRunsSpec).at F).post enc Tryz.prog Tryz.f4 false true false false):=by
 obtain⟨places,hx⟩:=reads os enc
 refine returnsInHanded_of_row (C:=Tryz.checked) (s:=Rows.OpenSpec.upto Rows.integrateRunsSpec) own started (by kernel_rfl) Tryz.func4
  (witness_row_at (enc:=enc) (C:=Tryz.checked) false (laidWorld os) TT rfl (by kernel_rfl) (by kernel_rfl) (by kernel_rfl)
    (OpenSpec.preRow_of_cond 8 hx (by kernel_rfl) (fun k hk=>by cases hk;kernel_rfl) (by kernel_rfl) (laid_met os))) ?_
 intro W base args ds gs before hval hW q1 q2 q3 q4 q5 q6
 first|exact contract H enc W base args ds gs before hval hW (q1 _ rfl)|exact contract H enc W base args ds gs before hval hW (q2 _ rfl)|exact contract H enc W base args ds gs before hval hW (q4 _ rfl)|exact contract H enc W base args ds gs before hval hW (q5 _ rfl)|exact contract H enc W base args ds gs before hval hW (q6 _ rfl)
theorem Yv:Rows.IntegrateRunsUptoSaid:=
 OpenClaim.holds_of_cond 4 Tryz.f4 rfl rfl rfl rfl rfl rfl rfl ⟨rfl,rfl,rfl,rfl,rfl⟩ rfl rfl rfl rfl rfl (by as_aux_lemma=>kernel_rfl) Tryz.func4
  (by unfold joinedFacts;simp only[Bool.and_eq_true];repeat' apply And.intro
      all_goals(as_aux_lemma=>kernel_rfl))
  (of_decide_eq_true (by as_aux_lemma=>kernel_rfl)) (by unfold Func.isWrapper;first|(rw[if_pos (by decide+kernel)];kernel_rfl)|(rw[if_neg (by decide+kernel)];exact⟨rfl,rfl⟩))
  (fun os started H enc _ F=>by rw[OpenClaim.pre_eq_preRow];exact Rk os started H enc F)
theorem plain (f:FuncId) (fn:Func) (hf:Tryz.pinned.checked.prog.funcNamed "stockyard/stockyardlaw15.IntegrateRuns"=some f) (hfn:Tryz.pinned.checked.prog.funcs[f]? =some fn):
 false=Tryz.pinned.checked.prog.looks []∧∀(j:Nat) t,fn.params[j]? =some t→Tryz.pinned.checked.prog.wantsStandIn t=false:=by
 obtain rfl:f=4:=Option.some.inj ((show Tryz.prog.funcNamed "stockyard/stockyardlaw15.IntegrateRuns"=some 4 by kernel_rfl).symm.trans hf) |>.symm
 obtain rfl:fn=Tryz.f4:=(Option.some.inj (Tryz.func4.symm.trans hfn)).symm
 refine⟨by kernel_rfl,fun j t ht=>?_⟩
 rw[Tryz.params4] at ht
 have hm:t∈ #[22,23]:=Array.mem_of_getElem? ht
 simp only[List.mem_toArray,List.mem_cons,List.not_mem_nil,or_false] at hm
 rcases hm with rfl|rfl
 ·exact(show Tryz.prog.wantsStandIn 22=false by kernel_rfl)
 ·exact(show Tryz.prog.wantsStandIn 23=false by kernel_rfl)
end Go.Proofs.YtcpgicfphakdaaaGreatDoor.runsC
namespace Go.Proofs.YtcpgicfphakdaaaGreatDoor
theorem runs_card:Rows.IntegrateRunsUptoCardSaid:=
 Claim7.holds_tied_plain_at .later [] _ _ _ _ runsC.Yv (fun _ h=>by cases h) (by kernel_rfl) (fun _ h=>by cases h) integrateRunsUpto_row_tie rfl ⟨rfl,rfl⟩ (by kernel_rfl) rfl runsC.plain (by kernel_rfl)
end Go.Proofs.YtcpgicfphakdaaaGreatDoor
#print axioms Go.Proofs.YtcpgicfphakdaaaGreatDoor.runs_card
