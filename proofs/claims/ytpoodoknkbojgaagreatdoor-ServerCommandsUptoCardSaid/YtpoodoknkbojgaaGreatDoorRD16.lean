/- A part of the proof. -/
import Derived.Test.YtpoodoknkbojgaaGreatDoorRE28
set_option maxRecDepth 100000
set_option maxHeartbeats 16000000
set_option linter.all false
namespace Go.Proofs.YtpoodoknkbojgaaGreatDoor.commandsC
open Go.Ab Go.ChangeShapes Go.WideShapes Go.ChangeAt Go.RowKit
theorem contract (H:Type) (enc:TypeId×Value→H) (W:World) (base:Nat) (args:Array Value) (ds gs:List (DataW H)) (before:List MemPlace)
 (hval:∀(j:Nat) t v,Tryz.f5.params[j]? =some t→args[j]? =some v→Value.okWide Tryz.prog W .any base t v)
 (hW:DataW.Whole enc Tryz.prog Tryz.f5.params.toList Rows.serverCommandsSpec.vars false W args.toList ds gs before) (hk:Rows.uptoSmall H (ds++gs)=true):
 Calls Tryz.prog 5 args W fun e W'=>∃v,e= .returned v∧Rows.serverCommandsSpec.post enc Tryz.prog Tryz.f5 false true false false W args v W':=by
 have hW':=hW
 have hlt:=hW.lt
 obtain⟨p,q,hA0,hV,rfl,hfz,hnd⟩:=hW
 have hA:DataW.TrodAll enc Tryz.prog W 0 (fun _=>true) true Tryz.f5.params.toList args.toList ds p:=hA0
 rw[Tryz.params5] at hA hval
 obtain⟨v0,vs0,d0,ds0,p0,q0,hargs,rfl,rfl,h0,r0⟩:=trodAll_cons hA
 obtain⟨rfl,rfl,rfl⟩:=trodAll_nil r0
 obtain rfl:args= #[v0]:=by cases args;simp_all
 obtain⟨rfl,rfl⟩:=trodVars_none hV
 have hb:=aaG hk
 simp only[List.cons_append,List.nil_append,Rows.uptoBulkAll] at hb
 obtain⟨x0,rep0,k0⟩:=NY h0 (hval 0 29 v0 rfl rfl)
 have hc:=vM x0 (k0.2 (by omega)) k0.1
 refine(CQ hc (us:=[v0]) (.cons rep0 .nil)).mono fun e W' ⟨he,hbel⟩=>?_
 subst he
 have hl0:∀x∈p0,x.block<W.heap.size:=fun x hx=>hlt x (by simp[hx])
 refine⟨_,rfl,_,_,_,[],_,[],hW',trodAll_cons_mk (shut_bool Tryz.underlying4 _) trodAll_mk0,
  trodAll_cons_mk (Below.trod laidOut (by kernel_rfl) (aaG (by kernel_rfl)) h0 hbel hl0) (trodAll_mk0),
  rfl,hbel.frame _,fun h=>by cases h⟩
@[reducible] def YK:Value:= .agg #[.int .i64 0, .string ⟨#[]⟩, .string ⟨#[]⟩, .string ⟨#[]⟩, .int .i64 0, .int .i64 0, .int .i64 0, .string ⟨#[]⟩, .string ⟨#[]⟩, .string ⟨#[]⟩, .slice none 0 0, .slice none 0 0, .slice none 0 0, .slice none 0 0]
@[reducible] def vw:Array Value:= #[YK]
theorem laid_met (os:Os):laidMet Tryz.prog Rows.serverCommandsUptoRow.laid ((laidWorld os).forCall (fun _ _=>0) ⟨#[],vw,[]⟩).memory:=
 laidMet_of_run' 8 (by kernel_rfl) (by kernel_rfl)
theorem reads (os:Os) {H:Type} (enc:TypeId×Value→H):∃places,DataW.whole enc Tryz.prog ((laidWorld os).forCall (fun _ _=>0) ⟨#[],vw,[]⟩).memory Tryz.f5.params.toList Rows.serverCommandsSpec.vars false vw.toList 8=
 some ([.agg [.lit (.int .i64 0), .lit (.string []), .lit (.string []), .lit (.string []), .lit (.int .i64 0), .lit (.int .i64 0), .lit (.int .i64 0), .lit (.string []), .agg [.lit (.string []), .lit (.string []), .nil], .nil, .nil, .nil]],[],places):=
 ⟨[],by kernel_rfl⟩
theorem tY (os:Os) (started:os.Started) (H:Type) (enc:TypeId×Value→H) (F:Stop.Interp):
 ReturnsInHanded {} Tryz.checked os 5 .any ((Rows.OpenSpec.upto Rows.serverCommandsSpec).preRow enc Tryz.prog Tryz.f5 Rows.serverCommandsUptoRow.domain false Rows.serverCommandsUptoRow.laid) (((Rows.OpenSpec.upto Rows.serverCommandsSpec).at F).post enc Tryz.prog Tryz.f5 false true false false):=by
 obtain⟨places,hx⟩:=reads os enc
 refine returnsInHanded_of_row (C:=Tryz.checked) (s:=Rows.OpenSpec.upto Rows.serverCommandsSpec) own started (by kernel_rfl) Tryz.func5
  (witness_row_at (enc:=enc) (C:=Tryz.checked) false (laidWorld os) vw rfl (by kernel_rfl) (by kernel_rfl) (by kernel_rfl)
    (OpenSpec.preRow_of_cond 8 hx (by kernel_rfl) (fun k hk=>by cases hk;kernel_rfl) (by kernel_rfl) (laid_met os))) ?_
 intro W base args ds gs before hval hW q1 q2 q3 q4 q5 q6
 first|exact contract H enc W base args ds gs before hval hW (q1 _ rfl)|exact contract H enc W base args ds gs before hval hW (q2 _ rfl)|exact contract H enc W base args ds gs before hval hW (q4 _ rfl)|exact contract H enc W base args ds gs before hval hW (q5 _ rfl)|exact contract H enc W base args ds gs before hval hW (q6 _ rfl)
theorem Cj:Rows.ServerCommandsUptoSaid:=
 OpenClaim.holds_of_cond 5 Tryz.f5 rfl rfl rfl rfl rfl rfl rfl ⟨rfl,rfl,rfl,rfl,rfl⟩ rfl rfl rfl rfl rfl (by as_aux_lemma=>kernel_rfl) Tryz.func5
  (by unfold joinedFacts;simp only[aaj];repeat' apply And.intro
      all_goals(as_aux_lemma=>kernel_rfl))
  (aaG (by as_aux_lemma=>kernel_rfl)) (by unfold Func.isWrapper;first|(rw[if_pos (by decide+kernel)];kernel_rfl)|(rw[if_neg (by decide+kernel)];exact⟨rfl,rfl⟩))
  (fun os started H enc _ F=>by rw[OpenClaim.pre_eq_preRow];exact tY os started H enc F)
theorem plain (f:FuncId) (fn:Func) (hf:Tryz.pinned.checked.prog.funcNamed "stockyard/stockyardlaw21.ServerCommands"=some f) (hfn:Tryz.pinned.checked.prog.funcs[f]? =some fn):
 false=Tryz.pinned.checked.prog.looks []∧∀(j:Nat) t,fn.params[j]? =some t→Tryz.pinned.checked.prog.wantsStandIn t=false:=by
 obtain rfl:f=5:=Option.some.inj ((show Tryz.prog.funcNamed "stockyard/stockyardlaw21.ServerCommands"=some 5 by kernel_rfl).symm.trans hf) |>.symm
 obtain rfl:fn=Tryz.f5:=(Option.some.inj (Tryz.func5.symm.trans hfn)).symm
 refine⟨by kernel_rfl,fun j t ht=>?_⟩
 rw[Tryz.params5] at ht
 have hm:t∈ #[29]:=Array.mem_of_getElem? ht
 simp only[List.mem_toArray,Z9,aad,aaw] at hm
 rcases hm with rfl
 ·exact(show Tryz.prog.wantsStandIn 29=false by kernel_rfl)
end Go.Proofs.YtpoodoknkbojgaaGreatDoor.commandsC
namespace Go.Proofs.YtpoodoknkbojgaaGreatDoor
theorem commands_card:Rows.ServerCommandsUptoCardSaid:=
 Claim7.holds_tied_plain_at .later [] _ _ _ _ commandsC.Cj (fun _ h=>by cases h) (by kernel_rfl) (fun _ h=>by cases h) serverCommandsUpto_row_tie rfl ⟨rfl,rfl⟩ (by kernel_rfl) rfl commandsC.plain (by kernel_rfl)
end Go.Proofs.YtpoodoknkbojgaaGreatDoor
#print axioms Go.Proofs.YtpoodoknkbojgaaGreatDoor.commands_card
