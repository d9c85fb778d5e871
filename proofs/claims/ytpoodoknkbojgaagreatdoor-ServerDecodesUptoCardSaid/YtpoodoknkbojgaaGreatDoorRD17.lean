/- A part of the proof. -/
import Derived.Test.YtpoodoknkbojgaaGreatDoorRE29
set_option maxRecDepth 100000
set_option maxHeartbeats 16000000
set_option linter.all false
namespace Go.Proofs.YtpoodoknkbojgaaGreatDoor.decodesC
open Go.Ab Go.ChangeShapes Go.WideShapes Go.ChangeAt Go.RowKit
theorem contract (H:Type) (enc:TypeId×Value→H) (W:World) (base:Nat) (args:Array Value) (ds gs:List (DataW H)) (before:List MemPlace)
 (hval:∀(j:Nat) t v,Tryz.f4.params[j]? =some t→args[j]? =some v→Value.okWide Tryz.prog W .any base t v)
 (hW:DataW.Whole enc Tryz.prog Tryz.f4.params.toList Rows.serverDecodesSpec.vars false W args.toList ds gs before) (hk:Rows.uptoSmall H (ds++gs)=true):
 Calls Tryz.prog 4 args W fun e W'=>∃v,e= .returned v∧Rows.serverDecodesSpec.post enc Tryz.prog Tryz.f4 false true false false W args v W':=by
 have hW':=hW
 have hlt:=hW.lt
 obtain⟨p,q,hA0,hV,rfl,hfz,hnd⟩:=hW
 have hA:DataW.TrodAll enc Tryz.prog W 0 (fun _=>true) true Tryz.f4.params.toList args.toList ds p:=hA0
 rw[Tryz.params4] at hA hval
 obtain⟨v0,vs0,d0,ds0,p0,q0,hargs,rfl,rfl,h0,r0⟩:=trodAll_cons hA
 obtain⟨v1,vs1,d1,ds1,p1,q1,rfl,rfl,rfl,h1,r1⟩:=trodAll_cons r0
 obtain⟨v2,vs2,d2,ds2,p2,q2,rfl,rfl,rfl,h2,r2⟩:=trodAll_cons r1
 obtain⟨v3,vs3,d3,ds3,p3,q3,rfl,rfl,rfl,h3,r3⟩:=trodAll_cons r2
 obtain⟨rfl,rfl,rfl⟩:=trodAll_nil r3
 obtain rfl:args= #[v0,v1,v2,v3]:=by cases args;simp_all
 obtain⟨rfl,rfl⟩:=trodVars_none hV
 have hb:=aaG hk
 simp only[List.cons_append,List.nil_append,Rows.uptoBulkAll] at hb
 obtain⟨x0,rep0,k0⟩:=NY h0 (hval 0 29 v0 rfl rfl)
 obtain⟨x1,rep1,k1⟩:=OD h1 (hval 1 33 v1 rfl rfl)
 obtain⟨x2,rep2⟩:=TZ h2 (hval 2 3 v2 rfl rfl)
 obtain⟨x3,rep3⟩:=WW h3 (hval 3 5 v3 rfl rfl)
 have hc:=xu x0 (k0.2 (by omega)) k0.1 x1 (by omega) x2 x3
 refine(CQ hc (us:=[v0,v1,v2,v3]) (.cons rep0 (.cons rep1 (.cons rep2 (.cons rep3 .nil))))).mono fun e W' ⟨he,hbel⟩=>?_
 subst he
 have hl0:∀x∈p0,x.block<W.heap.size:=fun x hx=>hlt x (by simp[hx])
 have hl1:∀x∈p1,x.block<W.heap.size:=fun x hx=>hlt x (by simp[hx])
 have hl2:∀x∈p2,x.block<W.heap.size:=fun x hx=>hlt x (by simp[hx])
 have hl3:∀x∈p3,x.block<W.heap.size:=fun x hx=>hlt x (by simp[hx])
 refine⟨_,rfl,_,_,_,[],_,[],hW',trodAll_cons_mk (shut_bool Tryz.underlying4 _) trodAll_mk0,
  trodAll_cons_mk (Below.trod laidOut (by kernel_rfl) (aaG (by kernel_rfl)) h0 hbel hl0) (trodAll_cons_mk (Below.trod laidOut (by kernel_rfl) (aaG (by kernel_rfl)) h1 hbel hl1) (trodAll_cons_mk (Below.trod laidOut (by kernel_rfl) (aaG (by kernel_rfl)) h2 hbel hl2) (trodAll_cons_mk (Below.trod laidOut (by kernel_rfl) (aaG (by kernel_rfl)) h3 hbel hl3) (trodAll_mk0)))),
  rfl,hbel.frame _,fun h=>by cases h⟩
@[reducible] def YK:Value:= .agg #[.int .i64 0, .string ⟨#[]⟩, .string ⟨#[]⟩, .string ⟨#[]⟩, .int .i64 0, .int .i64 0, .int .i64 0, .string ⟨#[]⟩, .string ⟨#[]⟩, .string ⟨#[]⟩, .slice none 0 0, .slice none 0 0, .slice none 0 0, .slice none 0 0]
@[reducible] def vw:Array Value:= #[YK, .slice none 0 0, .int .i64 0, .int .u8 0]
theorem laid_met (os:Os):laidMet Tryz.prog Rows.serverDecodesUptoRow.laid ((laidWorld os).forCall (fun _ _=>0) ⟨#[],vw,[]⟩).memory:=
 laidMet_of_run' 8 (by kernel_rfl) (by kernel_rfl)
theorem reads (os:Os) {H:Type} (enc:TypeId×Value→H):∃places,DataW.whole enc Tryz.prog ((laidWorld os).forCall (fun _ _=>0) ⟨#[],vw,[]⟩).memory Tryz.f4.params.toList Rows.serverDecodesSpec.vars false vw.toList 8=
 some ([.agg [.lit (.int .i64 0), .lit (.string []), .lit (.string []), .lit (.string []), .lit (.int .i64 0), .lit (.int .i64 0), .lit (.int .i64 0), .lit (.string []), .agg [.lit (.string []), .lit (.string []), .nil], .nil, .nil, .nil], .nil, .lit (.int .i64 0), .lit (.int .u8 0)],[],places):=
 ⟨[],by kernel_rfl⟩
theorem tY (os:Os) (started:os.Started) (H:Type) (enc:TypeId×Value→H) (F:Stop.Interp):
 ReturnsInHanded {} Tryz.checked os 4 .any ((Rows.OpenSpec.upto Rows.serverDecodesSpec).preRow enc Tryz.prog Tryz.f4 Rows.serverDecodesUptoRow.domain false Rows.serverDecodesUptoRow.laid) (((Rows.OpenSpec.upto Rows.serverDecodesSpec).at F).post enc Tryz.prog Tryz.f4 false true false false):=by
 obtain⟨places,hx⟩:=reads os enc
 refine returnsInHanded_of_row (C:=Tryz.checked) (s:=Rows.OpenSpec.upto Rows.serverDecodesSpec) own started (by kernel_rfl) Tryz.func4
  (witness_row_at (enc:=enc) (C:=Tryz.checked) false (laidWorld os) vw rfl (by kernel_rfl) (by kernel_rfl) (by kernel_rfl)
    (OpenSpec.preRow_of_cond 8 hx (by kernel_rfl) (fun k hk=>by cases hk;kernel_rfl) (by kernel_rfl) (laid_met os))) ?_
 intro W base args ds gs before hval hW q1 q2 q3 q4 q5 q6
 first|exact contract H enc W base args ds gs before hval hW (q1 _ rfl)|exact contract H enc W base args ds gs before hval hW (q2 _ rfl)|exact contract H enc W base args ds gs before hval hW (q4 _ rfl)|exact contract H enc W base args ds gs before hval hW (q5 _ rfl)|exact contract H enc W base args ds gs before hval hW (q6 _ rfl)
theorem Cj:Rows.ServerDecodesUptoSaid:=
 OpenClaim.holds_of_cond 4 Tryz.f4 rfl rfl rfl rfl rfl rfl rfl ⟨rfl,rfl,rfl,rfl,rfl⟩ rfl rfl rfl rfl rfl (by as_aux_lemma=>kernel_rfl) Tryz.func4
  (by unfold joinedFacts;simp only[aaj];repeat' apply And.intro
      all_goals(as_aux_lemma=>kernel_rfl))
  (aaG (by as_aux_lemma=>kernel_rfl)) (by unfold Func.isWrapper;first|(rw[if_pos (by decide+kernel)];kernel_rfl)|(rw[if_neg (by decide+kernel)];exact⟨rfl,rfl⟩))
  (fun os started H enc _ F=>by rw[OpenClaim.pre_eq_preRow];exact tY os started H enc F)
theorem plain (f:FuncId) (fn:Func) (hf:Tryz.pinned.checked.prog.funcNamed "stockyard/stockyardlaw21.ServerDecodes"=some f) (hfn:Tryz.pinned.checked.prog.funcs[f]? =some fn):
 false=Tryz.pinned.checked.prog.looks []∧∀(j:Nat) t,fn.params[j]? =some t→Tryz.pinned.checked.prog.wantsStandIn t=false:=by
 obtain rfl:f=4:=Option.some.inj ((show Tryz.prog.funcNamed "stockyard/stockyardlaw21.ServerDecodes"=some 4 by kernel_rfl).symm.trans hf) |>.symm
 obtain rfl:fn=Tryz.f4:=(Option.some.inj (Tryz.func4.symm.trans hfn)).symm
 refine⟨by kernel_rfl,fun j t ht=>?_⟩
 rw[Tryz.params4] at ht
 have hm:t∈ #[29,33,3,5]:=Array.mem_of_getElem? ht
 simp only[List.mem_toArray,Z9,aad,aaw] at hm
 rcases hm with rfl|rfl|rfl|rfl
 ·exact(show Tryz.prog.wantsStandIn 29=false by kernel_rfl)
 ·exact(show Tryz.prog.wantsStandIn 33=false by kernel_rfl)
 ·exact(show Tryz.prog.wantsStandIn 3=false by kernel_rfl)
 ·exact(show Tryz.prog.wantsStandIn 5=false by kernel_rfl)
end Go.Proofs.YtpoodoknkbojgaaGreatDoor.decodesC
namespace Go.Proofs.YtpoodoknkbojgaaGreatDoor
theorem decodes_card:Rows.ServerDecodesUptoCardSaid:=
 Claim7.holds_tied_plain_at .later [] _ _ _ _ decodesC.Cj (fun _ h=>by cases h) (by kernel_rfl) (fun _ h=>by cases h) serverDecodesUpto_row_tie rfl ⟨rfl,rfl⟩ (by kernel_rfl) rfl decodesC.plain (by kernel_rfl)
end Go.Proofs.YtpoodoknkbojgaaGreatDoor
#print axioms Go.Proofs.YtpoodoknkbojgaaGreatDoor.decodes_card
