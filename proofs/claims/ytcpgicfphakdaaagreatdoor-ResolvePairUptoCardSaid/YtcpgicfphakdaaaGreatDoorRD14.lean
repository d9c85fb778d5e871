/- A part of the proof. -/
import Derived.Test.YtcpgicfphakdaaaGreatDoorRC9
import Derived.Test.YtcpgicfphakdaaaGreatDoorRY21
set_option maxRecDepth 100000
set_option maxHeartbeats 16000000
set_option linter.all false
namespace Go.Proofs.YtcpgicfphakdaaaGreatDoor.pairC
open Go.Ab Go.ChangeShapes Go.WideShapes Go.ChangeAt Go.RowKit
theorem contract (H:Type) (enc:TypeId×Value→H) (W:World) (base:Nat) (args:Array Value) (ds gs:List (DataW H)) (before:List MemPlace)
 (hval:∀(j:Nat) t v,Tryz.f5.params[j]? =some t→args[j]? =some v→Value.okWide Tryz.prog W .any base t v)
 (hW:DataW.Whole enc Tryz.prog Tryz.f5.params.toList Rows.resolvePairSpec.vars false W args.toList ds gs before) (hk:Rows.uptoSmall H (ds++gs)=true):
 Calls Tryz.prog 5 args W fun e W'=>∃v,e= .returned v∧Rows.resolvePairSpec.post enc Tryz.prog Tryz.f5 false true false false W args v W':=by
 have hW':=hW
 have hlt:=hW.lt
 obtain⟨p,q,hA0,hV,rfl,hfz,hnd⟩:=hW
 have hA:DataW.TrodAll enc Tryz.prog W 0 (fun _=>true) true Tryz.f5.params.toList args.toList ds p:=hA0
 rw[Tryz.params5] at hA hval
 obtain⟨v0,vs0,d0,ds0,p0,q0,hargs,rfl,rfl,h0,r0⟩:=trodAll_cons hA
 obtain⟨v1,vs1,d1,ds1,p1,q1,rfl,rfl,rfl,h1,r1⟩:=trodAll_cons r0
 obtain⟨v2,vs2,d2,ds2,p2,q2,rfl,rfl,rfl,h2,r2⟩:=trodAll_cons r1
 obtain⟨v3,vs3,d3,ds3,p3,q3,rfl,rfl,rfl,h3,r3⟩:=trodAll_cons r2
 obtain⟨v4,vs4,d4,ds4,p4,q4,rfl,rfl,rfl,h4,r4⟩:=trodAll_cons r3
 obtain⟨rfl,rfl,rfl⟩:=trodAll_nil r4
 obtain rfl:args= #[v0,v1,v2,v3,v4]:=by cases args;simp_all
 obtain⟨rfl,rfl⟩:=trodVars_none hV
 have hb:=agw hk
 simp only[List.cons_append,List.nil_append,Rows.uptoBulkAll] at hb
 obtain⟨x0,rep0,k0⟩:=TL h0 (hval 0 22 v0 rfl rfl)
 obtain⟨x1,rep1,k1⟩:=UC h1 (hval 1 23 v1 rfl rfl)
 obtain⟨x2,rep2⟩:=Pi h2 (hval 2 3 v2 rfl rfl)
 obtain⟨x3,rep3⟩:=abq h3 (hval 3 55 v3 rfl rfl)
 obtain⟨x4,rep4⟩:=Xv h4 (hval 4 57 v4 rfl rfl)
 have hc:=KX x0 (acn (n:=1048576) (by omega) (by omega)) x1 (AU (n:=1048576) (by omega)).1 (fun e he=>⟨(AU (n:=1048576) (by omega)).2.1 e he,by have:=(AU (l:=x1) (n:=1048576) (by omega)).2.2 e he;omega⟩) x2 x3 x4
 refine(Kz hc (us:=[v0,v1,v2,v3,v4]) (.cons rep0 (.cons rep1 (.cons rep2 (.cons rep3 (.cons rep4 .nil)))))).mono fun e W' ⟨he,hbel⟩=>?_
 subst he
 have hl0:∀x∈p0,x.block<W.heap.size:=fun x hx=>hlt x (by simp[hx])
 have hl1:∀x∈p1,x.block<W.heap.size:=fun x hx=>hlt x (by simp[hx])
 have hl2:∀x∈p2,x.block<W.heap.size:=fun x hx=>hlt x (by simp[hx])
 have hl3:∀x∈p3,x.block<W.heap.size:=fun x hx=>hlt x (by simp[hx])
 have hl4:∀x∈p4,x.block<W.heap.size:=fun x hx=>hlt x (by simp[hx])
 refine⟨_,rfl,_,_,_,[],_,[],hW',trodAll_cons_mk (shut_bool Tryz.underlying4 _) trodAll_mk0,
  trodAll_cons_mk (Below.trod laidOut (by kernel_rfl) (agw (by kernel_rfl)) h0 hbel hl0) (trodAll_cons_mk (Below.trod laidOut (by kernel_rfl) (agw (by kernel_rfl)) h1 hbel hl1) (trodAll_cons_mk (Below.trod laidOut (by kernel_rfl) (agw (by kernel_rfl)) h2 hbel hl2) (trodAll_cons_mk (Below.trod laidOut (by kernel_rfl) (agw (by kernel_rfl)) h3 hbel hl3) (trodAll_cons_mk (Below.trod laidOut (by kernel_rfl) (agw (by kernel_rfl)) h4 hbel hl4) (trodAll_mk0))))),
  rfl,hbel.frame _,fun h=>by cases h⟩
@[reducible] def zTv:Value:= .agg #[.int .i64 0, .string ⟨#[]⟩, .int .i64 0, .string ⟨#[]⟩, .int .i64 0, .int .i64 0, .string ⟨#[]⟩, .int .i64 0, .string ⟨#[]⟩, .int .i64 0, .string ⟨#[]⟩]
@[reducible] def zRv:Value:= .agg #[.int .i64 0, .bool false, .bool false, .bool false, .int .u64 0, .int .i64 0, .bool false]
@[reducible] def Eu:Array Value:= #[.slice none 0 0, .slice none 0 0, .int .i64 0, .slice none 0 0,zRv]
theorem laid_met (os:Os):laidMet Tryz.prog Rows.resolvePairUptoRow.laid ((laidWorld os).forCall (fun _ _=>0) ⟨#[],Eu,[]⟩).memory:=
 laidMet_of_run' 8 (by kernel_rfl) (by kernel_rfl)
theorem reads (os:Os) {H:Type} (enc:TypeId×Value→H):∃places,DataW.whole enc Tryz.prog ((laidWorld os).forCall (fun _ _=>0) ⟨#[],Eu,[]⟩).memory Tryz.f5.params.toList Rows.resolvePairSpec.vars false Eu.toList 8=
 some ([.nil, .nil, .lit (.int .i64 0), .nil, .agg [.agg [.lit (.int .i64 0), .lit (.bool false), .lit (.bool false), .lit (.bool false)], .agg [.lit (.int .u64 0), .lit (.int .i64 0)], .lit (.bool false)]],[],places):=
 ⟨[],by kernel_rfl⟩
theorem Dx (os:Os) (started:os.Started) (H:Type) (enc:TypeId×Value→H) (F:Stop.Interp):
 ReturnsInHanded {} Tryz.checked os 5 .any ((Rows.OpenSpec.upto Rows.resolvePairSpec).preRow enc Tryz.prog Tryz.f5 Rows.resolvePairUptoRow.domain false Rows.resolvePairUptoRow.laid) (((Rows.OpenSpec.upto Rows.resolvePairSpec).at F).post enc Tryz.prog Tryz.f5 false true false false):=by
 obtain⟨places,hx⟩:=reads os enc
 refine returnsInHanded_of_row (C:=Tryz.checked) (s:=Rows.OpenSpec.upto Rows.resolvePairSpec) own started (by kernel_rfl) Tryz.func5
  (witness_row_at (enc:=enc) (C:=Tryz.checked) false (laidWorld os) Eu rfl (by kernel_rfl) (by kernel_rfl) (by kernel_rfl)
    (OpenSpec.preRow_of_cond 8 hx (by kernel_rfl) (fun k hk=>by cases hk;kernel_rfl) (by kernel_rfl) (laid_met os))) ?_
 intro W base args ds gs before hval hW q1 q2 q3 q4 q5 q6
 first|exact contract H enc W base args ds gs before hval hW (q1 _ rfl)|exact contract H enc W base args ds gs before hval hW (q2 _ rfl)|exact contract H enc W base args ds gs before hval hW (q4 _ rfl)|exact contract H enc W base args ds gs before hval hW (q5 _ rfl)|exact contract H enc W base args ds gs before hval hW (q6 _ rfl)
theorem LH:Rows.ResolvePairUptoSaid:=
 OpenClaim.holds_of_cond 5 Tryz.f5 rfl rfl rfl rfl rfl rfl rfl ⟨rfl,rfl,rfl,rfl,rfl⟩ rfl rfl rfl rfl rfl (by as_aux_lemma=>kernel_rfl) Tryz.func5
  (by unfold joinedFacts;simp only[afA];repeat' apply And.intro
      all_goals(as_aux_lemma=>kernel_rfl))
  (agw (by as_aux_lemma=>kernel_rfl)) (by unfold Func.isWrapper;first|(rw[if_pos (by decide+kernel)];kernel_rfl)|(rw[if_neg (by decide+kernel)];exact⟨rfl,rfl⟩))
  (fun os started H enc _ F=>by rw[OpenClaim.pre_eq_preRow];exact Dx os started H enc F)
theorem plain (f:FuncId) (fn:Func) (hf:Tryz.pinned.checked.prog.funcNamed "stockyard/stockyardlaw17.ResolvePair"=some f) (hfn:Tryz.pinned.checked.prog.funcs[f]? =some fn):
 false=Tryz.pinned.checked.prog.looks []∧∀(j:Nat) t,fn.params[j]? =some t→Tryz.pinned.checked.prog.wantsStandIn t=false:=by
 obtain rfl:f=5:=Option.some.inj ((show Tryz.prog.funcNamed "stockyard/stockyardlaw17.ResolvePair"=some 5 by kernel_rfl).symm.trans hf) |>.symm
 obtain rfl:fn=Tryz.f5:=(Option.some.inj (Tryz.func5.symm.trans hfn)).symm
 refine⟨by kernel_rfl,fun j t ht=>?_⟩
 rw[Tryz.params5] at ht
 have hm:t∈ #[22,23,3,55,57]:=Array.mem_of_getElem? ht
 simp only[List.mem_toArray,afr,agW,ajr] at hm
 rcases hm with rfl|rfl|rfl|rfl|rfl
 ·exact(show Tryz.prog.wantsStandIn 22=false by kernel_rfl)
 ·exact(show Tryz.prog.wantsStandIn 23=false by kernel_rfl)
 ·exact(show Tryz.prog.wantsStandIn 3=false by kernel_rfl)
 ·exact(show Tryz.prog.wantsStandIn 55=false by kernel_rfl)
 ·exact(show Tryz.prog.wantsStandIn 57=false by kernel_rfl)
end Go.Proofs.YtcpgicfphakdaaaGreatDoor.pairC
namespace Go.Proofs.YtcpgicfphakdaaaGreatDoor
theorem pair_card:Rows.ResolvePairUptoCardSaid:=
 Claim7.holds_tied_plain_at .later [] _ _ _ _ pairC.LH (fun _ h=>by cases h) (by kernel_rfl) (fun _ h=>by cases h) resolvePairUpto_row_tie rfl ⟨rfl,rfl⟩ (by kernel_rfl) rfl pairC.plain (by kernel_rfl)
end Go.Proofs.YtcpgicfphakdaaaGreatDoor
#print axioms Go.Proofs.YtcpgicfphakdaaaGreatDoor.pair_card
