/- A part of the proof. -/
import Derived.Test.YtcpgicfphakdaaaGreatDoorRT2
import Derived.Test.YtcpgicfphakdaaaGreatDoorRH1
set_option linter.all false
namespace Go.Proofs.YtcpgicfphakdaaaGreatDoor
open Go.Ab Tys
variable [Dr]
def ae5.kk:=p3 (p12 kB kG kS Tryz.ntmps121 Tryz.underlying4 Tryz.underlying9 kZ Qz Za iI EC IL) (p12 J8 abM abZ abm Gp zI Cf F7 Mc NU LU F9) (p11 Uk uK rJ YD acG ny WC P7 SQ jy Tryz.results121)
set_option maxRecDepth 100000 in
set_option maxHeartbeats 8000000 in
open ae5 in
theorem aaq (d:bK) (c:o6) (i:Nat) (hi:i<c.edits.length) (hd:d.revs.length≤1000000) (hc:∀e∈c.edits,eOK e) (hl:c.edits.length≤1000000):
 AC Tryz.prog 121 [sH d,VR c,I .i64 i] [] (fun r st=>(∃e:Int,r=I .i64 e∧(e=0→Bh d c i (c.edits.getD i fF)))∧st=[]):=by
 have ei:(c.edits.map iC).getD i []=iC (c.edits.getD i fF):=bi iC c.edits i fF hi
 have ei2:(c.edits.map iC).getD (i-1) []=iC (c.edits.getD (i-1) fF):=bi iC c.edits (i-1) fF (by omega)
 have hm:eOK (c.edits.getD i fF):=hc _ (by rw[List.getD_eq_getElem?_getD,List.getElem?_eq_getElem hi];simp)
 have hm2:eOK (c.edits.getD (i-1) fF):=hc _ (by rw[List.getD_eq_getElem?_getD,List.getElem?_eq_getElem (by omega:i-1<c.edits.length)];simp)
 have h1:((i:Int)-1).toNat=i-1:=by omega
 have h0:(fun n:Nat=>n) i=i:=rfl
 generalize hp:c.edits.getD (i-1) fF=p at ei2 hm2
 generalize he:c.edits.getD i fF=e at ei hm
 unfold eOK at hm hm2
 have hpc:=Gj e.path (by omega)
 cases ep:aV e.path with
 |none=>
  rw[ep] at hpc
  simp only[gZ,pB,Option.isSome] at hpc
  refine bV Tryz.func121 Tryz.ntmps121 fun x hx=>?_
  (repeat (first|refine nx @ei ?_|refine cf (hpc) ?_))
  refine af ?_ ?_
  ·intro _
   try refine nv ?_
   refine rA [] ?_
   refine⟨?_,rfl⟩
   exact⟨_,rfl,fun h=>absurd h (by decide)⟩
  ·intro h;simp at h
 |some l=>
  rw[ep] at hpc
  simp only[gZ,pB,Option.isSome] at hpc
  refine bV Tryz.func121 Tryz.ntmps121 fun x hx=>?_
  (repeat (first|refine nx @ei ?_|refine cf (hpc) ?_))
  refine af ?_ ?_
  ·intro _
   try refine nv ?_
   refine rA [] ?_
   refine⟨?_,rfl⟩
   exact⟨_,rfl,fun h=>absurd h (by decide)⟩
  intro _
  refine aJ ?_
  refine dx ([(47,I .i64 (ord p.path e.path))]) (p2 @h1 @ei2) ?_ ?_
  ·simp only[All,List.cons_append,List.nil_append,dI,List.mem_cons,List.not_mem_nil,or_false,forall_eq_or_imp,forall_eq,aZ,aN,dH,aO,bF,and_true,true_and,implies_true,List.length_map,List.length_cons,List.length_nil,aQ,jo,dm]
   repeat' (first|exact trivial|exact Nc _ _ hm2 hm|refine And.intro ?_ ?_|intro _|assumption|rfl|omega|(rw[Bool.not_eq_true'];assumption)|(simp;done)|(simp only[decide_eq_true_eq] at*;omega)|(simp_all;done))
  refine aJ ?_
  refine af ?_ ?_
  ·intro _
   try refine nv ?_
   refine rA [] ?_
   refine⟨?_,rfl⟩
   exact⟨_,rfl,fun h=>absurd h (by decide)⟩
  intro ho
  have ho':0<i→ord p.path e.path<0:=by
   intro hi0
   rw[show decide ((0:Int)<(i:Int))=true by simp;omega] at ho
   simpa using ho
  (repeat (first|refine nv ?_|refine cf (Md d e.path hd) ?_))
  refine af ?_ ?_
  ·intro _
   try refine nv ?_
   refine rA [] ?_
   refine⟨?_,rfl⟩
   exact⟨_,rfl,fun h=>absurd h (by decide)⟩
  intro ha
  try refine nv ?_
  refine af ?_ ?_
  ·intro _
   try refine nv ?_
   refine rA [] ?_
   refine⟨?_,rfl⟩
   exact⟨_,rfl,fun h=>absurd h (by decide)⟩
  intro hb
  have hb':e.prev=dh d e.path:=by simpa using hb
  try refine nv ?_
  refine af ?_ ?_
  ·intro h4
   have h4':e.act=4:=by simpa using h4
   (repeat (first|refine nv ?_|refine cf (Md d e.frm hd) ?_))
   refine af ?_ ?_
   ·intro _
    try refine nv ?_
    refine rA [] ?_
    refine⟨?_,rfl⟩
    exact⟨_,rfl,fun h=>absurd h (by decide)⟩
   intro hf
   have hok:(e.act=3∨e.act=5→e.sum=0∧e.size=0)→Bh d c i e:=by
    intro hgo
    refine⟨by rw[ep];rfl,by rw[hp];exact ho',?_,?_,?_,hb',fun _=>?_,hgo⟩
    ·simp at ha;omega
    ·simp at ha;omega
    ·simp[h4'] at ha⊢;exact ha
    ·simp at hf;exact⟨hf.1.1,hf.1.2,hf.2⟩
   (repeat (first|refine nv ?_|refine cf (Ux _ _ _ _) ?_))
   refine af ?_ ?_
   ·intro _
    try refine nv ?_
    refine rA [] ?_
    refine⟨?_,rfl⟩
    exact⟨_,rfl,fun h=>absurd h (by decide)⟩
   intro _
   (repeat (first|refine nv ?_|refine cf (zk d e.path hd) ?_|refine cf (FP c e) ?_|refine cf (NR _) ?_))
   refine af ?_ ?_
   ·intro _
    try refine nv ?_
    refine rA [] ?_
    refine⟨?_,rfl⟩
    exact⟨_,rfl,fun h=>absurd h (by decide)⟩
   intro hg
   try refine nv ?_
   refine rA [] ?_
   refine⟨?_,rfl⟩
   refine⟨0,rfl,fun _=>he▸hok ?_⟩
   intro ha
   have hgo:gone (made c e)=true:=by rcases ha with h9|h9<;>simp[gone,made,h9]
   rw[hgo] at hg
   simp at hg
   exact hg.2
  ·intro h4
   have h4':¬e.act=4:=by simpa using h4
   try refine nv ?_
   refine af ?_ ?_
   ·intro _
    try refine nv ?_
    refine rA [] ?_
    refine⟨?_,rfl⟩
    exact⟨_,rfl,fun h=>absurd h (by decide)⟩
   intro hf
   have hok:(e.act=3∨e.act=5→e.sum=0∧e.size=0)→Bh d c i e:=by
    intro hgo
    refine⟨by rw[ep];rfl,by rw[hp];exact ho',?_,?_,?_,hb',fun h=>absurd h h4',hgo⟩
    ·simp at ha;omega
    ·simp at ha;omega
    ·simp[h4'] at ha⊢;cases hl2:live d e.path<;>simp[hl2] at ha⊢ <;>exact ha.2
   (repeat (first|refine nv ?_|refine cf (Ux _ _ _ _) ?_))
   refine af ?_ ?_
   ·intro _
    try refine nv ?_
    refine rA [] ?_
    refine⟨?_,rfl⟩
    exact⟨_,rfl,fun h=>absurd h (by decide)⟩
   intro _
   (repeat (first|refine nv ?_|refine cf (zk d e.path hd) ?_|refine cf (FP c e) ?_|refine cf (NR _) ?_))
   refine af ?_ ?_
   ·intro _
    try refine nv ?_
    refine rA [] ?_
    refine⟨?_,rfl⟩
    exact⟨_,rfl,fun h=>absurd h (by decide)⟩
   intro hg
   try refine nv ?_
   refine rA [] ?_
   refine⟨?_,rfl⟩
   refine⟨0,rfl,fun _=>he▸hok ?_⟩
   intro ha
   have hgo:gone (made c e)=true:=by rcases ha with h9|h9<;>simp[gone,made,h9]
   rw[hgo] at hg
   simp at hg
   exact hg.2
end Go.Proofs.YtcpgicfphakdaaaGreatDoor
