/- A part of the proof. -/
import Derived.Test.YtcpgicfphakdaaaGreatDoorRP41
import Derived.Test.YtcpgicfphakdaaaGreatDoorRH1
set_option linter.all false
namespace Go.Proofs.YtcpgicfphakdaaaGreatDoor
open Go.Ab Tys
variable [Dr]
def adT.kk:=p3 (p12 kB kG kS Tryz.ntmps121 Tryz.underlying4 Tryz.underlying9 ny OH Zz iK Du FC) (p12 Kv abx abk aaU EY yJ Ak EW Lr MO KQ EE) (p11 Uy uz uB X9 ab7 nT We PE Qz kC Tryz.results121)
set_option maxRecDepth 100000 in
set_option maxHeartbeats 8000000 in
open adT in
theorem ZU (d:bJ) (c:oD) (i:Nat) (hi:i<c.edits.length) (hd:d.revs.length≤1000000) (hc:∀e∈c.edits,eOK e) (hl:c.edits.length≤1000000):
 AC Tryz.prog 121 [uY d,Vb c,I .i64 i] [] (fun r st=>(∃e:Int,r=I .i64 e∧(e=0→Ae d c i (c.edits.getD i dU)))∧st=[]):=by
 have ei:(c.edits.map fM).getD i []=fM (c.edits.getD i dU):=bg fM c.edits i dU hi
 have ei2:(c.edits.map fM).getD (i-1) []=fM (c.edits.getD (i-1) dU):=bg fM c.edits (i-1) dU (by omega)
 have hm:eOK (c.edits.getD i dU):=hc _ (by rw[List.getD_eq_getElem?_getD,List.getElem?_eq_getElem hi];simp)
 have hm2:eOK (c.edits.getD (i-1) dU):=hc _ (by rw[List.getD_eq_getElem?_getD,List.getElem?_eq_getElem (by omega:i-1<c.edits.length)];simp)
 have h1:((i:Int)-1).toNat=i-1:=by omega
 have h0:(fun n:Nat=>n) i=i:=rfl
 generalize hp:c.edits.getD (i-1) dU=p at ei2 hm2
 generalize he:c.edits.getD i dU=e at ei hm
 unfold eOK at hm hm2
 have hpc:=LZ e.path (by omega)
 cases ep:aJ e.path with
 |none=>
  rw[ep] at hpc
  simp only[iJ,pB,Option.isSome] at hpc
  refine dA Tryz.func121 Tryz.ntmps121 fun x hx=>?_
  (repeat (first|refine nx @ei ?_|refine cf (hpc) ?_))
  refine aj ?_ ?_
  ·intro _
   try refine nv ?_
   refine rA [] ?_
   refine⟨?_,rfl⟩
   exact⟨_,rfl,fun h=>absurd h (by decide)⟩
  ·intro h;simp at h
 |some l=>
  rw[ep] at hpc
  simp only[iJ,pB,Option.isSome] at hpc
  refine dA Tryz.func121 Tryz.ntmps121 fun x hx=>?_
  (repeat (first|refine nx @ei ?_|refine cf (hpc) ?_))
  refine aj ?_ ?_
  ·intro _
   try refine nv ?_
   refine rA [] ?_
   refine⟨?_,rfl⟩
   exact⟨_,rfl,fun h=>absurd h (by decide)⟩
  intro _
  refine bC ?_
  refine dx ([(47,I .i64 (ord p.path e.path))]) (p2 @h1 @ei2) ?_ ?_
  ·simp only[All,List.cons_append,List.nil_append,dG,List.mem_cons,List.not_mem_nil,or_false,forall_eq_or_imp,forall_eq,aH,aB,cu,aG,bG,and_true,true_and,implies_true,List.length_map,List.length_cons,List.length_nil,aK,iZ,cZ]
   repeat' (first|exact trivial|exact Qu _ _ hm2 hm|refine And.intro ?_ ?_|intro _|assumption|rfl|omega|(rw[Bool.not_eq_true'];assumption)|(simp;done)|(simp only[decide_eq_true_eq] at*;omega)|(simp_all;done))
  refine bC ?_
  refine aj ?_ ?_
  ·intro _
   try refine nv ?_
   refine rA [] ?_
   refine⟨?_,rfl⟩
   exact⟨_,rfl,fun h=>absurd h (by decide)⟩
  intro ho
  have ho':0<i→ord p.path e.path<0:=by
   intro hi0
   rw[show decide ((0:Int)<(i:Int))=true by simp;omega] at ho
   simpa using ho
  (repeat (first|refine nv ?_|refine cf (UF d e.path hd) ?_))
  refine aj ?_ ?_
  ·intro _
   try refine nv ?_
   refine rA [] ?_
   refine⟨?_,rfl⟩
   exact⟨_,rfl,fun h=>absurd h (by decide)⟩
  intro ha
  try refine nv ?_
  refine aj ?_ ?_
  ·intro _
   try refine nv ?_
   refine rA [] ?_
   refine⟨?_,rfl⟩
   exact⟨_,rfl,fun h=>absurd h (by decide)⟩
  intro hb
  have hb':e.prev=dh d e.path:=by simpa using hb
  try refine nv ?_
  refine aj ?_ ?_
  ·intro h4
   have h4':e.act=4:=by simpa using h4
   (repeat (first|refine nv ?_|refine cf (UF d e.frm hd) ?_))
   refine aj ?_ ?_
   ·intro _
    try refine nv ?_
    refine rA [] ?_
    refine⟨?_,rfl⟩
    exact⟨_,rfl,fun h=>absurd h (by decide)⟩
   intro hf
   have hok:(o6 e.base e.kw e.xe=false∧0≤e.size)→(e.act=3∨e.act=5→e.sum=0∧e.size=0)→Ae d c i e:=by
    intro hty hgo
    refine⟨by rw[ep];rfl,by rw[hp];exact ho',?_,?_,?_,hb',fun _=>?_,hgo,hty⟩
    ·simp at ha;omega
    ·simp at ha;omega
    ·simp[h4'] at ha⊢;exact ha
    ·simp at hf;exact⟨hf.1.1,hf.1.2,hf.2⟩
   (repeat (first|refine nv ?_|refine cf (Tp _ _ _ _) ?_))
   refine aj ?_ ?_
   ·intro _
    try refine nv ?_
    refine rA [] ?_
    refine⟨?_,rfl⟩
    exact⟨_,rfl,fun h=>absurd h (by decide)⟩
   intro hty
   have hty':o6 e.base e.kw e.xe=false∧0≤e.size:=by
    cases ht:o6 e.base e.kw e.xe<;>simp[ht] at hty⊢
    omega
   (repeat (first|refine nv ?_|refine cf (MW d e.path hd) ?_|refine cf (Es c e) ?_|refine cf (L6 _) ?_))
   refine aj ?_ ?_
   ·intro _
    try refine nv ?_
    refine rA [] ?_
    refine⟨?_,rfl⟩
    exact⟨_,rfl,fun h=>absurd h (by decide)⟩
   intro hg
   try refine nv ?_
   refine rA [] ?_
   refine⟨?_,rfl⟩
   refine⟨0,rfl,fun _=>he▸hok hty' ?_⟩
   intro ha
   have hgo:gone (made c e)=true:=by rcases ha with h9|h9<;>simp[gone,made,h9]
   rw[hgo] at hg
   simp at hg
   exact hg.2
  ·intro h4
   have h4':¬e.act=4:=by simpa using h4
   try refine nv ?_
   refine aj ?_ ?_
   ·intro _
    try refine nv ?_
    refine rA [] ?_
    refine⟨?_,rfl⟩
    exact⟨_,rfl,fun h=>absurd h (by decide)⟩
   intro hf
   have hok:(o6 e.base e.kw e.xe=false∧0≤e.size)→(e.act=3∨e.act=5→e.sum=0∧e.size=0)→Ae d c i e:=by
    intro hty hgo
    refine⟨by rw[ep];rfl,by rw[hp];exact ho',?_,?_,?_,hb',fun h=>absurd h h4',hgo,hty⟩
    ·simp at ha;omega
    ·simp at ha;omega
    ·simp[h4'] at ha⊢;cases hl2:live d e.path<;>simp[hl2] at ha⊢ <;>exact ha.2
   (repeat (first|refine nv ?_|refine cf (Tp _ _ _ _) ?_))
   refine aj ?_ ?_
   ·intro _
    try refine nv ?_
    refine rA [] ?_
    refine⟨?_,rfl⟩
    exact⟨_,rfl,fun h=>absurd h (by decide)⟩
   intro hty
   have hty':o6 e.base e.kw e.xe=false∧0≤e.size:=by
    cases ht:o6 e.base e.kw e.xe<;>simp[ht] at hty⊢
    omega
   (repeat (first|refine nv ?_|refine cf (MW d e.path hd) ?_|refine cf (Es c e) ?_|refine cf (L6 _) ?_))
   refine aj ?_ ?_
   ·intro _
    try refine nv ?_
    refine rA [] ?_
    refine⟨?_,rfl⟩
    exact⟨_,rfl,fun h=>absurd h (by decide)⟩
   intro hg
   try refine nv ?_
   refine rA [] ?_
   refine⟨?_,rfl⟩
   refine⟨0,rfl,fun _=>he▸hok hty' ?_⟩
   intro ha
   have hgo:gone (made c e)=true:=by rcases ha with h9|h9<;>simp[gone,made,h9]
   rw[hgo] at hg
   simp at hg
   exact hg.2
end Go.Proofs.YtcpgicfphakdaaaGreatDoor
