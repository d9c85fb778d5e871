/- A part of the proof. -/
import Derived.Test.YtcpgicfphakdaaaGreatDoorRT5
import Derived.Test.YtcpgicfphakdaaaGreatDoorRT3
set_option linter.all false
namespace Go.Proofs.YtcpgicfphakdaaaGreatDoor
open Go.Ab Tys
variable [Dr]
theorem adz {β:Type} (m:List (bP×(Value×List β))):∀e∈(bJ kF vV m).map fA,e.1.1=true∧dm [.str, .int .i64] e.1.2:=by
 intro e he
 simp only[bJ,List.mem_map] at he
 obtain⟨_,⟨f,_,rfl⟩,rfl⟩:=he
 exact⟨rfl,by simp[fA,kC,dm]⟩
theorem acP {β:Type} (m:List (bP×(Value×List β))) (p:ByteArray) (n:Int):fP [C.d (.v (.string p)),C.d (.v (.int .i64 n))] ((bJ kF vV m).map fA)=(aB m ⟨p,n⟩).map fun v=>(false,[C.d (.v v.1)]):=
 pg (ve:=vV) xW m ⟨p,n⟩
theorem acd (dom:Nat→Bool) (n:Nat) (x:D):aN dom (List.replicate n (C.d x))=True:=by
 refine eq_true ?_
 induction n with
 |zero=>trivial
 |succ n ih=>exact⟨trivial,ih⟩
structure Ue (rs:List jk) (G:List (bP×(Value×List jk))) (ps:List (Value×List (List D))):Prop where
 perm:ps.Perm (lV bg G)
 look:∀f,(aB (Jg G) f).getD []=rs.filter fun r=>decide ((⟨r.to,r.num⟩:bP)=f)
 ne:∀f,aB (Jg G) f≠some []
theorem Ue.step {rs:List jk} {G:List (bP×(Value×List jk))} {ps ps':List (Value×List (List D))} (h:Ue rs G ps) (r:jk) (v:Value) (zs:List jk) (hz:zs=(aB (Jg G) ⟨r.to,r.num⟩).getD []++[r])
 (hp:ps'.Perm (lV bg (jg G ⟨r.to,r.num⟩ (v,zs)))):Ue (rs++[r]) (jg G ⟨r.to,r.num⟩ (v,zs)) ps':=by
 refine⟨hp,?_,?_⟩
 ·intro f
  rw[Dv,jh,List.filter_append,←h.look f]
  by_cases e:f=⟨r.to,r.num⟩
  ·subst e;rw[if_pos rfl,hz];simp
  ·rw[if_neg e]
   have:List.filter (fun r'=>decide ((⟨r'.to,r'.num⟩:bP)=f)) [r]=[]:=by simp;exact fun h=>e h.symm
   rw[this,List.append_nil]
 ·intro f
  rw[Dv,jh]
  split
  ·rw[hz];simp
  ·exact h.ne f
theorem mX.adD {d:bK} {k:Nat} {L:jv} {me:List (Int×List Int)} (h:mX d k L me):aB me (k:Int)=none:=by
 have h1:=h.mem (k:Int) (by omega)
 have h2:(List.range k).filter (fun j=>decide (L.fst.getD j 0=(k:Int)))=[]:=List.filter_eq_nil_iff.2 fun j hj=>by
  have hj:j<k:=by simpa using hj
  have hl:j<d.revs.length:=by have:=h.kn;omega
  have hv:=List.getElem?_eq_getElem hl
  by_cases w5:(d.revs[j]).act=5
  ·have:=(h.f5 j _ hj hv w5).1
   simp only[decide_eq_true_eq];omega
  ·have:=(h.fm j _ hj hv w5).2
   simp only[decide_eq_true_eq];omega
 rw[h2] at h1
 cases hc:aB me (k:Int) with
 |none=>rfl
 |some l=>rw[hc] at h1;simp at h1;subst h1;exact absurd hc (h.mne _)
theorem mX.ZN {d:bK} {k:Nat} {L:jv} {me:List (Int×List Int)} (h:mX d k L me) {u:Nat} (hu:u<k) (h0:0≤L.fst.getD u 0):∃ys,aB me (L.fst.getD u 0)=some ys∧ys.length≤k:=by
 have h1:=h.mem (L.fst.getD u 0) h0
 cases hc:aB me (L.fst.getD u 0) with
 |none=>
  exfalso
  rw[hc] at h1
  simp only[Option.getD] at h1
  have:u∈(List.range k).filter (fun j=>decide (L.fst.getD j 0=L.fst.getD u 0)):=by simp[hu]
  rw[List.map_eq_nil_iff.1 h1.symm] at this
  cases this
 |some l=>
  rw[hc] at h1
  simp only[Option.getD] at h1
  refine⟨l,rfl,?_⟩
  rw[h1,List.length_map]
  exact Nat.le_trans (List.length_filter_le ..) (by simp)
theorem ab4 (m:List (bP×Int)) (p:ByteArray) (n k:Int):dS (true,[C.d (.v (.string p)),C.d (.v (.int .i64 n))]) (false,[C.d (.v (.int .i64 k))]) ((bJ kF vI m).map fA)=(bJ kF vI (jg m ⟨p,n⟩ k)).map fA:=CB (ve:=vI) xW m ⟨p,n⟩ k
theorem Ns (m:List (ByteArray×Int)) (p:ByteArray) (k:Int):dS (false,[C.d (.v (.string p))]) (false,[C.d (.v (.int .i64 k))]) ((bJ Bg vI m).map fA)=(bJ Bg vI (jg m p k)).map fA:=CB (ve:=vI) UI m p k
theorem mM (m:List (ByteArray×Int)) (p:ByteArray):fP [C.d (.v (.string p))] ((bJ Bg vI m).map fA)=(aB m p).map fun v=>(false,[C.d (.v (.int .i64 v))]):=pg (ve:=vI) UI m p
theorem ZM (m:List (bP×List jk)) (p:ByteArray) (n:Int):fP [C.d (.v (.string p)),C.d (.v (.int .i64 n))] ((bJ kF (fun l:List jk=>(false,[D.ps 6 (l.map bg)])) m).map fA)=(aB m ⟨p,n⟩).map fun l=>(false,[C.d (.ps 6 (l.map bg))]):=
 pg (ve:=fun l:List jk=>(false,[D.ps 6 (l.map bg)])) xW m ⟨p,n⟩
theorem adi (m:List (bP×List jk)):∀e∈(bJ kF (fun l:List jk=>(false,[D.ps 6 (l.map bg)])) m).map fA,e.1.1=true∧dm [.str, .int .i64] e.1.2:=by
 intro e he
 simp only[bJ,List.mem_map] at he
 obtain⟨_,⟨f,_,rfl⟩,rfl⟩:=he
 exact⟨rfl,by simp[fA,kC,dm]⟩
theorem qH (m:List (ByteArray×Int)):∀e∈(bJ Bg vI m).map fA,e.1.1=false∧dm [.str] e.1.2:=by
 intro e he
 simp only[bJ,List.mem_map] at he
 obtain⟨_,⟨f,_,rfl⟩,rfl⟩:=he
 exact⟨rfl,by simp[fA,kC,dm]⟩
def z24.kk:=p4 (XD kB kG kS kM Tryz.ntmps24 Tryz.underlying27 Tryz.underlying28 kZ lL iI yU sV mf Dq Aj) (XD Pj sU Dh nZ oI jD jf jA zx Du tC zn zM zA uq) (XD Gn Vh Gm MP Ph xA Ru Tt KJ JV Vs adl GY uO Ib) (p13 uK rJ sK ny Ji Il VI Wu jy aas ZY CJ Tryz.results24)
set_option maxRecDepth 100000 in
set_option maxHeartbeats 16000000 in
open z24 in
theorem Dt (d:bK) (hg:Good d.revs) (hn:d.revs.length≤512) (hm:d.recs.length≤512):
 AC Tryz.prog 24 [sH d] [] (fun r st=>(∃L la me,kY d d.revs.length L me∧wW d d.revs.length la∧r= .tup [(false,[.pp (sG L la me)]),pB true])∧st=[]):=by
 refine bV Tryz.func24 Tryz.ntmps24 fun x hx=>?_
 try refine nv ?_
 refine af ?_ ?_
 ·intro h
  exfalso
  rw[show decide (512<(d.revs.length:Int))=false by simp;omega,show decide (512<(d.recs.length:Int))=false by simp;omega] at h
  cases h
 intro _
 refine aJ ?_
 refine dx ([]) @Int.toNat_natCast ?_ ?_
 ·exact rC
 refine aJ ?_
 refine aG (s':=⟨132,[(1, .c (.ptr 1 0)),(5, .c (.ptr 1000 0))],jZ (BB d) [] []++[(1, .box [.d (.ps 12 (d.revs.map ax)), .d (.ps 6 (d.recs.map bg))])]⟩) ?_ ?_
 ·((try simp only[BB,cu]);exact enS @acd (fun i=>if i=1000 then 44 else if i=1001 then 29 else if i=1002 then 31 else if i=1003 then 33 else if i=1004 then 35 else if i=1005 then 36 else if i=1006 then 38 else if i=1007 then 40 else if i=1008 then 42 else i))
 try refine nv ?_
 refine mg (EN (id:=49) (sz:=6) rfl (by omega)) ?_
 refine dM ?_
 refine ag (ι:=Nat×List (bP×(Value×List jk))×List (Value×List (List D))) (I:=fun j=>⟨132,[(1, .c (.ptr 1 0)),(5, .c (.ptr 1000 0)),(6, .c (.mp 1010)),(50, .c (.d (.ps 6 (d.recs.map bg)))),(51,I .i64 d.recs.length),(52,I .i64 j.1)],
  jZ (BB d) [] []++[(1, .box [.d (.ps 12 (d.revs.map ax)), .d (.ps 6 (d.recs.map bg))]),(1010, .map ((bJ kF vV j.2.1).map fA)),(1011, .pool 6 j.2.2)]⟩)
  (Inv:=fun j=>j.1≤d.recs.length∧Ue (d.recs.take j.1) j.2.1 j.2.2) (μ:=fun j=>d.recs.length-j.1) (0,[],[]) ⟨by simp,by constructor<;>simp[lV,Jg,aB]⟩ ?_ ?_
 ·exact uY (fun i=>if i=1010 then 48 else if i=1011 then 49 else i)
 rintro⟨j,G,ps⟩ ⟨hj,hG⟩
 simp only at hj hG⊢
 try refine nv ?_
 refine af ?_ ?_
 ·intro hlt
  have hlt':j<d.recs.length:=by simpa using hlt
  obtain⟨r,hr,he,htk⟩:=round bg d.recs j mr hlt'
  have hFT:List.filter (fun r'=>decide ((⟨r'.to,r'.num⟩:bP)=⟨r.to,r.num⟩)) [r]=[r]:=by simp
  cases hk:aB G ⟨r.to,r.num⟩ with
  |none=>
   have hk2:aB (Jg G) ⟨r.to,r.num⟩=none:=by rw[qY,hk];rfl
   try refine nx @he ?_
   refine Ey (id:=1010) (es:=(bJ kF vV G).map fA) (ak:=uI ⟨r.to,r.num⟩) (p:=(true,[C.d (.v (.string r.to)),C.d (.v (.int .i64 r.num))])) (by simp) Tt xA Ib rfl rfl rfl rfl rfl (by simp[dm]) (adz G) ?_
   intro β
   simp only[acP,hk,Option.map_none,Option.getD]
   refine dM ?_
   try refine nv ?_
   refine Ar rfl rfl rfl rfl rfl (CQ _ _ _) ?_
   rw[Ab.qg]
   refine dM ?_
   refine aJ ?_
   refine UF _ (Dz xW bg (mid:=1010) (pid:=1011) (pid':=2002) (aid:=67) (G:=G) (k:=⟨r.to,r.num⟩) (ys:=[r]) (ps:=ps) rfl rfl rfl rfl (by simp) rfl) ?_
   intro v
   refine dM ?_
   try refine nv ?_
   refine⟨(j+1,jg G ⟨r.to,r.num⟩ (v,[r]),(v,[r].map bg)::ps),⟨by simp;omega,?_⟩,by simp;omega,?_⟩
   ·simp only[htk];exact hG.step r v [r] (by rw[hk2];rfl) (QT bg hk hG.perm)
   ·exact uY (fun i=>if i=1011 then 2002 else i)
  |some g=>
   obtain⟨v0,ys⟩:=g
   have hk2:aB (Jg G) ⟨r.to,r.num⟩=some ys:=by rw[qY,hk];rfl
   have hyl:ys.length≤512:=by
    have h1:=hG.look ⟨r.to,r.num⟩
    rw[hk2] at h1
    have h2:=List.length_filter_le (fun r':jk=>decide ((⟨r'.to,r'.num⟩:bP)=⟨r.to,r.num⟩)) (d.recs.take j)
    rw[←h1] at h2
    simp at h2;omega
   have hkk:nT [C.d (.v (.string r.to)),C.d (.v (.int .i64 r.num))] [C.d (.v (.string r.to)),C.d (.v (.int .i64 r.num))]=true:=by simp[nT,Hy]
   have hfi:=IU (true,[C.d (.v (.string r.to)),C.d (.v (.int .i64 r.num))]) (false,[.ms 2003 6 0 ys.length]) ((bJ kF vV G).map fA) hkk
   have hii:=fun w=>Nh (true,[C.d (.v (.string r.to)),C.d (.v (.int .i64 r.num))]) (false,[.ms 2003 6 0 ys.length]) w ((bJ kF vV G).map fA) hkk
   simp only at hfi hii
   try refine nx @he ?_
   refine UU xW bg (mid:=1010) (pid:=1011) (pid':=2001) (aid:=2003) rfl rfl hG.perm hk rfl rfl (by decide) ?_
   intro ps' hpe
   refine dM ?_
   refine Ey (id:=1010) (es:=dS (true,[C.d (.v (.string r.to)),C.d (.v (.int .i64 r.num))]) (false,[.ms 2003 6 0 ys.length]) ((bJ kF vV G).map fA)) (ak:=uI ⟨r.to,r.num⟩) (p:=(true,[C.d (.v (.string r.to)),C.d (.v (.int .i64 r.num))])) (by simp) Tt xA Ib rfl rfl rfl rfl rfl (by simp[dm]) (TT _ _ _ _ (adz G)) ?_
   intro β
   simp only[hfi,Option.getD]
   refine dM ?_
   try refine nv ?_
   refine Ar rfl rfl rfl rfl rfl (CQ _ _ _) ?_
   rw[Ab.qg]
   refine dM ?_
   simp only[hii]
   refine aJ ?_
   refine UF _ (Dz xW bg (mid:=1010) (pid:=2001) (pid':=2002) (aid:=67) (G:=G) (k:=⟨r.to,r.num⟩) (ys:=ys++[r]) (ps:=ps') rfl rfl (by simp[Ab.get]) (by simp) (by simp) rfl) ?_
   intro v
   refine dM ?_
   try refine nv ?_
   refine⟨(j+1,jg G ⟨r.to,r.num⟩ (v,ys++[r]),(v,(ys++[r]).map bg)::ps'),⟨by simp;omega,?_⟩,by simp;omega,?_⟩
   ·simp only[htk];exact hG.step r v (ys++[r]) (by rw[hk2];rfl) (O0 bg hk hG.perm hpe)
   ·exact uY (fun i=>if i=1011 then 2002 else i)
 intro hge
 have hge':j=d.recs.length:=by have:¬j<d.recs.length:=by simpa using hge
                               omega
 rw[hge',List.take_length] at hG
 obtain⟨ff1,ff2⟩:=QN (ke:=kF) bg 6 G
 rw[ff1]
 refine aJ ?_
 refine aG (Fh (i:=6) (mid:=1010) (pid:=1011) (sz:=6) rfl rfl rfl (Ub bg hG.perm)) ?_
 rw[ff2]
 refine dM ?_
 obtain⟨M,hM⟩:∃M,M=Jg G:=⟨_,rfl⟩
 have hMl:∀f,(aB M f).getD []=jE d f:=by rw[hM];exact hG.look
 rw[←hM]
 clear ff1 ff2 hM hG
 try refine nv ?_
 refine mg (EN (id:=1009) (sz:=1) rfl (by omega)) ?_
 refine dM ?_
 refine ag (ι:=Nat×jv×List (ByteArray×Int)×List (Int×(Value×List Int))×List (Value×List (List D)))
  (I:=fun j=>⟨132,[(5, .c (.ptr 1000 0)),(6, .c (.d (.pm (bJ kF (fun l=>(false,[.ps 6 (l.map bg)])) M)))),(71,ja d.revs),(72,I .i64 d.revs.length),(73,I .i64 j.1)],
    jZ j.2.1 (bJ Bg vI j.2.2.1) (bJ kN vV j.2.2.2.1)++[(1009, .pool 1 j.2.2.2.2)]⟩)
  (Inv:=fun j=>j.1≤d.revs.length∧kY d j.1 j.2.1 (Jg j.2.2.2.1)∧wW d j.1 j.2.2.1∧j.2.2.2.2.Perm (lV eI j.2.2.2.1)) (μ:=fun j=>d.revs.length-j.1)
  (0,BB d,[],[],[]) ⟨by simp,by simpa[Jg] using kY.zero,wW.zero d,by simp[lV]⟩ ?_ ?_
 ·exact aW
 rintro⟨k,L,la,G2,ps2⟩ ⟨hk,hrun,hla,hpm⟩
 simp only at hk hrun hla hpm⊢
 have hI:=hrun.inv hg
 have hL:yY L:=⟨by rw[hI.revs];exact hn,by rw[hI.lp,hI.revs],by rw[hI.lf,hI.revs],by rw[hI.lc,hI.revs],by rw[hI.lo,hI.revs],by rw[hI.lr,hI.revs],fun p i h=>by
  obtain⟨j,v,rfl,h1,h2,h3⟩:=(hI.ix p i).1 h
  rw[hI.revs];omega⟩
 try refine nv ?_
 refine af ?_ ?_
 ·intro hlt
  have hlt':k<d.revs.length:=by simpa using hlt
  obtain⟨v,hv,he,htk⟩:=round ax d.revs k ai hlt'
  have hv':L.revs[k]? =some v:=by rw[hI.revs];exact hv
  have hnum:=hg.num k v hv
  try refine nx @he ?_
  refine oG [] (by simp) (by simp only[iV,kk,Nat.reduceAdd,Nat.reduceLT,Nat.reduceEqDiff, ↓reduceIte,reduceCtorEq];first|done|rfl) ⟨by simp,by simp,by simp[aZ,dH,aN,aO,bF]⟩ (uT v) ?_
  rintro r st' ⟨rfl,rfl⟩
  refine⟨by simp[lC],?_⟩
  simp only[kP,Nat.reduceEqDiff, ↓reduceIte,reduceCtorEq]
  refine gg ?_
  refine DI ?_
  refine yf ?_
  refine abW ?_
  by_cases h5:v.act=5
  ·refine aJ ?_
   refine dR (wr:=false) 1 (by simp only[kk,Nat.reduceAdd,Nat.reduceLT,Nat.reduceEqDiff, ↓reduceIte,reduceCtorEq];first|done|rfl) (by exact trivial) ?_
   refine qQ (jZ L (bJ Bg vI la) (bJ kN vV G2)) (WV L hL (bJ Bg vI la) (bJ kN vV G2) k v hv' h5 (by omega)) ?_
   rintro rv9 st' rfl<;>refine qU ?_
   try refine nx @h5 ?_
   refine af ?_ ?_
   ·intro h;cases h
   intro _
   have hrun2:kY d (k+1) (EY (aY L k v) (fileOf v) k) (Jg G2):= .away hrun hv h5
   have hrv1:(aY L k v).revs=d.revs:=hI.revs
   generalize aY L k v=L1 at hrun2 hrv1⊢
   have hpp:=hpm
   generalize G2=GG at hrun2 hpp⊢
   generalize ps2=pp2 at hpp⊢
   refine aJ ?_
   refine dx ([]) @ab4 ?_ ?_
   ·exact gI @xU
   refine aJ ?_
   have hl1:0<L1.revs.length:=by rw[hrv1];omega
   have hl1':(0:Int)<(L1.revs.length:Int):=by omega
   cases hla2:aB la v.path with
   |none=>
    have er0:=bi ax L1.revs 0 ai hl1
    generalize L1.revs.getD 0 ai=w0 at er0
    refine DD (wr:=false) ([]:List (Nat×AV)) (by simp only[kD,kk,Nat.reduceAdd,Nat.reduceLT,Nat.reduceEqDiff, ↓reduceIte,reduceCtorEq,mM,hla2,Option.map_none,Option.isSome];first|done|rfl) ?_ ?_
    ·exact gI @qH
    refine aJ ?_
    refine dx ([]) (p2 @er0 @Int.toNat_zero) ?_ ?_
    ·exact rC
    refine aJ ?_
    refine af ?_ ?_
    rotate_left
    ·intro h;cases h
    ·intro _
     refine aJ ?_
     refine dx ([]) @Ns ?_ ?_
     ·exact gI @qH
     try refine nv ?_
     refine⟨(k+1,EY L1 (fileOf v) k,jg la v.path k,GG,pp2),⟨hlt',hrun2,hla.step hv,hpp⟩,by simp;omega,?_⟩
     ((try simp only[cu,EY]);exact aW)
   |some z=>
    obtain⟨z1,z2⟩:=hla.bd hla2
    have hzn:=hla.num hg hv hla2
    rw[←hrv1] at hzn
    have z3:z<(L1.revs.length:Int):=by rw[hrv1];exact z2
    have erz:=bi ax L1.revs z.toNat ai (by omega)
    generalize L1.revs.getD z.toNat ai=w0 at erz hzn
    refine DD (wr:=false) ([]:List (Nat×AV)) (by simp only[kD,kk,Nat.reduceAdd,Nat.reduceLT,Nat.reduceEqDiff, ↓reduceIte,reduceCtorEq,mM,hla2,Option.isSome];first|done|rfl) ?_ ?_
    ·exact gI @qH
    refine aJ ?_
    refine dx ([]) @erz ?_ ?_
    ·exact rC
    refine aJ ?_
    refine af ?_ ?_
    ·intro _
     refine aJ ?_
     refine dx ([]) @Ns ?_ ?_
     ·exact gI @qH
     try refine nv ?_
     refine⟨(k+1,EY L1 (fileOf v) k,jg la v.path k,GG,pp2),⟨hlt',hrun2,hla.step hv,hpp⟩,by simp;omega,?_⟩
     ((try simp only[cu,EY]);exact aW)
    ·intro h
     have:¬w0.num<v.num:=by simpa using h
     exact absurd hzn this
  have hF:∀e∈(bJ kN vV G2).map fA,e.1.1=false∧dm [.int .i64] e.1.2:=by
   intro e he
   simp only[bJ,List.mem_map] at he
   obtain⟨_,⟨f,_,rfl⟩,rfl⟩:=he
   exact⟨rfl,by simp[fA,kC,dm]⟩
  refine mJ (ι:=List (Int×(Value×List Int))×List (Value×List (List D)))
   (fun j=>⟨132,[(5, .c (.ptr 1000 0)),(6, .c (.d (.pm (bJ kF (fun l=>(false,[.ps 6 (l.map bg)])) M)))),(10,I .i64 k),(11, .c (.ptr 11 0)),(12, .c (.ptr 12 0)),(71,ja d.revs),(72,I .i64 d.revs.length),(73,I .i64 k)],
     jZ (aY L k v) (bJ Bg vI la) (bJ kN vV j.1)++[(1009, .pool 1 j.2),(11, .box ((ax v).map C.d)),(12, .box ((fJ (fileOf v)).map C.d))]⟩)
   (fun j=>Jg j.1=Kz (Jg G2) (iP L k v) k∧j.2.Perm (lV eI j.1)) ?_ ?_
  ·rcases hI.look hg hv h5 with⟨h1,h2,h3⟩|⟨h1,u,w,a1,a2,a3,a4,a5,a6,a7,a8,a9⟩
   ·have hln:iP L k v=k:=by simp only[iP,h3]
    have hGk:aB G2 (k:Int)=none:=by
     have:=hI.adD
     rw[qY] at this
     cases hc:aB G2 (k:Int) with
     |none=>rfl
     |some g=>rw[hc] at this;cases this
    have hfe:fP [C.d (.v (.int .i64 k))] ((bJ kN vV G2).map fA)=none:=by
     have:=pg (ve:=vV) Ik G2 (k:Int)
     rw[hGk] at this;exact this
    refine aJ ?_
    refine dR (wr:=false) 1 (by simp only[kk,Nat.reduceAdd,Nat.reduceLT,Nat.reduceEqDiff, ↓reduceIte,reduceCtorEq];first|done|rfl) (by exact trivial) ?_
    refine qQ (jZ L (bJ Bg vI la) (bJ kN vV G2)) (V4 L hL (bJ Bg vI la) (bJ kN vV G2) k v hv' h5 (by omega) h2 hF hfe) ?_
    rintro rv9 st' rfl<;>refine qU ?_
    refine UF _ (Dz Ik eI (mid:=1005) (pid:=1009) (pid':=2002) (aid:=115) (G:=G2) (k:=(k:Int)) (ys:=[(k:Int)]) (ps:=ps2) rfl rfl rfl rfl (by simp) rfl) ?_
    intro vv
    refine dM ?_
    refine DI ?_
    refine⟨rfl,(jg G2 (k:Int) (vv,[(k:Int)]),(vv,[(k:Int)].map eI)::ps2),⟨?_,QT eI hGk hpm⟩,?_⟩
    ·rw[Dv,hln,Kz,qY,hGk];rfl
    ·generalize aY L k v=L1
     exact uY (fun i=>if i=1009 then 2002 else i)
   ·obtain⟨ys,hys,hyl⟩:=hI.ZN a1 a8
    have hln:iP L k v=L.fst.getD u 0:=by simp only[iP,a7,Int.toNat_natCast]
    generalize hln':L.fst.getD u 0=ln at hys hln a8 a9
    have hG:∃v0,aB G2 ln=some (v0,ys):=by
     rw[qY] at hys
     cases hc:aB G2 ln with
     |none=>rw[hc] at hys;cases hys
     |some g=>rw[hc] at hys;obtain⟨v0,y⟩:=g;simp at hys;exact⟨v0,by rw[hys]⟩
    obtain⟨v0,hGk⟩:=hG
    refine aJ ?_
    refine UU Ik eI (mid:=1005) (pid:=1009) (pid':=2001) (aid:=2003) rfl rfl hpm hGk rfl rfl (by decide) ?_
    intro ps' hpe
    refine dM ?_
    rw[show kC (kN ln)=(false,[C.d (.v (.int .i64 ln))]) from rfl]
    generalize hem:bJ kN vV G2=em2 at hF⊢
    refine dR (wr:=false) 1 (by simp only[kk,Nat.reduceAdd,Nat.reduceLT,Nat.reduceEqDiff, ↓reduceIte,reduceCtorEq];first|done|rfl) (by exact trivial) ?_
    refine oG (uw L (bJ Bg vI la) (dS (false,[C.d (.v (.int .i64 ln))]) (false,[.ms 2003 1 0 ys.length]) (em2.map fA))++[(2003,aQ 1 (ys.map eI))]) (by simp) (by simp only[kV, ↓reduceIte,Nat.reduceEqDiff,reduceCtorEq];first|done|rfl) ⟨by simp[Ab.get,dP,dQ],by simp[bY,bG,bH,bD,bI,bC,aA,aN,dH,ae,Ab.get,dP,dQ],by simp[aZ,dH,aN,ae,Ab.get,dP,dQ]⟩ (WZ L hL (bJ Bg vI la) em2 k v hv' h5 (by omega) u ln a6 (by omega) (by rw[Int.toNat_natCast];exact hln') a8 hF ys (by omega)) ?_
    rintro rv9 st' rfl<;>(refine⟨by simp[lC,ae,Ab.get],?_⟩;simp only[kP,Nat.reduceEqDiff, ↓reduceIte,reduceCtorEq,List.cons_append,List.nil_append])
    subst hem
    refine UF _ (Dz Ik eI (mid:=1005) (pid:=2001) (pid':=2002) (aid:=115) (G:=G2) (k:=ln) (ys:=ys++[(k:Int)]) (ps:=ps') rfl rfl rfl (by simp) (by simp) rfl) ?_
    intro vv
    refine dM ?_
    refine DI ?_
    refine⟨rfl,(jg G2 ln (vv,ys++[(k:Int)]),(vv,(ys++[(k:Int)]).map eI)::ps'),⟨?_,O0 eI hGk hpm hpe⟩,?_⟩
    ·rw[Dv,hln,Kz,qY,hGk];rfl
    ·generalize aY L k v=L1
     exact uY (fun i=>if i=1009 then 2002 else i)
  rintro⟨G3,ps3⟩ ⟨hG3,hp3⟩
  simp only at hG3 hp3⊢
  try refine nv ?_
  refine af ?_ ?_
  rotate_left
  ·intro h;exact absurd (by simpa using h) h5
  intro _
  have hL1:yY (aY L k v):=⟨hL.n,by simp[aY,hL.prev],by simp[aY,hL.fst],hL.car,hL.con,hL.cre,hL.ix⟩
  have hp1:(aY L k v).prev.getD k 0<(aY L k v).revs.length:=by
   show(L.prev.set k _).getD k 0<(L.revs.length:Int)
   rw[jL _ _ _ _ _ (by rw[hI.lp];exact hlt'),if_neg h5,if_pos rfl,hI.revs]
   rcases hI.look hg hv h5 with⟨h1,h2,h3⟩|⟨h1,u,w,a1,a2,a3,a4,a5,a6,a7,a8,a9⟩
   ·simp only[mW,h3];omega
   ·simp only[mW,a7];omega
  have hrl:(jE d (fileOf v)).length≤512:=Nat.le_trans (List.length_filter_le ..) hm
  refine mJ (ι:=jv)
   (fun L1=>⟨132,[(5, .c (.ptr 1000 0)),(6, .c (.d (.pm (bJ kF (fun l=>(false,[.ps 6 (l.map bg)])) M)))),(10,I .i64 k),(11, .c (.ptr 11 0)),(12, .c (.ptr 12 0)),(71,ja d.revs),(72,I .i64 d.revs.length),(73,I .i64 k)],
     jZ L1 (bJ Bg vI la) (bJ kN vV G3)++[(1009, .pool 1 ps3),(11, .box ((ax v).map C.d)),(12, .box ((fJ (fileOf v)).map C.d))]⟩)
   (fun L1=>∃c m cr,YM (aY L k v) k (jE d (fileOf v)) c m cr∧L1=BC (aY L k v) k c m cr) ?_ ?_
  ·have hMv:=hMl (fileOf v)
   refine aJ ?_
   cases hkM:aB M (fileOf v) with
   |none=>
    rw[hkM] at hMv
    simp only[Option.getD] at hMv
    have hkM':aB M ⟨(fileOf v).path,(fileOf v).num⟩=none:=hkM
    refine dR (wr:=false) 4 (by simp only[kk,Nat.reduceAdd,Nat.reduceLT,Nat.reduceEqDiff, ↓reduceIte,reduceCtorEq,ZM,hkM',Option.map_none,Option.getD];first|done|rfl) ?_ ?_
    ·exact gI (adi M)
    refine aG (fO (i:=90) 6 rfl) ?_
    refine dM ?_
    generalize hem:bJ kN vV G3=em3
    refine qQ (jZ (aY L k v) (bJ Bg vI la) em3) (Ic (aY L k v) hL1 (bJ Bg vI la) em3 k (by show k<L.revs.length;rw[hI.revs];exact hlt') hp1 [] (by simp)) ?_
    rintro rv9 st' ⟨c,m,cr,hA,rfl⟩<;>refine qU ?_
    subst hem
    refine DI ?_
    refine⟨rfl,BC (aY L k v) k c m cr,⟨c,m,cr,by rw[←hMv];exact hA,rfl⟩,?_⟩
    generalize BC (aY L k v) k c m cr=L1
    exact aW
   |some rs=>
    rw[hkM] at hMv
    simp only[Option.getD] at hMv
    have hkM':aB M ⟨(fileOf v).path,(fileOf v).num⟩=some rs:=hkM
    refine dR (wr:=false) 4 (by simp only[kk,Nat.reduceAdd,Nat.reduceLT,Nat.reduceEqDiff, ↓reduceIte,reduceCtorEq,ZM,hkM',Option.map_some,Option.getD];first|done|rfl) ?_ ?_
    ·exact gI (adi M)
    generalize hem:bJ kN vV G3=em3
    refine qQ (jZ (aY L k v) (bJ Bg vI la) em3) (Ic (aY L k v) hL1 (bJ Bg vI la) em3 k (by show k<L.revs.length;rw[hI.revs];exact hlt') hp1 rs (by rw[hMv];exact hrl)) ?_
    rintro rv9 st' ⟨c,m,cr,hA,rfl⟩<;>refine qU ?_
    subst hem
    refine DI ?_
    refine⟨rfl,BC (aY L k v) k c m cr,⟨c,m,cr,by rw[←hMv];exact hA,rfl⟩,?_⟩
    generalize BC (aY L k v) k c m cr=L1
    exact aW
  rintro L1 ⟨c,m,cr,hA,hS1⟩
  have hrun2:kY d (k+1) (EY L1 (fileOf v) k) (Jg G3):=by rw[hS1,hG3];exact .RI hrun hv h5 hA
  have hrv1:L1.revs=d.revs:=by rw[hS1];exact hI.revs
  clear hA hS1
  have hpp:=hp3
  generalize G3=GG at hrun2 hpp⊢
  generalize ps3=pp2 at hpp⊢
  refine aJ ?_
  refine dx ([]) @ab4 ?_ ?_
  ·exact gI @xU
  refine aJ ?_
  have hl1:0<L1.revs.length:=by rw[hrv1];omega
  have hl1':(0:Int)<(L1.revs.length:Int):=by omega
  cases hla2:aB la v.path with
  |none=>
   have er0:=bi ax L1.revs 0 ai hl1
   generalize L1.revs.getD 0 ai=w0 at er0
   refine DD (wr:=false) ([]:List (Nat×AV)) (by simp only[kD,kk,Nat.reduceAdd,Nat.reduceLT,Nat.reduceEqDiff, ↓reduceIte,reduceCtorEq,mM,hla2,Option.map_none,Option.isSome];first|done|rfl) ?_ ?_
   ·exact gI @qH
   refine aJ ?_
   refine dx ([]) (p2 @er0 @Int.toNat_zero) ?_ ?_
   ·exact rC
   refine aJ ?_
   refine af ?_ ?_
   rotate_left
   ·intro h;cases h
   ·intro _
    refine aJ ?_
    refine dx ([]) @Ns ?_ ?_
    ·exact gI @qH
    try refine nv ?_
    refine⟨(k+1,EY L1 (fileOf v) k,jg la v.path k,GG,pp2),⟨hlt',hrun2,hla.step hv,hpp⟩,by simp;omega,?_⟩
    ((try simp only[cu,EY]);exact aW)
  |some z=>
   obtain⟨z1,z2⟩:=hla.bd hla2
   have hzn:=hla.num hg hv hla2
   rw[←hrv1] at hzn
   have z3:z<(L1.revs.length:Int):=by rw[hrv1];exact z2
   have erz:=bi ax L1.revs z.toNat ai (by omega)
   generalize L1.revs.getD z.toNat ai=w0 at erz hzn
   refine DD (wr:=false) ([]:List (Nat×AV)) (by simp only[kD,kk,Nat.reduceAdd,Nat.reduceLT,Nat.reduceEqDiff, ↓reduceIte,reduceCtorEq,mM,hla2,Option.isSome];first|done|rfl) ?_ ?_
   ·exact gI @qH
   refine aJ ?_
   refine dx ([]) @erz ?_ ?_
   ·exact rC
   refine aJ ?_
   refine af ?_ ?_
   ·intro _
    refine aJ ?_
    refine dx ([]) @Ns ?_ ?_
    ·exact gI @qH
    try refine nv ?_
    refine⟨(k+1,EY L1 (fileOf v) k,jg la v.path k,GG,pp2),⟨hlt',hrun2,hla.step hv,hpp⟩,by simp;omega,?_⟩
    ((try simp only[cu,EY]);exact aW)
   ·intro h
    have:¬w0.num<v.num:=by simpa using h
    exact absurd hzn this
 intro hge
 have hge':k=d.revs.length:=by have:¬k<d.revs.length:=by simpa using hge
                               omega
 rw[hge'] at hrun hla
 have n1:=hL.prev
 have n2:=hL.fst
 have n3:=hL.car
 have n4:=hL.con
 have n5:=hL.cre
 obtain⟨ff1,ff2⟩:=QN (ke:=kN) eI 1 G2
 rw[ff1]
 refine aJ ?_
 refine aG (iG (bid:=1000) (id:=1001) (j:=1) (es:=bJ kF vI L.index) (by decide) rfl rfl rfl) ?_
 refine dM ?_
 refine aG (iG (bid:=1000) (id:=1002) (j:=2) (es:=bJ Bg vI la) (by decide) rfl rfl rfl) ?_
 refine dM ?_
 refine aG (dY (bid:=1000) (id:=1003) (j:=3) (ys:=L.prev.map eI) (by decide) rfl rfl rfl (by simp[n1])) ?_
 refine dM ?_
 refine aG (dY (bid:=1000) (id:=1004) (j:=4) (ys:=L.fst.map eI) (by decide) rfl rfl rfl (by simp[n2])) ?_
 refine dM ?_
 refine aG (Ff (bid:=1000) (mid:=1005) (pid:=1009) (j:=5) (sz:=1) rfl rfl rfl rfl (Ub eI hpm)) ?_
 rw[ff2]
 refine dM ?_
 refine aG (dY (bid:=1000) (id:=1006) (j:=6) (ys:=L.car.map jM) (by decide) rfl rfl rfl (by simp[n3])) ?_
 refine dM ?_
 refine aG (dY (bid:=1000) (id:=1007) (j:=7) (ys:=L.con.map jM) (by decide) rfl rfl rfl (by simp[n4])) ?_
 refine dM ?_
 refine aG (dY (bid:=1000) (id:=1008) (j:=8) (ys:=L.cre.map jM) (by decide) rfl rfl rfl (by simp[n5])) ?_
 refine dM ?_
 refine aG (yH (i:=5) (id:=1000) (cs:=sG L la (Jg G2)) rfl rfl) ?_
 refine dM ?_
 try refine nv ?_
 refine rA [] ?_
 refine⟨?_,rfl⟩
 exact⟨L,la,Jg G2,hrun,hla,rfl⟩
end Go.Proofs.YtcpgicfphakdaaaGreatDoor
