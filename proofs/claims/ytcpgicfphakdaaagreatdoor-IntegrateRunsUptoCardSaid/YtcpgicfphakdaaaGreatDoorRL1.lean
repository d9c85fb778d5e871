/- A part of the proof. -/
import Derived.Test.YtcpgicfphakdaaaGreatDoorRT8
import Derived.Test.YtcpgicfphakdaaaGreatDoorRX11
import Derived.Test.YtcpgicfphakdaaaGreatDoorRK21
import Derived.Ground.NamesProg
import Derived.Shelf.Lay
import Derived.Shelf.Sort.Plain
import Derived.Shelf.Slices.In.SortNone
set_option maxRecDepth 100000
set_option maxHeartbeats 16000000
set_option linter.all false
namespace Go.Proofs.YtcpgicfphakdaaaGreatDoor
open Go.Ab Tys
variable [Dr]
def Em (s t:ByteArray):ByteArray×Bool:=if dP s t then(s.extract 0 (s.size-t.size),true) else(s,false)
def adQ.kk:=p6 kB kS Tryz.ntmps243 Tryz.underlying9 kC Tryz.results243
open adQ in
theorem Px (s t:ByteArray) (hs:s.size≤1000000) (ht:t.size≤1000000):AC Tryz.prog 243 [Str s,Str t] [] (fun r st=>r= .tup [pS (Em s t).1,pB (Em s t).2]∧st=[]):=by
 refine dA Tryz.func243 Tryz.ntmps243 fun x hx=>?_
 (repeat (first|refine nv ?_|refine cf (xE s t hs ht) ?_))
 refine aj ?_ ?_
 ·intro h
  have h':dP s t=false:=by simpa using h
  try refine nv ?_
  refine rA [] ?_
  refine⟨?_,rfl⟩
  simp only[Em,h',if_false,Bool.false_eq_true]
 intro h
 have h':dP s t=true:=by simpa using h
 have hl:=JJ h'
 have e:((s.size:Int)-t.size).toNat=s.size-t.size:=by omega
 try refine nx @e ?_
 refine rA [] ?_
 refine⟨?_,rfl⟩
 simp only[Em,h',if_true]
def ad6.kk:=p3 kB Tryz.ntmps200 Tryz.results200
open ad6 in
theorem Wl (s t:ByteArray) (hs:s.size≤1000000) (ht:t.size≤1000000):AC Tryz.prog 200 [Str s,Str t] [] (fun r st=>r= .tup [pS (Em s t).1,pB (Em s t).2]∧st=[]):=by
 refine dA Tryz.func200 Tryz.ntmps200 fun x hx=>?_
 (repeat (first|refine nv ?_|refine cf (Px s t hs ht) ?_))
 refine rA [] ?_
 refine⟨?_,rfl⟩
 rfl
def mpP (a c:ByteArray):ByteArray×Bool:=if aX a then((Em c (jY a)).1,(Em c (jY a)).2&&!decide ((Em c (jY a)).1=noS)) else(noS,decide (a=c))
theorem NR {a c:ByteArray} (hc:comp c=true):(mpP a c).2=(qw a c).2∧((qw a c).2=true→(mpP a c).1=(qw a c).1):=by
 unfold mpP
 cases ha:aX a with
 |false=>simp[qw,ha]
 |true=>
  rw[if_pos rfl]
  have hcc:=yc ha hc
  cases h:dP c (jY a) with
  |false=>simp[Em,h,hcc]
  |true=>
   have hl:=oJ h
   have e:(qw a c).1=c.extract 0 (c.size-(jY a).size):=by simp only[qw,ha,h,if_true]
   simp only[Em,h,if_true,Bool.true_and,e,implies_true,and_true]
   rw[hcc,h,Bool.true_and]
   have hz:(c.extract 0 (c.size-(jY a).size)).size=c.size-(jY a).size:=by rw[ByteArray.size_extract];omega
   by_cases e2:(jY a).size<c.size
   ·rw[decide_eq_true e2]
    have:¬c.extract 0 (c.size-(jY a).size)=noS:=by
     intro e3
     rw[e3] at hz
     have:noS.size=0:=rfl
     omega
    simp[this]
   ·rw[decide_eq_false e2]
    have e3:c.size-(jY a).size=0:=by omega
    rw[e3]
    have e4:c.extract 0 0=noS:=by
     have:c.extract 0 0=ByteArray.empty:=by simp
     rw[this];rfl
    rw[e4]
    simp only[decide_true,Bool.not_true]
theorem tq {a:ByteArray} (h:aX a=true):a.extract (Int.toNat 1) a.size=jY a:=by rw[jY,if_pos h];rfl
def z143.kk:=p7 kB kG kS Tryz.ntmps143 Tryz.underlying9 kC Tryz.results143
open z143 in
theorem BM (a c:ByteArray) (hs:a.size≤1000000) (hc:c.size≤1000000) (ha:eH a=true):AC Tryz.prog 143 [Str a,Str c] [] (fun r st=>r= .tup [pS (mpP a c).1,pB (mpP a c).2]∧st=[]):=by
 have his:=lN a
 rw[oK ha] at his
 have hl:=wO a
 refine dA Tryz.func143 Tryz.ntmps143 fun x hx=>?_
 (repeat (first|refine nv ?_|refine cf (his) ?_))
 refine aj ?_ ?_
 ·intro h
  have h':aX a=false:=by simpa using h
  try refine nv ?_
  refine rA [] ?_
  refine⟨?_,rfl⟩
  simp only[mpP,h',if_false,Bool.false_eq_true]
 intro h
 have h':aX a=true:=by simpa using h
 have h1:=(fG h').1
 have hcu:=Wl c (jY a) hc (by omega)
 (repeat (first|refine nx (tq h') ?_|refine cf (hcu) ?_))
 refine rA [] ?_
 refine⟨?_,rfl⟩
 simp only[mpP,h',if_true]
 cases(Em c (jY a)).2<;>rfl
def ad9.kk:=p6 kB kS Tryz.ntmps231 Tryz.underlying9 kC Tryz.results231
open ad9 in
theorem nZ (a b:ByteArray) (hs:a.size≤1000000) (hbs:b.size≤1000000) (ha:eH a=true) (hb:eH b=true):AC Tryz.prog 231 [Str a,Str b] [] (fun r st=>r=B (aY a b)∧st=[]):=by
 have hia:=lN a
 rw[oK ha] at hia
 have hib:=lN b
 rw[oK hb] at hib
 have hla:=wO a
 have hlb:=wO b
 refine dA Tryz.func231 Tryz.ntmps231 fun x hx=>?_
 try refine nv ?_
 refine aj ?_ ?_
 ·intro h
  have h':a=b:=by simpa using h
  subst h'
  try refine nv ?_
  refine rA [] ?_
  refine⟨?_,rfl⟩
  rw[xQ ha]
 intro h
 have h':¬a=b:=by simpa using h
 (repeat (first|refine nv ?_|refine cf (hib) ?_))
 refine aj ?_ ?_
 ·intro h2
  have h3:aX b=false:=by simpa using h2
  try refine nv ?_
  refine rA [] ?_
  refine⟨?_,rfl⟩
  simp[aY,h3,h']
 intro h2
 have h3:aX b=true:=by simpa using h2
 have hb1:=(fG h3).1
 (repeat (first|refine nv ?_|refine cf (hia) ?_))
 refine aj ?_ ?_
 ·intro h4
  have ha1:=(fG h4).1
  have hsu:=WM (jY a) (jY b) (by omega) (by omega)
  refine bC ?_
  refine dx ([(19,B (dP (jY a) (jY b)))]) (p2 (tq h4) (tq h3)) ?_ ?_
  ·exact iw @hsu
  try refine nv ?_
  refine rA [] ?_
  refine⟨?_,rfl⟩
  simp only[aY,h3,h4,if_true]
 intro h4
 have hca:comp a=true:=by rcases oO ha with h|⟨_,h⟩;rw[h] at h4;cases h4;exact h
 have hmp:=BM b a hbs hs hb
 rw[(NR hca).1] at hmp
 (repeat (first|refine nv ?_|refine cf (hmp) ?_))
 refine rA [] ?_
 refine⟨?_,rfl⟩
 simp only[aY,h3,h4,if_true,Bool.false_eq_true,if_false]
def D6 (n:Nat) (r:Bool) (m:Nat) (o:Bool):Bool:=if r&&o then true else if r then decide (n<m) else if o then decide (m<n) else decide (n=m)
def ael.kk:=p4 kB kG Tryz.ntmps178 Tryz.results178
open ael in
theorem IE (n m:Nat) (r o:Bool):AC Tryz.prog 178 [I .i64 n,B r,I .i64 m,B o] [] (fun x st=>x=B (D6 n r m o)∧st=[]):=by
 refine dA Tryz.func178 Tryz.ntmps178 fun x hx=>?_
 try refine nv ?_
 refine aj ?_ ?_
 ·intro h
  try refine nv ?_
  refine rA [] ?_
  refine⟨?_,rfl⟩
  have:(r&&o)=true:=by cases r<;>cases o<;>first|rfl|(exact absurd h (by decide))
  simp[D6,this]
 intro h
 have h0:(r&&o)=false:=by cases r<;>cases o<;>first|rfl|(exact absurd h (by decide))
 try refine nv ?_
 refine aj ?_ ?_
 ·intro h1
  try refine nv ?_
  refine rA [] ?_
  refine⟨?_,rfl⟩
  have h1':r=true:=by simpa using h1
  subst h1'
  have:o=false:=by simpa using h0
  subst this
  simp[D6]
 intro h1
 have h1':r=false:=by simpa using h1
 try refine nv ?_
 refine aj ?_ ?_
 ·intro h2
  have h2':o=true:=by simpa using h2
  try refine nv ?_
  refine rA [] ?_
  refine⟨?_,rfl⟩
  simp[D6,h1',h2']
 intro h2
 have h2':o=false:=by simpa using h2
 try refine nv ?_
 refine rA [] ?_
 refine⟨?_,rfl⟩
 simp only[D6,h1',h2',Bool.and_false,Bool.false_eq_true,if_false]
 rw[show decide ((n:Int)=m)=decide (n=m) from decide_eq_decide.2 (by omega)]
def zf (a b:ByteArray):Option ByteArray:=if aY a b then some a else if aY b a then some b else none
def ady.kk:=p3 kB Tryz.ntmps180 Tryz.results180
open ady in
theorem Pq (a b:ByteArray) (hs:a.size≤1000000) (hbs:b.size≤1000000) (ha:eH a=true) (hb:eH b=true):AC Tryz.prog 180 [Str a,Str b] [] (fun r st=>r= .tup [pS ((zf a b).getD noS),pB (zf a b).isSome]∧st=[]):=by
 have h1:=nZ a b hs hbs ha hb
 have h2:=nZ b a hbs hs hb ha
 refine dA Tryz.func180 Tryz.ntmps180 fun x hx=>?_
 (repeat (first|refine nv ?_|refine cf (h1) ?_))
 refine aj ?_ ?_
 ·intro h
  try refine nv ?_
  refine rA [] ?_
  refine⟨?_,rfl⟩
  simp[zf,h]
 intro h
 (repeat (first|refine nv ?_|refine cf (h2) ?_))
 refine aj ?_ ?_
 ·intro h3
  try refine nv ?_
  refine rA [] ?_
  refine⟨?_,rfl⟩
  simp[zf,h,h3]
 intro h3
 try refine nv ?_
 refine rA [] ?_
 refine⟨?_,rfl⟩
 simp[zf,h,h3]
end Go.Proofs.YtcpgicfphakdaaaGreatDoor
namespace Go.Proofs.YtcpgicfphakdaaaGreatDoor
open Go.Ab
theorem H6 {l:List bH} {h:bH}:h∈l↔∃i,i<l.length∧l.getD i dm=h:=by
 rw[List.mem_iff_getElem]
 constructor
 ·rintro⟨i,hi,e⟩;exact⟨i,hi,by rw[List.getD_eq_getElem?_getD,List.getElem?_eq_getElem hi];exact e⟩
 ·rintro⟨i,hi,e⟩;exact⟨i,hi,by rw[List.getD_eq_getElem?_getD,List.getElem?_eq_getElem hi] at e;exact e⟩
theorem VC {l:List bH} {k:Nat} (hk:k+1<l.length) (h:bH):h∈(l.set (k+1) (l.getD k dm)).set k (l.getD (k+1) dm)↔h∈l:=by
 have a:l.getD k dm=l[k]:=by rw[List.getD_eq_getElem?_getD,List.getElem?_eq_getElem (by omega)];rfl
 have b:l.getD (k+1) dm=l[k+1]:=by rw[List.getD_eq_getElem?_getD,List.getElem?_eq_getElem hk];rfl
 rw[a,b]
 constructor
 ·intro hm
  rcases List.mem_or_eq_of_mem_set hm with hm|rfl
  ·rcases List.mem_or_eq_of_mem_set hm with hm|rfl
   ·exact hm
   ·exact List.getElem_mem _
  ·exact List.getElem_mem _
 ·intro hm
  obtain⟨i,hi,rfl⟩:=List.mem_iff_getElem.1 hm
  rw[List.mem_iff_getElem]
  by_cases e1:i=k
  ·subst e1
   refine⟨i+1,by simpa using hk,?_⟩
   rw[List.getElem_set_ne (by omega),List.getElem_set_self]
  ·by_cases e2:i=k+1
   ·subst e2
    refine⟨k,by simp;omega,?_⟩
    rw[List.getElem_set_self]
   ·refine⟨i,by simpa using hi,?_⟩
    rw[List.getElem_set_ne (by omega),List.getElem_set_ne (by omega)]
theorem Fv:∀(k:Nat) (l:List bH),(JR k l).length=l.length
 |0,l=>rfl
 |k+1,l=>by
  simp only[JR]
  split
  ·rw[Fv k];simp
  ·rfl
theorem zG (l:List bH):∀k,(Iw l k).length=l.length
 |0=>rfl
 |k+1=>by simp only[Iw];rw[Fv,zG l k]
theorem KG (h:bH):∀(k:Nat) (l:List bH),k<l.length→(h∈JR k l↔h∈l)
 |0,l,_=>Iff.rfl
 |k+1,l,hk=>by
  simp only[JR]
  split
  ·rw[KG h k _ (by simp;omega),VC hk]
  ·exact Iff.rfl
theorem Jm (l:List bH) (h:bH):∀k,k≤l.length→(h∈Iw l k↔h∈l)
 |0,_=>Iff.rfl
 |k+1,hk=>by simp only[Iw];rw[KG h k _ (by rw[zG];omega),Jm l h k (by omega)]
theorem yt {l:List bH} {h:bH}:∀k,h∈Dq l k↔∃i,i<k∧(List.range l.length).any (nG l i)=false∧l.getD i dm=h
 |0=>by simp[Dq]
 |k+1=>by
  simp only[Dq,List.mem_append,yt k]
  constructor
  ·rintro(⟨i,h1,h2⟩|h1)
   ·exact⟨i,by omega,h2⟩
   ·split at h1
    ·cases h1
    ·rename_i hd
     simp only[List.mem_singleton] at h1
     exact⟨k,by omega,by simpa using hd,h1.symm⟩
  ·rintro⟨i,h1,h2,h3⟩
   by_cases e:i=k
   ·subst e
    refine .inr ?_
    rw[if_neg (by rw[h2];simp),List.mem_singleton]
    exact h3.symm
   ·exact .inl ⟨i,by omega,h2,h3⟩
theorem Yt {l:List bH} (ho:∀h∈l,gz h=true) {h:bH} (hm:h∈l):∃k∈Dq l l.length,wo h k:=by
 have ok:∀i,i<l.length→gz (l.getD i dm)=true:=fun i hi=>ho _ (H6.2 ⟨i,hi,rfl⟩)
 have dr:∀i j,i<l.length→j<l.length→(nG l i j=true↔¬i=j∧wo (l.getD i dm) (l.getD j dm)∧(j<i∨¬l.getD i dm=l.getD j dm)):=by
  intro i j hi hj
  simp only[nG,Bool.and_eq_true,Bool.not_eq_true',decide_eq_false_iff_not,Bool.or_eq_true,decide_eq_true_eq,within_iff (ok i hi) (ok j hj)]
  exact and_assoc
 have tr:∀i j m,i<l.length→j<l.length→m<l.length→nG l i j=true→nG l j m=true→nG l i m=true:=by
  intro i j m hi hj hm h1 h2
  rw[dr i j hi hj] at h1
  rw[dr j m hj hm] at h2
  rw[dr i m hi hm]
  obtain⟨a1,a2,a3⟩:=h1
  obtain⟨b1,b2,b3⟩:=h2
  have hw:=wo.trans (dE (ok i hi)) a2 b2
  refine⟨?_,hw,?_⟩
  ·rintro rfl
   have e:=wo.acQ a2 b2
   rcases a3 with a3|a3
   ·rcases b3 with b3|b3
    ·omega
    ·exact b3 e.symm
   ·exact a3 e
  ·by_cases e:l.getD i dm=l.getD m dm
   ·left
    have e1:l.getD i dm=l.getD j dm:=wo.acQ a2 (by rw[e];exact b2)
    have e2:l.getD j dm=l.getD m dm:=by rw[←e1,e]
    rcases a3 with a3|a3
    ·rcases b3 with b3|b3
     ·omega
     ·exact absurd e2 b3
    ·exact absurd e1 a3
   ·exact .inr e
 have ir:∀i,nG l i i=false:=by intro i;simp[nG]
 have key:∀(n i:Nat),i<l.length→((List.range l.length).filter (nG l i)).length≤n→∃k∈Dq l l.length,wo (l.getD i dm) k:=by
  intro n
  induction n with
  |zero=>
   intro i hi hc
   refine⟨l.getD i dm,(yt _).2 ⟨i,hi,?_,rfl⟩,wo.refl (dE (ok i hi))⟩
   have:(List.range l.length).filter (nG l i)=[]:=List.length_eq_zero_iff.1 (by omega)
   rw[List.filter_eq_nil_iff] at this
   rw[List.any_eq_false]
   exact this
  |succ n ih=>
   intro i hi hc
   cases ha:(List.range l.length).any (nG l i) with
   |false=>exact⟨l.getD i dm,(yt _).2 ⟨i,hi,ha,rfl⟩,wo.refl (dE (ok i hi))⟩
   |true=>
    rw[List.any_eq_true] at ha
    obtain⟨j,hj,hd⟩:=ha
    have hj:=List.mem_range.1 hj
    have hlt:((List.range l.length).filter (nG l j)).length<((List.range l.length).filter (nG l i)).length:=by
     have e:(List.range l.length).filter (nG l j)=((List.range l.length).filter (nG l i)).filter (nG l j):=by
      rw[List.filter_filter]
      apply List.filter_congr
      intro m hm
      have hm:=List.mem_range.1 hm
      cases h:nG l j m with
      |false=>rfl
      |true=>rw[tr i j m hi hj hm hd h];rfl
     rw[e,List.length_filter_lt_length_iff_exists]
     exact⟨j,List.mem_filter.2 ⟨List.mem_range.2 hj,hd⟩,by rw[ir j];simp⟩
    obtain⟨k,hk,hw⟩:=ih j hj (by omega)
    exact⟨k,hk,wo.trans (dE (ok i hi)) ((dr i j hi hj).1 hd).2.1 hw⟩
 obtain⟨i,hi,rfl⟩:=H6.1 hm
 exact key _ i hi (Nat.le_refl _)
theorem YY {l:List bH} {h:bH} (hm:h∈Dq l l.length):h∈l:=by
 obtain⟨i,h1,_,h3⟩:=(yt _).1 hm
 exact H6.2 ⟨i,h1,h3⟩
theorem OZ {b h:bH} (hb:gz b=true) (hh:gz h=true) (hw:wo h b):jF b h=some h:=by
 have hl:=hw.len
 have key:∀p q:bH,gz p=true→gz q=true→(∀i,i<q.parts.length→i<p.parts.length→aY (p.parts.getD i noS) (q.parts.getD i noS)=true)→(q.parts.length≤p.parts.length)→(q.rest=false→p.parts.length=q.parts.length)→(p.parts.length=q.parts.length→p.rest=q.rest)→
  wS p q=some p:=by
  intro p q hp hq hi hl hf hr
  unfold wS
  rw[if_neg,if_pos]
  ·have:∀k,k≤p.parts.length→iL p q k=p.parts.take k:=by
    intro k
    induction k with
    |zero=>intro _;simp[iL]
    |succ k ih=>
     intro hk
     rw[iL,ih (by omega),List.take_add_one,List.getElem?_eq_getElem (by omega)]
     rw[if_pos]
     ·simp[List.getD_eq_getElem?_getD,List.getElem?_eq_getElem (by omega:k<p.parts.length)]
     ·by_cases e:q.parts.length≤k
      ·simp[e]
      ·rw[hi k (by omega) (by omega)];simp
   rw[this _ (Nat.le_refl _),List.take_length]
  ·rw[List.all_eq_true]
   intro i hm
   have hm:=List.mem_range.1 hm
   unfold xI
   by_cases e:q.parts.length≤i
   ·simp[e]
   ·rw[hi i (by omega) hm];simp
  ·rintro(⟨h1,h2⟩|⟨h1,h2⟩)
   ·have:=hf h2;omega
   ·exact h2 (hr h1)
 unfold jF
 rw[hb,hh]
 simp only[Bool.and_self,if_true]
 by_cases e:b.parts.length<h.parts.length
 ·rw[if_pos e]
  exact key h b hh hb (fun i a _=>hw.ins i a) hl (fun hr=>(hw.fix hr).2) (fun h=>by omega)
 ·rw[if_neg e]
  have el:h.parts.length=b.parts.length:=by omega
  have er:h.rest=b.rest:=by
   cases hr:b.rest with
   |true=>exact hw.rst hr el
   |false=>exact(hw.fix hr).1
  unfold wS
  rw[if_neg,if_pos]
  ·have:∀k,k≤b.parts.length→iL b h k=h.parts.take k:=by
    intro k
    induction k with
    |zero=>intro _;simp[iL]
    |succ k ih=>
     intro hk
     rw[iL,ih (by omega),List.take_add_one,List.getElem?_eq_getElem (by omega:k<h.parts.length)]
     have hv:h.parts.getD k noS=h.parts[k]'(by omega):=by simp[List.getD_eq_getElem?_getD,List.getElem?_eq_getElem (by omega:k<h.parts.length)]
     have hin:=hw.ins k (by omega)
     simp only[show ¬h.parts.length≤k by omega,decide_false,Bool.false_or,Option.toList_some]
     congr 2
     split
     ·rename_i h1
      rw[←hv]
      exact Dx h1 hin
     ·exact hv
   rw[this _ (Nat.le_refl _),←el,List.take_length,←er]
  ·rw[List.all_eq_true]
   intro i hm
   have hm:=List.mem_range.1 hm
   unfold xI
   rw[hw.ins i (by omega)];simp
  ·rintro(⟨h1,h2⟩|⟨h1,h2⟩)
   ·omega
   ·exact h2 er.symm
theorem KA {b x:ByteArray} (hb:aX b=true) (hx:aX x=true):aX (b++jY x)=true:=by
 obtain⟨b1,b2⟩:=fG hb
 obtain⟨x1,x2⟩:=fG hx
 have hb3:=hb
 simp only[aX,Bool.and_eq_true,Bool.not_eq_true',Bool.or_eq_false_iff,decide_eq_false_iff_not] at hb3
 have h0:=hb3.1.2
 simp at h0
 simp only[aX,Bool.and_eq_true,Bool.not_eq_true',Bool.or_eq_false_iff,decide_eq_false_iff_not,List.all_eq_true,List.mem_range,Bool.or_eq_true,decide_eq_true_eq]
 refine⟨⟨?_,?_⟩,?_⟩
 ·intro e
  have:=congrArg ByteArray.size e
  rw[ByteArray.size_append] at this
  have e3:(({data:= #[]}:ByteArray)).size=0:=rfl
  have e4:noS.size=0:=rfl
  omega
 ·rw[ry (by omega),h0];simp
 ·intro k hk
  rw[ByteArray.size_append,NC hx] at hk
  by_cases k0:k=0
  ·exact .inl k0
  right
  by_cases h:k<b.size
  ·rw[ry h];exact b2 k (by omega) h
  ·rw[Dz (by omega),jY,if_pos hx,Gx (by omega)]
   exact x2 _ (by omega) (by omega)
theorem aaD {b x:ByteArray} (hb:aX b=true) (hx:aX x=true):jY (b++jY x)=jY b++jY x:=by
 have h1:=(fG hb).1
 rw[jY,if_pos (KA hb hx)]
 rw[ByteArray.extract_append]
 conv=>rhs;rw[jY,if_pos hb]
 congr 1
 ·rw[ByteArray.size_append]
  apply ByteArray.ext
  simp only[ByteArray.data_extract]
  apply Array.ext
  ·simp;try omega
  ·intro i a c;simp
 ·rw[ByteArray.size_append,show 1-b.size=0 by omega,show b.size+(jY x).size-b.size=(jY x).size by omega]
  simp
theorem Zj {b x:ByteArray} (hb:eH b=true) (hx:aX x=true):eH (b++jY x)=true∧aY (b++jY x) x=true:=by
 rcases oO hb with h|⟨h,hc⟩
 ·have h1:=KA h hx
  refine⟨by simp[eH,h1],?_⟩
  simp only[aY,hx,h1,if_true,aaD h hx]
  exact lh.2 ⟨_,rfl⟩
 ·have h1:=NI hc hx
  have h2:=J3 h1
  refine⟨by simp[eH,h1],?_⟩
  simp only[aY,hx,h2,if_true,Bool.false_eq_true,if_false]
  rw[yc hx h1,lh.2 ⟨b,rfl⟩,ByteArray.size_append]
  have:=(AA hc).1
  simp;omega
theorem dn (ps:List ByteArray) (l:List bH):∀k,(oN ps l k).length=k
 |0=>rfl
 |k+1=>by simp[oN,dn ps l k]
theorem GK (ps:List ByteArray) (l:List bH):∀k i,i<k→(oN ps l k).getD i noS=if aX (ps.getD i noS) then((l.getD (aC (ps.take i)) dm).parts.getD 0 noS)++jY (ps.getD i noS) else ps.getD i noS
 |0,i,h=>by omega
 |k+1,i,h=>by
  simp only[oN,List.getD_eq_getElem?_getD]
  by_cases e:i<k
  ·rw[List.getElem?_append_left (by rw[dn];exact e)]
   have:=GK ps l k i e
   simpa only[List.getD_eq_getElem?_getD] using this
  ·have:i=k:=by omega
   subst this
   rw[List.getElem?_append_right (by rw[dn];exact Nat.le_refl _),dn]
   simp[List.getD_eq_getElem?_getD]
theorem X0 {p:bH} (h1:1≤p.parts.length) (h2:p.rest=false→2≤p.parts.length) (h3:comp (p.parts.getD 0 noS)=true) (h4:dC p) (h5:p.parts.length≤12):gz p=true:=by
 refine oG.2 ⟨h1,h2,h3,?_,h5⟩
 rw[List.all_eq_true]
 intro x hx
 obtain⟨i,hi,rfl⟩:=List.mem_iff_getElem.1 hx
 simp only[List.length_drop] at hi
 have:=h4 (i+1) (by omega)
 rw[List.getD_eq_getElem?_getD,List.getElem?_eq_getElem (by omega)] at this
 simpa[List.getElem_drop,Nat.add_comm] using this
theorem Wx {p:bH} {l:List bH} (h:(iI p l).2=0):gz (iI p l).1=true∧wo (iI p l).1 p:=by
 unfold iI at h⊢
 split at h
 rotate_left
 ·rename_i hp;unfold gz at hp;rw[if_neg (by simpa[gz] using hp)] at*;exact absurd h (by simpa using hp)
 rename_i hp
 rw[if_pos hp]
 split at h
 rotate_left
 ·simp at h
 rename_i hw
 rw[if_pos hw]
 split at h
 rotate_left
 ·simp at h
 rename_i hs
 rw[if_pos hs]
 obtain⟨o1,o2,o3,o4,o5⟩:=oG.1 hp
 have hpo:=dE hp
 have hsub:∀i,i<p.parts.length→aX (p.parts.getD i noS)=true→eH ((l.getD (aC (p.parts.take i)) dm).parts.getD 0 noS)=true:=by
  intro i hi hst
  unfold Oy at hs
  rw[List.all_eq_true] at hs
  have:=hs i (List.mem_range.2 hi)
  rw[hst] at this
  simp only[Bool.not_true,Bool.false_or,Iu,Bool.and_eq_true] at this
  exact this.2
 have hget:∀i,i<p.parts.length→eH ((oN p.parts l p.parts.length).getD i noS)=true∧aY ((oN p.parts l p.parts.length).getD i noS) (p.parts.getD i noS)=true:=by
  intro i hi
  rw[GK _ _ _ _ hi]
  cases hst:aX (p.parts.getD i noS) with
  |true=>rw[if_pos rfl];exact Zj (hsub i hi hst) hst
  |false=>rw[if_neg (by simp)];exact⟨hpo i hi,xQ (hpo i hi)⟩
 have h0:comp ((oN p.parts l p.parts.length).getD 0 noS)=true:=by
  rw[GK _ _ _ _ o1,if_neg (by rw[J3 o3];simp)];exact o3
 cases hr:p.rest with
 |false=>
  rw[hr] at h
  simp only[Bool.false_eq_true,if_false] at h⊢
  unfold IU at h⊢
  simp only[dn] at h⊢
  rw[if_neg (by omega)] at h⊢
  refine⟨X0 (by simp only[dn];exact o1) (fun _=>by simp only[dn];exact o2 hr) h0 (fun i hi=>?_) (by simp only[dn];exact o5),?_⟩
  ·simp only[dn] at hi;exact(hget i hi).1
  ·exact⟨by simp only[dn];exact Nat.le_refl _,fun _=>⟨rfl,by simp only[dn]⟩,fun h=>(by rw[hr] at h;cases h),fun i hi=>(hget i hi).2⟩
 |true=>
  rw[hr] at h
  simp only[if_true] at h⊢
  split at h
  rotate_left
  ·simp at h
  rename_i hc
  rw[if_pos hc]
  simp only[Bool.and_eq_true] at hc
  generalize hB:l.getD (aC p.parts) dm=b at h hc⊢
  unfold IU at h⊢
  simp only[List.length_append,dn] at h⊢
  split at h
  ·simp at h
  rename_i hlen
  rw[if_neg hlen]
  have hg1:∀i,i<p.parts.length→(oN p.parts l p.parts.length++b.parts).getD i noS=(oN p.parts l p.parts.length).getD i noS:=by
   intro i hi
   simp only[List.getD_eq_getElem?_getD]
   rw[List.getElem?_append_left (by rw[dn];exact hi)]
  refine⟨X0 (by simp only[List.length_append,dn];omega) ?_ ?_ ?_ (by simp only[List.length_append,dn];omega),?_⟩
  ·intro hbr
   simp only at hbr
   have:b.parts.isEmpty=false:=by
    rcases Bool.or_eq_true _ _▸hc.1 with h|h
    ·simpa using h
    ·rw[hbr] at h;cases h
   have:1≤b.parts.length:=by
    cases hbp:b.parts with
    |nil=>rw[hbp] at this;simp at this
    |cons a t=>simp
   simp only[List.length_append,dn];omega
  ·simp only;rw[hg1 0 o1];exact h0
  ·intro i hi
   simp only[List.length_append,dn] at hi
   simp only
   by_cases e:i<p.parts.length
   ·rw[hg1 i e];exact(hget i e).1
   ·simp only[List.getD_eq_getElem?_getD]
    rw[List.getElem?_append_right (by rw[dn];omega),dn,List.getElem?_eq_getElem (by omega),Option.getD_some]
    exact List.all_eq_true.1 hc.2 _ (List.getElem_mem _)
  ·refine⟨by simp only[List.length_append,dn];omega,fun h=>(by rw[hr] at h;cases h),?_,?_⟩
   ·intro _ hl
    simp only[List.length_append,dn] at hl
    have hb0:b.parts=[]:=List.length_eq_zero_iff.1 (by omega)
    simp only
    rcases Bool.or_eq_true _ _▸hc.1 with h|h
    ·rw[hb0] at h;simp at h
    ·exact h
   ·intro i hi
    simp only
    rw[hg1 i hi];exact(hget i hi).2
theorem WW {r:IK} {p:bH} (h:(o9 r p).2.1=true):gz (o9 r p).1.right=true∧wo (o9 r p).1.right r.right:=by
 unfold o9 at h⊢
 split at h
 rotate_left
 ·simp at h
 rename_i h1
 rw[if_pos h1]
 split at h
 rotate_left
 ·simp at h
 rename_i h2
 rw[if_pos h2]
 cases hm:jF r.left p with
 |none=>rw[hm] at h;simp at h
 |some m=>
  rw[hm] at h
  simp only at h⊢
  split at h
  ·rename_i h3
   rw[if_pos h3]
   exact Wx h3
  ·simp at h
theorem uI (x:eQ):∀(l a:List bH),kz x l=some a→∀h∈a,gz h=true∧wo h x.right
 |[],a,h,k,hk=>by simp[kz] at h;subst h;cases hk
 |p::l,a,h,k,hk=>by
  unfold kz at h
  split at h
  ·obtain⟨t,ht,rfl⟩:=Option.map_eq_some_iff.1 h
   have ih:=uI x l t ht
   split at hk
   ·rename_i hs
    rcases List.mem_cons.1 hk with rfl|hk
    ·exact WW (r:=x.line) hs
    ·exact ih k hk
   ·exact ih k hk
  ·cases h
theorem Gs {p q m:bH} (h:jF p q=some m):dC m∧1≤m.parts.length:=by
 have key:∀p q:bH,gz p=true→gz q=true→∀m,wS p q=some m→dC m∧1≤m.parts.length:=by
  intro p q hp hq m hm
  have mlen:∀k,(iL p q k).length=k:=by
   intro k
   induction k with
   |zero=>rfl
   |succ k ih=>simp[iL,ih]
  have mget:∀k i,i<k→(iL p q k).getD i noS=if decide (q.parts.length≤i)||aY (p.parts.getD i noS) (q.parts.getD i noS) then p.parts.getD i noS else q.parts.getD i noS:=by
   intro k
   induction k with
   |zero=>intro i h;omega
   |succ k ih=>
    intro i h
    simp only[iL]
    by_cases e:i<k
    ·rw[←ih i e]
     simp only[List.getD_eq_getElem?_getD]
     rw[List.getElem?_append_left (by rw[mlen];exact e)]
    ·have:i=k:=by omega
     subst this
     simp only[List.getD_eq_getElem?_getD]
     rw[List.getElem?_append_right (by rw[mlen];exact Nat.le_refl _),mlen]
     simp
  unfold wS at hm
  split at hm
  ·cases hm
  split at hm
  ·cases hm
   refine⟨fun i hi=>?_,by simp only[mlen];exact(oG.1 hp).1⟩
   simp only[mlen] at hi
   simp only
   rw[mget _ _ hi]
   split
   ·exact dE hp i hi
   ·rename_i hc
    have:¬q.parts.length≤i:=by intro h;simp[h] at hc
    exact dE hq i (by omega)
  ·cases hm
 unfold jF at h
 split at h
 ·rename_i ho
  simp only[Bool.and_eq_true] at ho
  split at h
  ·exact key q p ho.2 ho.1 m h
  ·exact key p q ho.1 ho.2 m h
 ·cases h
theorem Qw {m:bH} (hm:dC m) {a b:List bH} (h1:∀h∈a,∃k∈b,wo h k) (h2:∀h∈b,∃k∈a,wo h k) (n:Nat):lT ⟨m,a⟩ n=lT ⟨m,b⟩ n:=by
 rw[Bool.eq_iff_iff,FH,FH]
 constructor
 ·rintro⟨h,hh,hc⟩;obtain⟨k,hk,hw⟩:=h1 h hh;exact⟨k,hk,DW hm hw hc⟩
 ·rintro⟨h,hh,hc⟩;obtain⟨k,hk,hw⟩:=h2 h hh;exact⟨k,hk,DW hm hw hc⟩
theorem Rz {m:bH} (hm:dC m) (hl:1≤m.parts.length) {a b:List bH} (h1:∀h∈a,∃k∈b,wo h k) (h2:∀h∈b,∃k∈a,wo h k):decide (0<Ec ⟨m,a⟩)=decide (0<Ec ⟨m,b⟩):=by
 rw[decide_eq_decide,P5 hl,P5 hl]
 simp only[Qw hm h1 h2]
theorem F9 {b:bH} {a:List bH} (hb:gz b=true) (ha:∀h∈a,gz h=true∧wo h b):(∀h∈(DV b a).holes,h∈a)∧∀h∈a,∃k∈(DV b a).holes,wo h k:=by
 have hmet:Zh b a=a:=by
  unfold Zh
  have:∀l:List bH,(∀h∈l,gz h=true∧wo h b)→l.filterMap (jF b)=l:=by
   intro l
   induction l with
   |nil=>intro _;rfl
   |cons h t ih=>
    intro hl
    have h0:=hl h List.mem_cons_self
    rw[List.filterMap_cons,OZ hb h0.1 h0.2,ih fun k hk=>hl k (List.mem_cons_of_mem _ hk)]
  exact this a ha
 have hs:=Jm a
 have hlen:=zG a a.length
 simp only[DV,hmet]
 generalize hS:Iw a a.length=s at hlen
 rw[←hlen]
 have hmem:∀h,h∈s↔h∈a:=fun h=>by rw[←hS];exact hs h _ (Nat.le_refl _)
 refine⟨fun h hh=>(hmem h).1 ?_,fun h hh=>?_⟩
 ·exact YY hh
 ·exact Yt (fun k hk=>(ha k ((hmem k).1 hk)).1) ((hmem h).2 hh)
theorem OL {x y:eQ} (hx:gz x.right=true) (hy:gz y.right=true) {a b:List bH} (ha:kz x x.holes=some a) (hb:kz y y.holes=some b):
 kT (DV x.right a) (DV y.right b)=kT ⟨x.right,a⟩ ⟨y.right,b⟩:=by
 have wa:=uI x _ _ ha
 have wb:=uI y _ _ hb
 obtain⟨a1,a2⟩:=F9 hx wa
 obtain⟨b1,b2⟩:=F9 hy wb
 unfold kT
 simp only[show(DV x.right a).base=x.right from rfl,show(DV y.right b).base=y.right from rfl]
 cases hm:jF x.right y.right with
 |none=>rfl
 |some m=>
  obtain⟨m1,m2⟩:=Gs hm
  simp only
  refine Rz m1 m2 ?_ ?_
  ·intro h hh
   rcases List.mem_append.1 hh with hh|hh
   ·exact⟨h,List.mem_append_left _ (a1 h hh),wo.refl (dE (wa h (a1 h hh)).1)⟩
   ·exact⟨h,List.mem_append_right _ (b1 h hh),wo.refl (dE (wb h (b1 h hh)).1)⟩
  ·intro h hh
   rcases List.mem_append.1 hh with hh|hh
   ·obtain⟨k,hk,hw⟩:=a2 h hh;exact⟨k,List.mem_append_left _ hk,hw⟩
   ·obtain⟨k,hk,hw⟩:=b2 h hh;exact⟨k,List.mem_append_right _ hk,hw⟩
def trimS (s t:ByteArray):ByteArray:=if dP s t then s.extract 0 (s.size-t.size) else s
theorem QX {a b:ByteArray} (h:aY a b=true) (hb:aX b=true):dP a (jY b)=true:=by
 unfold aY at h
 rw[if_pos hb] at h
 split at h
 ·rename_i ha
  refine uN ?_ h
  exact lh.2 ⟨a.extract 0 1,by rw[jY,if_pos ha,ByteArray.extract_append_extract];simp⟩
 ·unfold qw at h
  rw[if_pos hb] at h
  split at h
  ·assumption
  ·simp at h
def zo (ps qs:List ByteArray):Nat→List ByteArray
 |0=>qs
 |k+1=>if aX (ps.getD k noS) then(zo ps qs k).set k (trimS ((zo ps qs k).getD k noS) (jY (ps.getD k noS))) else zo ps qs k
theorem yH (ps qs:List ByteArray):∀k,(zo ps qs k).length=qs.length
 |0=>rfl
 |k+1=>by simp only[zo];split<;>simp[yH ps qs k]
theorem Gf (ps qs:List ByteArray):∀k i,k≤i→(zo ps qs k)[i]? =qs[i]?
 |0,i,_=>rfl
 |k+1,i,h=>by
  simp only[zo]
  split
  ·rw[List.getElem?_set_ne (by omega),Gf ps qs k i (by omega)]
  ·exact Gf ps qs k i (by omega)
theorem XN (ps qs:List ByteArray):∀k i,i<k→i<qs.length→(zo ps qs k)[i]? =some (if aX (ps.getD i noS) then trimS (qs.getD i noS) (jY (ps.getD i noS)) else qs.getD i noS)
 |0,i,h,_=>by omega
 |k+1,i,h,hi=>by
  have hg:=Gf ps qs k k (Nat.le_refl _)
  have hl:=yH ps qs k
  by_cases e:i=k
  ·subst e
   have e2:(zo ps qs i).getD i noS=qs.getD i noS:=by rw[List.getD_eq_getElem?_getD,hg,←List.getD_eq_getElem?_getD]
   simp only[zo]
   split
   ·rw[List.getElem?_set_self (by omega),e2]
   ·rw[hg,List.getD_eq_getElem?_getD,List.getElem?_eq_getElem hi];rfl
  ·have ih:=XN ps qs k i (by omega) hi
   simp only[zo]
   split
   ·rw[List.getElem?_set_ne (by omega),ih]
   ·exact ih
theorem YQ (ps qs:List ByteArray) (k:Nat):(zo ps qs k).drop k=qs.drop k:=by
 apply List.ext_getElem?
 intro i
 rw[List.getElem?_drop,List.getElem?_drop,Gf ps qs k _ (by omega)]
def MK (id:Nat) (ps:List ByteArray):Nat→List (List C)
 |0=>[]
 |k+1=>MK id ps k++(if aX (ps.getD k noS) then [[.mv id 1 k 1, .d (.v (.bool false))]] else [])
theorem Hm (dom:Nat→Bool) (id:Nat) (ps:List ByteArray) (h:dom id=true):∀k,aB dom (MK id ps k).flatten=True
 |0=>by simp[MK,aB]
 |k+1=>by
  simp only[MK,List.flatten_append,ah,Hm dom id ps h k,true_and]
  split<;>simp[aB,cu,h]
theorem Uo (ρ:Nat→Nat) (id:Nat) (ps:List ByteArray):∀k,(MK id ps k).map (fun l=>l.map (dX ρ))=MK (ρ id) ps k
 |0=>rfl
 |k+1=>by
  simp only[MK,List.map_append,Uo ρ id ps k]
  split<;>simp[dX]
theorem Lu (id:Nat) (ps:List ByteArray):∀k,(MK id ps k).length≤k
 |0=>Nat.le_refl _
 |k+1=>by
  have:=Lu id ps k
  simp only[MK,List.length_append]
  split<;>simp<;>omega
theorem Zc {l:List (List D)} {i:Nat} {v:List D} (h:l[i]? =some v):(l.drop i).take 1=[v]:=by
 obtain⟨hi,e⟩:=List.getElem?_eq_some_iff.1 h
 rw[List.drop_eq_getElem_cons hi,e];rfl
theorem ZL {p q:bH} (id:Nat) (hs:∀i,i<p.parts.length→aX (p.parts.getD i noS)=true→dP (q.parts.getD i noS) (jY (p.parts.getD i noS))=true) (hl:p.parts.length≤q.parts.length):
 ∀k,k≤p.parts.length→(MK id p.parts k).map (fun l=>l.map (ZN id 1 ((zo p.parts q.parts p.parts.length).map encS)))=(BB p q k).map fun b=>(bF b).map C.d
 |0,_=>rfl
 |k+1,hk=>by
  simp only[MK,BB,List.map_append,ZL id hs hl k (by omega)]
  congr 1
  split
  ·rename_i h
   have hlt:=XN p.parts q.parts p.parts.length k (by omega) (by omega)
   rw[if_pos h,trimS,if_pos (hs k (by omega) h)] at hlt
   have h1:k+1≤((zo p.parts q.parts p.parts.length).map encS).length:=by rw[List.length_map,yH];omega
   simp only[List.map_cons,List.map_nil,ZN,if_pos (⟨rfl,rfl,h1⟩:id=id∧1=1∧k+1≤((zo p.parts q.parts p.parts.length).map encS).length)]
   rw[if_pos ⟨trivial,trivial,h1⟩,Zc (v:=encS ((q.parts.getD k noS).extract 0 ((q.parts.getD k noS).size-(jY (p.parts.getD k noS)).size))) (by rw[List.getElem?_map,hlt];rfl)]
  ·rfl
theorem aa8 {p q:bH} (id:Nat) (hw:fP q p=true):p.parts.length≤q.parts.length∧
 (MK id p.parts p.parts.length++(if p.rest then [[C.mv id 1 p.parts.length (q.parts.length-p.parts.length), .d (.v (.bool q.rest))]] else [])).map (fun l=>l.map (ZN id 1 ((zo p.parts q.parts p.parts.length).map encS)))
   =((jS p q).getD []).map fun b=>(bF b).map C.d:=by
 have hw':=hw
 unfold fP at hw'
 simp only[Bool.and_eq_true,decide_eq_true_eq,List.all_eq_true,List.mem_range] at hw'
 obtain⟨⟨⟨⟨_,hl⟩,_⟩,_⟩,hi⟩:=hw'
 refine⟨hl,?_⟩
 rw[jS,if_pos hw,Option.getD_some,List.map_append,List.map_append,ZL id (fun i h1 h2=>QX (hi i h1) h2) hl _ (Nat.le_refl _)]
 congr 1
 split
 ·have h1:p.parts.length+(q.parts.length-p.parts.length)≤((zo p.parts q.parts p.parts.length).map encS).length:=by rw[List.length_map,yH];omega
  simp only[List.map_cons,List.map_nil,ZN,if_pos (⟨rfl,rfl,h1⟩:id=id∧1=1∧p.parts.length+(q.parts.length-p.parts.length)≤((zo p.parts q.parts p.parts.length).map encS).length)]
  rw[if_pos ⟨trivial,trivial,h1⟩,←List.map_drop,YQ,List.take_of_length_le (by rw[List.length_map,List.length_drop];exact Nat.le_refl _)]
 ·rfl
theorem EZ:∀(ps:List ByteArray) (j:Nat),j<aC ps→∃i,i<ps.length∧aX (ps.getD i noS)=true∧aC (ps.take i)=j
 |[],j,h=>by simp[aC] at h
 |a::ps,j,h=>by
  by_cases ha:aX a=true
  ·match j with
   |0=>exact⟨0,by simp,by simpa using ha,rfl⟩
   |j+1=>
    obtain⟨i,h1,h2,h3⟩:=EZ ps j (by simp only[aC,List.filter_cons,ha,if_true,List.length_cons] at h⊢;omega)
    exact⟨i+1,by simpa using h1,by simpa using h2,by simp only[List.take_succ_cons,aC,List.filter_cons,ha,if_true,List.length_cons] at h3⊢;omega⟩
  ·obtain⟨i,h1,h2,h3⟩:=EZ ps j (by simp only[aC,List.filter_cons,ha] at h⊢;simpa using h)
   exact⟨i+1,by simpa using h1,by simpa using h2,by simp only[List.take_succ_cons,aC,List.filter_cons,ha] at h3⊢;simpa using h3⟩
theorem yz:∀(ps:List ByteArray) (i:Nat),i<ps.length→aX (ps.getD i noS)=true→aC (ps.take i)<aC ps
 |[],i,h,_=>by simp at h
 |a::ps,0,_,h=>by
  have h:aX a=true:=by simpa using h
  simp only[List.take_zero,aC,List.filter_nil,List.filter_cons,h,if_true,List.length_cons,List.length_nil];omega
 |a::ps,i+1,hi,h=>by
  have:=yz ps i (by simpa using hi) (by simpa using h)
  simp only[List.take_succ_cons,aC,List.filter_cons] at this⊢
  split<;>simp<;>omega
def BQ (b:bH) (rest:Bool):Bool:=!((!rest&&(!decide (b.parts.length=1)||b.rest))||(decide (b.parts.length=0)&&!b.rest))&&b.parts.all eH
theorem NZ (b:bH):BQ b false=Iu b:=by
 obtain⟨l,r⟩:=b
 rw[BQ,Iu]
 match l with
 |[]=>cases r<;>rfl
 |[a]=>cases r<;>simp
 |a::b::l=>cases r<;>simp
theorem UM (b:bH):BQ b true=((!b.parts.isEmpty||b.rest)&&b.parts.all eH):=by
 obtain⟨l,r⟩:=b
 rw[BQ]
 match l with
 |[]=>cases r<;>rfl
 |a::l=>cases r<;>simp
theorem aab {p:bH} {l:List bH} (hl:l.length=qN p):((List.range l.length).all fun i=>BQ (l.getD i dm) (decide (i=aC p.parts)))=
 (Oy p.parts l p.parts.length&&(!p.rest||((!(l.getD (aC p.parts) dm).parts.isEmpty||(l.getD (aC p.parts) dm).rest)&&(l.getD (aC p.parts) dm).parts.all eH))):=by
 rw[←UM,Bool.eq_iff_iff]
 simp only[Bool.and_eq_true,Oy,List.all_eq_true,List.mem_range,Bool.or_eq_true,Bool.not_eq_true',←NZ]
 unfold qN at hl
 constructor
 ·intro h
  refine⟨fun i hi=>?_,?_⟩
  ·cases hs:aX (p.parts.getD i noS) with
   |false=>exact .inl rfl
   |true=>
    have hlt:=yz _ i hi hs
    have:=h (aC (p.parts.take i)) (by omega)
    rw[decide_eq_false (by omega)] at this
    exact .inr this
  ·cases hr:p.rest with
   |false=>exact .inl rfl
   |true=>
    rw[hr,if_pos rfl] at hl
    have:=h (aC p.parts) (by omega)
    rw[decide_eq_true rfl] at this
    exact .inr this
 ·rintro⟨h1,h2⟩ j hj
  by_cases e:j=aC p.parts
  ·subst e
   rw[decide_eq_true rfl]
   rcases h2 with h2|h2
   ·rw[h2] at hl;simp at hl;omega
   ·exact h2
  ·rw[decide_eq_false e]
   have hlt:j<aC p.parts:=by split at hl<;>omega
   obtain⟨i,a1,a2,a3⟩:=EZ _ j hlt
   have:=h1 i a1
   rw[a2,a3] at this
   simpa using this
theorem OT (p:bH) (l:List bH):iI p l=
 if gz p then(if l.length=qN p then(if((List.range l.length).all fun i=>BQ (l.getD i dm) (decide (i=aC p.parts))) then
  (if p.rest then IU ⟨oN p.parts l p.parts.length++(l.getD (aC p.parts) dm).parts,(l.getD (aC p.parts) dm).rest⟩ else(⟨oN p.parts l p.parts.length,false⟩,0)) else(dm,33)) else(dm,33)) else(dm,bV p):=by
 unfold iI
 by_cases h1:gz p=true
 ·rw[if_pos h1,if_pos h1]
  by_cases h2:l.length=qN p
  ·rw[if_pos h2,if_pos h2,aab h2]
   cases h3:Oy p.parts l p.parts.length with
   |false=>rfl
   |true=>
    simp only[if_true,Bool.true_and]
    cases h4:p.rest with
    |false=>
     simp only[Bool.not_false,Bool.true_or,if_true]
     have:¬12<p.parts.length:=by have:=(oG.1 h1).2.2.2.2;omega
     simp only[IU,dn,if_neg this]
     rfl
    |true=>simp only[Bool.not_true,Bool.false_or];rfl
  ·rw[if_neg h2,if_neg h2]
 ·rw[if_neg h1,if_neg h1]
def pg (a m b:bH):bH×Int:=if(iI b ((jS a m).getD [])).2=0 then((iI b ((jS a m).getD [])).1,0) else(dm,43)
theorem QE (r:IK) (p:bH):o9 r p=if okR r then(if gz p then(match jF r.left p with
 |none=>(Nv,false,0)
 |some m=>if(pg r.left m r.right).2=0 then(⟨false,m,(pg r.left m r.right).1⟩,true,0) else(Nv,false,43)) else(Nv,false,bV p)) else(Nv,false,gm r):=by
 unfold o9 pg
 split
 ·split
  ·cases jF r.left p with
   |none=>rfl
   |some m=>
    simp only
    by_cases h:(iI r.right ((jS r.left m).getD [])).2=0
    ·simp only[h,if_true]
    ·simp only[h,if_false];rfl
  ·rfl
 ·rfl
end Go.Proofs.YtcpgicfphakdaaaGreatDoor
namespace Go.Proofs.YtcpgicfphakdaaaGreatDoor
open Go.Ab Tys
variable [yF]
theorem Dv:∀(l:List bH) (h:bH) (m:Nat),nR (l++[h]) m=max (nR l m) h.parts.length
 |[],_,_=>rfl
 |a::l,h,m=>Dv l h _
theorem Tu:∀(l:List bH) (m:Nat),m≤nR l m
 |[],_=>Nat.le_refl _
 |a::l,m=>Nat.le_trans (Nat.le_max_left _ _) (Tu l _)
theorem Um {n:Nat}:∀(l:List bH) (m:Nat),m≤n→(∀h∈l,h.parts.length≤n)→nR l m≤n
 |[],_,h,_=>h
 |a::l,m,h,hl=>Um l _ (Nat.max_le.2 ⟨h,hl a (by simp)⟩) fun b hb=>hl b (by simp[hb])
theorem find_range {p:Nat→Bool} {M j:Nat} (hj:j<M) (hp:p j=true) (hn:∀i,i<j→p i=false):(List.range M).find? p=some j:=by
 rw[List.find?_eq_some_iff_append]
 refine⟨hp,(List.range M).take j,(List.range M).drop (j+1),?_,?_⟩
 ·have h1:=List.take_append_drop j (List.range M)
  rw[List.drop_eq_getElem?_toList_append,List.getElem?_range hj] at h1
  exact h1.symm
 ·intro a ha
  rw[List.take_range] at ha
  have:=List.mem_range.1 ha
  rw[hn a (by omega)];rfl
end Go.Proofs.YtcpgicfphakdaaaGreatDoor
namespace Go.Ab
variable [Dr] {P:Program} {x:X}
theorem Qk {Q:Exit→S→Prop} {s:S} {ops l:List Oper} {d:Tmp} {T e:TypeId} {t:TI} {y z:Operand} {ty:TypeId} {pos:String} {after:Array Edge} {k k':IntKind} {m:Int} (hel:FT P T=some e) (ht:ti P e=some t) (hd:d<s.n)
 (hy:ev s y=some (.c (.d (.v (.int k 0))))) (hz:ev s z=some (.c (.d (.v (.int k' m))))) (hid:get s.st d=none) (h0:0≤m) (hb:(t.bytes:Int)*m≤140737488355328) (h63:m≤9223372036854775807)
 (hk:TO P x ops l ⟨s.n,put s.env d (.c (.ms d t.size 0 0)),put s.st d (.arr t.size [])⟩ Q):TO P x ops (⟨some d, .makeSlice T y z,ty,pos,after,none⟩::l) s Q:=by
 rintro a w ⟨bl,cap,hs,henv,hdf,hsz⟩
 have h1:a.eval y= .int k 0:=mD (dR henv hy)
 have h2:a.eval z= .int k' m:=mD (dR henv hz)
 have hu:=tK hel
 obtain⟨i,u,zz,hi,hu',hz',g1,g2,g3,g4,g5,g6,g7⟩:=iG ht
 have hpos:0<t.size:=by omega
 have hrun:=run_make (P:=P) w T e i zz hu hi hz' k k' 0 m (Int.le_refl _) h0 (by rw[g2];omega) h63
 have hrun2:(execOp a.eval ⟨some d, .makeSlice T y z,ty,pos,after,none⟩).run P w= .ok (.value (.slice (some ⟨w.heap.size,0,none⟩) 0 m.toNat)) (w.alloc (.cells (madeCells zz.cells (m.toNat*i.size)) e)):=by
  simp only[execOp,h1,h2]
  exact mg hrun
 obtain⟨bl',cap',a1,a2,a3⟩:=sV (x:=x) (id:=d) (n:=m.toNat) (T:=e) (xs:=[]) (cells:=madeCells zz.cells (m.toNat*i.size)) (w':=w.alloc (.cells (madeCells zz.cells (m.toNat*i.size)) e))
  hs hid (iU w _) (Array.getElem?_push_size) (by show _<(w.heap.push _).size;rw[Array.size_push];omega) hpos (by simp) (by simp) (by rw[size_madeCells,g1]) (by simp;exact .nil)
 refine wpList_plain rfl fun K hK=>?_
 unfold Oper.wp
 rw[hrun2]
 exact hK _ _ (hk _ _ ⟨bl',cap',a1,(henv.le a2).put (by rw[hsz];exact hd) a3,by rw[Act.put_defers];exact hdf.le a2,by rw[Act.fK];exact hsz⟩)
end Go.Ab
namespace Go.Proofs.YtcpgicfphakdaaaGreatDoor
open Go.Ab Tys
variable [Dr]
def ad7.kk:=p8 kB kG kFn Tryz.ntmps192 iC pX kC Tryz.results192
open ad7 in
theorem aaL (len:Nat) (hl:len≤1000000) (P x0 S:List ByteArray) (hV:VS (P++(x0++S))) (a b:Nat) (ha:a=P.length) (hb:b=a+x0.length) (hlen:b+S.length=len):
 AC Tryz.prog 192 [.c (.ms 46 1 0 len),I .i64 a,I .i64 b,rQ] (stA (P++(x0++S))) (fun _ st=>∃z,(z.Perm x0∧aO pC z)∧st=stA (P++(z++S))):=by
 refine dA Tryz.func192 Tryz.ntmps192 fun x hx=>?_
 try refine nv ?_
 refine ax (ι:=Nat×List ByteArray) (I:=fun i=>⟨53,[(0, .c (.ms 46 1 0 len)),(1,I .i64 a),(2,I .i64 b),(3,rQ),(8,I .i64 i.1)],stA (P++(i.2++(x0.drop (i.1-a)++S)))⟩)
  (Inv:=fun i=>a<i.1∧i.1≤b+1∧i.2.Perm (x0.take (i.1-a))∧aO pC i.2) (μ:=fun i=>b+1-i.1) (a+1,x0.take 1) ⟨by simp,by simp;omega,by simp,?_⟩ ?_ ?_
 ·cases x0 with
  |nil=>simp
  |cons e t=>simp
 ·have e9:P++(x0.take 1++(x0.drop (a+1-a)++S))=P++(x0++S):=by
   rw[Nat.add_sub_cancel_left,←List.append_assoc (x0.take 1),List.take_append_drop]
  rw[e9]
  generalize P++(x0++S)=l
  exact cO
 rintro⟨i,w⟩ ⟨h1,h2,h3,h4⟩
 simp only at h1 h2 h3 h4⊢
 try refine nv ?_
 refine aj ?_ ?_
 rotate_left
 ·intro hge
  have hib:b≤i:=by have:¬i<b:=by simpa using hge
                   omega
  have e9:x0.drop (i-a)=[]:=List.drop_of_length_le (by omega)
  have e8:x0.take (i-a)=x0:=List.take_of_length_le (by omega)
  rw[e8] at h3
  rw[e9,List.nil_append]
  generalize hG:P++(w++S)=G
  try refine nv ?_
  refine rN ((stA G)) ?_
  exact⟨w,⟨h3,h4⟩,by rw[hG]⟩
 intro hlt
 have hlt':i<b:=by simpa using hlt
 have hix:i-a<x0.length:=by omega
 have lw:w.length=i-a:=by rw[h3.length_eq];simp;omega
 have ed:x0.drop (i-a)=x0.getD (i-a) noS::x0.drop (i+1-a):=by
  rw[List.drop_eq_getElem_cons hix,show i+1-a=i-a+1 by omega];simp[List.getD_eq_getElem?_getD,List.getElem?_eq_getElem hix]
 have et:x0.take (i+1-a)=x0.take (i-a)++[x0.getD (i-a) noS]:=by
  rw[show i+1-a=i-a+1 by omega,List.take_add_one,List.getElem?_eq_getElem hix];simp[List.getD_eq_getElem?_getD,List.getElem?_eq_getElem hix]
 have hex:x0=x0.take (i-a)++(x0.getD (i-a) noS::x0.drop (i+1-a)):=by rw[←ed,List.take_append_drop]
 have lS:(x0.drop (i+1-a)).length=b-(i+1):=by simp;omega
 generalize x0.getD (i-a) noS=e0 at ed et hex
 rw[ed]
 generalize hS1:x0.drop (i+1-a)++S=S1
 have lS1:S1.length+i+1=len:=by rw[←hS1];simp;omega
 have hVw:∀n,VS (P++(w.take n++e0::(w.drop n++S1))):=by
  intro n q hq
  refine hV q ?_
  have he0:e0∈x0:=by rw[hex];simp
  have hwm:∀q,q∈w→q∈x0:=fun q h=>List.mem_of_mem_take (h3.mem_iff.1 h)
  rw[←hS1] at hq
  simp only[List.mem_append,List.mem_cons] at hq⊢
  rcases hq with h|h|h|h|h|h
  ·exact .inl h
  ·exact .inr (.inl (hwm q (List.mem_of_mem_take h)))
  ·subst h;exact .inr (.inl he0)
  ·exact .inr (.inl (hwm q (List.mem_of_mem_drop h)))
  ·exact .inr (.inl (List.mem_of_mem_drop h))
  ·exact .inr (.inr h)
 rw[show P++(w++(e0::x0.drop (i+1-a)++S))=P++(w++e0::S1) from by rw[←hS1];rfl]
 generalize hl0:P++(w++e0::S1)=l0
 try refine nv ?_
 refine ax (ι:=Nat) (I:=fun j=>⟨53,[(0, .c (.ms 46 1 0 len)),(1,I .i64 a),(2,I .i64 b),(3,rQ),(8,I .i64 i),(9,I .i64 (a+j:Nat))],stA (P++(w.take j++e0::(w.drop j++S1)))⟩)
  (Inv:=fun j=>j≤w.length∧∀k,j≤k→k<w.length→pC e0 (w.getD k noS)<0) (μ:=fun j=>j) w.length ⟨by omega,by omega⟩ ?_ ?_
 ·have e9:P++(w.take w.length++e0::(w.drop w.length++S1))=l0:=by rw[←hl0];simp
  have e8:a+w.length=i:=by omega
  rw[e9,e8]
  exact cO
 rintro j ⟨g1,g2⟩
 have hlt2:(P++(w.take j++e0::(w.drop j++S1))).length=len:=by simp only[List.length_append,List.length_cons,List.length_take,List.length_drop];omega
 have hj0:(((a+j:Nat):Int)).toNat=a+j:=by omega
 have hj1:(((a+j:Nat):Int)-1).toNat=a+j-1:=by omega
 have ge0:=abU (P:=P) (A:=w.take j) (B:=w.drop j++S1) (e0:=e0) (z:=noS) (i:=a+j) (by simp;omega)
 have hwl:=fun(hj:0<j)=>TL (P:=P) (x:=w) (S:=S1) (y0:=e0) (j:=j) (k:=a+j) hj g1 (by omega) noS
 have hv1:=(hVw j).get (i:=a+j) (by omega)
 have hv2:=(hVw j).get (i:=a+j-1) (by omega)
 rw[ge0] at hv1
 have hc1:=Fa _ _ hv1 hv2
 generalize hT:P++(w.take j++e0::(w.drop j++S1))=t at hlt2 ge0 hwl hc1
 have e1:=tJ encS t (a+j) noS (by omega)
 have e2:=tJ encS t (a+j-1) noS (by omega)
 rw[ge0] at e1
 generalize hvv:t.getD (a+j-1) noS=v at e2 hc1 hwl
 refine bC ?_
 refine dx ([(32,I .i64 (pC e0 v))]) (p4 @hj0 @hj1 @e1 @e2) ?_ ?_
 ·exact iw @hc1
 refine bC ?_
 have hjd:decide ((a:Int)<((a+j:Nat):Int))=decide (0<j):=decide_eq_decide.2 (by omega)
 refine aj ?_ ?_
 ·intro hc
  have hcc:0<j∧pC e0 v<0:=by
   by_cases h:0<j
   ·refine⟨h,?_⟩
    have:((a:Nat):Int)<((a+j:Nat):Int):=by omega
    simp[this] at hc
    exact hc.2
   ·have:¬((a:Nat):Int)<((a+j:Nat):Int):=by omega
    simp[this] at hc
    omega
  obtain⟨hj,hp⟩:=hcc
  obtain⟨_,w2,w3⟩:=hwl hj
  rw[←w2] at w3
  refine bC ?_
  refine sD (wr:=false) ([]:List (Nat×AV)) (by kernel_rfl) (by simp only[kD,kk,Nat.reduceAdd,Nat.reduceLT,Nat.reduceEqDiff, ↓reduceIte,reduceCtorEq,hj0,hj1,e1,e2,zn,zO];first|done|rfl) (by first|exact trivial|(simp only[kO];omega)|(simp[All,dG];first|done|omega)|(simp+contextual [All,dG];first|done|grind)) (by kernel_rfl) ?_
  try refine nv ?_
  refine⟨j-1,⟨by omega,fun k k1 k2=>?_⟩,by omega,?_⟩
  ·by_cases e:k=j-1
   ·subst e;rw[←w2];exact hp
   ·exact g2 k (by omega) k2
  ·rw[←w3]
   have hcast:(a:Int)+(j:Int)-1=(a:Int)+((j-1:Nat):Int):=by omega
   exact EH @hcast
 ·intro hc
  have hno:∀k,k<j→¬pC e0 (w.getD k noS)<0:=by
   intro k hk
   have hj:0<j:=by omega
   obtain⟨_,w2,_⟩:=hwl hj
   have hp:¬pC e0 v<0:=by
    intro h
    have:((a:Nat):Int)<((a+j:Nat):Int):=by omega
    simp[this,h] at hc
    omega
   rw[w2] at hp
   exact fH.le_trans (jd fH h4 (j:=j-1) (by omega) (by omega)) hp
  obtain⟨z1,z2⟩:=JS fH (y0:=e0) (x1:=w.take j) (x2:=w.drop j) (by rw[List.take_append_drop];exact h4)
   (fun q hq=>by obtain⟨k,k1,k2,rfl⟩:=wL hq;exact hno k k1)
   (fun q hq=>by obtain⟨k,k1,k2,rfl⟩:=xX hq;exact g2 k k1 k2)
  rw[List.take_append_drop] at z1
  try refine nv ?_
  refine⟨(i+1,w.take j++e0::w.drop j),⟨by simp;omega,by simp;omega,?_,z2⟩,by simp;omega,?_⟩
  ·simp only
   rw[et]
   exact z1.trans (List.Perm.append_right _ h3)
  ·simp only
   rw[show P++((w.take j++e0::w.drop j)++(x0.drop (i+1-a)++S))=t from by rw[←hT,hS1];simp]
   exact cO
theorem lU {k q c:Nat} (h:q<k):q*c+c≤k*c:=by
 have:=Nat.mul_le_mul_right c h
 rw[Nat.succ_mul] at this;exact this
theorem Z5 {t:List ByteArray} {a m e:Nat} (h1:a≤m) (h2:m≤e):vN t a (m-a)++vN t m (e-m)=vN t a (e-a):=by
 unfold vN
 have h:=List.take_append_drop (m-a) ((t.drop a).take (e-a))
 rw[List.take_take,Nat.min_eq_left (by omega),List.drop_take,List.drop_drop] at h
 rw[show e-a-(m-a)=e-m by omega,show a+(m-a)=m by omega] at h
 exact h
theorem Td {t:List ByteArray} {a n k:Nat} (h1:t.length-a≤n) (h2:t.length-a≤k):vN t a n=vN t a k:=by
 unfold vN
 rw[List.take_of_length_le (by simp;omega),List.take_of_length_le (by simp;omega)]
section
variable (len:Nat) (hl:len≤1000000) (l0:List ByteArray) (hlen:l0.length=len) (hV:VS l0)
include hl hlen hV
theorem aaq {t:List ByteArray} (hp:t.Perm l0) {a e:Nat} (h1:a≤e) (h2:e≤len):
 AC Tryz.prog 192 [.c (.ms 46 1 0 len),I .i64 a,I .i64 e,rQ] (stA t) (fun _ st=>∃z,(z.Perm (vN t a (e-a))∧aO pC z)∧st=stA (rep t a e z)):=by
 have ht:t.length=len:=by rw[hp.length_eq,hlen]
 have hs:=Ig (l:=t) h1
 have h:=aaL len hl (t.take a) (vN t a (e-a)) (t.drop e) (by rw[hs];exact hV.perm hp) a e (by simp;omega) (by rw[pU];omega) (by simp;omega)
 rw[hs] at h
 exact h
theorem aa7 {t:List ByteArray} (hp:t.Perm l0) {a m e:Nat} (h1:a<m) (h2:m<e) (h3:e≤len) (s1:aO pC (vN t a (m-a))) (s2:aO pC (vN t m (e-m))):
 AC Tryz.prog 193 [.c (.ms 46 1 0 len),I .i64 a,I .i64 m,I .i64 e,rQ] (stA t) (fun _ st=>∃z,(z.Perm (vN t a (e-a))∧aO pC z)∧st=stA (rep t a e z)):=by
 have ht:t.length=len:=by rw[hp.length_eq,hlen]
 have ha:=Z5 (t:=t) (a:=a) (m:=m) (e:=e) (by omega) (by omega)
 have hs:t.take a++(vN t a (m-a)++(vN t m (e-m)++t.drop e))=t:=by
  rw[←List.append_assoc (vN t a (m-a)),ha]
  exact Ig (by omega)
 have h:=aba len hl (e-a) (t.take a) (vN t a (m-a)) (vN t m (e-m)) (t.drop e) s1 s2 (by rw[hs];exact hV.perm hp) (by rw[pU];omega) (by rw[pU];omega) a m e (by simp;omega) (by rw[pU];omega) (by rw[pU];omega) (by simp;omega) (Nat.le_refl _)
 rw[hs,ha] at h
 exact h
end
def aei.kk:=p3 kB Tryz.ntmps136 Tryz.results136
open aei in
theorem SB (len:Nat) (hl:len≤1000000) (l0:List ByteArray) (hlen:l0.length=len) (hV:VS l0):
 AC Tryz.prog 136 [.c (.ms 46 1 0 len),I .i64 len,rQ] (stA l0) (fun _ st=>∃z,(z.Perm l0∧aO pC z)∧st=stA z):=by
 have hins:=fun t (hp:t.Perm l0) a e h1 h2=>aaq len hl l0 hlen hV (t:=t) hp (a:=a) (e:=e) h1 h2
 have hsym:=fun t (hp:t.Perm l0) a m e h1 h2 h3 s1 s2=>aa7 len hl l0 hlen hV (t:=t) hp (a:=a) (m:=m) (e:=e) h1 h2 h3 s1 s2
 refine dA Tryz.func136 Tryz.ntmps136 fun x hx=>?_
 try refine nv ?_
 refine ax (ι:=Nat×List ByteArray) (I:=fun i=>⟨63,[(0, .c (.ms 46 1 0 len)),(1,I .i64 len),(2,rQ),(6,I .i64 (20:Nat)),(7,I .i64 i.1),(8,I .i64 (i.1+20:Nat))],stA i.2⟩)
  (Inv:=fun i=>i.1≤len∧(∃q,i.1=q*20)∧i.2.Perm l0∧∀k,(k+1)*20≤i.1→aO pC (vN i.2 (k*20) 20)) (μ:=fun i=>len-i.1) (0,l0) ⟨by simp,⟨0,rfl⟩,List.Perm.refl _,fun k h=>by simp only at h;omega⟩ ?_ ?_
 ·exact cO
 rintro⟨a,t⟩ ⟨h1,⟨q,hq⟩,h2,h3⟩
 simp only at h1 hq h2 h3⊢
 have ht:t.length=len:=by rw[h2.length_eq,hlen]
 try refine nv ?_
 refine aj ?_ ?_
 ·intro hle
  have hle':a+20≤len:=by simp at hle;omega
  have hi:=hins t h2 a (a+20) (by omega) hle'
  try refine nv ?_
  refine tX ((stA t)) (hi) ?_
  rintro rv9 st' ⟨z,⟨hz1,hz2⟩,rfl⟩<;>refine uo ?_
  have hzl:z.length=a+20-a:=by rw[hz1.length_eq,pU];omega
  have hrp:=(Bl (l:=t) (z:=z) (a:=a) (e:=a+20) (by omega) hz1).trans h2
  have hrb:=fun i n=>vF (l:=t) (z:=z) (a:=a) (e:=a+20) (by omega) (by omega) hzl (i:=i) (n:=n)
  have hra:=MQ (l:=t) (z:=z) (a:=a) (e:=a+20) (by omega) (by omega) hzl (n:=20) (.inl (by omega))
  generalize rep t a (a+20) z=t1 at hrp hrb hra
  have c1:((a+20:Nat):Int)+((20:Nat):Int)=((a+20+20:Nat):Int):=by omega
  try refine nx @c1 ?_
  refine⟨(a+20,t1),⟨hle',⟨q+1,by simp only;omega⟩,hrp,fun k hk=>?_⟩,by simp;omega,?_⟩
  ·simp only at hk⊢
   by_cases e:(k+1)*20≤a
   ·rw[hrb (k*20) 20 (by omega)];exact h3 k e
   ·rw[show k*20=a by omega,hra];exact hz2
  ·exact EH @c1
 intro hgt
 have hgt':len<a+20:=by simp at hgt;omega
 have hi:=hins t h2 a len h1 (Nat.le_refl _)
 try refine nv ?_
 refine tX ((stA t)) (hi) ?_
 rintro rv9 st' ⟨z,⟨hz1,hz2⟩,rfl⟩<;>refine uo ?_
 have hzl:z.length=len-a:=by rw[hz1.length_eq,pU];omega
 have hrp:=(Bl (l:=t) (z:=z) (a:=a) (e:=len) (by omega) hz1).trans h2
 have hrb:=fun i n=>vF (l:=t) (z:=z) (a:=a) (e:=len) (by omega) (by omega) hzl (i:=i) (n:=n)
 have hra:=MQ (l:=t) (z:=z) (a:=a) (e:=len) (by omega) (by omega) hzl (n:=20) (.inr ⟨ht.symm,by omega⟩)
 have hrl:=TY (l:=t) (z:=z) (a:=a) (e:=len) (by omega) (by omega) hzl
 generalize rep t a len z=t1 at hrp hrb hra hrl
 have hB:Blk 20 t1:=by
  intro k
  rcases Nat.lt_trichotomy k q with e|e|e
  ·have:=lU (c:=20) e
   rw[hrb (k*20) 20 (by omega)];exact h3 k (by omega)
  ·rw[e,←hq,hra];exact hz2
  ·have:=lU (c:=20) e
   rw[KW (by omega)];exact List.Pairwise.nil
 clear hi hrb hra hz1 hz2 h3
 try refine nv ?_
 refine ax (ι:=Nat×List ByteArray) (I:=fun i=>⟨63,[(0, .c (.ms 46 1 0 len)),(1,I .i64 len),(2,rQ),(6,I .i64 i.1)],stA i.2⟩)
  (Inv:=fun i=>20≤i.1∧i.1≤2*len+20∧i.2.Perm l0∧Blk i.1 i.2) (μ:=fun i=>2*len+20-i.1) (20,t1) ⟨by simp,by simp,hrp,hB⟩ ?_ ?_
 ·exact cO
 rintro⟨bs,u⟩ ⟨g1,g2,g3,g4⟩
 simp only at g1 g2 g3 g4⊢
 have hul:u.length=len:=by rw[g3.length_eq,hlen]
 try refine nv ?_
 refine aj ?_ ?_
 rotate_left
 ·intro hge
  have hge':len≤bs:=by have:¬bs<len:=by simpa using hge
                       omega
  try refine nv ?_
  refine rN ((stA u)) ?_
  exact⟨u,⟨g3,g4.whole (by omega)⟩,rfl⟩
 intro hlt
 have hlt':bs<len:=by simpa using hlt
 have c2:(2:Int)*((bs:Nat):Int)=((2*bs:Nat):Int):=by omega
 have c2':((bs:Nat):Int)*2=((2*bs:Nat):Int):=by omega
 try refine nx @c2 ?_
 refine ax (ι:=Nat×List ByteArray) (I:=fun i=>⟨63,[(0, .c (.ms 46 1 0 len)),(1,I .i64 len),(2,rQ),(6,I .i64 bs),(7,I .i64 i.1),(8,I .i64 (i.1+2*bs:Nat))],stA i.2⟩)
  (Inv:=fun i=>i.1≤len∧(∃q,i.1=q*(2*bs))∧i.2.Perm l0∧(∀k,k*(2*bs)+2*bs≤i.1→aO pC (vN i.2 (k*(2*bs)) (2*bs)))∧∀k,i.1≤k*bs→aO pC (vN i.2 (k*bs) bs)) (μ:=fun i=>len-i.1) (0,u)
  ⟨by simp,⟨0,by simp⟩,g3,fun k h=>by simp only at h;omega,fun k _=>g4 k⟩ ?_ ?_
 ·exact cO
 rintro⟨a,v⟩ ⟨f1,⟨q,f2⟩,f3,f4,f5⟩
 simp only at f1 f2 f3 f4 f5⊢
 have hvl:v.length=len:=by rw[f3.length_eq,hlen]
 have e1:(2*q)*bs=a:=by rw[f2,Nat.mul_comm 2 q,Nat.mul_assoc]
 have e2:(2*q+1)*bs=a+bs:=by rw[Nat.succ_mul,e1]
 have sa:aO pC (vN v a bs):=by have:=f5 (2*q) (by omega);rw[e1] at this;exact this
 have sb:aO pC (vN v (a+bs) bs):=by have:=f5 (2*q+1) (by omega);rw[e2] at this;exact this
 have c3:((a:Nat):Int)+((bs:Nat):Int)=((a+bs:Nat):Int):=by omega
 try refine nv ?_
 refine aj ?_ ?_
 ·intro hle
  have hle':a+2*bs≤len:=by simp at hle;omega
  have hi:=hsym v f3 a (a+bs) (a+2*bs) (by omega) (by omega) hle' (by rw[show a+bs-a=bs by omega];exact sa) (by rw[show a+2*bs-(a+bs)=bs by omega];exact sb)
  try refine nx @c3 ?_
  refine tX ((stA v)) (hi) ?_
  rintro rv9 st' ⟨z,⟨hz1,hz2⟩,rfl⟩<;>refine uo ?_
  have hzl:z.length=a+2*bs-a:=by rw[hz1.length_eq,pU];omega
  have hrp:=(Bl (l:=v) (z:=z) (a:=a) (e:=a+2*bs) (by omega) hz1).trans f3
  have hrb:=fun i n=>vF (l:=v) (z:=z) (a:=a) (e:=a+2*bs) (by omega) (by omega) hzl (i:=i) (n:=n)
  have hrf:=fun i n=>WQ (l:=v) (z:=z) (a:=a) (e:=a+2*bs) (by omega) (by omega) hzl (i:=i) (n:=n)
  have hra:=MQ (l:=v) (z:=z) (a:=a) (e:=a+2*bs) (by omega) (by omega) hzl (n:=2*bs) (.inl (by omega))
  generalize rep v a (a+2*bs) z=v1 at hrp hrb hra hrf
  have c4:((a+2*bs:Nat):Int)+((2*bs:Nat):Int)=((a+2*bs+2*bs:Nat):Int):=by omega
  try refine nx (p2 @c2 @c4) ?_
  refine⟨(a+2*bs,v1),⟨hle',⟨q+1,by show a+2*bs=(q+1)*(2*bs);rw[Nat.add_mul q 1 (2*bs),Nat.one_mul,←f2]⟩,hrp,fun k hk=>?_,fun k hk=>?_⟩,by simp;omega,?_⟩
  ·simp only at hk⊢
   rcases Nat.lt_trichotomy k q with e|e|e
   ·have:=lU (c:=2*bs) e
    rw[hrb _ _ (by omega)];exact f4 k (by omega)
   ·rw[e,←f2,hra];exact hz2
   ·have:=lU (c:=2*bs) e
    omega
  ·simp only at hk⊢
   rw[hrf _ _ hk];exact f5 k (by omega)
  ·exact EH @c4
 intro hgt
 have hgt':len<a+2*bs:=by simp at hgt;omega
 try refine nx @c3 ?_
 refine vM (ι:=List ByteArray) (fun t=>⟨63,[(0, .c (.ms 46 1 0 len)),(1,I .i64 len),(2,rQ),(6,I .i64 bs)],stA t⟩) (fun t=>t.Perm l0∧Blk (2*bs) t) ?_ ?_
 ·refine aj ?_ ?_
  ·intro h
   have h':a+bs<len:=by simp at h;omega
   have hi:=hsym v f3 a (a+bs) len (by omega) h' (Nat.le_refl _) (by rw[show a+bs-a=bs by omega];exact sa) (by rw[Td (n:=len-(a+bs)) (k:=bs) (by omega) (by omega)];exact sb)
   try refine nv ?_
   refine tX ((stA v)) (hi) ?_
   rintro rv9 st' ⟨z,⟨hz1,hz2⟩,rfl⟩<;>refine uo ?_
   have hzl:z.length=len-a:=by rw[hz1.length_eq,pU];omega
   have hrp:=(Bl (l:=v) (z:=z) (a:=a) (e:=len) (by omega) hz1).trans f3
   have hrb:=fun i n=>vF (l:=v) (z:=z) (a:=a) (e:=len) (by omega) (by omega) hzl (i:=i) (n:=n)
   have hra:=MQ (l:=v) (z:=z) (a:=a) (e:=len) (by omega) (by omega) hzl (n:=2*bs) (.inr ⟨hvl.symm,by omega⟩)
   have hrl:=TY (l:=v) (z:=z) (a:=a) (e:=len) (by omega) (by omega) hzl
   generalize rep v a len z=v1 at hrp hrb hra hrl
   try refine nv ?_
   refine⟨rfl,v1,⟨hrp,fun k=>?_⟩,?_⟩
   ·rcases Nat.lt_trichotomy k q with e|e|e
    ·have:=lU (c:=2*bs) e
     rw[hrb _ _ (by omega)];exact f4 k (by omega)
    ·rw[e,←f2,hra];exact hz2
    ·have:=lU (c:=2*bs) e
     rw[KW (by omega)];exact List.Pairwise.nil
   ·exact cO
  ·intro h
   have h':len≤a+bs:=by have h9:=of_decide_eq_false h;omega
   refine bC ?_
   refine⟨rfl,v,⟨f3,fun k=>?_⟩,?_⟩
   ·rcases Nat.lt_trichotomy k q with e|e|e
    ·have:=lU (c:=2*bs) e
     exact f4 k (by omega)
    ·rw[e,←f2,Td (n:=2*bs) (k:=bs) (by omega) (by omega)];exact sa
    ·have:=lU (c:=2*bs) e
     rw[KW (by omega)];exact List.Pairwise.nil
   ·exact cO
 rintro v2 ⟨hv2,hB2⟩
 try refine nx @c2' ?_
 refine⟨(2*bs,v2),⟨by simp;omega,by simp;omega,hv2,hB2⟩,by simp;omega,?_⟩
 exact cO
def z67.kk:=p6 kB Tryz.ntmps67 Tryz.underlying74 iC kC Tryz.results67
open z67 in
theorem F5 (len:Nat) (hl:len≤1000000) (l0:List ByteArray) (hlen:l0.length=len) (hV:VS l0):
 AC Tryz.prog 67 [.c (.ms 46 1 0 len),rQ] (stA l0) (fun _ st=>∃z,(z.Perm l0∧aO pC z)∧st=stA z):=by
 have h:=SB len hl l0 hlen hV
 refine dA Tryz.func67 Tryz.ntmps67 fun x hx=>?_
 try refine nv ?_
 refine tX ((stA l0)) (h) ?_
 rintro rv9 st' ⟨z,hz,rfl⟩<;>refine uo ?_
 try refine nv ?_
 refine rN ((stA z)) ?_
 exact⟨z,hz,rfl⟩
end Go.Proofs.YtcpgicfphakdaaaGreatDoor
namespace Go.Proofs
open Go.Shelf
shelf_lay Lays.n190 Nm 190 at Tryz as Tryz.lays190
end Go.Proofs
namespace Go.Proofs.YtcpgicfphakdaaaGreatDoor
open Go.Ab Tys
variable [Dr]
variable [Dr]
theorem TC {κ ν:Type} {ke:κ→Bool×List D} {ve:ν→Bool×List D} {l:List (κ×ν)} {a:List iV} {e:iV} {b:List iV} (h:bM ke ve l=a++e::b):∃x k y,l=x++k::y∧a=bM ke ve x∧e=(ke k.1,ve k.2)∧b=bM ke ve y:=by
 obtain⟨x,r,rfl,rfl,h2⟩:=List.map_eq_append_iff.1 h
 obtain⟨k,y,rfl,rfl,rfl⟩:=List.map_eq_cons_iff.1 h2
 exact⟨x,k,y,rfl,rfl,rfl,rfl⟩
noncomputable def QS (l:List ByteArray):List ByteArray:=((l.map (·.data.toList)).mergeSort fun x y=>decide (x≤y)).map D8
theorem Dk (l:List ByteArray):(QS l).Perm l:=by
 have h:=(List.mergeSort_perm (l.map (·.data.toList)) fun x y=>decide (x≤y)).map D8
 rwa [Nj] at h
theorem adq (blk off cap:Nat) (l:List (List UInt8)) (w:World) (hH:Sort.Holds encStr w blk off l.toArray) (hb:blk<w.heap.size) (h:l.length<4611686018427387904):
 Calls Tryz.prog 66 #[.slice (some ⟨blk,off,none⟩) l.length cap] w fun e w'=>e= .returned (.tuple #[])∧∃n os,w'=Sort.grow (Sort.putRow encStr (Sort.ahead w n) blk off (l.mergeSort fun x y=>decide (x≤y)).toArray) os:=
 Any.slices_Sort_string Tryz.lays190 blk off cap l w hH hb h
theorem adN (p:Option Addr) (cap:Nat) (w:World):Calls Tryz.prog 66 #[.slice p 0 cap] w fun e w'=>e= .returned (.tuple #[])∧w'=w:=
 Any.slices_Sort_string_none Tryz.lays190 p cap w
theorem XY (l:List ByteArray) (hl:l.length≤1000000) (id:Nat):
 AC Tryz.prog 66 [.c (.ms id 1 0 l.length)] [(id,aK 1 (l.map encS))] (fun r st=>r= .tup []∧st=[(id,aK 1 ((QS l).map encS))]):=by
 have hlen:(l.map fun s:ByteArray=>s.data.toList).length=l.length:=List.length_map ..
 have e1:(l.map encS).map (fun l=>l.map C.d)=(l.map fun s:ByteArray=>s.data.toList).map fun z=>[C.d (.v (encStr z))]:=by
  rw[List.map_map,List.map_map];rfl
 have e2:((QS l).map encS).map (fun l=>l.map C.d)=((l.map fun s:ByteArray=>s.data.toList).mergeSort fun x y=>decide (x≤y)).map fun z=>[C.d (.v (encStr z))]:=by
  rw[QS,List.map_map,List.map_map];rfl
 simp only[aK,e1,e2]
 generalize (l.map fun s:ByteArray=>s.data.toList)=ss at hlen
 rw[←hlen]
 exact Ya (P:=Tryz.prog) (f:=66) (enc:=encStr) (fun _=>rfl) (l:=ss) (l':=ss.mergeSort fun x y=>decide (x≤y)) (by simp) ⟨_,Tryz.func66,by kernel_rfl,by kernel_rfl⟩
  (fun blk off cap w hH hb=>adq blk off cap ss w hH hb (by omega)) (fun _ p cap w=>adN p cap w) id
def z25.kk:=p2 (p9 kB kS kM Tryz.ntmps25 Tryz.underlying74 Tryz.underlying89 qW iC yN) (p8 UQ J4 uz pX VF kC AX Tryz.results25)
open z25 in
theorem UW (d:bJ) (hN:d.revs.length≤512) (hpt:Jn d) (L:iE) (la:List (ByteArray×Int)) (me:List (Int×List Int)) (hla:vS d d.revs.length la):
 AC Tryz.prog 25 [.c (.pp (qK L la me))] [] (fun r st=>r=iy (jL d)∧st=[]):=by
 have hk:=hla.keys
 rw[List.take_length] at hk
 have hV:VS (yS d.revs):=by
  intro s hs
  obtain⟨v,h1,h2⟩:=Qg hs
  rw[←h2];exact hpt v h1
 have hll:la.length≤512:=by
  have h1:=congrArg List.length hk
  have h2:=Pz d.revs
  rw[List.length_map] at h1
  omega
 have hme:(bM Ed vI la).length=la.length:=by simp[bM]
 refine dA Tryz.func25 Tryz.ntmps25 fun x hx=>?_
 refine bC ?_
 refine gg ?_
 refine bC ?_
 refine dw (wr:=false) 4 (by simp only[kk,Nat.reduceAdd,Nat.reduceLT,Nat.reduceEqDiff, ↓reduceIte,reduceCtorEq,hme];first|done|rfl) (by first|exact trivial|(simp[All,dG];done)|(simp[All,dG];omega)) ?_
 refine Qk iC kC (by simp) (by simp only[kV, ↓reduceIte,Nat.reduceEqDiff,reduceCtorEq];first|done|rfl) (by simp only[kV, ↓reduceIte,Nat.reduceEqDiff,reduceCtorEq];first|done|rfl) (by simp[Ab.get]) (by omega) (by show(16:Int)*_≤_;omega) (by omega) ?_
 refine dZ ?_
 try refine nv ?_
 refine ax (ι:=Option iV×List (ByteArray×Int)×List ByteArray) (I:=fun i=>⟨29,[(3, .c (.ms 46 1 0 i.2.2.length)),(15, .c (.ptr 15 0))],[(15, .iter i.1 (bM Ed vI i.2.1)),(46,aK 1 (i.2.2.map encS))]⟩)
  (Inv:=fun i=>(i.2.2++i.2.1.map (·.1)).Perm (yS d.revs)) (μ:=fun i=>i.2.1.length) (none,la,[]) (by simp[hk]) ?_ ?_
 ·exact Af (fun i=>if i=46 then 10 else i)
 rintro⟨cur,rest,m⟩ h
 simp only at h⊢
 have hlen:=h.length_eq
 rw[←hk] at hlen
 simp only[List.length_append,List.length_map] at hlen
 refine bC ?_
 refine vH (id:=15) (by simp) (by simp only[kV, ↓reduceIte,Nat.reduceEqDiff,reduceCtorEq];first|done|rfl) rfl ?_ ?_
 ·intro h0
  refine dZ ?_
  try refine nv ?_
  refine aj ?_ ?_
  ·intro hh;cases hh
  intro _
  have:rest=[]:=by simpa[bM] using h0
  subst this
  simp only[List.map_nil,List.append_nil] at h
  have hVm:VS (QS m):=hV.perm ((Dk m).trans h)
  have hsl:=(Dk m).length_eq
  refine bC ?_
  refine gg ?_
  refine tX ([(46,aK 1 (m.map encS))]) (XY m (by omega) 46) ?_
  rintro rv9 st' ⟨rfl,rfl⟩<;>refine uo ?_
  refine bC ?_
  refine gg ?_
  refine tX ((stA (QS m))) (F5 m.length (by omega) (QS m) hsl hVm) ?_
  rintro rv9 st' ⟨z,⟨hz1,hz2⟩,rfl⟩<;>refine uo ?_
  have hz:=V3 hV (hz1.trans ((Dk m).trans h)) hz2
  have hzl:m.length=z.length:=by rw[hz1.length_eq,hsl]
  subst hz
  rw[hzl]
  refine bz (aZ (i:=3) (id:=46) (ys:=(jL d).map encS) rfl rfl (by rw[List.length_map])) ?_
  refine dZ ?_
  try refine nv ?_
  refine rA [] ?_
  refine⟨?_,rfl⟩
  rfl
 intro l1 e l2 hsp
 obtain⟨xs,k,y,rfl,rfl,rfl,rfl⟩:=TC hsp
 refine dZ ?_
 (repeat (first|refine Eb ?_|refine BP (wr:=false) (by simp only[kk,Nat.reduceAdd,Nat.reduceLT,Nat.reduceEqDiff, ↓reduceIte,reduceCtorEq,jV];first|done|rfl) ?_))
 refine aj ?_ ?_
 rotate_left
 ·intro hh;cases hh
 intro _
 (repeat (first|refine Eb ?_|refine BP (wr:=false) (by simp only[kk,Nat.reduceAdd,Nat.reduceLT,Nat.reduceEqDiff, ↓reduceIte,reduceCtorEq,jV];first|done|rfl) ?_))
 refine⟨(some (Ed k.1,vI k.2),xs++y,m++[k.1]),?_,by simp,?_⟩
 ·refine List.Perm.trans ?_ h
  simp only[List.map_append,List.map_cons,List.append_assoc,List.cons_append,List.nil_append]
  exact List.Perm.append_left _ (List.perm_middle.symm)
 ·exact Af (fun i=>if i=46 then 23 else i)
end Go.Proofs.YtcpgicfphakdaaaGreatDoor
namespace Go.Proofs.YtcpgicfphakdaaaGreatDoor
open Go.Ab
theorem xh (L:List ByteArray):(dL L slash).data.toList=Lib.join (L.map (·.data.toList)) [47]:=by simp[dL,slash]
theorem BJ (X:List (List UInt8)):∀(A:List (List UInt8)),X≠[]→Lib.join (A++X) [47]=Lib.join (A++[Lib.join X [47]]) [47]
 |[],h=>by rw[List.nil_append,List.nil_append,Lib.join_one]
 |a::A,h=>by
  have ih:=BJ X A h
  obtain⟨b,B,e⟩:=List.exists_cons_of_ne_nil (show A++X≠[] by simp[h])
  obtain⟨c,C,e2⟩:=List.exists_cons_of_ne_nil (show A++[Lib.join X [47]]≠[] by simp)
  have step:∀(m:List UInt8) (r:List (List UInt8)),Lib.join (a::m::r) [47]=a++47::Lib.join (m::r) [47]:=by
   intro m r
   rw[Lib.join_cons,Lib.join_cons]
   simp[Lib.joinTail]
  rw[List.cons_append,List.cons_append]
  rw[e,e2] at ih⊢
  rw[step,step,ih]
theorem PR (A:List ByteArray) (s:ByteArray):dL (A++split s) slash=dL (A++[s]) slash:=by
 have h:∀L M:List ByteArray,Lib.join (L.map (·.data.toList)) [47]=Lib.join (M.map (·.data.toList)) [47]→dL L slash=dL M slash:=by
  intro L M e
  rw[←xh,←xh] at e
  have:=congrArg D8 e
  rwa [ZC,ZC] at this
 apply h
 rw[List.map_append,List.map_append,rC]
 have e:((bZ s.data.toList).map D8).map (·.data.toList)=bZ s.data.toList:=by
  rw[List.map_map]
  conv=>rhs;rw[←List.map_id (bZ s.data.toList)]
  exact List.map_congr_left fun _ _=>rfl
 obtain⟨a,t,e2⟩:=gX s.data.toList
 rw[e,BJ _ _ (by rw[e2];simp),xO]
 rfl
theorem Ru {L:List ByteArray} (h0:L≠[]) (hc:L.all comp=true):split (dL L slash)=L:=by
 rw[rC,xh,xx _ (by intro h;rw[List.map_eq_nil_iff] at h;exact h0 h) ?_,Nj]
 intro l hl x hx
 obtain⟨s,hs,rfl⟩:=List.mem_map.1 hl
 exact SE (nV (List.all_eq_true.1 hc s hs)) x hx
theorem VQ {ps:List ByteArray} {k:Nat} (h:k<ps.length):aC (ps.take (k+1))=aC (ps.take k)+(if aX (ps.getD k noS) then 1 else 0):=by
 rw[List.take_add_one,List.getElem?_eq_getElem h,aC,aC,List.filter_append,List.length_append,List.getD_eq_getElem?_getD,List.getElem?_eq_getElem h]
 simp only[Option.toList_some,Option.getD_some,List.filter_cons,List.filter_nil]
 split<;>rfl
theorem zC (ps ls:List ByteArray):∀k,k≤ps.length→(iR ps ls k).length=aC (ps.take k)
 |0,_=>rfl
 |k+1,h=>by
  simp only[iR,List.length_append,zC ps ls k (by omega),VQ (show k<ps.length by omega)]
  split<;>rfl
theorem Ja (ps ls:List ByteArray):∀k i,k≤ps.length→i<k→aX (ps.getD i noS)=true→(iR ps ls k)[aC (ps.take i)]? =some (qw (ps.getD i noS) (ls.getD i noS)).1
 |k+1,i,hk,hi,hs=>by
  have hl:=zC ps ls k (by omega)
  simp only[iR]
  by_cases e:i=k
  ·subst e
   rw[if_pos hs,List.getElem?_append_right (by omega),hl,Nat.sub_self];rfl
  ·have hlt:aC (ps.take i)<aC (ps.take k):=by
    have:=yz (ps.take k) i (by rw[List.length_take];omega) (by rw[List.getD_eq_getElem?_getD,List.getElem?_take,if_pos (by omega),←List.getD_eq_getElem?_getD];exact hs)
    rwa [List.take_take,Nat.min_eq_left (by omega)] at this
   rw[List.getElem?_append_left (by omega),Ja ps ls k i (by omega) (by omega) hs]
theorem VA {r:IK} (hr:okR r=true) {s:ByteArray} {l:List ByteArray} (hm:eP r.left s=some l):(pO r.right l).2=0:=by
 simp only[okR,decide_eq_true_eq] at hr
 unfold gm at hr
 have h1:gz r.left=true:=by
  cases h:gz r.left with
  |true=>rfl
  |false=>rw[h] at hr;simp at hr
 rw[if_pos h1] at hr
 have h2:gz r.right=true:=by
  cases h:gz r.right with
  |true=>rfl
  |false=>rw[h] at hr;simp at hr
 rw[if_pos h2] at hr
 have h3:aC r.left.parts=aC r.right.parts∧r.left.rest=r.right.rest:=Classical.byContradiction fun h=>by rw[if_neg h] at hr;cases hr
 obtain⟨h3,h4⟩:=h3
 unfold eP at hm
 cases hp:aJ s with
 |none=>rw[hp] at hm;cases hm
 |some ls=>
  rw[hp] at hm
  simp only at hm
  have hf:(xy r.left ls&&sG r.left.parts ls r.left.parts.length)=true:=Classical.byContradiction fun h=>by rw[if_neg h] at hm;cases hm
  rw[if_pos hf] at hm
  rw[Bool.and_eq_true] at hf
  obtain⟨hf,hcap⟩:=hf
  cases hm
  have hlc:ls.all comp=true:=by
   unfold aJ iT at hp
   repeat' split at hp
   all_goals first
    |cases hp;done
    |(rename_i hx;repeat' split at hx)
    |skip
   all_goals simp_all
  have hlen:=zC r.left.parts ls r.left.parts.length (Nat.le_refl _)
  rw[List.take_length] at hlen
  have hw:(iR r.left.parts ls r.left.parts.length++if r.left.rest=true then [dL (ls.drop r.left.parts.length) slash] else []).length=qN r.right:=by
   rw[List.length_append,hlen,qN,←h3,←h4];split<;>rfl
  have hfo:o7 r.right.parts (iR r.left.parts ls r.left.parts.length++if r.left.rest=true then [dL (ls.drop r.left.parts.length) slash] else []) r.right.parts.length=true:=by
   simp only[o7,List.all_eq_true,List.mem_range,Bool.or_eq_true,Bool.not_eq_true']
   intro i hi
   cases hs:aX (r.right.parts.getD i noS) with
   |false=>exact .inl rfl
   |true=>
    refine .inr ?_
    have hlt:=yz _ i hi hs
    rw[←h3] at hlt
    obtain⟨j,j1,j2,j3⟩:=EZ _ _ hlt
    have hg:=Ja r.left.parts ls _ j (Nat.le_refl _) j1 j2
    rw[j3] at hg
    rw[List.getD_eq_getElem?_getD,List.getElem?_append_left (by omega),hg,Option.getD_some]
    simp only[sG,List.all_eq_true,List.mem_range] at hcap
    have:=hcap j j1
    unfold qw at this⊢
    rw[if_pos j2] at this⊢
    split at this
    ·rename_i hh;rw[if_pos hh];exact this
    ·cases this
  unfold pO
  rw[if_pos h2,if_pos hw,if_pos hfo]
  split
  ·rename_i hre
   have hre':r.left.rest=true:=by rw[h4];exact hre
   rw[if_pos hre']
   have e:(iR r.left.parts ls r.left.parts.length++[dL (ls.drop r.left.parts.length) slash]).getD (aC r.right.parts) noS=dL (ls.drop r.left.parts.length) slash:=by
    rw[List.getD_eq_getElem?_getD,List.getElem?_append_right (by omega),hlen,h3,Nat.sub_self];rfl
   rw[e]
   have hd:ls.drop r.left.parts.length≠[]:=by
    intro h
    have hl:=List.drop_eq_nil_iff.1 h
    unfold xy at hf
    rw[hre'] at hf
    simp only[Bool.not_true,Bool.false_and,Bool.or_false,Bool.true_and,Bool.and_eq_true,Bool.not_eq_true',Bool.or_eq_false_iff,decide_eq_false_iff_not] at hf
    omega
   have hda:(ls.drop r.left.parts.length).all comp=true:=List.all_eq_true.2 fun x hx=>List.all_eq_true.1 hlc x (List.mem_of_mem_drop hx)
   rw[Ru hd hda,if_pos hda]
  ·rfl
theorem Wq {r:IK} (hr:okR r=true) (s:ByteArray):(TQ r s).2=(eP r.left s).isSome:=by
 unfold TQ
 rw[if_pos hr]
 cases hm:eP r.left s with
 |none=>rfl
 |some l=>simp only[VA hr hm];rfl
def BZ (x:eQ) (s:ByteArray):Bool:=(TQ x.line s).2&&!x.holes.any fun h=>(eP h s).isSome
theorem aav {m:List eQ} (hm:∀e∈m,gm e.line=0) (s:ByteArray):oW m s=match m.find? (fun x=>BZ x s) with|none=>(noS,false)|some x=>((TQ x.line s).1,true):=by
 have e:m.find? (fun x=>Zx x.BR s)=m.find? (fun x=>BZ x s):=by
  induction m with
  |nil=>rfl
  |cons a m ih=>
   have h1:Zx a.BR s=BZ a s:=by
    unfold Zx BZ
    rw[Wq (by rw[okR,hm a (by simp)];rfl)]
    rfl
   simp only[List.find?_cons,h1,ih fun e he=>hm e (List.mem_cons_of_mem _ he)]
 unfold oW
 rw[e]
 cases h:m.find? (fun x=>BZ x s) with
 |none=>rfl
 |some x=>
  have:=List.find?_some h
  simp only[BZ,Bool.and_eq_true] at this
  simp only
  rw[←this.1]
theorem XM {p:bH} {cs:List ByteArray}:pO p cs=
 if gz p then(if cs.length=qN p then(if o7 p.parts cs p.parts.length then
  (if p.rest then(if(split (cs.getD (aC p.parts) noS)).all comp then(dV++dL (jg p.parts cs p.parts.length++[cs.getD (aC p.parts) noS]) slash,0) else(noS,32))
    else(dV++dL (jg p.parts cs p.parts.length) slash,0)) else(noS,32)) else(noS,32)) else(noS,bV p):=by
 rw[←PR];rfl
end Go.Proofs.YtcpgicfphakdaaaGreatDoor
namespace Go.Proofs.YtcpgicfphakdaaaGreatDoor
open Go.Ab Tys
variable [Dr]
structure SV where
 og:Bool
 car:List bf
 con:List bf
 cre:List bf
structure RF (A:List (bf×SV)) (S:bf→SS):Prop where
 car:∀f g,(S f).car g↔g∈((ai A f).map SV.car).getD []
 con:∀f g,(S f).con g↔g∈((ai A f).map SV.con).getD []
 cre:∀f g,(S f).cre g↔g∈((ai A f).map SV.cre).getD []
def U5 (d:bJ) (k:Nat) (A:List (bf×SV)):Prop:=∀(j:Nat) (w:Rev),j<k→d.revs[j]? =some w→¬w.act=5→∃x,ai A (fileOf w)=some x
theorem U5.away {d:bJ} {k:Nat} {A:List (bf×SV)} (h:U5 d k A) {v:Rev} (hv:d.revs[k]? =some v) (h5:v.act=5):U5 d (k+1) A:=by
 intro j w hj hw w5
 by_cases e:j=k
 ·subst e;rw[hv] at hw;cases hw;exact absurd h5 w5
 ·exact h j w (by omega) hw w5
theorem U5.Xt {d:bJ} {k:Nat} {A:List (bf×SV)} (h:U5 d k A) {v:Rev} (hv:d.revs[k]? =some v) (x:SV):U5 d (k+1) (fV A (fileOf v) x):=by
 intro j w hj hw w5
 rw[fA]
 by_cases e:fileOf w=fileOf v
 ·exact⟨x,if_pos e⟩
 ·rw[if_neg e]
  have:j≠k:=by rintro rfl;rw[hv] at hw;cases hw;exact e rfl
  exact h j w (by omega) hw w5
structure Qv (S:bf→SS) (b:bf) (rs:List iD) (og:Bool) (n:Int) (c r:List bf):Prop where
 car:∀g,g∈c↔(S b).car g∨∃r∈rs,(r.how=1∧(S ⟨r.frm,r.last⟩).car g)∨(¬r.how=1∧¬r.how=3∧∃n,r.first≤n∧n≤r.last∧(S ⟨r.frm,n⟩).con g)
 cre:∀g,g∈r↔(S b).cre g∨∃r∈rs,r.how=3∧∃n,r.first≤n∧n≤r.last∧(S ⟨r.frm,n⟩).con g
 og:og=true↔rs=[]∨∃r∈rs,r.how=4
 n0:0≤n
 nz:n=0↔rs=[]
 nb:n≤2+rs.length
theorem Qv.step {S:bf→SS} {b:bf} {rs:List iD} {og:Bool} {n:Int} {c r1 c1 c2 r2:List bf} (h:Qv S b rs og n c r1) (q:iD) (h4:1≤q.how∧q.how≤4)
 (hc1:∀g,g∈c1↔g∈c∨(q.how=1∧(S ⟨q.frm,q.last⟩).car g)) (hc2:∀g,g∈c2↔g∈c1∨((q.how=2∨q.how=4)∧∃m,q.first≤m∧m<q.last+1∧(S ⟨q.frm,m⟩).con g))
 (hr2:∀g,g∈r2↔g∈r1∨(q.how=3∧∃m,q.first≤m∧m<q.last+1∧(S ⟨q.frm,m⟩).con g)):
 Qv S b (rs++[q]) (bif decide (q.how=4) then true else(bif decide (n+1=1) then false else og)) (bif decide (q.how=4) then 2 else n+1) c2 r2:=by
 have ex:∀g,(∃m,q.first≤m∧m<q.last+1∧(S ⟨q.frm,m⟩).con g)↔∃m,q.first≤m∧m≤q.last∧(S ⟨q.frm,m⟩).con g:=fun g=>
  ⟨fun⟨m,a1,a2,a3⟩=>⟨m,a1,by omega,a3⟩,fun⟨m,a1,a2,a3⟩=>⟨m,a1,by omega,a3⟩⟩
 have hn0:=h.n0
 have hnz:=h.nz
 have hnb:=h.nb
 refine⟨fun g=>?_,fun g=>?_,?_,?_,?_,?_⟩
 ·have:(q.how=2∨q.how=4)↔(¬q.how=1∧¬q.how=3):=by omega
  rw[hc2 g,hc1 g,h.car g,ex g,this]
  simp only[List.mem_append,List.mem_singleton,or_and_right,exists_or,exists_eq_left,or_assoc,and_assoc]
 ·rw[hr2 g,h.cre g,ex g]
  simp only[List.mem_append,List.mem_singleton,or_and_right,exists_or,exists_eq_left,or_assoc]
 ·by_cases q4:q.how=4
  ·simp[q4]
  ·rw[decide_eq_false q4]
   simp only[cond_false,List.append_eq_nil_iff,List.cons_ne_nil,and_false,false_or,List.mem_append,List.mem_singleton,or_and_right,exists_or,exists_eq_left,q4,or_false]
   by_cases e:n=0
   ·have hr:=hnz.1 e
    subst hr
    rw[e];simp
   ·rw[decide_eq_false (by omega:¬n+1=1)]
    simp only[cond_false,h.og]
    have:¬rs=[]:=fun hr=>e (hnz.2 hr)
    simp[this]
 ·by_cases q4:q.how=4
  ·simp[q4]
  ·rw[decide_eq_false q4];simp only[cond_false];omega
 ·by_cases q4:q.how=4
  ·simp[q4]
  ·rw[decide_eq_false q4];simp only[cond_false,List.append_eq_nil_iff,List.cons_ne_nil,and_false,iff_false];omega
 ·by_cases q4:q.how=4
  ·simp[q4];omega
  ·rw[decide_eq_false q4];simp only[cond_false,List.length_append,List.length_singleton];omega
theorem RF.step {A:List (bf×SV)} {d:bJ} {k:Nat} (h:RF A (gB d k)) {v:Rev} (hv:d.revs[k]? =some v) (h5:¬v.act=5) (x:SV) (hc:∀g,g∈x.car↔Hq (jK d (fileOf v)) (gB d k) (df v) (fileOf v) g)
 (hn:∀g,g∈x.con↔g∈x.car∧¬(gB d k (df v)).car g) (hr:∀g,g∈x.cre↔((gB d k (df v)).cre g∨∃r∈jK d (fileOf v),r.how=3∧∃n,r.first≤n∧n≤r.last∧(gB d k ⟨r.frm,n⟩).con g)∨g∈x.car):
 RF (fV A (fileOf v) x) (gB d (k+1)):=by
 have hs:gB d (k+1)=fun f=>if f=fileOf v then stepS (jK d (fileOf v)) (gB d k) v else gB d k f:=by simp only[gB,hv,h5,if_false]
 rw[hs]
 refine⟨fun f g=>?_,fun f g=>?_,fun f g=>?_⟩<;>rw[fA]<;>by_cases e:f=fileOf v
 ·simp only[if_pos e,stepS];exact(hc g).symm
 ·simp only[if_neg e];exact h.car f g
 ·simp only[if_pos e,stepS];rw[←hc g];exact(hn g).symm
 ·simp only[if_neg e];exact h.con f g
 ·simp only[if_pos e,stepS];rw[←hc g,←or_assoc];exact(hr g).symm
 ·simp only[if_neg e];exact h.cre f g
end Go.Proofs.YtcpgicfphakdaaaGreatDoor
namespace Go.Proofs.YtcpgicfphakdaaaGreatDoor
open Go.Ab
def jf (x:pz):List bf:=(List.range (x.last-x.first+1).toNat).map fun i:Nat=>⟨x.frm,x.first+(i:Int)⟩
theorem PU {ln:List Rev} {P:Rev→Bool} (inj:∀u∈ln,∀v∈ln,fileOf u=fileOf v→u=v):(ln.filter fun u=>decide (fileOf u∈(ln.filter P).map fileOf))=ln.filter P:=by
 refine List.filter_congr fun u hu=>?_
 rw[Bool.eq_iff_iff,decide_eq_true_iff,List.mem_map]
 constructor
 ·rintro⟨v,hv,e⟩
  obtain⟨h1,h2⟩:=List.mem_filter.1 hv
  rw[←inj v h1 u hu e];exact h2
 ·intro h;exact⟨u,List.mem_filter.2 ⟨hu,h⟩,rfl⟩
theorem Tt (rest:List bf) (ln:List Rev) (p:ByteArray):∀n i,fileOf (ln.getD i af)∈rest→∀k,i≤k→k≤wM rest ln p n i→fileOf (ln.getD k af)∈rest
 |0,i,h,k,h1,h2=>by rw[wM] at h2;rw[show k=i by omega];exact h
 |n+1,i,h,k,h1,h2=>by
  rw[wM] at h2
  split at h2
  ·rename_i hc
   by_cases e:k=i
   ·rw[e];exact h
   ·exact Tt rest ln p n (i+1) hc.2.1 k (by omega) h2
  ·rw[show k=i by omega];exact h
section
variable {ln:List Rev} (hnum:∀k,k+1<ln.length→(ln.getD (k+1) af).path=(ln.getD k af).path→(ln.getD (k+1) af).num=(ln.getD k af).num+1)
include hnum
theorem UB {p:ByteArray} {i j:Nat} (hj:j<ln.length) (hp:∀k,i≤k→k≤j→(ln.getD k af).path=p):∀k,i+k≤j→(ln.getD (i+k) af).num=(ln.getD i af).num+(k:Int)
 |0,_=>by simp
 |k+1,h=>by
  have ih:=UB hj hp k (by omega)
  have h1:=hnum (i+k) (by omega) (by rw[show i+k+1=i+(k+1) by omega,hp _ (by omega) h,hp _ (by omega) (by omega)])
  rw[show i+(k+1)=i+k+1 by omega,h1,ih];omega
theorem Ye (f:bf) (w:Rev) (mv:ByteArray) {p:ByteArray} {i j:Nat} (hij:i≤j) (hj:j<ln.length) (hp:∀k,i≤k→k≤j→(ln.getD k af).path=p):jf (runT f ln w mv i j)=((ln.drop i).take (j+1-i)).map fileOf:=by
 have hn:=UB hnum hj hp
 have e1:((ln.getD j af).num-(ln.getD i af).num+1).toNat=j+1-i:=by
  have:=hn (j-i) (by omega)
  rw[show i+(j-i)=j by omega] at this
  omega
 unfold jf runT
 simp only[e1]
 apply List.ext_getElem?
 intro k
 rw[List.getElem?_map,List.getElem?_map,List.getElem?_take,List.getElem?_drop]
 by_cases hk:k<j+1-i
 ·rw[List.getElem?_range hk,if_pos hk,getD_at (z:=af) (by omega:i+k<ln.length)]
  simp only[Option.map_some,fileOf,Option.some.injEq,bf.mk.injEq]
  exact⟨by rw[hp i (Nat.le_refl _) hij,hp (i+k) (by omega) (by omega)],(hn k (by omega)).symm⟩
 ·rw[if_neg hk,List.getElem?_eq_none (by simpa using hk)];rfl
theorem CV (f:bf) (rest:List bf) (w:Rev) (mv:ByteArray):∀n i,ln.length≤n+i→(wz f rest ln w mv n i).flatMap jf=((ln.drop i).filter fun u=>decide (fileOf u∈rest)).map fileOf
 |0,i,h=>by rw[wz,List.drop_eq_nil_of_le (by omega)];rfl
 |n+1,i,h=>by
  rw[wz]
  split
  ·rename_i hi
   split
   ·rename_i hr
    have hge:=AB rest ln (ln.getD i af).path ln.length i
    have hlt:=LK rest ln (ln.getD i af).path ln.length i hi
    have hpt:=Cc rest ln (ln.getD i af).path ln.length i rfl
    have hin:=Tt rest ln (ln.getD i af).path ln.length i hr
    unfold qB
    generalize wM rest ln (ln.getD i af).path ln.length i=j at hge hlt hpt hin⊢
    rw[List.flatMap_cons,CV f rest w mv n (j+1) (by omega),Ye hnum f w mv hge hlt hpt]
    have e:ln.drop i=(ln.drop i).take (j+1-i)++ln.drop (j+1):=by
     conv=>lhs;rw[←List.take_append_drop (j+1-i) (ln.drop i)]
     rw[List.drop_drop,show i+(j+1-i)=j+1 by omega]
    conv=>rhs;rw[e,List.filter_append,List.map_append]
    congr 1
    rw[List.filter_eq_self.2]
    intro u hu
    obtain⟨k,hk⟩:=List.getElem?_of_mem hu
    rw[List.getElem?_take,List.getElem?_drop] at hk
    split at hk
    ·have h9:=hin (i+k) (by omega) (by omega)
     rw[List.getD_eq_getElem?_getD,hk] at h9
     exact decide_eq_true h9
    ·cases hk
   ·rename_i hr
    rw[CV f rest w mv n (i+1) (by omega),List.drop_eq_getElem_cons hi,List.filter_cons,if_neg]
    rw[List.getD_eq_getElem?_getD,List.getElem?_eq_getElem hi] at hr
    simpa using hr
  ·rename_i hi
   rw[List.drop_eq_nil_of_le (by omega)];rfl
end
theorem Ic:∀(k:Nat) (l:List ByteArray),k<l.length→(yZ k l).Perm l
 |0,l,_=>List.Perm.refl l
 |k+1,l,hk=>by
  simp only[yZ]
  split
  ·exact(Ic k _ (by simp;omega)).trans (Qo l (k+1) k noS hk (by omega))
  ·exact List.Perm.refl l
theorem FU (l:List ByteArray):∀k,k≤l.length→(BH l k).Perm l
 |0,_=>List.Perm.refl l
 |k+1,h=>(Ic k _ (by rw[yj];omega)).trans (FU l k (by omega))
theorem MV (d:bJ):(jL d).Nodup:=
 (FU _ _ (Nat.le_refl _)).nodup_iff.2 (Gj d.revs [] List.nodup_nil)
def dF (x:pz):bf×bf:=(x.line,⟨x.to,x.head⟩)
theorem Bc {f:bf} {rest:List bf} {ln:List Rev} {w:Rev} {mv:ByteArray}:∀(n i:Nat),∀x∈wz f rest ln w mv n i,¬x.kind=1∧dF x=(f,fileOf w)
 |0,i,x,h=>by cases h
 |n+1,i,x,h=>by
  rw[wz] at h
  split at h
  ·split at h
   ·rcases List.mem_cons.1 h with rfl|h
    ·refine⟨?_,rfl⟩
     simp only[runT]
     split<;>omega
    ·exact Bc n _ x h
   ·exact Bc n _ x h
  ·cases h
theorem XV {α β:Type} [DecidableEq α] {l:List α} (hn:l.Nodup) {p:α} (hp:p∈l) {F:α→List β} (h:∀q∈l,¬q=p→F q=[]):l.flatMap F=F p:=by
 induction l with
 |nil=>cases hp
 |cons a l ih=>
  obtain⟨h1,h2⟩:=List.nodup_cons.1 hn
  rw[List.flatMap_cons]
  by_cases e:a=p
  ·subst e
   have:l.flatMap F=[]:=List.flatMap_eq_nil_iff.2 fun q hq=>h q (List.mem_cons_of_mem _ hq) fun e=>h1 (e▸hq)
   rw[this,List.append_nil]
  ·rw[h a List.mem_cons_self e,List.nil_append]
   rcases List.mem_cons.1 hp with e2|hp
   ·exact absurd e2.symm e
   ·exact ih h2 hp fun q hq=>h q (List.mem_cons_of_mem _ hq)
section
variable {d:bJ} (hg:Good d.revs) (hN:d.revs.length≤512) (hf:tV d)
include hg hN
theorem uS {v:Rev} (v5:¬v.act=5) (hl:dD d v.path=some v):jr d v=v∧0<(line d (first d v)).length:=by
 have hm:=(qA hl).1
 obtain⟨i,hv⟩:=List.getElem?_of_mem hm
 obtain⟨L,me,hr⟩:=ZI (d:=d) (Nat.le_refl _)
 have hI:=hr.inv hg
 obtain⟨is,hx,hin⟩:=ZE hg hN hI hv v5
 obtain⟨h0,h1⟩:=TG hg hN hI hv v5 hl hx hin
 refine⟨?_,by rw[hx.ln,List.length_map];exact h0⟩
 unfold jr
 rw[hx.ln,List.length_map,List.getD_eq_getElem?_getD,List.getElem?_map,h1]
 exact Iy hv
omit hN in
theorem Xi (f:bf):∀u∈line d f,∀v∈line d f,fileOf u=fileOf v→u=v:=by
 intro u hu v hv e
 obtain⟨i,hi⟩:=List.getElem?_of_mem (sQ.1 hu).1
 obtain⟨j,hj⟩:=List.getElem?_of_mem (sQ.1 hv).1
 have:=bQ hg hi hj e
 subst this;rw[hi] at hj;cases hj;rfl
open Classical in
theorem V8 {v w:Rev} (v5:¬v.act=5) (hl:dD d v.path=some v) (hw:w∈d.revs) (w5:¬w.act=5):lm d (fileOf v) (fileOf w)=some (((line d (first d v)).filter fun u=>decide (Open d (fileOf w) u)).map fileOf):=by
 have hm:=(qA hl).1
 obtain⟨i,hv⟩:=List.getElem?_of_mem hm
 obtain⟨j,hj⟩:=List.getElem?_of_mem hw
 have h1:jQ d (fileOf v).path (fileOf v).num=some v:=(gW hg).2 ⟨i,hv,rfl,v5⟩
 have h2:jQ d (fileOf w).path (fileOf w).num=some w:=(gW hg).2 ⟨j,hj,rfl,w5⟩
 obtain⟨e,h0⟩:=uS hg hN v5 hl
 have hp:(jD d (first d v))[(line d (first d v)).length-1]? =some v:=by
  rw[←oM hg hN,getD_at (z:=af) (by omega)]
  exact congrArg some e
 unfold lm
 rw[h1,h2]
 show some (FY d v (fileOf w))=_
 rw[X8 hg hN (fileOf w) hp,←oM hg hN,List.take_of_length_le (by omega)]
include hf
theorem VZ (f:bf):∀k,k+1<(line d f).length→((line d f).getD (k+1) af).path=((line d f).getD k af).path→((line d f).getD (k+1) af).num=((line d f).getD k af).num+1:=by
 intro k hk hp
 have e:=oM hg hN f
 refine CJ hg hN hf (f:=f) (i:=k) ?_ ?_ hp
 ·rw[←e];exact getD_at (by omega)
 ·rw[←e];exact getD_at hk
theorem KD {m:List eQ} {p:ByteArray} (hp:p∈jL d) {x:pz} (hx:x∈l7 d m p) (hk:¬x.kind=1):
 ∃v w:Rev,dD d p=some v∧v.path=p∧¬v.act=5∧dF x=(first d v,fileOf w)∧(∀y∈l7 d m p,¬y.kind=1∧dF y=dF x)∧lm d (fileOf v) (fileOf w)=some ((l7 d m p).flatMap jf)∧((l7 d m p).flatMap jf).length≤d.revs.length:=by
 obtain⟨v0,hv0,rfl⟩:=zS hp
 obtain⟨v,hv⟩:=A7 hv0
 obtain⟨vm,vp⟩:=qA hv
 rw[←vp] at hv hx⊢
 unfold l7 at hx⊢
 rw[hv] at hx⊢
 simp only[Option.getD_some] at hx⊢
 split at hx
 ·cases hx
 rename_i hc
 rw[if_neg hc]
 rw[not_or] at hc
 obtain⟨hc1,v5⟩:=hc
 split at hx
 ·split at hx
  ·cases hx
  ·rw[List.mem_singleton] at hx
   subst hx
   exact absurd rfl hk
 ·rename_i w q htg
  split at hx
  ·split at hx
   ·cases hx
   ·rw[List.mem_singleton] at hx
    subst hx
    exact absurd rfl hk
  ·rename_i w3
   rw[if_neg w3]
   obtain⟨t1,t2,t3⟩:=yM hg htg
   obtain⟨P,hP⟩:∃P:Rev→Bool,lm d (fileOf v) (fileOf w)=some (((line d (first d v)).filter P).map fileOf):=⟨_,V8 hg hN v5 hv (qA t1).1 t2⟩
   have hke:=(Bc _ _ x hx).2
   have hr:uq d (fileOf v) (some (w,q))=((line d (first d v)).filter P).map fileOf:=by simp only[uq];rw[hP];rfl
   have hfl:(ut (first d v) (uq d (fileOf v) (some (w,q))) (line d (first d v)) w (NT d m v.path (oW m v.path).1 w q) 0).flatMap jf=((line d (first d v)).filter P).map fileOf:=by
    unfold ut
    rw[CV (VZ hg hN hf _) _ _ _ _ _ _ (by omega),List.drop_zero,hr,PU (Xi hg _)]
   refine⟨v,w,rfl,rfl,v5,hke,?_,?_,?_⟩
   ·intro y hy
    obtain⟨y1,y2⟩:=Bc _ _ y hy
    exact⟨y1,by rw[y2,hke]⟩
   ·rw[hP,htg]
    exact congrArg some hfl.symm
   ·rw[htg]
    have:(ut (first d v) (uq d (fileOf v) (some (w,q))) (line d (first d v)) w (NT d m v.path (oW m v.path).1 w q) 0).flatMap jf=_:=hfl
    rw[this,List.length_map]
    exact Nat.le_trans (List.length_filter_le ..) (List.length_filter_le ..)
end
def kK (ts:List pz):List ((bf×bf)×bf):=ts.flatMap fun x=>if x.kind=1 then [] else(jf x).map fun n=>(dF x,n)
def jU (E:List ((bf×bf)×bf)) (k:bf×bf):List bf:=(E.filter fun e=>decide (e.1=k)).map (·.2)
theorem mJ (A B:List ((bf×bf)×bf)) (k:bf×bf):jU (A++B) k=jU A k++jU B k:=by simp[jU]
theorem Wh (l:List bf) (k:bf×bf):jU (l.map fun n=>(k,n)) k=l:=by
 unfold jU
 rw[List.filter_eq_self.2 (by intro e he;obtain⟨n,_,rfl⟩:=List.mem_map.1 he;simp),List.map_map]
 exact List.map_id l
theorem Sj {l:List bf} {k j:bf×bf} (h:¬j=k):jU (l.map fun n=>(j,n)) k=[]:=by
 unfold jU
 rw[List.filter_eq_nil_iff.2 (by intro e he;obtain⟨n,_,rfl⟩:=List.mem_map.1 he;simpa using h)];rfl
theorem V4 {ts:List pz} {k:bf×bf} (h:∀y∈ts,¬y.kind=1∧dF y=k):jU (kK ts) k=ts.flatMap jf:=by
 induction ts with
 |nil=>rfl
 |cons y ts ih=>
  have e:kK (y::ts)=((jf y).map fun n=>(k,n))++kK ts:=by
   unfold kK
   rw[List.flatMap_cons,if_neg (h y List.mem_cons_self).1,(h y List.mem_cons_self).2]
  rw[e,mJ,Wh,List.flatMap_cons,ih fun z hz=>h z (List.mem_cons_of_mem _ hz)]
theorem Qj {ts:List pz} {k:bf×bf} (h:∀y∈ts,¬y.kind=1→¬dF y=k):jU (kK ts) k=[]:=by
 induction ts with
 |nil=>rfl
 |cons y ts ih=>
  have e:kK (y::ts)=(if y.kind=1 then [] else(jf y).map fun n=>(dF y,n))++kK ts:=by unfold kK;rw[List.flatMap_cons]
  rw[e,mJ,ih fun z hz=>h z (List.mem_cons_of_mem _ hz),List.append_nil]
  split
  ·rfl
  ·rename_i h1
   exact Sj (h y List.mem_cons_self h1)
theorem rJ (a b:List pz):kK (a++b)=kK a++kK b:=by simp[kK]
theorem Jg (k:bf×bf) (F:ByteArray→List pz):∀l:List ByteArray,jU (kK (l.flatMap F)) k=l.flatMap fun p=>jU (kK (F p)) k
 |[]=>rfl
 |a::l=>by rw[List.flatMap_cons,List.flatMap_cons,rJ,mJ,Jg k F l]
theorem NM {d:bJ} (hg:Good d.revs) (hN:d.revs.length≤512) (hf:tV d) {m:List eQ} {x:pz} (hx:x∈zu d m) (hk:¬x.kind=1):
 (jD d (dF x).1).length≠0∧lm d (fileOf ((jD d (dF x).1).getD ((jD d (dF x).1).length-1) af)) (dF x).2=some (jU (kK (zu d m)) (dF x))∧(jU (kK (zu d m)) (dF x)).length≤d.revs.length:=by
 obtain⟨p,hp,hxp⟩:=List.mem_flatMap.1 hx
 obtain⟨v,w,h1,h2,h3,h4,h5,h6,h7⟩:=KD hg hN hf hp hxp hk
 have hpk:jU (kK (zu d m)) (dF x)=(l7 d m p).flatMap jf:=by
  unfold zu
  rw[Jg,XV (MV d) hp,V4 h5]
  intro q hq hne
  refine Qj fun y hy y1 e=>hne ?_
  obtain⟨v',w',g1,g2,g3,g4,g5,g6,g7⟩:=KD hg hN hf hq hy y1
  have hff:first d v'=first d v:=by rw[g4,h4] at e;exact congrArg Prod.fst e
  have e1:=(uS hg hN h3 (by rw[h2];exact h1)).1
  have e2:=(uS hg hN g3 (by rw[g2];exact g1)).1
  have:v'=v:=by
   rw[←e1,←e2];unfold jr;rw[hff]
  rw[←g2,←h2,this]
 have hl:dD d v.path=some v:=by rw[h2];exact h1
 obtain⟨e1,e0⟩:=uS hg hN h3 hl
 rw[hpk,h4]
 simp only
 rw[←oM hg hN]
 refine⟨by omega,?_,h7⟩
 have:(line d (first d v)).getD ((line d (first d v)).length-1) af=v:=e1
 rw[this];exact h6
end Go.Proofs.YtcpgicfphakdaaaGreatDoor
namespace Go.Proofs.YtcpgicfphakdaaaGreatDoor
open Go.Ab
variable [Dr]
@[reducible] def Qq (k:bf×bf):Bool×List D:=(true,[.v (.string k.1.path), .v (.int .i64 k.1.num), .v (.string k.2.path), .v (.int .i64 k.2.num)])
@[reducible] def wY (k:bf×bf):List C:=[.d (.v (.string k.1.path)), .d (.v (.int .i64 k.1.num)), .d (.v (.string k.2.path)), .d (.v (.int .i64 k.2.num))]
@[reducible] def aco:List Kd:=[.str, .int .i64, .str, .int .i64]
@[reducible] def vFs (l:List bf):Bool×List D:=(false,[.ps 2 (l.map dW)])
theorem CE (a b:bf×bf):jE ((Qq a).2.map C.d) ((Qq b).2.map C.d)=decide (a=b):=by
 obtain⟨⟨p,n⟩,⟨q,m⟩⟩:=a
 obtain⟨⟨p',n'⟩,⟨q',m'⟩⟩:=b
 simp[jE,Dy,Bool.decide_and,Bool.and_assoc]
theorem SX (m:List ((bf×bf)×(Value×List bf))) (k:bf×bf):fD (wY k) ((bM Qq vV m).map fC)=(ai m k).map fun v=>(false,[C.d (.v v.1)]):=
 nP (ve:=vV) CE m k
theorem Kt (m:List ((bf×bf)×(Value×List bf))):∀e∈(bM Qq vV m).map fC,e.1.1=true∧cZ aco e.1.2:=by
 intro e he
 simp only[bM,List.mem_map] at he
 obtain⟨_,⟨f,_,rfl⟩,rfl⟩:=he
 exact⟨rfl,by simp[fC,jV,cZ]⟩
theorem Aj (k:bf×bf) (w:Bool×List C):∀es:List uj,(∀e∈es,e.1.1=true∧cZ aco e.1.2)→∀e∈dH (true,wY k) w es,e.1.1=true∧cZ aco e.1.2
 |[],_=>by intro e he;simp[dH] at he;subst he;simp[cZ]
 |a::es,h=>by
  intro e he
  simp only[dH] at he
  split at he
  ·rcases List.mem_cons.1 he with rfl|he
   ·simp[cZ]
   ·exact h e (List.mem_cons_of_mem _ he)
  ·rcases List.mem_cons.1 he with rfl|he
   ·exact h _ List.mem_cons_self
   ·exact Aj k w es (fun e he=>h e (List.mem_cons_of_mem _ he)) e he
structure Az (E:List ((bf×bf)×bf)) (G:List ((bf×bf)×(Value×List bf))) (ps:List (Value×List (List D))):Prop where
 perm:ps.Perm (iP dW G)
 look:∀k,(ai (wK G) k).getD []=jU E k
 ne:∀k,ai (wK G) k≠some []
 nd:(G.map (·.1)).Nodup
theorem Gl {κ:Type} [DecidableEq κ] {l:List κ} (h:l.Nodup) (k:κ):(nD l k).Nodup:=by
 unfold nD
 split
 ·exact h
 ·rename_i hk
  rw[List.nodup_append]
  exact⟨h,by simp,fun a ha b hb=>by simp at hb;subst hb;exact fun e=>hk (e▸ha)⟩
theorem Az.zero:Az [] [] []:=by constructor<;>simp[iP,wK,ai,jU]
theorem Az.step {E:List ((bf×bf)×bf)} {G:List ((bf×bf)×(Value×List bf))} {ps ps':List (Value×List (List D))} (h:Az E G ps) (k:bf×bf) (x:bf) (v:Value) (zs:List bf) (hz:zs=(ai (wK G) k).getD []++[x])
 (hp:ps'.Perm (iP dW (fV G k (v,zs)))):Az (E++[(k,x)]) (fV G k (v,zs)) ps':=by
 refine⟨hp,?_,?_,by rw[yB];exact Gl h.nd k⟩
 ·intro f
  rw[qM,fA,mJ,←h.look f]
  by_cases e:f=k
  ·subst e;rw[if_pos rfl,hz];simp[jU]
  ·rw[if_neg e]
   have:jU [(k,x)] f=[]:=by unfold jU;simp;exact fun h=>e h.symm
   rw[this,List.append_nil]
 ·intro f
  rw[qM,fA]
  split
  ·rw[hz];simp
  ·exact h.ne f
theorem Az.same {E:List ((bf×bf)×bf)} {G:List ((bf×bf)×(Value×List bf))} {ps ps':List (Value×List (List D))} (h:Az E G ps) {k:bf×bf} {v0 v:Value} {ys:List bf} (hk:ai G k=some (v0,ys)) (hp:ps'.Perm (iP dW (fV G k (v,ys)))):Az E (fV G k (v,ys)) ps':=by
 have hu:ai (wK G) k=some ys:=by rw[jk,hk];rfl
 have e:∀f,ai (wK (fV G k (v,ys))) f=ai (wK G) f:=by
  intro f
  rw[qM,fA]
  by_cases e:f=k
  ·subst e;rw[if_pos rfl,hu]
  ·rw[if_neg e]
 exact⟨hp,fun f=>by rw[e];exact h.look f,fun f=>by rw[e];exact h.ne f,by rw[yB];exact Gl h.nd k⟩
theorem Bd {κ ν:Type} [DecidableEq κ]:∀{m:List (κ×ν)},(m.map (·.1)).Nodup→∀{e:κ×ν},e∈m→ai m e.1=some e.2
 |a::m,h,e,he=>by
  rw[List.map_cons,List.nodup_cons] at h
  simp only[ai]
  rcases List.mem_cons.1 he with rfl|he
  ·simp
  ·have hne:¬e.1=a.1:=fun e2=>h.1 (by rw[←e2];exact List.mem_map.2 ⟨e,he,rfl⟩)
   rw[if_neg hne]
   exact Bd h.2 he
structure aby (d:bJ) (e:(bf×bf)×List bf):Prop where
 ne:(jD d e.1.1).length≠0
 rem:lm d (fileOf ((jD d e.1.1).getD ((jD d e.1.1).length-1) af)) e.1.2=some e.2
 len:e.2.length≤d.revs.length
theorem Az.law {d:bJ} (hg:Good d.revs) (hN:d.revs.length≤512) (hf:tV d) {m:List eQ} {G:List ((bf×bf)×(Value×List bf))} {ps:List (Value×List (List D))} (h:Az (kK (zu d m)) G ps):∀e∈wK G,aby d e:=by
 intro e he
 have hk:(wK G).map (·.1)=G.map (·.1):=by simp[wK]
 have h1:=Bd (by rw[hk];exact h.nd) he
 have h2:=h.look e.1
 rw[h1,Option.getD_some] at h2
 have h3:=h.ne e.1
 rw[h1] at h3
 have h4:∃x∈zu d m,¬x.kind=1∧dF x=e.1:=by
  refine Classical.byContradiction fun hn=>h3 ?_
  rw[h2,Qj fun y hy y1 e1=>hn ⟨y,hy,y1,e1⟩]
 obtain⟨x,hx,hx1,hx2⟩:=h4
 obtain⟨a,b,c⟩:=NM hg hN hf hx hx1
 rw[hx2] at a b c
 exact⟨a,by rw[b,h2],by rw[h2];exact c⟩
theorem I8 (x:pz):(jf x).length=(x.last-x.first+1).toNat:=by simp[jf]
theorem WO {x:pz} {j:Nat} (h:j<(jf x).length):(jf x)[j]? =some ⟨x.frm,x.first+j⟩:=by
 rw[I8] at h
 unfold jf
 rw[List.getElem?_map,List.getElem?_range h];rfl
def FN (ts:List pz) (k:Nat) (x:pz) (j:Nat):List ((bf×bf)×bf):=kK (ts.take k)++((jf x).take j).map fun n=>(dF x,n)
theorem U9 (ts:List pz) (k:Nat) (x:pz):FN ts k x 0=kK (ts.take k):=by simp[FN]
theorem UU {ts:List pz} {k:Nat} {x:pz} {j:Nat} (h:j<(jf x).length):FN ts k x (j+1)=FN ts k x j++[(dF x,⟨x.frm,x.first+j⟩)]:=by
 unfold FN
 rw[List.take_succ,WO h];simp
theorem ND {ts:List pz} {k:Nat} {x:pz} (hx:ts.take (k+1)=ts.take k++[x]) (h1:¬x.kind=1):FN ts k x (jf x).length=kK (ts.take (k+1)):=by
 unfold FN
 rw[hx,rJ,List.take_length]
 congr 1
 simp[kK,h1]
theorem Vq {ts:List pz} {k:Nat} {x:pz} (hx:ts.take (k+1)=ts.take k++[x]) (h1:x.kind=1):kK (ts.take (k+1))=kK (ts.take k):=by
 rw[hx,rJ];simp[kK,h1]
theorem XE {ts:List pz} {k:Nat} {x:pz} {j:Nat} (hx:ts.take (k+1)=ts.take k++[x]) (h1:¬x.kind=1):(jU (FN ts k x j) (dF x)).length≤(jU (kK ts) (dF x)).length:=by
 have e:kK ts=FN ts k x j++(((jf x).drop j).map (fun n=>(dF x,n))++kK (ts.drop (k+1))):=by
  conv=>lhs;rw[←List.take_append_drop (k+1) ts,rJ,←ND hx h1]
  unfold FN
  rw[List.take_length,List.append_assoc (kK _),List.append_assoc (kK _)]
  congr 1
  rw[←List.append_assoc,←List.map_append,List.take_append_drop]
 rw[e,mJ];simp
end Go.Proofs.YtcpgicfphakdaaaGreatDoor
namespace Go.Proofs.YtcpgicfphakdaaaGreatDoor
open Go.Ab Tys
variable [Dr]
@[reducible] def mB:ByteArray:={data:= #[47,47,109,47,102]}
@[reducible] def dB:ByteArray:={data:= #[47,47,100,47,102]}
@[reducible] def WR:Rev:=⟨mB,1,1,1,1,false,false,false,0,0,ByteArray.empty,0⟩
@[reducible] def WS:Rev:=⟨dB,1,2,1,1,false,false,false,0,0,ByteArray.empty,0⟩
@[reducible] def IM:Rev:=⟨mB,2,3,2,1,false,false,false,0,0,ByteArray.empty,0⟩
@[reducible] def awr:iD:=⟨mB,1,1,dB,1,1⟩
@[reducible] def d0:bJ:=⟨[WR,WS,IM],[awr]⟩
theorem kL {i:Nat} {v:Rev} (h:d0.revs[i]? =some v):(i=0∧v=WR)∨(i=1∧v=WS)∨(i=2∧v=IM):=by
 rcases i with _|_|_|i
 ·simp at h;exact .inl ⟨rfl,h.symm⟩
 ·simp at h;exact .inr (.inl ⟨rfl,h.symm⟩)
 ·simp at h;exact .inr (.inr ⟨rfl,h.symm⟩)
 ·simp at h
theorem aaQ:Good d0.revs:=by
 constructor
 ·intro i v h;rcases kL h with⟨rfl,rfl⟩|⟨rfl,rfl⟩|⟨rfl,rfl⟩<;>simp
 ·intro i v h;rcases kL h with⟨rfl,rfl⟩|⟨rfl,rfl⟩|⟨rfl,rfl⟩<;>simp
 ·intro i j u v hij hu hv
  rcases kL hu with⟨rfl,rfl⟩|⟨rfl,rfl⟩|⟨rfl,rfl⟩<;>rcases kL hv with⟨rfl,rfl⟩|⟨rfl,rfl⟩|⟨rfl,rfl⟩<;>first|omega|simp
 ·intro i j u v hij hu hv hp
  rcases kL hu with⟨rfl,rfl⟩|⟨rfl,rfl⟩|⟨rfl,rfl⟩<;>rcases kL hv with⟨rfl,rfl⟩|⟨rfl,rfl⟩|⟨rfl,rfl⟩<;>first|omega|(exact absurd hp (by decide))|simp
 ·intro i v h h1 h4
  rcases kL h with⟨rfl,rfl⟩|⟨rfl,rfl⟩|⟨rfl,rfl⟩
  ·exact absurd rfl h1
  ·exact absurd rfl h1
  ·exact⟨0,WR,by omega,rfl,rfl,rfl,by decide,by decide,by decide⟩
 ·intro i v h h4
  rcases kL h with⟨rfl,rfl⟩|⟨rfl,rfl⟩|⟨rfl,rfl⟩<;>exact absurd h4 (by decide)
 ·intro i v h h4
  rcases kL h with⟨rfl,rfl⟩|⟨rfl,rfl⟩|⟨rfl,rfl⟩<;>exact absurd h4 (by decide)
 ·intro i j u v hij hu hv u4
  rcases kL hu with⟨rfl,rfl⟩|⟨rfl,rfl⟩|⟨rfl,rfl⟩<;>exact absurd u4 (by decide)
@[reducible] def sv1:SV:=⟨true,[⟨mB,1⟩],[⟨mB,1⟩],[⟨mB,1⟩]⟩
@[reducible] def sv2:SV:=⟨false,[⟨mB,1⟩],[⟨mB,1⟩],[⟨mB,1⟩]⟩
@[reducible] def sv3:SV:=⟨true,[⟨mB,1⟩,⟨mB,2⟩],[⟨mB,2⟩],[⟨mB,1⟩,⟨mB,2⟩]⟩
theorem ok1:RF [(⟨mB,1⟩,sv1)] (gB d0 1):=by
 have h0:RF [] (gB d0 0):=by constructor<;>simp[gB,SS0,ai]
 have hi:jK d0 (fileOf WR)=[]:=by decide
 refine h0.step (v:=WR) rfl (by decide) sv1 ?_ ?_ ?_<;>intro g<;>(try rw[hi])<;>simp[Hq,gB,SS0,fileOf]
theorem ok2:RF [(⟨mB,1⟩,sv1),(⟨dB,1⟩,sv2)] (gB d0 2):=by
 have hi:jK d0 (fileOf WS)=[awr]:=by decide
 have hb:df WS=xH:=by decide
 have hz:ai [((⟨mB,1⟩:bf),sv1)] xH=none:=by decide
 have:=ok1.step (v:=WS) rfl (by decide) sv2 (by
  intro g;rw[hi,hb,Hq];simp only[ok1.car,ok1.con,hz];simp[ai]) (by
  intro g;simp only[hb,ok1.car,hz];simp) (by
  intro g;rw[hi,hb];simp only[ok1.car,ok1.con,ok1.cre,hz];simp)
 exact this
theorem ok3:RF [(⟨mB,1⟩,sv1),(⟨dB,1⟩,sv2),(⟨mB,2⟩,sv3)] (SA d0):=by
 have hi:jK d0 (fileOf IM)=[]:=by decide
 have hb:df IM=⟨mB,1⟩:=by decide
 have:=ok2.step (v:=IM) rfl (by decide) sv3 (by
  intro g;rw[hi,hb,Hq];simp only[ok2.car,ok2.con];simp[ai,fileOf]) (by
  intro g;simp only[hb,ok2.car];simp[ai];constructor
  ·intro h;rw[h];exact⟨.inr rfl,by decide⟩
  ·rintro⟨h|h,h2⟩
   ·exact absurd h h2
   ·exact h) (by
  intro g;rw[hi,hb];simp only[ok2.car,ok2.con,ok2.cre];simp[ai])
 exact this
theorem Vx:lm d0 ⟨mB,2⟩ ⟨dB,1⟩=some [⟨mB,2⟩]:=by
 have m1:jQ d0 mB 2=some IM:=by decide
 have m2:jQ d0 dB 1=some WS:=by decide
 have f1:first d0 WR=first d0 IM:=by decide
 have f2:¬first d0 WS=first d0 IM:=by decide
 have o1:¬Open d0 ⟨dB,1⟩ WR:=by
  simp only[Open,ok3.con,ok3.cre,fileOf]
  intro h
  exact h fun g hg=>hg
 have o3:Open d0 ⟨dB,1⟩ IM:=by
  simp only[Open,ok3.con,ok3.cre,fileOf]
  intro h
  have:=h ⟨mB,2⟩ (by decide)
  exact absurd this (by decide)
 have p1:¬(¬WR.act=5∧first d0 WR=first d0 IM∧WR.chg≤IM.chg∧Open d0 ⟨dB,1⟩ WR):=fun h=>o1 h.2.2.2
 have p2:¬(¬WS.act=5∧first d0 WS=first d0 IM∧WS.chg≤IM.chg∧Open d0 ⟨dB,1⟩ WS):=fun h=>f2 h.2.1
 have p3:¬IM.act=5∧first d0 IM=first d0 IM∧IM.chg≤IM.chg∧Open d0 ⟨dB,1⟩ IM:=⟨by decide,rfl,by decide,o3⟩
 have e:FY d0 IM ⟨dB,1⟩=[⟨mB,2⟩]:=by
  rw[FY,show d0.revs=[WR,WS,IM] from rfl,List.filter_cons,List.filter_cons,List.filter_cons,List.filter_nil,if_neg (by simpa using p1),if_neg (by simpa using p2),if_pos (by simpa using p3)];rfl
 simp only[lm,m1,m2,e]
def z9.kk:=p3 (RJ kB kG kS Tryz.ntmps9 Tryz.underlying43 ny pM OH iK zk nI DD Ua uM) (RJ Eu oC oI Uw jq gU ED kW EY yK EI Fe Bo EC) (p12 MR x8 IW uz uB vT Vy X9 nT IY kC Tryz.results9)
open z9 in
theorem XI:AC Tryz.prog 9 [] [] (fun r st=>r=B true∧st=[]):=by
 have hR:=BF d0 aaQ (by decide) (by decide) ⟨mB,2⟩ ⟨dB,1⟩
 rw[←CP Vx] at hR
 refine dA Tryz.func9 Tryz.ntmps9 fun x hx=>?_
 refine bC ?_
 refine gg ?_
 refine bC ?_
 refine gg ?_
 refine bC ?_
 refine dw (wr:=false) 6 (by simp only[kk,Nat.reduceAdd,Nat.reduceLT,Nat.reduceEqDiff, ↓reduceIte,reduceCtorEq];first|done|rfl) ?_ ?_
 ·exact vO
 refine bz (aZ (i:=12) (id:=12) (ys:=d0.revs.map aI) rfl rfl rfl) ?_
 refine dZ ?_
 refine dw (wr:=false) 1 (by simp only[kk,Nat.reduceAdd,Nat.reduceLT,Nat.reduceEqDiff, ↓reduceIte,reduceCtorEq];first|done|rfl) ?_ ?_
 ·exact vO
 refine bz (aZ (i:=14) (id:=14) (ys:=d0.recs.map bi) rfl rfl rfl) ?_
 refine dZ ?_
 (repeat (first|refine nv ?_|refine cf (hR) ?_))
 refine BP (wr:=false) (by simp only[kk,Nat.reduceAdd,Nat.reduceLT,Nat.reduceEqDiff, ↓reduceIte,reduceCtorEq,Int.toNat_zero,dW,cond_true,show((1:Nat):Int)=1 from rfl];first|done|rfl) ?_
 try refine nv ?_
 refine rA [] ?_
 refine⟨?_,rfl⟩
 rfl
theorem aaJ {α:Type} {a b:List α} {k:Nat} {x y:α} (h:a.take k=b.take k) (ha:a[k]? =some x) (hb:b[k]? =some y) (e:x=y):a.take (k+1)=b.take (k+1):=by
 rw[List.take_add_one,List.take_add_one,ha,hb,h,e]
def z15.kk:=p9 kB Tryz.ntmps15 Tryz.underlying43 pM Ua abB vT Vy Tryz.results15
open z15 in
theorem aaV (a b:List bf) (ha:a.length≤1000000):AC Tryz.prog 15 [JG a,JG b] [] (fun r st=>r=B (decide (a=b))∧st=[]):=by
 refine dA Tryz.func15 Tryz.ntmps15 fun x hx=>?_
 try refine nv ?_
 refine aj ?_ ?_
 ·intro h
  have h':¬(a.length:Int)=b.length:=by simpa using h
  try refine nv ?_
  refine rA [] ?_
  refine⟨?_,rfl⟩
  have:¬a=b:=fun e=>h' (by rw[e])
  simp[this]
 intro h
 have h':a.length=b.length:=by
  have:(a.length:Int)=b.length:=by simpa using h
  omega
 try refine nv ?_
 refine ax (ι:=Nat) (I:=fun k=>⟨26,[(0,JG a),(1,JG b),(12,I .i64 a.length),(13,I .i64 k)],[]⟩) (Inv:=fun k=>k≤a.length∧a.take k=b.take k) (μ:=fun k=>a.length-k) 0 ⟨by simp,by simp⟩ ?_ ?_
 ·exact cO
 rintro k ⟨hk,hkk⟩
 try refine nv ?_
 refine aj ?_ ?_
 ·intro hlt
  have hlt':k<a.length:=by simpa using hlt
  obtain⟨x,hx1,he,htk⟩:=round dW a k xH hlt'
  obtain⟨y,hy1,he2,htk2⟩:=round dW b k xH (by omega)
  have hbl:(k:Int)<(b.length:Int):=by omega
  try refine nv ?_
  refine dx ([]) (p2 @he @he2) ?_ ?_
  ·exact vO
  refine bC ?_
  have hc:(decide (x.path=y.path)&&decide (x.num=y.num))=decide (x=y):=by cases x;cases y;simp[Bool.decide_and]
  refine aj ?_ ?_
  ·intro hne
   have hne':¬x=y:=by
    intro e
    subst e
    simp at hne
   try refine nv ?_
   refine rA [] ?_
   refine⟨?_,rfl⟩
   have:¬a=b:=by
    intro e
    subst e
    rw[hx1] at hy1
    exact hne' (Option.some.inj hy1)
   simp[this]
  ·intro heq
   have heq':x=y:=by
    have h0:=heq
    simp only[hc] at h0
    by_cases e:x=y
    ·exact e
    ·simp[e] at h0
   try refine nv ?_
   refine⟨k+1,⟨by omega,aaJ hkk hx1 hy1 heq'⟩,by omega,?_⟩
   exact cO
 ·intro hge
  have hge':k=a.length:=by have:¬k<a.length:=by simpa using hge
                           omega
  try refine nv ?_
  refine rA [] ?_
  refine⟨?_,rfl⟩
  have:a=b:=by
   have h0:=hkk
   rw[hge',List.take_length,h',List.take_length] at h0
   exact h0
  simp[this]
end Go.Proofs.YtcpgicfphakdaaaGreatDoor
