/- A part of the proof. -/
import Derived.Test.YtcpgicfphakdaaaGreatDoorRL1
import Derived.Test.YtcpgicfphakdaaaGreatDoorRX6
set_option maxRecDepth 100000
set_option maxHeartbeats 8000000
set_option linter.all false
namespace Go.Proofs.YtcpgicfphakdaaaGreatDoor
open Go.Ab Tys
variable [Dr]
theorem ZP {p q:bH}:wo p q↔((q.rest=true∨(p.rest=false∧p.parts.length=q.parts.length))∧q.parts.length≤p.parts.length∧(q.rest=true→p.parts.length=q.parts.length→p.rest=true))∧∀i,i<q.parts.length→aY (p.parts.getD i noS) (q.parts.getD i noS)=true:=by
 constructor
 ·rintro⟨h1,h2,h3,h4⟩
  refine⟨⟨?_,h1,h3⟩,h4⟩
  cases hr:q.rest with
  |true=>exact .inl rfl
  |false=>exact .inr (h2 hr)
 ·rintro⟨⟨h1,h2,h3⟩,h4⟩
  refine⟨h2,fun hr=>?_,h3,h4⟩
  rcases h1 with h1|h1
  ·rw[hr] at h1;cases h1
  ·exact h1
def aeh.kk:=p13 kB kG Tryz.ntmps269 Tryz.underlying74 gG iC jR pV MH pX lI kC Tryz.results269
open aeh in
theorem Ri (p q:bH) (hp:PB 1000000 p) (hq:PB 1000000 q) (ho:dC p) (hoq:dC q) (W:Bool) (hW:W=true↔wo p q):AC Tryz.prog 269 [aPat p,aPat q] [] (fun r st=>r=B W∧st=[]):=by
 have hpg:=hp.get
 have hqg:=hq.get
 have hp1:=hp.1
 have hq1:=hq.1
 have hWd:=ZP (p:=p) (q:=q)
 obtain⟨ps,rp⟩:=p
 obtain⟨qs,rq⟩:=q
 simp only[dC] at ho hoq
 simp only at hp1 hq1 hpg hqg hWd
 have g1:decide ((ps.length:Int)<qs.length)=decide (ps.length<qs.length):=decide_eq_decide.2 (by omega)
 have g2:decide ((ps.length:Int)=qs.length)=decide (ps.length=qs.length):=decide_eq_decide.2 (by omega)
 refine dA Tryz.func269 Tryz.ntmps269 fun x hx=>?_
 try refine nv ?_
 refine dr ([]) ?_ ?_
 ·exact vO
 try refine nv ?_
 have hno:¬wo ⟨ps,rp⟩ ⟨qs,rq⟩→W=false:=fun h=>by
  cases W with
  |false=>rfl
  |true=>exact absurd (hW.1 rfl) h
 refine vM (ι:=Bool) (fun b=>⟨64,[(2, .c (.ptr 2 0)),(3, .c (.ptr 3 0)),(15,B b)],[(2, .box ((bF ⟨ps,rp⟩).map C.d)),(3, .box ((bF ⟨qs,rq⟩).map C.d))]⟩)
  (fun b=>(b=true→¬wo ⟨ps,rp⟩ ⟨qs,rq⟩)∧(b=false→(rq=true∨(rp=false∧ps.length=qs.length))∧qs.length≤ps.length∧(rq=true→ps.length=qs.length→rp=true))) ?_ ?_
 ·refine aj ?_ ?_
  ·intro h
   try refine nv ?_
   refine⟨rfl,true,⟨fun _=>?_,fun h'=>by cases h'⟩,?_⟩
   rotate_left
   ·rw[h]
    exact cO
   rw[g2] at h
   rw[hWd]
   rintro⟨⟨h1,h2,h3⟩,_⟩
   rcases h1 with h1|⟨h1,h4⟩
   ·rw[h1] at h;cases h
   ·cases rq<;>simp[h1,h4] at h
  intro h
  try refine nv ?_
  refine aj ?_ ?_
  ·intro h1
   try refine nv ?_
   refine⟨rfl,true,⟨fun _=>?_,fun h'=>by cases h'⟩,?_⟩
   rotate_left
   ·rw[h1]
    exact cO
   rw[g1] at h1
   rw[hWd]
   rintro⟨⟨_,h2,h3⟩,_⟩
   have:¬ps.length<qs.length:=by omega
   rw[decide_eq_false this] at h1
   cases rq<;>simp at h1
  intro h1
  try refine nv ?_
  refine⟨rfl,(bif bif rq then !rp else false then decide ((ps.length:Int)=qs.length) else false),⟨fun h2=>?_,fun h2=>?_⟩,?_⟩
  rotate_left
  rotate_left
  ·exact cO
  ·rw[g2] at h2
   rw[hWd]
   rintro⟨⟨_,h4,h3⟩,_⟩
   cases rq with
   |false=>simp at h2
   |true=>
    by_cases e:ps.length=qs.length
    ·have:=h3 rfl e
     subst this
     simp at h2
    ·rw[decide_eq_false e] at h2
     cases rp<;>simp at h2
  ·rw[g2] at h h2
   rw[g1] at h1
   cases rq with
   |false=>
    cases rp with
    |true=>simp at h
    |false=>
     have e:ps.length=qs.length:=by simpa using h
     exact⟨.inr ⟨rfl,e⟩,by omega,fun h=>by cases h⟩
   |true=>
    have e:¬ps.length<qs.length:=by
     intro e;rw[decide_eq_true e] at h1;simp at h1
    refine⟨.inl rfl,by omega,fun _ e2=>?_⟩
    rw[decide_eq_true e2] at h2
    cases rp with
    |true=>rfl
    |false=>simp at h2
 rintro b ⟨hb1,hb2⟩
 try refine nv ?_
 refine aj ?_ ?_
 ·intro h
  try refine nv ?_
  refine rA [] ?_
  refine⟨?_,rfl⟩
  rw[hno (hb1 h)]
 intro h
 have hC:=hb2 h
 try refine nv ?_
 refine ax (ι:=Nat) (I:=fun k=>⟨64,[(2, .c (.ptr 2 0)),(48,iy qs),(49,I .i64 qs.length),(50,I .i64 k)],[(2, .box ((bF ⟨ps,rp⟩).map C.d))]⟩)
  (Inv:=fun k=>k≤qs.length∧∀i,i<k→aY (ps.getD i noS) (qs.getD i noS)=true) (μ:=fun k=>qs.length-k) 0 ⟨by omega,by omega⟩ ?_ ?_
 ·exact cO
 rintro k ⟨hk,hall⟩
 try refine nv ?_
 refine aj ?_ ?_
 ·intro hlt
  have hlt':k<qs.length:=by simpa using hlt
  obtain⟨v,hv,he,_⟩:=round encS qs k noS hlt'
  have hlt2:k<ps.length:=by omega
  obtain⟨u,hu,he2,_⟩:=round encS ps k noS hlt2
  have eu:=oH (z:=noS) hu
  have ev:=oH (z:=noS) hv
  have hpw:=nZ u v (by rw[←eu];exact hpg k) (by rw[←ev];exact hqg k) (by rw[←eu];exact ho k hlt2) (by rw[←ev];exact hoq k hlt')
  (repeat (first|refine nx (p2 @he @he2) ?_|refine cf (hpw) ?_))
  refine aj ?_ ?_
  ·intro hb
   have hn:¬wo ⟨ps,rp⟩ ⟨qs,rq⟩:=by
    rintro⟨_,_,_,h5⟩
    have:=h5 k hlt'
    simp only[eu,ev] at this
    rw[this] at hb;cases hb
   try refine nv ?_
   refine rA [] ?_
   refine⟨?_,rfl⟩
   rw[hno hn]
  ·intro hb
   try refine nv ?_
   refine⟨k+1,⟨by omega,?_⟩,by omega,?_⟩
   ·intro i hi
    rcases Nat.lt_succ_iff_lt_or_eq.1 hi with hi|rfl
    ·exact hall i hi
    ·rw[eu,ev];simpa using hb
   ·exact cO
 intro hge
 have hk':k=qs.length:=by have:¬k<qs.length:=by simpa using hge
                          omega
 subst hk'
 try refine nv ?_
 refine rA [] ?_
 refine⟨?_,rfl⟩
 rw[hW.2 (hWd.2 ⟨hC,hall⟩)]
theorem OU (p q:bH) (hp:PB 1000000 p) (hq:PB 1000000 q) (ho:gz p=true) (hoq:gz q=true):AC Tryz.prog 269 [aPat p,aPat q] [] (fun r st=>r=B (fP p q)∧st=[]):=by
 exact Ri p q hp hq (dE ho) (dE hoq) (fP p q) (within_iff ho hoq)
def ad4.kk:=p6 kB kG Tryz.ntmps253 gG lI Tryz.results253
open ad4 in
theorem Ro (p q:bH) (hp:PB 1000000 p) (hq:PB 1000000 q):AC Tryz.prog 253 [aPat p,aPat q] [] (fun r st=>r=B (fP p q)∧st=[]):=by
 have hcp:=jP p hp
 have hcq:=jP q hq
 have hin:(bif decide (bV p=0) then decide (bV q=0) else false)=true→AC Tryz.prog 269 [aPat p,aPat q] [] (fun r st=>r=B (fP p q)∧st=[]):=fun h=>by
  rw[cond_eq_ite] at h
  split at h
  ·rename_i h1;exact OU p q hp hq h1 h
  ·cases h
 have hW:fP p q=(decide (bV p=0)&&decide (bV q=0)&&fP p q):=by
  rw[show decide (bV p=0)=gz p from rfl,show decide (bV q=0)=gz q from rfl]
  simp only[fP]
  cases gz p<;>cases gz q<;>simp
 generalize fP p q=W at hin hW
 generalize bV p=c1 at hcp hin hW
 generalize bV q=c2 at hcq hin hW
 refine dA Tryz.func253 Tryz.ntmps253 fun x hx=>?_
 (repeat (first|refine nv ?_|refine cf (hcp) ?_))
 refine so ([(10,I .i64 c2)]) ?_ ?_
 ·exact iw @hcq
 try refine nv ?_
 refine so ([(16,B W)]) ?_ ?_
 ·exact iw @hin
 try refine nv ?_
 refine rA [] ?_
 refine⟨?_,rfl⟩
 rw[hW]
 cases decide (c1=0)<;>cases decide (c2=0)<;>simp
def adk.kk:=p8 kB kS Tryz.ntmps179 Tryz.underlying74 iC pX kC Tryz.results179
open adk in
theorem Cj (l:List ByteArray) (h0:l≠[]) (hl:l.length≤1000000):AC Tryz.prog 179 [iy l] [] (fun r st=>r= .c (.ms 7 1 0 l.length)∧st=[(7,aK 1 (l.map encS))]):=by
 have o1:∀y∈List.map (fun l=>List.map C.d l) (List.map encS l),y.length=1:=by
  intro l hl
  obtain⟨y,hy,rfl⟩:=List.mem_map.1 hl
  obtain⟨z,_,rfl⟩:=List.mem_map.1 hy
  rfl
 refine dA Tryz.func179 Tryz.ntmps179 fun x hx=>?_
 try refine nv ?_
 refine Y8 (sz:=1) (xs:=l.map encS) (by simp) Tryz.underlying74 (by simp only[kV, ↓reduceIte,Nat.reduceEqDiff,reduceCtorEq];first|done|rfl) (by simpa using h0) ?_
 refine dZ ?_
 try refine nv ?_
 refine aj ?_ ?_
 ·intro h;cases h
 intro _
 refine bC ?_
 refine gq ?_ ?_
 ·exact iw @o1
 try refine nv ?_
 refine rA ([(7,aK 1 (l.map encS))]) ?_
 exact⟨rfl,rfl⟩
end Go.Proofs.YtcpgicfphakdaaaGreatDoor
