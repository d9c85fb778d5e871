/- A part of the proof. -/
import Derived.Test.YtpoodoknkbojgaaGreatDoorRP29
set_option linter.all false
namespace Go.Proofs.YtpoodoknkbojgaaGreatDoor
open Go.Ab
def Pre {α:Type} (ok:α→Prop) (f:α→List UInt8):Prop:=∀a b x y,ok a→ok b→f a++x=f b++y→a=b∧x=y
def gW:Nat→Nat→List UInt8
 |0,n=>[UInt8.ofNat n]
 |k+1,n=>if n<128 then [UInt8.ofNat n] else UInt8.ofNat (n%128+128)::gW k (n/128)
def iZ (n:Nat):List UInt8:=gW 9 n
theorem wz {a b:Nat} (ha:a<256) (hb:b<256) (h:UInt8.ofNat a=UInt8.ofNat b):a=b:=by
 have:=congrArg UInt8.toNat h
 simp only[UInt8.toNat_ofNat'] at this
 omega
theorem Ai:∀k,Pre (fun n=>n<2*128^k∨(k=0∧n<256)) (gW k)
 |0=>by
  intro a b x y ha hb h
  simp only[Nat.pow_zero] at ha hb
  simp only[gW,List.cons_append,List.nil_append,TY] at h
  exact⟨wz (by omega) (by omega) h.1,h.2⟩
 |k+1=>by
  intro a b x y ha hb h
  have ha':a<2*128^(k+1):=by rcases ha with h|h<;>omega
  have hb':b<2*128^(k+1):=by rcases hb with h|h<;>omega
  rw[Nat.pow_succ] at ha' hb'
  simp only[gW] at h
  by_cases h1:a<128
  ·by_cases h2:b<128
   ·rw[if_pos h1,if_pos h2] at h
    simp only[List.cons_append,List.nil_append,TY] at h
    exact⟨wz (by omega) (by omega) h.1,h.2⟩
   ·rw[if_pos h1,if_neg h2] at h
    simp only[List.cons_append,List.nil_append,TY] at h
    have:=wz (by omega) (by omega) h.1
    omega
  ·by_cases h2:b<128
   ·rw[if_neg h1,if_pos h2] at h
    simp only[List.cons_append,List.nil_append,TY] at h
    have:=wz (by omega) (by omega) h.1
    omega
   ·rw[if_neg h1,if_neg h2] at h
    simp only[List.cons_append,TY] at h
    have e1:=wz (by omega) (by omega) h.1
    obtain⟨e2,e3⟩:=Ai k (a/128) (b/128) x y (.inl (by omega)) (.inl (by omega)) h.2
    exact⟨by omega,e3⟩
theorem qI:Pre (fun n=>n<2^64) iZ:=fun a b x y ha hb h=>
 Ai 9 a b x y (.inl (by have:(2:Nat)*128^9=2^64:=by decide
                        omega)) (.inl (by have:(2:Nat)*128^9=2^64:=by decide
                                          omega)) h
def zz (v:Int):Nat:=if 0≤v then(2*v).toNat else(-2*v-1).toNat
theorem PY {a b:Int} (h:zz a=zz b):a=b:=by
 unfold zz at h
 split at h<;>split at h<;>omega
theorem Pq {v:Int} (h:aZ .i64 v):zz v<2^64:=by
 simp only[aZ] at h
 unfold zz
 split<;>omega
theorem Pre.comp {α β:Type} {ok:β→Prop} {f:β→List UInt8} (h:Pre ok f) {g:α→β} {ok':α→Prop} (hg:∀a,ok' a→ok (g a)) (hi:∀a b,ok' a→ok' b→g a=g b→a=b):Pre ok' (fun a=>f (g a)):=fun a b x y ha hb e=>
 let⟨e1,e2⟩:=h _ _ x y (hg a ha) (hg b hb) e
 ⟨hi a b ha hb e1,e2⟩
theorem Pre.pair {α β:Type} {ok:α→Prop} {ok':β→Prop} {f:α→List UInt8} {g:β→List UInt8} (h:Pre ok f) (h':Pre ok' g):Pre (fun p:α×β=>ok p.1∧ok' p.2) (fun p=>f p.1++g p.2):=fun a b x y ha hb e=>by
 rw[Uu,Uu] at e
 obtain⟨e1,e2⟩:=h _ _ _ _ ha.1 hb.1 e
 obtain⟨e3,e4⟩:=h' _ _ _ _ ha.2 hb.2 e2
 exact⟨Prod.ext e1 e3,e4⟩
def encI (v:Int):List UInt8:=iZ (zz v)
theorem cO:Pre (aZ .i64) encI:=qI.comp (fun _ h=>Pq h) fun _ _ _ _ h=>PY h
def L9 (v:Int):List UInt8:=iZ v.toNat
theorem LX:Pre (aZ .u64) L9:=qI.comp (fun v h=>by simp only[aZ] at h;omega) fun a b ha hb h=>by simp only[aZ] at ha hb;omega
def jO (b:Bool):List UInt8:=[if b then 1 else 0]
theorem oD:Pre (fun _=>True) jO:=fun a b x y _ _ h=>by
 simp only[jO,List.cons_append,List.nil_append,TY] at h
 refine⟨?_,h.2⟩
 cases a<;>cases b<;>simp_all
def fO (s:VJ):List UInt8:=iZ s.size++s.data.toList
theorem dN:Pre (fun s=>s.size≤1024) fO:=fun a b x y ha hb h=>by
 simp only[fO,Uu] at h
 obtain⟨e1,e2⟩:=qI _ _ _ _ (show a.size<2^64 by omega) (show b.size<2^64 by omega) h
 obtain⟨e3,e4⟩:=List.append_inj e2 (by simpa using e1)
 refine⟨?_,e4⟩
 obtain⟨⟨l⟩⟩:=a
 obtain⟨⟨m⟩⟩:=b
 simp only at e3
 rw[e3]
def tK {α:Type} (f:α→List UInt8):List α→List UInt8
 |[]=>[]
 |a::l=>f a++tK f l
def Cs {α:Type} (f:α→List UInt8) (l:List α):List UInt8:=iZ l.length++tK f l
theorem zk {α:Type} {ok:α→Prop} {f:α→List UInt8} (h:Pre ok f):∀(a b:List α) x y,(∀z∈a,ok z)→(∀z∈b,ok z)→a.length=b.length→tK f a++x=tK f b++y→a=b∧x=y
 |[],[],x,y,_,_,_,e=>⟨rfl,e⟩
 |[],b::m,_,_,_,_,hl,_=>by simp at hl
 |a::l,[],_,_,_,_,hl,_=>by simp at hl
 |a::l,b::m,x,y,ha,hb,hl,e=>by
  simp only[tK,Uu] at e
  obtain⟨e1,e2⟩:=h _ _ _ _ (ha a (by simp)) (hb b (by simp)) e
  obtain⟨e3,e4⟩:=zk h l m x y (fun z hz=>ha z (by simp[hz])) (fun z hz=>hb z (by simp[hz])) (by simpa using hl) e2
  exact⟨by rw[e1,e3],e4⟩
theorem qm {α:Type} {ok:α→Prop} {f:α→List UInt8} (h:Pre ok f) (n:Nat) (hn:n≤1000):Pre (fun l:List α=>l.length≤n∧∀z∈l,ok z) (Cs f):=fun a b x y ha hb e=>by
 simp only[Cs,Uu] at e
 obtain⟨e1,e2⟩:=qI _ _ _ _ (show a.length<2^64 by omega) (show b.length<2^64 by omega) e
 exact zk h a b x y ha.2 hb.2 e1 e2
def kC (p:fJ):Bool:=decide (5+(p.parts.map fun x=>x.size+1).sum≤200)
theorem FH {x:VJ} (h:dP x=true):∀c∈x.data.toList,c≠47:=by
 obtain⟨_,h3⟩:=CO h
 have h2:byteAt x 0=42:=by
  simp only[dP,Uf,Uh,Vg,Bool.not_eq_false',TW] at h
  exact h.1.2
 intro c hc e
 subst e
 obtain⟨k,hk⟩:=UO hc
 have hb:=(zZ hk).2 rfl
 cases k with
 |zero=>rw[h2] at hb;cases hb
 |succ k=>
  have hk':k+1<x.size:=by have:=(Ue.1 hk).1;simpa using this
  have:=h3 (k+1) (by omega) hk'
  rw[hb,MJ] at this;cases this
theorem FV {x:VJ} (h:jL x=true):∀c∈x.data.toList,c≠47:=by
 simp only[jL,U2] at h
 rcases h with h|h
 ·exact FH h
 ·exact Nw (yf h)
end Go.Proofs.YtpoodoknkbojgaaGreatDoor
