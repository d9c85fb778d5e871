/- A part of the proof. -/
import Derived.Test.YtmhboloicpieeaaGreatDoorRS5
import Derived.Test.YtmhboloicpieeaaGreatDoorRT4
import Derived.Test.YtmhboloicpieeaaGreatDoorRT6a
set_option maxRecDepth 100000
set_option maxHeartbeats 8000000
set_option linter.all false
namespace Go.Proofs.YtmhboloicpieeaaGreatDoor
open Go.Ab Tys
variable [Dr]
theorem cap_cl {dom : Nat → Bool} : ∀ {caps : List Cap} {c : Cap}, clCaps dom caps → c ∈ caps → clAV dom (.c c.toC)
 | a :: l, c, h, hc => by
   rcases List.mem_cons.1 hc with rfl | hc
   ·cases c <;> simpa [clCaps, clCap, Cap.toC, clAV, clC] using h.1
   ·exact cap_cl h.2 hc
def k86 := And.intro @Tryz.ntmps86 <| And.intro @Tryz.underlying27 <| And.intro @bld30 <| And.intro @bld46 <| And.intro @elt27 <| And.intro @fld30_0 <| And.intro @fld46_0 <| And.intro @fld46_1 <| And.intro @ti27 <| And.intro @ti3 <| And.intro @ti30 <| And.intro @ti46 <| @ti9
theorem v86U10 {G G' : Prop} (g : G') (h : Hid G' → G := by intro h9; (first | refine nvB ?_ | refine goA (wr := false) (by simp only [kB, kG, kFn, k86, Nat.reduceAdd, Nat.reduceLT, Nat.reduceEqDiff, ↓reduceIte, reduceCtorEq]; first | done | rfl) ?_); (repeat (first | refine nvB ?_ | refine goA (wr := false) (by simp only [kB, kG, kFn, k86, Nat.reduceAdd, Nat.reduceLT, Nat.reduceEqDiff, ↓reduceIte, reduceCtorEq]; first | done | rfl) ?_)); exact h9.out) : G := h ⟨g⟩
theorem greatest_ac (d : Dep) (hd : d.revs.length ≤ 1000000) (p : ByteArray) (f : Nat) (caps : List Cap) (q : Rev → Bool) (hcl : ∀ dom, clCaps dom caps)
  (hq : ∀ r : Rev, AC Tryz.prog f (aRev r :: caps.map fun c => .c c.toC) [] (fun x st => x = B (q r) ∧ st = [])) :
  AC Tryz.prog 86 [aDep d, Str p, .c (.fn f caps)] [] (fun r st => r = .tup [pRev ((grt (fun r => decide (r.path = p) && q r) d.revs).getD zRev), pB (grt (fun r => decide (r.path = p) && q r) d.revs).isSome] ∧ st = []) := by
 refine AC_enter Tryz.func86 rfl rfl (by simp only [Tryz.ntmps86, List.length]; omega) ?_
 intro x hx
 simp only [List.range, List.range.loop, List.length, List.zip, List.zipWith, Nat.reduceAdd, Tryz.ntmps86]
 try refine v86U10 ?_
 refine T_loop (ι := Nat × Option Rev) (I := fun i => ⟨43, [(1, Str p), (2, .c (.fn f caps)), (6, .c (.ptr 6 0)), (8, .c (.ptr 8 0)), (9, B i.2.isSome), (13, aRevs d.revs), (14, I .i64 d.revs.length), (15, I .i64 i.1)],
   [(6, .box ((encRev zRev).map C.d)), (8, .box ((encRev (i.2.getD zRev)).map C.d))]⟩)
  (Inv := fun i => i.1 ≤ d.revs.length ∧ i.2 = grt (fun r => decide (r.path = p) && q r) (d.revs.take i.1)) (μ := fun i => d.revs.length - i.1) (0, none) ⟨by simp, rfl⟩ ?_ ?_
 ·(refine Ent_sub (fun i => i) rfl ?_ ⟨?_, ?_, ?_, keepI hx (by simp [domOf, Ab.get])⟩ <;> first | (simp only [kE, dArr, ↓reduceIte, Nat.reduceEqDiff, reduceCtorEq, zRev, hcl]; done) | simp [renAV_id, renAO_id, flat_up, Ab.get, clAV, clC, clCs, clAO, cl_f1, cl_s1, cl_f2, cl_s2, cl_a1, domOf, List.flatten, zRev, hcl])
 rintro ⟨k, acc⟩ ⟨hk, ha⟩
 simp only at hk ha ⊢
 try refine v86U10 ?_
 refine ifA ?_ ?_
 ·intro hlt
  have hlt' : k < d.revs.length := by simpa using hlt
  obtain ⟨v, hv, he, htk⟩ := round encRev d.revs k zRev hlt'
  have hst : grt (fun r => decide (r.path = p) && q r) (d.revs.take (k + 1)) = grStep (fun r => decide (r.path = p) && q r) acc v := by rw [htk, ha]; simp [grt, List.foldl_append]
  have hqv := hq v
  have hcl2 : ∀ a ∈ caps.map (fun c => AV.c c.toC), clAV (fun _ => false) a := by
   intro a ha2
   obtain ⟨c, hc, rfl⟩ := List.mem_map.1 ha2
   exact cap_cl (hcl _) hc
  refine nvA ?_
  refine goA (wr := false) (by simp only [kB, kG, kFn, k86, Nat.reduceAdd, Nat.reduceLT, Nat.reduceEqDiff, ↓reduceIte, reduceCtorEq, he]; first | done | rfl) ?_
  try refine v86U10 ?_
  refine TO_stepO (wr := false) ([(26, B (q v))] : List (Nat × AV)) rfl (by simp only [kD, kB, kG, kFn, k86, Nat.reduceAdd, Nat.reduceLT, Nat.reduceEqDiff, ↓reduceIte, reduceCtorEq]; first | done | rfl) ?_ ?_
  ·simp only [All, List.cons_append, List.nil_append, InR, List.mem_cons, List.not_mem_nil, or_false, forall_eq_or_imp, forall_eq, clAV, clCs, clC, clCaps, clCap, and_true, true_and, implies_true, List.length_map, List.length_cons, List.length_nil, dArr, cl_arr, tyCs]
   repeat' (first | exact trivial | exact hqv | exact hcl2 _ (by assumption) | refine And.intro ?_ ?_ | intro _ | assumption | rfl | omega | (simp; done) | (simp_all; done))
  simp only [kP, Nat.reduceEqDiff, ↓reduceIte, reduceCtorEq]
  try refine v86U10 ?_
  refine ifA ?_ ?_
  ·intro h
   try refine v86U10 ?_
   refine ⟨(k + 1, some v), ⟨by simp; omega, ?_⟩, by simp; omega, ?_⟩
   ·rw [hst]
    clear ha hst
    simp only [grStep]
    rw [if_pos]
    cases acc <;> simp_all
   ·(refine Ent_sub (fun i => i) rfl ?_ ⟨?_, ?_, ?_, keepI hx (by simp [domOf, Ab.get])⟩ <;> first | (simp only [kE, dArr, ↓reduceIte, Nat.reduceEqDiff, reduceCtorEq, zRev, hcl]; done) | simp [renAV_id, renAO_id, flat_up, Ab.get, clAV, clC, clCs, clAO, cl_f1, cl_s1, cl_f2, cl_s2, cl_a1, domOf, List.flatten, zRev, hcl])
  ·intro h
   try refine v86U10 ?_
   refine ⟨(k + 1, acc), ⟨by simp; omega, ?_⟩, by simp; omega, ?_⟩
   ·rw [hst]
    clear ha hst
    simp only [grStep]
    rw [if_neg]
    cases acc <;> simp_all
   ·(refine Ent_sub (fun i => i) rfl ?_ ⟨?_, ?_, ?_, keepI hx (by simp [domOf, Ab.get])⟩ <;> first | (simp only [kE, dArr, ↓reduceIte, Nat.reduceEqDiff, reduceCtorEq, zRev, hcl]; done) | simp [renAV_id, renAO_id, flat_up, Ab.get, clAV, clC, clCs, clAO, cl_f1, cl_s1, cl_f2, cl_s2, cl_a1, domOf, List.flatten, zRev, hcl])
 ·intro hge
  have hge' : k = d.revs.length := by have : ¬ k < d.revs.length := by simpa using hge
                                      omega
  subst hge'
  rw [List.take_length] at ha
  rw [← ha]
  try refine v86U10 ?_
  refine rtA (by simp only [kR, Tryz.results86, ↓reduceIte, Nat.reduceEqDiff, reduceCtorEq, effLoad, cellsOf, List.map, List.length_cons, List.length_nil, List.getD_cons_zero, List.getD_cons_succ, List.getD_nil, List.drop, List.take, splice, ti46]; first | done | rfl) ([]) ?_
  refine ⟨?_, rfl⟩
  rfl
def k87 := And.intro @Tryz.ntmps87 <| And.intro @bld46 <| @ti46
theorem v87U10 {G G' : Prop} (g : G') (h : Hid G' → G := by intro h9; (first | refine nvB ?_ | refine goA (wr := false) (by simp only [kB, k87, Nat.reduceAdd, Nat.reduceLT, Nat.reduceEqDiff, ↓reduceIte, reduceCtorEq]; first | done | rfl) ?_); (repeat (first | refine nvB ?_ | refine goA (wr := false) (by simp only [kB, k87, Nat.reduceAdd, Nat.reduceLT, Nat.reduceEqDiff, ↓reduceIte, reduceCtorEq]; first | done | rfl) ?_)); exact h9.out) : G := h ⟨g⟩
theorem lastF_ac (r : Rev) : AC Tryz.prog 87 [aRev r] [] (fun x st => x = B true ∧ st = []) := by
 refine AC_enter Tryz.func87 rfl rfl (by simp only [Tryz.ntmps87, List.length]; omega) ?_
 intro x hx
 simp only [List.range, List.range.loop, List.length, List.zip, List.zipWith, Nat.reduceAdd, Tryz.ntmps87]
 try refine v87U10 ?_
 refine rtA (by simp only [kR, Tryz.results87, ↓reduceIte, Nat.reduceEqDiff, reduceCtorEq]; first | done | rfl) ([]) ?_
 refine ⟨?_, rfl⟩
 rfl
def k119 := And.intro @Tryz.ntmps119 <| And.intro @bld46 <| And.intro @fld46_1 <| And.intro @ti3 <| @ti46
theorem v119U10 {G G' : Prop} (g : G') (h : Hid G' → G := by intro h9; (first | refine nvB ?_ | refine goA (wr := false) (by simp only [kB, k119, Nat.reduceAdd, Nat.reduceLT, Nat.reduceEqDiff, ↓reduceIte, reduceCtorEq]; first | done | rfl) ?_); (repeat (first | refine nvB ?_ | refine goA (wr := false) (by simp only [kB, k119, Nat.reduceAdd, Nat.reduceLT, Nat.reduceEqDiff, ↓reduceIte, reduceCtorEq]; first | done | rfl) ?_)); exact h9.out) : G := h ⟨g⟩
theorem getF_ac (r : Rev) (n : Int) : AC Tryz.prog 119 [aRev r, .c (.pp [.v (.int .i64 n)])] [] (fun x st => x = B (decide (r.num = n)) ∧ st = []) := by
 refine AC_enter Tryz.func119 rfl rfl (by simp only [Tryz.ntmps119, List.length]; omega) ?_
 intro x hx
 simp only [List.range, List.range.loop, List.length, List.zip, List.zipWith, Nat.reduceAdd, Tryz.ntmps119]
 try refine v119U10 ?_
 refine rtA (by simp only [kR, Tryz.results119, ↓reduceIte, Nat.reduceEqDiff, reduceCtorEq]; first | done | rfl) ([]) ?_
 refine ⟨?_, rfl⟩
 rfl
def k41 := And.intro @Tryz.ntmps41 <| And.intro @bld30 <| And.intro @bld46 <| And.intro @ti30 <| @ti46
theorem v41U10 {G G' : Prop} (g : G') (h : Hid G' → G := by intro h9; (first | refine nvB ?_ | refine goA (wr := false) (by simp only [kB, k41, Nat.reduceAdd, Nat.reduceLT, Nat.reduceEqDiff, ↓reduceIte, reduceCtorEq]; first | done | rfl) ?_); (repeat (first | refine nvB ?_ | refine goA (wr := false) (by simp only [kB, k41, Nat.reduceAdd, Nat.reduceLT, Nat.reduceEqDiff, ↓reduceIte, reduceCtorEq]; first | done | rfl) ?_)); exact h9.out) : G := h ⟨g⟩
theorem hLast_ac (d : Dep) (hg : Good d.revs) (hd : d.revs.length ≤ 1000000) (p : ByteArray) : AC Tryz.prog 41 [aDep d, Str p] [] (fun r st => r = .tup [pRev ((last? d p).getD zRev), pB (last? d p).isSome] ∧ st = []) := by
 have hG0 := greatest_ac d hd p 87 [] (fun _ => true) (fun _ => trivial) (fun r => lastF_ac r)
 simp only [Bool.and_true] at hG0
 rw [grt_last hg p] at hG0
 have hG : AC Tryz.prog 86 [aDep d, Str p, .c (.d (.v (.func (.func 87) #[] #[])))] [] (fun r st => r = .tup [pRev ((last? d p).getD zRev), pB (last? d p).isSome] ∧ st = []) := by
  refine AC_args hG0 ?_
  intro k us h
  cases h with
  | cons h1 h =>
  cases h with
  | cons h2 h =>
  cases h with
  | cons h3 h =>
  cases h
  refine .cons h1 (.cons h2 (.cons ?_ .nil))
  rw [rep_v h3]
  exact ⟨[], rfl, .nil⟩
 refine AC_enter Tryz.func41 rfl rfl (by simp only [Tryz.ntmps41, List.length]; omega) ?_
 intro x hx
 simp only [List.range, List.range.loop, List.length, List.zip, List.zipWith, Nat.reduceAdd, Tryz.ntmps41]
 (repeat (first | refine v41U10 ?_ | (refine caA [] (hG) ?_; rintro r st' ⟨rfl, rfl⟩; refine frA ?_)))
 refine rtA (by simp only [kR, Tryz.results41, ↓reduceIte, Nat.reduceEqDiff, reduceCtorEq, effLoad, cellsOf, List.map, List.length_cons, List.length_nil, List.getD_cons_zero, List.getD_cons_succ, List.getD_nil, List.drop, List.take, splice, ti46]; first | done | rfl) ([]) ?_
 refine ⟨?_, rfl⟩
 rfl
def k55 := And.intro @Tryz.ntmps55 <| And.intro @bld30 <| And.intro @bld46 <| And.intro @ti3 <| And.intro @ti30 <| @ti46
theorem v55U10 {G G' : Prop} (g : G') (h : Hid G' → G := by intro h9; (first | refine nvB ?_ | refine goA (wr := false) (by simp only [kB, kFn, k55, Nat.reduceAdd, Nat.reduceLT, Nat.reduceEqDiff, ↓reduceIte, reduceCtorEq]; first | done | rfl) ?_); (repeat (first | refine nvB ?_ | refine goA (wr := false) (by simp only [kB, kFn, k55, Nat.reduceAdd, Nat.reduceLT, Nat.reduceEqDiff, ↓reduceIte, reduceCtorEq]; first | done | rfl) ?_)); exact h9.out) : G := h ⟨g⟩
theorem hGet_ac (d : Dep) (hd : d.revs.length ≤ 1000000) (p : ByteArray) (n : Int) : AC Tryz.prog 55 [aDep d, Str p, I .i64 n] [] (fun r st => r = .tup [pRev ((get? d p n).getD zRev), pB (get? d p n).isSome] ∧ st = []) := by
 have hG := greatest_ac d hd p 119 [Cap.pp [.v (.int .i64 n)]] (fun r => decide (r.num = n)) (fun _ => by simp [clCaps, clCap]) (fun r => getF_ac r n)
 rw [grt_get d p n] at hG
 refine AC_enter Tryz.func55 rfl rfl (by simp only [Tryz.ntmps55, List.length]; omega) ?_
 intro x hx
 simp only [List.range, List.range.loop, List.length, List.zip, List.zipWith, Nat.reduceAdd, Tryz.ntmps55]
 refine nvA ?_
 refine goA (wr := false) (by simp only [kB, kFn, k55, Nat.reduceAdd, Nat.reduceLT, Nat.reduceEqDiff, ↓reduceIte, reduceCtorEq]; first | done | rfl) ?_
 refine nvA ?_
 refine TO_ent (Ent_frzBoxSlot (i := 5) (id := 5) (cs := [.v (.int .i64 n)]) rfl rfl) ?_
 refine fzA ?_
 (repeat (first | refine v55U10 ?_ | (refine caA [] (hG) ?_; rintro r st' ⟨rfl, rfl⟩; refine frA ?_)))
 refine rtA (by simp only [kR, Tryz.results55, ↓reduceIte, Nat.reduceEqDiff, reduceCtorEq, effLoad, cellsOf, List.map, List.length_cons, List.length_nil, List.getD_cons_zero, List.getD_cons_succ, List.getD_nil, List.drop, List.take, splice, ti46]; first | done | rfl) ([]) ?_
 refine ⟨?_, rfl⟩
 rfl
def k21 := And.intro @Tryz.ntmps21 <| And.intro @Tryz.underlying27 <| And.intro @bld30 <| And.intro @bld37 <| And.intro @bld46 <| And.intro @elt27 <| And.intro @fld30_0 <| And.intro @fld37_0 <| And.intro @fld37_1 <| And.intro @fld46_0 <| And.intro @fld46_1 <| And.intro @fld46_3 <| And.intro @fld46_6 <| And.intro @fld46_7 <| And.intro @ti27 <| And.intro @ti3 <| And.intro @ti30 <| And.intro @ti37 <| And.intro @ti46 <| @ti9
theorem v21U10 {G G' : Prop} (g : G') (h : Hid G' → G := by intro h9; (first | refine nvB ?_ | refine goA (wr := false) (by simp only [kB, kG, kS, k21, Nat.reduceAdd, Nat.reduceLT, Nat.reduceEqDiff, ↓reduceIte, reduceCtorEq]; first | done | rfl) ?_); (repeat (first | refine nvB ?_ | refine goA (wr := false) (by simp only [kB, kG, kS, k21, Nat.reduceAdd, Nat.reduceLT, Nat.reduceEqDiff, ↓reduceIte, reduceCtorEq]; first | done | rfl) ?_)); exact h9.out) : G := h ⟨g⟩
theorem hLine_ac (d : Dep) (hd : d.revs.length ≤ 1000000) (f : Fil) : AC Tryz.prog 21 [aDep d, aFil f] [] (fun r st => r = aRevs (lnP d f) ∧ st = []) := by
 have hG := hGet_ac d hd f.path f.num
 cases hgt : get? d f.path f.num with
 | none =>
   rw [hgt] at hG
   simp only [pRev, pB, Option.isSome, Option.getD] at hG
   have hl : lnP d f = [] := by simp [lnP, hgt]
   rw [hl]
   refine AC_enter Tryz.func21 rfl rfl (by simp only [Tryz.ntmps21, List.length]; omega) ?_
   intro x hx
   simp only [List.range, List.range.loop, List.length, List.zip, List.zipWith, Nat.reduceAdd, Tryz.ntmps21]
   (repeat (first | refine v21U10 ?_ | (refine caA [] (hG) ?_; rintro r st' ⟨rfl, rfl⟩; refine frA ?_)))
   refine ifA ?_ ?_
   rotate_left
   ·intro h; cases h
   intro _
   refine nvA ?_
   refine goA (wr := false) (by simp only [kB, kG, kS, k21, Nat.reduceAdd, Nat.reduceLT, Nat.reduceEqDiff, ↓reduceIte, reduceCtorEq]; first | done | rfl) ?_
   refine TO_ent (Ent_nilSlot (i := 4) 12 rfl) ?_
   refine fzA ?_
   try refine v21U10 ?_
   refine rtA (by simp only [kR, Tryz.results21, ↓reduceIte, Nat.reduceEqDiff, reduceCtorEq]; first | done | rfl) ([]) ?_
   refine ⟨?_, rfl⟩
   rfl
 | some v0 =>
   rw [hgt] at hG
   simp only [pRev, pB, Option.isSome, Option.getD] at hG
   refine AC_enter Tryz.func21 rfl rfl (by simp only [Tryz.ntmps21, List.length]; omega) ?_
   intro x hx
   simp only [List.range, List.range.loop, List.length, List.zip, List.zipWith, Nat.reduceAdd, Tryz.ntmps21]
   (repeat (first | refine v21U10 ?_ | (refine caA [] (hG) ?_; rintro r st' ⟨rfl, rfl⟩; refine frA ?_)))
   refine ifA ?_ ?_
   ·intro h
    have h1 : ¬ v0.act = 1 := by simpa using h
    have hl : lnP d f = [] := by simp [lnP, hgt, h1]
    rw [hl]
    refine nvA ?_
    refine goA (wr := false) (by simp only [kB, kG, kS, k21, Nat.reduceAdd, Nat.reduceLT, Nat.reduceEqDiff, ↓reduceIte, reduceCtorEq]; first | done | rfl) ?_
    refine TO_ent (Ent_nilSlot (i := 4) 12 rfl) ?_
    refine fzA ?_
    try refine v21U10 ?_
    refine rtA (by simp only [kR, Tryz.results21, ↓reduceIte, Nat.reduceEqDiff, reduceCtorEq]; first | done | rfl) ([]) ?_
    refine ⟨?_, rfl⟩
    rfl
   intro h
   have h1 : v0.act = 1 := by simpa using h
   have hl : lnP d f = d.revs.foldl lnStep [v0] := by simp [lnP, hgt, h1]
   rw [hl]
   try refine v21U10 ?_
   refine T_loop (ι := Nat × List Rev) (I := fun i => ⟨88, [(7, .c (.ms 100 12 0 i.2.length)), (30, aRevs d.revs), (31, I .i64 d.revs.length), (32, I .i64 i.1)], [(100, dArr 12 (i.2.map encRev))]⟩)
    (Inv := fun i => i.1 ≤ d.revs.length ∧ i.2 = (d.revs.take i.1).foldl lnStep [v0] ∧ 1 ≤ i.2.length ∧ i.2.length ≤ i.1 + 1) (μ := fun i => d.revs.length - i.1) (0, [v0]) ⟨by simp, by simp, by simp, by simp⟩ ?_ ?_
   ·exact enR (fun i => if i = 100 then 28 else i)
   rintro ⟨k, acc⟩ ⟨hk, ha, hp1, hp2⟩
   simp only at hk ha hp1 hp2 ⊢
   try refine v21U10 ?_
   refine ifA ?_ ?_
   ·intro hlt
    have hlt' : k < d.revs.length := by simpa using hlt
    obtain ⟨v, hv, he, htk⟩ := round encRev d.revs k zRev hlt'
    have hst : (d.revs.take (k + 1)).foldl lnStep [v0] = lnStep acc v := by rw [htk, List.foldl_append, ← ha]; rfl
    have hb : (acc.getLast?).getD zRev = acc.getD (acc.length - 1) zRev := by rw [List.getLast?_eq_getElem?, List.getD_eq_getElem?_getD]
    have ek := uG encRev acc (acc.length - 1) zRev (by omega)
    have hi : ((acc.length : Int) - 1).toNat = acc.length - 1 := by omega
    generalize hbb : acc.getD (acc.length - 1) zRev = b at ek
    rw [hbb] at hb
    have hst2 : (d.revs.take (k + 1)).foldl lnStep [v0] = if nextB b v then acc ++ [v] else acc := by rw [hst, lnStep, hb]
    refine nvA ?_
    refine goA (wr := false) (by simp only [kB, kG, kS, k21, Nat.reduceAdd, Nat.reduceLT, Nat.reduceEqDiff, ↓reduceIte, reduceCtorEq, he]; first | done | rfl) ?_
    try refine v21U10 ?_
    refine ifA ?_ ?_
    ·intro h2
     have h2' : (decide (v.act = 5) || decide (v.act = 1)) = true := by rw [← h2]; cases decide (v.act = 5) <;> rfl
     have hn : nextB b v = false := by
      simp only [nextB]
      rw [h2']; rfl
     try refine v21U10 ?_
     refine ⟨(k + 1, acc), ⟨by simp; omega, by rw [hst2, hn]; rfl, hp1, by simp; omega⟩, by simp; omega, ?_⟩
     exact enA
    intro h2
    have h2' : (decide (v.act = 5) || decide (v.act = 1)) = false := by rw [← h2]; cases decide (v.act = 5) <;> rfl
    (repeat (first | refine nvB ?_ | refine goA (wr := false) (by simp only [kB, kG, kS, k21, Nat.reduceAdd, Nat.reduceLT, Nat.reduceEqDiff, ↓reduceIte, reduceCtorEq, ek, hi, Nat.zero_add]; first | done | rfl) ?_))
    refine ifA ?_ ?_
    ·intro h4
     have h4' : v.act = 4 := by simpa using h4
     try refine v21U10 ?_
     refine ifA ?_ ?_
     ·intro h5
      have hn : nextB b v = true := by
       simp only [nextB, if_pos h4']
       rw [h2', Bool.not_false, Bool.true_and, ← h5]
       cases decide (v.frm = b.path) <;> rfl
      try refine v21U10 ?_
      refine ⟨(k + 1, acc ++ [v]), ⟨by simp; omega, by rw [hst2, hn]; rfl, by simp, by simp; omega⟩, by simp; omega, ?_⟩
      exact enR (fun i => if i = 100 then 68 else i)
     intro h5
     have hn : nextB b v = false := by
      simp only [nextB, if_pos h4']
      rw [h2', Bool.not_false, Bool.true_and, ← h5]
      cases decide (v.frm = b.path) <;> rfl
     try refine v21U10 ?_
     refine ⟨(k + 1, acc), ⟨by simp; omega, by rw [hst2, hn]; rfl, hp1, by simp; omega⟩, by simp; omega, ?_⟩
     exact enA
    intro h4
    have h4' : ¬ v.act = 4 := by simpa using h4
    refine nvA ?_
    refine TO_go (wr := true) 400 (by simp only [kB, kG, kS, k21, Nat.reduceAdd, Nat.reduceLT, Nat.reduceEqDiff, ↓reduceIte, reduceCtorEq]; first | done | rfl) (by first | exact trivial | (simp only [kO]; omega) | (simp [All, InR]; first | done | omega) | (simp +contextual [All, InR]; first | done | grind)) ?_
    try refine v21U10 ?_
    refine ifA ?_ ?_
    ·intro h5
     have hn : nextB b v = true := by
      simp only [nextB, if_neg h4', wr]
      rw [h2', Bool.not_false, Bool.true_and, ← h5]
      cases decide (v.path = b.path) <;> rfl
     try refine v21U10 ?_
     refine ⟨(k + 1, acc ++ [v]), ⟨by simp; omega, by rw [hst2, hn]; rfl, by simp, by simp; omega⟩, by simp; omega, ?_⟩
     exact enR (fun i => if i = 100 then 85 else i)
    intro h5
    have hn : nextB b v = false := by
     simp only [nextB, if_neg h4', wr]
     rw [h2', Bool.not_false, Bool.true_and, ← h5]
     cases decide (v.path = b.path) <;> rfl
    try refine v21U10 ?_
    refine ⟨(k + 1, acc), ⟨by simp; omega, by rw [hst2, hn]; rfl, hp1, by simp; omega⟩, by simp; omega, ?_⟩
    exact enA
   intro hge
   have hge' : k = d.revs.length := by have : ¬ k < d.revs.length := by simpa using hge
                                       omega
   subst hge'
   rw [List.take_length] at ha
   rw [← ha]
   refine nvA ?_
   refine TO_ent (Ent_frzSlot (i := 7) (id := 100) (ys := acc.map encRev) rfl rfl (by simp)) ?_
   refine fzA ?_
   try refine v21U10 ?_
   refine rtA (by simp only [kR, Tryz.results21, ↓reduceIte, Nat.reduceEqDiff, reduceCtorEq]; first | done | rfl) ([]) ?_
   refine ⟨?_, rfl⟩
   rfl
end Go.Proofs.YtmhboloicpieeaaGreatDoor
