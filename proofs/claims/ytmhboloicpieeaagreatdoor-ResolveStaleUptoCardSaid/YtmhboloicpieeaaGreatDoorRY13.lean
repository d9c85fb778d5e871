/- A part of the proof. -/
import Derived.Test.YtmhboloicpieeaaGreatDoorRU15
import Derived.Test.YtmhboloicpieeaaGreatDoorRY8
set_option maxRecDepth 100000
set_option maxHeartbeats 16000000
set_option linter.all false
namespace Go.Proofs.YtmhboloicpieeaaGreatDoor
open Go.Ab Tys
variable [Dr]
theorem last_snoc (l : List Rev) (v : Rev) (p : ByteArray) : ((l ++ [v]).filter fun u => decide (u.path = p)).getLast? = if p = v.path then some v else (l.filter fun u => decide (u.path = p)).getLast? := by
 rw [List.filter_append]
 by_cases h : p = v.path
 ·subst h; simp
 ·have : ¬ v.path = p := fun e => h e.symm
  simp [this, h]
def k42 := And.intro @Tryz.ntmps42 <| And.intro @Tryz.underlying27 <| And.intro @bld179 <| And.intro @bld30 <| And.intro @bld37 <| And.intro @bld46 <| And.intro @bld56 <| And.intro @bld62 <| And.intro @elt27 <| And.intro @fld179_0 <| And.intro @fld179_1 <| And.intro @fld179_2 <| And.intro @fld179_3 <| And.intro @fld179_4 <| And.intro @fld30_0 <| And.intro @fld37_0 <| And.intro @fld37_1 <| And.intro @fld46_0 <| And.intro @fld46_1 <| And.intro @fld46_3 <| And.intro @kyt37 <| And.intro @kyt9 <| And.intro @mpt175 <| And.intro @mpt176 <| And.intro @mpt177 <| And.intro @ti175 <| And.intro @ti176 <| And.intro @ti177 <| And.intro @ti179 <| And.intro @ti27 <| And.intro @ti3 <| And.intro @ti30 <| And.intro @ti37 <| And.intro @ti46 <| And.intro @ti56 <| And.intro @ti62 <| @ti9
theorem v42Y10 {G G' : Prop} (g : G') (h : Hid G' → G := by intro h9; (first | refine nvB ?_ | refine goA (wr := false) (by simp only [kB, kG, kS, kM, k42, Nat.reduceAdd, Nat.reduceLT, Nat.reduceEqDiff, ↓reduceIte, reduceCtorEq]; first | done | rfl) ?_); (repeat (first | refine nvB ?_ | refine goA (wr := false) (by simp only [kB, kG, kS, kM, k42, Nat.reduceAdd, Nat.reduceLT, Nat.reduceEqDiff, ↓reduceIte, reduceCtorEq]; first | done | rfl) ?_)); exact h9.out) : G := h ⟨g⟩
theorem newCheck_ac (d : Dep) (c : Chg) (hg : Good d.revs) (hN : d.revs.length ≤ 512) : AC Tryz.prog 42 [aDep d, aChg c] [] (fun r st => ∃ L N, (r = .c (.ptr 2000 0) ∧ ∀ p, alook L p = last? d p) ∧ st = stC d c L [] N) := by
 refine AC_enter Tryz.func42 rfl rfl (by simp only [Tryz.ntmps42, List.length]; omega) ?_
 intro x hx
 simp only [List.range, List.range.loop, List.length, List.zip, List.zipWith, Nat.reduceAdd, Tryz.ntmps42]
 try refine v42Y10 ?_
 refine T_loop (ι := Nat × List (ByteArray × Rev) × List (Fil × Fil)) (I := fun i => ⟨67, [(5, .c (.ptr 2000 0)), (18, aRevs d.revs), (19, I .i64 d.revs.length), (20, I .i64 i.1)], stC d c i.2.1 [] i.2.2⟩)
  (Inv := fun i => i.1 ≤ d.revs.length ∧ ∀ p, alook i.2.1 p = ((d.revs.take i.1).filter fun u => decide (u.path = p)).getLast?) (μ := fun i => d.revs.length - i.1) (0, [], []) ⟨by simp, fun p => by simp [alook]⟩ ?_ ?_
 ·exact enR (fun i => if i = 2000 then 16 else if i = 2001 then 12 else if i = 2002 then 13 else if i = 2003 then 14 else i)
 rintro ⟨k, L, N⟩ ⟨hk, hL⟩
 simp only at hk hL ⊢
 try refine v42Y10 ?_
 refine ifA ?_ ?_
 rotate_left
 ·intro hge
  have hk' : k = d.revs.length := by have : ¬ k < d.revs.length := by simpa using hge
                                     omega
  rw [hk', List.take_length] at hL
  try refine v42Y10 ?_
  refine rtA (by simp only [kR, Tryz.results42, ↓reduceIte, Nat.reduceEqDiff, reduceCtorEq]; first | done | rfl) ((stC d c L [] N)) ?_
  exact ⟨L, N, ⟨rfl, hL⟩, rfl⟩
 intro hlt
 have hlt' : k < d.revs.length := by simpa using hlt
 obtain ⟨v, hv, he, htk⟩ := round encRev d.revs k zRev hlt'
 have hlk := look_Lr L v.path
 have hty := ty_Lr L
 have hvn := hg.num k v hv
 have hpre : ∀ b, alook L v.path = some b → b.num < v.num := by
  intro b hb
  rw [hL] at hb
  obtain ⟨j, hj, hp, _⟩ := (lastF (fun u : Rev => decide (u.path = v.path)) (d.revs.take k)).1 b hb
  have hjk : j < k := by have := (List.getElem?_eq_some_iff.1 hj).1; simp at this; omega
  rw [List.getElem?_take, if_pos hjk] at hj
  exact (hg.path j k b v hjk hj hv (by simpa using hp)).2
 have hins : insE (false, [C.d (.v (.string v.path))]) (true, (encRev v).map C.d) ((mEnt kS' vRv L).map upE) = (mEnt kS' vRv (aput L v.path v)).map upE := insE_ent (ve := vRv) kS_eq L v.path v
 simp only [encRev, List.map_cons, List.map_nil] at hins
 have hL2 : ∀ p, alook (aput L v.path v) p = ((d.revs.take (k + 1)).filter fun u => decide (u.path = p)).getLast? := by
  intro p
  rw [htk, last_snoc, alook_aput, hL]
 (repeat (first | refine nvB ?_ | refine goA (wr := false) (by simp only [kB, kG, kS, kM, k42, Nat.reduceAdd, Nat.reduceLT, Nat.reduceEqDiff, ↓reduceIte, reduceCtorEq, he]; first | done | rfl) ?_))
 refine T_joinE (ι := Option Rev) (fun o => ⟨67, [(5, .c (.ptr 2000 0)), (7, .c (.ptr 7 0)), (8, .c (.ptr 8 0)), (9, B o.isSome), (18, aRevs d.revs), (19, I .i64 d.revs.length), (20, I .i64 k)], stC d c L [] N ++ [(7, .box ((encRev v).map C.d)), (8, .box ((encRev (o.getD zRev)).map C.d))]⟩) (fun o => o = alook L v.path) ?_ ?_
 ·cases ho : alook L v.path with
  | none =>
    rw [ho] at hlk
    refine drA (wr := false) ([] : List (Nat × AV)) (by simp only [kD, kB, kG, kS, kM, k42, Nat.reduceAdd, Nat.reduceLT, Nat.reduceEqDiff, ↓reduceIte, reduceCtorEq, hlk, Option.map_none, Option.getD, Option.isSome]; first | done | rfl) ?_ ?_
    ·exact obT (hty)
    refine ⟨rfl, none, rfl, ?_⟩
    (refine Ent_sub (fun i => i) rfl ?_ ⟨?_, ?_, ?_, keepI hx (by simp [domOf, Ab.get])⟩ <;> first | (simp only [kE, dArr, ↓reduceIte, Nat.reduceEqDiff, reduceCtorEq, zRev, clPs]; done) | simp [renAV_id, renAO_id, flat_up, Ab.get, clAV, clC, clCs, clAO, cl_f1, cl_s1, cl_f2, cl_s2, cl_a1, domOf, List.flatten, zRev, clPs])
  | some b =>
    rw [ho] at hlk
    refine drA (wr := false) ([] : List (Nat × AV)) (by simp only [kD, kB, kG, kS, kM, k42, Nat.reduceAdd, Nat.reduceLT, Nat.reduceEqDiff, ↓reduceIte, reduceCtorEq, hlk, Option.map_some, Option.getD, Option.isSome]; first | done | rfl) ?_ ?_
    ·exact obT (hty)
    refine ⟨rfl, some b, rfl, ?_⟩
    exact enA
 rintro o ho
 try refine v42Y10 ?_
 refine ifA ?_ ?_
 rotate_left
 ·intro h
  exfalso
  cases o with
  | none => simp at h
  | some b =>
    have := hpre b ho.symm
    simp [this] at h
 intro _
 generalize hf : lineF N v = f
 have hcl := clineOf_ac d c (aput L v.path v) [] N v (by have := (List.getElem?_eq_some_iff.1 hv).1; omega)
 rw [hf] at hcl
 have hins3 : insE (true, [C.d (.v (.string v.path)), C.d (.v (.int .i64 v.num))]) (true, (encFil f).map C.d) ((mEnt kF vFl N).map upE) = (mEnt kF vFl (aput N ⟨v.path, v.num⟩ f)).map upE := insE_ent (ve := vFl) kF_eq N ⟨v.path, v.num⟩ f
 simp only [encFil, List.map_cons, List.map_nil] at hins3
 have hty3 : ∀ e ∈ (mEnt kF vFl N).map upE, e.1.1 = true ∧ tyCs [.str, .int .i64] e.1.2 := by
  intro e he
  simp only [mEnt, List.mem_map] at he
  obtain ⟨_, ⟨f, _, rfl⟩, rfl⟩ := he
  exact ⟨rfl, by simp [upE, upD, tyCs]⟩
 refine nvA ?_
 refine drA (wr := false) ([] : List (Nat × AV)) (by simp only [kD, kB, kG, kS, kM, k42, Nat.reduceAdd, Nat.reduceLT, Nat.reduceEqDiff, ↓reduceIte, reduceCtorEq, hins]; first | done | rfl) ?_ ?_
 ·exact obT (hty)
 try refine v42Y10 ?_
 refine ifA ?_ ?_
 rotate_left
 ·intro _
  try refine v42Y10 ?_
  refine ⟨(k + 1, aput L v.path v, N), ⟨by simp; omega, hL2⟩, by simp; omega, ?_⟩
  exact enA
 intro _
 refine nvA ?_
 refine T_drawL (wr := false) [(64, aFil f)] [(64, (stC d c (aput L v.path v) [] N, none))] (by kernel_rfl) (by simp only [runL.eq_1, runL.eq_2, stepL.eq_def, lnOf.eq_def, callL.eq_def, Option.getD, kD, kB, kG, kS, kM, k42, Nat.reduceAdd, Nat.reduceLT, Nat.reduceEqDiff, ↓reduceIte, reduceCtorEq, hins3]; first | done | rfl) ?_ (by kernel_rfl) ?_
 ·(simp only [All, List.cons_append, List.nil_append, InR, List.mem_cons, List.not_mem_nil, or_false, forall_eq_or_imp, forall_eq, and_true, true_and, implies_true, List.length_map, List.length_cons, List.length_nil]; repeat' (first | exact trivial | exact hcl | exact hty3 | refine And.intro ?_ ?_ | (rintro _ ⟨⟩; done) | assumption | rfl | omega | (simp [clAO, cl_f1, cl_s1, cl_f2, cl_s2, cl_a1, flat_up, clCs, clC, clAV, clPs, domOf, Ab.get]; done)))
 try refine v42Y10 ?_
 refine ⟨(k + 1, aput L v.path v, aput N ⟨v.path, v.num⟩ f), ⟨by simp; omega, hL2⟩, by simp; omega, ?_⟩
 exact enA
section
variable (d : Dep) (n : Int) (cl tx : ByteArray) (z : Edt) (L : List (ByteArray × Rev)) (E : List (ByteArray × Edt)) (N : List (Fil × Fil))
def k90 := And.intro @Tryz.ntmps90 <| And.intro @Tryz.underlying50 <| And.intro @Tryz.underlying9 <| And.intro @bld179 <| And.intro @bld56 <| And.intro @bld62 <| And.intro @elt50 <| And.intro @fld179_1 <| And.intro @fld179_3 <| And.intro @fld56_0 <| And.intro @fld62_3 <| And.intro @kyt9 <| And.intro @mpt176 <| And.intro @ti176 <| And.intro @ti179 <| And.intro @ti50 <| And.intro @ti56 <| And.intro @ti62 <| @ti9
theorem v90Y9 {G G' : Prop} (g : G') (h : Hid G' → G := by intro h9; (first | refine nvB ?_ | refine goA (wr := false) (by simp only [kB, kG, kM, k90, Nat.reduceAdd, Nat.reduceLT, Nat.reduceEqDiff, ↓reduceIte, reduceCtorEq]; first | done | rfl) ?_); (repeat (first | refine nvB ?_ | refine goA (wr := false) (by simp only [kB, kG, kM, k90, Nat.reduceAdd, Nat.reduceLT, Nat.reduceEqDiff, ↓reduceIte, reduceCtorEq]; first | done | rfl) ?_)); exact h9.out) : G := h ⟨g⟩
theorem cevery_ac (hz : z.act = 1 ∨ z.act = 2) (hs : z.path.size ≤ 100000) : AC Tryz.prog 90 [.c (.ptr 2000 0)] (stC d (oneC n cl tx z) L E N) (fun r st => ∃ E', (∃ e : Int, r = I .i64 e) ∧ st = stC d (oneC n cl tx z) L E' N) := by
 have hva := valid_ac z.path hs
 generalize (path? z.path).isSome = pv at hva
 have hins : insE (false, [C.d (.v (.string z.path))]) (true, (encEdt z).map C.d) ((mEnt kS' vEd E).map upE) = (mEnt kS' vEd (aput E z.path z)).map upE := insE_ent (ve := vEd) kS_eq E z.path z
 simp only [encEdt, List.map_cons, List.map_nil] at hins
 have hty := ty_Ed E
 have hcp := cmpPaths_ac noS z.path (by decide) hs
 refine AC_enter Tryz.func90 rfl rfl (by simp only [Tryz.ntmps90, List.length]; omega) ?_
 intro x hx
 simp only [List.range, List.range.loop, List.length, List.zip, List.zipWith, Nat.reduceAdd, Tryz.ntmps90]
 try refine v90Y9 ?_
 refine T_loop (ι := Nat × List (ByteArray × Edt)) (I := fun k => ⟨52, [(0, .c (.ptr 2000 0)), (3, Str (if k.1 = 0 then noS else z.path)), (11, .c (.d (.ps 12 [encEdt z]))), (12, I .i64 1), (13, I .i64 k.1)], stC d (oneC n cl tx z) L k.2 N⟩)
  (Inv := fun k => k.1 ≤ 1 ∧ (k.1 = 0 → k.2 = E)) (μ := fun k => 1 - k.1) (0, E) ⟨by simp, fun _ => rfl⟩ ?_ ?_
 ·exact enA
 rintro ⟨k, E1⟩ ⟨hk, hE⟩
 simp only at hk hE ⊢
 try refine v90Y9 ?_
 refine ifA ?_ ?_
 rotate_left
 ·intro _
  try refine v90Y9 ?_
  refine rtA (by simp only [kR, Tryz.results90, ↓reduceIte, Nat.reduceEqDiff, reduceCtorEq]; first | done | rfl) ((stC d (oneC n cl tx z) L E1 N)) ?_
  exact ⟨E1, ⟨_, rfl⟩, rfl⟩
 intro hlt
 have hlt' : k = 0 := by have : ((k : Nat) : Int) < 1 := by simpa using hlt
                         omega
 subst hlt'
 obtain rfl := hE rfl
 have e00 : Int.toNat ((0 : Nat) : Int) = 0 := rfl
 simp only [if_true]
 (repeat (first | refine nvB ?_ | refine goA (wr := false) (by simp only [kB, kG, kM, k90, Nat.reduceAdd, Nat.reduceLT, Nat.reduceEqDiff, ↓reduceIte, reduceCtorEq, e00, List.getD_cons_zero]; first | done | rfl) ?_ | (refine caA [] (hva) ?_; rintro r st' ⟨rfl, rfl⟩; refine frA ?_)))
 refine ifA ?_ ?_
 ·intro _
  try refine v90Y9 ?_
  refine rtA (by simp only [kR, Tryz.results90, ↓reduceIte, Nat.reduceEqDiff, reduceCtorEq]; first | done | rfl) ((stC d (oneC n cl tx z) L E1 N)) ?_
  exact ⟨E1, ⟨_, rfl⟩, rfl⟩
 intro _
 try refine v90Y9 ?_
 refine TO_stepO (wr := false) ([(33, I .i64 (oP noS z.path))] : List (Nat × AV)) rfl (by simp only [kD, kB, kG, kM, k90, Nat.reduceAdd, Nat.reduceLT, Nat.reduceEqDiff, ↓reduceIte, reduceCtorEq]; first | done | rfl) ?_ ?_
 ·simp only [All, List.cons_append, List.nil_append, InR, List.mem_cons, List.not_mem_nil, or_false, forall_eq_or_imp, forall_eq, clAV, clCs, clC, clCaps, clCap, and_true, true_and, implies_true, List.length_map, List.length_cons, List.length_nil, dArr, cl_arr, tyCs]
  repeat' (first | exact trivial | exact hcp | refine And.intro ?_ ?_ | intro _ | assumption | rfl | omega | (simp; done) | (simp_all; done))
 simp only [kP, Nat.reduceEqDiff, ↓reduceIte, reduceCtorEq]
 try refine v90Y9 ?_
 refine ifA ?_ ?_
 ·intro h; simp at h
 intro _
 try refine v90Y9 ?_
 refine caA ((stC d (oneC n cl tx z) L E1 N)) (coneEdit_ac d n cl tx z L E1 N hz) ?_
 rintro rv9 st' ⟨⟨e, rfl⟩, rfl⟩ <;> refine frA ?_
 try refine v90Y9 ?_
 refine ifA ?_ ?_
 ·intro _
  try refine v90Y9 ?_
  refine rtA (by simp only [kR, Tryz.results90, ↓reduceIte, Nat.reduceEqDiff, reduceCtorEq]; first | done | rfl) ((stC d (oneC n cl tx z) L E1 N)) ?_
  exact ⟨E1, ⟨_, rfl⟩, rfl⟩
 intro _
 refine nvA ?_
 refine drA (wr := false) ([] : List (Nat × AV)) (by simp only [kD, kB, kG, kM, k90, Nat.reduceAdd, Nat.reduceLT, Nat.reduceEqDiff, ↓reduceIte, reduceCtorEq, hins]; first | done | rfl) ?_ ?_
 ·exact obT (hty)
 try refine v90Y9 ?_
 refine ⟨(1, aput E1 z.path z), ⟨by simp, by simp⟩, by simp, ?_⟩
 exact enA
end
def k16 := And.intro @Tryz.ntmps16 <| And.intro @Tryz.underlying27 <| And.intro @bld30 <| And.intro @bld46 <| And.intro @elt27 <| And.intro @fld30_0 <| And.intro @fld46_2 <| And.intro @ti27 <| And.intro @ti3 <| And.intro @ti30 <| @ti46
theorem v16Y9 {G G' : Prop} (g : G') (h : Hid G' → G := by intro h9; (first | refine nvB ?_ | refine goA (wr := false) (by simp only [kB, k16, Nat.reduceAdd, Nat.reduceLT, Nat.reduceEqDiff, ↓reduceIte, reduceCtorEq]; first | done | rfl) ?_); (repeat (first | refine nvB ?_ | refine goA (wr := false) (by simp only [kB, k16, Nat.reduceAdd, Nat.reduceLT, Nat.reduceEqDiff, ↓reduceIte, reduceCtorEq]; first | done | rfl) ?_)); exact h9.out) : G := h ⟨g⟩
theorem next_ac (d : Dep) (hd : d.revs.length ≤ 1000000) (hb : ∀ v ∈ d.revs, -4000000000 ≤ v.chg ∧ v.chg ≤ 4000000000) : AC Tryz.prog 16 [aDep d] [] (fun r st => r = I .i64 (d.revs.foldl (fun n v => max n (v.chg + 1)) 1) ∧ st = []) := by
 have hfb : ∀ k, k ≤ d.revs.length → -4000000001 ≤ (d.revs.take k).foldl (fun n v => max n (v.chg + 1)) 1 ∧ (d.revs.take k).foldl (fun n v => max n (v.chg + 1)) 1 ≤ 4000000001 := by
  intro k
  induction k with
  | zero => intro _; simp
  | succ k ih =>
    intro hk
    rw [List.take_succ_eq_append_getElem (by omega), List.foldl_append]
    have h1 := ih (by omega)
    have h2 := hb _ (List.getElem_mem (by omega : k < d.revs.length))
    simp only [List.foldl_cons, List.foldl_nil]
    omega
 refine AC_enter Tryz.func16 rfl rfl (by simp only [Tryz.ntmps16, List.length]; omega) ?_
 intro x hx
 simp only [List.range, List.range.loop, List.length, List.zip, List.zipWith, Nat.reduceAdd, Tryz.ntmps16]
 try refine v16Y9 ?_
 refine T_loop (ι := Nat) (I := fun k => ⟨20, [(3, I .i64 ((d.revs.take k).foldl (fun n v => max n (v.chg + 1)) 1)), (7, aRevs d.revs), (8, I .i64 d.revs.length), (9, I .i64 k)], []⟩)
  (Inv := fun k => k ≤ d.revs.length) (μ := fun k => d.revs.length - k) 0 (by omega) ?_ ?_
 ·exact enA
 intro k hk
 have hf := hfb k hk
 try refine v16Y9 ?_
 refine ifA ?_ ?_
 ·intro hlt
  have hlt' : k < d.revs.length := by simpa using hlt
  obtain ⟨v, hv, he, htk⟩ := round encRev d.revs k zRev hlt'
  have hvb := hb v (List.mem_of_getElem? hv)
  have hs : (d.revs.take (k + 1)).foldl (fun n v => max n (v.chg + 1)) 1 = max ((d.revs.take k).foldl (fun n v => max n (v.chg + 1)) 1) (v.chg + 1) := by rw [htk, List.foldl_append]; rfl
  generalize (d.revs.take k).foldl (fun n v => max n (v.chg + 1)) 1 = M at hf hs ⊢
  (repeat (first | refine nvB ?_ | refine goA (wr := false) (by simp only [kB, k16, Nat.reduceAdd, Nat.reduceLT, Nat.reduceEqDiff, ↓reduceIte, reduceCtorEq, he]; first | done | rfl) ?_))
  refine ⟨k + 1, by omega, by omega, ?_⟩
  rw [hs]
  exact enA
 intro hge
 have hk' : k = d.revs.length := by have : ¬ k < d.revs.length := by simpa using hge
                                    omega
 try refine v16Y9 ?_
 refine rtA (by simp only [kR, Tryz.results16, ↓reduceIte, Nat.reduceEqDiff, reduceCtorEq]; first | done | rfl) ([]) ?_
 refine ⟨?_, rfl⟩
 rw [hk', List.take_length]
@[reducible] def fnC (f : Nat) : List C := [.fb f [.ptr 2000 0]]
@[reducible] def stepsL : List Nat := [89, 90, 91, 92, 93]
def k43 := And.intro @Tryz.ntmps43 <| And.intro @elt114 <| And.intro @ti114 <| @ti116
theorem v43Y11 {G G' : Prop} (g : G') (h : Hid G' → G := by intro h9; (first | refine nvB ?_ | refine goA (wr := false) (by simp only [kB, kS, kFn, k43, Nat.reduceAdd, Nat.reduceLT, Nat.reduceEqDiff, ↓reduceIte, reduceCtorEq]; first | done | rfl) ?_); (repeat (first | refine nvB ?_ | refine goA (wr := false) (by simp only [kB, kS, kFn, k43, Nat.reduceAdd, Nat.reduceLT, Nat.reduceEqDiff, ↓reduceIte, reduceCtorEq]; first | done | rfl) ?_)); exact h9.out) : G := h ⟨g⟩
theorem steps_ac (d : Dep) (c : Chg) (L : List (ByteArray × Rev)) (E : List (ByteArray × Edt)) (N : List (Fil × Fil)) :
  AC Tryz.prog 43 [.c (.ptr 2000 0)] (stC d c L E N) (fun r st => r = .c (.ms 13 1 0 5) ∧ st = stC d c L E N ++ [(13, .arr 1 (stepsL.map fnC))]) := by
 refine AC_enter Tryz.func43 rfl rfl (by simp only [Tryz.ntmps43, List.length]; omega) ?_
 intro x hx
 simp only [List.range, List.range.loop, List.length, List.zip, List.zipWith, Nat.reduceAdd, Tryz.ntmps43]
 try refine v43Y11 ?_
 refine rtA (by simp only [kR, Tryz.results43, ↓reduceIte, Nat.reduceEqDiff, reduceCtorEq]; first | done | rfl) ((stC d c L E N ++ [(13, .arr 1 (stepsL.map fnC))])) ?_
 exact ⟨rfl, rfl⟩
theorem v45Y12 {G G' : Prop} (g : G') (h : Hid G' → G := by intro h9; (first | refine nvB ?_ | refine goA (wr := false) (by simp only [kB, kS, k45, Nat.reduceAdd, Nat.reduceLT, Nat.reduceEqDiff, ↓reduceIte, reduceCtorEq]; first | done | rfl) ?_); (repeat (first | refine nvB ?_ | refine goA (wr := false) (by simp only [kB, kS, k45, Nat.reduceAdd, Nat.reduceLT, Nat.reduceEqDiff, ↓reduceIte, reduceCtorEq]; first | done | rfl) ?_)); exact h9.out) : G := h ⟨g⟩
theorem concatA_ac (ls : List (List Rcd)) (hl : ls.length ≤ 1000) (hn : ∀ l ∈ ls, l.length ≤ 1000) : AC Tryz.prog 45 [.c (.ms 37 1 0 ls.length)] [(37, dArr 1 (ls.map encLs))] (fun r st => r = .c (.ms 46 6 0 ls.flatten.length) ∧ st = [(37, .dead), (46, dArr 6 (ls.flatten.map encRcd))]) := by
 have hfl : ∀ k, (ls.take k).flatten.length ≤ k * 1000 := by
  intro k
  induction k with
  | zero => simp
  | succ k ih =>
    by_cases h : k < ls.length
    ·rw [List.take_succ_eq_append_getElem h, List.flatten_append, List.length_append]
     have := hn _ (List.getElem_mem h)
     simp only [List.flatten_cons, List.flatten_nil, List.append_nil]
     omega
    ·rw [List.take_of_length_le (by omega)]; rw [List.take_of_length_le (by omega)] at ih; omega
 have hsn : ∀ k v, ls[k]? = some v → (ls.take (k + 1)).flatten = (ls.take k).flatten ++ v := by
  intro k v h
  rw [List.take_succ, h]; simp
 refine AC_enter Tryz.func45 rfl rfl (by simp only [Tryz.ntmps45, List.length]; omega) ?_
 intro x hx
 simp only [List.range, List.range.loop, List.length, List.zip, List.zipWith, Nat.reduceAdd, Tryz.ntmps45]
 refine T_ent (Ent_frzSlot (i := 0) (id := 37) (ys := ls.map encLs) rfl rfl (by rw [List.length_map])) ?_
 refine fzA ?_
 try refine v45Y12 ?_
 refine T_loop (ι := Nat) (I := fun k => ⟨36, [(0, .c (.d (.ps 1 (ls.map encLs)))), (3, I .i64 (ls.take k).flatten.length), (9, .c (.d (.ps 1 (ls.map encLs)))), (10, I .i64 ls.length), (11, I .i64 k)], [(37, .dead)]⟩)
  (Inv := fun k => k ≤ ls.length) (μ := fun k => ls.length - k) 0 (by omega) ?_ ?_
 ·exact enA
 intro k hk
 have hk0 := hfl k
 try refine v45Y12 ?_
 refine ifA ?_ ?_
 ·intro hlt
  have hlt' : k < ls.length := by simpa using hlt
  obtain ⟨v, hv, he, _⟩ := round encLs ls k [] hlt'
  have hvn := hn v (List.mem_of_getElem? hv)
  have hs1 := hsn k v hv
  have hadd : (((ls.take k).flatten.length : Nat) : Int) + ((v.length : Nat) : Int) = (((ls.take (k + 1)).flatten.length : Nat) : Int) := by rw [hs1, List.length_append]; omega
  (repeat (first | refine nvB ?_ | refine goA (wr := false) (by simp only [kB, kS, k45, Nat.reduceAdd, Nat.reduceLT, Nat.reduceEqDiff, ↓reduceIte, reduceCtorEq, he, hadd]; first | done | rfl) ?_))
  refine ifA ?_ ?_
  ·intro h; simp at h; omega
  intro _
  try refine v45Y12 ?_
  refine ⟨k + 1, by omega, by omega, ?_⟩
  exact enA
 intro hge
 have hk' : k = ls.length := by have : ¬ k < ls.length := by simpa using hge
                                omega
 rw [hk', List.take_length] at hk0 ⊢
 try refine v45Y12 ?_
 refine caA [] (growR_ac 46 ls.flatten.length (by omega)) ?_
 rintro r st' ⟨rfl, rfl⟩ <;> refine frA ?_
 try refine v45Y12 ?_
 refine T_loop (ι := Nat) (I := fun k => ⟨36, [(6, .c (.ms 46 6 0 (ls.take k).flatten.length)), (25, .c (.d (.ps 1 (ls.map encLs)))), (26, I .i64 ls.length), (27, I .i64 k)], [(37, .dead), (46, dArr 6 ((ls.take k).flatten.map encRcd))]⟩)
  (Inv := fun k => k ≤ ls.length) (μ := fun k => ls.length - k) 0 (by omega) ?_ ?_
 ·exact enA
 intro k hk
 have hk1 := hfl k
 try refine v45Y12 ?_
 refine ifA ?_ ?_
 ·intro hlt
  have hlt' : k < ls.length := by simpa using hlt
  obtain ⟨v, hv, he, _⟩ := round encLs ls k [] hlt'
  have hvn := hn v (List.mem_of_getElem? hv)
  have hs1 := hsn k v hv
  have o1 : ∀ l ∈ List.map (fun l => List.map C.d l) (List.map encRcd v), l.length = 6 := by
   intro l hl
   obtain ⟨y, hy, rfl⟩ := List.mem_map.1 hl
   obtain ⟨z, _, rfl⟩ := List.mem_map.1 hy
   rfl
  generalize hA : (ls.take k).flatten = A at hs1 hk1
  refine nvA ?_
  refine goA (wr := false) (by simp only [kB, kS, k45, Nat.reduceAdd, Nat.reduceLT, Nat.reduceEqDiff, ↓reduceIte, reduceCtorEq, he]; first | done | rfl) ?_
  refine nvA ?_
  refine TO_go (wr := false) 400 (by simp only [kB, kS, k45, Nat.reduceAdd, Nat.reduceLT, Nat.reduceEqDiff, ↓reduceIte, reduceCtorEq]; first | done | rfl) ?_ ?_
  ·exact obT (o1)
  try refine v45Y12 ?_
  refine ⟨k + 1, by omega, by omega, ?_⟩
  rw [hs1]
  exact enR (fun i => if i = 46 then 33 else i)
 intro hge2
 have hk2 : k = ls.length := by have : ¬ k < ls.length := by simpa using hge2
                                omega
 rw [hk2, List.take_length]
 generalize ls.flatten = A
 try refine v45Y12 ?_
 refine rtA (by simp only [kR, Tryz.results45, ↓reduceIte, Nat.reduceEqDiff, reduceCtorEq]; first | done | rfl) ([(37, .dead), (46, dArr 6 (A.map encRcd))]) ?_
 exact ⟨rfl, rfl⟩
section
variable (d : Dep) (n : Int) (cl tx : ByteArray) (z : Edt)
theorem step_ac (hd : d.revs.length ≤ 512) (hd2 : d.recs.length ≤ 512) (hz : z.act = 1 ∨ z.act = 2) (hs : z.path.size ≤ 100000) (L : List (ByteArray × Rev)) (E : List (ByteArray × Edt)) (N : List (Fil × Fil)) (k : Nat) (hk : k < 5) :
  AC Tryz.prog (stepsL.getD k 0) [.c (.ptr 2000 0)] (stC d (oneC n cl tx z) L E N) (fun r st => ∃ (e : Int) (E' : List (ByteArray × Edt)), r = I .i64 e ∧ st = stC d (oneC n cl tx z) L E' N) := by
 have h0 : ∀ {f : Nat}, AC Tryz.prog f [.c (.ptr 2000 0)] (stC d (oneC n cl tx z) L E N) (fun r st => (∃ e : Int, r = I .i64 e) ∧ st = stC d (oneC n cl tx z) L E N) → AC Tryz.prog f [.c (.ptr 2000 0)] (stC d (oneC n cl tx z) L E N) (fun r st => ∃ (e : Int) (E' : List (ByteArray × Edt)), r = I .i64 e ∧ st = stC d (oneC n cl tx z) L E' N) :=
  fun h => h.mono fun r st ⟨⟨e, h1⟩, h2⟩ => ⟨e, E, h1, h2⟩
 match k, hk with
 | 0, _ => exact h0 (csize_ac d n cl tx z L E N (by omega))
 | 1, _ => exact (cevery_ac d n cl tx z L E N hz hs).mono fun r st ⟨E', ⟨e, h1⟩, h2⟩ => ⟨e, E', h1, h2⟩
 | 2, _ => exact h0 (cmoves_ac d n cl tx z L E N hz)
 | 3, _ => exact h0 (crecords_ac d n cl tx z L E N)
 | 4, _ => exact h0 (croom_ac d n cl tx z L E N (by omega) (by omega))
end
@[reducible] def revZ (d : Dep) (n : Int) (z : Edt) : Rev := ⟨z.path, lastNum d z.path + 1, n, z.act, z.base, z.kw, z.ex, z.xe, z.sum, z.size, z.frm, z.fnum⟩
def addZ (d : Dep) (n : Int) (z : Edt) (k : Nat) : List Rev := if k = 0 then d.revs else d.revs ++ [revZ d n z]
def k15 := And.intro @Tryz.ntmps15 <| And.intro @Tryz.underlying114 <| And.intro @Tryz.underlying27 <| And.intro @Tryz.underlying50 <| And.intro @bld30 <| And.intro @bld46 <| And.intro @bld56 <| And.intro @bld62 <| And.intro @elt114 <| And.intro @elt180 <| And.intro @elt27 <| And.intro @elt50 <| And.intro @fld30_0 <| And.intro @fld30_1 <| And.intro @fld62_3 <| And.intro @fld62_4 <| And.intro @ti114 <| And.intro @ti116 <| And.intro @ti180 <| And.intro @ti27 <| And.intro @ti28 <| And.intro @ti30 <| And.intro @ti46 <| And.intro @ti50 <| And.intro @ti56 <| @ti62
theorem v15Y13 {G G' : Prop} (g : G') (h : Hid G' → G := by intro h9; (first | refine nvB ?_ | refine goA (wr := false) (by simp only [kB, kS, kFn, k15, Nat.reduceAdd, Nat.reduceLT, Nat.reduceEqDiff, ↓reduceIte, reduceCtorEq]; first | done | rfl) ?_); (repeat (first | refine nvB ?_ | refine goA (wr := false) (by simp only [kB, kS, kFn, k15, Nat.reduceAdd, Nat.reduceLT, Nat.reduceEqDiff, ↓reduceIte, reduceCtorEq]; first | done | rfl) ?_)); exact h9.out) : G := h ⟨g⟩
theorem Append1_ac (d : Dep) (hg : Good d.revs) (h0 : d.revs ≠ []) (hd : d.revs.length ≤ 500) (hd2 : d.recs.length ≤ 512) (hdr : ∀ r ∈ d.recs, rOK r) (n : Int) (cl tx : ByteArray) (z : Edt) (hz : z.act = 1 ∨ z.act = 2) (hs : z.path.size ≤ 100000) :
  AC Tryz.prog 15 [aDep d, aChg (oneC n cl tx z)] [] (fun r st => ((∃ rs : List Rcd, r = .tup [(true, (encDep ⟨d.revs ++ [revZ d n z], rs⟩).map C.d), pI 0]) ∨ ∃ e : Int, ¬ e = 0 ∧ r = .tup [(true, [nilC, nilC]), pI e]) ∧ st = []) := by
 have hln := lastNum_le hg z.path
 refine AC_enter Tryz.func15 rfl rfl (by simp only [Tryz.ntmps15, List.length]; omega) ?_
 intro x hx
 simp only [List.range, List.range.loop, List.length, List.zip, List.zipWith, Nat.reduceAdd, Tryz.ntmps15]
 try refine v15Y13 ?_
 refine caA [] (newCheck_ac d (oneC n cl tx z) hg (by omega)) ?_
 rintro r st' ⟨L, N, ⟨rfl, hL⟩, rfl⟩ <;> refine frA ?_
 have hlz : ((alook L z.path).getD zRev).num = lastNum d z.path := by rw [hL]; rfl
 try refine v15Y13 ?_
 refine caA ((stC d (oneC n cl tx z) L [] N)) (steps_ac d (oneC n cl tx z) L [] N) ?_
 rintro rv9 st' ⟨rfl, rfl⟩ <;> refine frA ?_
 try refine v15Y13 ?_
 refine T_loop (ι := Nat × List (ByteArray × Edt)) (I := fun i => ⟨60, [(2, .c (.ptr 2 0)), (3, .c (.ptr 3 0)), (4, .c (.ptr 4 0)), (5, I .i64 0), (6, .c (.ptr 2000 0)), (17, .c (.ms 13 1 0 5)), (18, I .i64 5), (19, I .i64 i.1)], stC d (oneC n cl tx z) L i.2 N ++ [(13, .arr 1 (stepsL.map fnC)), (2, .box ((encDep d).map C.d)), (3, .box ((encChg (oneC n cl tx z)).map C.d)), (4, .box [nilC, nilC])]⟩)
  (Inv := fun i => i.1 ≤ 5) (μ := fun i => 5 - i.1) (0, []) (by simp) ?_ ?_
 ·exact enA
 rintro ⟨k, E⟩ hk
 simp only at hk ⊢
 try refine v15Y13 ?_
 refine ifA ?_ ?_
 ·intro hlt
  have hlt' : k < 5 := by have : ((k : Nat) : Int) < 5 := by simpa using hlt
                          omega
  have he : [fnC 89, fnC 90, fnC 91, fnC 92, fnC 93].getD k [] = fnC (stepsL.getD k 0) := by
   match k, hlt' with
   | 0, _ => rfl
   | 1, _ => rfl
   | 2, _ => rfl
   | 3, _ => rfl
   | 4, _ => rfl
  have hst := step_ac d n cl tx z (by omega) hd2 hz hs L E N k hlt'
  generalize stepsL.getD k 0 = f at he hst
  (repeat (first | refine nvB ?_ | refine goA (wr := false) (by simp only [kB, kS, kFn, k15, Nat.reduceAdd, Nat.reduceLT, Nat.reduceEqDiff, ↓reduceIte, reduceCtorEq, he]; first | done | rfl) ?_))
  refine TO_callb ((stC d (oneC n cl tx z) L E N)) (by simp) (by simp only [kV, ↓reduceIte, Nat.reduceEqDiff, reduceCtorEq]; first | done | rfl) ⟨by simp [Ab.get], by simp [clAO, cl_f1, cl_s1, cl_f2, cl_s2, cl_a1, flat_up, clCs, clC, domOf, Ab.get], by simp [Cap.toC, clAV, clC, clCs, domOf, Ab.get]⟩ (hst) ?_
  rintro rv9 st' ⟨e, E', rfl, rfl⟩ <;> (refine ⟨by simp [Fresh, domOf, Ab.get], ?_⟩; simp only [kP, Nat.reduceEqDiff, ↓reduceIte, reduceCtorEq, List.cons_append, List.nil_append])
  try refine v15Y13 ?_
  refine ifA ?_ ?_
  ·intro hne
   try refine v15Y13 ?_
   refine rtA (by simp only [kR, Tryz.results15, ↓reduceIte, Nat.reduceEqDiff, reduceCtorEq, effLoad, cellsOf, List.map, List.length_cons, List.length_nil, List.getD_cons_zero, List.getD_cons_succ, List.getD_nil, List.drop, List.take, splice, ti30]; first | done | rfl) ([]) ?_
   refine ⟨?_, rfl⟩
   exact .inr ⟨e, by simpa using hne, rfl⟩
  intro _
  try refine v15Y13 ?_
  refine ⟨(k + 1, E'), by simp; omega, by simp; omega, ?_⟩
  exact enA
 intro _
 have hcl := cloneV_ac d.revs h0 (by omega)
 have hcc : AC Tryz.prog 45 [.c (.ms 37 1 0 2)] [(37, .arr 1 [[.d (.ps 6 (d.recs.map encRcd))], [.d (.ps 6 [])]])] (fun r st => r = .c (.ms 46 6 0 d.recs.length) ∧ st = [(37, .dead), (46, dArr 6 (d.recs.map encRcd))]) := by
  have hls : ∀ l ∈ [d.recs, []], l.length ≤ 1000 := by
   intro l hl
   simp only [List.mem_cons, List.not_mem_nil, or_false] at hl
   rcases hl with rfl | rfl
   ·omega
   ·exact Nat.zero_le _
  have := concatA_ac [d.recs, []] (by simp) hls
  simpa [dArr, encLs] using this
 try refine v15Y13 ?_
 refine nvA ?_
 refine T_drawL (wr := false) [(32, .c (.ms 7 12 0 d.revs.length)), (38, .c (.ms 46 6 0 d.recs.length))] [(32, ([], some [(7, dArr 12 (d.revs.map encRev))])), (38, ([(37, .arr 1 [[.d (.ps 6 (d.recs.map encRcd))], [.d (.ps 6 [])]])], some [(37, .dead), (46, dArr 6 (d.recs.map encRcd))]))] (by kernel_rfl) (by simp only [runL.eq_1, runL.eq_2, stepL.eq_def, lnOf.eq_def, callL.eq_def, Option.getD, kD, kB, kS, kFn, k15, Nat.reduceAdd, Nat.reduceLT, Nat.reduceEqDiff, ↓reduceIte, reduceCtorEq]; first | done | rfl) ?_ (by kernel_rfl) ?_
 ·(simp only [All, List.cons_append, List.nil_append, InR, List.mem_cons, List.not_mem_nil, or_false, forall_eq_or_imp, forall_eq, and_true, true_and, implies_true, List.length_map, List.length_cons, List.length_nil]; repeat' (first | exact trivial | exact hcl | exact hcc | refine And.intro ?_ ?_ | (rintro _ ⟨⟩; done) | assumption | rfl | omega | (simp [clAO, cl_f1, cl_s1, cl_f2, cl_s2, cl_a1, flat_up, clCs, clC, clAV, clPs, domOf, Ab.get]; done)))
 have a1 : addZ d n z 0 = d.revs := rfl
 have a2 : addZ d n z 1 = d.revs ++ [revZ d n z] := rfl
 have e00 : Int.toNat ((0 : Nat) : Int) = 0 := rfl
 have hcr := crev_ac d (oneC n cl tx z) L E N z (by rw [hlz]; omega)
 rw [hlz] at hcr
 try refine v15Y13 ?_
 refine T_loop (ι := Nat) (I := fun k => ⟨60, [(4, .c (.ptr 4 0)), (6, .c (.ptr 2000 0)), (10, .c (.ptr 10 0)), (41, .c (.d (.ps 12 [encEdt z]))), (42, I .i64 1), (43, I .i64 k)], stC d (oneC n cl tx z) L E N ++ [(4, .box [nilC, nilC]), (10, .box [.ms 7 12 0 (addZ d n z k).length, .ms 46 6 0 d.recs.length]), (7, dArr 12 ((addZ d n z k).map encRev)), (46, dArr 6 (d.recs.map encRcd))]⟩)
  (Inv := fun k => k ≤ 1) (μ := fun k => 1 - k) 0 (by omega) ?_ ?_
 ·rw [a1]
  exact enA
 intro k hk
 try refine v15Y13 ?_
 refine ifA ?_ ?_
 ·intro hlt
  have hlt' : k = 0 := by have : ((k : Nat) : Int) < 1 := by simpa using hlt
                          omega
  subst hlt'
  rw [a1]
  (repeat (first | refine nvB ?_ | refine goA (wr := false) (by simp only [kB, kS, kFn, k15, Nat.reduceAdd, Nat.reduceLT, Nat.reduceEqDiff, ↓reduceIte, reduceCtorEq, e00, List.getD_cons_zero]; first | done | rfl) ?_))
  refine nvA ?_
  refine T_drawL (wr := false) [(51, aRev (revZ d n z))] [(51, (stC d (oneC n cl tx z) L E N, none))] (by kernel_rfl) (by simp only [runL.eq_1, runL.eq_2, stepL.eq_def, lnOf.eq_def, callL.eq_def, Option.getD, kD, kB, kS, kFn, k15, Nat.reduceAdd, Nat.reduceLT, Nat.reduceEqDiff, ↓reduceIte, reduceCtorEq]; first | done | rfl) ?_ (by kernel_rfl) ?_
  ·(simp only [All, List.cons_append, List.nil_append, InR, List.mem_cons, List.not_mem_nil, or_false, forall_eq_or_imp, forall_eq, and_true, true_and, implies_true, List.length_map, List.length_cons, List.length_nil]; repeat' (first | exact trivial | exact hcr | refine And.intro ?_ ?_ | (rintro _ ⟨⟩; done) | assumption | rfl | omega | (simp [clAO, cl_f1, cl_s1, cl_f2, cl_s2, cl_a1, flat_up, clCs, clC, clAV, clPs, domOf, Ab.get]; done)))
  try refine v15Y13 ?_
  refine ⟨1, by omega, by omega, ?_⟩
  rw [a2]
  exact enR (fun i => if i = 7 then 53 else i)
 intro hge
 have hk1 : k = 1 := by have : ¬ ((k : Nat) : Int) < 1 := by simpa using hge
                        omega
 subst hk1
 rw [a2]
 refine nvA ?_
 refine goA (wr := false) (by simp only [kB, kS, kFn, k15, Nat.reduceAdd, Nat.reduceLT, Nat.reduceEqDiff, ↓reduceIte, reduceCtorEq]; first | done | rfl) ?_
 refine caA ([(46, dArr 6 (d.recs.map encRcd))]) (sortStable_ac d.recs.length (by omega) d.recs ⟨rfl, hdr⟩) ?_
 rintro rv9 st' ⟨l', hl', rfl⟩ <;> refine frA ?_
 refine TO_ent (Ent_frzCell (bid := 10) (id := 7) (sz := 12) (j := 0) (ys := (d.revs ++ [revZ d n z]).map encRev) (by decide) rfl rfl rfl (by simp)) ?_
 refine fzA ?_
 refine TO_ent (Ent_frzCell (bid := 10) (id := 46) (sz := 6) (j := 1) (ys := l'.map encRcd) (by decide) rfl rfl rfl (by rw [List.length_map]; exact hl'.1.symm)) ?_
 refine fzA ?_
 try refine v15Y13 ?_
 refine rtA (by simp only [kR, Tryz.results15, ↓reduceIte, Nat.reduceEqDiff, reduceCtorEq, effLoad, cellsOf, List.map, List.length_cons, List.length_nil, List.getD_cons_zero, List.getD_cons_succ, List.getD_nil, List.drop, List.take, splice, ti30]; first | done | rfl) ([]) ?_
 refine ⟨?_, rfl⟩
 exact .inl ⟨l', rfl⟩
end Go.Proofs.YtmhboloicpieeaaGreatDoor
