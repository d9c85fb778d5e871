/- A part of the proof: contracts of functions of the program over abstract states. -/
import Derived.Test.YtmlhfnodnnbbnaaDoorQT2
set_option linter.all false
namespace Go.Proofs.YtmlhfnodnnbbnaaDoor
open Go.Ab Tys
theorem look_M (m : List (Int × List Int)) (n : Int) : findE [C.d (.v (.int .i64 n))] ((mEnt kN vL m).map upE) = (alook m n).map fun v => (false, [C.d (.ps 1 (v.map eI))]) :=
  findE_ent (ve := vL) kN_eq m n
theorem ty_M (m : List (Int × List Int)) : ∀ e ∈ (mEnt kN vL m).map upE, e.1.1 = false ∧ tyCs [.int .i64] e.1.2 := by
  intro e he
  simp only [mEnt, List.mem_map] at he
  obtain ⟨_, ⟨f, _, rfl⟩, rfl⟩ := he
  exact ⟨rfl, by simp [upE, upD, tyCs]⟩
def upto (l : List Int) (s : Int) : List Int := match l with | [] => [] | a :: l => if a = s then [a] else a :: upto l s
theorem upto_hit : ∀ {l : List Int} {k : Nat} {s : Int}, ¬ s ∈ l.take k → l[k]? = some s → upto l s = l.take (k + 1)
  | [], k, s, _, h => by simp at h
  | a :: l, 0, s, _, h => by simp at h; subst h; simp [upto]
  | a :: l, k + 1, s, hn, h => by
    simp only [List.take_succ_cons, List.mem_cons, not_or] at hn
    simp only [upto]
    rw [if_neg (fun e => hn.1 e.symm), upto_hit hn.2 (by simpa using h)]
    simp
theorem upto_miss : ∀ {l : List Int} {s : Int}, ¬ s ∈ l → upto l s = l
  | [], s, _ => rfl
  | a :: l, s, hn => by
    simp only [List.mem_cons, not_or] at hn
    simp only [upto]
    rw [if_neg (fun e => hn.1 e.symm), upto_miss hn.2]
@[reducible] def eB (b : Bool) : List D := [.v (.bool b)]
def openB (L : Led) (t : Int) (i : Int) : Bool := !subB ((L.con.getD i.toNat none).getD []) ((L.cre.getD t.toNat none).getD [])
def k24 := And.intro @Tryd.ntmps24 <| And.intro @Tryd.underlying76 <| And.intro @Tryd.underlying77 <| And.intro @bld86 <| And.intro @elt76 <| And.intro @elt77 <| And.intro @elt84 <| And.intro @fld86_4 <| And.intro @fld86_5 <| And.intro @fld86_7 <| And.intro @fld86_8 <| And.intro @kyt3 <| And.intro @mpt83 <| And.intro @ti117 <| And.intro @ti3 <| And.intro @ti4 <| And.intro @ti76 <| And.intro @ti77 <| And.intro @ti83 <| And.intro @ti84 <| @ti86
set_option maxRecDepth 100000 in
set_option maxHeartbeats 8000000 in
theorem lremaining_ac (L : Led) (hL : LedOK L) (la : List (ByteArray × Int)) (me : List (Int × List Int)) (s t : Int) (hs : 0 ≤ s ∧ s < L.revs.length) (ht : 0 ≤ t ∧ t < L.revs.length) (ms : List Int) (hm : alook me (L.fst.getD s.toNat 0) = some ms)
    (hms : ∀ i ∈ ms, 0 ≤ i ∧ i < L.revs.length ∧ ∃ l, L.con.getD i.toNat none = some l) (hcr : ∃ l, L.cre.getD t.toNat none = some l) (hml : ms.length ≤ 1000) :
    AC Tryd.prog 24 [.c (.pp (ledD L la me)), I .i64 s, I .i64 t] [] (fun r st => r = .tup [(false, [.d (.ps 1 ((upto ms s).map eI))]), (false, [.d (.ps 1 (((upto ms s).map (openB L t)).map eB))])] ∧ st = []) := by
  obtain ⟨s1, s2⟩ := hs
  have hfl := hL.fst
  have hil : s.toNat < L.fst.length := by omega
  have hi2 : s < (L.fst.length : Int) := by omega
  have eg := getD_enc eI L.fst s.toNat 0 hil
  refine AC_enter Tryd.func24 rfl rfl (by simp only [Tryd.ntmps24, List.length]; omega) ?_
  intro x hx
  simp only [List.range, List.range.loop, List.length, List.zip, List.zipWith, Nat.reduceAdd, Tryd.ntmps24]
  (repeat (first | (with_reducible first | refine na ?_ | refine nb ?_ | refine nc ?_ | refine nd ?_ | refine ne ?_ | refine nf ?_ | refine ng ?_ | refine nh ?_ | refine ni ?_ | refine nj ?_ | refine nk ?_ | refine nl ?_ | refine nm (by decide) ?_ | refine nn ?_) | refine TO_go (wr := false) 400 (by simp only [kB, kS, kM, k24, Nat.reduceAdd, Nat.reduceLT, Nat.reduceEqDiff, ↓reduceIte, reduceCtorEq]; first | done | rfl) (by first | exact trivial | (simp only [kO]; omega) | (simp [All, InR]; first | done | omega) | (simp +contextual [All, InR]; first | done | grind)) ?_))
  refine T_draw (wr := false) ([] : List (Nat × AV)) (by kernel_rfl) (by simp only [kD, kB, kS, kM, k24, Nat.reduceAdd, Nat.reduceLT, Nat.reduceEqDiff, ↓reduceIte, reduceCtorEq, eg, look_M, hm]; first | done | rfl) ?_ (by kernel_rfl) ?_
  · simp only [All, List.cons_append, List.nil_append, InR, List.mem_cons, List.not_mem_nil, or_false, forall_eq_or_imp, forall_eq, clAV, clCs, clC, and_true, true_and, implies_true, List.length_map, List.length_cons, List.length_nil, dArr, cl_arr, tyCs]
    repeat' (first | exact trivial | exact ty_M _ | refine And.intro ?_ ?_ | intro _ | assumption | rfl | omega | (rw [Bool.not_eq_true']; assumption) | (simp; done) | (simp only [decide_eq_true_eq] at *; omega) | (simp_all; done))
  (repeat (with_reducible first | refine na ?_ | refine nb ?_ | refine nc ?_ | refine nd ?_ | refine ne ?_ | refine nf ?_ | refine ng ?_ | refine nh ?_ | refine ni ?_ | refine nj ?_ | refine nk ?_ | refine nl ?_ | refine nm (by decide) ?_ | refine nn ?_))
  refine T_ent (Ent_adopt (i := 6) (id := 100) (sz := 1) rfl rfl (by omega)) ?_
  simp only [Ab.put, Nat.reduceEqDiff, ↓reduceIte, reduceCtorEq, if_false, if_true]
  refine T_ent (Ent_adopt (i := 7) (id := 101) (sz := 1) rfl rfl (by omega)) ?_
  simp only [Ab.put, Nat.reduceEqDiff, ↓reduceIte, reduceCtorEq, if_false, if_true]
  refine T_loop (ι := Nat) (I := fun k => ⟨56, [(0, .c (.pp (ledD L la me))), (1, I .i64 s), (2, I .i64 t), (6, .c (.ms 100 1 0 (ms.take k).length)), (7, .c (.ms 101 1 0 (ms.take k).length)), (21, .c (.d (.ps 1 (ms.map eI)))), (22, I .i64 ms.length), (23, I .i64 k)],
      [(100, dArr 1 ((ms.take k).map eI)), (101, dArr 1 (((ms.take k).map (openB L t)).map eB))]⟩)
    (Inv := fun k => k ≤ ms.length ∧ ¬ s ∈ ms.take k) (μ := fun k => ms.length - k) 0 ⟨by omega, by simp⟩ ?_ ?_
  · (refine Ent_sub (fun i => i) rfl ?_ ⟨?_, ?_, ?_, keepI hx (by simp [domOf, Ab.get])⟩ <;> first | (simp only [kE, dArr, ↓reduceIte, Nat.reduceEqDiff, reduceCtorEq]; done) | simp [renAV_id, renAO_id, flat_up, Ab.get, clAV, clC, clCs, clAO, cl_f1, cl_s1, cl_f2, cl_s2, cl_a1, domOf, List.flatten])
  rintro k ⟨hk, hns⟩
  have hkl : (ms.take k).length = k := by simp; omega
  (repeat (first | (with_reducible first | refine na ?_ | refine nb ?_ | refine nc ?_ | refine nd ?_ | refine ne ?_ | refine nf ?_ | refine ng ?_ | refine nh ?_ | refine ni ?_ | refine nj ?_ | refine nk ?_ | refine nl ?_ | refine nm (by decide) ?_ | refine nn ?_) | refine TO_go (wr := false) 400 (by simp only [kB, kS, kM, k24, Nat.reduceAdd, Nat.reduceLT, Nat.reduceEqDiff, ↓reduceIte, reduceCtorEq]; first | done | rfl) (by first | exact trivial | (simp only [kO]; omega) | (simp [All, InR]; first | done | omega) | (simp +contextual [All, InR]; first | done | grind)) ?_))
  refine T_cond (by simp only [kV, ↓reduceIte, Nat.reduceEqDiff, reduceCtorEq]; first | done | rfl) ?_ ?_
  · intro hlt
    have hlt' : k < ms.length := by simpa using hlt
    obtain ⟨v, hv, he, htk⟩ := round eI ms k 0 hlt'
    obtain ⟨v1, v2, c1, hc1⟩ := hms v (List.mem_of_getElem? hv)
    obtain ⟨c2, hc2⟩ := hcr
    have hcl1 := hL.con
    have hcl2 := hL.cre
    have e1 := getD_enc eSet L.con v.toNat none (by omega)
    have e2 := getD_enc eSet L.cre t.toNat none (by omega)
    rw [hc1] at e1
    rw [hc2] at e2
    have hob : (!subB c1 c2) = openB L t v := by simp only [openB, hc1, hc2, Option.getD]
    (repeat (first | (with_reducible first | refine na ?_ | refine nb ?_ | refine nc ?_ | refine nd ?_ | refine ne ?_ | refine nf ?_ | refine ng ?_ | refine nh ?_ | refine ni ?_ | refine nj ?_ | refine nk ?_ | refine nl ?_ | refine nm (by decide) ?_ | refine nn ?_) | refine TO_go (wr := false) 400 (by simp only [kB, kS, kM, k24, Nat.reduceAdd, Nat.reduceLT, Nat.reduceEqDiff, ↓reduceIte, reduceCtorEq, he]; first | done | rfl) (by first | exact trivial | (simp only [kO]; omega) | (simp [All, InR]; first | done | omega) | (simp +contextual [All, InR]; first | done | grind)) ?_))
    refine T_draw (wr := false) ([(46, B (subB c1 c2))] : List (Nat × AV)) (by kernel_rfl) (by simp only [kD, kB, kS, kM, k24, Nat.reduceAdd, Nat.reduceLT, Nat.reduceEqDiff, ↓reduceIte, reduceCtorEq, e1, e2]; first | done | rfl) ?_ (by kernel_rfl) ?_
    · simp only [All, List.cons_append, List.nil_append, InR, List.mem_cons, List.not_mem_nil, or_false, forall_eq_or_imp, forall_eq, clAV, clCs, clC, and_true, true_and, implies_true, List.length_map, List.length_cons, List.length_nil, dArr, cl_arr, tyCs]
      repeat' (first | exact trivial | exact within_ac c1 c2 | refine And.intro ?_ ?_ | intro _ | assumption | rfl | omega | (rw [Bool.not_eq_true']; assumption) | (simp; done) | (simp only [decide_eq_true_eq] at *; omega) | (simp_all; done))
    (repeat (first | (with_reducible first | refine na ?_ | refine nb ?_ | refine nc ?_ | refine nd ?_ | refine ne ?_ | refine nf ?_ | refine ng ?_ | refine nh ?_ | refine ni ?_ | refine nj ?_ | refine nk ?_ | refine nl ?_ | refine nm (by decide) ?_ | refine nn ?_) | refine TO_go (wr := false) 400 (by simp only [kB, kS, kM, k24, Nat.reduceAdd, Nat.reduceLT, Nat.reduceEqDiff, ↓reduceIte, reduceCtorEq]; first | done | rfl) (by first | exact trivial | (simp only [kO]; omega) | (simp [All, InR]; first | done | omega) | (simp +contextual [All, InR]; first | done | grind)) ?_))
    refine T_cond (by simp only [kV, ↓reduceIte, Nat.reduceEqDiff, reduceCtorEq]; first | done | rfl) ?_ ?_
    · intro heq
      have heq' : v = s := by simpa using heq
      have hup : upto ms s = ms.take (k + 1) := upto_hit hns (by rw [← heq']; exact hv)
      refine T_ent (s' := ⟨56, [(6, .c (.ms 100 1 0 (ms.take (k + 1)).length)), (7, .c (.ms 101 1 0 (ms.take (k + 1)).length))], [(100, dArr 1 ((ms.take (k + 1)).map eI)), (101, dArr 1 (((ms.take (k + 1)).map (openB L t)).map eB))]⟩) ?_ ?_
      · rw [htk]
        (refine Ent_sub (fun i => if i = 100 then 30 else if i = 101 then 49 else i) rfl ?_ ⟨?_, ?_, ?_, keepR hx (by simp [domOf, Ab.get])⟩ <;> first | (intro i hi; have h0 := hx i hi; constructor <;> (revert h0; simp only [domOf, Ab.get]; (repeat' split) <;> simp_all); done) | (simp only [kE, dArr, ↓reduceIte, Nat.reduceEqDiff, reduceCtorEq]; done) | (simp only [dArr, ren_arr, ren_map, List.mem_cons, List.not_mem_nil, or_false, forall_eq_or_imp, forall_eq]; simp [renAV, renC, renAO, ren_up, flat_up, Ab.get, clAV, clC, clCs, clAO, cl_f1, cl_s1, cl_f2, cl_s2, cl_a1, domOf, List.flatten, hob]; done) | simp [renAV, renC, renAO, ren_up, flat_up, Ab.get, clAV, clC, clCs, clAO, cl_f1, cl_s1, cl_f2, cl_s2, cl_a1, domOf, List.flatten, hob])
      (repeat (with_reducible first | refine na ?_ | refine nb ?_ | refine nc ?_ | refine nd ?_ | refine ne ?_ | refine nf ?_ | refine ng ?_ | refine nh ?_ | refine ni ?_ | refine nj ?_ | refine nk ?_ | refine nl ?_ | refine nm (by decide) ?_ | refine nn ?_))
      refine TO_ent (Ent_frzSlot (i := 6) (id := 100) (ys := (ms.take (k + 1)).map eI) rfl rfl (by simp)) ?_
      simp only [Ab.put, Nat.reduceEqDiff, ↓reduceIte, reduceCtorEq, if_false, if_true]
      refine TO_ent (Ent_frzSlot (i := 7) (id := 101) (ys := ((ms.take (k + 1)).map (openB L t)).map eB) rfl rfl (by simp)) ?_
      simp only [Ab.put, Nat.reduceEqDiff, ↓reduceIte, reduceCtorEq, if_false, if_true]
      (repeat (first | (with_reducible first | refine na ?_ | refine nb ?_ | refine nc ?_ | refine nd ?_ | refine ne ?_ | refine nf ?_ | refine ng ?_ | refine nh ?_ | refine ni ?_ | refine nj ?_ | refine nk ?_ | refine nl ?_ | refine nm (by decide) ?_ | refine nn ?_) | refine TO_go (wr := false) 400 (by simp only [kB, kS, kM, k24, Nat.reduceAdd, Nat.reduceLT, Nat.reduceEqDiff, ↓reduceIte, reduceCtorEq]; first | done | rfl) (by first | exact trivial | (simp only [kO]; omega) | (simp [All, InR]; first | done | omega) | (simp +contextual [All, InR]; first | done | grind)) ?_))
      refine RetQ_intro (by simp only [kR, Tryd.results24, ↓reduceIte, Nat.reduceEqDiff, reduceCtorEq]; first | done | rfl) (by first | exact trivial | (simp only [kO]; omega) | (simp [All, InR]; first | done | omega) | (simp +contextual [All, InR]; first | done | grind)) [] ⟨by simp [Ab.get, renAO_id], by simp, by simp [clAO, cl_f1, cl_s1, cl_f2, cl_s2, cl_a1, flat_up, clCs, clC, domOf, Ab.get], keepI hx (by simp [domOf, Ab.get])⟩ (by simp [clAV, clPs, clCs, clC, domOf, Ab.get]) ⟨?_, rfl⟩
      rw [hup]
    · intro hne
      have hne' : ¬ v = s := by simpa using hne
      (repeat (first | (with_reducible first | refine na ?_ | refine nb ?_ | refine nc ?_ | refine nd ?_ | refine ne ?_ | refine nf ?_ | refine ng ?_ | refine nh ?_ | refine ni ?_ | refine nj ?_ | refine nk ?_ | refine nl ?_ | refine nm (by decide) ?_ | refine nn ?_) | refine TO_go (wr := false) 400 (by simp only [kB, kS, kM, k24, Nat.reduceAdd, Nat.reduceLT, Nat.reduceEqDiff, ↓reduceIte, reduceCtorEq]; first | done | rfl) (by first | exact trivial | (simp only [kO]; omega) | (simp [All, InR]; first | done | omega) | (simp +contextual [All, InR]; first | done | grind)) ?_))
      refine ⟨k + 1, ⟨by omega, ?_⟩, by omega, ?_⟩
      · rw [htk, List.mem_append]
        rintro (h | h)
        · exact hns h
        · simp at h; exact hne' h.symm
      · rw [htk]
        (refine Ent_sub (fun i => if i = 100 then 30 else if i = 101 then 49 else i) rfl ?_ ⟨?_, ?_, ?_, keepR hx (by simp [domOf, Ab.get])⟩ <;> first | (intro i hi; have h0 := hx i hi; constructor <;> (revert h0; simp only [domOf, Ab.get]; (repeat' split) <;> simp_all); done) | (simp only [kE, dArr, ↓reduceIte, Nat.reduceEqDiff, reduceCtorEq]; done) | (simp only [dArr, ren_arr, ren_map, List.mem_cons, List.not_mem_nil, or_false, forall_eq_or_imp, forall_eq]; simp [renAV, renC, renAO, ren_up, flat_up, Ab.get, clAV, clC, clCs, clAO, cl_f1, cl_s1, cl_f2, cl_s2, cl_a1, domOf, List.flatten, hob]; done) | simp [renAV, renC, renAO, ren_up, flat_up, Ab.get, clAV, clC, clCs, clAO, cl_f1, cl_s1, cl_f2, cl_s2, cl_a1, domOf, List.flatten, hob])
  · intro hge
    have hge' : k = ms.length := by have : ¬ k < ms.length := by simpa using hge
                                    omega
    (repeat (with_reducible first | refine na ?_ | refine nb ?_ | refine nc ?_ | refine nd ?_ | refine ne ?_ | refine nf ?_ | refine ng ?_ | refine nh ?_ | refine ni ?_ | refine nj ?_ | refine nk ?_ | refine nl ?_ | refine nm (by decide) ?_ | refine nn ?_))
    refine TO_ent (Ent_frzSlot (i := 6) (id := 100) (ys := (ms.take k).map eI) rfl rfl (by simp)) ?_
    simp only [Ab.put, Nat.reduceEqDiff, ↓reduceIte, reduceCtorEq, if_false, if_true]
    refine TO_ent (Ent_frzSlot (i := 7) (id := 101) (ys := ((ms.take k).map (openB L t)).map eB) rfl rfl (by simp)) ?_
    simp only [Ab.put, Nat.reduceEqDiff, ↓reduceIte, reduceCtorEq, if_false, if_true]
    (repeat (first | (with_reducible first | refine na ?_ | refine nb ?_ | refine nc ?_ | refine nd ?_ | refine ne ?_ | refine nf ?_ | refine ng ?_ | refine nh ?_ | refine ni ?_ | refine nj ?_ | refine nk ?_ | refine nl ?_ | refine nm (by decide) ?_ | refine nn ?_) | refine TO_go (wr := false) 400 (by simp only [kB, kS, kM, k24, Nat.reduceAdd, Nat.reduceLT, Nat.reduceEqDiff, ↓reduceIte, reduceCtorEq]; first | done | rfl) (by first | exact trivial | (simp only [kO]; omega) | (simp [All, InR]; first | done | omega) | (simp +contextual [All, InR]; first | done | grind)) ?_))
    refine RetQ_intro (by simp only [kR, Tryd.results24, ↓reduceIte, Nat.reduceEqDiff, reduceCtorEq]; first | done | rfl) (by first | exact trivial | (simp only [kO]; omega) | (simp [All, InR]; first | done | omega) | (simp +contextual [All, InR]; first | done | grind)) [] ⟨by simp [Ab.get, renAO_id], by simp, by simp [clAO, cl_f1, cl_s1, cl_f2, cl_s2, cl_a1, flat_up, clCs, clC, domOf, Ab.get], keepI hx (by simp [domOf, Ab.get])⟩ (by simp [clAV, clPs, clCs, clC, domOf, Ab.get]) ⟨?_, rfl⟩
    rw [hge', List.take_length] at hns ⊢
    rw [upto_miss hns]
end Go.Proofs.YtmlhfnodnnbbnaaDoor
