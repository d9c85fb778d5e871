/- A part of the proof: contracts of functions of the program over abstract states. -/
import Derived.Test.YtmlhfnodnnbbnaaDoorQH5
set_option linter.all false
namespace Go.Proofs.YtmlhfnodnnbbnaaDoor
open Go.Ab Tys
theorem sinkF_len : ∀ (k : Nat) (l : List Rcd), (sinkF k l).length = l.length
  | 0, l => rfl
  | k + 1, l => by
    simp only [sinkF]
    split
    · rw [sinkF_len k]; simp
    · rfl
theorem sinkF_mem {P : Rcd → Prop} : ∀ (k : Nat) (l : List Rcd), k < l.length → (∀ r ∈ l, P r) → ∀ r ∈ sinkF k l, P r
  | 0, l, _, h => h
  | k + 1, l, hk, h => by
    simp only [sinkF]
    split
    · refine sinkF_mem k _ (by simp; omega) (swap_mem ?_ ?_ h)
      · rw [List.getD_eq_getElem?_getD, List.getElem?_eq_getElem hk]; simp
      · rw [List.getD_eq_getElem?_getD, List.getElem?_eq_getElem (by omega : k < l.length)]; simp
    · exact h
theorem sortN_len (l : List Rcd) : ∀ k, (sortN l k).length = l.length
  | 0 => rfl
  | k + 1 => by rw [sortN, sinkF_len, sortN_len l k]
theorem sortN_mem {P : Rcd → Prop} {l : List Rcd} (h : ∀ r ∈ l, P r) : ∀ k, k ≤ l.length → ∀ r ∈ sortN l k, P r
  | 0, _ => h
  | k + 1, hk => sinkF_mem k _ (by rw [sortN_len]; omega) (sortN_mem h k (by omega))
theorem sortR_len (l : List Rcd) : (sortR l).length = l.length := sortN_len l _
theorem sortR_mem {P : Rcd → Prop} {l : List Rcd} (h : ∀ r ∈ l, P r) : ∀ r ∈ sortR l, P r := sortN_mem h _ (Nat.le_refl _)
def appD (d : Dep) (c : Chg) : Dep := ⟨d.revs ++ c.edits.map (made c), sortR (d.recs ++ c.recs)⟩
theorem cl_two (sz : Nat) (a b : List (List D)) : clAO (fun _ => false) (.arr sz (a.map (fun l => l.map C.d) ++ b.map (fun l => l.map C.d))) := by
  simp only [clAO]
  rw [List.flatten_append, clCs_append, flat_up, flat_up, clCs_d, clCs_d]
  exact ⟨trivial, trivial⟩
theorem up6 (m : List Rcd) : ∀ l ∈ (m.map encRcd).map (fun l => l.map C.d), l.length = 6 := by simp
@[reducible] def nilC : C := .d (.v (.slice none 0 0))
def k17 := And.intro @Tryd.ntmps17 <| And.intro @Tryd.underlying27 <| And.intro @Tryd.underlying28 <| And.intro @Tryd.underlying55 <| And.intro @bld30 <| And.intro @bld50 <| And.intro @bld54 <| And.intro @bld59 <| And.intro @bld69 <| And.intro @elt27 <| And.intro @elt28 <| And.intro @elt55 <| And.intro @fld30_0 <| And.intro @fld30_1 <| And.intro @fld59_3 <| And.intro @fld59_4 <| And.intro @ti27 <| And.intro @ti28 <| And.intro @ti30 <| And.intro @ti50 <| And.intro @ti54 <| And.intro @ti55 <| And.intro @ti59 <| @ti69
set_option maxRecDepth 100000 in
set_option maxHeartbeats 16000000 in
theorem append_ac (d : Dep) (c : Chg) (hd : d.revs.length ≤ 100000) (hd2 : d.recs.length ≤ 100000) (hdr : ∀ r ∈ d.recs, rOK r) (hc : ∀ e ∈ c.edits, eOK e) (hr : ∀ r ∈ c.recs, rOK r) (hl : c.edits.length ≤ 100000) (hl2 : c.recs.length ≤ 100000) :
    AC Tryd.prog 17 [aDep d, aChg c] [] (fun r st => ((r = .tup [(true, (encDep (appD d c)).map C.d), pI 0] ∧ ChkOK d c) ∨ ∃ e : Int, ¬ e = 0 ∧ r = .tup [(true, [nilC, nilC]), pI e]) ∧ st = []) := by
  refine AC_enter Tryd.func17 rfl rfl (by simp only [Tryd.ntmps17, List.length]; omega) ?_
  intro x hx
  simp only [List.range, List.range.loop, List.length, List.zip, List.zipWith, Nat.reduceAdd, Tryd.ntmps17]
  (repeat (first | (with_reducible first | refine na ?_ | refine nb ?_ | refine nc ?_ | refine nd ?_ | refine ne ?_ | refine nf ?_ | refine ng ?_ | refine nh ?_ | refine ni ?_ | refine nj ?_ | refine nk ?_ | refine nl ?_ | refine nm (by decide) ?_ | refine nn ?_) | refine TO_go (wr := false) 400 (by simp only [kB, kS, k17, Nat.reduceAdd, Nat.reduceLT, Nat.reduceEqDiff, ↓reduceIte, reduceCtorEq]; first | done | rfl) (by first | exact trivial | (simp only [kO]; omega) | (simp [All, InR]; first | done | omega) | (simp +contextual [All, InR]; first | done | grind)) ?_))
  refine TO_call [] (by simp) (by simp only [kV, ↓reduceIte, Nat.reduceEqDiff, reduceCtorEq]; first | done | rfl) ⟨by simp, by simp, by simp [clAV, clC, clCs, clCaps, clCap]⟩ (check_ac d c (by omega) (by omega) hc hr (by omega) (by omega)) ?_
  rintro r st' ⟨⟨e, rfl, he⟩, rfl⟩ <;> (refine ⟨by simp [Fresh], ?_⟩; simp only [kP, Nat.reduceEqDiff, ↓reduceIte, reduceCtorEq])
  (repeat (first | (with_reducible first | refine na ?_ | refine nb ?_ | refine nc ?_ | refine nd ?_ | refine ne ?_ | refine nf ?_ | refine ng ?_ | refine nh ?_ | refine ni ?_ | refine nj ?_ | refine nk ?_ | refine nl ?_ | refine nm (by decide) ?_ | refine nn ?_) | refine TO_go (wr := false) 400 (by simp only [kB, kS, k17, Nat.reduceAdd, Nat.reduceLT, Nat.reduceEqDiff, ↓reduceIte, reduceCtorEq]; first | done | rfl) (by first | exact trivial | (simp only [kO]; omega) | (simp [All, InR]; first | done | omega) | (simp +contextual [All, InR]; first | done | grind)) ?_))
  refine T_cond (by simp only [kV, ↓reduceIte, Nat.reduceEqDiff, reduceCtorEq]; first | done | rfl) ?_ ?_
  · intro hne
    have hne' : ¬ e = 0 := by simpa using hne
    (repeat (first | (with_reducible first | refine na ?_ | refine nb ?_ | refine nc ?_ | refine nd ?_ | refine ne ?_ | refine nf ?_ | refine ng ?_ | refine nh ?_ | refine ni ?_ | refine nj ?_ | refine nk ?_ | refine nl ?_ | refine nm (by decide) ?_ | refine nn ?_) | refine TO_go (wr := false) 400 (by simp only [kB, kS, k17, Nat.reduceAdd, Nat.reduceLT, Nat.reduceEqDiff, ↓reduceIte, reduceCtorEq]; first | done | rfl) (by first | exact trivial | (simp only [kO]; omega) | (simp [All, InR]; first | done | omega) | (simp +contextual [All, InR]; first | done | grind)) ?_))
    refine RetQ_intro (by simp only [kR, Tryd.results17, ↓reduceIte, Nat.reduceEqDiff, reduceCtorEq, effLoad, cellsOf, List.map, List.length_cons, List.length_nil, List.getD_cons_zero, List.getD_cons_succ, List.getD_nil, List.drop, List.take, splice, ti30]; first | done | rfl) (by first | exact trivial | (simp only [kO]; omega) | (simp [All, InR]; first | done | omega) | (simp +contextual [All, InR]; first | done | grind)) [] ⟨by simp [Ab.get, renAO_id], by simp, by simp [clAO, cl_f1, cl_s1, cl_f2, cl_s2, cl_a1, flat_up, clCs, clC, domOf, Ab.get], keepI hx (by simp [domOf, Ab.get])⟩ (by simp [clAV, clPs, clCs, clC, domOf, Ab.get]) ⟨?_, rfl⟩
    exact .inr ⟨e, hne', rfl⟩
  intro heq
  have heq' : e = 0 := by simpa using heq
  have hok := he heq'
  (repeat (first | (with_reducible first | refine na ?_ | refine nb ?_ | refine nc ?_ | refine nd ?_ | refine ne ?_ | refine nf ?_ | refine ng ?_ | refine nh ?_ | refine ni ?_ | refine nj ?_ | refine nk ?_ | refine nl ?_ | refine nm (by decide) ?_ | refine nn ?_) | refine TO_go (wr := false) 400 (by simp only [kB, kS, k17, Nat.reduceAdd, Nat.reduceLT, Nat.reduceEqDiff, ↓reduceIte, reduceCtorEq]; first | done | rfl) (by first | exact trivial | (simp only [kO]; omega) | (simp [All, InR]; first | done | omega) | (simp +contextual [All, InR]; first | done | grind)) ?_))
  refine T_loop (ι := Nat) (I := fun k => ⟨50, [(2, .c (.ptr 2 0)), (3, .c (.ptr 3 0)), (4, .c (.ptr 4 0)), (7, .c (.ptr 7 0)), (24, .c (.d (.ps 12 (c.edits.map encEdt)))), (25, I .i64 c.edits.length), (26, I .i64 k)],
      [(2, .box ((encDep d).map C.d)), (3, .box ((encChg c).map C.d)), (4, .box [nilC, nilC]), (7, .box [.ms 100 12 0 (d.revs.length + (c.edits.take k).length), nilC]), (100, dArr 12 ((d.revs ++ (c.edits.take k).map (made c)).map encRev))]⟩)
    (Inv := fun k => k ≤ c.edits.length) (μ := fun k => c.edits.length - k) 0 (by omega) ?_ ?_
  · (refine Ent_sub (fun i => if i = 100 then 21 else i) rfl ?_ ⟨?_, ?_, ?_, keepR hx (by simp [domOf, Ab.get])⟩ <;> first | (intro i hi; have h0 := hx i hi; constructor <;> (revert h0; simp only [domOf, Ab.get]; (repeat' split) <;> simp_all); done) | (simp only [kE, dArr, ↓reduceIte, Nat.reduceEqDiff, reduceCtorEq]; done) | (simp only [dArr, ren_arr, ren_map, List.mem_cons, List.not_mem_nil, or_false, forall_eq_or_imp, forall_eq]; simp [renAV, renC, renAO, ren_up, flat_up, Ab.get, clAV, clC, clCs, clAO, cl_f1, cl_s1, cl_f2, cl_s2, cl_a1, domOf, List.flatten]; done) | simp [renAV, renC, renAO, ren_up, flat_up, Ab.get, clAV, clC, clCs, clAO, cl_f1, cl_s1, cl_f2, cl_s2, cl_a1, domOf, List.flatten])
  intro k hk
  have hkl : (c.edits.take k).length = k := by simp; omega
  (repeat (first | (with_reducible first | refine na ?_ | refine nb ?_ | refine nc ?_ | refine nd ?_ | refine ne ?_ | refine nf ?_ | refine ng ?_ | refine nh ?_ | refine ni ?_ | refine nj ?_ | refine nk ?_ | refine nl ?_ | refine nm (by decide) ?_ | refine nn ?_) | refine TO_go (wr := false) 400 (by simp only [kB, kS, k17, Nat.reduceAdd, Nat.reduceLT, Nat.reduceEqDiff, ↓reduceIte, reduceCtorEq]; first | done | rfl) (by first | exact trivial | (simp only [kO]; omega) | (simp [All, InR]; first | done | omega) | (simp +contextual [All, InR]; first | done | grind)) ?_))
  refine T_cond (by simp only [kV, ↓reduceIte, Nat.reduceEqDiff, reduceCtorEq]; first | done | rfl) ?_ ?_
  · intro hlt
    have hlt' : k < c.edits.length := by simpa using hlt
    obtain ⟨y, hy, he, htk⟩ := round encEdt c.edits k zEdt hlt'
    (repeat (first | (with_reducible first | refine na ?_ | refine nb ?_ | refine nc ?_ | refine nd ?_ | refine ne ?_ | refine nf ?_ | refine ng ?_ | refine nh ?_ | refine ni ?_ | refine nj ?_ | refine nk ?_ | refine nl ?_ | refine nm (by decide) ?_ | refine nn ?_) | refine TO_go (wr := false) 400 (by simp only [kB, kS, k17, Nat.reduceAdd, Nat.reduceLT, Nat.reduceEqDiff, ↓reduceIte, reduceCtorEq, he]; first | done | rfl) (by first | exact trivial | (simp only [kO]; omega) | (simp [All, InR]; first | done | omega) | (simp +contextual [All, InR]; first | done | grind)) ?_))
    refine T_draw (wr := false) ([(34, aRev (made c y))] : List (Nat × AV)) (by kernel_rfl) (by simp only [kD, kB, kS, k17, Nat.reduceAdd, Nat.reduceLT, Nat.reduceEqDiff, ↓reduceIte, reduceCtorEq]; first | done | rfl) ?_ (by kernel_rfl) ?_
    · simp only [All, List.cons_append, List.nil_append, InR, List.mem_cons, List.not_mem_nil, or_false, forall_eq_or_imp, forall_eq, clAV, clCs, clC, clCaps, clCap, and_true, true_and, implies_true, List.length_map, List.length_cons, List.length_nil, dArr, cl_arr, tyCs]
      repeat' (first | exact trivial | exact made_ac c y | refine And.intro ?_ ?_ | intro _ | assumption | rfl | omega | (rw [Bool.not_eq_true']; assumption) | (simp; done) | (simp only [decide_eq_true_eq] at *; omega) | (simp_all; done))
    (repeat (first | (with_reducible first | refine na ?_ | refine nb ?_ | refine nc ?_ | refine nd ?_ | refine ne ?_ | refine nf ?_ | refine ng ?_ | refine nh ?_ | refine ni ?_ | refine nj ?_ | refine nk ?_ | refine nl ?_ | refine nm (by decide) ?_ | refine nn ?_) | refine TO_go (wr := false) 400 (by simp only [kB, kS, k17, Nat.reduceAdd, Nat.reduceLT, Nat.reduceEqDiff, ↓reduceIte, reduceCtorEq]; first | done | rfl) (by first | exact trivial | (simp only [kO]; omega) | (simp [All, InR]; first | done | omega) | (simp +contextual [All, InR]; first | done | grind)) ?_))
    refine ⟨k + 1, by omega, by omega, ?_⟩
    have harr : (d.revs ++ (c.edits.take (k + 1)).map (made c)).map encRev = (d.revs ++ (c.edits.take k).map (made c)).map encRev ++ [encRev (made c y)] := by simp [htk]
    have hlen : (c.edits.take (k + 1)).length = (c.edits.take k).length + 1 := by simp [htk]
    rw [harr, hlen]
    (refine Ent_sub (fun i => if i = 100 then 36 else i) rfl ?_ ⟨?_, ?_, ?_, keepR hx (by simp [domOf, Ab.get])⟩ <;> first | (intro i hi; have h0 := hx i hi; constructor <;> (revert h0; simp only [domOf, Ab.get]; (repeat' split) <;> simp_all); done) | (simp only [kE, dArr, ↓reduceIte, Nat.reduceEqDiff, reduceCtorEq]; done) | (simp only [dArr, ren_arr, ren_map, List.mem_cons, List.not_mem_nil, or_false, forall_eq_or_imp, forall_eq]; simp [renAV, renC, renAO, ren_up, flat_up, Ab.get, clAV, clC, clCs, clAO, cl_f1, cl_s1, cl_f2, cl_s2, cl_a1, domOf, List.flatten, Nat.add_assoc]; done) | simp [renAV, renC, renAO, ren_up, flat_up, Ab.get, clAV, clC, clCs, clAO, cl_f1, cl_s1, cl_f2, cl_s2, cl_a1, domOf, List.flatten, Nat.add_assoc])
  intro hge
  have hge' : k = c.edits.length := by have : ¬ k < c.edits.length := by simpa using hge
                                       omega
  have hs := sorted_ac (d.recs ++ c.recs) (by simp; omega) (fun r h => by rcases List.mem_append.1 h with h | h; exact hdr r h; exact hr r h)
  simp only [dArr, List.map_append, List.length_append] at hs
  (repeat (with_reducible first | refine na ?_ | refine nb ?_ | refine nc ?_ | refine nd ?_ | refine ne ?_ | refine nf ?_ | refine ng ?_ | refine nh ?_ | refine ni ?_ | refine nj ?_ | refine nk ?_ | refine nl ?_ | refine nm (by decide) ?_ | refine nn ?_))
  refine T_draw (wr := false) ([(47, .c (.d (.ps 6 ((sortR (d.recs ++ c.recs)).map encRcd))))] : List (Nat × AV)) (by kernel_rfl) (by simp only [kD, kB, kS, k17, Nat.reduceAdd, Nat.reduceLT, Nat.reduceEqDiff, ↓reduceIte, reduceCtorEq]; first | done | rfl) ?_ (by kernel_rfl) ?_
  · simp only [All, List.cons_append, List.nil_append, InR, List.mem_cons, List.not_mem_nil, or_false, forall_eq_or_imp, forall_eq, clAV, clCs, clC, clCaps, clCap, and_true, true_and, implies_true, List.length_map, List.length_cons, List.length_nil, dArr, cl_arr, tyCs]
    repeat' (first | exact trivial | exact hs | exact cl_two _ _ _ | exact up6 _ | refine And.intro ?_ ?_ | intro _ | assumption | rfl | omega | (rw [Bool.not_eq_true']; assumption) | (simp; done) | (simp only [decide_eq_true_eq] at *; omega) | (simp_all; done))
  (repeat (with_reducible first | refine na ?_ | refine nb ?_ | refine nc ?_ | refine nd ?_ | refine ne ?_ | refine nf ?_ | refine ng ?_ | refine nh ?_ | refine ni ?_ | refine nj ?_ | refine nk ?_ | refine nl ?_ | refine nm (by decide) ?_ | refine nn ?_))
  refine TO_ent (Ent_frzCell (bid := 7) (id := 100) (sz := 12) (j := 0) (ys := (d.revs ++ (c.edits.take k).map (made c)).map encRev) (by decide) rfl rfl rfl (by simp <;> omega)) ?_
  simp only [Ab.put, Nat.reduceEqDiff, ↓reduceIte, reduceCtorEq, if_false, if_true]
  (repeat (first | (with_reducible first | refine na ?_ | refine nb ?_ | refine nc ?_ | refine nd ?_ | refine ne ?_ | refine nf ?_ | refine ng ?_ | refine nh ?_ | refine ni ?_ | refine nj ?_ | refine nk ?_ | refine nl ?_ | refine nm (by decide) ?_ | refine nn ?_) | refine TO_go (wr := false) 400 (by simp only [kB, kS, k17, Nat.reduceAdd, Nat.reduceLT, Nat.reduceEqDiff, ↓reduceIte, reduceCtorEq]; first | done | rfl) (by first | exact trivial | (simp only [kO]; omega) | (simp [All, InR]; first | done | omega) | (simp +contextual [All, InR]; first | done | grind)) ?_))
  refine RetQ_intro (by simp only [kR, Tryd.results17, ↓reduceIte, Nat.reduceEqDiff, reduceCtorEq, effLoad, cellsOf, List.map, List.length_cons, List.length_nil, List.getD_cons_zero, List.getD_cons_succ, List.getD_nil, List.drop, List.take, splice, ti30]; first | done | rfl) (by first | exact trivial | (simp only [kO]; omega) | (simp [All, InR]; first | done | omega) | (simp +contextual [All, InR]; first | done | grind)) [] ⟨by simp [Ab.get, renAO_id], by simp, by simp [clAO, cl_f1, cl_s1, cl_f2, cl_s2, cl_a1, flat_up, clCs, clC, domOf, Ab.get], keepI hx (by simp [domOf, Ab.get])⟩ (by simp [clAV, clPs, clCs, clC, domOf, Ab.get]) ⟨?_, rfl⟩
  refine .inl ⟨?_, hok⟩
  rw [hge', List.take_length]; rfl
end Go.Proofs.YtmlhfnodnnbbnaaDoor
