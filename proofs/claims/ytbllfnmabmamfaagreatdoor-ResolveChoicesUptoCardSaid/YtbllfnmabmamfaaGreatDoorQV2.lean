/- The choices that a task allows, as the program finds them. -/
import Derived.Test.YtbllfnmabmamfaaGreatDoorQV1
import Derived.Test.YtbllfnmabmamfaaGreatDoorQU12
import Derived.Test.YtbllfnmabmamfaaGreatDoorQU13
set_option linter.all false

namespace Go.Proofs.YtbllfnmabmamfaaGreatDoor
open Go.Ab Tys
theorem mEnt_split {κ ν : Type} {ke : κ → Bool × List D} {ve : ν → Bool × List D} {l : List (κ × ν)} {a : List EntD} {e : EntD} {b : List EntD} (h : mEnt ke ve l = a ++ e :: b) : ∃ x k y, l = x ++ k :: y ∧ a = mEnt ke ve x ∧ e = (ke k.1, ve k.2) ∧ b = mEnt ke ve y := by
  obtain ⟨x, r, rfl, rfl, h2⟩ := List.map_eq_append_iff.1 h
  obtain ⟨k, y, rfl, rfl, rfl⟩ := List.map_eq_cons_iff.1 h2
  exact ⟨x, k, y, rfl, rfl, rfl, rfl⟩
theorem way_keys (k : Int) : (wayL k).map (·.1) = chL k := by
  unfold wayL chL
  split
  · rfl
  · split <;> rfl
theorem chL_sorted (k : Int) : (chL k).Pairwise fun x y => x ≤ y := by
  unfold chL
  split
  · simp
  · split <;> simp
theorem chL_ne (k : Int) : chL k ≠ [] := by
  unfold chL
  split
  · simp
  · split <;> simp
def k16 := And.intro @Tryz.ntmps16 <| And.intro @Tryz.underlying59 <| And.intro @bld102 <| And.intro @bld107 <| And.intro @bld30 <| And.intro @bld39 <| And.intro @elt59 <| And.intro @fld39_0 <| And.intro @kyt3 <| And.intro @mpt109 <| And.intro @ti102 <| And.intro @ti107 <| And.intro @ti109 <| And.intro @ti3 <| And.intro @ti30 <| And.intro @ti39 <| @ti59
set_option maxRecDepth 100000 in
set_option maxHeartbeats 8000000 in
theorem Choices_ac (d : Dep) (hg : Good d.revs) (hN : d.revs.length ≤ 512) (hn : NumOK d) (t : Tsk) (ht : t.to.size ≤ 1500) (hm : t.move.size ≤ 1500) :
    AC Tryz.prog 16 [aDep d, aTsk t] [] (fun r st => r = (if fitsB d t then .tup [(false, [.d (.ps 1 ((chL t.kind).map encN))]), pI 0] else .tup [nilP, pI 170]) ∧ st = []) := by
  have hO := open_ac d hg hN hn t ht hm
  have hW := ways_ac t.kind
  refine AC_enter Tryz.func16 rfl rfl (by simp only [Tryz.ntmps16, List.length]; omega) ?_
  intro x hx
  simp only [List.range, List.range.loop, List.length, List.zip, List.zipWith, Nat.reduceAdd, Tryz.ntmps16]
  (repeat (first | (with_reducible first | refine na ?_ | refine nb ?_ | refine nc ?_ | refine nd ?_ | refine ne ?_ | refine nf ?_ | refine ng ?_ | refine nh ?_ | refine ni ?_ | refine nj ?_ | refine nk ?_ | refine nl ?_ | refine nm (by decide) ?_ | refine nn ?_) | refine TO_go (wr := false) 400 (by simp only [kB, kS, kM, k16, Nat.reduceAdd, Nat.reduceLT, Nat.reduceEqDiff, ↓reduceIte, reduceCtorEq]; first | done | rfl) (by first | exact trivial | (simp only [kO]; omega) | (simp [All, InR]; first | done | omega) | (simp +contextual [All, InR]; first | done | grind)) ?_))
  refine TO_call [] (by simp) (by simp only [kV, ↓reduceIte, Nat.reduceEqDiff, reduceCtorEq]; first | done | rfl) ⟨by simp, by simp, by simp [clAV, clC, clCs, clCaps, clCap]⟩ (hO) ?_
  rintro r st' ⟨⟨rfl, hf⟩ | rfl, rfl⟩ <;> (refine ⟨by simp [Fresh], ?_⟩; simp only [kP, Nat.reduceEqDiff, ↓reduceIte, reduceCtorEq])
  · (repeat (first | (with_reducible first | refine na ?_ | refine nb ?_ | refine nc ?_ | refine nd ?_ | refine ne ?_ | refine nf ?_ | refine ng ?_ | refine nh ?_ | refine ni ?_ | refine nj ?_ | refine nk ?_ | refine nl ?_ | refine nm (by decide) ?_ | refine nn ?_) | refine TO_go (wr := false) 400 (by simp only [kB, kS, kM, k16, Nat.reduceAdd, Nat.reduceLT, Nat.reduceEqDiff, ↓reduceIte, reduceCtorEq]; first | done | rfl) (by first | exact trivial | (simp only [kO]; omega) | (simp [All, InR]; first | done | omega) | (simp +contextual [All, InR]; first | done | grind)) ?_))
    refine T_cond (by simp only [kV, ↓reduceIte, Nat.reduceEqDiff, reduceCtorEq]; first | done | rfl) ?_ ?_
    rotate_left
    · intro h; cases h
    intro _
    (repeat (first | (with_reducible first | refine na ?_ | refine nb ?_ | refine nc ?_ | refine nd ?_ | refine ne ?_ | refine nf ?_ | refine ng ?_ | refine nh ?_ | refine ni ?_ | refine nj ?_ | refine nk ?_ | refine nl ?_ | refine nm (by decide) ?_ | refine nn ?_) | refine TO_go (wr := false) 400 (by simp only [kB, kS, kM, k16, Nat.reduceAdd, Nat.reduceLT, Nat.reduceEqDiff, ↓reduceIte, reduceCtorEq]; first | done | rfl) (by first | exact trivial | (simp only [kO]; omega) | (simp [All, InR]; first | done | omega) | (simp +contextual [All, InR]; first | done | grind)) ?_))
    refine RetQ_intro (by simp only [kR, Tryz.results16, ↓reduceIte, Nat.reduceEqDiff, reduceCtorEq]; first | done | rfl) (by first | exact trivial | (simp only [kO]; omega) | (simp [All, InR]; first | done | omega) | (simp +contextual [All, InR]; first | done | grind)) [] ⟨by simp [Ab.get, renAO_id], by simp, by simp [clAO, cl_f1, cl_s1, cl_f2, cl_s2, cl_a1, flat_up, clCs, clC, domOf, Ab.get], keepI hx (by simp [domOf, Ab.get])⟩ (by simp [clAV, clPs, clCs, clC, domOf, Ab.get]) ⟨?_, rfl⟩
    rw [hf]; rfl
  cases hf : fitsB d t with
  | false =>
    (repeat (first | (with_reducible first | refine na ?_ | refine nb ?_ | refine nc ?_ | refine nd ?_ | refine ne ?_ | refine nf ?_ | refine ng ?_ | refine nh ?_ | refine ni ?_ | refine nj ?_ | refine nk ?_ | refine nl ?_ | refine nm (by decide) ?_ | refine nn ?_) | refine TO_go (wr := false) 400 (by simp only [kB, kS, kM, k16, Nat.reduceAdd, Nat.reduceLT, Nat.reduceEqDiff, ↓reduceIte, reduceCtorEq]; first | done | rfl) (by first | exact trivial | (simp only [kO]; omega) | (simp [All, InR]; first | done | omega) | (simp +contextual [All, InR]; first | done | grind)) ?_))
    refine T_cond (by simp only [kV, ↓reduceIte, Nat.reduceEqDiff, reduceCtorEq]; first | done | rfl) ?_ ?_
    rotate_left
    · intro h; cases h
    intro _
    (repeat (first | (with_reducible first | refine na ?_ | refine nb ?_ | refine nc ?_ | refine nd ?_ | refine ne ?_ | refine nf ?_ | refine ng ?_ | refine nh ?_ | refine ni ?_ | refine nj ?_ | refine nk ?_ | refine nl ?_ | refine nm (by decide) ?_ | refine nn ?_) | refine TO_go (wr := false) 400 (by simp only [kB, kS, kM, k16, Nat.reduceAdd, Nat.reduceLT, Nat.reduceEqDiff, ↓reduceIte, reduceCtorEq]; first | done | rfl) (by first | exact trivial | (simp only [kO]; omega) | (simp [All, InR]; first | done | omega) | (simp +contextual [All, InR]; first | done | grind)) ?_))
    refine RetQ_intro (by simp only [kR, Tryz.results16, ↓reduceIte, Nat.reduceEqDiff, reduceCtorEq]; first | done | rfl) (by first | exact trivial | (simp only [kO]; omega) | (simp [All, InR]; first | done | omega) | (simp +contextual [All, InR]; first | done | grind)) [] ⟨by simp [Ab.get, renAO_id], by simp, by simp [clAO, cl_f1, cl_s1, cl_f2, cl_s2, cl_a1, flat_up, clCs, clC, domOf, Ab.get], keepI hx (by simp [domOf, Ab.get])⟩ (by simp [clAV, clPs, clCs, clC, domOf, Ab.get]) ⟨?_, rfl⟩
    rfl
  | true =>
  (repeat (first | (with_reducible first | refine na ?_ | refine nb ?_ | refine nc ?_ | refine nd ?_ | refine ne ?_ | refine nf ?_ | refine ng ?_ | refine nh ?_ | refine ni ?_ | refine nj ?_ | refine nk ?_ | refine nl ?_ | refine nm (by decide) ?_ | refine nn ?_) | refine TO_go (wr := false) 400 (by simp only [kB, kS, kM, k16, Nat.reduceAdd, Nat.reduceLT, Nat.reduceEqDiff, ↓reduceIte, reduceCtorEq]; first | done | rfl) (by first | exact trivial | (simp only [kO]; omega) | (simp [All, InR]; first | done | omega) | (simp +contextual [All, InR]; first | done | grind)) ?_))
  refine T_cond (by simp only [kV, ↓reduceIte, Nat.reduceEqDiff, reduceCtorEq]; first | done | rfl) ?_ ?_
  · intro h; cases h
  intro _
  (repeat (first | (with_reducible first | refine na ?_ | refine nb ?_ | refine nc ?_ | refine nd ?_ | refine ne ?_ | refine nf ?_ | refine ng ?_ | refine nh ?_ | refine ni ?_ | refine nj ?_ | refine nk ?_ | refine nl ?_ | refine nm (by decide) ?_ | refine nn ?_) | refine TO_go (wr := false) 400 (by simp only [kB, kS, kM, k16, Nat.reduceAdd, Nat.reduceLT, Nat.reduceEqDiff, ↓reduceIte, reduceCtorEq]; first | done | rfl) (by first | exact trivial | (simp only [kO]; omega) | (simp [All, InR]; first | done | omega) | (simp +contextual [All, InR]; first | done | grind)) ?_ | (refine TO_call [] (by simp) (by simp only [kV, ↓reduceIte, Nat.reduceEqDiff, reduceCtorEq]; first | done | rfl) ⟨by simp, by simp, by simp [clAV, clC, clCs, clCaps, clCap]⟩ (hW) ?_; (rintro r st' ⟨rfl, rfl⟩; refine ⟨by simp [Fresh], ?_⟩; simp only [kP, Nat.reduceEqDiff, ↓reduceIte, reduceCtorEq]))))
  refine T_ent (Ent_adopt (i := 8) (id := 100) (sz := 1) rfl rfl (by omega)) ?_
  simp only [Ab.put, Nat.reduceEqDiff, ↓reduceIte, reduceCtorEq, if_false, if_true]
  refine T_loop (ι := Option EntD × List (Int × (Int × Int × Nat)) × List Int) (I := fun i => ⟨33, [(8, .c (.ms 100 1 0 i.2.2.length)), (21, .c (.ptr 21 0))], [(21, .iter i.1 (mEnt kN vW i.2.1)), (100, dArr 1 (i.2.2.map encN))]⟩)
    (Inv := fun i => (i.2.2 ++ i.2.1.map (·.1)).Perm (chL t.kind)) (μ := fun i => i.2.1.length) (none, wayL t.kind, []) (by simp [way_keys]) ?_ ?_
  · (refine Ent_sub (fun i => i) rfl ?_ ⟨?_, ?_, ?_, keepI hx (by simp [domOf, Ab.get])⟩ <;> first | (simp only [kE, dArr, ↓reduceIte, Nat.reduceEqDiff, reduceCtorEq]; done) | simp [renAV_id, renAO_id, flat_up, Ab.get, clAV, clC, clCs, clAO, cl_f1, cl_s1, cl_f2, cl_s2, cl_a1, domOf, List.flatten])
  rintro ⟨cur, rest, m⟩ h
  simp only at h ⊢
  have hlen := h.length_eq
  have hc4 := chL_len t.kind
  simp only [List.length_append, List.length_map] at hlen
  (repeat (with_reducible first | refine na ?_ | refine nb ?_ | refine nc ?_ | refine nd ?_ | refine ne ?_ | refine nf ?_ | refine ng ?_ | refine nh ?_ | refine ni ?_ | refine nj ?_ | refine nk ?_ | refine nl ?_ | refine nm (by decide) ?_ | refine nn ?_))
  refine TO_next (id := 21) (by simp) (by simp only [kV, ↓reduceIte, Nat.reduceEqDiff, reduceCtorEq]; first | done | rfl) rfl ?_ ?_
  · intro h0
    simp only [Ab.put, Nat.reduceEqDiff, ↓reduceIte, reduceCtorEq, if_false, if_true]
    (repeat (first | (with_reducible first | refine na ?_ | refine nb ?_ | refine nc ?_ | refine nd ?_ | refine ne ?_ | refine nf ?_ | refine ng ?_ | refine nh ?_ | refine ni ?_ | refine nj ?_ | refine nk ?_ | refine nl ?_ | refine nm (by decide) ?_ | refine nn ?_) | refine TO_go (wr := false) 400 (by simp only [kB, kS, kM, k16, Nat.reduceAdd, Nat.reduceLT, Nat.reduceEqDiff, ↓reduceIte, reduceCtorEq]; first | done | rfl) (by first | exact trivial | (simp only [kO]; omega) | (simp [All, InR]; first | done | omega) | (simp +contextual [All, InR]; first | done | grind)) ?_))
    refine T_cond (by simp only [kV, ↓reduceIte, Nat.reduceEqDiff, reduceCtorEq]; first | done | rfl) ?_ ?_
    · intro hh; cases hh
    intro _
    have : rest = [] := by simpa [mEnt] using h0
    subst this
    simp only [List.map_nil, List.append_nil] at h
    have hne : m ≠ [] := by
      intro e; subst e
      exact chL_ne t.kind (List.nil_perm.1 h)
    (repeat (with_reducible first | refine na ?_ | refine nb ?_ | refine nc ?_ | refine nd ?_ | refine ne ?_ | refine nf ?_ | refine ng ?_ | refine nh ?_ | refine ni ?_ | refine nj ?_ | refine nk ?_ | refine nl ?_ | refine nm (by decide) ?_ | refine nn ?_))
    refine TO_go (wr := false) 400 (by simp only [kB, kS, kM, k16, Nat.reduceAdd, Nat.reduceLT, Nat.reduceEqDiff, ↓reduceIte, reduceCtorEq]; first | done | rfl) (by first | exact trivial | (simp only [kO]; omega) | (simp [All, InR]; first | done | omega) | (simp +contextual [All, InR]; first | done | grind)) ?_
    refine TO_call ([(100, dArr 1 (m.map encN))]) (by simp) (by simp only [kV, ↓reduceIte, Nat.reduceEqDiff, reduceCtorEq]; first | done | rfl) ⟨by simp [Ab.get], by simp [clAO, cl_f1, cl_s1, cl_f2, cl_s2, cl_a1, flat_up, clCs, clC, domOf, Ab.get], by simp [clAV, clC, clCs, domOf, Ab.get]⟩ (sortI_ac m hne (by omega) 100) ?_
    rintro rv9 st' ⟨rfl, rfl⟩ <;> (refine ⟨by simp [Fresh, domOf, Ab.get], ?_⟩; simp only [kP, Nat.reduceEqDiff, ↓reduceIte, reduceCtorEq, List.cons_append, List.nil_append])
    rw [sort_perm h (chL_sorted t.kind)]
    refine TO_ent (Ent_frzSlot (i := 8) (id := 100) (ys := (chL t.kind).map encN) rfl rfl (by rw [List.length_map]; exact h.length_eq)) ?_
    simp only [Ab.put, Nat.reduceEqDiff, ↓reduceIte, reduceCtorEq, if_false, if_true]
    (repeat (first | (with_reducible first | refine na ?_ | refine nb ?_ | refine nc ?_ | refine nd ?_ | refine ne ?_ | refine nf ?_ | refine ng ?_ | refine nh ?_ | refine ni ?_ | refine nj ?_ | refine nk ?_ | refine nl ?_ | refine nm (by decide) ?_ | refine nn ?_) | refine TO_go (wr := false) 400 (by simp only [kB, kS, kM, k16, Nat.reduceAdd, Nat.reduceLT, Nat.reduceEqDiff, ↓reduceIte, reduceCtorEq]; first | done | rfl) (by first | exact trivial | (simp only [kO]; omega) | (simp [All, InR]; first | done | omega) | (simp +contextual [All, InR]; first | done | grind)) ?_))
    refine RetQ_intro (by simp only [kR, Tryz.results16, ↓reduceIte, Nat.reduceEqDiff, reduceCtorEq]; first | done | rfl) (by first | exact trivial | (simp only [kO]; omega) | (simp [All, InR]; first | done | omega) | (simp +contextual [All, InR]; first | done | grind)) [] ⟨by simp [Ab.get, renAO_id], by simp, by simp [clAO, cl_f1, cl_s1, cl_f2, cl_s2, cl_a1, flat_up, clCs, clC, domOf, Ab.get], keepI hx (by simp [domOf, Ab.get])⟩ (by simp [clAV, clPs, clCs, clC, domOf, Ab.get]) ⟨?_, rfl⟩
    rfl
  intro l1 e l2 hsp
  obtain ⟨xs, k, y, rfl, rfl, rfl, rfl⟩ := mEnt_split hsp
  simp only [Ab.put, Nat.reduceEqDiff, ↓reduceIte, reduceCtorEq, if_false, if_true]
  (repeat (first | (with_reducible first | refine na ?_ | refine nb ?_ | refine nc ?_ | refine nd ?_ | refine ne ?_ | refine nf ?_ | refine ng ?_ | refine nh ?_ | refine ni ?_ | refine nj ?_ | refine nk ?_ | refine nl ?_ | refine nm (by decide) ?_ | refine nn ?_) | refine TO_go (wr := false) 400 (by simp only [kB, kS, kM, k16, Nat.reduceAdd, Nat.reduceLT, Nat.reduceEqDiff, ↓reduceIte, reduceCtorEq, upD]; first | done | rfl) (by first | exact trivial | (simp only [kO]; omega) | (simp [All, InR]; first | done | omega) | (simp +contextual [All, InR]; first | done | grind)) ?_))
  refine T_cond (by simp only [kV, ↓reduceIte, Nat.reduceEqDiff, reduceCtorEq]; first | done | rfl) ?_ ?_
  rotate_left
  · intro hh; cases hh
  intro _
  (repeat (first | (with_reducible first | refine na ?_ | refine nb ?_ | refine nc ?_ | refine nd ?_ | refine ne ?_ | refine nf ?_ | refine ng ?_ | refine nh ?_ | refine ni ?_ | refine nj ?_ | refine nk ?_ | refine nl ?_ | refine nm (by decide) ?_ | refine nn ?_) | refine TO_go (wr := false) 400 (by simp only [kB, kS, kM, k16, Nat.reduceAdd, Nat.reduceLT, Nat.reduceEqDiff, ↓reduceIte, reduceCtorEq, upD]; first | done | rfl) (by first | exact trivial | (simp only [kO]; omega) | (simp [All, InR]; first | done | omega) | (simp +contextual [All, InR]; first | done | grind)) ?_))
  refine ⟨(some (kN k.1, vW k.2), xs ++ y, m ++ [k.1]), ?_, by simp, ?_⟩
  · refine List.Perm.trans ?_ h
    simp only [List.map_append, List.map_cons, List.append_assoc, List.cons_append, List.nil_append]
    exact List.Perm.append_left _ (List.perm_middle.symm)
  · (refine Ent_sub (fun i => if i = 100 then 29 else i) rfl ?_ ⟨?_, ?_, ?_, keepR hx (by simp [domOf, Ab.get])⟩ <;> first | (intro i hi; have h0 := hx i hi; constructor <;> (revert h0; simp only [domOf, Ab.get]; (repeat' split) <;> simp_all); done) | (simp only [kE, dArr, ↓reduceIte, Nat.reduceEqDiff, reduceCtorEq]; done) | (simp only [dArr, ren_arr, ren_map, List.mem_cons, List.not_mem_nil, or_false, forall_eq_or_imp, forall_eq]; simp [renAV, renC, renAO, ren_up, flat_up, Ab.get, clAV, clC, clCs, clAO, cl_f1, cl_s1, cl_f2, cl_s2, cl_a1, domOf, List.flatten]; done) | simp [renAV, renC, renAO, ren_up, flat_up, Ab.get, clAV, clC, clCs, clAO, cl_f1, cl_s1, cl_f2, cl_s2, cl_a1, domOf, List.flatten])
end Go.Proofs.YtbllfnmabmamfaaGreatDoor
