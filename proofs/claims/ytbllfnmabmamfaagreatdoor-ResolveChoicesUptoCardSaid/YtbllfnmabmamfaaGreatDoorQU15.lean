/- A part of the proof: contracts of functions of the program over abstract states. -/
import Derived.Test.YtbllfnmabmamfaaGreatDoorQU14
set_option linter.all false
namespace Go.Proofs.YtbllfnmabmamfaaGreatDoor
open Go.Ab Tys
@[reducible] def rB : ByteArray := { data := #[47, 47, 109, 47, 102] }
@[reducible] def rD : ByteArray := { data := #[47, 47, 100, 47, 102] }
@[reducible] def rw1 : Rev := ⟨rB, 1, 1, 1, 1, false, false, false, 0, 0, ByteArray.empty, 0⟩
@[reducible] def e0 : Dep := ⟨[rw1], []⟩
@[reducible] def t0 : Tsk := ⟨1, rB, 1, rB, 1, 1, rD, 0, noS, 0, noS⟩
@[reducible] def w0 : Rsn := ⟨0, false, false, false, 0, 0, false⟩
theorem e0_cases {i : Nat} {v : Rev} (h : e0.revs[i]? = some v) : i = 0 ∧ v = rw1 := by
  rcases i with _ | i
  · simp at h; exact ⟨rfl, h.symm⟩
  · simp at h
theorem good_e0 : Good e0.revs := by
  constructor
  · intro i v h; obtain ⟨rfl, rfl⟩ := e0_cases h; simp
  · intro i v h; obtain ⟨rfl, rfl⟩ := e0_cases h; simp
  · intro i j u v hij hu hv; obtain ⟨rfl, rfl⟩ := e0_cases hu; obtain ⟨rfl, rfl⟩ := e0_cases hv; omega
  · intro i j u v hij hu hv; obtain ⟨rfl, rfl⟩ := e0_cases hu; obtain ⟨rfl, rfl⟩ := e0_cases hv; omega
  · intro i v h h1 h4; obtain ⟨rfl, rfl⟩ := e0_cases h; exact absurd rfl h1
  · intro i v h h4; obtain ⟨rfl, rfl⟩ := e0_cases h; exact absurd h4 (by decide)
  · intro i v h h4; obtain ⟨rfl, rfl⟩ := e0_cases h; exact absurd h4 (by decide)
  · intro i j u v hij hu hv u4; obtain ⟨rfl, rfl⟩ := e0_cases hu; exact absurd u4 (by decide)
theorem num_e0 : NumOK e0 := by
  intro v hv
  simp only [e0, List.mem_singleton] at hv
  subst hv
  decide
theorem use_rD : usableB rD = true := by kernel_rfl
theorem fits_e0 : Fits e0 t0 := by
  refine ⟨by decide, by decide, by decide, ?_, use_rD, by decide, by decide⟩
  intro n h1 h2
  have : n = 1 := by simp only [t0] at h1 h2; omega
  subst this
  decide
theorem res_e0 : resA e0 t0 2 w0 = .tup [(false, [.d (.ps 12 ([⟨rD, 1, 1, false, false, false, 0, 0, 0, noS, 0, 0⟩].map encEdt))]), (false, [.d (.ps 6 [encRcd ⟨rB, 1, 1, rD, 1, 1⟩])]), pI 0] := by
  rw [resA_ok (by simp [fitsB, fits_e0]) (by decide) (by decide)]
  have h1 : resEs e0 t0 2 w0 = [⟨rD, 1, 1, false, false, false, 0, 0, 0, noS, 0, 0⟩] := by decide
  have h2 : resRc e0 t0 2 w0 = ⟨rB, 1, 1, rD, 1, 1⟩ := by decide
  rw [h1, h2]
def k9 := And.intro @Tryz.ntmps9 <| And.intro @Tryz.underlying28 <| And.intro @Tryz.underlying50 <| And.intro @bld30 <| And.intro @bld37 <| And.intro @bld39 <| And.intro @bld41 <| And.intro @bld46 <| And.intro @bld54 <| And.intro @bld56 <| And.intro @bld76 <| And.intro @elt27 <| And.intro @elt28 <| And.intro @elt50 <| And.intro @fld30_0 <| And.intro @fld37_0 <| And.intro @fld37_1 <| And.intro @fld39_0 <| And.intro @fld39_1 <| And.intro @fld39_2 <| And.intro @fld39_3 <| And.intro @fld39_4 <| And.intro @fld39_5 <| And.intro @fld41_0 <| And.intro @fld46_0 <| And.intro @fld46_1 <| And.intro @fld46_2 <| And.intro @fld46_3 <| And.intro @fld46_4 <| And.intro @fld56_1 <| And.intro @fld76_5 <| And.intro @ti27 <| And.intro @ti28 <| And.intro @ti3 <| And.intro @ti30 <| And.intro @ti37 <| And.intro @ti39 <| And.intro @ti41 <| And.intro @ti46 <| And.intro @ti50 <| And.intro @ti54 <| And.intro @ti56 <| And.intro @ti76 <| @ti9
set_option maxRecDepth 100000 in
set_option maxHeartbeats 8000000 in
theorem awake17_ac : AC Tryz.prog 9 [] [] (fun r st => r = B true ∧ st = []) := by
  have hR := Resolve_ac e0 good_e0 (by decide) num_e0 t0 (by decide) (by decide) 2 w0
  rw [res_e0] at hR
  refine AC_enter Tryz.func9 rfl rfl (by simp only [Tryz.ntmps9, List.length]; omega) ?_
  intro x hx
  simp only [List.range, List.range.loop, List.length, List.zip, List.zipWith, Nat.reduceAdd, Tryz.ntmps9]
  (repeat (with_reducible first | refine na ?_ | refine nb ?_ | refine nc ?_ | refine nd ?_ | refine ne ?_ | refine nf ?_ | refine ng ?_ | refine nh ?_ | refine ni ?_ | refine nj ?_ | refine nk ?_ | refine nl ?_ | refine nm (by decide) ?_ | refine nn ?_))
  refine TO_go (wr := false) 400 (by simp only [kB, kG, kS, k9, Nat.reduceAdd, Nat.reduceLT, Nat.reduceEqDiff, ↓reduceIte, reduceCtorEq]; first | done | rfl) (by first | exact trivial | (simp only [kO]; omega) | (simp [All, InR]; first | done | omega) | (simp +contextual [All, InR]; first | done | grind)) ?_
  (repeat (with_reducible first | refine na ?_ | refine nb ?_ | refine nc ?_ | refine nd ?_ | refine ne ?_ | refine nf ?_ | refine ng ?_ | refine nh ?_ | refine ni ?_ | refine nj ?_ | refine nk ?_ | refine nl ?_ | refine nm (by decide) ?_ | refine nn ?_))
  refine TO_go (wr := false) 400 (by simp only [kB, kG, kS, k9, Nat.reduceAdd, Nat.reduceLT, Nat.reduceEqDiff, ↓reduceIte, reduceCtorEq]; first | done | rfl) (by first | exact trivial | (simp only [kO]; omega) | (simp [All, InR]; first | done | omega) | (simp +contextual [All, InR]; first | done | grind)) ?_
  (repeat (with_reducible first | refine na ?_ | refine nb ?_ | refine nc ?_ | refine nd ?_ | refine ne ?_ | refine nf ?_ | refine ng ?_ | refine nh ?_ | refine ni ?_ | refine nj ?_ | refine nk ?_ | refine nl ?_ | refine nm (by decide) ?_ | refine nn ?_))
  refine TO_go (wr := false) 2 (by simp only [kB, kG, kS, k9, Nat.reduceAdd, Nat.reduceLT, Nat.reduceEqDiff, ↓reduceIte, reduceCtorEq]; first | done | rfl) ?_ ?_
  · simp only [All, List.cons_append, List.nil_append, InR, List.mem_cons, List.not_mem_nil, or_false, forall_eq_or_imp, forall_eq, clAV, clCs, clC, clCaps, clCap, and_true, true_and, implies_true, List.length_map, List.length_cons, List.length_nil, dArr, cl_arr, tyCs]
    repeat' (first | exact trivial | refine And.intro ?_ ?_ | intro _ | assumption | rfl | omega | (rw [Bool.not_eq_true']; assumption) | (simp; done) | (simp only [decide_eq_true_eq] at *; omega) | (simp_all; done))
  refine TO_ent (Ent_frzSlot (i := 10) (id := 10) (ys := e0.revs.map encRev) rfl rfl rfl) ?_
  simp only [Ab.put, Nat.reduceEqDiff, ↓reduceIte, reduceCtorEq, if_false, if_true]
  refine TO_go (wr := false) 400 (by simp only [kB, kG, kS, k9, Nat.reduceAdd, Nat.reduceLT, Nat.reduceEqDiff, ↓reduceIte, reduceCtorEq]; first | done | rfl) (by first | exact trivial | (simp only [kO]; omega) | (simp [All, InR]; first | done | omega) | (simp +contextual [All, InR]; first | done | grind)) ?_
  (repeat (with_reducible first | refine na ?_ | refine nb ?_ | refine nc ?_ | refine nd ?_ | refine ne ?_ | refine nf ?_ | refine ng ?_ | refine nh ?_ | refine ni ?_ | refine nj ?_ | refine nk ?_ | refine nl ?_ | refine nm (by decide) ?_ | refine nn ?_))
  refine TO_ent (Ent_nilCell (bid := 2) (j := 1) 6 rfl rfl) ?_
  simp only [Ab.put, Nat.reduceEqDiff, ↓reduceIte, reduceCtorEq, if_false, if_true]
  refine TO_go (wr := false) 400 (by simp only [kB, kG, kS, k9, Nat.reduceAdd, Nat.reduceLT, Nat.reduceEqDiff, ↓reduceIte, reduceCtorEq]; first | done | rfl) (by first | exact trivial | (simp only [kO]; omega) | (simp [All, InR]; first | done | omega) | (simp +contextual [All, InR]; first | done | grind)) ?_
  (repeat (with_reducible first | refine na ?_ | refine nb ?_ | refine nc ?_ | refine nd ?_ | refine ne ?_ | refine nf ?_ | refine ng ?_ | refine nh ?_ | refine ni ?_ | refine nj ?_ | refine nk ?_ | refine nl ?_ | refine nm (by decide) ?_ | refine nn ?_))
  (repeat (first | (with_reducible first | refine na ?_ | refine nb ?_ | refine nc ?_ | refine nd ?_ | refine ne ?_ | refine nf ?_ | refine ng ?_ | refine nh ?_ | refine ni ?_ | refine nj ?_ | refine nk ?_ | refine nl ?_ | refine nm (by decide) ?_ | refine nn ?_) | refine TO_go (wr := false) 400 (by simp only [kB, kG, kS, k9, Nat.reduceAdd, Nat.reduceLT, Nat.reduceEqDiff, ↓reduceIte, reduceCtorEq]; first | done | rfl) (by first | exact trivial | (simp only [kO]; omega) | (simp [All, InR]; first | done | omega) | (simp +contextual [All, InR]; first | done | grind)) ?_ | (refine TO_call [] (by simp) (by simp only [kV, ↓reduceIte, Nat.reduceEqDiff, reduceCtorEq]; first | done | rfl) ⟨by simp, by simp, by simp [clAV, clC, clCs, clCaps, clCap]⟩ (hR) ?_; (rintro r st' ⟨rfl, rfl⟩; refine ⟨by simp [Fresh], ?_⟩; simp only [kP, Nat.reduceEqDiff, ↓reduceIte, reduceCtorEq]))))
  refine TO_go (wr := false) 400 (by simp only [kB, kG, kS, k9, Nat.reduceAdd, Nat.reduceLT, Nat.reduceEqDiff, ↓reduceIte, reduceCtorEq, Int.toNat_zero, encEdt, encRcd, cond_true, show ((1 : Nat) : Int) = 1 from rfl]; first | done | rfl) ?_ ?_
  · simp [All, InR, obls, conj, strip]
  (repeat (first | (with_reducible first | refine na ?_ | refine nb ?_ | refine nc ?_ | refine nd ?_ | refine ne ?_ | refine nf ?_ | refine ng ?_ | refine nh ?_ | refine ni ?_ | refine nj ?_ | refine nk ?_ | refine nl ?_ | refine nm (by decide) ?_ | refine nn ?_) | refine TO_go (wr := false) 400 (by simp only [kB, kG, kS, k9, Nat.reduceAdd, Nat.reduceLT, Nat.reduceEqDiff, ↓reduceIte, reduceCtorEq]; first | done | rfl) (by first | exact trivial | (simp only [kO]; omega) | (simp [All, InR]; first | done | omega) | (simp +contextual [All, InR]; first | done | grind)) ?_))
  refine RetQ_intro (by simp only [kR, Tryz.results9, ↓reduceIte, Nat.reduceEqDiff, reduceCtorEq]; first | done | rfl) (by first | exact trivial | (simp only [kO]; omega) | (simp [All, InR]; first | done | omega) | (simp +contextual [All, InR]; first | done | grind)) [] ⟨by simp [Ab.get, renAO_id], by simp, by simp [clAO, cl_f1, cl_s1, cl_f2, cl_s2, cl_a1, flat_up, clCs, clC, domOf, Ab.get], keepI hx (by simp [domOf, Ab.get])⟩ (by simp [clAV, clPs, clCs, clC, domOf, Ab.get]) ⟨?_, rfl⟩
  rfl
end Go.Proofs.YtbllfnmabmamfaaGreatDoor
