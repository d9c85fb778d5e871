/- A part of the proof. -/
import Derived.Test.YtmhboloicpieeaaGreatDoorRPD
import Derived.Test.YtmhboloicpieeaaGreatDoorRU1
import Derived.Test.YtmhboloicpieeaaGreatDoorRT2
import Derived.Test.YtmhboloicpieeaaGreatDoorRT7
import Derived.Test.YtmhboloicpieeaaGreatDoorRU11
import Derived.Test.YtmhboloicpieeaaGreatDoorRU14
set_option linter.all false
namespace Go.Proofs.YtmhboloicpieeaaGreatDoor
open Go.Ab Tys
variable [Dr]
end Go.Proofs.YtmhboloicpieeaaGreatDoor
namespace Go.Proofs.YtmhboloicpieeaaGreatDoor
open Go.Ab Tys
variable [Dr]
@[reducible] def pFils (l : List Fil) : Bool × List C := (false, [.d (.ps 2 (l.map encFil))])
noncomputable def remA (d : Dep) (s t : Fil) : AV := .tup [pFils ((remS d s t).getD []), pI (if (remS d s t).isSome then 0 else 150)]
theorem remA_none {d : Dep} {s t : Fil} (h : remS d s t = none) : .tup [pFils [], pI 150] = remA d s t := by simp [remA, h]
theorem remA_some {d : Dep} {s t : Fil} {l : List Fil} (h : remS d s t = some l) : .tup [pFils l, pI 0] = remA d s t := by simp [remA, h]
end Go.Proofs.YtmhboloicpieeaaGreatDoor
namespace Go.Proofs.YtmhboloicpieeaaGreatDoor
open Go.Ab Tys
variable [Dr]
@[reducible] def rB : ByteArray := { data := #[47, 47, 109, 47, 102] }
@[reducible] def rD : ByteArray := { data := #[47, 47, 100, 47, 102] }
@[reducible] def rw1 : Rev := ⟨rB, 1, 1, 1, 1, false, false, false, 0, 0, ByteArray.empty, 0⟩
@[reducible] def e0 : Dep := ⟨[rw1], []⟩
@[reducible] def t0 : Tsk := ⟨1, rB, 1, rB, 1, 1, rD, 0, noS, 0, noS⟩
@[reducible] def w0 : Rsn := ⟨0, false, false, false, 0, 0, false⟩
theorem e0_cases {i : Nat} {v : Rev} (h : e0.revs[i]? = some v) : i = 0 ∧ v = rw1 := by
  rcases i with _ | i
  · simp at h; exact ⟨rfl, h.symm⟩
  · simp at h
theorem good_e0 : Good e0.revs := by
  constructor
  · intro i v h; obtain ⟨rfl, rfl⟩ := e0_cases h; simp
  · intro i v h; obtain ⟨rfl, rfl⟩ := e0_cases h; simp
  · intro i j u v hij hu hv; obtain ⟨rfl, rfl⟩ := e0_cases hu; obtain ⟨rfl, rfl⟩ := e0_cases hv; omega
  · intro i j u v hij hu hv; obtain ⟨rfl, rfl⟩ := e0_cases hu; obtain ⟨rfl, rfl⟩ := e0_cases hv; omega
  · intro i v h h1 h4; obtain ⟨rfl, rfl⟩ := e0_cases h; exact absurd rfl h1
  · intro i v h h4; obtain ⟨rfl, rfl⟩ := e0_cases h; exact absurd h4 (by decide)
  · intro i v h h4; obtain ⟨rfl, rfl⟩ := e0_cases h; exact absurd h4 (by decide)
  · intro i j u v hij hu hv u4; obtain ⟨rfl, rfl⟩ := e0_cases hu; exact absurd u4 (by decide)
theorem num_e0 : NumOK e0 := by
  intro v hv
  simp only [e0, List.mem_singleton] at hv
  subst hv
  decide
theorem use_rD : usableB rD = true := by kernel_rfl
theorem fits_e0 : Fits e0 t0 := by
  refine ⟨by decide, by decide, by decide, ?_, use_rD, by decide, by decide⟩
  intro n h1 h2
  have : n = 1 := by simp only [t0] at h1 h2; omega
  subst this
  decide
theorem res_e0 : resA e0 t0 2 w0 = .tup [(false, [.d (.ps 12 ([⟨rD, 1, 1, false, false, false, 0, 0, 0, noS, 0, 0⟩].map encEdt))]), (false, [.d (.ps 6 [encRcd ⟨rB, 1, 1, rD, 1, 1⟩])]), pI 0] := by
  rw [resA_ok (by simp [fitsB, fits_e0]) (by decide) (by decide)]
  have h1 : resEs e0 t0 2 w0 = [⟨rD, 1, 1, false, false, false, 0, 0, 0, noS, 0, 0⟩] := by decide
  have h2 : resRc e0 t0 2 w0 = ⟨rB, 1, 1, rD, 1, 1⟩ := by decide
  rw [h1, h2]
def k9 := And.intro @Tryz.ntmps9 <| And.intro @Tryz.underlying28 <| And.intro @Tryz.underlying50 <| And.intro @bld30 <| And.intro @bld37 <| And.intro @bld39 <| And.intro @bld41 <| And.intro @bld46 <| And.intro @bld54 <| And.intro @bld56 <| And.intro @bld76 <| And.intro @elt27 <| And.intro @elt28 <| And.intro @elt50 <| And.intro @fld30_0 <| And.intro @fld37_0 <| And.intro @fld37_1 <| And.intro @fld39_0 <| And.intro @fld39_1 <| And.intro @fld39_2 <| And.intro @fld39_3 <| And.intro @fld39_4 <| And.intro @fld39_5 <| And.intro @fld41_0 <| And.intro @fld46_0 <| And.intro @fld46_1 <| And.intro @fld46_2 <| And.intro @fld46_3 <| And.intro @fld46_4 <| And.intro @fld56_1 <| And.intro @fld76_5 <| And.intro @ti27 <| And.intro @ti28 <| And.intro @ti3 <| And.intro @ti30 <| And.intro @ti37 <| And.intro @ti39 <| And.intro @ti41 <| And.intro @ti46 <| And.intro @ti50 <| And.intro @ti54 <| And.intro @ti56 <| And.intro @ti76 <| @ti9
theorem v9U15 {G G' : Prop} (g : G') (h : Hid G' → G := by intro h9; (first | refine nvB ?_ | refine goA (wr := false) (by simp only [kB, kG, kS, k9, Nat.reduceAdd, Nat.reduceLT, Nat.reduceEqDiff, ↓reduceIte, reduceCtorEq]; first | done | rfl) ?_); (repeat (first | refine nvB ?_ | refine goA (wr := false) (by simp only [kB, kG, kS, k9, Nat.reduceAdd, Nat.reduceLT, Nat.reduceEqDiff, ↓reduceIte, reduceCtorEq]; first | done | rfl) ?_)); exact h9.out) : G := h ⟨g⟩
set_option maxRecDepth 100000 in
set_option maxHeartbeats 8000000 in
theorem awake17_ac : AC Tryz.prog 9 [] [] (fun r st => r = B true ∧ st = []) := by
  have hR := Resolve_ac e0 good_e0 (by decide) num_e0 t0 (by decide) (by decide) 2 w0
  rw [res_e0] at hR
  refine AC_enter Tryz.func9 rfl rfl (by simp only [Tryz.ntmps9, List.length]; omega) ?_
  intro x hx
  simp only [List.range, List.range.loop, List.length, List.zip, List.zipWith, Nat.reduceAdd, Tryz.ntmps9]
  refine nvA ?_
  refine goA (wr := false) (by simp only [kB, kG, kS, k9, Nat.reduceAdd, Nat.reduceLT, Nat.reduceEqDiff, ↓reduceIte, reduceCtorEq]; first | done | rfl) ?_
  refine nvA ?_
  refine goA (wr := false) (by simp only [kB, kG, kS, k9, Nat.reduceAdd, Nat.reduceLT, Nat.reduceEqDiff, ↓reduceIte, reduceCtorEq]; first | done | rfl) ?_
  refine nvA ?_
  refine TO_go (wr := false) 2 (by simp only [kB, kG, kS, k9, Nat.reduceAdd, Nat.reduceLT, Nat.reduceEqDiff, ↓reduceIte, reduceCtorEq]; first | done | rfl) ?_ ?_
  · exact obN
  refine TO_ent (Ent_frzSlot (i := 10) (id := 10) (ys := e0.revs.map encRev) rfl rfl rfl) ?_
  refine fzA ?_
  refine goA (wr := false) (by simp only [kB, kG, kS, k9, Nat.reduceAdd, Nat.reduceLT, Nat.reduceEqDiff, ↓reduceIte, reduceCtorEq]; first | done | rfl) ?_
  refine nvA ?_
  refine TO_ent (Ent_nilCell (bid := 2) (j := 1) 6 rfl rfl) ?_
  refine fzA ?_
  refine goA (wr := false) (by simp only [kB, kG, kS, k9, Nat.reduceAdd, Nat.reduceLT, Nat.reduceEqDiff, ↓reduceIte, reduceCtorEq]; first | done | rfl) ?_
  refine nvA ?_
  (repeat (first | refine v9U15 ?_ | (refine caA [] (hR) ?_; rintro r st' ⟨rfl, rfl⟩; refine frA ?_)))
  refine TO_go (wr := false) 400 (by simp only [kB, kG, kS, k9, Nat.reduceAdd, Nat.reduceLT, Nat.reduceEqDiff, ↓reduceIte, reduceCtorEq, Int.toNat_zero, encEdt, encRcd, cond_true, show ((1 : Nat) : Int) = 1 from rfl]; first | done | rfl) ?_ ?_
  · simp [All, InR, obls, conj, strip]
  try refine v9U15 ?_
  refine rtA (by simp only [kR, Tryz.results9, ↓reduceIte, Nat.reduceEqDiff, reduceCtorEq]; first | done | rfl) ([]) ?_
  refine ⟨?_, rfl⟩
  rfl
end Go.Proofs.YtmhboloicpieeaaGreatDoor
