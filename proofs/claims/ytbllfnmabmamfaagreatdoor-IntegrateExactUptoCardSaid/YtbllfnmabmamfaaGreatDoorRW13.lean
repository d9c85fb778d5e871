/- A part of the proof. -/
import Derived.Test.YtbllfnmabmamfaaGreatDoorRBd2
import Derived.Test.YtbllfnmabmamfaaGreatDoorRW7
import Derived.Test.YtbllfnmabmamfaaGreatDoorRW10
set_option linter.all false
namespace Go.Proofs.YtbllfnmabmamfaaGreatDoor
open Go.Ab Tys
theorem carried_ac (d : Dep) (hg : Good d.revs) (hN : d.revs.length ≤ 512) (hm : d.recs.length ≤ 512) (hS : SrcOK d) (M : List (Fil × Rev)) (N : List (ByteArray × List Int)) (R : List (Fil × List Rcd)) (hL : CredOK d M N R) (i : Nat) : CarC d M N R i := by
  induction i using Nat.strongRecOn with
  | _ i ih => exact carried_step d hg hN hm hS M N R hL i ih
theorem contrib_ac (d : Dep) (hg : Good d.revs) (hN : d.revs.length ≤ 512) (hm : d.recs.length ≤ 512) (hS : SrcOK d) (M : List (Fil × Rev)) (N : List (ByteArray × List Int)) (R : List (Fil × List Rcd)) (hL : CredOK d M N R) (i : Nat) : ConC d M N R i :=
  contribution_ac d hg hN M N R hL i fun j _ => carried_ac d hg hN hm hS M N R hL j
theorem nodup_len : ∀ {l m : List Fil}, l.Nodup → (∀ g ∈ l, g ∈ m) → l.length ≤ m.length
  | [], _, _, _ => Nat.zero_le _
  | a :: l, m, h, hs => by
    obtain ⟨h1, h2⟩ := List.nodup_cons.1 h
    have ha := hs a (by simp)
    have ih := nodup_len (l := l) (m := m.erase a) h2 fun g hg => (List.mem_erase_of_ne (by rintro rfl; exact h1 hg)).2 (hs g (by simp [hg]))
    rw [List.length_erase_of_mem ha] at ih
    have := List.length_pos_of_mem ha
    simp only [List.length_cons]; omega
def ListC (d : Dep) : Prop := ∀ l : List Fil, l.Nodup → (∀ g ∈ l, ∃ u ∈ d.revs, fileOf u = g) → AC Tryz.prog 93 [.c (.d (.pm (sEnt kF l)))] [] (fun r st => (∃ l', l'.Perm l ∧ r = aFils l') ∧ st = [])
@[reducible] def pFilsC (l : List Fil) : Bool × List C := (false, [.d (.ps 2 (l.map encFil))])
def k48 := And.intro @Tryz.ntmps48 <| And.intro @bld180 <| And.intro @bld30 <| And.intro @bld37 <| And.intro @bld46 <| And.intro @fld180_0 <| And.intro @fld37_0 <| And.intro @fld37_1 <| And.intro @kyt37 <| And.intro @mpt116 <| And.intro @ti116 <| And.intro @ti180 <| And.intro @ti3 <| And.intro @ti30 <| And.intro @ti37 <| And.intro @ti46 <| @ti9
theorem v48W13 {G G' : Prop} (g : G') (h : Hid G' → G := by intro h9; (first | refine nvB ?_ | refine goA (wr := false) (by simp only [kB, kS, kM, kFn, k48, Nat.reduceAdd, Nat.reduceLT, Nat.reduceEqDiff, ↓reduceIte, reduceCtorEq]; first | done | rfl) ?_); (repeat (first | refine nvB ?_ | refine goA (wr := false) (by simp only [kB, kS, kM, kFn, k48, Nat.reduceAdd, Nat.reduceLT, Nat.reduceEqDiff, ↓reduceIte, reduceCtorEq]; first | done | rfl) ?_)); exact h9.out) : G := h ⟨g⟩
set_option maxRecDepth 100000 in
set_option maxHeartbeats 8000000 in
theorem compute_ac (d : Dep) (hg : Good d.revs) (hN : d.revs.length ≤ 512) (hm : d.recs.length ≤ 512) (hL : ListC d) (i : Nat) (v : Rev) (hv : d.revs[i]? = some v) (h5 : ¬ v.act = 5) (mf : Nat) (S : Fil → Prop) (hS : ∀ g, S g → ∃ u ∈ d.revs, fileOf u = g)
    (hC : ∀ M N R, CredOK d M N R → AC Tryz.prog mf [.c (.ptr 1200 0), aFil (fileOf v)] (credSt M N R [] [] []) (fun x st => ∃ (l : List Fil) (c r k : CM), IsS l S ∧ x = .c (.d (.pm (sEnt kF l))) ∧ st = credSt M N R c r k)) :
    AC Tryz.prog 48 [aDep d, Str v.path, I .i64 v.num, .c (.d (.v (.func (.func mf) #[] #[])))] [] (fun x st => (∃ l, (∀ g, g ∈ l ↔ S g) ∧ l.length ≤ 512 ∧ x = .tup [pFilsC l, pI 0]) ∧ st = []) := by
  have hk : alook (memL d.revs) ⟨v.path, v.num⟩ = some v := alook_memL_get hg hv h5
  refine AC_enter Tryz.func48 rfl rfl (by simp only [Tryz.ntmps48, List.length]; omega) ?_
  intro x hx
  simp only [List.range, List.range.loop, List.length, List.zip, List.zipWith, Nat.reduceAdd, Tryz.ntmps48]
  try refine v48W13 ?_
  refine caA ([]) (newLedgerC_ac d hg hN hm) ?_
  rintro rv9 st' ⟨M, N, R, hM, rfl, rfl⟩ <;> refine frA ?_
  have hkM : alook M ⟨v.path, v.num⟩ = some v := by rw [hM.M]; exact hk
  try refine v48W13 ?_
  refine drA (wr := false) ([] : List (Nat × AV)) (by simp only [kD, kB, kS, kM, kFn, k48, Nat.reduceAdd, Nat.reduceLT, Nat.reduceEqDiff, ↓reduceIte, reduceCtorEq, lookRv, hkM, Option.map_some, Option.getD, Option.isSome]; first | done | rfl) ?_ ?_
  · exact obF tyRv
  try refine v48W13 ?_
  refine ifA ?_ ?_
  · intro h; cases h
  intro _
  try refine v48W13 ?_
  refine TO_callv (credSt M N R [] [] []) (by simp) (by simp only [kV, ↓reduceIte, Nat.reduceEqDiff, reduceCtorEq]; first | done | rfl) (by simp only [kFn, List.map]; first | done | rfl) (by simp only [kV, ↓reduceIte, Nat.reduceEqDiff, reduceCtorEq]; first | done | rfl) ⟨by simp [Ab.get], by simp [clAO, cl_f1, cl_s1, cl_f2, cl_s2, cl_a1, flat_up, clPs, clCs, clC, domOf, Ab.get], by simp [clAV, clC, clCs, domOf, Ab.get]⟩ (hC M N R hM) ?_
  rintro rv9 st' ⟨l, c, r, k, hl, rfl, rfl⟩
  refine ⟨by simp [Fresh, domOf, Ab.get], ?_⟩
  simp only [kP, Nat.reduceEqDiff, ↓reduceIte, reduceCtorEq, List.cons_append, List.nil_append]
  refine caA [] (hL l hl.nodup (fun g hg' => hS g ((hl.mem g).1 hg'))) ?_
  rintro r st' ⟨⟨l', hp, rfl⟩, rfl⟩ <;> refine frA ?_
  try refine v48W13 ?_
  refine rtA (by simp only [kR, Tryz.results48, ↓reduceIte, Nat.reduceEqDiff, reduceCtorEq]; first | done | rfl) ([]) ?_
  refine ⟨?_, rfl⟩
  refine ⟨l', fun g => by rw [hp.mem_iff, hl.mem], ?_, rfl⟩
  rw [hp.length_eq]
  have := nodup_len (m := d.revs.map fileOf) hl.nodup (fun g hg' => by
    obtain ⟨u, h1, h2⟩ := hS g ((hl.mem g).1 hg')
    exact List.mem_map.2 ⟨u, h1, h2⟩)
  rw [List.length_map] at this; omega
def k20 := And.intro @Tryz.ntmps20 <| And.intro @bld30 <| @ti30
theorem v20W13 {G G' : Prop} (g : G') (h : Hid G' → G := by intro h9; (first | refine nvB ?_ | refine goA (wr := false) (by simp only [kB, k20, Nat.reduceAdd, Nat.reduceLT, Nat.reduceEqDiff, ↓reduceIte, reduceCtorEq]; first | done | rfl) ?_); (repeat (first | refine nvB ?_ | refine goA (wr := false) (by simp only [kB, k20, Nat.reduceAdd, Nat.reduceLT, Nat.reduceEqDiff, ↓reduceIte, reduceCtorEq]; first | done | rfl) ?_)); exact h9.out) : G := h ⟨g⟩
set_option maxRecDepth 100000 in
set_option maxHeartbeats 4000000 in
theorem Carried_ac (d : Dep) (hg : Good d.revs) (hN : d.revs.length ≤ 512) (hm : d.recs.length ≤ 512) (hS : SrcOK d) (hL : ListC d) (hF : ∀ f g, (SA d f).car g → ∃ u ∈ d.revs, fileOf u = g) (i : Nat) (v : Rev) (hv : d.revs[i]? = some v) (h5 : ¬ v.act = 5) :
    AC Tryz.prog 20 [aDep d, Str v.path, I .i64 v.num] [] (fun x st => (∃ l, (∀ g, g ∈ l ↔ (SA d (fileOf v)).car g) ∧ l.length ≤ 512 ∧ x = .tup [pFilsC l, pI 0]) ∧ st = []) := by
  have hC := compute_ac d hg hN hm hL i v hv h5 49 (SA d (fileOf v)).car (hF _) (fun M N R hM => (carried_ac d hg hN hm hS M N R hM i v hv h5 noB [] [] [] (fun f h => h.elim) ⟨by simp [alook]⟩ ⟨by simp [alook]⟩).mono fun x st ⟨l, c, k, h1, _, _, h4, h6⟩ => ⟨l, c, [], k, h1, h4, h6⟩)
  refine AC_enter Tryz.func20 rfl rfl (by simp only [Tryz.ntmps20, List.length]; omega) ?_
  intro x hx
  simp only [List.range, List.range.loop, List.length, List.zip, List.zipWith, Nat.reduceAdd, Tryz.ntmps20]
  try refine v20W13 ?_
  refine caA [] (hC) ?_
  rintro r st' ⟨⟨l, h1, h2, rfl⟩, rfl⟩ <;> refine frA ?_
  try refine v20W13 ?_
  refine rtA (by simp only [kR, Tryz.results20, ↓reduceIte, Nat.reduceEqDiff, reduceCtorEq]; first | done | rfl) ([]) ?_
  refine ⟨?_, rfl⟩
  exact ⟨l, h1, h2, rfl⟩
def k22 := And.intro @Tryz.ntmps22 <| And.intro @bld30 <| @ti30
theorem v22W13 {G G' : Prop} (g : G') (h : Hid G' → G := by intro h9; (first | refine nvB ?_ | refine goA (wr := false) (by simp only [kB, k22, Nat.reduceAdd, Nat.reduceLT, Nat.reduceEqDiff, ↓reduceIte, reduceCtorEq]; first | done | rfl) ?_); (repeat (first | refine nvB ?_ | refine goA (wr := false) (by simp only [kB, k22, Nat.reduceAdd, Nat.reduceLT, Nat.reduceEqDiff, ↓reduceIte, reduceCtorEq]; first | done | rfl) ?_)); exact h9.out) : G := h ⟨g⟩
set_option maxRecDepth 100000 in
set_option maxHeartbeats 4000000 in
theorem Contribution_ac (d : Dep) (hg : Good d.revs) (hN : d.revs.length ≤ 512) (hm : d.recs.length ≤ 512) (hS : SrcOK d) (hL : ListC d) (hF : ∀ f g, (SA d f).con g → ∃ u ∈ d.revs, fileOf u = g) (i : Nat) (v : Rev) (hv : d.revs[i]? = some v) (h5 : ¬ v.act = 5) :
    AC Tryz.prog 22 [aDep d, Str v.path, I .i64 v.num] [] (fun x st => (∃ l, (∀ g, g ∈ l ↔ (SA d (fileOf v)).con g) ∧ l.length ≤ 512 ∧ x = .tup [pFilsC l, pI 0]) ∧ st = []) := by
  have hC := compute_ac d hg hN hm hL i v hv h5 51 (SA d (fileOf v)).con (hF _) (fun M N R hM => (contrib_ac d hg hN hm hS M N R hM i v hv h5 noB [] [] [] (fun f h => h.elim) ⟨by simp [alook]⟩ ⟨by simp [alook]⟩).mono fun x st ⟨l, c, k, h1, _, _, h4, h6⟩ => ⟨l, c, [], k, h1, h4, h6⟩)
  refine AC_enter Tryz.func22 rfl rfl (by simp only [Tryz.ntmps22, List.length]; omega) ?_
  intro x hx
  simp only [List.range, List.range.loop, List.length, List.zip, List.zipWith, Nat.reduceAdd, Tryz.ntmps22]
  try refine v22W13 ?_
  refine caA [] (hC) ?_
  rintro r st' ⟨⟨l, h1, h2, rfl⟩, rfl⟩ <;> refine frA ?_
  try refine v22W13 ?_
  refine rtA (by simp only [kR, Tryz.results22, ↓reduceIte, Nat.reduceEqDiff, reduceCtorEq]; first | done | rfl) ([]) ?_
  refine ⟨?_, rfl⟩
  exact ⟨l, h1, h2, rfl⟩
end Go.Proofs.YtbllfnmabmamfaaGreatDoor
