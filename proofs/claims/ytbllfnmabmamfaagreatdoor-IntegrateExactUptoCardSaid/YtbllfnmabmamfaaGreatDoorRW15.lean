/- A part of the proof. -/
import Derived.Test.YtbllfnmabmamfaaGreatDoorRBd2
import Derived.Test.YtbllfnmabmamfaaGreatDoorRW3
import Derived.Test.YtbllfnmabmamfaaGreatDoorRU3
import Derived.Test.YtbllfnmabmamfaaGreatDoorRW12
import Derived.Test.YtbllfnmabmamfaaGreatDoorRAbSt
import Derived.Test.YtbllfnmabmamfaaGreatDoorRW13
import Derived.Test.YtbllfnmabmamfaaGreatDoorRAbSk
import Derived.Ground.SlsfProg
import Derived.Shelf.SlSortCmp.NoneTotal
set_option linter.all false
namespace Go.Proofs.YtbllfnmabmamfaaGreatDoor
open Go.Ab Tys
theorem cbl_val : ∀ l m : List UInt8, Lib.compareBytes l m = -1 ∨ Lib.compareBytes l m = 0 ∨ Lib.compareBytes l m = 1
  | [], [] => by simp [Lib.compareBytes]
  | [], _ :: _ => by simp [Lib.compareBytes]
  | _ :: _, [] => by simp [Lib.compareBytes]
  | a :: l, b :: m => by
    simp only [Lib.compareBytes]
    split
    · simp
    · split
      · simp
      · exact cbl_val l m
theorem cb_val (a b : ByteArray) : cb a b = -1 ∨ cb a b = 0 ∨ cb a b = 1 := cbl_val _ _
def k168 := And.intro @Tryz.ntmps168 <| trivial
theorem v168W11 {G G' : Prop} (g : G') (h : Hid G' → G := by intro h9; (first | refine nvB ?_ | refine goA (wr := false) (by simp only [kB, k168, Nat.reduceAdd, Nat.reduceLT, Nat.reduceEqDiff, ↓reduceIte, reduceCtorEq]; first | done | rfl) ?_); (repeat (first | refine nvB ?_ | refine goA (wr := false) (by simp only [kB, k168, Nat.reduceAdd, Nat.reduceLT, Nat.reduceEqDiff, ↓reduceIte, reduceCtorEq]; first | done | rfl) ?_)); exact h9.out) : G := h ⟨g⟩
set_option maxRecDepth 100000 in
set_option maxHeartbeats 4000000 in
theorem cmpStrNaN_ac (a : ByteArray) : AC Tryz.prog 168 [Str a] [] (fun r st => r = B false ∧ st = []) := by
  refine AC_enter Tryz.func168 rfl rfl (by simp only [Tryz.ntmps168, List.length]; omega) ?_
  intro x hx
  simp only [List.range, List.range.loop, List.length, List.zip, List.zipWith, Nat.reduceAdd, Tryz.ntmps168]
  try refine v168W11 ?_
  refine rtA (by simp only [kR, Tryz.results168, ↓reduceIte, Nat.reduceEqDiff, reduceCtorEq]; first | done | rfl) ([]) ?_
  refine ⟨?_, rfl⟩
  simp
def k134 := And.intro @Tryz.ntmps134 <| trivial
theorem v134W11 {G G' : Prop} (g : G') (h : Hid G' → G := by intro h9; (first | refine nvB ?_ | refine goA (wr := false) (by simp only [kB, k134, Nat.reduceAdd, Nat.reduceLT, Nat.reduceEqDiff, ↓reduceIte, reduceCtorEq]; first | done | rfl) ?_); (repeat (first | refine nvB ?_ | refine goA (wr := false) (by simp only [kB, k134, Nat.reduceAdd, Nat.reduceLT, Nat.reduceEqDiff, ↓reduceIte, reduceCtorEq]; first | done | rfl) ?_)); exact h9.out) : G := h ⟨g⟩
set_option maxRecDepth 100000 in
set_option maxHeartbeats 4000000 in
theorem cmpStr_ac (a b : ByteArray) : AC Tryz.prog 134 [Str a, Str b] [] (fun r st => r = I .i64 (cb a b) ∧ st = []) := by
  refine AC_enter Tryz.func134 rfl rfl (by simp only [Tryz.ntmps134, List.length]; omega) ?_
  intro x hx
  simp only [List.range, List.range.loop, List.length, List.zip, List.zipWith, Nat.reduceAdd, Tryz.ntmps134]
  (repeat (first | refine v134W11 ?_ | (refine caA [] (cmpStrNaN_ac a) ?_; rintro r st' ⟨rfl, rfl⟩; refine frA ?_) | (refine caA [] (cmpStrNaN_ac b) ?_; rintro r st' ⟨rfl, rfl⟩; refine frA ?_)))
  refine ifA ?_ ?_
  · intro h; cases h
  intro _
  try refine v134W11 ?_
  refine ifA ?_ ?_
  · intro h; cases h
  intro _
  try refine v134W11 ?_
  refine TO_strop (by simp) (by simp only [kV, ↓reduceIte, Nat.reduceEqDiff, reduceCtorEq]; first | done | rfl) (by simp only [kV, ↓reduceIte, Nat.reduceEqDiff, reduceCtorEq]; first | done | rfl) (.inl ⟨rfl, rfl⟩) ?_
  refine fzA ?_
  try refine v134W11 ?_
  refine ifA ?_ ?_
  · intro h
    have h : cb a b < 0 := of_decide_eq_true h
    try refine v134W11 ?_
    refine rtA (by simp only [kR, Tryz.results134, ↓reduceIte, Nat.reduceEqDiff, reduceCtorEq]; first | done | rfl) ([]) ?_
    refine ⟨?_, rfl⟩
    rcases cb_val a b with e | e | e <;> simp [e] at h ⊢
  intro h
  have h : ¬ cb a b < 0 := of_decide_eq_false h
  try refine v134W11 ?_
  refine TO_strop (by simp) (by simp only [kV, ↓reduceIte, Nat.reduceEqDiff, reduceCtorEq]; first | done | rfl) (by simp only [kV, ↓reduceIte, Nat.reduceEqDiff, reduceCtorEq]; first | done | rfl) (.inr ⟨rfl, rfl⟩) ?_
  refine fzA ?_
  try refine v134W11 ?_
  refine ifA ?_ ?_
  · intro h2
    have h2 : 0 < cb a b := of_decide_eq_true h2
    try refine v134W11 ?_
    refine rtA (by simp only [kR, Tryz.results134, ↓reduceIte, Nat.reduceEqDiff, reduceCtorEq]; first | done | rfl) ([]) ?_
    refine ⟨?_, rfl⟩
    rcases cb_val a b with e | e | e <;> simp [e] at h h2 ⊢
  intro h2
  have h2 : ¬ 0 < cb a b := of_decide_eq_false h2
  try refine v134W11 ?_
  refine rtA (by simp only [kR, Tryz.results134, ↓reduceIte, Nat.reduceEqDiff, reduceCtorEq]; first | done | rfl) ([]) ?_
  refine ⟨?_, rfl⟩
  rcases cb_val a b with e | e | e <;> simp [e] at h h2 ⊢
def orI : List Int → Int
  | [] => 0
  | a :: l => if a = 0 then orI l else a
def k133 := And.intro @Tryz.ntmps133 <| And.intro @Tryz.underlying59 <| And.intro @elt59 <| And.intro @ti3 <| @ti59
theorem v133W11 {G G' : Prop} (g : G') (h : Hid G' → G := by intro h9; (first | refine nvB ?_ | refine goA (wr := false) (by simp only [kB, k133, Nat.reduceAdd, Nat.reduceLT, Nat.reduceEqDiff, ↓reduceIte, reduceCtorEq]; first | done | rfl) ?_); (repeat (first | refine nvB ?_ | refine goA (wr := false) (by simp only [kB, k133, Nat.reduceAdd, Nat.reduceLT, Nat.reduceEqDiff, ↓reduceIte, reduceCtorEq]; first | done | rfl) ?_)); exact h9.out) : G := h ⟨g⟩
set_option maxRecDepth 100000 in
set_option maxHeartbeats 4000000 in
theorem or_ac (l : List Int) (hl : l.length ≤ 1000) : AC Tryz.prog 133 [.c (.d (.ps 1 (l.map fun i => [.v (.int .i64 i)])))] [] (fun r st => r = I .i64 (orI l) ∧ st = []) := by
  refine AC_enter Tryz.func133 rfl rfl (by simp only [Tryz.ntmps133, List.length]; omega) ?_
  intro x hx
  simp only [List.range, List.range.loop, List.length, List.zip, List.zipWith, Nat.reduceAdd, Tryz.ntmps133]
  try refine v133W11 ?_
  refine T_loop (ι := Nat) (I := fun k => ⟨18, [(3, I .i64 0), (6, .c (.d (.ps 1 (l.map fun i => [.v (.int .i64 i)])))), (7, I .i64 l.length), (8, I .i64 k)], []⟩)
    (Inv := fun k => k ≤ l.length ∧ orI l = orI (l.drop k)) (μ := fun k => l.length - k) 0 (by simp) ?_ ?_
  · exact enA
  rintro k ⟨hk, ho⟩
  try refine v133W11 ?_
  refine ifA ?_ ?_
  · intro hlt
    have hlt' : k < l.length := by simpa using hlt
    obtain ⟨v, hv, he, htk⟩ := round (fun i : Int => [D.v (.int .i64 i)]) l k 0 hlt'
    have hd : l.drop k = v :: l.drop (k + 1) := by
      rw [List.drop_eq_getElem_cons hlt']
      congr 1
      rw [List.getElem?_eq_getElem hlt'] at hv; simpa using hv
    rw [hd, orI] at ho
    (repeat (first | refine nvB ?_ | refine goA (wr := false) (by simp only [kB, k133, Nat.reduceAdd, Nat.reduceLT, Nat.reduceEqDiff, ↓reduceIte, reduceCtorEq, he]; first | done | rfl) ?_))
    refine ifA ?_ ?_
    · intro h
      have h : ¬ v = 0 := by simpa using h
      rw [if_neg h] at ho
      try refine v133W11 ?_
      refine rtA (by simp only [kR, Tryz.results133, ↓reduceIte, Nat.reduceEqDiff, reduceCtorEq]; first | done | rfl) ([]) ?_
      refine ⟨?_, rfl⟩
      rw [ho]
    · intro h
      have h : v = 0 := by simpa using h
      rw [if_pos h] at ho
      try refine v133W11 ?_
      refine ⟨k + 1, ⟨by omega, ho⟩, by omega, ?_⟩
      exact enA
  · intro hge
    have hge' : k = l.length := by have : ¬ k < l.length := by simpa using hge
                                   omega
    subst hge'
    rw [List.drop_length] at ho
    try refine v133W11 ?_
    refine rtA (by simp only [kR, Tryz.results133, ↓reduceIte, Nat.reduceEqDiff, reduceCtorEq]; first | done | rfl) ([]) ?_
    refine ⟨?_, rfl⟩
    rw [ho]; rfl
def oP (a b : ByteArray) : Int := if (path? a).isSome && (path? b).isSome then ord a b else 0
def cfP (a b : Fil) : Int := orI [oP a.path b.path, cb a.path b.path, cmpI a.num b.num]
def k132 := And.intro @Tryz.ntmps132 <| And.intro @bld37 <| And.intro @elt59 <| And.intro @fld37_0 <| And.intro @fld37_1 <| And.intro @ti3 <| And.intro @ti37 <| And.intro @ti59 <| @ti9
theorem v132W11 {G G' : Prop} (g : G') (h : Hid G' → G := by intro h9; (first | refine nvB ?_ | refine goA (wr := false) (by simp only [kB, kS, k132, Nat.reduceAdd, Nat.reduceLT, Nat.reduceEqDiff, ↓reduceIte, reduceCtorEq]; first | done | rfl) ?_); (repeat (first | refine nvB ?_ | refine goA (wr := false) (by simp only [kB, kS, k132, Nat.reduceAdd, Nat.reduceLT, Nat.reduceEqDiff, ↓reduceIte, reduceCtorEq]; first | done | rfl) ?_)); exact h9.out) : G := h ⟨g⟩
set_option maxRecDepth 100000 in
set_option maxHeartbeats 8000000 in
theorem lessF_ac (a b : Fil) (ha : a.path.size ≤ 100000) (hb : b.path.size ≤ 100000) : AC Tryz.prog 132 [aFil a, aFil b] [] (fun r st => r = I .i64 (cfP a b) ∧ st = []) := by
  have h1 := pcompare_ac a.path b.path ha hb
  have h2 := cmpStr_ac a.path b.path
  have h3 := cmpInt_ac a.num b.num
  have h4 := AC_frz (id := 26) (fun r (h : r = I .i64 (cfP a b)) => by rw [h]; trivial) (or_ac [oP a.path b.path, cb a.path b.path, cmpI a.num b.num] (by simp))
  simp only [List.map, List.length_cons, List.length_nil] at h4
  refine AC_enter Tryz.func132 rfl rfl (by simp only [Tryz.ntmps132, List.length]; omega) ?_
  intro x hx
  simp only [List.range, List.range.loop, List.length, List.zip, List.zipWith, Nat.reduceAdd, Tryz.ntmps132]
  (repeat (first | refine v132W11 ?_ | (refine caA [] (h1) ?_; rintro r st' ⟨rfl, rfl⟩; refine frA ?_)))
  rw [show (if ((path? a.path).isSome && (path? b.path).isSome) = true then ord a.path b.path else 0) = oP a.path b.path from rfl]
  refine drA (wr := false) ([(20, I .i64 (cb a.path b.path)), (25, I .i64 (cmpI a.num b.num)), (27, I .i64 (cfP a b))] : List (Nat × AV)) (by simp only [kD, kB, kS, k132, Nat.reduceAdd, Nat.reduceLT, Nat.reduceEqDiff, ↓reduceIte, reduceCtorEq]; first | done | rfl) ?_ ?_
  · exact obH (h2) (h3) (h4)
  try refine v132W11 ?_
  refine rtA (by simp only [kR, Tryz.results132, ↓reduceIte, Nat.reduceEqDiff, reduceCtorEq]; first | done | rfl) ([]) ?_
  refine ⟨?_, rfl⟩
  rfl
end Go.Proofs.YtbllfnmabmamfaaGreatDoor
namespace Go.Proofs
open Go.Shelf
def Tryz.sortF_ren : Go.Shelf.Ren:=⟨fun | 6 => 131 | 15 => 87 | 14 => 167 | 28 => 129 | 29 => 130 | 20 => 181 | 21 => 182 | 22 => 183 | 23 => 184 | 24 => 185 | 25 => 186 | 26 => 187 | 27 => 188 | 46 => 198 | 47 => 163 | 48 => 164 | 49 => 199 | 50 => 200 | 57 => 208 | n => n, fun | 22 => 65 | 24 => 37 | 25 => 226 | 3 => 3 | 39 => 173 | 0 => 0 | 53 => 222 | 55 => 42 | 4 => 4 | 46 => 215 | 45 => 214 | 50 => 129 | 5 => 5 | 9 => 9 | 66 => 250 | 70 => 254 | 76 => 271 | 77 => 272 | n => n, fun | n => n⟩
theorem Tryz.sortF : Go.Proofs.SlLaysF0.n6 Tryz.prog Tryz.sortF_ren:={
 mixed:=by kernel_rfl
 f6:=⟨Tryz.f131.name, by decide, Tryz.func131.trans (congrArg some (by kernel_rfl))⟩
 f14:=⟨Tryz.f167.name, by decide, Tryz.func167.trans (congrArg some (by kernel_rfl))⟩
 f15:=Tryz.func87.trans (congrArg some (by kernel_rfl))
 f20:=⟨Tryz.f181.name, by decide, Tryz.func181.trans (congrArg some (by kernel_rfl))⟩
 f21:=⟨Tryz.f182.name, by decide, Tryz.func182.trans (congrArg some (by kernel_rfl))⟩
 f22:=⟨Tryz.f183.name, by decide, Tryz.func183.trans (congrArg some (by kernel_rfl))⟩
 f23:=⟨Tryz.f184.name, by decide, Tryz.func184.trans (congrArg some (by kernel_rfl))⟩
 f24:=⟨Tryz.f185.name, by decide, Tryz.func185.trans (congrArg some (by kernel_rfl))⟩
 f25:=⟨Tryz.f186.name, by decide, Tryz.func186.trans (congrArg some (by kernel_rfl))⟩
 f26:=⟨Tryz.f187.name, by decide, Tryz.func187.trans (congrArg some (by kernel_rfl))⟩
 f27:=⟨Tryz.f188.name, by decide, Tryz.func188.trans (congrArg some (by kernel_rfl))⟩
 f28:=Tryz.func129.trans (congrArg some (by kernel_rfl))
 f29:=Tryz.func130.trans (congrArg some (by kernel_rfl))
 f46:=⟨Tryz.f198.name, by decide, Tryz.func198.trans (congrArg some (by kernel_rfl))⟩
 f47:=Tryz.func163.trans (congrArg some (by kernel_rfl))
 f48:=Tryz.func164.trans (congrArg some (by kernel_rfl))
 f49:=⟨Tryz.f199.name, by decide, Tryz.func199.trans (congrArg some (by kernel_rfl))⟩
 f50:=⟨Tryz.f200.name, by decide, Tryz.func200.trans (congrArg some (by kernel_rfl))⟩
 f57:=⟨Tryz.f208.name, by decide, Tryz.func208.trans (congrArg some (by kernel_rfl))⟩
 t0:=Tryz.underlying0
 a0:=Tryz.isAgg0
 z0:=Tryz.sizeOf0
 v0:=Tryz.zeroValue0
 t3:=Tryz.underlying3
 a3:=Tryz.isAgg3
 z3:=Tryz.sizeOf3
 v3:=Tryz.zeroValue3
 t4:=Tryz.underlying4
 a4:=Tryz.isAgg4
 z4:=Tryz.sizeOf4
 v4:=Tryz.zeroValue4
 t5:=Tryz.underlying5
 a5:=Tryz.isAgg5
 z5:=Tryz.sizeOf5
 v5:=Tryz.zeroValue5
 t9:=Tryz.underlying9
 a9:=Tryz.isAgg9
 z9:=Tryz.sizeOf9
 v9:=Tryz.zeroValue9
 t22:=Tryz.underlying65
 a22:=Tryz.isAgg65
 z22:=Tryz.sizeOf65
 v22:=Tryz.zeroValue65
 t25:=Tryz.underlying226
 a25:=Tryz.isAgg226
 z25:=Tryz.sizeOf226
 v25:=Tryz.zeroValue226
 t39:=Tryz.underlying173
 a39:=Tryz.isAgg173
 z39:=Tryz.sizeOf173
 v39:=Tryz.zeroValue173
 t45:=Tryz.underlying214
 a45:=Tryz.isAgg214
 z45:=Tryz.sizeOf214
 v45:=Tryz.zeroValue214
 t46:=Tryz.underlying215
 a46:=Tryz.isAgg215
 z46:=Tryz.sizeOf215
 v46:=Tryz.zeroValue215
 t50:=Tryz.underlying129
 a50:=Tryz.isAgg129
 z50:=Tryz.sizeOf129
 v50:=Tryz.zeroValue129
 t53:=Tryz.underlying222
 a53:=Tryz.isAgg222
 z53:=Tryz.sizeOf222
 v53:=Tryz.zeroValue222
 t55:=Tryz.underlying42
 a55:=Tryz.isAgg42
 z55:=Tryz.sizeOf42
 v55:=Tryz.zeroValue42
 t66:=Tryz.underlying250
 a66:=Tryz.isAgg250
 z66:=Tryz.sizeOf250
 v66:=Tryz.zeroValue250
 t70:=Tryz.underlying254
 a70:=Tryz.isAgg254
 z70:=Tryz.sizeOf254
 v70:=Tryz.zeroValue254
 t76:=Tryz.underlying271
 a76:=Tryz.isAgg271
 z76:=Tryz.sizeOf271
 v76:=Tryz.zeroValue271
 t77:=Tryz.underlying272
 a77:=Tryz.isAgg272
 z77:=Tryz.sizeOf272
 v77:=Tryz.zeroValue272 }
end Go.Proofs
namespace Go.Proofs.YtbllfnmabmamfaaGreatDoor
open Go.Ab Tys Go.Shelf Go.Sort
abbrev VFil := { f : Fil // (path? f.path).isSome = true ∧ f.path.size ≤ 100000 }
instance : Inhabited VFil := ⟨⟨⟨{ data := #[47, 47, 109, 47, 102] }, 0⟩, by kernel_rfl, by decide⟩⟩
def encFV (f : Fil) : List Value := [.string f.path, .int .i64 f.num]
def encV (f : VFil) : List Value := encFV f.1
theorem cfP_eq (x y : VFil) : cfP x.1 y.1 = cfF ⟨x.1, x.2.1⟩ ⟨y.1, y.2.1⟩ := by
  have e : oP x.1.path y.1.path = ord x.1.path y.1.path := by simp [oP, x.2.1, y.2.1]
  simp only [cfP, orI, cfF, e]
  by_cases h1 : ord x.1.path y.1.path = 0
  · rw [if_pos h1, if_pos h1]
    by_cases h2 : cb x.1.path y.1.path = 0
    · rw [if_pos h2, if_pos h2]; split <;> simp_all
    · rw [if_neg h2, if_neg h2]
  · rw [if_neg h1, if_neg h1]
theorem cmpV : Cmp fun x y : VFil => cfP x.1 y.1 := by
  have h := cmp_cfF.on fun x : VFil => (⟨x.1, x.2.1⟩ : PFil)
  have e : (fun x y : VFil => cfP x.1 y.1) = fun x y : VFil => cfF ⟨x.1, x.2.1⟩ ⟨y.1, y.2.1⟩ := by funext x y; exact cfP_eq x y
  rw [e]; exact h
theorem swoV : SWO (Go.Proofs.ltOf fun x y : VFil => cfP x.1 y.1) := cmpV.swo
theorem lift_V : ∀ {l : List Fil}, (∀ f ∈ l, (path? f.path).isSome = true ∧ f.path.size ≤ 100000) → ∃ la : List VFil, la.map (·.1) = l
  | [], _ => ⟨[], rfl⟩
  | f :: l, h => by
    obtain ⟨la, hla⟩ := lift_V (l := l) fun g hg => h g (by simp [hg])
    exact ⟨⟨f, h f (by simp)⟩ :: la, by simp [hla]⟩
theorem flat2 : ∀ (l : List VFil) (t : Nat), t < l.length * 2 → (l.map encV).flatten[t]? = some ((encV l[t / 2]!)[t % 2]!)
  | [], t, h => by simp at h
  | a :: l, 0, _ => by simp [encV, encFV]
  | a :: l, 1, _ => by simp [encV, encFV]
  | a :: l, t + 2, h => by
    have ih := flat2 l t (by simp at h; omega)
    have e1 : (t + 2) / 2 = t / 2 + 1 := by omega
    have e2 : (t + 2) % 2 = t % 2 := by omega
    rw [e1, e2]
    simpa [encV, encFV] using ih
theorem flatV (l : List VFil) : flatK encV 2 l.toArray = (l.map encV).flatten.toArray := by
  have hl : (l.map encV).flatten.length = l.length * 2 := by
    induction l with
    | nil => rfl
    | cons a l ih => simp only [List.map_cons, List.flatten_cons, List.length_append, ih, List.length_cons]; simp [encV, encFV]; omega
  apply Array.ext
  · rw [size_flatK]; simp [hl]
  · intro i h1 h2
    have hi : i < l.length * 2 := by rw [size_flatK] at h1; simpa using h1
    have g := get_flatK encV 2 l.toArray i (by simpa using hi)
    rw [getElem!_pos _ i h1] at g
    rw [g]
    have f := flat2 l i hi
    rw [List.getElem?_eq_getElem (by rw [hl]; exact hi)] at f
    simp only [Option.some.injEq] at f
    simp only [List.getElem_toArray]
    rw [f]
    simp
theorem arrV (l : List Fil) : vArr 2 (l.map encFV) = dArr 2 (l.map encFil) := by
  simp only [vArr, dArr, List.map_map]
  congr 1
theorem lessL (x y : VFil) (W : World) : Calls Tryz.prog 132 #[.agg (encV x).toArray, .agg (encV y).toArray] W fun e w' => e = .returned (.int .i64 (cfP x.1 y.1)) ∧ ∃ q os', w' = grow (W.drewN q) os' :=
  AC_lays (r := .int .i64 (cfP x.1 y.1)) rfl (lessF_ac x.1 y.1 x.2.2 y.2.2) [.agg (encV x).toArray, .agg (encV y).toArray] (fun k => .cons ⟨_, rfl, .cons (.v _ rfl) (.cons (.v _ rfl) .nil)⟩ (.cons ⟨_, rfl, .cons (.v _ rfl) (.cons (.v _ rfl) .nil)⟩ .nil)) W
theorem sortF_ac (l : List Fil) (hp : ∀ f ∈ l, (path? f.path).isSome = true ∧ f.path.size ≤ 100000) (hl : l.length ≤ 1000000) (id : Nat) :
    AC Tryz.prog 131 [.c (.ms id 2 0 l.length), .c (.d (.v (.func (.func 132) #[] #[])))] [(id, dArr 2 (l.map encFil))] (fun r st => r = .tup [] ∧ ∃ l' : List Fil, l'.Perm l ∧ st = [(id, dArr 2 (l'.map encFil))]) := by
  obtain ⟨la, rfl⟩ := lift_V hp
  have h := AC_sortK (P := Tryz.prog) (f := 131) (sz := 2) (by omega) (xs := (la.map (·.1)).map encFV) (by intro x hx; obtain ⟨y, _, rfl⟩ := List.mem_map.1 hx; rfl) (extra := [.func (.func 132) #[] #[]])
    (Q := fun ys => ∃ l' : List Fil, l'.Perm (la.map (·.1)) ∧ ys = l'.map encFV)
    (by rintro ys ⟨l', h1, rfl⟩; refine ⟨by simp [h1.length_eq], fun y hy => ?_⟩; obtain ⟨z, _, rfl⟩ := List.mem_map.1 hy; exact ⟨rfl, fun v hv => by simp [encFV] at hv; rcases hv with rfl | rfl <;> rfl⟩)
    ⟨_, Tryz.func131, by kernel_rfl, by kernel_rfl⟩ ?_ ?_ (fun he => ⟨_, .refl _, he.symm⟩) id
  · rw [arrV] at h
    refine AC.mono (by simpa using h) ?_
    rintro r st ⟨rfl, ys, ⟨l', h1, rfl⟩, rfl⟩
    exact ⟨rfl, l', h1, by rw [arrV]⟩
  · intro blk off cap w hH hb
    have e0 : (la.map (·.1)).map encFV = la.map encV := by simp [encV, Function.comp]
    have hd : la.toArray.size = la.length := by simp
    have h0 := AnyQ.slices_SortFunc Tryz.sortF 2 Tryz.isAgg37 Tryz.sizeOf37 encV (fun _ => rfl) (fun x v hv => by simp [encV, encFV] at hv; rcases hv with rfl | rfl <;> rfl) (fun x y : VFil => cfP x.1 y.1) swoV 132 #[] blk off cap la.toArray w
      (enters_of Tryz.func132 (by kernel_rfl) rfl) (fun m os dk _ x y => lessL x y _) (by unfold HoldsK; rw [flatV, ← e0]; exact hH) hb (by simp; simp at hl; omega)
    change Calls Tryz.prog 131 _ _ _ at h0
    refine Calls.mono (by simpa using h0) ?_
    rintro e w' ⟨rfl, d', hpm, _, n, os, rfl⟩
    refine ⟨rfl, (d'.toList.map (·.1)).map encFV, n, os, ⟨d'.toList.map (·.1), ?_, rfl⟩, ?_⟩
    · obtain ⟨h1, _, h3⟩ := hpm
      have e1 : d'.extract 0 la.length = d' := by
        have hs : d'.size = la.length := by rw [h1]; simp
        rw [← hs]; simp
      rw [e1] at h3
      have h4 : d'.toList.Perm la := by simpa using h3
      exact h4.map _
    · have e1 : (d'.toList.map (·.1)).map encFV = d'.toList.map encV := by simp [encV, Function.comp]
      rw [e1, ← flatV]
      simp [sortWorldK, putRowK]
  · intro he p cap w
    have h0 := AnyF.slices_SortFunc_none Tryz.sortF p cap (.func (.func 132) #[] #[]) w
    change Calls Tryz.prog 131 _ _ _ at h0
    exact h0
def k93 := And.intro @Tryz.ntmps93 <| And.intro @Tryz.underlying65 <| And.intro @bld37 <| And.intro @elt65 <| And.intro @kyt37 <| And.intro @mpt181 <| And.intro @ti181 <| And.intro @ti37 <| And.intro @ti4 <| @ti65
theorem v93W15 {G G' : Prop} (g : G') (h : Hid G' → G := by intro h9; (first | refine nvB ?_ | refine goA (wr := false) (by simp only [kB, kS, kM, k93, Nat.reduceAdd, Nat.reduceLT, Nat.reduceEqDiff, ↓reduceIte, reduceCtorEq]; first | done | rfl) ?_); (repeat (first | refine nvB ?_ | refine goA (wr := false) (by simp only [kB, kS, kM, k93, Nat.reduceAdd, Nat.reduceLT, Nat.reduceEqDiff, ↓reduceIte, reduceCtorEq]; first | done | rfl) ?_)); exact h9.out) : G := h ⟨g⟩
set_option maxRecDepth 100000 in
set_option maxHeartbeats 8000000 in
theorem list_ac (l : List Fil) (hl : l.length ≤ 512) (hp : ∀ f ∈ l, (path? f.path).isSome = true ∧ f.path.size ≤ 100000) :
    AC Tryz.prog 93 [.c (.d (.pm (sEnt kF l)))] [] (fun r st => (∃ l' : List Fil, l'.Perm l ∧ r = aFils l') ∧ st = []) := by
  refine AC_enter Tryz.func93 rfl rfl (by simp only [Tryz.ntmps93, List.length]; omega) ?_
  intro x hx
  simp only [List.range, List.range.loop, List.length, List.zip, List.zipWith, Nat.reduceAdd, Tryz.ntmps93]
  try refine v93W15 ?_
  refine T_ent (Ent_adopt (i := 3) (id := 100) (sz := 2) rfl rfl (by omega)) ?_
  refine fzA ?_
  refine T_loop (ι := Option EntD × List Fil × List Fil) (I := fun i => ⟨18, [(3, .c (.ms 100 2 0 i.2.2.length)), (6, .c (.ptr 6 0))], [(6, .iter i.1 (sEnt kF i.2.1)), (100, dArr 2 (i.2.2.map encFil))]⟩)
    (Inv := fun i => (i.2.2 ++ i.2.1).Perm l) (μ := fun i => i.2.1.length) (none, l, []) (by simp) ?_ ?_
  · exact enA
  rintro ⟨cur, rest, m⟩ h
  simp only at h ⊢
  have hlen := h.length_eq
  simp only [List.length_append] at hlen
  refine nvA ?_
  refine TO_next (id := 6) (by simp) (by simp only [kV, ↓reduceIte, Nat.reduceEqDiff, reduceCtorEq]; first | done | rfl) rfl ?_ ?_
  · intro h0
    have : rest = [] := by simpa [sEnt] using h0
    subst this
    rw [List.append_nil] at h
    refine fzA ?_
    try refine v93W15 ?_
    refine ifA ?_ ?_
    · intro hh; cases hh
    intro _
    try refine v93W15 ?_
    refine caA ([(100, dArr 2 (m.map encFil))]) (sortF_ac m (fun f hf => hp f (h.mem_iff.1 hf)) (by omega) 100) ?_
    rintro rv9 st' ⟨rfl, l', hl', rfl⟩ <;> refine frA ?_
    refine TO_ent (Ent_frzSlot (i := 3) (id := 100) (ys := l'.map encFil) rfl rfl (by rw [List.length_map]; exact hl'.length_eq.symm)) ?_
    refine fzA ?_
    try refine v93W15 ?_
    refine rtA (by simp only [kR, Tryz.results93, ↓reduceIte, Nat.reduceEqDiff, reduceCtorEq]; first | done | rfl) ([]) ?_
    refine ⟨?_, rfl⟩
    exact ⟨l', hl'.trans h, rfl⟩
  intro l1 e l2 hsp
  obtain ⟨xs, k, y, rfl, rfl, rfl, rfl⟩ := sEnt_split hsp
  refine fzA ?_
  (repeat (first | refine nvB ?_ | refine goA (wr := false) (by simp only [kB, kS, kM, k93, Nat.reduceAdd, Nat.reduceLT, Nat.reduceEqDiff, ↓reduceIte, reduceCtorEq, upD]; first | done | rfl) ?_))
  refine ifA ?_ ?_
  rotate_left
  · intro hh; cases hh
  intro _
  simp only [List.length_append, List.length_cons] at hlen
  (repeat (first | refine nvB ?_ | refine goA (wr := false) (by simp only [kB, kS, kM, k93, Nat.reduceAdd, Nat.reduceLT, Nat.reduceEqDiff, ↓reduceIte, reduceCtorEq, upD]; first | done | rfl) ?_))
  refine ⟨(some (kF k, (false, [.v (.bool true)])), xs ++ y, m ++ [k]), ?_, by simp, ?_⟩
  · refine List.Perm.trans ?_ h
    simp only [List.append_assoc, List.cons_append, List.nil_append]
    exact List.Perm.append_left _ (List.perm_middle.symm)
  · exact enR (fun i => if i = 100 then 14 else i)
theorem listC (d : Dep) (hN : d.revs.length ≤ 512) (hP : PathOK d) : ListC d := by
  intro l hn hl
  refine list_ac l ?_ ?_
  · have := nodup_len (m := d.revs.map fileOf) hn (fun g hg' => by
      obtain ⟨u, h1, h2⟩ := hl g hg'
      exact List.mem_map.2 ⟨u, h1, h2⟩)
    rw [List.length_map] at this; omega
  · intro f hf
    obtain ⟨u, h1, h2⟩ := hl f hf
    have := hP u h1
    rw [← h2]; exact this
end Go.Proofs.YtbllfnmabmamfaaGreatDoor
