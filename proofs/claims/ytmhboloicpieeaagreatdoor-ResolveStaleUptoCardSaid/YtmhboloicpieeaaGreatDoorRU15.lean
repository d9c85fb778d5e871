/- A part of the proof. -/
import Derived.Shelf.Spec.SlicesGrow
import Derived.Ground.Names8Prog
import Derived.Shelf.Lay
import Derived.Test.YtmhboloicpieeaaGreatDoorRY3
import Derived.Test.YtmhboloicpieeaaGreatDoorRX9
import Derived.Test.YtmhboloicpieeaaGreatDoorRU14
set_option maxRecDepth 100000
set_option maxHeartbeats 16000000
set_option linter.all false
namespace Go.Ab
open Go.Shelf Go.Proofs Go.RowKit
theorem AC_grow0 [Dr] {P : Program} {f : FuncId} (hc : Callable P f) {ρ : Ren} (hf : ρ.f 4 = f) (L : Lays8.n4 P ρ) (id sz : Nat) (hs0 : 0 < sz) :
  AC P f [.c (.d (.v (.slice none 0 0))), I .i64 (0 : Nat)] [] (fun r st => r = .c (.ms id sz 0 0) ∧ st = [(id, .arr sz [])]) := by
 refine ⟨hc, ?_⟩
 intro bl cap F w us hs hargs
 cases hargs with
 | cons hv ht =>
 cases ht with
 | cons hv2 ht =>
 cases ht
 have hv2' : RepD _ _ _ _ := hv2
 cases hv2'
 have hv' : RepD _ _ _ _ := hv
 cases hv'
 subst hf
 refine (Any8.slices_Grow_room L none 0 0 0 w (by omega) (by omega) (by omega) (by omega)).mono fun e w' ⟨he, hw⟩ => ?_
 subst hw
 obtain ⟨bl', cap', a1, a2, a3⟩ := nilArr_ok (x := X.start bl cap F [] w') (id := id) (sz := sz) none hs (by simp [Ab.get]) hs0
 exact ⟨_, _, bl', cap', _, he, ⟨rfl, rfl⟩, by simp, a1, a3⟩
theorem AC_grow [Dr] {P : Program} {f : FuncId} (hc : Callable P f) {ρ : Ren} (hf : ρ.f 4 = f) (L : Lays8.n4 P ρ) (i0 : TypeInfo) (z : Value) (hi0 : P.info? (ρ.t 25) = some i0) (hz0 : i0.zero = some z) (hs0 : 0 < i0.size) (hzs : z.cells.size = i0.size)
  (id n : Nat) (hn : 0 < n) (hbig : n * i0.bytes ≤ 140737488355328) (h63 : n ≤ 4611686018427387904) :
  AC P f [.c (.d (.v (.slice none 0 0))), I .i64 n] [] (fun r st => r = .c (.ms id i0.size 0 0) ∧ st = [(id, .arr i0.size [])]) := by
 refine ⟨hc, ?_⟩
 intro bl cap F w us hs hargs
 cases hargs with
 | cons hv ht =>
 cases ht with
 | cons hv2 ht =>
 cases ht
 have hv2' : RepD _ _ _ _ := hv2
 cases hv2'
 have hv' : RepD _ _ _ _ := hv
 cases hv'
 subst hf
 refine (Any8.slices_Grow_grow L i0 z hi0 hz0 hs0 none 0 0 n [] w (by omega) (by omega) (by rw [Nat.zero_add]; exact hbig) (by omega) (by simp) (fun _ => rfl) (fun a h => by cases h)).mono fun e w' ⟨he, hw⟩ => ?_
 subst hw
 obtain ⟨bl', cap', a1, a2, a3⟩ := newArr_ok (x := X.start bl cap F [] w) (id := id) (sz := i0.size) (n := grownCap w (0 + n) 0 (ρ.t 25)) (T := ρ.t 25) (xs := []) (st := []) hs (by simp [Ab.get])
  (w' := { w with heap := w.heap.push (.cells (([] : List Value).toArray ++ Builtin.zeroCells z.cells (0 + n - 0) ++ Builtin.zeroCells z.cells (grownCap w (0 + n) 0 (ρ.t 25) - (0 + n))) (ρ.t 25) (0, 0)), drawn := w.drawn + 1 })
  (grew_drew _ _ (Nat.le_succ _)) Array.getElem?_push_size (by show _ < (w.heap.push _).size; rw [Array.size_push]; omega) hs0 (by simp) (by simp)
  (by
   have := grownCap_ge w (0 + n) 0 (ρ.t 25)
   simp only [Array.size_append, List.size_toArray, List.length_nil, size_zeroCells, hzs]
   rw [Nat.zero_add, ← Nat.add_mul]; congr 1; omega)
  (by simp; exact .nil)
 exact ⟨_, _, bl', cap', _, he, ⟨rfl, rfl⟩, by simp, a1, a3⟩
theorem AC_grown [Dr] {P : Program} {f : FuncId} (hc : Callable P f) {ρ : Ren} (hf : ρ.f 4 = f) (L : Lays8.n4 P ρ) (i0 : TypeInfo) (z : Value) (hi0 : P.info? (ρ.t 25) = some i0) (hz0 : i0.zero = some z) (hs0 : 0 < i0.size) (hzs : z.cells.size = i0.size)
  (id n : Nat) (hbig : n * i0.bytes ≤ 140737488355328) (h63 : n ≤ 4611686018427387904) :
  AC P f [.c (.d (.v (.slice none 0 0))), I .i64 n] [] (fun r st => r = .c (.ms id i0.size 0 0) ∧ st = [(id, .arr i0.size [])]) := by
 rcases Nat.eq_zero_or_pos n with rfl | h
 ·exact AC_grow0 hc hf L id _ hs0
 ·exact AC_grow hc hf L i0 z hi0 hz0 hs0 hzs id n h hbig h63
end Go.Ab
namespace Go.Proofs
open Go.Shelf
shelf_lay_g Lays8.n4 Nm8 4 at Tryz 94 as Tryz.growR
end Go.Proofs
namespace Go.Proofs.YtmhboloicpieeaaGreatDoor
open Go.Ab Tys
variable [Dr]
theorem growR_ac (id n : Nat) (hn : n ≤ 1000000) : AC Tryz.prog 94 [.c (.d (.v (.slice none 0 0))), I .i64 n] [] (fun r st => r = .c (.ms id 6 0 0) ∧ st = [(id, .arr 6 [])]) := by
 obtain ⟨i, u, z, h1, h2, h3, h4, h5, h6, h7, h8, h9, h10, h11⟩ := ti_info (P := Tryz.prog) (T := 76) ti76
 have ht : Tryz.growR_ren.t 25 = 76 := by kernel_rfl
 have h4' : i.size = 6 := h4
 have h := AC_grown (P := Tryz.prog) (f := 94) ⟨_, Tryz.func94, by kernel_rfl, by kernel_rfl⟩ (by kernel_rfl) Tryz.growR i z (by rw [ht]; exact h1) h3 (by omega) (by rw [← Array.length_toList, h6, h7]; exact h4.symm) id n (by rw [h5]; simp only; omega) (by omega)
 rw [h4'] at h
 exact h
@[reducible] def encLs (l : List Rcd) : List D := [.ps 6 (l.map encRcd)]
def k45 := And.intro @Tryz.ntmps45 <| And.intro @Tryz.underlying180 <| And.intro @Tryz.underlying28 <| And.intro @bld76 <| And.intro @elt180 <| And.intro @elt28 <| And.intro @ti180 <| And.intro @ti28 <| @ti76
def k44 := And.intro @Tryz.ntmps44 <| And.intro @Tryz.underlying27 <| And.intro @bld46 <| And.intro @elt27 <| And.intro @ti27 <| @ti46
theorem v44Y5 {G G' : Prop} (g : G') (h : Hid G' → G := by intro h9; (first | refine nvB ?_ | refine goA (wr := false) (by simp only [kB, kS, k44, Nat.reduceAdd, Nat.reduceLT, Nat.reduceEqDiff, ↓reduceIte, reduceCtorEq]; first | done | rfl) ?_); (repeat (first | refine nvB ?_ | refine goA (wr := false) (by simp only [kB, kS, k44, Nat.reduceAdd, Nat.reduceLT, Nat.reduceEqDiff, ↓reduceIte, reduceCtorEq]; first | done | rfl) ?_)); exact h9.out) : G := h ⟨g⟩
theorem cloneV_ac (l : List Rev) (h0 : l ≠ []) (hl : l.length ≤ 1000) : AC Tryz.prog 44 [aRevs l] [] (fun r st => r = .c (.ms 7 12 0 l.length) ∧ st = [(7, dArr 12 (l.map encRev))]) := by
 have o1 : ∀ y ∈ List.map (fun l => List.map C.d l) (List.map encRev l), y.length = 12 := by
  intro l hl
  obtain ⟨y, hy, rfl⟩ := List.mem_map.1 hl
  obtain ⟨z, _, rfl⟩ := List.mem_map.1 hy
  rfl
 refine AC_enter Tryz.func44 rfl rfl (by simp only [Tryz.ntmps44, List.length]; omega) ?_
 intro x hx
 simp only [List.range, List.range.loop, List.length, List.zip, List.zipWith, Nat.reduceAdd, Tryz.ntmps44]
 try refine v44Y5 ?_
 refine TO_nilNe (sz := 12) (xs := l.map encRev) (by simp) Tryz.underlying27 (by simp only [kV, ↓reduceIte, Nat.reduceEqDiff, reduceCtorEq]; first | done | rfl) (by simpa using h0) ?_
 refine fzA ?_
 try refine v44Y5 ?_
 refine ifA ?_ ?_
 ·intro h; cases h
 intro _
 refine nvA ?_
 refine TO_go (wr := false) 400 (by simp only [kB, kS, k44, Nat.reduceAdd, Nat.reduceLT, Nat.reduceEqDiff, ↓reduceIte, reduceCtorEq]; first | done | rfl) ?_ ?_
 ·exact obT (o1)
 try refine v44Y5 ?_
 refine rtA (by simp only [kR, Tryz.results44, ↓reduceIte, Nat.reduceEqDiff, reduceCtorEq]; first | done | rfl) ([(7, dArr 12 (l.map encRev))]) ?_
 exact ⟨rfl, rfl⟩
end Go.Proofs.YtmhboloicpieeaaGreatDoor
namespace Go.Proofs.YtmhboloicpieeaaGreatDoor
open Go.Ab Tys
variable [Dr]
@[reducible] def vRv (v : Rev) : Bool × List D := (true, encRev v)
@[reducible] def vEd (e : Edt) : Bool × List D := (true, encEdt e)
@[reducible] def vFl (f : Fil) : Bool × List D := (true, encFil f)
@[reducible] def chkBox (d : Dep) (c : Chg) : AO := .box [.d (.ps 12 (d.revs.map encRev)), .d (.ps 6 (d.recs.map encRcd)), .d (.v (.int .i64 c.num)), .d (.v (.string c.client)), .d (.v (.string c.text)), .d (.ps 12 (c.edits.map encEdt)), .d (.ps 6 (c.recs.map encRcd)), .mp 2001, .mp 2002, .mp 2003]
@[reducible] def stC (d : Dep) (c : Chg) (L : List (ByteArray × Rev)) (E : List (ByteArray × Edt)) (N : List (Fil × Fil)) : List (Nat × AO) :=
 [(2000, chkBox d c), (2001, .map ((mEnt kS' vRv L).map upE)), (2002, .map ((mEnt kS' vEd E).map upE)), (2003, .map ((mEnt kF vFl N).map upE))]
theorem look_Lr (m : List (ByteArray × Rev)) (p : ByteArray) : findE [C.d (.v (.string p))] ((mEnt kS' vRv m).map upE) = (alook m p).map fun v => (true, (encRev v).map C.d) := findE_ent (ve := vRv) kS_eq m p
theorem ty_Lr (m : List (ByteArray × Rev)) : ∀ e ∈ (mEnt kS' vRv m).map upE, e.1.1 = false ∧ tyCs [.str] e.1.2 := by
 intro e he
 simp only [mEnt, List.mem_map] at he
 obtain ⟨_, ⟨f, _, rfl⟩, rfl⟩ := he
 exact ⟨rfl, by simp [upE, upD, tyCs]⟩
theorem ty_Ed (m : List (ByteArray × Edt)) : ∀ e ∈ (mEnt kS' vEd m).map upE, e.1.1 = false ∧ tyCs [.str] e.1.2 := by
 intro e he
 simp only [mEnt, List.mem_map] at he
 obtain ⟨_, ⟨f, _, rfl⟩, rfl⟩ := he
 exact ⟨rfl, by simp [upE, upD, tyCs]⟩
def k196 := And.intro @Tryz.ntmps196 <| trivial
theorem v196Y6 {G G' : Prop} (g : G') (h : Hid G' → G := by intro h9; (first | refine nvB ?_ | refine goA (wr := false) (by simp only [kB, kG, k196, Nat.reduceAdd, Nat.reduceLT, Nat.reduceEqDiff, ↓reduceIte, reduceCtorEq]; first | done | rfl) ?_); (repeat (first | refine nvB ?_ | refine goA (wr := false) (by simp only [kB, kG, k196, Nat.reduceAdd, Nat.reduceLT, Nat.reduceEqDiff, ↓reduceIte, reduceCtorEq]; first | done | rfl) ?_)); exact h9.out) : G := h ⟨g⟩
theorem pisLive_ac (a : Int) : AC Tryz.prog 196 [I .i64 a] [] (fun r st => r = B (!decide (a = 3) && !decide (a = 5)) ∧ st = []) := by
 refine AC_enter Tryz.func196 rfl rfl (by simp only [Tryz.ntmps196, List.length]; omega) ?_
 intro x hx
 simp only [List.range, List.range.loop, List.length, List.zip, List.zipWith, Nat.reduceAdd, Tryz.ntmps196]
 try refine v196Y6 ?_
 refine rtA (by simp only [kR, Tryz.results196, ↓reduceIte, Nat.reduceEqDiff, reduceCtorEq]; first | done | rfl) ([]) ?_
 refine ⟨?_, rfl⟩
 by_cases h : a = 3 <;> simp [h]
def k195 := And.intro @Tryz.ntmps195 <| And.intro @bld179 <| And.intro @bld46 <| And.intro @fld179_2 <| And.intro @fld46_3 <| And.intro @kyt9 <| And.intro @mpt175 <| And.intro @ti175 <| And.intro @ti179 <| And.intro @ti3 <| And.intro @ti46 <| @ti9
theorem v195Y6 {G G' : Prop} (g : G') (h : Hid G' → G := by intro h9; (first | refine nvB ?_ | refine goA (wr := false) (by simp only [kB, kG, kM, k195, Nat.reduceAdd, Nat.reduceLT, Nat.reduceEqDiff, ↓reduceIte, reduceCtorEq]; first | done | rfl) ?_); (repeat (first | refine nvB ?_ | refine goA (wr := false) (by simp only [kB, kG, kM, k195, Nat.reduceAdd, Nat.reduceLT, Nat.reduceEqDiff, ↓reduceIte, reduceCtorEq]; first | done | rfl) ?_)); exact h9.out) : G := h ⟨g⟩
theorem clive_ac (d : Dep) (c : Chg) (L : List (ByteArray × Rev)) (E : List (ByteArray × Edt)) (N : List (Fil × Fil)) (p : ByteArray) :
  AC Tryz.prog 195 [.c (.ptr 2000 0), Str p] (stC d c L E N) (fun r st => (∃ b, r = .tup [pRev ((alook L p).getD zRev), pB b]) ∧ st = stC d c L E N) := by
 have hty := ty_Lr L
 have hlk := look_Lr L p
 cases hL : alook L p with
 | none =>
   rw [hL] at hlk
   refine AC_enter Tryz.func195 rfl rfl (by simp only [Tryz.ntmps195, List.length]; omega) ?_
   intro x hx
   simp only [List.range, List.range.loop, List.length, List.zip, List.zipWith, Nat.reduceAdd, Tryz.ntmps195]
   try refine v195Y6 ?_
   refine TO_go (wr := false) 400 (by simp only [kB, kG, kM, k195, Nat.reduceAdd, Nat.reduceLT, Nat.reduceEqDiff, ↓reduceIte, reduceCtorEq, hlk, Option.map_none, Option.getD, Option.isSome]; first | done | rfl) ?_ ?_
   ·exact obT (hty)
   refine nvA ?_
   refine drA (wr := false) ([(22, B false)] : List (Nat × AV)) (by simp only [kD, kB, kG, kM, k195, Nat.reduceAdd, Nat.reduceLT, Nat.reduceEqDiff, ↓reduceIte, reduceCtorEq]; first | done | rfl) ?_ ?_
   ·exact obN
   refine nvA ?_
   refine RetQ_intro (by simp only [kR, Tryz.results195, ↓reduceIte, Nat.reduceEqDiff, reduceCtorEq, effLoad, cellsOf, List.map, List.length_cons, List.length_nil, List.getD_cons_zero, List.getD_cons_succ, List.getD_nil, List.drop, List.take, splice, ti46]; first | done | rfl) (by first | exact trivial | (simp only [kO]; omega) | (simp [All, InR]; first | done | omega) | (simp +contextual [All, InR]; first | done | grind)) (stC d c L E N) ⟨by simp [Ab.get, renAO_id, hlk], by simp, by simp [clAO, cl_f1, cl_s1, cl_f2, cl_s2, cl_a1, flat_up, clCs, clC, domOf, Ab.get, hlk], keepI hx (by simp [domOf, Ab.get, hlk])⟩ (by simp [clAV, clPs, clCs, clC, domOf, Ab.get, hlk]) ⟨?_, rfl⟩
   exact ⟨_, rfl⟩
 | some v =>
   rw [hL] at hlk
   have hpl := pisLive_ac v.act
   refine AC_enter Tryz.func195 rfl rfl (by simp only [Tryz.ntmps195, List.length]; omega) ?_
   intro x hx
   simp only [List.range, List.range.loop, List.length, List.zip, List.zipWith, Nat.reduceAdd, Tryz.ntmps195]
   try refine v195Y6 ?_
   refine TO_go (wr := false) 400 (by simp only [kB, kG, kM, k195, Nat.reduceAdd, Nat.reduceLT, Nat.reduceEqDiff, ↓reduceIte, reduceCtorEq, hlk, Option.map_some, Option.getD, Option.isSome]; first | done | rfl) ?_ ?_
   ·exact obT (hty)
   refine nvA ?_
   refine drA (wr := false) ([(22, B (!decide (v.act = 3) && !decide (v.act = 5)))] : List (Nat × AV)) (by simp only [kD, kB, kG, kM, k195, Nat.reduceAdd, Nat.reduceLT, Nat.reduceEqDiff, ↓reduceIte, reduceCtorEq]; first | done | rfl) ?_ ?_
   ·exact obT (hpl)
   refine nvA ?_
   refine rtA (by simp only [kR, Tryz.results195, ↓reduceIte, Nat.reduceEqDiff, reduceCtorEq, effLoad, cellsOf, List.map, List.length_cons, List.length_nil, List.getD_cons_zero, List.getD_cons_succ, List.getD_nil, List.drop, List.take, splice, ti46]; first | done | rfl) ((stC d c L E N)) ?_
   refine ⟨?_, rfl⟩
   exact ⟨_, rfl⟩
def lineF (N : List (Fil × Fil)) (v : Rev) : Fil := if v.act = 1 then fileOf v else if v.act = 4 then (alook N ⟨v.frm, v.fnum⟩).getD zFil else (alook N ⟨v.path, v.num - 1⟩).getD zFil
def k88 := And.intro @Tryz.ntmps88 <| And.intro @bld179 <| And.intro @bld37 <| And.intro @bld46 <| And.intro @fld179_4 <| And.intro @fld37_0 <| And.intro @fld37_1 <| And.intro @fld46_0 <| And.intro @fld46_1 <| And.intro @fld46_3 <| And.intro @fld46_6 <| And.intro @fld46_7 <| And.intro @kyt37 <| And.intro @mpt177 <| And.intro @ti177 <| And.intro @ti179 <| And.intro @ti3 <| And.intro @ti37 <| And.intro @ti46 <| @ti9
theorem v88Y6 {G G' : Prop} (g : G') (h : Hid G' → G := by intro h9; (first | refine nvB ?_ | refine goA (wr := false) (by simp only [kB, kS, kM, k88, Nat.reduceAdd, Nat.reduceLT, Nat.reduceEqDiff, ↓reduceIte, reduceCtorEq]; first | done | rfl) ?_); (repeat (first | refine nvB ?_ | refine goA (wr := false) (by simp only [kB, kS, kM, k88, Nat.reduceAdd, Nat.reduceLT, Nat.reduceEqDiff, ↓reduceIte, reduceCtorEq]; first | done | rfl) ?_)); exact h9.out) : G := h ⟨g⟩
theorem clineOf_ac (d : Dep) (c : Chg) (L : List (ByteArray × Rev)) (E : List (ByteArray × Edt)) (N : List (Fil × Fil)) (v : Rev) (hv : -1000000 ≤ v.num ∧ v.num ≤ 1000000) :
  AC Tryz.prog 88 [.c (.ptr 2000 0), aRev v] (stC d c L E N) (fun r st => r = aFil (lineF N v) ∧ st = stC d c L E N) := by
 have hty : ∀ e ∈ (mEnt kF vFl N).map upE, e.1.1 = true ∧ tyCs [.str, .int .i64] e.1.2 := by
  intro e he
  simp only [mEnt, List.mem_map] at he
  obtain ⟨_, ⟨f, _, rfl⟩, rfl⟩ := he
  exact ⟨rfl, by simp [upE, upD, tyCs]⟩
 have hlk : ∀ (p : ByteArray) (n : Int), (findE [C.d (.v (.string p)), C.d (.v (.int .i64 n))] ((mEnt kF vFl N).map upE)).getD (true, [C.d (.v (.string ByteArray.empty)), C.d (.v (.int .i64 0))]) = (true, (encFil ((alook N ⟨p, n⟩).getD zFil)).map C.d) := by
  intro p n
  rw [show findE [C.d (.v (.string p)), C.d (.v (.int .i64 n))] ((mEnt kF vFl N).map upE) = (alook N ⟨p, n⟩).map fun v => (true, (encFil v).map C.d) from findE_ent (ve := vFl) kF_eq N ⟨p, n⟩]
  cases alook N ⟨p, n⟩ <;> rfl
 refine AC_enter Tryz.func88 rfl rfl (by simp only [Tryz.ntmps88, List.length]; omega) ?_
 intro x hx
 simp only [List.range, List.range.loop, List.length, List.zip, List.zipWith, Nat.reduceAdd, Tryz.ntmps88]
 try refine v88Y6 ?_
 refine ifA ?_ ?_
 ·intro h1
  have h1' : v.act = 1 := by simpa using h1
  try refine v88Y6 ?_
  refine rtA (by simp only [kR, Tryz.results88, ↓reduceIte, Nat.reduceEqDiff, reduceCtorEq, effLoad, cellsOf, List.map, List.length_cons, List.length_nil, List.getD_cons_zero, List.getD_cons_succ, List.getD_nil, List.drop, List.take, splice, ti37]; first | done | rfl) ((stC d c L E N)) ?_
  refine ⟨?_, rfl⟩
  simp only [lineF, h1', if_true]; rfl
 intro h1
 have h1' : ¬ v.act = 1 := by simpa using h1
 try refine v88Y6 ?_
 refine ifA ?_ ?_
 ·intro h4
  have h4' : v.act = 4 := by simpa using h4
  refine nvA ?_
  refine drA (wr := false) ([] : List (Nat × AV)) (by simp only [kD, kB, kS, kM, k88, Nat.reduceAdd, Nat.reduceLT, Nat.reduceEqDiff, ↓reduceIte, reduceCtorEq, hlk]; first | done | rfl) ?_ ?_
  ·exact obT (hty)
  refine nvA ?_
  refine rtA (by simp only [kR, Tryz.results88, ↓reduceIte, Nat.reduceEqDiff, reduceCtorEq, effLoad, cellsOf, List.map, List.length_cons, List.length_nil, List.getD_cons_zero, List.getD_cons_succ, List.getD_nil, List.drop, List.take, splice, ti37]; first | done | rfl) ((stC d c L E N)) ?_
  refine ⟨?_, rfl⟩
  rw [lineF, if_neg h1', if_pos h4']; rfl
 intro h4
 have h4' : ¬ v.act = 4 := by simpa using h4
 refine nvA ?_
 refine drA (wr := false) ([] : List (Nat × AV)) (by simp only [kD, kB, kS, kM, k88, Nat.reduceAdd, Nat.reduceLT, Nat.reduceEqDiff, ↓reduceIte, reduceCtorEq, hlk]; first | done | rfl) ?_ ?_
 ·exact obT (hty)
 refine nvA ?_
 refine rtA (by simp only [kR, Tryz.results88, ↓reduceIte, Nat.reduceEqDiff, reduceCtorEq, effLoad, cellsOf, List.map, List.length_cons, List.length_nil, List.getD_cons_zero, List.getD_cons_succ, List.getD_nil, List.drop, List.take, splice, ti37]; first | done | rfl) ((stC d c L E N)) ?_
 refine ⟨?_, rfl⟩
 rw [lineF, if_neg h1', if_neg h4']; rfl
def k46 := And.intro @Tryz.ntmps46 <| And.intro @bld179 <| And.intro @bld41 <| And.intro @bld44 <| And.intro @bld46 <| And.intro @bld56 <| And.intro @bld62 <| And.intro @fld179_1 <| And.intro @fld179_2 <| And.intro @fld46_0 <| And.intro @fld46_1 <| And.intro @fld46_2 <| And.intro @fld46_3 <| And.intro @fld46_4 <| And.intro @fld46_5 <| And.intro @fld46_6 <| And.intro @fld46_7 <| And.intro @fld56_0 <| And.intro @fld56_1 <| And.intro @fld56_2 <| And.intro @fld56_3 <| And.intro @fld56_5 <| And.intro @fld56_6 <| And.intro @fld62_0 <| And.intro @kyt9 <| And.intro @mpt175 <| And.intro @ti175 <| And.intro @ti179 <| And.intro @ti3 <| And.intro @ti41 <| And.intro @ti44 <| And.intro @ti46 <| And.intro @ti56 <| And.intro @ti62 <| @ti9
theorem v46Y6 {G G' : Prop} (g : G') (h : Hid G' → G := by intro h9; (first | refine nvB ?_ | refine goA (wr := false) (by simp only [kB, kS, kM, k46, Nat.reduceAdd, Nat.reduceLT, Nat.reduceEqDiff, ↓reduceIte, reduceCtorEq]; first | done | rfl) ?_); (repeat (first | refine nvB ?_ | refine goA (wr := false) (by simp only [kB, kS, kM, k46, Nat.reduceAdd, Nat.reduceLT, Nat.reduceEqDiff, ↓reduceIte, reduceCtorEq]; first | done | rfl) ?_)); exact h9.out) : G := h ⟨g⟩
theorem crev_ac (d : Dep) (c : Chg) (L : List (ByteArray × Rev)) (E : List (ByteArray × Edt)) (N : List (Fil × Fil)) (e : Edt) (hb : -1000000 ≤ ((alook L e.path).getD zRev).num ∧ ((alook L e.path).getD zRev).num ≤ 1000000) :
  AC Tryz.prog 46 [.c (.ptr 2000 0), aEdt e] (stC d c L E N) (fun r st => r = aRev ⟨e.path, ((alook L e.path).getD zRev).num + 1, c.num, e.act, e.base, e.kw, e.ex, e.xe, e.sum, e.size, e.frm, e.fnum⟩ ∧ st = stC d c L E N) := by
 have hty := ty_Lr L
 have hlk : (findE [C.d (.v (.string e.path))] ((mEnt kS' vRv L).map upE)).getD (true, (encRev zRev).map C.d) = (true, (encRev ((alook L e.path).getD zRev)).map C.d) := by
  rw [look_Lr]; cases alook L e.path <;> rfl
 generalize (alook L e.path).getD zRev = u at hlk hb ⊢
 simp only [List.map, zRev] at hlk
 refine AC_enter Tryz.func46 rfl rfl (by simp only [Tryz.ntmps46, List.length]; omega) ?_
 intro x hx
 simp only [List.range, List.range.loop, List.length, List.zip, List.zipWith, Nat.reduceAdd, Tryz.ntmps46]
 try refine v46Y6 ?_
 refine drA (wr := false) ([] : List (Nat × AV)) (by simp only [kD, kB, kS, kM, k46, Nat.reduceAdd, Nat.reduceLT, Nat.reduceEqDiff, ↓reduceIte, reduceCtorEq, hlk]; first | done | rfl) ?_ ?_
 ·exact obT (hty)
 refine nvA ?_
 refine rtA (by simp only [kR, Tryz.results46, ↓reduceIte, Nat.reduceEqDiff, reduceCtorEq, effLoad, cellsOf, List.map, List.length_cons, List.length_nil, List.getD_cons_zero, List.getD_cons_succ, List.getD_nil, List.drop, List.take, splice, ti46]; first | done | rfl) ((stC d c L E N)) ?_
 refine ⟨?_, rfl⟩
 rfl
@[reducible] def oneC (n : Int) (cl tx : ByteArray) (z : Edt) : Chg := ⟨n, cl, tx, [z], []⟩
section
variable (d : Dep) (n : Int) (cl tx : ByteArray) (z : Edt) (L : List (ByteArray × Rev)) (E : List (ByteArray × Edt)) (N : List (Fil × Fil))
def k89 := And.intro @Tryz.ntmps89 <| And.intro @Tryz.underlying27 <| And.intro @Tryz.underlying28 <| And.intro @Tryz.underlying50 <| And.intro @bld179 <| And.intro @bld30 <| And.intro @bld46 <| And.intro @bld56 <| And.intro @bld62 <| And.intro @bld76 <| And.intro @elt27 <| And.intro @elt28 <| And.intro @elt50 <| And.intro @fld179_0 <| And.intro @fld179_1 <| And.intro @fld30_0 <| And.intro @fld46_2 <| And.intro @fld62_0 <| And.intro @fld62_3 <| And.intro @fld62_4 <| And.intro @ti179 <| And.intro @ti27 <| And.intro @ti28 <| And.intro @ti3 <| And.intro @ti30 <| And.intro @ti46 <| And.intro @ti50 <| And.intro @ti56 <| And.intro @ti62 <| @ti76
theorem v89Y7 {G G' : Prop} (g : G') (h : Hid G' → G := by intro h9; (first | refine nvB ?_ | refine goA (wr := false) (by simp only [kB, kG, k89, Nat.reduceAdd, Nat.reduceLT, Nat.reduceEqDiff, ↓reduceIte, reduceCtorEq]; first | done | rfl) ?_); (repeat (first | refine nvB ?_ | refine goA (wr := false) (by simp only [kB, kG, k89, Nat.reduceAdd, Nat.reduceLT, Nat.reduceEqDiff, ↓reduceIte, reduceCtorEq]; first | done | rfl) ?_)); exact h9.out) : G := h ⟨g⟩
theorem csize_ac (hd : d.revs.length ≤ 1000000) : AC Tryz.prog 89 [.c (.ptr 2000 0)] (stC d (oneC n cl tx z) L E N) (fun r st => (∃ e : Int, r = I .i64 e) ∧ st = stC d (oneC n cl tx z) L E N) := by
 refine AC_enter Tryz.func89 rfl rfl (by simp only [Tryz.ntmps89, List.length]; omega) ?_
 intro x hx
 simp only [List.range, List.range.loop, List.length, List.zip, List.zipWith, Nat.reduceAdd, Tryz.ntmps89]
 try refine v89Y7 ?_
 refine drA (wr := false) ([] : List (Nat × AV)) (by simp only [kD, kB, kG, k89, Nat.reduceAdd, Nat.reduceLT, Nat.reduceEqDiff, ↓reduceIte, reduceCtorEq]; first | done | rfl) ?_ ?_
 ·exact obN
 try refine v89Y7 ?_
 refine ifA ?_ ?_
 ·intro _
  try refine v89Y7 ?_
  refine rtA (by simp only [kR, Tryz.results89, ↓reduceIte, Nat.reduceEqDiff, reduceCtorEq]; first | done | rfl) ((stC d (oneC n cl tx z) L E N)) ?_
  refine ⟨?_, rfl⟩
  exact ⟨_, rfl⟩
 intro _
 try refine v89Y7 ?_
 refine ifA ?_ ?_
 ·intro _
  try refine v89Y7 ?_
  refine rtA (by simp only [kR, Tryz.results89, ↓reduceIte, Nat.reduceEqDiff, reduceCtorEq]; first | done | rfl) ((stC d (oneC n cl tx z) L E N)) ?_
  refine ⟨?_, rfl⟩
  exact ⟨_, rfl⟩
 intro _
 try refine v89Y7 ?_
 refine T_loop (ι := Nat) (I := fun k => ⟨56, [(5, I .i64 n), (45, aRevs d.revs), (46, I .i64 d.revs.length), (47, I .i64 k)], stC d (oneC n cl tx z) L E N⟩)
  (Inv := fun k => k ≤ d.revs.length) (μ := fun k => d.revs.length - k) 0 (by omega) ?_ ?_
 ·exact enA
 intro k hk
 try refine v89Y7 ?_
 refine ifA ?_ ?_
 ·intro hlt
  have hlt' : k < d.revs.length := by simpa using hlt
  obtain ⟨v, hv, he, _⟩ := round encRev d.revs k zRev hlt'
  (repeat (first | refine nvB ?_ | refine goA (wr := false) (by simp only [kB, kG, k89, Nat.reduceAdd, Nat.reduceLT, Nat.reduceEqDiff, ↓reduceIte, reduceCtorEq, he]; first | done | rfl) ?_))
  refine ifA ?_ ?_
  ·intro _
   try refine v89Y7 ?_
   refine rtA (by simp only [kR, Tryz.results89, ↓reduceIte, Nat.reduceEqDiff, reduceCtorEq]; first | done | rfl) ((stC d (oneC n cl tx z) L E N)) ?_
   refine ⟨?_, rfl⟩
   exact ⟨_, rfl⟩
  intro _
  try refine v89Y7 ?_
  refine ⟨k + 1, by omega, by omega, ?_⟩
  exact enA
 intro _
 try refine v89Y7 ?_
 refine rtA (by simp only [kR, Tryz.results89, ↓reduceIte, Nat.reduceEqDiff, reduceCtorEq]; first | done | rfl) ((stC d (oneC n cl tx z) L E N)) ?_
 refine ⟨?_, rfl⟩
 exact ⟨_, rfl⟩
def k93 := And.intro @Tryz.ntmps93 <| And.intro @Tryz.underlying27 <| And.intro @Tryz.underlying28 <| And.intro @Tryz.underlying50 <| And.intro @bld179 <| And.intro @bld30 <| And.intro @bld46 <| And.intro @bld56 <| And.intro @bld62 <| And.intro @bld76 <| And.intro @elt27 <| And.intro @elt28 <| And.intro @elt50 <| And.intro @fld179_0 <| And.intro @fld179_1 <| And.intro @fld30_0 <| And.intro @fld30_1 <| And.intro @fld62_3 <| And.intro @fld62_4 <| And.intro @ti179 <| And.intro @ti27 <| And.intro @ti28 <| And.intro @ti30 <| And.intro @ti46 <| And.intro @ti50 <| And.intro @ti56 <| And.intro @ti62 <| @ti76
theorem v93Y7 {G G' : Prop} (g : G') (h : Hid G' → G := by intro h9; (first | refine nvB ?_ | refine goA (wr := false) (by simp only [kB, kG, k93, Nat.reduceAdd, Nat.reduceLT, Nat.reduceEqDiff, ↓reduceIte, reduceCtorEq]; first | done | rfl) ?_); (repeat (first | refine nvB ?_ | refine goA (wr := false) (by simp only [kB, kG, k93, Nat.reduceAdd, Nat.reduceLT, Nat.reduceEqDiff, ↓reduceIte, reduceCtorEq]; first | done | rfl) ?_)); exact h9.out) : G := h ⟨g⟩
theorem croom_ac (hd : d.revs.length ≤ 1000000) (hr : d.recs.length ≤ 1000000) : AC Tryz.prog 93 [.c (.ptr 2000 0)] (stC d (oneC n cl tx z) L E N) (fun r st => (∃ e : Int, r = I .i64 e) ∧ st = stC d (oneC n cl tx z) L E N) := by
 refine AC_enter Tryz.func93 rfl rfl (by simp only [Tryz.ntmps93, List.length]; omega) ?_
 intro x hx
 simp only [List.range, List.range.loop, List.length, List.zip, List.zipWith, Nat.reduceAdd, Tryz.ntmps93]
 try refine v93Y7 ?_
 refine drA (wr := false) ([] : List (Nat × AV)) (by simp only [kD, kB, kG, k93, Nat.reduceAdd, Nat.reduceLT, Nat.reduceEqDiff, ↓reduceIte, reduceCtorEq]; first | done | rfl) ?_ ?_
 ·exact obN
 refine nvA ?_
 refine ifA ?_ ?_
 ·intro _
  try refine v93Y7 ?_
  refine rtA (by simp only [kR, Tryz.results93, ↓reduceIte, Nat.reduceEqDiff, reduceCtorEq]; first | done | rfl) ((stC d (oneC n cl tx z) L E N)) ?_
  refine ⟨?_, rfl⟩
  exact ⟨_, rfl⟩
 intro _
 try refine v93Y7 ?_
 refine rtA (by simp only [kR, Tryz.results93, ↓reduceIte, Nat.reduceEqDiff, reduceCtorEq]; first | done | rfl) ((stC d (oneC n cl tx z) L E N)) ?_
 refine ⟨?_, rfl⟩
 exact ⟨_, rfl⟩
def k91 := And.intro @Tryz.ntmps91 <| And.intro @Tryz.underlying50 <| And.intro @bld179 <| And.intro @bld56 <| And.intro @bld62 <| And.intro @elt50 <| And.intro @fld179_1 <| And.intro @fld179_3 <| And.intro @fld56_0 <| And.intro @fld56_1 <| And.intro @fld56_5 <| And.intro @fld62_3 <| And.intro @kyt9 <| And.intro @mpt130 <| And.intro @mpt176 <| And.intro @ti130 <| And.intro @ti176 <| And.intro @ti179 <| And.intro @ti3 <| And.intro @ti50 <| And.intro @ti56 <| And.intro @ti62 <| @ti9
theorem v91Y7 {G G' : Prop} (g : G') (h : Hid G' → G := by intro h9; (first | refine nvB ?_ | refine goA (wr := false) (by simp only [kB, kM, k91, Nat.reduceAdd, Nat.reduceLT, Nat.reduceEqDiff, ↓reduceIte, reduceCtorEq]; first | done | rfl) ?_); (repeat (first | refine nvB ?_ | refine goA (wr := false) (by simp only [kB, kM, k91, Nat.reduceAdd, Nat.reduceLT, Nat.reduceEqDiff, ↓reduceIte, reduceCtorEq]; first | done | rfl) ?_)); exact h9.out) : G := h ⟨g⟩
theorem cmoves_ac (hz : z.act = 1 ∨ z.act = 2) : AC Tryz.prog 91 [.c (.ptr 2000 0)] (stC d (oneC n cl tx z) L E N) (fun r st => (∃ e : Int, r = I .i64 e) ∧ st = stC d (oneC n cl tx z) L E N) := by
 have x4 : ¬ z.act = 4 := by omega
 have x5 : ¬ z.act = 5 := by omega
 refine AC_enter Tryz.func91 rfl rfl (by simp only [Tryz.ntmps91, List.length]; omega) ?_
 intro x hx
 simp only [List.range, List.range.loop, List.length, List.zip, List.zipWith, Nat.reduceAdd, Tryz.ntmps91]
 try refine v91Y7 ?_
 refine T_loop (ι := Nat) (I := fun k => ⟨59, [(0, .c (.ptr 2000 0)), (13, .c (.d (.ps 12 [encEdt z]))), (14, I .i64 1), (15, I .i64 k)], stC d (oneC n cl tx z) L E N⟩)
  (Inv := fun k => k ≤ 1) (μ := fun k => 1 - k) 0 (by omega) ?_ ?_
 ·exact enA
 intro k hk
 try refine v91Y7 ?_
 refine ifA ?_ ?_
 ·intro hlt
  have hlt' : k = 0 := by have : ((k : Nat) : Int) < 1 := by simpa using hlt
                          omega
  subst hlt'
  have e00 : Int.toNat ((0 : Nat) : Int) = 0 := rfl
  (repeat (first | refine nvB ?_ | refine goA (wr := false) (by simp only [kB, kM, k91, Nat.reduceAdd, Nat.reduceLT, Nat.reduceEqDiff, ↓reduceIte, reduceCtorEq, e00, List.getD_cons_zero]; first | done | rfl) ?_))
  refine ifA ?_ ?_
  ·intro h; exact absurd (by simpa using h) x4
  intro _
  try refine v91Y7 ?_
  refine ⟨1, by omega, by omega, ?_⟩
  exact enA
 intro _
 try refine v91Y7 ?_
 refine T_loop (ι := Nat) (I := fun k => ⟨59, [(0, .c (.ptr 2000 0)), (32, .c (.d (.ps 12 [encEdt z]))), (33, I .i64 1), (34, I .i64 k)], stC d (oneC n cl tx z) L E N⟩)
  (Inv := fun k => k ≤ 1) (μ := fun k => 1 - k) 0 (by omega) ?_ ?_
 ·exact enA
 intro k2 hk2
 try refine v91Y7 ?_
 refine ifA ?_ ?_
 ·intro hlt
  have hlt' : k2 = 0 := by have : ((k2 : Nat) : Int) < 1 := by simpa using hlt
                           omega
  subst hlt'
  have e00 : Int.toNat ((0 : Nat) : Int) = 0 := rfl
  (repeat (first | refine nvB ?_ | refine goA (wr := false) (by simp only [kB, kM, k91, Nat.reduceAdd, Nat.reduceLT, Nat.reduceEqDiff, ↓reduceIte, reduceCtorEq, e00, List.getD_cons_zero]; first | done | rfl) ?_))
  refine ifA ?_ ?_
  ·intro h; exact absurd (by simpa using h) x5
  intro _
  try refine v91Y7 ?_
  refine ifA ?_ ?_
  ·intro h; exact absurd (by simpa using h) x4
  intro _
  try refine v91Y7 ?_
  refine ⟨1, by omega, by omega, ?_⟩
  exact enA
 intro _
 try refine v91Y7 ?_
 refine rtA (by simp only [kR, Tryz.results91, ↓reduceIte, Nat.reduceEqDiff, reduceCtorEq]; first | done | rfl) ((stC d (oneC n cl tx z) L E N)) ?_
 refine ⟨?_, rfl⟩
 exact ⟨_, rfl⟩
end
def k95 := And.intro @Tryz.ntmps95 <| trivial
theorem v95Y4 {G G' : Prop} (g : G') (h : Hid G' → G := by intro h9; (first | refine nvB ?_ | refine goA (wr := false) (by simp only [kB, k95, Nat.reduceAdd, Nat.reduceLT, Nat.reduceEqDiff, ↓reduceIte, reduceCtorEq]; first | done | rfl) ?_); (repeat (first | refine nvB ?_ | refine goA (wr := false) (by simp only [kB, k95, Nat.reduceAdd, Nat.reduceLT, Nat.reduceEqDiff, ↓reduceIte, reduceCtorEq]; first | done | rfl) ?_)); exact h9.out) : G := h ⟨g⟩
theorem stableR_ac (len : Nat) (hl : len ≤ 1000000) (l : List Rcd) (hR : Rcs len l) :
  AC Tryz.prog 95 [.c (.ms 46 6 0 len), I .i64 len, cmpV] [(46, dArr 6 (l.map encRcd))] (fun r st => ∃ l', Rcs len l' ∧ st = [(46, dArr 6 (l'.map encRcd))]) := by
 refine AC_enter Tryz.func95 rfl rfl (by simp only [Tryz.ntmps95, List.length]; omega) ?_
 intro x hx
 simp only [List.range, List.range.loop, List.length, List.zip, List.zipWith, Nat.reduceAdd, Tryz.ntmps95]
 try refine v95Y4 ?_
 refine T_loop (ι := Nat × List Rcd) (I := fun i => ⟨63, [(0, .c (.ms 46 6 0 len)), (1, I .i64 len), (2, cmpV), (6, I .i64 (20 : Nat)), (7, I .i64 i.1), (8, I .i64 (i.1 + 20 : Nat))], [(46, dArr 6 (i.2.map encRcd))]⟩)
  (Inv := fun i => i.1 ≤ len ∧ Rcs len i.2) (μ := fun i => len - i.1) (0, l) ⟨by simp, hR⟩ ?_ ?_
 ·exact enA
 rintro ⟨a, t⟩ ⟨h1, h2⟩
 simp only at h1 h2 ⊢
 try refine v95Y4 ?_
 refine ifA ?_ ?_
 ·intro hle
  have hle' : a + 20 ≤ len := by simp at hle; omega
  try refine v95Y4 ?_
  refine caA ([(46, dArr 6 (t.map encRcd))]) (insR_ac len t hl h2 a (a + 20) (by omega) hle') ?_
  rintro rv9 st' ⟨t1, ht1, rfl⟩ <;> refine frA ?_
  have c1 : ((a + 20 : Nat) : Int) + ((20 : Nat) : Int) = ((a + 20 + 20 : Nat) : Int) := by omega
  (repeat (first | refine nvB ?_ | refine goA (wr := false) (by simp only [kB, k95, Nat.reduceAdd, Nat.reduceLT, Nat.reduceEqDiff, ↓reduceIte, reduceCtorEq, c1]; first | done | rfl) ?_))
  refine ⟨(a + 20, t1), ⟨hle', ht1⟩, by simp; omega, ?_⟩
  (refine Ent_sub (fun i => i) rfl ?_ ⟨?_, ?_, ?_, keepI hx (by simp [domOf, Ab.get])⟩ <;> first | (simp only [kE, dArr, ↓reduceIte, Nat.reduceEqDiff, reduceCtorEq, c1]; done) | simp [renAV_id, renAO_id, flat_up, Ab.get, clAV, clC, clCs, clAO, cl_f1, cl_s1, cl_f2, cl_s2, cl_a1, domOf, List.flatten, c1])
 intro _
 try refine v95Y4 ?_
 refine caA ([(46, dArr 6 (t.map encRcd))]) (insR_ac len t hl h2 a len h1 (Nat.le_refl _)) ?_
 rintro rv9 st' ⟨t1, ht1, rfl⟩ <;> refine frA ?_
 try refine v95Y4 ?_
 refine T_loop (ι := Nat × List Rcd) (I := fun i => ⟨63, [(0, .c (.ms 46 6 0 len)), (1, I .i64 len), (2, cmpV), (6, I .i64 i.1)], [(46, dArr 6 (i.2.map encRcd))]⟩)
  (Inv := fun i => 20 ≤ i.1 ∧ i.1 ≤ 2 * len + 20 ∧ Rcs len i.2) (μ := fun i => 2 * len + 20 - i.1) (20, t1) ⟨by simp, by simp, ht1⟩ ?_ ?_
 ·exact enA
 rintro ⟨bs, u⟩ ⟨g1, g2, g3⟩
 simp only at g1 g2 g3 ⊢
 try refine v95Y4 ?_
 refine ifA ?_ ?_
 rotate_left
 ·intro _
  try refine v95Y4 ?_
  refine rtN (by simp only [kR, Tryz.results95, ↓reduceIte, Nat.reduceEqDiff, reduceCtorEq]; first | done | rfl) ([(46, dArr 6 (u.map encRcd))]) ?_
  exact ⟨u, g3, rfl⟩
 intro hlt
 have hlt' : bs < len := by simpa using hlt
 have c2 : (2 : Int) * ((bs : Nat) : Int) = ((2 * bs : Nat) : Int) := by omega
 have c2' : ((bs : Nat) : Int) * 2 = ((2 * bs : Nat) : Int) := by omega
 (repeat (first | refine nvB ?_ | refine goA (wr := false) (by simp only [kB, k95, Nat.reduceAdd, Nat.reduceLT, Nat.reduceEqDiff, ↓reduceIte, reduceCtorEq, c2]; first | done | rfl) ?_))
 refine T_loop (ι := Nat × List Rcd) (I := fun i => ⟨63, [(0, .c (.ms 46 6 0 len)), (1, I .i64 len), (2, cmpV), (6, I .i64 bs), (7, I .i64 i.1), (8, I .i64 (i.1 + 2 * bs : Nat))], [(46, dArr 6 (i.2.map encRcd))]⟩)
  (Inv := fun i => i.1 ≤ len ∧ Rcs len i.2) (μ := fun i => len - i.1) (0, u) ⟨by simp, g3⟩ ?_ ?_
 ·exact enA
 rintro ⟨a, v⟩ ⟨f1, f2⟩
 simp only at f1 f2 ⊢
 have c3 : ((a : Nat) : Int) + ((bs : Nat) : Int) = ((a + bs : Nat) : Int) := by omega
 try refine v95Y4 ?_
 refine ifA ?_ ?_
 ·intro hle
  have hle' : a + 2 * bs ≤ len := by simp at hle; omega
  (repeat (first | refine nvB ?_ | refine goA (wr := false) (by simp only [kB, k95, Nat.reduceAdd, Nat.reduceLT, Nat.reduceEqDiff, ↓reduceIte, reduceCtorEq, c3]; first | done | rfl) ?_))
  refine caA ([(46, dArr 6 (v.map encRcd))]) (symR_ac len hl _ v f2 a (a + bs) (a + 2 * bs) (by omega) (by omega) hle' (Nat.le_refl _)) ?_
  rintro rv9 st' ⟨v1, hv1, rfl⟩ <;> refine frA ?_
  have c4 : ((a + 2 * bs : Nat) : Int) + ((2 * bs : Nat) : Int) = ((a + 2 * bs + 2 * bs : Nat) : Int) := by omega
  (repeat (first | refine nvB ?_ | refine goA (wr := false) (by simp only [kB, k95, Nat.reduceAdd, Nat.reduceLT, Nat.reduceEqDiff, ↓reduceIte, reduceCtorEq, c2, c4]; first | done | rfl) ?_))
  refine ⟨(a + 2 * bs, v1), ⟨hle', hv1⟩, by simp; omega, ?_⟩
  (refine Ent_sub (fun i => i) rfl ?_ ⟨?_, ?_, ?_, keepI hx (by simp [domOf, Ab.get])⟩ <;> first | (simp only [kE, dArr, ↓reduceIte, Nat.reduceEqDiff, reduceCtorEq, c4]; done) | simp [renAV_id, renAO_id, flat_up, Ab.get, clAV, clC, clCs, clAO, cl_f1, cl_s1, cl_f2, cl_s2, cl_a1, domOf, List.flatten, c4])
 intro _
 (repeat (first | refine nvB ?_ | refine goA (wr := false) (by simp only [kB, k95, Nat.reduceAdd, Nat.reduceLT, Nat.reduceEqDiff, ↓reduceIte, reduceCtorEq, c3]; first | done | rfl) ?_))
 refine T_joinE (ι := List Rcd) (fun t => ⟨63, [(0, .c (.ms 46 6 0 len)), (1, I .i64 len), (2, cmpV), (6, I .i64 bs)], [(46, dArr 6 (t.map encRcd))]⟩) (fun t => Rcs len t) ?_ ?_
 ·refine ifA ?_ ?_
  ·intro h
   have h' : a + bs < len := by simp at h; omega
   try refine v95Y4 ?_
   refine caA ([(46, dArr 6 (v.map encRcd))]) (symR_ac len hl _ v f2 a (a + bs) len (by omega) h' (Nat.le_refl _) (Nat.le_refl _)) ?_
   rintro rv9 st' ⟨v1, hv1, rfl⟩ <;> refine frA ?_
   try refine v95Y4 ?_
   refine ⟨rfl, v1, hv1, ?_⟩
   exact enA
  ·intro _
   refine nvA ?_
   refine ⟨rfl, v, f2, ?_⟩
   exact enA
 intro v2 hv2
 (repeat (first | refine nvB ?_ | refine goA (wr := false) (by simp only [kB, k95, Nat.reduceAdd, Nat.reduceLT, Nat.reduceEqDiff, ↓reduceIte, reduceCtorEq, c2']; first | done | rfl) ?_))
 refine ⟨(2 * bs, v2), ⟨by simp; omega, by simp; omega, hv2⟩, by simp; omega, ?_⟩
 exact enA
def k47 := And.intro @Tryz.ntmps47 <| And.intro @Tryz.underlying28 <| And.intro @bld76 <| And.intro @elt28 <| @ti76
theorem v47Y4 {G G' : Prop} (g : G') (h : Hid G' → G := by intro h9; (first | refine nvB ?_ | refine goA (wr := false) (by simp only [kB, k47, Nat.reduceAdd, Nat.reduceLT, Nat.reduceEqDiff, ↓reduceIte, reduceCtorEq]; first | done | rfl) ?_); (repeat (first | refine nvB ?_ | refine goA (wr := false) (by simp only [kB, k47, Nat.reduceAdd, Nat.reduceLT, Nat.reduceEqDiff, ↓reduceIte, reduceCtorEq]; first | done | rfl) ?_)); exact h9.out) : G := h ⟨g⟩
theorem sortStable_ac (len : Nat) (hl : len ≤ 1000000) (l : List Rcd) (hR : Rcs len l) :
  AC Tryz.prog 47 [.c (.ms 46 6 0 len), cmpV] [(46, dArr 6 (l.map encRcd))] (fun r st => ∃ l', Rcs len l' ∧ st = [(46, dArr 6 (l'.map encRcd))]) := by
 refine AC_enter Tryz.func47 rfl rfl (by simp only [Tryz.ntmps47, List.length]; omega) ?_
 intro x hx
 simp only [List.range, List.range.loop, List.length, List.zip, List.zipWith, Nat.reduceAdd, Tryz.ntmps47]
 try refine v47Y4 ?_
 refine caA ([(46, dArr 6 (l.map encRcd))]) (stableR_ac len hl l hR) ?_
 rintro rv9 st' ⟨t, ht, rfl⟩ <;> refine frA ?_
 try refine v47Y4 ?_
 refine rtN (by simp only [kR, Tryz.results47, ↓reduceIte, Nat.reduceEqDiff, reduceCtorEq]; first | done | rfl) ([(46, dArr 6 (t.map encRcd))]) ?_
 exact ⟨t, ht, rfl⟩
end Go.Proofs.YtmhboloicpieeaaGreatDoor
namespace Go.Proofs.YtmhboloicpieeaaGreatDoor
open Go.Ab
variable [DrF]
theorem join_sumB (l : List ByteArray) : (joinB l slash).size ≤ (l.map fun x => x.size + 1).sum := by
 have e : (joinB l slash).size = (Lib.join (l.map (·.data.toList)) [47]).length := rfl
 rw [e]
 have h := join_sum (l.map (·.data.toList))
 rw [List.map_map] at h
 exact h
theorem split_sum (c : ByteArray) : ((split c).map fun x => x.size + 1).sum = c.size + 1 := by
 have h := splitL_sum c.data.toList
 rw [split_L, List.map_map]
 have e : c.data.toList.length = c.size := rfl
 rw [e] at h
 rw [← h]
 rfl
theorem sum_leB {n : Nat} : ∀ l : List ByteArray, (∀ s ∈ l, s.size ≤ n) → (l.map fun x => x.size + 1).sum ≤ l.length * (n + 1)
 | [], _ => by simp
 | a :: l, h => by
   have ih := sum_leB l fun s hs => h s (List.mem_cons_of_mem _ hs)
   have ha := h a List.mem_cons_self
   simp only [List.map_cons, List.sum_cons, List.length_cons, Nat.add_mul, Nat.one_mul]
   omega
theorem caps_size {p : Pat} {s : ByteArray} {l : List ByteArray} (h : matchP p s = some l) : ∀ c ∈ l, c.size ≤ s.size := by
 unfold matchP at h
 cases hm : path? s with
 | none => rw [hm] at h; cases h
 | some m =>
   rw [hm] at h
   simp only at h
   split at h
   ·cases h
    intro c hc
    rcases List.mem_append.1 hc with hc | hc
    ·exact capsT_size (path_sz hm) _ c hc
    ·split at hc
     ·simp only [List.mem_singleton] at hc
      subst hc
      exact joinB_sub hm _
     ·cases hc
   ·cases h
theorem getD_sz {n : Nat} {l : List ByteArray} (h : ∀ s ∈ l, s.size ≤ n) (k : Nat) : (l.getD k noS).size ≤ n := by
 rw [List.getD_eq_getElem?_getD]
 cases e : l[k]? with
 | none => exact Nat.zero_le _
 | some v => exact h v (List.mem_of_getElem? e)
theorem suf_sz (a : ByteArray) : (suf a).size ≤ a.size := by
 unfold suf
 split
 ·rw [ByteArray.size_extract]; omega
 ·exact Nat.zero_le _
theorem fillT_sz {ps cs : List ByteArray} {n m : Nat} (h1 : ∀ s ∈ ps, s.size ≤ n) (h2 : ∀ s ∈ cs, s.size ≤ m) : ∀ k, ∀ s ∈ fillT ps cs k, s.size ≤ m + n
 | 0, s, h => by simp [fillT] at h
 | k + 1, s, h => by
   simp only [fillT, List.mem_append, List.mem_singleton] at h
   rcases h with h | rfl
   ·exact fillT_sz h1 h2 k s h
   ·split
    ·rw [ByteArray.size_append]
     have a := getD_sz h2 (stars (ps.take k))
     have b := getD_sz h1 k
     have c := suf_sz (ps.getD k noS)
     omega
    ·have b := getD_sz h1 k
     omega
theorem fwd_sz {r : Rul} {s : ByteArray} (hr : ∀ x ∈ r.right.parts, x.size ≤ 60) (hs : s.size ≤ 500) : (fwd r s).1.size ≤ 100000 := by
 unfold fwd
 split
 ·cases hm : matchP r.left s with
  | none => exact Nat.zero_le _
  | some l =>
    have hc := caps_size hm
    have hc2 : ∀ c ∈ l, c.size ≤ 500 := fun c h => Nat.le_trans (hc c h) hs
    simp only
    unfold fillP
    split
    ·rename_i ho
     have h12 := (okP_iff.1 ho).2.2.2.2
     have hf := sum_leB _ (fillT_sz hr hc2 r.right.parts.length)
     rw [fillT_len] at hf
     have hf2 : r.right.parts.length * (500 + 60 + 1) ≤ 12 * (500 + 60 + 1) := Nat.mul_le_mul_right _ h12
     split
     ·split
      ·split
       ·split
        ·simp only [ByteArray.size_append]
         have h1 := join_sumB (fillT r.right.parts l r.right.parts.length ++ split (l.getD (stars r.right.parts) noS))
         rw [List.map_append, List.sum_append, split_sum] at h1
         have h2 := getD_sz hc2 (stars r.right.parts)
         have h3 : dslash.size = 2 := rfl
         omega
        ·exact Nat.zero_le _
       ·simp only [ByteArray.size_append]
        have h1 := join_sumB (fillT r.right.parts l r.right.parts.length)
        have h3 : dslash.size = 2 := rfl
        omega
      ·exact Nat.zero_le _
     ·exact Nat.zero_le _
    ·exact Nat.zero_le _
 ·exact Nat.zero_le _
theorem by_sz {m : List Etr} (hm : ∀ e ∈ m, ∀ x ∈ e.right.parts, x.size ≤ 60) {s : ByteArray} (hs : s.size ≤ 500) : (byE m s).1.size ≤ 100000 := by
 unfold byE
 cases hf : m.find? (fun x => hasG x.lrg s) with
 | none => exact Nat.zero_le _
 | some x => exact fwd_sz (hm x (List.mem_of_find?_eq_some hf)) hs
theorem Built.p500 {l : List Chg} {d : Dep} (h : Built l d) : (∀ c ∈ l, sC c) → ∀ v ∈ d.revs, v.path.size ≤ 500 := by
 induction h with
 | nil => intro _ r hr; simp [zDep] at hr
 | skip c h ih => intro hl; exact ih fun c hc => hl c (List.mem_append_left _ hc)
 | @app l d c h hc hk ih =>
   intro hl v hv
   simp only [appD, List.mem_append, List.mem_map] at hv
   rcases hv with hv | ⟨e, he, rfl⟩
   ·exact ih (fun c hc => hl c (List.mem_append_left _ hc)) v hv
   ·have := (hl c (by simp)).1 e he
    simp only [sE] at this
    simp only [made]
    omega
theorem mrgF_to {f : Fil} {rest : List Fil} {ln : List Rev} {w : Rev} {mv : ByteArray} : ∀ (n i : Nat), ∀ x ∈ mrgF f rest ln w mv n i, x.to = w.path ∧ x.move = mv ∧ x.head = w.num
 | 0, i, x, h => by cases h
 | n + 1, i, x, h => by
   rw [mrgF] at h
   split at h
   ·split at h
    ·rcases List.mem_cons.1 h with rfl | h
     ·exact ⟨rfl, rfl, rfl⟩
     ·exact mrgF_to n _ x h
    ·exact mrgF_to n _ x h
   ·cases h
theorem tskF_C {d : Dep} (hg : Good d.revs) (hp : ∀ v ∈ d.revs, v.path.size ≤ 500) {m : List Etr} (hm : ∀ e ∈ m, ∀ x ∈ e.right.parts, x.size ≤ 60) : ∀ x ∈ tskF d m, TskC d x ∧ x.to.size ≤ 100000 ∧ x.move.size ≤ 100000 := by
 intro x hx
 obtain ⟨p, hpm, hx⟩ := List.mem_flatMap.1 hx
 obtain ⟨v0, hv0, rfl⟩ := pathsF_mem hpm
 have hne : d.revs ≠ [] := by intro e; rw [e] at hv0; cases hv0
 have ht := by_sz hm (hp v0 hv0)
 have h0 : noS.size ≤ 100000 := Nat.zero_le _
 have hbr : ∀ v, TskC d (brT d v0.path (byE m v0.path).1 v) := fun v => ⟨rfl, fun h => absurd rfl h, hne⟩
 unfold tskP at hx
 simp only at hx
 split at hx
 ·cases hx
 split at hx
 ·split at hx
  ·cases hx
  ·simp only [List.mem_singleton] at hx
   subst hx
   exact ⟨hbr _, ht, h0⟩
 ·rename_i w q htg
  obtain ⟨t1, t2, t3⟩ := tgtK_some hg htg
  have hw := hp w (last_mem t1).1
  split at hx
  ·split at hx
   ·cases hx
   ·simp only [List.mem_singleton] at hx
    subst hx
    exact ⟨hbr _, ht, h0⟩
  ·rename_i w3
   unfold mrgR at hx
   obtain ⟨a, b, c⟩ := mrgF_to _ _ x hx
   refine ⟨⟨?_, fun _ => ?_, hne⟩, by rw [a]; omega, ?_⟩
   ·rw [a, c, lastNum, t1]; rfl
   ·rw [a, live, t1]
    simp only [gone]
    simp [t2, w3]
   ·rw [b]
    unfold movF
    split
    ·exact ht
    ·exact h0
end Go.Proofs.YtmhboloicpieeaaGreatDoor
namespace Go.Proofs.YtmhboloicpieeaaGreatDoor
open Go.Ab Tys
variable [Dr]
def opA (A : List (Fil × SV)) (t : Fil) (v u : Rev) : Bool := bif decide (u.chg ≤ v.chg) then !subB (((alook A (fileOf u)).map SV.con).getD []) (((alook A t).map SV.cre).getD []) else false
def remR (A : List (Fil × SV)) (t : Fil) (v : Rev) (l : List Rev) : List Fil := (l.filter (opA A t v)).map fileOf
theorem remR_len (A : List (Fil × SV)) (t : Fil) (v : Rev) (l : List Rev) : (remR A t v l).length ≤ l.length := by simp only [remR, List.length_map]; exact List.length_filter_le ..
theorem remR_eq {d : Dep} {A : List (Fil × SV)} (hA : SvOK A (SA d)) (t : Fil) (v : Rev) : remR A t v (line d (first d v)) = remL d v t := by
 rw [remR, line, remL, List.filter_filter]
 congr 1
 apply List.filter_congr
 intro u hu
 rw [Bool.eq_iff_iff]
 simp only [Bool.and_eq_true, inLine, opA, decide_eq_true_eq, Bool.not_eq_true', decide_eq_false_iff_not]
 have hs : subB (((alook A (fileOf u)).map SV.con).getD []) (((alook A t).map SV.cre).getD []) = true ↔ ∀ g, (SA d (fileOf u)).con g → (SA d t).cre g := by
  simp only [subB, List.all_eq_true, decide_eq_true_eq]
  exact ⟨fun h g hg => (hA.cre t g).2 (h g ((hA.con _ g).1 hg)), fun h g hg => (hA.cre t g).1 (h g ((hA.con _ g).2 hg))⟩
 by_cases hc : u.chg ≤ v.chg
 ·rw [decide_eq_true hc]
  simp only [cond_true, Bool.not_eq_true', Open]
  rw [← hs]
  constructor
  ·rintro ⟨h1, h2, h3⟩; exact ⟨h2, h3, hc, by simp [h1]⟩
  ·rintro ⟨h1, h2, _, h3⟩; exact ⟨by simpa using h3, h1, h2⟩
 ·rw [decide_eq_false hc]
  simp [hc]
theorem line_mem {d : Dep} {f : Fil} {u : Rev} (h : u ∈ line d f) : u ∈ d.revs ∧ ¬ u.act = 5 := by
 obtain ⟨h1, h2⟩ := List.mem_filter.1 h
 refine ⟨h1, ?_⟩
 simp [inLine] at h2
 exact h2.1
@[reducible] def rB : ByteArray := { data := #[47, 47, 109, 47, 102] }
@[reducible] def rD : ByteArray := { data := #[47, 47, 100, 47, 102] }
@[reducible] def rw1 : Rev := ⟨rB, 1, 1, 1, 1, false, false, false, 0, 0, ByteArray.empty, 0⟩
@[reducible] def e0 : Dep := ⟨[rw1], []⟩
@[reducible] def t0 : Tsk := ⟨1, rB, 1, rB, 1, 1, rD, 0, noS, 0, noS⟩
@[reducible] def w0 : Rsn := ⟨0, false, false, false, 0, 0, false⟩
theorem e0_cases {i : Nat} {v : Rev} (h : e0.revs[i]? = some v) : i = 0 ∧ v = rw1 := by
 rcases i with _ | i
 ·simp at h; exact ⟨rfl, h.symm⟩
 ·simp at h
theorem good_e0 : Good e0.revs := by
 constructor
 ·intro i v h; obtain ⟨rfl, rfl⟩ := e0_cases h; simp
 ·intro i v h; obtain ⟨rfl, rfl⟩ := e0_cases h; simp
 ·intro i j u v hij hu hv; obtain ⟨rfl, rfl⟩ := e0_cases hu; obtain ⟨rfl, rfl⟩ := e0_cases hv; omega
 ·intro i j u v hij hu hv; obtain ⟨rfl, rfl⟩ := e0_cases hu; obtain ⟨rfl, rfl⟩ := e0_cases hv; omega
 ·intro i v h h1 h4; obtain ⟨rfl, rfl⟩ := e0_cases h; exact absurd rfl h1
 ·intro i v h h4; obtain ⟨rfl, rfl⟩ := e0_cases h; exact absurd h4 (by decide)
 ·intro i v h h4; obtain ⟨rfl, rfl⟩ := e0_cases h; exact absurd h4 (by decide)
 ·intro i j u v hij hu hv u4; obtain ⟨rfl, rfl⟩ := e0_cases hu; exact absurd u4 (by decide)
theorem num_e0 : NumOK e0 := by
 intro v hv
 simp only [e0, List.mem_singleton] at hv
 subst hv
 decide
theorem use_rD : usableB rD = true := by kernel_rfl
theorem fits_e0 : Fits e0 t0 := by
 refine ⟨by decide, by decide, by decide, ?_, use_rD, by decide, by decide⟩
 intro n h1 h2
 have : n = 1 := by simp only [t0] at h1 h2; omega
 subst this
 decide
theorem res_e0 : resA e0 t0 2 w0 = .tup [(false, [.d (.ps 12 ([⟨rD, 1, 1, false, false, false, 0, 0, 0, noS, 0, 0⟩].map encEdt))]), (false, [.d (.ps 6 [encRcd ⟨rB, 1, 1, rD, 1, 1⟩])]), pI 0] := by
 rw [resA_ok (by simp [fitsB, fits_e0]) (by decide) (by decide)]
 have h1 : resEs e0 t0 2 w0 = [⟨rD, 1, 1, false, false, false, 0, 0, 0, noS, 0, 0⟩] := by decide
 have h2 : resRc e0 t0 2 w0 = ⟨rB, 1, 1, rD, 1, 1⟩ := by decide
 rw [h1, h2]
def k9 := And.intro @Tryz.ntmps9 <| And.intro @Tryz.underlying28 <| And.intro @Tryz.underlying50 <| And.intro @bld30 <| And.intro @bld37 <| And.intro @bld39 <| And.intro @bld41 <| And.intro @bld46 <| And.intro @bld54 <| And.intro @bld56 <| And.intro @bld76 <| And.intro @elt27 <| And.intro @elt28 <| And.intro @elt50 <| And.intro @fld30_0 <| And.intro @fld37_0 <| And.intro @fld37_1 <| And.intro @fld39_0 <| And.intro @fld39_1 <| And.intro @fld39_2 <| And.intro @fld39_3 <| And.intro @fld39_4 <| And.intro @fld39_5 <| And.intro @fld41_0 <| And.intro @fld46_0 <| And.intro @fld46_1 <| And.intro @fld46_2 <| And.intro @fld46_3 <| And.intro @fld46_4 <| And.intro @fld56_1 <| And.intro @fld76_5 <| And.intro @ti27 <| And.intro @ti28 <| And.intro @ti3 <| And.intro @ti30 <| And.intro @ti37 <| And.intro @ti39 <| And.intro @ti41 <| And.intro @ti46 <| And.intro @ti50 <| And.intro @ti54 <| And.intro @ti56 <| And.intro @ti76 <| @ti9
theorem v9U15 {G G' : Prop} (g : G') (h : Hid G' → G := by intro h9; (first | refine nvB ?_ | refine goA (wr := false) (by simp only [kB, kG, kS, k9, Nat.reduceAdd, Nat.reduceLT, Nat.reduceEqDiff, ↓reduceIte, reduceCtorEq]; first | done | rfl) ?_); (repeat (first | refine nvB ?_ | refine goA (wr := false) (by simp only [kB, kG, kS, k9, Nat.reduceAdd, Nat.reduceLT, Nat.reduceEqDiff, ↓reduceIte, reduceCtorEq]; first | done | rfl) ?_)); exact h9.out) : G := h ⟨g⟩
theorem awake17_ac : AC Tryz.prog 9 [] [] (fun r st => r = B true ∧ st = []) := by
 have hR := Resolve_ac e0 good_e0 (by decide) num_e0 t0 (by decide) (by decide) 2 w0
 rw [res_e0] at hR
 refine AC_enter Tryz.func9 rfl rfl (by simp only [Tryz.ntmps9, List.length]; omega) ?_
 intro x hx
 simp only [List.range, List.range.loop, List.length, List.zip, List.zipWith, Nat.reduceAdd, Tryz.ntmps9]
 refine nvA ?_
 refine goA (wr := false) (by simp only [kB, kG, kS, k9, Nat.reduceAdd, Nat.reduceLT, Nat.reduceEqDiff, ↓reduceIte, reduceCtorEq]; first | done | rfl) ?_
 refine nvA ?_
 refine goA (wr := false) (by simp only [kB, kG, kS, k9, Nat.reduceAdd, Nat.reduceLT, Nat.reduceEqDiff, ↓reduceIte, reduceCtorEq]; first | done | rfl) ?_
 refine nvA ?_
 refine TO_go (wr := false) 2 (by simp only [kB, kG, kS, k9, Nat.reduceAdd, Nat.reduceLT, Nat.reduceEqDiff, ↓reduceIte, reduceCtorEq]; first | done | rfl) ?_ ?_
 ·exact obN
 refine TO_ent (Ent_frzSlot (i := 10) (id := 10) (ys := e0.revs.map encRev) rfl rfl rfl) ?_
 refine fzA ?_
 refine goA (wr := false) (by simp only [kB, kG, kS, k9, Nat.reduceAdd, Nat.reduceLT, Nat.reduceEqDiff, ↓reduceIte, reduceCtorEq]; first | done | rfl) ?_
 refine nvA ?_
 refine TO_ent (Ent_nilCell (bid := 2) (j := 1) 6 rfl rfl) ?_
 refine fzA ?_
 refine goA (wr := false) (by simp only [kB, kG, kS, k9, Nat.reduceAdd, Nat.reduceLT, Nat.reduceEqDiff, ↓reduceIte, reduceCtorEq]; first | done | rfl) ?_
 refine nvA ?_
 (repeat (first | refine v9U15 ?_ | (refine caA [] (hR) ?_; rintro r st' ⟨rfl, rfl⟩; refine frA ?_)))
 refine TO_go (wr := false) 400 (by simp only [kB, kG, kS, k9, Nat.reduceAdd, Nat.reduceLT, Nat.reduceEqDiff, ↓reduceIte, reduceCtorEq, Int.toNat_zero, encEdt, encRcd, cond_true, show ((1 : Nat) : Int) = 1 from rfl]; first | done | rfl) ?_ ?_
 ·simp [All, InR, obls, conj, strip]
 try refine v9U15 ?_
 refine rtA (by simp only [kR, Tryz.results9, ↓reduceIte, Nat.reduceEqDiff, reduceCtorEq]; first | done | rfl) ([]) ?_
 refine ⟨?_, rfl⟩
 rfl
end Go.Proofs.YtmhboloicpieeaaGreatDoor
