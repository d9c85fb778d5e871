/- The library's sort of numbers, by the kit's contract. -/
import Derived.Test.YtbllfnmabmamfaaGreatDoorQAbSo
import Derived.Test.YtbllfnmabmamfaaGreatDoorQU11
import Derived.Ground.NamesProg
import Derived.Shelf.Sort.Plain
set_option linter.all false

namespace Go.Proofs
open Go.Shelf
def Tryz.lays189_ren : Go.Shelf.Ren:=⟨fun | 189 => 43 | 125 => 87 | 257 => 86 | 128 => 129 | 129 => 130 | 294 => 120 | 295 => 121 | 296 => 122 | 297 => 123 | 298 => 124 | 299 => 125 | 216 => 126 | 300 => 127 | 301 => 128 | 328 => 162 | 329 => 163 | 330 => 164 | 331 => 165 | 332 => 166 | 215 => 161 | 343 => 180 | n => n, fun | 28 => 59 | 3 => 3 | 46 => 173 | 0 => 0 | 51 => 222 | 53 => 42 | 4 => 4 | 183 => 215 | 182 => 214 | 131 => 129 | 5 => 5 | 9 => 9 | 218 => 250 | 222 => 254 | 228 => 271 | 229 => 272 | n => n, fun | n => n⟩
theorem Tryz.lays189 : Go.Proofs.Lays.n189 Tryz.prog Tryz.lays189_ren:={
 mixed:=by kernel_rfl
 f125:=Tryz.func87.trans (congrArg some (by kernel_rfl))
 f128:=Tryz.func129.trans (congrArg some (by kernel_rfl))
 f129:=Tryz.func130.trans (congrArg some (by kernel_rfl))
 f189:=Tryz.func43.trans (congrArg some (by kernel_rfl))
 f215:=Tryz.func161.trans (congrArg some (by kernel_rfl))
 f216:=Tryz.func126.trans (congrArg some (by kernel_rfl))
 f257:=Tryz.func86.trans (congrArg some (by kernel_rfl))
 f294:=Tryz.func120.trans (congrArg some (by kernel_rfl))
 f295:=Tryz.func121.trans (congrArg some (by kernel_rfl))
 f296:=Tryz.func122.trans (congrArg some (by kernel_rfl))
 f297:=Tryz.func123.trans (congrArg some (by kernel_rfl))
 f298:=Tryz.func124.trans (congrArg some (by kernel_rfl))
 f299:=Tryz.func125.trans (congrArg some (by kernel_rfl))
 f300:=Tryz.func127.trans (congrArg some (by kernel_rfl))
 f301:=Tryz.func128.trans (congrArg some (by kernel_rfl))
 f328:=Tryz.func162.trans (congrArg some (by kernel_rfl))
 f329:=Tryz.func163.trans (congrArg some (by kernel_rfl))
 f330:=Tryz.func164.trans (congrArg some (by kernel_rfl))
 f331:=Tryz.func165.trans (congrArg some (by kernel_rfl))
 f332:=Tryz.func166.trans (congrArg some (by kernel_rfl))
 f343:=Tryz.func180.trans (congrArg some (by kernel_rfl))
 t0:=Tryz.underlying0
 a0:=Tryz.isAgg0
 z0:=Tryz.sizeOf0
 v0:=Tryz.zeroValue0
 t3:=Tryz.underlying3
 a3:=Tryz.isAgg3
 z3:=Tryz.sizeOf3
 v3:=Tryz.zeroValue3
 t4:=Tryz.underlying4
 a4:=Tryz.isAgg4
 z4:=Tryz.sizeOf4
 v4:=Tryz.zeroValue4
 t5:=Tryz.underlying5
 a5:=Tryz.isAgg5
 z5:=Tryz.sizeOf5
 v5:=Tryz.zeroValue5
 t9:=Tryz.underlying9
 a9:=Tryz.isAgg9
 z9:=Tryz.sizeOf9
 v9:=Tryz.zeroValue9
 t28:=Tryz.underlying59
 a28:=Tryz.isAgg59
 z28:=Tryz.sizeOf59
 v28:=Tryz.zeroValue59
 t46:=Tryz.underlying173
 a46:=Tryz.isAgg173
 z46:=Tryz.sizeOf173
 v46:=Tryz.zeroValue173
 t51:=Tryz.underlying222
 a51:=Tryz.isAgg222
 z51:=Tryz.sizeOf222
 v51:=Tryz.zeroValue222
 t53:=Tryz.underlying42
 a53:=Tryz.isAgg42
 z53:=Tryz.sizeOf42
 v53:=Tryz.zeroValue42
 t131:=Tryz.underlying129
 a131:=Tryz.isAgg129
 z131:=Tryz.sizeOf129
 v131:=Tryz.zeroValue129
 t182:=Tryz.underlying214
 a182:=Tryz.isAgg214
 z182:=Tryz.sizeOf214
 v182:=Tryz.zeroValue214
 t183:=Tryz.underlying215
 a183:=Tryz.isAgg215
 z183:=Tryz.sizeOf215
 v183:=Tryz.zeroValue215
 t218:=Tryz.underlying250
 a218:=Tryz.isAgg250
 z218:=Tryz.sizeOf250
 v218:=Tryz.zeroValue250
 t222:=Tryz.underlying254
 a222:=Tryz.isAgg254
 z222:=Tryz.sizeOf254
 v222:=Tryz.zeroValue254
 t228:=Tryz.underlying271
 a228:=Tryz.isAgg271
 z228:=Tryz.sizeOf271
 v228:=Tryz.zeroValue271
 t229:=Tryz.underlying272
 a229:=Tryz.isAgg272
 z229:=Tryz.sizeOf272
 v229:=Tryz.zeroValue272 }
end Go.Proofs
namespace Go.Proofs.YtbllfnmabmamfaaGreatDoor
open Go.Ab Tys
theorem sortI_ac (l : List Int) (h0 : l ≠ []) (hl : l.length ≤ 1000000) (id : Nat) :
    AC Tryz.prog 43 [.c (.ms id 1 0 l.length)] [(id, dArr 1 (l.map encN))] (fun r st => r = .tup [] ∧ st = [(id, dArr 1 ((l.mergeSort fun x y => decide (x ≤ y)).map encN))]) := by
  have h := AC_sort1 (P := Tryz.prog) (f := 43) (enc := Value.int .i64) (fun _ => rfl) (l := l) (l' := l.mergeSort fun x y => decide (x ≤ y)) (by simp) ⟨_, Tryz.func43, by kernel_rfl, by kernel_rfl⟩
    (fun blk off cap w hH hb => Any.slices_Sort_int Tryz.lays189 blk off cap l w hH hb (by omega)) (fun e => absurd e h0) id
  have e : ∀ l : List Int, (l.map encN).map (fun l => l.map C.d) = l.map fun z => [C.d (.v (.int .i64 z))] := fun l => by rw [List.map_map]; rfl
  simp only [dArr, e]
  exact h
theorem sort_perm {l m : List Int} (hp : l.Perm m) (hm : m.Pairwise fun x y => x ≤ y) : l.mergeSort (fun x y => decide (x ≤ y)) = m := by
  have h1 : (l.mergeSort fun x y => decide (x ≤ y)).Perm m := (List.mergeSort_perm l _).trans hp
  have h2 : (l.mergeSort fun x y => decide (x ≤ y)).Pairwise fun x y => x ≤ y := by
    have := List.pairwise_mergeSort (le := fun x y : Int => decide (x ≤ y)) (fun a b c h h' => by simp only [decide_eq_true_eq] at *; omega) (fun a b => by simp only [Bool.or_eq_true, decide_eq_true_eq]; omega) l
    exact this.imp fun h => by simpa using h
  exact h1.eq_of_pairwise (fun a b _ _ h h' => Int.le_antisymm h h') h2 hm
end Go.Proofs.YtbllfnmabmamfaaGreatDoor
