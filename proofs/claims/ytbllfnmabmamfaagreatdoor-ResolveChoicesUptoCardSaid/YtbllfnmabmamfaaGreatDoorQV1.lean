/- The library's sort of numbers, by the kit's contract. -/
import Derived.Test.YtbllfnmabmamfaaGreatDoorQAbSo
import Derived.Test.YtbllfnmabmamfaaGreatDoorQU11
import Derived.Ground.NamesProg
import Derived.Shelf.Lay
import Derived.Shelf.Sort.Plain
set_option linter.all false

namespace Go.Proofs
open Go.Shelf
shelf_lay Lays.n189 Nm 189 at Tryz as Tryz.lays189
end Go.Proofs
namespace Go.Proofs.YtbllfnmabmamfaaGreatDoor
open Go.Ab Tys
theorem sortI_ac (l : List Int) (h0 : l ≠ []) (hl : l.length ≤ 1000000) (id : Nat) :
    AC Tryz.prog 43 [.c (.ms id 1 0 l.length)] [(id, dArr 1 (l.map encN))] (fun r st => r = .tup [] ∧ st = [(id, dArr 1 ((l.mergeSort fun x y => decide (x ≤ y)).map encN))]) := by
  have h := AC_sort1 (P := Tryz.prog) (f := 43) (enc := Value.int .i64) (fun _ => rfl) (l := l) (l' := l.mergeSort fun x y => decide (x ≤ y)) (by simp) ⟨_, Tryz.func43, by kernel_rfl, by kernel_rfl⟩
    (fun blk off cap w hH hb => Any.slices_Sort_int Tryz.lays189 blk off cap l w hH hb (by omega)) (fun e => absurd e h0) id
  have e : ∀ l : List Int, (l.map encN).map (fun l => l.map C.d) = l.map fun z => [C.d (.v (.int .i64 z))] := fun l => by rw [List.map_map]; rfl
  simp only [dArr, e]
  exact h
theorem sort_perm {l m : List Int} (hp : l.Perm m) (hm : m.Pairwise fun x y => x ≤ y) : l.mergeSort (fun x y => decide (x ≤ y)) = m := by
  have h1 : (l.mergeSort fun x y => decide (x ≤ y)).Perm m := (List.mergeSort_perm l _).trans hp
  have h2 : (l.mergeSort fun x y => decide (x ≤ y)).Pairwise fun x y => x ≤ y := by
    have := List.pairwise_mergeSort (le := fun x y : Int => decide (x ≤ y)) (fun a b c h h' => by simp only [decide_eq_true_eq] at *; omega) (fun a b => by simp only [Bool.or_eq_true, decide_eq_true_eq]; omega) l
    exact this.imp fun h => by simpa using h
  exact h1.eq_of_pairwise (fun a b _ _ h h' => Int.le_antisymm h h') h2 hm
end Go.Proofs.YtbllfnmabmamfaaGreatDoor
