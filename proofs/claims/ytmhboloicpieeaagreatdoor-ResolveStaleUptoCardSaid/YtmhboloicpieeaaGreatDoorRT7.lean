/- A part of the proof. -/
import Derived.Test.YtmhboloicpieeaaGreatDoorRU7
import Derived.Test.YtmhboloicpieeaaGreatDoorRT5
import Derived.Test.YtmhboloicpieeaaGreatDoorRU10
set_option linter.all false
namespace Go.Proofs.YtmhboloicpieeaaGreatDoor
open Go.Ab Tys
variable [Dr]
structure IntoG (rs : List Rcd) (G : List (Fil × (Value × List Rcd))) (ps : List (Value × List (List D))) : Prop where
 perm : ps.Perm (poolOf encRcd G)
 look : ∀ f, (alook (unV G) f).getD [] = rs.filter fun r => decide ((⟨r.to, r.num⟩ : Fil) = f)
 ne : ∀ f, alook (unV G) f ≠ some []
theorem IntoG.step {rs : List Rcd} {G : List (Fil × (Value × List Rcd))} {ps ps' : List (Value × List (List D))} (h : IntoG rs G ps) (r : Rcd) (v : Value) (zs : List Rcd) (hz : zs = (alook (unV G) ⟨r.to, r.num⟩).getD [] ++ [r])
  (hp : ps'.Perm (poolOf encRcd (aput G ⟨r.to, r.num⟩ (v, zs)))) : IntoG (rs ++ [r]) (aput G ⟨r.to, r.num⟩ (v, zs)) ps' := by
 refine ⟨hp, ?_, ?_⟩
 ·intro f
  rw [aput_unV, alook_aput, List.filter_append, ← h.look f]
  by_cases e : f = ⟨r.to, r.num⟩
  ·subst e; rw [if_pos rfl, hz]; simp
  ·rw [if_neg e]
   have : List.filter (fun r' => decide ((⟨r'.to, r'.num⟩ : Fil) = f)) [r] = [] := by simp; exact fun h => e h.symm
   rw [this, List.append_nil]
 ·intro f
  rw [aput_unV, alook_aput]
  split
  ·rw [hz]; simp
  ·exact h.ne f
end Go.Proofs.YtmhboloicpieeaaGreatDoor
