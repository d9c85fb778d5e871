/- A part of the proof: contracts of functions of the program over abstract states. -/
import Derived.Test.YtbllfnmabmamfaaGreatDoorQH1
import Derived.Test.YtbllfnmabmamfaaGreatDoorQU8
set_option linter.all false
namespace Go.Proofs.YtbllfnmabmamfaaGreatDoor
open Go.Ab Tys
theorem emp : ByteArray.empty = noS := rfl
theorem resA_bad {d : Dep} {t : Tsk} {ch : Int} {w : Rsn} (hf : fitsB d t = true) (h : (allowB t.kind ch && permB t ch w) = false) : resA d t ch w = .tup [nilP, nilP, pI 171] := by
  simp [resA, hf, h]
theorem resA_ok {d : Dep} {t : Tsk} {ch : Int} {w : Rsn} (hf : fitsB d t = true) (h1 : allowB t.kind ch = true) (h2 : permB t ch w = true) : resA d t ch w = .tup [(false, [.d (.ps 12 ((resEs d t ch w).map encEdt))]), (false, [.d (.ps 6 [encRcd (resRc d t ch w)])]), pI 0] := by
  simp [resA, hf, h1, h2]
end Go.Proofs.YtbllfnmabmamfaaGreatDoor
