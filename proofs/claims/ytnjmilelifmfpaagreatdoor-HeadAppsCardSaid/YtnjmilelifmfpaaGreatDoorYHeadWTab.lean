-- Written for this claim.
import Derived.Test.YtnjmilelifmfpaaGreatDoorYHeadWLast
import Derived.Test.YtnjmilelifmfpaaGreatDoorYHeadWWords
set_option linter.unusedSimpArgs false
set_option linter.unusedVariables false
namespace Go.Proofs.YtnjmilelifmfpaaGreatDoorW.PrintLast
open Go.Proofs.YtnjmilelifmfpaaGreatDoorW.PrintWords (Aside0)
def freeT (T : List (List Nat × List Nat)) (l : List Bool) (i : Nat) : Bool := match T[i]? with
  | some r => r.2.all (fun j => l.getD j true)
  | none => false
section
variable {md : Region.Mode} {ops : Array Oper} {T : Bool × List (List Nat × List Nat)} {l l' li lj lk : Array Bool} {ds : List Nat} {i j k : Nat}
theorem gd (l : Array Bool) (j : Nat) (b : Bool) : l.getD j b = l.toList.getD j b := by simp [Array.getD_eq_getD_getElem?, List.getD_eq_getElem?_getD]
end
end Go.Proofs.YtnjmilelifmfpaaGreatDoorW.PrintLast
