-- Written for this claim.
import Derived.Test.YthgmpflfgicmbaaDoorQx18
import Derived.Test.YthgmpflfgicmbaaDoorPLexMore
namespace Go.Proofs.YthgmpflfgicmbaaDoor.Pure
open Go Go.RowKit Go.Proofs.YthgmpflfgicmbaaDoor.Q Go.Proofs.YthgmpflfgicmbaaDoorW.PrintWords Go.Proofs.YthgmpflfgicmbaaDoorW.PrintLast Go.Proofs.YthgmpflfgicmbaaDoorW.PrintMore
open HLexC (toS)
open HLex (Tok Stands)
open More
namespace More
/-- A token without its place. -/
def place0 (t : Tok) : Tok := { t with pos := 0 }
theorem placeless_ev (ts : List Tok) (h0 : ts.length ≤ 1000000) : gossamerref01_Placeless.f (ts.map toS) = some ((ts.map place0).map toS) := by
  unfold gossamerref01_Placeless.f
  rw [if_pos (by simpa using h0), List.map_map, List.map_map]
  rfl
end More
end Go.Proofs.YthgmpflfgicmbaaDoor.Pure
