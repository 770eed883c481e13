-- Written for this claim by a program of this session.
import Derived.Test.YthgmpflfgicmbaaDoorQx0
import Derived.Test.YthgmpflfgicmbaaDoorHLexPl
namespace Go.Proofs.YthgmpflfgicmbaaDoor.Q
open Go.RowKit Go.Proofs.YthgmpflfgicmbaaDoorW.PrintWords Go.Proofs.YthgmpflfgicmbaaDoorW.PrintLast Go.Proofs.YthgmpflfgicmbaaDoorW.PrintMore
attribute [local go_sem] max2_int min2_int max_two min_two max_three min_three max_four min_four   -- for this text's walks alone
set_option linter.unusedVariables false
set_option linter.unusedSimpArgs false

--HAND gossamerref01_Placeless
/-! ### gossamerref01_Placeless -/
def gossamerref01_Placeless.f (l0 : List (S33)) : Option (List (S33)) :=
  if l0.length ≤ 1000000 then some (l0.map HLexC.pl0) else none
theorem gossamerref01_Placeless.calls (A0 : Option Addr) (c0 : Nat) (l0 : List (S33)) (r : List (S33)) (w : World) (hr0 : Kd.C k33 w A0 l0.length l0) (hc0 : l0.length ≤ c0) (h : gossamerref01_Placeless.f l0 = some r) :
    Calls Tryd.prog 17 #[.slice A0 l0.length c0] w fun e w' => ∃ v0_ : Value, e = .returned (v0_) ∧ Kd.R k33 33 w' w.heap.size (fun _ => True) v0_ r ∧ Below w.heap.size w w' := by
  unfold gossamerref01_Placeless.f at h
  by_cases h1 : l0.length ≤ 1000000
  · rw [if_pos h1] at h
    obtain rfl := Option.some.inj h
    exact HLexC.placeless_any A0 c0 l0 w hr0 hc0 h1
  · rw [if_neg h1] at h; cases h

end Go.Proofs.YthgmpflfgicmbaaDoor.Q
