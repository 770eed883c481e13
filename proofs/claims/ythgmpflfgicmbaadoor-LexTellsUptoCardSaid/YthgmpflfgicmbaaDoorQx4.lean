-- Written for this claim by a program of this session.
import Derived.Test.YthgmpflfgicmbaaDoorQx0
import Derived.Test.YthgmpflfgicmbaaDoorHLexText
namespace Go.Proofs.YthgmpflfgicmbaaDoor.Q
open Go.RowKit Go.Proofs.YthgmpflfgicmbaaDoorW.PrintWords Go.Proofs.YthgmpflfgicmbaaDoorW.PrintLast Go.Proofs.YthgmpflfgicmbaaDoorW.PrintMore
attribute [local go_sem] max2_int min2_int max_two min_two max_three min_three max_four min_four   -- for this text's walks alone
set_option linter.unusedVariables false
set_option linter.unusedSimpArgs false

--HAND lex_Text
/-! ### lex_Text -/
def lex_Text.f (l0 : List (S33)) : Option ByteArray :=
  if l0.length ≤ 1000000 then
    if (HLexC.joined (l0.map (·.f1))).length ≤ 140737488355328 then some ⟨(HLexC.joined (l0.map (·.f1))).toArray⟩ else none
  else none
theorem lex_Text.calls (A0 : Option Addr) (c0 : Nat) (l0 : List (S33)) (r : ByteArray) (w : World) (hr0 : Kd.C k33 w A0 l0.length l0) (hc0 : l0.length ≤ c0) (h : lex_Text.f l0 = some r) :
    Calls Tryd.prog 13 #[.slice A0 l0.length c0] w fun e w' => e = .returned (.string r) ∧ Below w.heap.size w w' := by
  unfold lex_Text.f at h
  by_cases h1 : l0.length ≤ 1000000
  · rw [if_pos h1] at h
    by_cases h2 : (HLexC.joined (l0.map (·.f1))).length ≤ 140737488355328
    · rw [if_pos h2] at h
      obtain rfl := Option.some.inj h
      exact HLexC.text_any A0 c0 l0 w hr0 hc0 h1 h2
    · rw [if_neg h2] at h; cases h
  · rw [if_neg h1] at h; cases h

end Go.Proofs.YthgmpflfgicmbaaDoor.Q
