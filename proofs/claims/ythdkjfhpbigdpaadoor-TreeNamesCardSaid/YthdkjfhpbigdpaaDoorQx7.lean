-- Written for this claim by a program of this session.
import Derived.Test.YthdkjfhpbigdpaaDoorQx0
import Derived.Test.YthdkjfhpbigdpaaDoorHLexAll
namespace Go.Proofs.YthdkjfhpbigdpaaDoor.Q
open Go.RowKit Go.Proofs.YthdkjfhpbigdpaaDoorW.PrintWords Go.Proofs.YthdkjfhpbigdpaaDoorW.PrintLast Go.Proofs.YthdkjfhpbigdpaaDoorW.PrintMore
attribute [local go_sem] max2_int min2_int max_two min_two max_three min_three max_four min_four   -- for this text's walks alone
set_option linter.unusedVariables false
set_option linter.unusedSimpArgs false

--HAND lex_All
/-! ### lex_All -/
def lex_All.f (a0 : ByteArray) : Option ((List S33) × Int × Int) :=
  if a0.size ≤ 1000000000000 then
    match HLex.lex a0.data.toList with
    | .ok ts => some (ts.map HLexC.toS, 0, 0)
    | .error (p, er) => some ([], (p : Int), (er : Int))
  else none
theorem lex_All.calls (a0 : ByteArray) (r1 : List S33) (r2 : Int) (r3 : Int) (w : World) (h : lex_All.f a0 = some (r1, r2, r3)) :
    Calls Tryd.prog 38 #[.string a0] w fun e w' => ∃ v0_ : Value, e = .returned (.tuple #[v0_, .int .i64 r2, .int .i64 r3]) ∧ Kd.R k33 33 w' w.heap.size (fun _ => True) v0_ r1 ∧ Below w.heap.size w w' := by
  unfold lex_All.f at h
  by_cases hs : a0.size ≤ 1000000000000
  · rw [if_pos hs] at h
    refine (HLexC.all_any a0 w hs).mono fun e w' hp => ?_
    unfold HLexC.AllPost at hp
    cases hl : HLex.lex a0.data.toList with
    | ok ts =>
      rw [hl] at h hp
      simp only [Option.some.injEq, Prod.mk.injEq] at h
      obtain ⟨rfl, rfl, rfl⟩ := h
      exact hp
    | error x =>
      obtain ⟨p, er⟩ := x
      rw [hl] at h hp
      simp only [Option.some.injEq, Prod.mk.injEq] at h
      obtain ⟨rfl, rfl, rfl⟩ := h
      exact ⟨_, hp.1, Kd.R_nil _ _ _ _ _, hp.2⟩
  · rw [if_neg hs] at h; cases h

end Go.Proofs.YthdkjfhpbigdpaaDoor.Q
