/- Plain Lean: the number of digits, digit by digit. No program in sight. -/
import Derived.Test.YthdkjfhpbigdpaaDoorHLexLaw
namespace Go.Proofs.YthdkjfhpbigdpaaDoor.HLex
theorem num_snoc (l : List UInt8) (c : UInt8) : num (l ++ [c]) = 10 * num l + (c.toNat - 48) := by unfold num; rw [List.foldl_append]; rfl
theorem num_take (l : List UInt8) (j : Nat) (h : j < l.length) : num (l.take (j + 1)) = 10 * num (l.take j) + (l[j].toNat - 48) := by
  rw [List.take_succ_eq_append_getElem h, num_snoc]
theorem num_lt (l : List UInt8) (h : ∀ d ∈ l, digit d = true) : ∀ j, j ≤ l.length → num (l.take j) < 10 ^ j
  | 0, _ => by simp [num]
  | j + 1, hj => by
    have ih := num_lt l h j (by omega)
    have hd := h l[j] (List.getElem_mem (by omega))
    rw [num_take l j (by omega)]
    simp only [digit, Bool.and_eq_true, decide_eq_true_eq] at hd
    rw [Nat.pow_succ]; omega
theorem num_small (l : List UInt8) (h : ∀ d ∈ l, digit d = true) (j : Nat) (hj : j ≤ l.length) (h17 : j ≤ 17) : num (l.take j) < 100000000000000000 :=
  Nat.lt_of_lt_of_le (num_lt l h j hj) (Nat.pow_le_pow_right (by decide) h17)
end Go.Proofs.YthdkjfhpbigdpaaDoor.HLex
