/- Plain Lean: what a token's kind, first byte, text and number have to do with one another. No program in sight. -/
import Derived.Test.YthdkjfhpbigdpaaDoorHLexLaw
namespace Go.Proofs.YthdkjfhpbigdpaaDoor.HLex
theorem tok_first : ∀ (l : List UInt8) (pos : Nat) (ts : List Tok), lexs pos l = .ok ts → ∀ t ∈ ts, first t.text = .ok (t.kind, t.text, t.n) := by
  refine lexs_induct (M := fun l => ∀ (pos : Nat) (ts : List Tok), lexs pos l = .ok ts → ∀ t ∈ ts, first t.text = .ok (t.kind, t.text, t.n)) ?_ ?_ ?_
  · intro l h pos ts e; rw [lexs_nil _ h] at e; cases e; simp
  · intro l e' h h1 pos ts e; rw [lexs_err _ h h1] at e; cases e
  · intro l k t n h h1 ih pos ts e
    rw [lexs_tok _ h h1] at e
    cases hr : lexs (pos + (l.length - (l.dropWhile blank).length) + t.length) ((l.dropWhile blank).drop t.length) with
    | error x => rw [hr] at e; cases e
    | ok us =>
      rw [hr] at e; cases e
      intro u hu
      rcases List.mem_cons.1 hu with rfl | hu
      · exact first_self h1
      · exact ih _ us hr u hu
theorem first_or {r t : List UInt8} {k n : Nat} (h : first r = .ok (k, t, n)) : (t = r.takeWhile wordly ∧ t ≠ [] ∧ named t = .ok (k, n)) ∨ (r.takeWhile wordly = [] ∧ k = 5 ∧ n = 0 ∧ t ∈ signs) := by
  cases first_is h with
  | word h1 h2 => exact .inl ⟨rfl, h1, h2⟩
  | sign h1 h2 => exact .inr ⟨h1, rfl, rfl, List.mem_of_find?_eq_some h2⟩
inductive KindIs (c : UInt8) (t : Tok) : Prop
  | name : lower c = true → t.kind = 1 → isWord t.text = false → t.n = 0 → KindIs c t
  | word : lower c = true → t.kind = 4 → isWord t.text = true → t.n = 0 → KindIs c t
  | con : upper c = true → t.kind = 2 → isWord t.text = false → t.n = 0 → KindIs c t
  | int : digit c = true → t.kind = 3 → isWord t.text = false → t.n = num t.text → (∀ d ∈ t.text, digit d = true) → KindIs c t
  | sign : wordly c = false → t.kind = 5 → isWord t.text = false → t.n = 0 → KindIs c t
theorem word_head : ∀ w ∈ words, ∀ c r, w = c :: r → lower c = true := by
  intro w hw c r e
  subst e
  simp only [words, List.mem_cons, List.mem_nil_iff, or_false] at hw
  rcases hw with e | e | e | e | e <;> (injection e with e1 e2; subst e1; decide)
theorem sign_word : ∀ s ∈ signs, isWord s = false := by
  intro s hs
  simp only [signs, List.mem_cons, List.mem_nil_iff, or_false] at hs
  rcases hs with rfl | rfl | rfl | rfl | rfl | rfl | rfl | rfl | rfl | rfl | rfl | rfl | rfl | rfl | rfl <;> decide
theorem low_not {c : UInt8} (h : lower c = true) : upper c = false ∧ digit c = false := by
  simp only [lower, upper, digit, Bool.and_eq_true, decide_eq_true_eq, Bool.and_eq_false_imp, decide_eq_false_iff_not] at *
  omega
theorem wordly_low {c : UInt8} (h : wordly c = true) (h1 : digit c = false) (h2 : upper c = false) : lower c = true := by
  simpa [wordly, h1, h2] using h
theorem wordly_digit {c : UInt8} (h : wordly c = true) (h1 : ¬ 57 < c.toNat) : digit c = true := by
  simp only [wordly, lower, upper, digit, Bool.or_eq_true, Bool.and_eq_true, decide_eq_true_eq] at *
  omega
theorem kind_of {t : Tok} (h : first t.text = .ok (t.kind, t.text, t.n)) : ∃ c r, t.text = c :: r ∧ t.text.length ≤ 18 ∧ KindIs c t := by
  cases hx : t.text with
  | nil => exact absurd hx (first_pre h).2
  | cons c r =>
    refine ⟨c, r, rfl, ?_⟩
    rw [← hx]
    rcases first_or h with ⟨h1, h2, h3⟩ | ⟨h1, h2, h3, h4⟩
    · have hall : ∀ d ∈ t.text, wordly d = true := by rw [h1]; exact tw_all _ _
      have hc : wordly c = true := hall c (by rw [hx]; exact List.mem_cons_self ..)
      have hnw : lower c = false → isWord t.text = false := fun hl => by
        cases e : isWord t.text with
        | false => rfl
        | true => rw [word_head _ ((isWord_iff _).1 e) c r hx] at hl; cases hl
      unfold named at h3
      have hh : t.text.head? = some c := by rw [hx]; rfl
      rw [hh] at h3
      simp only [Option.map_some, Option.getD_some] at h3
      by_cases hd : digit c = true
      · rw [if_pos hd] at h3
        split at h3
        · cases h3
        · rename_i hany
          split at h3
          · cases h3
          · rename_i hlen
            simp only [Except.ok.injEq, Prod.mk.injEq] at h3
            have hlo : lower c = false := by
              cases e : lower c with
              | false => rfl
              | true => rw [(low_not e).2] at hd; cases hd
            refine ⟨by omega, .int hd h3.1.symm (hnw hlo) h3.2.symm fun d hd => wordly_digit (hall d hd) fun hlt => hany ?_⟩
            rw [List.any_eq_true]; exact ⟨d, hd, by simpa using hlt⟩
      · rw [if_neg hd] at h3
        have hd' : digit c = false := by simpa using hd
        split at h3
        · cases h3
        · rename_i hlen
          split at h3
          · rename_i hw
            simp only [Except.ok.injEq, Prod.mk.injEq] at h3
            exact ⟨by omega, .word (word_head _ ((isWord_iff _).1 hw) c r hx) h3.1.symm hw h3.2.symm⟩
          · rename_i hw
            have hw' : isWord t.text = false := by simpa using hw
            split at h3
            · rename_i hu
              simp only [Except.ok.injEq, Prod.mk.injEq] at h3
              exact ⟨by omega, .con hu h3.1.symm hw' h3.2.symm⟩
            · rename_i hu
              simp only [Except.ok.injEq, Prod.mk.injEq] at h3
              exact ⟨by omega, .name (wordly_low hc hd' (by simpa using hu)) h3.1.symm hw' h3.2.symm⟩
    · have hc : wordly c = false := by
        rw [hx] at h1
        cases e : wordly c with
        | false => rfl
        | true => simp [List.takeWhile, e] at h1
      have := (sign_facts _ h4).2.1
      exact ⟨by omega, .sign hc h2 (sign_word _ h4) h3⟩
end Go.Proofs.YthdkjfhpbigdpaaDoor.HLex
