/- Plain Lean: what the tokenizer obeys. No program in sight. -/
import Derived.Test.YthdkjfhpbigdpaaDoorHLex
namespace Go.Proofs.YthdkjfhpbigdpaaDoor.HLex

theorem tw_len (q : UInt8 → Bool) (l : List UInt8) : (l.takeWhile q).length ≤ l.length := (List.takeWhile_prefix q).length_le
theorem dw_len (q : UInt8 → Bool) (l : List UInt8) : (l.dropWhile q).length ≤ l.length := (List.dropWhile_suffix q).length_le
theorem tw_dw_len (q : UInt8 → Bool) (l : List UInt8) : (l.takeWhile q).length + (l.dropWhile q).length = l.length := by
  rw [← List.length_append, List.takeWhile_append_dropWhile]
theorem dw_eq_drop (q : UInt8 → Bool) (l : List UInt8) : l.drop (l.takeWhile q).length = l.dropWhile q := by
  induction l with
  | nil => rfl
  | cons c r ih => by_cases h : q c <;> simp [List.takeWhile, List.dropWhile, h, ih]
theorem tw_eq_take (q : UInt8 → Bool) (l : List UInt8) : l.take (l.takeWhile q).length = l.takeWhile q := by
  induction l with
  | nil => rfl
  | cons c r ih => by_cases h : q c <;> simp [List.takeWhile, h, ih]
theorem tw_all (q : UInt8 → Bool) (l : List UInt8) : ∀ c ∈ l.takeWhile q, q c = true := by
  induction l with
  | nil => simp
  | cons c r ih => by_cases h : q c <;> simp [List.takeWhile, h]; exact ih
theorem dw_head (q : UInt8 → Bool) (l : List UInt8) {c : UInt8} {r : List UInt8} (h : l.dropWhile q = c :: r) : q c = false := by
  induction l with
  | nil => simp at h
  | cons d s ih =>
    by_cases hd : q d
    · simp [List.dropWhile, hd] at h; exact ih h
    · simp [List.dropWhile, hd] at h; rw [← h.1]; simpa using hd
theorem dw_self {q : UInt8 → Bool} {c : UInt8} {r : List UInt8} (h : q c = false) : (c :: r).dropWhile q = c :: r := by simp [List.dropWhile, h]

theorem isWord_iff (l : List UInt8) : isWord l = true ↔ l ∈ words := by simp [isWord]

/-- What 'first' tells, way by way. -/
inductive FirstIs (r : List UInt8) : Nat → List UInt8 → Nat → Prop
  | word {k n : Nat} : r.takeWhile wordly ≠ [] → named (r.takeWhile wordly) = .ok (k, n) → FirstIs r k (r.takeWhile wordly) n
  | sign {s : List UInt8} : r.takeWhile wordly = [] → signs.find? (fun s => s.isPrefixOf r) = some s → FirstIs r 5 s 0
theorem first_is {r t : List UInt8} {k n : Nat} (h : first r = .ok (k, t, n)) : FirstIs r k t n := by
  unfold first at h
  by_cases hw : r.takeWhile wordly = []
  · simp only [hw, if_true] at h
    split at h
    · rename_i s hs; cases h; exact .sign hw hs
    · cases h
  · simp only [hw, if_false] at h
    split at h
    · rename_i k' n' hn; cases h; exact .word hw hn
    · cases h
theorem first_word {r : List UInt8} {k n : Nat} (hw : r.takeWhile wordly ≠ []) (hn : named (r.takeWhile wordly) = .ok (k, n)) : first r = .ok (k, r.takeWhile wordly, n) := by
  unfold first; simp only [hw, if_false, hn]
theorem first_sign {r s : List UInt8} (hw : r.takeWhile wordly = []) (hs : signs.find? (fun s => s.isPrefixOf r) = some s) : first r = .ok (5, s, 0) := by
  unfold first; simp only [hw, if_true, hs]
theorem sign_facts : ∀ s ∈ signs, s ≠ [] ∧ s.length ≤ 2 ∧ first s = .ok (5, s, 0) ∧ (∀ c ∈ s, blank c = false) := by
  intro s hs
  simp only [signs, List.mem_cons, List.mem_nil_iff, or_false] at hs
  rcases hs with rfl | rfl | rfl | rfl | rfl | rfl | rfl | rfl | rfl | rfl | rfl | rfl | rfl | rfl | rfl <;> exact ⟨by decide, by decide, rfl, by decide⟩
theorem first_pre {r t : List UInt8} {k n : Nat} (h : first r = .ok (k, t, n)) : t <+: r ∧ t ≠ [] := by
  cases first_is h with
  | word h1 h2 => exact ⟨List.takeWhile_prefix _, h1⟩
  | sign h1 h2 =>
    have := List.find?_some h2
    exact ⟨List.isPrefixOf_iff_prefix.1 this, (sign_facts _ (List.mem_of_find?_eq_some h2)).1⟩

/-- With a byte behind that is no letter and no digit and in no sign, the first token stays. -/
theorem tw_app {r : List UInt8} {c : UInt8} (hc : wordly c = false) (t : List UInt8) : (r ++ c :: t).takeWhile wordly = r.takeWhile wordly := by
  induction r with
  | nil => simp [List.takeWhile, hc]
  | cons d s ih => by_cases h : wordly d <;> simp [List.takeWhile, h, ih]
theorem pre_app {s r : List UInt8} {c : UInt8} (hc : c ∉ s) (t : List UInt8) : s.isPrefixOf (r ++ c :: t) = s.isPrefixOf r := by
  induction s generalizing r with
  | nil => simp
  | cons d s ih =>
    have h1 : c ≠ d := fun e => hc (by simp [e])
    have h2 : c ∉ s := fun e => hc (by simp [e])
    cases r with
    | nil => simp only [List.nil_append, List.isPrefixOf, Bool.and_eq_false_imp, beq_iff_eq]; intro e; exact absurd e.symm h1
    | cons x r => simp [List.isPrefixOf, ih h2]
theorem find_congr {α : Type} {p q : α → Bool} {l : List α} (h : ∀ x ∈ l, p x = q x) : l.find? p = l.find? q := by
  induction l with
  | nil => rfl
  | cons x r ih => simp only [List.find?_cons, h x (List.mem_cons_self ..), ih fun y hy => h y (List.mem_cons_of_mem _ hy)]
theorem blank_not {c : UInt8} (h : blank c = true) : wordly c = false ∧ ∀ s ∈ signs, c ∉ s := by
  have h' : c = 32 ∨ c = 10 ∨ c = 9 := by simpa [blank, or_assoc] using h
  rcases h' with rfl | rfl | rfl <;> decide
theorem first_app {c : UInt8} (hc : blank c = true) (r t : List UInt8) : first (r ++ c :: t) = first r := by
  obtain ⟨h1, h2⟩ := blank_not hc
  unfold first
  rw [tw_app h1 t, find_congr (q := fun s => s.isPrefixOf r) fun s hs => pre_app (h2 s hs) t]

/-- What is cut off behind the first token is of no moment. -/
theorem tw_take {q : UInt8 → Bool} {r : List UInt8} {m : Nat} (h : (r.takeWhile q).length ≤ m) : (r.take m).takeWhile q = r.takeWhile q := by
  induction r generalizing m with
  | nil => simp
  | cons d s ih =>
    by_cases hd : q d
    · cases m with
      | zero => simp [List.takeWhile, hd] at h
      | succ m => simp [List.takeWhile, hd] at h ⊢; exact ih h
    · cases m <;> simp [List.takeWhile, hd]
theorem pre_take {s r : List UInt8} (m : Nat) : s.isPrefixOf (r.take m) = (s.isPrefixOf r && decide (s.length ≤ m)) := by
  induction s generalizing r m with
  | nil => simp
  | cons d s ih =>
    cases r with
    | nil => simp [List.isPrefixOf]
    | cons x r =>
      cases m with
      | zero => simp [List.isPrefixOf]
      | succ m => simp [List.isPrefixOf, ih, Bool.and_assoc]
theorem find_first {l : List (List UInt8)} {p q : List UInt8 → Bool} {s : List UInt8} (h : l.find? p = some s) (hq : ∀ x, q x = true → p x = true) (hs : q s = true) : l.find? q = some s := by
  induction l with
  | nil => simp at h
  | cons x r ih =>
    by_cases hx : p x
    · simp [hx] at h; subst h; simp [hs]
    · have : q x = false := by cases e : q x with
        | false => rfl
        | true => exact absurd (hq x e) hx
      simp [hx] at h; simp [this]; exact ih h
theorem first_take {r t : List UInt8} {k n m : Nat} (h : first r = .ok (k, t, n)) (hm : t.length ≤ m) : first (r.take m) = .ok (k, t, n) := by
  cases first_is h with
  | word h1 h2 =>
    have e := tw_take (q := wordly) (r := r) (m := m) hm
    have := first_word (r := r.take m) (k := k) (n := n) (by rw [e]; exact h1) (by rw [e]; exact h2)
    rw [e] at this; exact this
  | sign h1 h2 =>
    have e := tw_take (q := wordly) (r := r) (m := m) (by rw [h1]; simp)
    refine first_sign (by rw [e, h1]) (find_first h2 (fun x hx => ?_) ?_)
    · rw [pre_take] at hx; simp at hx; exact List.isPrefixOf_iff_prefix.2 hx.1
    · have this : t.isPrefixOf r = true := List.find?_some (p := fun s : List UInt8 => s.isPrefixOf r) h2
      rw [pre_take, this]; simpa using hm
/-- A token's own text is that token. -/
theorem first_self {r t : List UInt8} {k n : Nat} (h : first r = .ok (k, t, n)) : first t = .ok (k, t, n) := by
  have hp := (first_pre h).1
  have e : r.take t.length = t := by obtain ⟨u, rfl⟩ := hp; simp
  have := first_take h (Nat.le_refl _)
  rwa [e] at this

/-- An error of 'first': 10 or 11. -/
theorem named_err {w : List UInt8} {e : Nat} (h : named w = .error e) : e = 10 ∨ e = 11 := by
  unfold named at h
  split at h
  · split at h
    · cases h; exact .inl rfl
    · split at h
      · cases h; exact .inr rfl
      · cases h
  · split at h
    · cases h; exact .inr rfl
    · split at h
      · cases h
      · split at h <;> cases h
theorem first_err {r : List UInt8} {e : Nat} (h : first r = .error e) : e = 10 ∨ e = 11 := by
  unfold first at h
  by_cases hw : r.takeWhile wordly = []
  · simp only [hw, if_true] at h
    split at h
    · cases h
    · cases h; exact .inl rfl
  · simp only [hw, if_false] at h
    split at h
    · cases h
    · rename_i e' hn; cases h; exact named_err hn

/-! ### The whole text -/
theorem fuel : ∀ (f g pos : Nat) (l : List UInt8), l.length < f → l.length < g → lexFrom f pos l = lexFrom g pos l
  | 0, _, _, _, h, _ => by omega
  | _, 0, _, _, _, h => by omega
  | f + 1, g + 1, pos, l, hf, hg => by
    unfold lexFrom
    have hr := dw_len blank l
    by_cases h0 : l.dropWhile blank = []
    · simp [h0]
    · simp only [h0, if_false]
      cases h1 : first (l.dropWhile blank) with
      | error e => rfl
      | ok x =>
        obtain ⟨k, t, n⟩ := x
        have ht := first_pre h1
        have : 0 < t.length := List.length_pos_iff.2 ht.2
        have hl : 0 < (l.dropWhile blank).length := List.length_pos_iff.2 h0
        simp only []
        rw [fuel f g _ _ (by simp; omega) (by simp; omega)]
def lexs (pos : Nat) (l : List UInt8) : Except (Nat × Nat) (List Tok) := lexFrom (l.length + 1) pos l
theorem lex_lexs (l : List UInt8) : lex l = lexs 0 l := rfl
theorem lexs_nil (pos : Nat) {l : List UInt8} (h : l.dropWhile blank = []) : lexs pos l = .ok [] := by
  unfold lexs lexFrom; simp [h]
theorem lexs_err (pos : Nat) {l : List UInt8} {e : Nat} (h : l.dropWhile blank ≠ []) (h1 : first (l.dropWhile blank) = .error e) :
    lexs pos l = .error (pos + (l.length - (l.dropWhile blank).length), e) := by
  unfold lexs lexFrom; simp [h, h1]
def more (t : Tok) : Except (Nat × Nat) (List Tok) → Except (Nat × Nat) (List Tok)
  | .ok ts => .ok (t :: ts)
  | .error e => .error e
theorem lexs_tok (pos : Nat) {l t : List UInt8} {k n : Nat} (h : l.dropWhile blank ≠ []) (h1 : first (l.dropWhile blank) = .ok (k, t, n)) :
    lexs pos l = more ⟨k, t, n, pos + (l.length - (l.dropWhile blank).length)⟩ (lexs (pos + (l.length - (l.dropWhile blank).length) + t.length) ((l.dropWhile blank).drop t.length)) := by
  have ht := first_pre h1
  have h3 : 0 < t.length := List.length_pos_iff.2 ht.2
  have h4 : 0 < (l.dropWhile blank).length := List.length_pos_iff.2 h
  have h5 := dw_len blank l
  conv => lhs; unfold lexs lexFrom
  simp only [h, if_false, h1]
  rw [show lexFrom l.length = lexFrom l.length from rfl, fuel l.length (((l.dropWhile blank).drop t.length).length + 1) _ _ (by simp; omega) (by omega)]
  unfold lexs more
  cases lexFrom (((l.dropWhile blank).drop t.length).length + 1) (pos + (l.length - (l.dropWhile blank).length) + t.length) ((l.dropWhile blank).drop t.length) <;> rfl

/-- To prove something of every text: blanks alone; an error at its front; a token and the rest. -/
theorem lexs_induct {M : List UInt8 → Prop} (nil : ∀ l, l.dropWhile blank = [] → M l)
    (err : ∀ l e, l.dropWhile blank ≠ [] → first (l.dropWhile blank) = .error e → M l)
    (tok : ∀ l k t n, l.dropWhile blank ≠ [] → first (l.dropWhile blank) = .ok (k, t, n) → M ((l.dropWhile blank).drop t.length) → M l) : ∀ l, M l := by
  intro l
  generalize hn : l.length = m
  induction m using Nat.strongRecOn generalizing l with
  | _ m ih =>
    by_cases h0 : l.dropWhile blank = []
    · exact nil l h0
    · cases h1 : first (l.dropWhile blank) with
      | error e => exact err l e h0 h1
      | ok x =>
        obtain ⟨k, t, n⟩ := x
        have ht := first_pre h1
        have h3 : 0 < t.length := List.length_pos_iff.2 ht.2
        have h4 : 0 < (l.dropWhile blank).length := List.length_pos_iff.2 h0
        have h5 := dw_len blank l
        exact tok l k t n h0 h1 (ih _ (by simp; omega) _ rfl)

/-- A blank text. -/
theorem dw_nil_iff {q : UInt8 → Bool} {l : List UInt8} : l.dropWhile q = [] ↔ ∀ c ∈ l, q c = true := by
  induction l with
  | nil => simp
  | cons c r ih => by_cases h : q c <;> simp [List.dropWhile, h, ih]
theorem dw_app_nil {q : UInt8 → Bool} {l : List UInt8} (h : l.dropWhile q = []) (t : List UInt8) : (l ++ t).dropWhile q = t.dropWhile q := by
  induction l with
  | nil => rfl
  | cons c r ih =>
    by_cases hc : q c
    · simp [List.dropWhile, hc] at h ⊢; exact ih h
    · simp [List.dropWhile, hc] at h
theorem dw_app {q : UInt8 → Bool} {l : List UInt8} (h : l.dropWhile q ≠ []) (t : List UInt8) : (l ++ t).dropWhile q = l.dropWhile q ++ t := by
  induction l with
  | nil => simp at h
  | cons c r ih =>
    by_cases hc : q c
    · simp only [List.cons_append, List.dropWhile_cons, hc, if_true] at h ⊢; exact ih h
    · simp [List.dropWhile, hc]

/-- Places further on. -/
def shift (d : Nat) : Except (Nat × Nat) (List Tok) → Except (Nat × Nat) (List Tok)
  | .ok ts => .ok (ts.map fun t => { t with pos := t.pos + d })
  | .error (p, e) => .error (p + d, e)
theorem shift_more (d : Nat) (t : Tok) (x : Except (Nat × Nat) (List Tok)) : shift d (more t x) = more { t with pos := t.pos + d } (shift d x) := by
  cases x <;> rfl
theorem lexs_shift (d : Nat) : ∀ (l : List UInt8) (pos : Nat), lexs (pos + d) l = shift d (lexs pos l) := by
  refine lexs_induct (M := fun l => ∀ pos, lexs (pos + d) l = shift d (lexs pos l)) ?_ ?_ ?_
  · intro l h pos; rw [lexs_nil _ h, lexs_nil _ h]; rfl
  · intro l e h h1 pos; rw [lexs_err _ h h1, lexs_err _ h h1]; simp [shift]; omega
  · intro l k t n h h1 ih pos
    rw [lexs_tok _ h h1, lexs_tok _ h h1, shift_more, ← ih]
    congr 1
    · simp; omega
    · congr 1; omega
/-- Blanks ahead. -/
theorem lexs_blanks {g : List UInt8} (hg : ∀ c ∈ g, blank c = true) (l : List UInt8) (pos : Nat) : lexs pos (g ++ l) = lexs (pos + g.length) l := by
  have hn := dw_nil_iff.2 hg
  have e := dw_app_nil hn l
  have hl := dw_len blank l
  by_cases h0 : l.dropWhile blank = []
  · rw [lexs_nil _ h0, lexs_nil _ (by rw [e, h0])]
  · cases h1 : first (l.dropWhile blank) with
    | error x =>
      rw [lexs_err _ h0 h1, lexs_err _ (by rw [e]; exact h0) (by rw [e]; exact h1), e]
      congr 2; simp; omega
    | ok x =>
      obtain ⟨k, t, n⟩ := x
      rw [lexs_tok _ h0 h1, lexs_tok _ (by rw [e]; exact h0) (by rw [e]; exact h1), e]
      have : pos + ((g ++ l).length - (l.dropWhile blank).length) = pos + g.length + (l.length - (l.dropWhile blank).length) := by simp; omega
      rw [this]
/-- A text, a blank, another text. -/
def both (a b : Except (Nat × Nat) (List Tok)) : Except (Nat × Nat) (List Tok) :=
  match a with
  | .error e => .error e
  | .ok ts => match b with
    | .error e => .error e
    | .ok us => .ok (ts ++ us)
theorem both_more (t : Tok) (a b : Except (Nat × Nat) (List Tok)) : both (more t a) b = more t (both a b) := by
  cases a <;> cases b <;> rfl
theorem lexs_both {c : UInt8} (hc : blank c = true) (u : List UInt8) : ∀ (l : List UInt8) (pos : Nat), lexs pos (l ++ c :: u) = both (lexs pos l) (lexs (pos + l.length + 1) u) := by
  refine lexs_induct (M := fun l => ∀ pos, lexs pos (l ++ c :: u) = both (lexs pos l) (lexs (pos + l.length + 1) u)) ?_ ?_ ?_
  · intro l h pos
    rw [lexs_nil _ h, show l ++ c :: u = (l ++ [c]) ++ u by simp, lexs_blanks (fun d hd => ?_)]
    · simp [both, Nat.add_assoc]; cases lexs (pos + (l.length + 1)) u <;> rfl
    · rcases List.mem_append.1 hd with hd | hd
      · exact dw_nil_iff.1 h d hd
      · simp at hd; subst hd; exact hc
  · intro l e h h1 pos
    have e1 := dw_app h (c :: u)
    have hl := dw_len blank l
    rw [lexs_err _ h h1, lexs_err _ (by rw [e1]; simp) (by rw [e1, first_app hc]; exact h1), e1]
    simp only [both]; congr 2; simp; omega
  · intro l k t n h h1 ih pos
    have e1 := dw_app h (c :: u)
    have hl := dw_len blank l
    have hp := first_pre h1
    have hle := hp.1.length_le
    rw [lexs_tok _ h h1, lexs_tok _ (by rw [e1]; simp) (by rw [e1, first_app hc]; exact h1), both_more, e1, List.drop_append_of_le_length hle, ih]
    have : pos + ((l ++ c :: u).length - (l.dropWhile blank ++ c :: u).length) = pos + (l.length - (l.dropWhile blank).length) := by simp; omega
    rw [this]
    congr 2
    congr 1
    simp; omega

/-- The tokens stand where they are told. -/
def Stands (s : List UInt8) : Nat → List Tok → Prop
  | at_, [] => at_ ≤ s.length ∧ ∀ i, at_ ≤ i → (h : i < s.length) → blank s[i] = true
  | at_, t :: ts => at_ ≤ t.pos ∧ t.pos + t.text.length ≤ s.length ∧ t.text ≠ [] ∧ (∀ i, at_ ≤ i → i < t.pos → (h : i < s.length) → blank s[i] = true) ∧
      (s.drop t.pos).take t.text.length = t.text ∧ Stands s (t.pos + t.text.length) ts
theorem tw_blank {l : List UInt8} {i : Nat} (h : i < l.length - (l.dropWhile blank).length) (h' : i < l.length) : blank l[i] = true := by
  have e := tw_dw_len blank l
  have hi : i < (l.takeWhile blank).length := by omega
  have := tw_all blank l (l.takeWhile blank)[i] (List.getElem_mem hi)
  have e2 : (l.takeWhile blank)[i] = l[i] := by
    have := List.takeWhile_prefix (l := l) blank
    exact this.getElem hi
  rwa [e2] at this
theorem dw_is_drop (l : List UInt8) : l.dropWhile blank = l.drop (l.length - (l.dropWhile blank).length) := by
  have e := tw_dw_len blank l
  rw [show l.length - (l.dropWhile blank).length = (l.takeWhile blank).length by omega, dw_eq_drop]
theorem stands (s : List UInt8) : ∀ (l : List UInt8) (pos : Nat) (ts : List Tok), l = s.drop pos → pos ≤ s.length → lexs pos l = .ok ts → Stands s pos ts := by
  refine lexs_induct (M := fun l => ∀ (pos : Nat) (ts : List Tok), l = s.drop pos → pos ≤ s.length → lexs pos l = .ok ts → Stands s pos ts) ?_ ?_ ?_
  · intro l h pos ts hl hp he
    rw [lexs_nil _ h] at he; cases he
    refine ⟨hp, fun i hi hs => ?_⟩
    have := dw_nil_iff.1 h s[i] (by rw [hl, List.mem_drop_iff_getElem]; exact ⟨i - pos, by omega, by simp [show pos + (i - pos) = i by omega]⟩)
    exact this
  · intro l e h h1 pos ts hl hp he
    rw [lexs_err _ h h1] at he; cases he
  · intro l k t n h h1 ih pos ts hl hp he
    rw [lexs_tok _ h h1] at he
    have hpre := first_pre h1
    have hlen := hpre.1.length_le
    have hdl := dw_len blank l
    have hll : l.length = s.length - pos := by rw [hl]; simp
    cases hr : lexs (pos + (l.length - (l.dropWhile blank).length) + t.length) ((l.dropWhile blank).drop t.length) with
    | error e => rw [hr] at he; cases he
    | ok us =>
      rw [hr] at he; cases he
      have hd : l.dropWhile blank = s.drop (pos + (l.length - (l.dropWhile blank).length)) := by
        conv => lhs; rw [dw_is_drop l, hl]
        rw [List.drop_drop, ← hl]
      refine ⟨by simp, by simp; omega, hpre.2, fun i h2 h3 hs => ?_, ?_, ih _ us ?_ (by show pos + (l.length - (l.dropWhile blank).length) + t.length ≤ s.length; omega) hr⟩
      · have := tw_blank (l := l) (i := i - pos) (by simp at h3; omega) (by omega)
        have e2 : l[i - pos]'(by omega) = s[i] := by
          have : (s.drop pos)[i - pos]'(by simp; omega) = s[i] := by simp [show pos + (i - pos) = i by omega]
          simpa [hl] using this
        rwa [e2] at this
      · simp only []
        rw [← hd]; obtain ⟨v, hv⟩ := hpre.1; rw [← hv]; simp
      · exact (congrArg (List.drop t.length) hd).trans (by rw [List.drop_drop])
/-- Where a text is none: up to there it is one. -/
theorem lexs_cut : ∀ (l : List UInt8) (pos p e : Nat), lexs pos l = .error (p, e) → pos ≤ p ∧ p < pos + l.length ∧ (e = 10 ∨ e = 11) ∧ ∃ ts, lexs pos (l.take (p - pos)) = .ok ts := by
  refine lexs_induct (M := fun l => ∀ (pos p e : Nat), lexs pos l = .error (p, e) → pos ≤ p ∧ p < pos + l.length ∧ (e = 10 ∨ e = 11) ∧ ∃ ts, lexs pos (l.take (p - pos)) = .ok ts) ?_ ?_ ?_
  · intro l h pos p e he
    rw [lexs_nil _ h] at he; cases he
  · intro l e' h h1 pos p e he
    rw [lexs_err _ h h1] at he; cases he
    have h4 : 0 < (l.dropWhile blank).length := List.length_pos_iff.2 h
    have hdl := dw_len blank l
    have e := tw_dw_len blank l
    refine ⟨by omega, by omega, first_err h1, [], lexs_nil _ ?_⟩
    rw [show pos + (l.length - (l.dropWhile blank).length) - pos = (l.takeWhile blank).length by omega, tw_eq_take]
    exact dw_nil_iff.2 (tw_all _ _)
  · intro l k t n h h1 ih pos p e he
    rw [lexs_tok _ h h1] at he
    have hpre := first_pre h1
    have hlen := hpre.1.length_le
    have hdl := dw_len blank l
    have etd := tw_dw_len blank l
    cases hr : lexs (pos + (l.length - (l.dropWhile blank).length) + t.length) ((l.dropWhile blank).drop t.length) with
    | ok us => rw [hr] at he; cases he
    | error x =>
      rw [hr] at he; cases he
      obtain ⟨i1, i2, i3, us, i4⟩ := ih _ _ _ hr
      simp at i2
      refine ⟨by omega, by omega, i3, ?_⟩
      have ht : 0 < t.length := List.length_pos_iff.2 hpre.2
      -- the cut text: the blanks, the token, the cut rest
      have hcut : l.take (p - pos) = l.takeWhile blank ++ (l.dropWhile blank).take (p - pos - (l.takeWhile blank).length) := by
        conv => lhs; rw [← List.takeWhile_append_dropWhile (p := blank) (l := l)]
        rw [List.take_append, List.take_of_length_le (by omega)]
      have hdw : (l.take (p - pos)).dropWhile blank = (l.dropWhile blank).take (p - pos - (l.takeWhile blank).length) := by
        rw [hcut, dw_app_nil (dw_nil_iff.2 (tw_all _ _))]
        cases hc : l.dropWhile blank with
        | nil => exact absurd hc h
        | cons c r =>
          obtain ⟨m, hm⟩ : ∃ m, p - pos - (l.takeWhile blank).length = m + 1 := ⟨p - pos - (l.takeWhile blank).length - 1, by omega⟩
          rw [hm, List.take_succ_cons, dw_self (dw_head _ _ hc)]
      have hne : (l.take (p - pos)).dropWhile blank ≠ [] := by
        rw [hdw]; intro e0; have := congrArg List.length e0; rw [List.length_take, List.length_nil] at this; omega
      have hf : first ((l.take (p - pos)).dropWhile blank) = .ok (k, t, n) := by rw [hdw]; exact first_take h1 (by have := i1; omega)
      rw [lexs_tok _ hne hf]
      have hlen2 : (l.take (p - pos)).length - ((l.take (p - pos)).dropWhile blank).length = l.length - (l.dropWhile blank).length := by
        rw [hdw, List.length_take, List.length_take]; omega
      rw [hlen2, hdw, List.drop_take]
      have : p - pos - (l.takeWhile blank).length - t.length = p - (pos + (l.length - (l.dropWhile blank).length) + t.length) := by omega
      rw [this, i4]
      exact ⟨_, rfl⟩
end Go.Proofs.YthdkjfhpbigdpaaDoor.HLex
