-- Written for this claim: several texts in one.
import Derived.Test.YthdkjfhpbigdpaaGreatDoorKTreeTells0
import Derived.Test.YthdkjfhpbigdpaaGreatDoorKTreeTells1
import Derived.Deep.RegionWith
/- Plain Lean: what the tokenizer obeys. No program in sight. -/
namespace Go.Proofs.YthdkjfhpbigdpaaGreatDoor.HLex

theorem tw_len (q : UInt8 → Bool) (l : List UInt8) : (l.takeWhile q).length ≤ l.length := (List.takeWhile_prefix q).length_le
theorem dw_len (q : UInt8 → Bool) (l : List UInt8) : (l.dropWhile q).length ≤ l.length := (List.dropWhile_suffix q).length_le
theorem tw_dw_len (q : UInt8 → Bool) (l : List UInt8) : (l.takeWhile q).length + (l.dropWhile q).length = l.length := by
 rw [← List.length_append, List.takeWhile_append_dropWhile]
theorem dw_eq_drop (q : UInt8 → Bool) (l : List UInt8) : l.drop (l.takeWhile q).length = l.dropWhile q := by
 induction l with
 | nil => rfl
 | cons c r ih => by_cases h : q c <;> simp [List.takeWhile, List.dropWhile, h, ih]
theorem tw_eq_take (q : UInt8 → Bool) (l : List UInt8) : l.take (l.takeWhile q).length = l.takeWhile q := by
 induction l with
 | nil => rfl
 | cons c r ih => by_cases h : q c <;> simp [List.takeWhile, h, ih]
theorem tw_all (q : UInt8 → Bool) (l : List UInt8) : ∀ c ∈ l.takeWhile q, q c = true := by
 induction l with
 | nil => simp
 | cons c r ih => by_cases h : q c <;> simp [List.takeWhile, h]; exact ih
theorem dw_head (q : UInt8 → Bool) (l : List UInt8) {c : UInt8} {r : List UInt8} (h : l.dropWhile q = c :: r) : q c = false := by
 induction l with
 | nil => simp at h
 | cons d s ih =>
  by_cases hd : q d
  ·simp [List.dropWhile, hd] at h; exact ih h
  ·simp [List.dropWhile, hd] at h; rw [← h.1]; simpa using hd
theorem dw_self {q : UInt8 → Bool} {c : UInt8} {r : List UInt8} (h : q c = false) : (c :: r).dropWhile q = c :: r := by simp [List.dropWhile, h]

theorem isWord_iff (l : List UInt8) : isWord l = true ↔ l ∈ words := by simp [isWord]

inductive FirstIs (r : List UInt8) : Nat → List UInt8 → Nat → Prop
 | word {k n : Nat} : r.takeWhile wordly ≠ [] → named (r.takeWhile wordly) = .ok (k, n) → FirstIs r k (r.takeWhile wordly) n
 | sign {s : List UInt8} : r.takeWhile wordly = [] → signs.find? (fun s => s.isPrefixOf r) = some s → FirstIs r 5 s 0
theorem first_is {r t : List UInt8} {k n : Nat} (h : first r = .ok (k, t, n)) : FirstIs r k t n := by
 unfold first at h
 by_cases hw : r.takeWhile wordly = []
 ·simp only [hw, if_true] at h
  split at h
  ·rename_i s hs; cases h; exact .sign hw hs
  ·cases h
 ·simp only [hw, if_false] at h
  split at h
  ·rename_i k' n' hn; cases h; exact .word hw hn
  ·cases h
theorem first_word {r : List UInt8} {k n : Nat} (hw : r.takeWhile wordly ≠ []) (hn : named (r.takeWhile wordly) = .ok (k, n)) : first r = .ok (k, r.takeWhile wordly, n) := by
 unfold first; simp only [hw, if_false, hn]
theorem first_sign {r s : List UInt8} (hw : r.takeWhile wordly = []) (hs : signs.find? (fun s => s.isPrefixOf r) = some s) : first r = .ok (5, s, 0) := by
 unfold first; simp only [hw, if_true, hs]
theorem sign_facts : ∀ s ∈ signs, s ≠ [] ∧ s.length ≤ 2 ∧ first s = .ok (5, s, 0) ∧ (∀ c ∈ s, blank c = false) := by
 intro s hs
 simp only [signs, List.mem_cons, List.mem_nil_iff, or_false] at hs
 rcases hs with rfl|rfl|rfl|rfl|rfl|rfl|rfl|rfl|rfl|rfl|rfl|rfl|rfl|rfl|rfl <;> exact ⟨by decide, by decide, rfl, by decide⟩
theorem first_pre {r t : List UInt8} {k n : Nat} (h : first r = .ok (k, t, n)) : t <+: r ∧ t ≠ [] := by
 cases first_is h with
 | word h1 h2 => exact ⟨List.takeWhile_prefix _, h1⟩
 | sign h1 h2 =>
  have := List.find?_some h2
  exact ⟨List.isPrefixOf_iff_prefix.1 this, (sign_facts _ (List.mem_of_find?_eq_some h2)).1⟩

theorem tw_app {r : List UInt8} {c : UInt8} (hc : wordly c = false) (t : List UInt8) : (r ++ c :: t).takeWhile wordly = r.takeWhile wordly := by
 induction r with
 | nil => simp [List.takeWhile, hc]
 | cons d s ih => by_cases h : wordly d <;> simp [List.takeWhile, h, ih]
theorem pre_app {s r : List UInt8} {c : UInt8} (hc : c ∉ s) (t : List UInt8) : s.isPrefixOf (r ++ c :: t) = s.isPrefixOf r := by
 induction s generalizing r with
 | nil => simp
 | cons d s ih =>
  have h1 : c ≠ d := fun e => hc (by simp [e])
  have h2 : c ∉ s := fun e => hc (by simp [e])
  cases r with
  | nil => simp only [List.nil_append, List.isPrefixOf, Bool.and_eq_false_imp, beq_iff_eq]; intro e; exact absurd e.symm h1
  | cons x r => simp [List.isPrefixOf, ih h2]
theorem find_congr {α : Type} {p q : α → Bool} {l : List α} (h : ∀ x ∈ l, p x = q x) : l.find? p = l.find? q := by
 induction l with
 | nil => rfl
 | cons x r ih => simp only [List.find?_cons, h x (List.mem_cons_self ..), ih fun y hy => h y (List.mem_cons_of_mem _ hy)]
theorem blank_not {c : UInt8} (h : blank c = true) : wordly c = false ∧ ∀ s ∈ signs, c ∉ s := by
 have h' : c = 32 ∨ c = 10 ∨ c = 9 := by simpa [blank, or_assoc] using h
 rcases h' with rfl|rfl|rfl <;> decide
theorem first_app {c : UInt8} (hc : blank c = true) (r t : List UInt8) : first (r ++ c :: t) = first r := by
 obtain ⟨h1, h2⟩ := blank_not hc
 unfold first
 rw [tw_app h1 t, find_congr (q := fun s => s.isPrefixOf r) fun s hs => pre_app (h2 s hs) t]

theorem tw_take {q : UInt8 → Bool} {r : List UInt8} {m : Nat} (h : (r.takeWhile q).length ≤ m) : (r.take m).takeWhile q = r.takeWhile q := by
 induction r generalizing m with
 | nil => simp
 | cons d s ih =>
  by_cases hd : q d
  ·cases m with
   | zero => simp [List.takeWhile, hd] at h
   | succ m => simp [List.takeWhile, hd] at h ⊢; exact ih h
  ·cases m <;> simp [List.takeWhile, hd]
theorem pre_take {s r : List UInt8} (m : Nat) : s.isPrefixOf (r.take m) = (s.isPrefixOf r && decide (s.length ≤ m)) := by
 induction s generalizing r m with
 | nil => simp
 | cons d s ih =>
  cases r with
  | nil => simp [List.isPrefixOf]
  | cons x r =>
   cases m with
   | zero => simp [List.isPrefixOf]
   | succ m => simp [List.isPrefixOf, ih, Bool.and_assoc]
theorem find_first {l : List (List UInt8)} {p q : List UInt8 → Bool} {s : List UInt8} (h : l.find? p = some s) (hq : ∀ x, q x = true → p x = true) (hs : q s = true) : l.find? q = some s := by
 induction l with
 | nil => simp at h
 | cons x r ih =>
  by_cases hx : p x
  ·simp [hx] at h; subst h; simp [hs]
  ·have : q x = false := by cases e : q x with
    | false => rfl
    | true => exact absurd (hq x e) hx
   simp [hx] at h; simp [this]; exact ih h
theorem first_take {r t : List UInt8} {k n m : Nat} (h : first r = .ok (k, t, n)) (hm : t.length ≤ m) : first (r.take m) = .ok (k, t, n) := by
 cases first_is h with
 | word h1 h2 =>
  have e := tw_take (q := wordly) (r := r) (m := m) hm
  have := first_word (r := r.take m) (k := k) (n := n) (by rw [e]; exact h1) (by rw [e]; exact h2)
  rw [e] at this; exact this
 | sign h1 h2 =>
  have e := tw_take (q := wordly) (r := r) (m := m) (by rw [h1]; simp)
  refine first_sign (by rw [e, h1]) (find_first h2 (fun x hx => ?_) ?_)
  ·rw [pre_take] at hx; simp at hx; exact List.isPrefixOf_iff_prefix.2 hx.1
  ·have this : t.isPrefixOf r = true := List.find?_some (p := fun s : List UInt8 => s.isPrefixOf r) h2
   rw [pre_take, this]; simpa using hm
theorem first_self {r t : List UInt8} {k n : Nat} (h : first r = .ok (k, t, n)) : first t = .ok (k, t, n) := by
 have hp := (first_pre h).1
 have e : r.take t.length = t := by obtain ⟨u, rfl⟩ := hp; simp
 have := first_take h (Nat.le_refl _)
 rwa [e] at this

theorem named_err {w : List UInt8} {e : Nat} (h : named w = .error e) : e = 10 ∨ e = 11 := by
 unfold named at h
 split at h
 ·split at h
  ·cases h; exact .inl rfl
  ·split at h
   ·cases h; exact .inr rfl
   ·cases h
 ·split at h
  ·cases h; exact .inr rfl
  ·split at h
   ·cases h
   ·split at h <;> cases h
theorem first_err {r : List UInt8} {e : Nat} (h : first r = .error e) : e = 10 ∨ e = 11 := by
 unfold first at h
 by_cases hw : r.takeWhile wordly = []
 ·simp only [hw, if_true] at h
  split at h
  ·cases h
  ·cases h; exact .inl rfl
 ·simp only [hw, if_false] at h
  split at h
  ·cases h
  ·rename_i e' hn; cases h; exact named_err hn

theorem fuel : ∀ (f g pos : Nat) (l : List UInt8), l.length < f → l.length < g → lexFrom f pos l = lexFrom g pos l
 | 0, _, _, _, h, _ => by omega
 | _, 0, _, _, _, h => by omega
 | f + 1, g + 1, pos, l, hf, hg => by
  unfold lexFrom
  have hr := dw_len blank l
  by_cases h0 : l.dropWhile blank = []
  ·simp [h0]
  ·simp only [h0, if_false]
   cases h1 : first (l.dropWhile blank) with
   | error e => rfl
   | ok x =>
    obtain ⟨k, t, n⟩ := x
    have ht := first_pre h1
    have : 0 < t.length := List.length_pos_iff.2 ht.2
    have hl : 0 < (l.dropWhile blank).length := List.length_pos_iff.2 h0
    simp only []
    rw [fuel f g _ _ (by simp; omega) (by simp; omega)]
def lexs (pos : Nat) (l : List UInt8) : Except (Nat × Nat) (List Tok) := lexFrom (l.length + 1) pos l
theorem lex_lexs (l : List UInt8) : lex l = lexs 0 l := rfl
theorem lexs_nil (pos : Nat) {l : List UInt8} (h : l.dropWhile blank = []) : lexs pos l = .ok [] := by
 unfold lexs lexFrom; simp [h]
theorem lexs_err (pos : Nat) {l : List UInt8} {e : Nat} (h : l.dropWhile blank ≠ []) (h1 : first (l.dropWhile blank) = .error e) :
  lexs pos l = .error (pos + (l.length - (l.dropWhile blank).length), e) := by
 unfold lexs lexFrom; simp [h, h1]
def more (t : Tok) : Except (Nat × Nat) (List Tok) → Except (Nat × Nat) (List Tok)
 | .ok ts => .ok (t :: ts)
 | .error e => .error e
theorem lexs_tok (pos : Nat) {l t : List UInt8} {k n : Nat} (h : l.dropWhile blank ≠ []) (h1 : first (l.dropWhile blank) = .ok (k, t, n)) :
  lexs pos l = more ⟨k, t, n, pos + (l.length - (l.dropWhile blank).length)⟩ (lexs (pos + (l.length - (l.dropWhile blank).length) + t.length) ((l.dropWhile blank).drop t.length)) := by
 have ht := first_pre h1
 have h3 : 0 < t.length := List.length_pos_iff.2 ht.2
 have h4 : 0 < (l.dropWhile blank).length := List.length_pos_iff.2 h
 have h5 := dw_len blank l
 conv => lhs; unfold lexs lexFrom
 simp only [h, if_false, h1]
 rw [show lexFrom l.length = lexFrom l.length from rfl, fuel l.length (((l.dropWhile blank).drop t.length).length + 1) _ _ (by simp; omega) (by omega)]
 unfold lexs more
 cases lexFrom (((l.dropWhile blank).drop t.length).length + 1) (pos + (l.length - (l.dropWhile blank).length) + t.length) ((l.dropWhile blank).drop t.length) <;> rfl

theorem lexs_induct {M : List UInt8 → Prop} (nil : ∀ l, l.dropWhile blank = [] → M l)
  (err : ∀ l e, l.dropWhile blank ≠ [] → first (l.dropWhile blank) = .error e → M l)
  (tok : ∀ l k t n, l.dropWhile blank ≠ [] → first (l.dropWhile blank) = .ok (k, t, n) → M ((l.dropWhile blank).drop t.length) → M l) : ∀ l, M l := by
 intro l
 generalize hn : l.length = m
 induction m using Nat.strongRecOn generalizing l with
 | _ m ih =>
  by_cases h0 : l.dropWhile blank = []
  ·exact nil l h0
  ·cases h1 : first (l.dropWhile blank) with
   | error e => exact err l e h0 h1
   | ok x =>
    obtain ⟨k, t, n⟩ := x
    have ht := first_pre h1
    have h3 : 0 < t.length := List.length_pos_iff.2 ht.2
    have h4 : 0 < (l.dropWhile blank).length := List.length_pos_iff.2 h0
    have h5 := dw_len blank l
    exact tok l k t n h0 h1 (ih _ (by simp; omega) _ rfl)

theorem dw_nil_iff {q : UInt8 → Bool} {l : List UInt8} : l.dropWhile q = [] ↔ ∀ c ∈ l, q c = true := by
 induction l with
 | nil => simp
 | cons c r ih => by_cases h : q c <;> simp [List.dropWhile, h, ih]
theorem dw_app_nil {q : UInt8 → Bool} {l : List UInt8} (h : l.dropWhile q = []) (t : List UInt8) : (l ++ t).dropWhile q = t.dropWhile q := by
 induction l with
 | nil => rfl
 | cons c r ih =>
  by_cases hc : q c
  ·simp [List.dropWhile, hc] at h ⊢; exact ih h
  ·simp [List.dropWhile, hc] at h
theorem dw_app {q : UInt8 → Bool} {l : List UInt8} (h : l.dropWhile q ≠ []) (t : List UInt8) : (l ++ t).dropWhile q = l.dropWhile q ++ t := by
 induction l with
 | nil => simp at h
 | cons c r ih =>
  by_cases hc : q c
  ·simp only [List.cons_append, List.dropWhile_cons, hc, if_true] at h ⊢; exact ih h
  ·simp [List.dropWhile, hc]

def shift (d : Nat) : Except (Nat × Nat) (List Tok) → Except (Nat × Nat) (List Tok)
 | .ok ts => .ok (ts.map fun t => { t with pos := t.pos + d })
 | .error (p, e) => .error (p + d, e)
theorem shift_more (d : Nat) (t : Tok) (x : Except (Nat × Nat) (List Tok)) : shift d (more t x) = more { t with pos := t.pos + d } (shift d x) := by
 cases x <;> rfl
theorem lexs_shift (d : Nat) : ∀ (l : List UInt8) (pos : Nat), lexs (pos + d) l = shift d (lexs pos l) := by
 refine lexs_induct (M := fun l => ∀ pos, lexs (pos + d) l = shift d (lexs pos l)) ?_ ?_ ?_
 ·intro l h pos; rw [lexs_nil _ h, lexs_nil _ h]; rfl
 ·intro l e h h1 pos; rw [lexs_err _ h h1, lexs_err _ h h1]; simp [shift]; omega
 ·intro l k t n h h1 ih pos
  rw [lexs_tok _ h h1, lexs_tok _ h h1, shift_more, ← ih]
  congr 1
  ·simp; omega
  ·congr 1; omega
theorem lexs_blanks {g : List UInt8} (hg : ∀ c ∈ g, blank c = true) (l : List UInt8) (pos : Nat) : lexs pos (g ++ l) = lexs (pos + g.length) l := by
 have hn := dw_nil_iff.2 hg
 have e := dw_app_nil hn l
 have hl := dw_len blank l
 by_cases h0 : l.dropWhile blank = []
 ·rw [lexs_nil _ h0, lexs_nil _ (by rw [e, h0])]
 ·cases h1 : first (l.dropWhile blank) with
  | error x =>
   rw [lexs_err _ h0 h1, lexs_err _ (by rw [e]; exact h0) (by rw [e]; exact h1), e]
   congr 2; simp; omega
  | ok x =>
   obtain ⟨k, t, n⟩ := x
   rw [lexs_tok _ h0 h1, lexs_tok _ (by rw [e]; exact h0) (by rw [e]; exact h1), e]
   have : pos + ((g ++ l).length - (l.dropWhile blank).length) = pos + g.length + (l.length - (l.dropWhile blank).length) := by simp; omega
   rw [this]
def both (a b : Except (Nat × Nat) (List Tok)) : Except (Nat × Nat) (List Tok) :=
 match a with
 | .error e => .error e
 | .ok ts => match b with
  | .error e => .error e
  | .ok us => .ok (ts ++ us)
theorem both_more (t : Tok) (a b : Except (Nat × Nat) (List Tok)) : both (more t a) b = more t (both a b) := by
 cases a <;> cases b <;> rfl
theorem lexs_both {c : UInt8} (hc : blank c = true) (u : List UInt8) : ∀ (l : List UInt8) (pos : Nat), lexs pos (l ++ c :: u) = both (lexs pos l) (lexs (pos + l.length + 1) u) := by
 refine lexs_induct (M := fun l => ∀ pos, lexs pos (l ++ c :: u) = both (lexs pos l) (lexs (pos + l.length + 1) u)) ?_ ?_ ?_
 ·intro l h pos
  rw [lexs_nil _ h, show l ++ c :: u = (l ++ [c]) ++ u by simp, lexs_blanks (fun d hd => ?_)]
  ·simp [both, Nat.add_assoc]; cases lexs (pos + (l.length + 1)) u <;> rfl
  ·rcases List.mem_append.1 hd with hd | hd
   ·exact dw_nil_iff.1 h d hd
   ·simp at hd; subst hd; exact hc
 ·intro l e h h1 pos
  have e1 := dw_app h (c :: u)
  have hl := dw_len blank l
  rw [lexs_err _ h h1, lexs_err _ (by rw [e1]; simp) (by rw [e1, first_app hc]; exact h1), e1]
  simp only [both]; congr 2; simp; omega
 ·intro l k t n h h1 ih pos
  have e1 := dw_app h (c :: u)
  have hl := dw_len blank l
  have hp := first_pre h1
  have hle := hp.1.length_le
  rw [lexs_tok _ h h1, lexs_tok _ (by rw [e1]; simp) (by rw [e1, first_app hc]; exact h1), both_more, e1, List.drop_append_of_le_length hle, ih]
  have : pos + ((l ++ c :: u).length - (l.dropWhile blank ++ c :: u).length) = pos + (l.length - (l.dropWhile blank).length) := by simp; omega
  rw [this]
  congr 2
  congr 1
  simp; omega

def Stands (s : List UInt8) : Nat → List Tok → Prop
 | at_, [] => at_ ≤ s.length ∧ ∀ i, at_ ≤ i → (h : i < s.length) → blank s[i] = true
 | at_, t :: ts => at_ ≤ t.pos ∧ t.pos + t.text.length ≤ s.length ∧ t.text ≠ [] ∧ (∀ i, at_ ≤ i → i < t.pos → (h : i < s.length) → blank s[i] = true) ∧
   (s.drop t.pos).take t.text.length = t.text ∧ Stands s (t.pos + t.text.length) ts
theorem tw_blank {l : List UInt8} {i : Nat} (h : i < l.length - (l.dropWhile blank).length) (h' : i < l.length) : blank l[i] = true := by
 have e := tw_dw_len blank l
 have hi : i < (l.takeWhile blank).length := by omega
 have := tw_all blank l (l.takeWhile blank)[i] (List.getElem_mem hi)
 have e2 : (l.takeWhile blank)[i] = l[i] := by
  have := List.takeWhile_prefix (l := l) blank
  exact this.getElem hi
 rwa [e2] at this
theorem dw_is_drop (l : List UInt8) : l.dropWhile blank = l.drop (l.length - (l.dropWhile blank).length) := by
 have e := tw_dw_len blank l
 rw [show l.length - (l.dropWhile blank).length = (l.takeWhile blank).length by omega, dw_eq_drop]
theorem stands (s : List UInt8) : ∀ (l : List UInt8) (pos : Nat) (ts : List Tok), l = s.drop pos → pos ≤ s.length → lexs pos l = .ok ts → Stands s pos ts := by
 refine lexs_induct (M := fun l => ∀ (pos : Nat) (ts : List Tok), l = s.drop pos → pos ≤ s.length → lexs pos l = .ok ts → Stands s pos ts) ?_ ?_ ?_
 ·intro l h pos ts hl hp he
  rw [lexs_nil _ h] at he; cases he
  refine ⟨hp, fun i hi hs => ?_⟩
  have := dw_nil_iff.1 h s[i] (by rw [hl, List.mem_drop_iff_getElem]; exact ⟨i - pos, by omega, by simp [show pos + (i - pos) = i by omega]⟩)
  exact this
 ·intro l e h h1 pos ts hl hp he
  rw [lexs_err _ h h1] at he; cases he
 ·intro l k t n h h1 ih pos ts hl hp he
  rw [lexs_tok _ h h1] at he
  have hpre := first_pre h1
  have hlen := hpre.1.length_le
  have hdl := dw_len blank l
  have hll : l.length = s.length - pos := by rw [hl]; simp
  cases hr : lexs (pos + (l.length - (l.dropWhile blank).length) + t.length) ((l.dropWhile blank).drop t.length) with
  | error e => rw [hr] at he; cases he
  | ok us =>
   rw [hr] at he; cases he
   have hd : l.dropWhile blank = s.drop (pos + (l.length - (l.dropWhile blank).length)) := by
    conv => lhs; rw [dw_is_drop l, hl]
    rw [List.drop_drop, ← hl]
   refine ⟨by simp, by simp; omega, hpre.2, fun i h2 h3 hs => ?_, ?_, ih _ us ?_ (by show pos + (l.length - (l.dropWhile blank).length) + t.length ≤ s.length; omega) hr⟩
   ·have := tw_blank (l := l) (i := i - pos) (by simp at h3; omega) (by omega)
    have e2 : l[i - pos]'(by omega) = s[i] := by
     have : (s.drop pos)[i - pos]'(by simp; omega) = s[i] := by simp [show pos + (i - pos) = i by omega]
     simpa [hl] using this
    rwa [e2] at this
   ·simp only []
    rw [← hd]; obtain ⟨v, hv⟩ := hpre.1; rw [← hv]; simp
   ·exact (congrArg (List.drop t.length) hd).trans (by rw [List.drop_drop])
theorem lexs_cut : ∀ (l : List UInt8) (pos p e : Nat), lexs pos l = .error (p, e) → pos ≤ p ∧ p < pos + l.length ∧ (e = 10 ∨ e = 11) ∧ ∃ ts, lexs pos (l.take (p - pos)) = .ok ts := by
 refine lexs_induct (M := fun l => ∀ (pos p e : Nat), lexs pos l = .error (p, e) → pos ≤ p ∧ p < pos + l.length ∧ (e = 10 ∨ e = 11) ∧ ∃ ts, lexs pos (l.take (p - pos)) = .ok ts) ?_ ?_ ?_
 ·intro l h pos p e he
  rw [lexs_nil _ h] at he; cases he
 ·intro l e' h h1 pos p e he
  rw [lexs_err _ h h1] at he; cases he
  have h4 : 0 < (l.dropWhile blank).length := List.length_pos_iff.2 h
  have hdl := dw_len blank l
  have e := tw_dw_len blank l
  refine ⟨by omega, by omega, first_err h1, [], lexs_nil _ ?_⟩
  rw [show pos + (l.length - (l.dropWhile blank).length) - pos = (l.takeWhile blank).length by omega, tw_eq_take]
  exact dw_nil_iff.2 (tw_all _ _)
 ·intro l k t n h h1 ih pos p e he
  rw [lexs_tok _ h h1] at he
  have hpre := first_pre h1
  have hlen := hpre.1.length_le
  have hdl := dw_len blank l
  have etd := tw_dw_len blank l
  cases hr : lexs (pos + (l.length - (l.dropWhile blank).length) + t.length) ((l.dropWhile blank).drop t.length) with
  | ok us => rw [hr] at he; cases he
  | error x =>
   rw [hr] at he; cases he
   obtain ⟨i1, i2, i3, us, i4⟩ := ih _ _ _ hr
   simp at i2
   refine ⟨by omega, by omega, i3, ?_⟩
   have ht : 0 < t.length := List.length_pos_iff.2 hpre.2
   have hcut : l.take (p - pos) = l.takeWhile blank ++ (l.dropWhile blank).take (p - pos - (l.takeWhile blank).length) := by
    conv => lhs; rw [← List.takeWhile_append_dropWhile (p := blank) (l := l)]
    rw [List.take_append, List.take_of_length_le (by omega)]
   have hdw : (l.take (p - pos)).dropWhile blank = (l.dropWhile blank).take (p - pos - (l.takeWhile blank).length) := by
    rw [hcut, dw_app_nil (dw_nil_iff.2 (tw_all _ _))]
    cases hc : l.dropWhile blank with
    | nil => exact absurd hc h
    | cons c r =>
     obtain ⟨m, hm⟩ : ∃ m, p - pos - (l.takeWhile blank).length = m + 1 := ⟨p - pos - (l.takeWhile blank).length - 1, by omega⟩
     rw [hm, List.take_succ_cons, dw_self (dw_head _ _ hc)]
   have hne : (l.take (p - pos)).dropWhile blank ≠ [] := by
    rw [hdw]; intro e0; have := congrArg List.length e0; rw [List.length_take, List.length_nil] at this; omega
   have hf : first ((l.take (p - pos)).dropWhile blank) = .ok (k, t, n) := by rw [hdw]; exact first_take h1 (by have := i1; omega)
   rw [lexs_tok _ hne hf]
   have hlen2 : (l.take (p - pos)).length - ((l.take (p - pos)).dropWhile blank).length = l.length - (l.dropWhile blank).length := by
    rw [hdw, List.length_take, List.length_take]; omega
   rw [hlen2, hdw, List.drop_take]
   have : p - pos - (l.takeWhile blank).length - t.length = p - (pos + (l.length - (l.dropWhile blank).length) + t.length) := by omega
   rw [this, i4]
   exact ⟨_, rfl⟩
end Go.Proofs.YthdkjfhpbigdpaaGreatDoor.HLex

namespace Go.Proofs.YthdkjfhpbigdpaaGreatDoor.Pure
open Go Go.RowKit Go.Proofs.YthdkjfhpbigdpaaGreatDoor.Q Go.Proofs.YthdkjfhpbigdpaaGreatDoorW.PrintWords Go.Proofs.YthdkjfhpbigdpaaGreatDoorW.PrintLast Go.Proofs.YthdkjfhpbigdpaaGreatDoorW.PrintMore
open HLexC (toS)
open HLex (Tok Stands)
theorem wrap_small {n : Int} (h0 : -9223372036854775808 ≤ n) (h1 : n < 9223372036854775808) : wrap64 n = n := by
 unfold wrap64; omega
namespace More
theorem all_ok {a : ByteArray} {ts : List Tok} (h : a.size ≤ 1100000) (e : HLex.lex a.data.toList = .ok ts) : lex_All.f a = some (ts.map toS, 0, 0) := by
 unfold lex_All.f; rw [if_pos (Nat.le_trans h (by decide)), e]
theorem all_err {a : ByteArray} {p er : Nat} (h : a.size ≤ 1100000) (e : HLex.lex a.data.toList = .error (p, er)) : lex_All.f a = some ([], (p : Int), (er : Int)) := by
 unfold lex_All.f; rw [if_pos (Nat.le_trans h (by decide)), e]
theorem rd_tok (ts : List Tok) (i : Nat) (h : i < ts.length) : rd_T49 (ts.map toS) i = toS ts[i] := by
 unfold rd_T49; simp [List.getD, h]
theorem toks_len : ∀ (s : List UInt8) (us : List Tok) (x : Nat), Stands s x us → x + us.length ≤ s.length
 | s, [], x, st => by simpa using st.1
 | s, t :: us, x, st => by
  obtain ⟨s1, s2, s3, s4, s5, s6⟩ := st
  have := toks_len s us _ s6
  have : 0 < t.text.length := List.length_pos_iff.2 s3
  simp; omega
theorem toks_pos : ∀ (s : List UInt8) (us : List Tok) (x : Nat), Stands s x us → ∀ t ∈ us, t.pos + t.text.length ≤ s.length
 | s, [], x, st => by simp
 | s, t :: us, x, st => by
  obtain ⟨s1, s2, s3, s4, s5, s6⟩ := st
  intro u hu
  rcases List.mem_cons.1 hu with rfl | hu
  ·exact s2
  ·exact toks_pos s us _ s6 u hu
theorem lex_stands {s : List UInt8} {ts : List Tok} (h : HLex.lex s = .ok ts) : Stands s 0 ts := HLex.stands s s 0 ts (by simp) (by omega) h
theorem size_len (a : ByteArray) : a.data.toList.length = a.size := by simp
theorem err_is {s : List UInt8} {p e : Nat} (h : HLex.lex s = .error (p, e)) : p < s.length ∧ (e = 10 ∨ e = 11) := by
 obtain ⟨_, c2, c3, _⟩ := HLex.lexs_cut _ _ _ _ h
 exact ⟨by omega, c3⟩
def later (d : Nat) (t : Tok) : Tok := { t with pos := t.pos + d }
theorem shift_ok (d : Nat) (ts : List Tok) : HLex.shift d (.ok ts) = .ok (ts.map (later d)) := rfl
end More
end Go.Proofs.YthdkjfhpbigdpaaGreatDoor.Pure

/- Plain Lean: the number of digits, digit by digit. No program in sight. -/
namespace Go.Proofs.YthdkjfhpbigdpaaGreatDoor.HLex
theorem num_snoc (l : List UInt8) (c : UInt8) : num (l ++ [c]) = 10 * num l + (c.toNat - 48) := by unfold num; rw [List.foldl_append]; rfl
theorem num_take (l : List UInt8) (j : Nat) (h : j < l.length) : num (l.take (j + 1)) = 10 * num (l.take j) + (l[j].toNat - 48) := by
 rw [List.take_succ_eq_append_getElem h, num_snoc]
theorem num_lt (l : List UInt8) (h : ∀ d ∈ l, digit d = true) : ∀ j, j ≤ l.length → num (l.take j) < 10 ^ j
 | 0, _ => by simp [num]
 | j + 1, hj => by
  have ih := num_lt l h j (by omega)
  have hd := h l[j] (List.getElem_mem (by omega))
  rw [num_take l j (by omega)]
  simp only [digit, Bool.and_eq_true, decide_eq_true_eq] at hd
  rw [Nat.pow_succ]; omega
theorem num_small (l : List UInt8) (h : ∀ d ∈ l, digit d = true) (j : Nat) (hj : j ≤ l.length) (h17 : j ≤ 17) : num (l.take j) < 100000000000000000 :=
 Nat.lt_of_lt_of_le (num_lt l h j hj) (Nat.pow_le_pow_right (by decide) h17)
end Go.Proofs.YthdkjfhpbigdpaaGreatDoor.HLex

namespace Go.Proofs.YthdkjfhpbigdpaaGreatDoor.Pure
open Go Go.RowKit Go.Proofs.YthdkjfhpbigdpaaGreatDoor.Q Go.Proofs.YthdkjfhpbigdpaaGreatDoorW.PrintWords Go.Proofs.YthdkjfhpbigdpaaGreatDoorW.PrintLast Go.Proofs.YthdkjfhpbigdpaaGreatDoorW.PrintMore
open HLexC (toS)
open HLex (Tok Stands lower upper digit wordly num signs)
open More
namespace Refs
def cl (c : UInt8) : Int := if lower c then 1 else if upper c then 2 else if digit c then 3 else if HLex.blank c then 4 else 0
theorem blank_nat (c : UInt8) : HLex.blank c = (decide (c.toNat = 32) || decide (c.toNat = 10) || decide (c.toNat = 9)) := by
  unfold HLex.blank
  have e : ∀ d : UInt8, (c == d) = decide (c.toNat = d.toNat) := fun d => by
    by_cases h : c = d
    · subst h; simp
    · have h' : ¬ c.toNat = d.toNat := fun he => h (UInt8.toNat_inj.1 he)
      simp [h, h']
  rw [e, e, e]; rfl
theorem class_is (c : UInt8) (k : Nat) : gossamerref01_class.f (k + 3) (c.toNat : Int) = some (cl c) := by
  unfold gossamerref01_class.f gossamerref01_class.j0 gossamerref01_class.j1 gossamerref01_class.j2 cl
  rw [blank_nat]
  simp only [lower, upper, digit]
  by_cases h1 : 97 ≤ c.toNat <;> by_cases h2 : c.toNat ≤ 122 <;> by_cases h3 : 65 ≤ c.toNat <;> by_cases h4 : c.toNat ≤ 90 <;> by_cases h5 : 48 ≤ c.toNat <;> by_cases h6 : c.toNat ≤ 57 <;> first
    | omega
    | (have e1 : ((c.toNat : Int) ≥ 97) ↔ (97 ≤ c.toNat) := by omega
       have e2 : ((c.toNat : Int) ≤ 122) ↔ (c.toNat ≤ 122) := by omega
       have e3 : ((c.toNat : Int) ≥ 65) ↔ (65 ≤ c.toNat) := by omega
       have e4 : ((c.toNat : Int) ≤ 90) ↔ (c.toNat ≤ 90) := by omega
       have e5 : ((c.toNat : Int) ≥ 48) ↔ (48 ≤ c.toNat) := by omega
       have e6 : ((c.toNat : Int) ≤ 57) ↔ (c.toNat ≤ 57) := by omega
       have e7 : ((c.toNat : Int) = 32) ↔ (c.toNat = 32) := by omega
       have e8 : ((c.toNat : Int) = 10) ↔ (c.toNat = 10) := by omega
       have e9 : ((c.toNat : Int) = 9) ↔ (c.toNat = 9) := by omega
       simp only [e1, e2, e3, e4, e5, e6, e7, e8, e9, h1, h2, h3, h4, h5, h6, decide_true, decide_false, Bool.and_true, Bool.and_false, Bool.true_and, Bool.false_and, if_true, if_false, Bool.false_eq_true]
       try (by_cases h7 : c.toNat = 32 <;> by_cases h8 : c.toNat = 10 <;> by_cases h9 : c.toNat = 9 <;> simp [h7, h8, h9]))
def letter (c : UInt8) : Bool := decide (57 < c.toNat)
theorem cl_wordly (c : UInt8) : (1 ≤ cl c ∧ cl c ≤ 3) ↔ wordly c = true := by
  unfold cl wordly
  cases h1 : lower c <;> cases h2 : upper c <;> cases h3 : digit c <;> cases h4 : HLex.blank c <;> simp
theorem cl_letter (c : UInt8) (h : wordly c = true) : decide (cl c < 3) = letter c := by
  unfold cl letter
  simp only [wordly, lower, upper, digit, Bool.or_eq_true, Bool.and_eq_true, decide_eq_true_eq] at h ⊢
  by_cases h1 : 97 ≤ c.toNat ∧ c.toNat ≤ 122
  · simp [h1]; omega
  · by_cases h2 : 65 ≤ c.toNat ∧ c.toNat ≤ 90
    · simp [h1, h2]; omega
    · have h3 : 48 ≤ c.toNat ∧ c.toNat ≤ 57 := by rcases h with (h | h) | h <;> first|exact absurd h h1|exact absurd h h2|exact h
      simp [h1, h2, h3]
theorem bt_nat (a : ByteArray) (i : Nat) (c : UInt8) (h : a.data.toList[i]? = some c) : bt a (i : Int) = (c.toNat : Int) := by
  obtain ⟨hi, hc⟩ := List.getElem?_eq_some_iff.1 h
  unfold bt
  have h' : i < a.size := by simpa using hi
  simp [h', ← hc]
  rfl
theorem run_from (s : ByteArray) (at_ : Nat) (hs : s.size ≤ 1100000) : ∀ (l : List UInt8) (n : Nat) (b : Bool) (k : Nat), s.data.toList.drop (at_ + n) = l → at_ + n ≤ s.size → l.length + 4 ≤ k →
    gossamerref01_run.l0 k s at_ n b = some (((n + (l.takeWhile wordly).length : Nat) : Int), b || (l.takeWhile wordly).any letter)
  | l, n, b, 0, _, _, hk => by omega
  | [], n, b, k + 1, h, hle, _ => by
    have hl : s.data.toList.length ≤ at_ + n := List.drop_eq_nil_iff.1 h
    rw [size_len] at hl
    unfold gossamerref01_run.l0
    rw [wrap_small (by omega) (by omega), if_neg (by omega)]
    simp
  | c :: r, n, b, k + 1, h, hle, hk => by
    have hlen : at_ + n < s.data.toList.length := by
      have := congrArg List.length h
      rw [List.length_drop, List.length_cons] at this; omega
    have hc : s.data.toList[at_ + n]? = some c := by
      have := congrArg (fun l => l[0]?) h
      simpa using this
    rw [size_len] at hlen
    obtain ⟨k, rfl⟩ : ∃ j, k = j + 3 := ⟨k - 3, by simp at hk; omega⟩
    unfold gossamerref01_run.l0
    have hw : wrap64 ((at_ : Int) + (n : Int)) = ((at_ + n : Nat) : Int) := by rw [wrap_small (by omega) (by omega)]; omega
    rw [hw, if_pos (by omega), if_pos (by omega), bt_nat s _ c hc, class_is, Option.bind_some]
    by_cases hwc : wordly c = true
    · obtain ⟨h1, h3⟩ := (cl_wordly c).2 hwc
      rw [if_neg (by omega), if_neg (by omega), wrap_small (n := (n : Int) + 1) (by omega) (by omega)]
      have hr : s.data.toList.drop (at_ + (n + 1)) = r := by
        rw [← Nat.add_assoc, ← List.drop_drop, h]; rfl
      have ih := fun b' => run_from s at_ hs r (n + 1) b' (k + 3) hr (by omega) (by simp at hk; omega)
      have e1 : ((n : Int) + 1) = ((n + 1 : Nat) : Int) := by omega
      rw [e1, cl_letter c hwc]
      have e2 : (n + 1 + (List.takeWhile wordly r).length : Nat) = n + (List.takeWhile wordly (c :: r)).length := by simp [List.takeWhile, hwc]; omega
      cases b
      · rw [if_neg (by simp), ih, e2]
        simp [List.takeWhile, hwc]
      · rw [if_pos rfl, ih, e2]
        simp
    · have hwc' : wordly c = false := by simpa using hwc
      have hout : cl c < 1 ∨ cl c > 3 := by
        have := mt (cl_wordly c).1 hwc
        omega
      rcases hout with h1 | h3
      · rw [if_pos h1]; simp [List.takeWhile, hwc']
      · rw [if_neg (by omega), if_pos h3]; simp [List.takeWhile, hwc']
theorem run_is (s : ByteArray) (at_ : Nat) (hs : s.size ≤ 1100000) (hat : at_ ≤ s.size) : gossamerref01_run.f (s.size + 4) s at_ = some ((((s.data.toList.drop at_).takeWhile wordly).length : Int), ((s.data.toList.drop at_).takeWhile wordly).any letter) := by
  unfold gossamerref01_run.f
  have := run_from s at_ hs (s.data.toList.drop at_) 0 false (s.size + 4) rfl hat (by rw [List.length_drop, size_len]; omega)
  simpa using this
theorem num_from (t : ByteArray) (ht : t.size ≤ 18) (hd : ∀ d ∈ t.data.toList, digit d = true) : ∀ (m j k : Nat), j + m = t.size → m < k → gossamerref01_number.l0 k t (num (t.data.toList.take j)) j = some (num t.data.toList : Int)
  | m, j, 0, _, hk => by omega
  | 0, j, k + 1, h, _ => by
    unfold gossamerref01_number.l0
    rw [if_neg (by omega), List.take_of_length_le (by rw [size_len]; omega)]
  | m + 1, j, k + 1, h, hk => by
    have hj : j < t.data.toList.length := by rw [size_len]; omega
    have hdj := hd _ (List.getElem_mem hj)
    simp only [digit, Bool.and_eq_true, decide_eq_true_eq] at hdj
    have hsm := HLex.num_small t.data.toList hd j (by omega) (by omega)
    unfold gossamerref01_number.l0
    rw [if_pos (by omega), if_pos (by omega), bt_nat t j _ (List.getElem?_eq_getElem hj)]
    have e1 : wrap64 ((wrap64 ((wrap64 (10 * (num (t.data.toList.take j) : Int))) + (wrap64 ((t.data.toList[j]).toNat : Int)))) - 48) = ((num (t.data.toList.take (j + 1)) : Nat) : Int) := by
      rw [HLex.num_take _ _ hj, wrap_small (n := 10 * _) (by omega) (by omega), wrap_small (n := ((t.data.toList[j]).toNat : Int)) (by omega) (by omega), wrap_small (n := _ + _) (by omega) (by omega), wrap_small (by omega) (by omega)]
      omega
    rw [e1, wrap_small (by omega) (by omega)]
    exact num_from t ht hd m (j + 1) k (by omega) (by omega)
theorem number_is (t : ByteArray) (ht : t.size ≤ 18) (hd : ∀ d ∈ t.data.toList, digit d = true) : gossamerref01_number.f 20 t = some (num t.data.toList : Int) := by
  unfold gossamerref01_number.f
  exact num_from t ht hd t.size 0 20 (by omega) (by omega)
theorem rword_is (a : ByteArray) : gossamerref01_Word.f a = some (HLex.isWord a.data.toList) := by
  unfold gossamerref01_Word.f
  rw [Lib.toList_data]
  by_cases h1 : a.data.toList = [108, 101, 116]
  · simp [h1, HLex.isWord, HLex.words]
  by_cases h2 : a.data.toList = [108, 101, 116, 114, 101, 99]
  · simp [h2, HLex.isWord, HLex.words]
  by_cases h3 : a.data.toList = [105, 110]
  · simp [h3, HLex.isWord, HLex.words]
  by_cases h4 : a.data.toList = [99, 97, 115, 101]
  · simp [h4, HLex.isWord, HLex.words]
  by_cases h5 : a.data.toList = [111, 102] <;> simp [h1, h2, h3, h4, h5, HLex.isWord, HLex.words]
def tab : List UInt8 := [92, 46, 40, 41, 61, 123, 125, 124, 43, 45, 42, 47, 60]
theorem signs_are : signs = [45, 62] :: [61, 61] :: tab.map (fun x => [x]) := rfl
theorem find_singles (c : UInt8) (r : List UInt8) : ∀ T : List UInt8, (T.map (fun x => [x])).find? (fun s => s.isPrefixOf (c :: r)) = if T.contains c then some [c] else none
  | [] => rfl
  | x :: T => by
    rw [List.map_cons, List.find?_cons]
    by_cases h : x = c
    · subst h; simp [List.isPrefixOf]
    · have h2 : ¬ c = x := fun e => h e.symm
      have e : ([x] : List UInt8).isPrefixOf (c :: r) = false := by simp [List.isPrefixOf, h]
      rw [e]
      simp only [find_singles c r T, List.contains_cons]
      simp [h2]
theorem two_pre (a b c : UInt8) (r : List UInt8) : ([a, b] : List UInt8).isPrefixOf (c :: r) = decide ((c :: r).take 2 = [a, b]) := by
  rw [Bool.eq_iff_iff, List.isPrefixOf_iff_prefix, List.prefix_iff_eq_take, decide_eq_true_iff]
  exact eq_comm
theorem find_signs (c : UInt8) (r : List UInt8) : signs.find? (fun s => s.isPrefixOf (c :: r)) = if (c :: r).take 2 = [45, 62] then some [45, 62] else if (c :: r).take 2 = [61, 61] then some [61, 61] else if tab.contains c then some [c] else none := by
  rw [signs_are, List.find?_cons, two_pre, List.find?_cons, two_pre, find_singles]
  by_cases h1 : (c :: r).take 2 = [45, 62]
  · simp only [h1, decide_true, if_true]
  · rw [if_neg h1, decide_eq_false h1]
    by_cases h2 : (c :: r).take 2 = [61, 61]
    · simp only [h2, decide_true, if_true]
    · rw [if_neg h2, decide_eq_false h2]
theorem tab_bytes : ∀ i : Nat, i < 13 → (⟨#[92, 46, 40, 41, 61, 123, 125, 124, 43, 45, 42, 47, 60]⟩ : ByteArray).data.toList[i]? = tab[i]? := fun i _ => rfl
theorem sign_loop (s : ByteArray) (at_ : Nat) (c : UInt8) (hc : s.data.toList[at_]? = some c) : ∀ (m i k : Nat), i + m = 13 → m < k → gossamerref01_sign.l0 k s at_ i = some (if (tab.drop i).contains c then 1 else 0)
  | m, i, 0, _, hk => by omega
  | 0, i, k + 1, h, _ => by
    obtain rfl : i = 13 := by omega
    unfold gossamerref01_sign.l0
    rw [if_neg (by decide)]
    rfl
  | m + 1, i, k + 1, h, hk => by
    have hi : i < tab.length := by show i < 13; omega
    have hat : at_ < s.size := by have := (List.getElem?_eq_some_iff.1 hc).1; rwa [size_len] at this
    unfold gossamerref01_sign.l0
    rw [if_pos (by omega), if_pos (by omega), if_pos (by omega), if_pos (by omega), bt_nat s at_ c hc, bt_nat _ i tab[i] (by rw [tab_bytes i (by omega)]; exact List.getElem?_eq_getElem hi)]
    rw [List.drop_eq_getElem_cons hi, List.contains_cons]
    by_cases he : tab[i] = c
    · rw [if_pos (by rw [he]), he]; simp
    · have he2 : ¬ c = tab[i] := fun e => he e.symm
      have he3 : ¬ ((tab[i].toNat : Int) = (c.toNat : Int)) := fun e => he (UInt8.toNat_inj.1 (by omega))
      rw [if_neg he3, wrap_small (by omega) (by omega)]
      have ih := sign_loop s at_ c hc m (i + 1) k (by omega) (by omega)
      rw [show ((i : Int) + 1) = ((i + 1 : Nat) : Int) by omega, ih]
      simp [he2]
def signLen (l : List UInt8) : Nat := match signs.find? (fun s => s.isPrefixOf l) with | some t => t.length | none => 0
theorem extract_two (s : ByteArray) (at_ : Nat) : (s.extract at_ (at_ + 2)).data.toList = (s.data.toList.drop at_).take 2 := by
  simp [ByteArray.extract, ByteArray.copySlice]
theorem sign_is (s : ByteArray) (at_ : Nat) (c : UInt8) (r : List UInt8) (hs : s.size ≤ 1100000) (hl : s.data.toList.drop at_ = c :: r) : gossamerref01_sign.f 20 s at_ = some (signLen (c :: r) : Int) := by
  have hc : s.data.toList[at_]? = some c := by
    have := congrArg (fun l => l[0]?) hl
    simpa using this
  have hlen : at_ + (r.length + 1) = s.size := by
    have := congrArg List.length hl
    rw [List.length_drop, List.length_cons, size_len] at this; omega
  have hlp := sign_loop s at_ c hc 13 0 19 rfl (by omega)
  rw [List.drop_zero] at hlp
  unfold signLen
  rw [find_signs]
  unfold gossamerref01_sign.f
  rw [wrap_small (n := (at_ : Int) + 1) (by omega) (by omega), wrap_small (n := (at_ : Int) + 2) (by omega) (by omega)]
  have hnone : ∀ b, b = false → gossamerref01_sign.j0 20 s at_ b = some (if tab.contains c then 1 else 0) := by
    rintro b rfl
    show gossamerref01_sign.j0 (19 + 1) s at_ false = _
    rw [gossamerref01_sign.j0, if_neg (by simp)]
    exact hlp
  clear hlp
  generalize tab.contains c = q at *
  cases r with
  | nil =>
    rw [if_neg (by simp at hlen; omega), hnone _ rfl]
    simp only [List.take_succ_cons, List.take_nil]
    cases q <;> simp
  | cons d r =>
    simp only [List.length_cons] at hlen
    rw [if_pos (by omega), if_pos (by omega), if_pos (by omega), if_pos (by omega)]
    have hx : (s.extract (at_ : Int).toNat ((at_ : Int) + 2).toNat).toList = (c :: d :: r).take 2 := by
      rw [Lib.toList_data, ← hl, ← extract_two]
      have e1 : (at_ : Int).toNat = at_ := by omega
      have e2 : ((at_ : Int) + 2).toNat = at_ + 2 := by omega
      rw [e1, e2]
    rw [hx]
    by_cases h1 : (c :: d :: r).take 2 = [45, 62]
    · rw [if_pos h1, if_pos h1]; rfl
    · rw [if_neg h1, if_neg h1]
      by_cases h2 : (c :: d :: r).take 2 = [61, 61]
      · rw [if_pos h2, h2]; rfl
      · rw [if_neg h2, hnone _ (by simpa using h2)]
        cases q <;> simp
end Refs
end Go.Proofs.YthdkjfhpbigdpaaGreatDoor.Pure

/- Plain Lean: what a token's kind, first byte, text and number have to do with one another. No program in sight. -/
namespace Go.Proofs.YthdkjfhpbigdpaaGreatDoor.HLex
theorem tok_first : ∀ (l : List UInt8) (pos : Nat) (ts : List Tok), lexs pos l = .ok ts → ∀ t ∈ ts, first t.text = .ok (t.kind, t.text, t.n) := by
 refine lexs_induct (M := fun l => ∀ (pos : Nat) (ts : List Tok), lexs pos l = .ok ts → ∀ t ∈ ts, first t.text = .ok (t.kind, t.text, t.n)) ?_ ?_ ?_
 ·intro l h pos ts e; rw [lexs_nil _ h] at e; cases e; simp
 ·intro l e' h h1 pos ts e; rw [lexs_err _ h h1] at e; cases e
 ·intro l k t n h h1 ih pos ts e
  rw [lexs_tok _ h h1] at e
  cases hr : lexs (pos + (l.length - (l.dropWhile blank).length) + t.length) ((l.dropWhile blank).drop t.length) with
  | error x => rw [hr] at e; cases e
  | ok us =>
   rw [hr] at e; cases e
   intro u hu
   rcases List.mem_cons.1 hu with rfl | hu
   ·exact first_self h1
   ·exact ih _ us hr u hu
theorem first_or {r t : List UInt8} {k n : Nat} (h : first r = .ok (k, t, n)) : (t = r.takeWhile wordly ∧ t ≠ [] ∧ named t = .ok (k, n)) ∨ (r.takeWhile wordly = [] ∧ k = 5 ∧ n = 0 ∧ t ∈ signs) := by
 cases first_is h with
 | word h1 h2 => exact .inl ⟨rfl, h1, h2⟩
 | sign h1 h2 => exact .inr ⟨h1, rfl, rfl, List.mem_of_find?_eq_some h2⟩
inductive KindIs (c : UInt8) (t : Tok) : Prop
 | name : lower c = true → t.kind = 1 → isWord t.text = false → t.n = 0 → KindIs c t
 | word : lower c = true → t.kind = 4 → isWord t.text = true → t.n = 0 → KindIs c t
 | con : upper c = true → t.kind = 2 → isWord t.text = false → t.n = 0 → KindIs c t
 | int : digit c = true → t.kind = 3 → isWord t.text = false → t.n = num t.text → (∀ d ∈ t.text, digit d = true) → KindIs c t
 | sign : wordly c = false → t.kind = 5 → isWord t.text = false → t.n = 0 → KindIs c t
theorem word_head : ∀ w ∈ words, ∀ c r, w = c :: r → lower c = true := by
 intro w hw c r e
 subst e
 simp only [words, List.mem_cons, List.mem_nil_iff, or_false] at hw
 rcases hw with e | e | e | e | e <;> (injection e with e1 e2; subst e1; decide)
theorem sign_word : ∀ s ∈ signs, isWord s = false := by
 intro s hs
 simp only [signs, List.mem_cons, List.mem_nil_iff, or_false] at hs
 rcases hs with rfl|rfl|rfl|rfl|rfl|rfl|rfl|rfl|rfl|rfl|rfl|rfl|rfl|rfl|rfl <;> decide
theorem low_not {c : UInt8} (h : lower c = true) : upper c = false ∧ digit c = false := by
 simp only [lower, upper, digit, Bool.and_eq_true, decide_eq_true_eq, Bool.and_eq_false_imp, decide_eq_false_iff_not] at *
 omega
theorem wordly_low {c : UInt8} (h : wordly c = true) (h1 : digit c = false) (h2 : upper c = false) : lower c = true := by
 simpa [wordly, h1, h2] using h
theorem wordly_digit {c : UInt8} (h : wordly c = true) (h1 : ¬ 57 < c.toNat) : digit c = true := by
 simp only [wordly, lower, upper, digit, Bool.or_eq_true, Bool.and_eq_true, decide_eq_true_eq] at *
 omega
theorem kind_of {t : Tok} (h : first t.text = .ok (t.kind, t.text, t.n)) : ∃ c r, t.text = c :: r ∧ t.text.length ≤ 18 ∧ KindIs c t := by
 cases hx : t.text with
 | nil => exact absurd hx (first_pre h).2
 | cons c r =>
  refine ⟨c, r, rfl, ?_⟩
  rw [← hx]
  rcases first_or h with ⟨h1, h2, h3⟩ | ⟨h1, h2, h3, h4⟩
  ·have hall : ∀ d ∈ t.text, wordly d = true := by rw [h1]; exact tw_all _ _
   have hc : wordly c = true := hall c (by rw [hx]; exact List.mem_cons_self ..)
   have hnw : lower c = false → isWord t.text = false := fun hl => by
    cases e : isWord t.text with
    | false => rfl
    | true => rw [word_head _ ((isWord_iff _).1 e) c r hx] at hl; cases hl
   unfold named at h3
   have hh : t.text.head? = some c := by rw [hx]; rfl
   rw [hh] at h3
   simp only [Option.map_some, Option.getD_some] at h3
   by_cases hd : digit c = true
   ·rw [if_pos hd] at h3
    split at h3
    ·cases h3
    ·rename_i hany
     split at h3
     ·cases h3
     ·rename_i hlen
      simp only [Except.ok.injEq, Prod.mk.injEq] at h3
      have hlo : lower c = false := by
       cases e : lower c with
       | false => rfl
       | true => rw [(low_not e).2] at hd; cases hd
      refine ⟨by omega, .int hd h3.1.symm (hnw hlo) h3.2.symm fun d hd => wordly_digit (hall d hd) fun hlt => hany ?_⟩
      rw [List.any_eq_true]; exact ⟨d, hd, by simpa using hlt⟩
   ·rw [if_neg hd] at h3
    have hd' : digit c = false := by simpa using hd
    split at h3
    ·cases h3
    ·rename_i hlen
     split at h3
     ·rename_i hw
      simp only [Except.ok.injEq, Prod.mk.injEq] at h3
      exact ⟨by omega, .word (word_head _ ((isWord_iff _).1 hw) c r hx) h3.1.symm hw h3.2.symm⟩
     ·rename_i hw
      have hw' : isWord t.text = false := by simpa using hw
      split at h3
      ·rename_i hu
       simp only [Except.ok.injEq, Prod.mk.injEq] at h3
       exact ⟨by omega, .con hu h3.1.symm hw' h3.2.symm⟩
      ·rename_i hu
       simp only [Except.ok.injEq, Prod.mk.injEq] at h3
       exact ⟨by omega, .name (wordly_low hc hd' (by simpa using hu)) h3.1.symm hw' h3.2.symm⟩
  ·have hc : wordly c = false := by
    rw [hx] at h1
    cases e : wordly c with
    | false => rfl
    | true => simp [List.takeWhile, e] at h1
   have := (sign_facts _ h4).2.1
   exact ⟨by omega, .sign hc h2 (sign_word _ h4) h3⟩
end Go.Proofs.YthdkjfhpbigdpaaGreatDoor.HLex

namespace Go.Proofs.YthdkjfhpbigdpaaGreatDoor.Pure
open Go Go.RowKit Go.Lib Go.Proofs Go.Proofs.YthdkjfhpbigdpaaGreatDoor.Q Go.Proofs.YthdkjfhpbigdpaaGreatDoorW.PrintWords Go.Proofs.YthdkjfhpbigdpaaGreatDoorW.PrintLast Go.Proofs.YthdkjfhpbigdpaaGreatDoorW.PrintMore
open HLexC (toS)
open HLex (Tok Stands lower upper digit wordly num signs)
open More
namespace Refs
set_option linter.unusedVariables false
set_option linter.unusedSimpArgs false
def OnePost (s : ByteArray) (at_ : Nat) (w : World) (e : Ending) (w' : World) : Prop :=
 match HLex.first (s.data.toList.drop at_) with
 | .ok (k, t, n) => e = .returned (.tuple #[.agg #[.int .i64 (k : Int), .string ⟨t.toArray⟩, .int .i64 (n : Int), .int .i64 (at_ : Int)], .int .i64 0]) ∧ Below w.heap.size w w'
 | .error er => e = .returned (.tuple #[.agg #[.int .i64 0, .string ⟨#[]⟩, .int .i64 0, .int .i64 0], .int .i64 (er : Int)]) ∧ Below w.heap.size w w'
theorem extract_is (s : ByteArray) (at_ k : Nat) (t r : List UInt8) (hl : s.data.toList.drop at_ = r) (ht : r.take k = t) : s.extract at_ (at_ + k) = ⟨t.toArray⟩ := by
 refine (HLexC.bytes_eq_iff _ _).2 ?_
 have : (s.extract at_ (at_ + k)).data.toList = (s.data.toList.drop at_).take k := by simp [ByteArray.extract, ByteArray.copySlice]
 rw [this, hl, ht]
theorem below4 {B : Nat} {w w' : World} (h : Below B w w') {g : Nat} (hg : B ≤ g) (u0 u1 u2 u3 : Value) : Below B w ((((w'.setCell ⟨g, 0, none⟩ u0).setCell ⟨g, 1, none⟩ u1).setCell ⟨g, 2, none⟩ u2).setCell ⟨g, 3, none⟩ u3) :=
 (((h.setCell (p := ⟨g, 0, none⟩) hg u0).setCell (p := ⟨g, 1, none⟩) hg u1).setCell (p := ⟨g, 2, none⟩) hg u2).setCell (p := ⟨g, 3, none⟩) hg u3
def Z : Obj := Obj.cells #[Value.int .i64 0, Value.string ⟨#[]⟩, Value.int .i64 0, Value.int .i64 0] 49
set_option maxRecDepth 100000 in
theorem one_sign (s : ByteArray) (at_ : Nat) (w : World) (hs : s.size ≤ 1100000) (c : UInt8) (r : List UInt8) (hl : s.data.toList.drop at_ = c :: r) (hw : (c :: r).takeWhile wordly = []) :
  Calls Tryz.prog 35 #[.string s, .int .i64 at_] w (OnePost s at_ w) := by
 have hlen : at_ + (r.length + 1) = s.size := by
  have := congrArg List.length hl
  rw [List.length_drop, List.length_cons, size_len] at this; omega
 have hr0 := run_is s at_ hs (by omega)
 rw [hl, hw] at hr0
 have HR := Lib.hid hr0
 have hs0 := sign_is s at_ c r hs hl
 have HS := Lib.hid hs0
 have HL := Lib.hid hl
 have HW := Lib.hid hw
 clear hr0 hs0 hl hw
 have hb0 := blk_new w Z
 have hbA := below_alloc (Below.refl w.heap.size w) Z
 have BK := Lib.hid hb0; have BB := Lib.hid hbA
 clear hb0 hbA
 go_enter Tryz.func35, Tryz.ntmps35
 go_wp2_with fail
 refine (gossamerref01_run.calls (s.size + 4) s at_ _ _ _ HR.out).mono ?_
 rintro e wf ⟨rfl, hd⟩
 have n0_ := Lib.hid (blk_below BK.out hd.below)
 have n1_ := Lib.hid (below_step BB.out hd.below)
 clear BK BB hd
 have BK := n0_; have BB := n1_
 clear n0_ n1_
 go_wp2_with fail
 refine (gossamerref01_sign.calls 20 s at_ _ _ HS.out).mono ?_
 rintro e w2 ⟨rfl, hd⟩
 have n0_ := Lib.hid (blk_below BK.out hd.below)
 have n1_ := Lib.hid (below_step BB.out hd.below)
 clear BK BB hd
 have BK := n0_; have BB := n1_
 clear n0_ n1_
 cases hf : signs.find? (fun s => s.isPrefixOf (c :: r)) with
 | none =>
  have hk : signLen (c :: r) = 0 := by unfold signLen; rw [hf]
  rw [hk]
  have HF := Lib.hid hf
  clear hf hk
  have c0 := blk_cell BK.out 0; have c1 := blk_cell BK.out 1; have c2 := blk_cell BK.out 2; have c3 := blk_cell BK.out 3
  have z0 := blk_frozen BK.out 0; have z1 := blk_frozen BK.out 1; have z2 := blk_frozen BK.out 2; have z3 := blk_frozen BK.out 3
  simp only [List.getElem?_toArray, List.getElem?_cons_zero, List.getElem?_cons_succ] at c0 c1 c2 c3
  go_wp2_with fail
  refine bodyPost_ret (results_ct rfl _ _ w.heap.size 49 #[.int .i64 0, .string ⟨#[]⟩, .int .i64 0, .int .i64 0] (0, 0) _ rfl (blk_put (blk_put (blk_put (blk_put BK.out 0 _ rfl) 1 _ rfl) 2 _ rfl) 3 _ rfl) Tryz.underlying49 rfl (by kernel_rfl)) rfl ?_
  unfold OnePost
  have hfst : HLex.first (c :: r) = .error 10 := by unfold HLex.first; simp only [HW.out, if_true, HF.out]
  rw [HL.out, hfst]
  exact ⟨rfl, below4 BB.out (Nat.le_refl _) _ _ _ _⟩
 | some t =>
  have hk : signLen (c :: r) = t.length := by unfold signLen; rw [hf]
  have htm := List.mem_of_find?_eq_some hf
  have hpre : t <+: c :: r := by
   have := List.find?_some hf
   exact List.isPrefixOf_iff_prefix.1 this
  have ht0 : 0 < t.length := List.length_pos_iff.2 (HLex.sign_facts t htm).1
  have ht1 : t.length ≤ r.length + 1 := by have := hpre.length_le; rwa [List.length_cons] at this
  rw [hk]
  have HF := Lib.hid hf
  have HP := Lib.hid hpre
  clear hf hk htm hpre
  have c0 := blk_cell BK.out 0; have c1 := blk_cell BK.out 1; have c2 := blk_cell BK.out 2; have c3 := blk_cell BK.out 3
  have z0 := blk_frozen BK.out 0; have z1 := blk_frozen BK.out 1; have z2 := blk_frozen BK.out 2; have z3 := blk_frozen BK.out 3
  simp only [List.getElem?_toArray, List.getElem?_cons_zero, List.getElem?_cons_succ] at c0 c1 c2 c3
  have hx := extract_is s at_ t.length t (c :: r) HL.out (by obtain ⟨u, hu⟩ := HP.out; rw [← hu]; simp)
  have HX := Lib.hid hx
  clear hx
  have i1 : (at_ : Int) ≤ at_ + (t.length : Int) := by omega
  have i2 : (at_ : Int) + (t.length : Int) ≤ (s.size : Int) := by omega
  have i3 : ((at_ : Int) + (t.length : Int)).toNat = at_ + t.length := by omega
  go_wp2_with fail
  refine bodyPost_ret (results_ct rfl _ _ w.heap.size 49 #[.int .i64 5, .string (s.extract at_ (at_ + t.length)), .int .i64 0, .int .i64 at_] (0, 0) _ rfl (blk_put (blk_put (blk_put (blk_put BK.out 0 _ rfl) 1 _ rfl) 2 _ rfl) 3 _ rfl) Tryz.underlying49 rfl (by kernel_rfl)) rfl ?_
  unfold OnePost
  rw [HL.out, HLex.first_sign HW.out HF.out, HX.out]
  exact ⟨rfl, below4 BB.out (Nat.le_refl _) _ _ _ _⟩
set_option maxRecDepth 100000 in
theorem one_word (s : ByteArray) (at_ : Nat) (w : World) (hs : s.size ≤ 1100000) (c : UInt8) (r : List UInt8) (hl : s.data.toList.drop at_ = c :: r) (hc : wordly c = true) :
  Calls Tryz.prog 35 #[.string s, .int .i64 at_] w (OnePost s at_ w) := by
 have hlen : at_ + (r.length + 1) = s.size := by
  have := congrArg List.length hl
  rw [List.length_drop, List.length_cons, size_len] at this; omega
 obtain ⟨wd, hwd⟩ : ∃ wd, (c :: r).takeWhile wordly = wd := ⟨_, rfl⟩
 have hr0 := run_is s at_ hs (by omega)
 rw [hl, hwd] at hr0
 have hwn : 0 < wd.length := by rw [← hwd]; simp [List.takeWhile, hc]
 have hwl : wd.length ≤ r.length + 1 := by have := HLex.tw_len wordly (c :: r); rw [hwd] at this; simpa using this
 have hhd : wd.head? = some c := by rw [← hwd]; simp [List.takeWhile, hc]
 have hx : s.extract at_ (at_ + wd.length) = ⟨wd.toArray⟩ := extract_is s at_ wd.length wd (c :: r) hl (by rw [← hwd]; exact HLex.tw_eq_take _ _)
 have hcl := class_is c 1
 have hfst : HLex.first (c :: r) = match HLex.named wd with | .ok (k, n) => .ok (k, wd, n) | .error e => .error e := by
  unfold HLex.first
  have : (c :: r).takeWhile wordly ≠ [] := by rw [hwd]; exact List.length_pos_iff.1 hwn
  simp only [this, if_false]
  rw [hwd]
  rfl
 have hsc : ∀ h : at_ < s.size, s[at_]'h = c := fun h => by
  have h' : at_ < s.data.toList.length := by rw [size_len]; exact h
  have e1 : s.data.toList[at_]? = some c := by
   have := congrArg (fun l => l[0]?) hl
   simpa using this
  rw [List.getElem?_eq_getElem h'] at e1
  exact Option.some.inj e1
 have HR := Lib.hid hr0
 have HL := Lib.hid hl
 have HW := Lib.hid hwd
 have HC := Lib.hid hc
 have HCL := Lib.hid hcl
 have HX := Lib.hid hx
 have HH := Lib.hid hhd
 have HF := Lib.hid hfst
 clear hr0 hl hwd hc hcl hx hhd hfst
 have hb0 := blk_new w Z
 have hbA := below_alloc (Below.refl w.heap.size w) Z
 have BK := Lib.hid hb0; have BB := Lib.hid hbA
 clear hb0 hbA
 go_enter Tryz.func35, Tryz.ntmps35
 go_wp2_with fail
 refine (gossamerref01_run.calls (s.size + 4) s at_ _ _ _ HR.out).mono ?_
 rintro e wf ⟨rfl, hd⟩
 have n0_ := Lib.hid (blk_below BK.out hd.below)
 have n1_ := Lib.hid (below_step BB.out hd.below)
 clear BK BB hd
 have BK := n0_; have BB := n1_
 clear n0_ n1_
 have i1 : (at_ : Int) ≤ at_ + (wd.length : Int) := by omega
 have i2 : (at_ : Int) + (wd.length : Int) ≤ (s.size : Int) := by omega
 have i3 : ((at_ : Int) + (wd.length : Int)).toNat = at_ + wd.length := by omega
 go_wp2_with fail
 have hgn := blk_lt BK.out
 have n0_ := Lib.hid (blk_alloc BK.out (Obj.cells #[Value.int .i64 0, Value.string (s.extract at_ (at_ + wd.length)), Value.int .i64 0, Value.int .i64 (at_ : Int)] 49))
 have n1_ := Lib.hid (below_alloc BB.out (Obj.cells #[Value.int .i64 0, Value.string (s.extract at_ (at_ + wd.length)), Value.int .i64 0, Value.int .i64 (at_ : Int)] 49))
 have n2_ := Lib.hid (blk_new wf (Obj.cells #[Value.int .i64 0, Value.string (s.extract at_ (at_ + wd.length)), Value.int .i64 0, Value.int .i64 (at_ : Int)] 49))
 clear BK BB
 have BK := n0_; have BB := n1_; have BT := n2_
 clear n0_ n1_ n2_
 refine (gossamerref01_class.calls 4 _ _ _ HCL.out).mono ?_
 rintro e w3 ⟨rfl, hd⟩
 have n0_ := Lib.hid (blk_below BK.out hd.below)
 have n1_ := Lib.hid (below_step BB.out hd.below)
 have n2_ := Lib.hid (blk_below BT.out hd.below)
 clear BK BB BT hd
 have BK := n0_; have BB := n1_; have BT := n2_
 clear n0_ n1_ n2_
 generalize wf.heap.size = g2 at *
 have c0 := blk_cell BK.out 0; have c1 := blk_cell BK.out 1; have c2 := blk_cell BK.out 2; have c3 := blk_cell BK.out 3
 have z0 := blk_frozen BK.out 0; have z1 := blk_frozen BK.out 1; have z2 := blk_frozen BK.out 2; have z3 := blk_frozen BK.out 3
 have d0 := blk_cell BT.out 0; have d1 := blk_cell BT.out 1; have d2 := blk_cell BT.out 2; have d3 := blk_cell BT.out 3
 have y0 := blk_frozen BT.out 0; have y1 := blk_frozen BT.out 1; have y2 := blk_frozen BT.out 2; have y3 := blk_frozen BT.out 3
 simp only [List.getElem?_toArray, List.getElem?_cons_zero, List.getElem?_cons_succ] at c0 c1 c2 c3 d0 d1 d2 d3
 have q1 : ¬ w.heap.size = g2 := by omega
 have q2 : ¬ g2 = w.heap.size := by omega
 have hwa : ∀ k n, HLex.named wd = .ok (k, n) → HLex.first (c :: r) = .ok (k, wd, n) := fun k n h => by rw [HF.out, h]
 have hwe : ∀ er, HLex.named wd = .error er → HLex.first (c :: r) = .error er := fun er h => by rw [HF.out, h]
 have HWA := Lib.hid hwa; have HWE := Lib.hid hwe
 clear hwa hwe
 by_cases hd : digit c = true
 ·have e3 : cl c = 3 := by
   unfold cl; have := HLex.low_not (c := c)
   cases h1 : lower c
   ·cases h2 : upper c
    ·simp [hd]
    ·simp only [upper, digit, Bool.and_eq_true, decide_eq_true_eq] at h2 hd; omega
   ·rw [(HLex.low_not h1).2] at hd; cases hd
  have HD := Lib.hid hd
  clear hd
  rw [e3]
  clear e3
  cases ha : wd.any letter with
  | true =>
   have HA := Lib.hid ha
   clear ha
   go_wp2_with fail
   refine bodyPost_ret (results_ct rfl _ _ w.heap.size 49 #[.int .i64 0, .string ⟨#[]⟩, .int .i64 0, .int .i64 0] (0, 0) _ rfl (blk_put (blk_put (blk_put (blk_put BK.out 0 _ rfl) 1 _ rfl) 2 _ rfl) 3 _ rfl) Tryz.underlying49 rfl (by kernel_rfl)) rfl ?_
   unfold OnePost
   rw [HL.out, HWE.out 10 (by unfold HLex.named; rw [HH.out]; simp only [Option.map_some, Option.getD_some, HD.out]; exact if_pos HA.out)]
   exact ⟨rfl, below4 BB.out (Nat.le_refl _) _ _ _ _⟩
  | false =>
   have HA : Hid (wd.any (fun c => decide (57 < c.toNat)) = false) := Lib.hid ha
   clear ha
   by_cases h18 : 18 < wd.length
   ·have j1 : decide ((wd.length : Int) > 18) = true := by simp; omega
    go_wp2_with fail
    refine bodyPost_ret (results_ct rfl _ _ w.heap.size 49 #[.int .i64 0, .string ⟨#[]⟩, .int .i64 0, .int .i64 0] (0, 0) _ rfl (blk_put (blk_put (blk_put (blk_put BK.out 0 _ rfl) 1 _ rfl) 2 _ rfl) 3 _ rfl) Tryz.underlying49 rfl (by kernel_rfl)) rfl ?_
    unfold OnePost
    rw [HL.out, HWE.out 11 (by unfold HLex.named; rw [HH.out]; simp only [Option.map_some, Option.getD_some, HD.out]; rw [if_pos trivial, HA.out, if_neg (by simp), if_pos (.inl h18)])]
    exact ⟨rfl, below4 BB.out (Nat.le_refl _) _ _ _ _⟩
   ·have j1 : decide ((wd.length : Int) > 18) = false := by simp; omega
    by_cases h1 : 1 < wd.length
    ·have j2 : decide ((wd.length : Int) > 1) = true := by simp; omega
     by_cases h0 : c.toNat = 48
     ·have j3 : ((c.toNat : Int) == 48) = true := by simp; omega
      have hc48 := Lib.hid (UInt8.toNat_inj.1 h0 : c = 48)
      clear h0
      go_wp2_with fail
      refine bodyPost_ret (results_ct rfl _ _ w.heap.size 49 #[.int .i64 0, .string ⟨#[]⟩, .int .i64 0, .int .i64 0] (0, 0) _ rfl (blk_put (blk_put (blk_put (blk_put BK.out 0 _ rfl) 1 _ rfl) 2 _ rfl) 3 _ rfl) Tryz.underlying49 rfl (by kernel_rfl)) rfl ?_
      unfold OnePost
      rw [HL.out, HWE.out 11 (by unfold HLex.named; rw [HH.out]; simp only [Option.map_some, Option.getD_some, HD.out]; rw [if_pos trivial, HA.out, if_neg (by simp), if_pos (.inr ⟨h1, by rw [hc48.out]⟩)])]
      exact ⟨rfl, below4 BB.out (Nat.le_refl _) _ _ _ _⟩
     ·have j3 : ((c.toNat : Int) == 48) = false := by simp; omega
      have H0 := Lib.hid h0
      clear h0
      have hall : ∀ d ∈ wd, digit d = true := by
       intro d hd
       have h1 : wordly d = true := by rw [← HW.out] at hd; exact HLex.tw_all _ _ d hd
       refine HLex.wordly_digit h1 fun h2 => ?_
       have : wd.any (fun c => decide (57 < c.toNat)) = true := List.any_eq_true.2 ⟨d, hd, by simpa using h2⟩
       rw [HA.out] at this; cases this
      have hnum := number_is (s.extract at_ (at_ + wd.length)) (by rw [HX.out]; show wd.toArray.size ≤ 18; simp; omega) (by rw [HX.out]; simpa using hall)
      rw [HX.out] at hnum
      simp only [List.toList_toArray] at hnum
      rw [← HX.out] at hnum
      have HN := Lib.hid hnum
      clear hnum hall
      go_wp2_with fail
      refine (gossamerref01_number.calls 20 _ _ _ HN.out).mono ?_
      rintro e w4 ⟨rfl, hd⟩
      have n0_ := Lib.hid (blk_below (blk_far (p := ⟨g2, 0, none⟩) BK.out q1 (.int .i64 (3))) hd.below)
      have n1_ := Lib.hid (below_step (BB.out.setCell (p := ⟨g2, 0, none⟩) (by show w.heap.size ≤ g2; omega) (.int .i64 (3))) hd.below)
      have n2_ := Lib.hid (blk_below (blk_put BT.out 0 (.int .i64 (3)) rfl) hd.below)
      clear BK BB BT hd c0 c1 c2 c3 z0 z1 z2 z3 d0 d1 d2 d3 y0 y1 y2 y3
      have BK := n0_; have BB := n1_; have BT := n2_
      clear n0_ n1_ n2_
      have c0 := blk_cell BK.out 0; have c1 := blk_cell BK.out 1; have c2 := blk_cell BK.out 2; have c3 := blk_cell BK.out 3
      have z0 := blk_frozen BK.out 0; have z1 := blk_frozen BK.out 1; have z2 := blk_frozen BK.out 2; have z3 := blk_frozen BK.out 3
      have d0 := blk_cell BT.out 0; have d1 := blk_cell BT.out 1; have d2 := blk_cell BT.out 2; have d3 := blk_cell BT.out 3
      have y0 := blk_frozen BT.out 0; have y1 := blk_frozen BT.out 1; have y2 := blk_frozen BT.out 2; have y3 := blk_frozen BT.out 3
      simp only [List.getElem?_toArray, List.getElem?_cons_zero, List.getElem?_cons_succ] at c0 c1 c2 c3
      simp at d0 d1 d2 d3
      go_wp2_with fail
      refine bodyPost_ret (results_ct rfl _ _ w.heap.size 49 #[.int .i64 3, .string (s.extract at_ (at_ + wd.length)), .int .i64 (num wd : Int), .int .i64 (at_ : Int)] (0, 0) _ rfl (blk_put (blk_put (blk_put (blk_put (blk_far (p := ⟨g2, 2, none⟩) BK.out q1 _) 0 _ rfl) 1 _ rfl) 2 _ rfl) 3 _ rfl) Tryz.underlying49 rfl (by kernel_rfl)) rfl ?_
      unfold OnePost
      rw [HL.out, HWA.out 3 (num wd) (by unfold HLex.named; rw [HH.out]; simp only [Option.map_some, Option.getD_some, HD.out]; rw [if_pos trivial, HA.out, if_neg (by simp), if_neg (by rintro (h | ⟨h, h'⟩) <;> first|exact absurd h h18|exact absurd h h1|exact absurd (congrArg UInt8.toNat (Option.some.inj h')) H0.out)]), HX.out]
      exact ⟨rfl, below4 (BB.out.setCell (p := ⟨g2, 2, none⟩) (by show w.heap.size ≤ g2; omega) _) (Nat.le_refl _) _ _ _ _⟩
    ·have j2 : decide ((wd.length : Int) > 1) = false := by simp; omega
     have hall : ∀ d ∈ wd, digit d = true := by
      intro d hd
      have h1 : wordly d = true := by rw [← HW.out] at hd; exact HLex.tw_all _ _ d hd
      refine HLex.wordly_digit h1 fun h2 => ?_
      have : wd.any (fun c => decide (57 < c.toNat)) = true := List.any_eq_true.2 ⟨d, hd, by simpa using h2⟩
      rw [HA.out] at this; cases this
     have hnum := number_is (s.extract at_ (at_ + wd.length)) (by rw [HX.out]; show wd.toArray.size ≤ 18; simp; omega) (by rw [HX.out]; simpa using hall)
     rw [HX.out] at hnum
     simp only [List.toList_toArray] at hnum
     rw [← HX.out] at hnum
     have HN := Lib.hid hnum
     clear hnum hall
     go_wp2_with fail
     refine (gossamerref01_number.calls 20 _ _ _ HN.out).mono ?_
     rintro e w4 ⟨rfl, hd⟩
     have n0_ := Lib.hid (blk_below (blk_far (p := ⟨g2, 0, none⟩) BK.out q1 (.int .i64 (3))) hd.below)
     have n1_ := Lib.hid (below_step (BB.out.setCell (p := ⟨g2, 0, none⟩) (by show w.heap.size ≤ g2; omega) (.int .i64 (3))) hd.below)
     have n2_ := Lib.hid (blk_below (blk_put BT.out 0 (.int .i64 (3)) rfl) hd.below)
     clear BK BB BT hd c0 c1 c2 c3 z0 z1 z2 z3 d0 d1 d2 d3 y0 y1 y2 y3
     have BK := n0_; have BB := n1_; have BT := n2_
     clear n0_ n1_ n2_
     have c0 := blk_cell BK.out 0; have c1 := blk_cell BK.out 1; have c2 := blk_cell BK.out 2; have c3 := blk_cell BK.out 3
     have z0 := blk_frozen BK.out 0; have z1 := blk_frozen BK.out 1; have z2 := blk_frozen BK.out 2; have z3 := blk_frozen BK.out 3
     have d0 := blk_cell BT.out 0; have d1 := blk_cell BT.out 1; have d2 := blk_cell BT.out 2; have d3 := blk_cell BT.out 3
     have y0 := blk_frozen BT.out 0; have y1 := blk_frozen BT.out 1; have y2 := blk_frozen BT.out 2; have y3 := blk_frozen BT.out 3
     simp only [List.getElem?_toArray, List.getElem?_cons_zero, List.getElem?_cons_succ] at c0 c1 c2 c3
     simp at d0 d1 d2 d3
     go_wp2_with fail
     refine bodyPost_ret (results_ct rfl _ _ w.heap.size 49 #[.int .i64 3, .string (s.extract at_ (at_ + wd.length)), .int .i64 (num wd : Int), .int .i64 (at_ : Int)] (0, 0) _ rfl (blk_put (blk_put (blk_put (blk_put (blk_far (p := ⟨g2, 2, none⟩) BK.out q1 _) 0 _ rfl) 1 _ rfl) 2 _ rfl) 3 _ rfl) Tryz.underlying49 rfl (by kernel_rfl)) rfl ?_
     unfold OnePost
     rw [HL.out, HWA.out 3 (num wd) (by unfold HLex.named; rw [HH.out]; simp only [Option.map_some, Option.getD_some, HD.out]; rw [if_pos trivial, HA.out, if_neg (by simp), if_neg (by rintro (h | ⟨h, h'⟩) <;> first|exact absurd h h18|exact absurd h h1|exact absurd (congrArg UInt8.toNat (Option.some.inj h')) H0.out)]), HX.out]
     exact ⟨rfl, below4 (BB.out.setCell (p := ⟨g2, 2, none⟩) (by show w.heap.size ≤ g2; omega) _) (Nat.le_refl _) _ _ _ _⟩
 ·have hd' : digit c = false := by simpa using hd
  clear hd
  obtain ⟨kc, hkc, e3⟩ : ∃ kc : Nat, kc = (if upper c then 2 else 1) ∧ cl c = (kc : Int) := by
   refine ⟨_, rfl, ?_⟩
   unfold cl
   cases h1 : lower c
   ·cases h2 : upper c
    ·have := HLex.wordly_low HC.out hd' h2; rw [h1] at this; cases this
    ·rfl
   ·rw [(HLex.low_not h1).1]; rfl
  have hk3 : kc = 1 ∨ kc = 2 := by rw [hkc]; cases upper c <;> simp
  have HD := Lib.hid hd'; have HK := Lib.hid hkc
  clear hd' hkc
  rw [e3]
  clear e3
  have j0 : ((kc : Int) == 3) = false := by simp; omega
  by_cases h16 : 16 < wd.length
  ·have j1 : decide ((wd.length : Int) > 16) = true := by simp; omega
   go_wp2_with fail
   refine bodyPost_ret (results_ct rfl _ _ w.heap.size 49 #[.int .i64 0, .string ⟨#[]⟩, .int .i64 0, .int .i64 0] (0, 0) _ rfl (blk_put (blk_put (blk_put (blk_put BK.out 0 _ rfl) 1 _ rfl) 2 _ rfl) 3 _ rfl) Tryz.underlying49 rfl (by kernel_rfl)) rfl ?_
   unfold OnePost
   rw [HL.out, HWE.out 11 (by unfold HLex.named; rw [HH.out]; simp only [Option.map_some, Option.getD_some, HD.out]; rw [if_neg (by simp)]; rw [if_pos h16])]
   exact ⟨rfl, below4 BB.out (Nat.le_refl _) _ _ _ _⟩
  ·have j1 : decide ((wd.length : Int) > 16) = false := by simp; omega
   have hword := rword_is (s.extract at_ (at_ + wd.length))
   rw [HX.out] at hword
   simp only [List.toList_toArray] at hword
   rw [← HX.out] at hword
   cases hiw : HLex.isWord wd with
   | true =>
    rw [hiw] at hword
    have HN := Lib.hid hword; have HI := Lib.hid hiw
    clear hword hiw
    go_wp2_with fail
    refine (gossamerref01_Word.calls _ _ _ HN.out).mono ?_
    rintro e w4 ⟨rfl, hd⟩
    have n0_ := Lib.hid (blk_below (blk_far (p := ⟨g2, 0, none⟩) BK.out q1 (.int .i64 ((kc : Int)))) hd.below)
    have n1_ := Lib.hid (below_step (BB.out.setCell (p := ⟨g2, 0, none⟩) (by show w.heap.size ≤ g2; omega) (.int .i64 ((kc : Int)))) hd.below)
    have n2_ := Lib.hid (blk_below (blk_put BT.out 0 (.int .i64 ((kc : Int))) rfl) hd.below)
    clear BK BB BT hd c0 c1 c2 c3 z0 z1 z2 z3 d0 d1 d2 d3 y0 y1 y2 y3
    have BK := n0_; have BB := n1_; have BT := n2_
    clear n0_ n1_ n2_
    have c0 := blk_cell BK.out 0; have c1 := blk_cell BK.out 1; have c2 := blk_cell BK.out 2; have c3 := blk_cell BK.out 3
    have z0 := blk_frozen BK.out 0; have z1 := blk_frozen BK.out 1; have z2 := blk_frozen BK.out 2; have z3 := blk_frozen BK.out 3
    have d0 := blk_cell BT.out 0; have d1 := blk_cell BT.out 1; have d2 := blk_cell BT.out 2; have d3 := blk_cell BT.out 3
    have y0 := blk_frozen BT.out 0; have y1 := blk_frozen BT.out 1; have y2 := blk_frozen BT.out 2; have y3 := blk_frozen BT.out 3
    simp only [List.getElem?_toArray, List.getElem?_cons_zero, List.getElem?_cons_succ] at c0 c1 c2 c3
    simp at d0 d1 d2 d3
    go_wp2_with fail
    refine bodyPost_ret (results_ct rfl _ _ w.heap.size 49 #[.int .i64 4, .string (s.extract at_ (at_ + wd.length)), .int .i64 0, .int .i64 (at_ : Int)] (0, 0) _ rfl (blk_put (blk_put (blk_put (blk_put (blk_far (p := ⟨g2, 0, none⟩) BK.out q1 _) 0 _ rfl) 1 _ rfl) 2 _ rfl) 3 _ rfl) Tryz.underlying49 rfl (by kernel_rfl)) rfl ?_
    unfold OnePost
    rw [HL.out, HWA.out 4 0 (by unfold HLex.named; rw [HH.out]; simp only [Option.map_some, Option.getD_some, HD.out]; rw [if_neg (by simp)]; rw [if_neg h16, if_pos HI.out]), HX.out]
    exact ⟨rfl, below4 (BB.out.setCell (p := ⟨g2, 0, none⟩) (by show w.heap.size ≤ g2; omega) _) (Nat.le_refl _) _ _ _ _⟩
   | false =>
    rw [hiw] at hword
    have HN := Lib.hid hword; have HI := Lib.hid hiw
    clear hword hiw
    go_wp2_with fail
    refine (gossamerref01_Word.calls _ _ _ HN.out).mono ?_
    rintro e w4 ⟨rfl, hd⟩
    have n0_ := Lib.hid (blk_below (blk_far (p := ⟨g2, 0, none⟩) BK.out q1 (.int .i64 ((kc : Int)))) hd.below)
    have n1_ := Lib.hid (below_step (BB.out.setCell (p := ⟨g2, 0, none⟩) (by show w.heap.size ≤ g2; omega) (.int .i64 ((kc : Int)))) hd.below)
    have n2_ := Lib.hid (blk_below (blk_put BT.out 0 (.int .i64 ((kc : Int))) rfl) hd.below)
    clear BK BB BT hd c0 c1 c2 c3 z0 z1 z2 z3 d0 d1 d2 d3 y0 y1 y2 y3
    have BK := n0_; have BB := n1_; have BT := n2_
    clear n0_ n1_ n2_
    have c0 := blk_cell BK.out 0; have c1 := blk_cell BK.out 1; have c2 := blk_cell BK.out 2; have c3 := blk_cell BK.out 3
    have z0 := blk_frozen BK.out 0; have z1 := blk_frozen BK.out 1; have z2 := blk_frozen BK.out 2; have z3 := blk_frozen BK.out 3
    have d0 := blk_cell BT.out 0; have d1 := blk_cell BT.out 1; have d2 := blk_cell BT.out 2; have d3 := blk_cell BT.out 3
    have y0 := blk_frozen BT.out 0; have y1 := blk_frozen BT.out 1; have y2 := blk_frozen BT.out 2; have y3 := blk_frozen BT.out 3
    simp only [List.getElem?_toArray, List.getElem?_cons_zero, List.getElem?_cons_succ] at c0 c1 c2 c3
    simp at d0 d1 d2 d3
    go_wp2_with fail
    refine bodyPost_ret (results_ct rfl _ _ w.heap.size 49 #[.int .i64 (kc : Int), .string (s.extract at_ (at_ + wd.length)), .int .i64 0, .int .i64 (at_ : Int)] (0, 0) _ rfl (blk_put (blk_put (blk_put (blk_put BK.out 0 _ rfl) 1 _ rfl) 2 _ rfl) 3 _ rfl) Tryz.underlying49 rfl (by kernel_rfl)) rfl ?_
    unfold OnePost
    rw [HL.out, HWA.out kc 0 (by unfold HLex.named; rw [HH.out]; simp only [Option.map_some, Option.getD_some, HD.out]; rw [if_neg (by simp)]; rw [if_neg h16, if_neg (by rw [HI.out]; simp), HK.out]; by_cases hu : upper c = true <;> simp [hu]), HX.out]
    exact ⟨rfl, below4 BB.out (Nat.le_refl _) _ _ _ _⟩
theorem one_any (s : ByteArray) (at_ : Nat) (w : World) (hs : s.size ≤ 1100000) (hat : at_ < s.size) : Calls Tryz.prog 35 #[.string s, .int .i64 at_] w (OnePost s at_ w) := by
 cases hl : s.data.toList.drop at_ with
 | nil =>
  have := List.drop_eq_nil_iff.1 hl
  rw [size_len] at this; omega
 | cons c r =>
  cases hc : wordly c with
  | true => exact one_word s at_ w hs c r hl hc
  | false => exact one_sign s at_ w hs c r hl (by simp [List.takeWhile, hc])
end Refs
end Go.Proofs.YthdkjfhpbigdpaaGreatDoor.Pure

namespace Go.Proofs.YthdkjfhpbigdpaaGreatDoor.Q
open Go.RowKit Go.Proofs.YthdkjfhpbigdpaaGreatDoorW.PrintWords Go.Proofs.YthdkjfhpbigdpaaGreatDoorW.PrintLast Go.Proofs.YthdkjfhpbigdpaaGreatDoorW.PrintMore
attribute [local go_sem] max2_int min2_int max_two min_two max_three min_three max_four min_four
set_option linter.unusedVariables false
set_option linter.unusedSimpArgs false

def gossamerref01_One.f (_k : Nat) (a0 : ByteArray) (a1 : Int) : Option (Int × ByteArray × Int × Int × Int) :=
 if a0.size ≤ 1100000 ∧ 0 ≤ a1 ∧ a1.toNat < a0.size then
  match HLex.first (a0.data.toList.drop a1.toNat) with
  | .ok (k, t, n) => some ((k : Int), ⟨t.toArray⟩, (n : Int), a1, 0)
  | .error er => some (0, (⟨#[]⟩ : ByteArray), 0, 0, (er : Int))
 else none
theorem gossamerref01_One.mono : ∀ a0 a1 k, LeO (gossamerref01_One.f k a0 a1) (gossamerref01_One.f (k + 1) a0 a1) := fun _ _ _ _ h => h
theorem gossamerref01_One.calls (k : Nat) (a0 : ByteArray) (a1 : Int) (r1 : Int) (r2 : ByteArray) (r3 : Int) (r4 : Int) (r5 : Int) (w : World) (h : gossamerref01_One.f k a0 a1 = some (r1, r2, r3, r4, r5)) :
  Calls Tryz.prog 35 #[.string a0, .int .i64 a1] w fun e w' => e = .returned (.tuple #[.agg #[.int .i64 r1, .string r2, .int .i64 r3, .int .i64 r4], .int .i64 r5]) ∧ Below w.heap.size w w' := by
 unfold gossamerref01_One.f at h
 split at h
 ·rename_i hc
  have ea : ((a1.toNat : Nat) : Int) = a1 := Int.toNat_of_nonneg hc.2.1
  have hh := Pure.Refs.one_any a0 a1.toNat w hc.1 hc.2.2
  rw [ea] at hh
  refine Calls.mono hh ?_
  intro e w' ho
  unfold Pure.Refs.OnePost at ho
  rw [ea] at ho
  cases hf : HLex.first (a0.data.toList.drop a1.toNat) with
  | ok x =>
   obtain ⟨kk, t, n⟩ := x
   rw [hf] at h ho
   simp only [Option.some.injEq, Prod.mk.injEq] at h
   obtain ⟨h1, h2, h3, h4, h5⟩ := h
   rw [← h1, ← h2, ← h3, ← h4, ← h5]
   exact ho
  | error er =>
   rw [hf] at h ho
   simp only [Option.some.injEq, Prod.mk.injEq] at h
   obtain ⟨h1, h2, h3, h4, h5⟩ := h
   rw [← h1, ← h2, ← h3, ← h4, ← h5]
   exact ho
 ·cases h

end Go.Proofs.YthdkjfhpbigdpaaGreatDoor.Q

namespace Go.Proofs.YthdkjfhpbigdpaaGreatDoor.Q
open Go.RowKit Go.Proofs.YthdkjfhpbigdpaaGreatDoorW.PrintWords Go.Proofs.YthdkjfhpbigdpaaGreatDoorW.PrintLast Go.Proofs.YthdkjfhpbigdpaaGreatDoorW.PrintMore
attribute [local go_sem] max2_int min2_int max_two min_two max_three min_three max_four min_four
set_option linter.unusedVariables false
set_option linter.unusedSimpArgs false

def gossamerref02_token.f (k : Nat) (a0 : ByteArray) (a1 : Int) : Option (Bool) := if a0.toList = ([] : List UInt8) then (some false) else ((gossamerref01_One.f k a0 0).bind fun bt144 => (if bt144.2.2.2.2 = 0 then (if bt144.1 = a1 then (some (bt144.2.1.toList == a0.toList)) else (some false)) else (some false)))
theorem gossamerref02_token.mono : ∀ a0 a1 k, LeO (gossamerref02_token.f k a0 a1) (gossamerref02_token.f (k + 1) a0 a1) := by
 intro a0 a1 k
 unfold gossamerref02_token.f
 repeat' first
  |(with_reducible exact gossamerref01_One.mono _ _ _)
  |(with_reducible exact LeO.refl _)
  |(with_reducible exact LeO.none _)
  |(with_reducible refine LeO.ite ?_ ?_)
  |(with_reducible refine LeO.bind ?_ (fun _ => ?_))
  |exact gossamerref01_One.mono _ _ _
  |exact LeO.none _
  |refine LeO.ite ?_ ?_
  |refine LeO.bind ?_ (fun _ => ?_)
set_option maxHeartbeats 8000000 in
set_option maxRecDepth 100000 in
theorem gossamerref02_token.calls (k : Nat) (a0 : ByteArray) (a1 : Int) (r : Bool) (w : World) (h : gossamerref02_token.f k a0 a1 = some r) :
  Calls Tryz.prog 30 #[.string a0, .int .i64 a1] w fun e w' => e = .returned (.bool r) ∧ Below w.heap.size w w' := by
 have hu49 := Tryz.underlying49
 have HB := Aside0.mk (Below.refl w.heap.size w)
 have H : (if a0.toList = ([] : List UInt8) then (some false) else ((gossamerref01_One.f k a0 0).bind fun bt144 => (if bt144.2.2.2.2 = 0 then (if bt144.1 = a1 then (some (bt144.2.1.toList == a0.toList)) else (some false)) else (some false)))) = some r := h
 clear h
 by_cases c3 : a0.toList = ([] : List UInt8)
 ·rw [if_pos c3] at H
  have c3b0 : (a0.toList == ([] : List UInt8)) = true := beq_iff_eq.mpr c3
  have c3b1 : (a0.toList != ([] : List UInt8)) = false := bne_eq_false_iff_eq.mpr c3
  clear c3
  obtain rfl := Option.some.inj H
  go_enter Tryz.func30, Tryz.ntmps30
  go_wp2
  go_ret
  exact ⟨by first|rfl|(simp [errW_none, errW_some] <;> rfl)|(simp [*, errW_none, errW_some] <;> rfl), by repeat (first|(with_reducible first|exact HB.out|apply below_alloc|apply pw_below_drewN|apply below_drew1)|exact HB.out)⟩
 ·rw [if_neg c3] at H
  have c3b0 : (a0.toList == ([] : List UInt8)) = false := beq_eq_false_iff_ne.mpr c3
  have c3b1 : (a0.toList != ([] : List UInt8)) = true := bne_iff_ne.mpr c3
  replace H := Option.bind_eq_some_iff.mp H
  obtain ⟨⟨t144, t145, t146, t147, t148⟩, A40, H⟩ := H
  replace H : (if t148 = 0 then (if t144 = a1 then (some (t145.toList == a0.toList)) else (some false)) else (some false)) = some r := H
  have A4 := Aside0.mk A40
  clear A40
  by_cases c5 : t148 = 0
  ·rw [if_pos c5] at H
   have c5b0 : (t148 == 0) = true := beq_iff_eq.mpr c5
   have c5b1 : (t148 != 0) = false := bne_eq_false_iff_eq.mpr c5
   clear c5
   by_cases c6 : t144 = a1
   ·rw [if_pos c6] at H
    have c6b0 : (t144 == a1) = true := beq_iff_eq.mpr c6
    have c6b1 : (t144 != a1) = false := bne_eq_false_iff_eq.mpr c6
    clear c6
    obtain rfl := Option.some.inj H
    go_enter Tryz.func30, Tryz.ntmps30
    go_wp2_with (first|((with_reducible refine gate_callee (f := 35) rfl ?_); refine goesL_ (some 11) rfl rfl Tryz.func35 (by kernel_rfl) rfl #[.string a0, .int .i64 0] rfl (by (try simp only [List.map_toArray, List.map_cons, List.map_nil]); first|done|rfl|(simp only [List.length_drop, List.length_take]; rfl)) ?_; (with_reducible refine (gossamerref01_One.calls k a0 0 t144 t145 t146 t147 t148 _ A4.out).mono ?_); rintro e w7 ⟨rfl, hb⟩; refine ⟨_, rfl, ?_⟩; have n0_ := Aside0.mk (below_step (by repeat (first|(with_reducible first|exact HB.out|apply below_alloc|apply pw_below_drewN|apply below_drew1)|exact HB.out)) hb); clear HB; have HB := n0_; clear n0_; (try clear hb); (try clear hb2); (try clear hk); (try clear hi)) | ((with_reducible refine gate_dst (N := 5) rfl ?_); refine box_event ?hg (N := 5) ?hd (cs := #[.int .i64 0, .string (⟨#[]⟩ : ByteArray), .int .i64 0, .int .i64 0]) (t := 49) ?hr ?_; (case hd => rfl); (case hg => rfl); (case hr => first|(go_simp; done)|(go_simp; rfl)); intro gb149 hg w8 hbox hb; have n0_ := Aside0.mk (below_step (by repeat (first|(with_reducible first|exact HB.out|apply below_alloc|apply pw_below_drewN|apply below_drew1)|exact HB.out)) hb); have n1_ := Aside0.mk (hbox); have n2_ := Aside0.mk ((by rw [hg]; exact (below_size (by repeat (first|(with_reducible first|exact HB.out|apply below_alloc|apply pw_below_drewN|apply below_drew1)|exact HB.out))) : w.heap.size ≤ gb149)); have n3_ := Aside0.mk ((by rw [hg]; exact (below_size (by repeat (first|(with_reducible first|exact HB.out|apply below_alloc|apply pw_below_drewN|apply below_drew1)|exact HB.out))) : w.heap.size ≤ gb149)); clear HB; have HB := n0_; have BK149 := n1_; have GW149 := n2_; have GE149 := n3_; clear n0_ n1_ n2_ n3_; clear hb hbox hg; have hcz9_0 : w8.cell? ⟨gb149, 0, none⟩ = some (.int .i64 0) := (blk_cell BK149.out 0).trans rfl; have hcz9_1 : w8.cell? ⟨gb149, 1, none⟩ = some (.string (⟨#[]⟩ : ByteArray)) := (blk_cell BK149.out 1).trans rfl; have hcz9_2 : w8.cell? ⟨gb149, 2, none⟩ = some (.int .i64 0) := (blk_cell BK149.out 2).trans rfl; have hcz9_3 : w8.cell? ⟨gb149, 3, none⟩ = some (.int .i64 0) := (blk_cell BK149.out 3).trans rfl; have hfz9_0 := blk_frozen BK149.out 0; have hfz9_1 := blk_frozen BK149.out 1; have hfz9_2 := blk_frozen BK149.out 2; have hfz9_3 := blk_frozen BK149.out 3))
    go_ret
    exact ⟨by first|rfl|(simp [errW_none, errW_some] <;> rfl)|(simp [*, errW_none, errW_some] <;> rfl), by repeat (first|(with_reducible first|exact HB.out|apply below_alloc|apply pw_below_drewN|apply below_drew1|refine below_set ?_ GE149.out)|exact HB.out)⟩
   ·rw [if_neg c6] at H
    have c6b0 : (t144 == a1) = false := beq_eq_false_iff_ne.mpr c6
    have c6b1 : (t144 != a1) = true := bne_iff_ne.mpr c6
    obtain rfl := Option.some.inj H
    go_enter Tryz.func30, Tryz.ntmps30
    go_wp2_with (first|((with_reducible refine gate_callee (f := 35) rfl ?_); refine goesL_ (some 11) rfl rfl Tryz.func35 (by kernel_rfl) rfl #[.string a0, .int .i64 0] rfl (by (try simp only [List.map_toArray, List.map_cons, List.map_nil]); first|done|rfl|(simp only [List.length_drop, List.length_take]; rfl)) ?_; (with_reducible refine (gossamerref01_One.calls k a0 0 t144 t145 t146 t147 t148 _ A4.out).mono ?_); rintro e w10 ⟨rfl, hb⟩; refine ⟨_, rfl, ?_⟩; have n0_ := Aside0.mk (below_step (by repeat (first|(with_reducible first|exact HB.out|apply below_alloc|apply pw_below_drewN|apply below_drew1)|exact HB.out)) hb); clear HB; have HB := n0_; clear n0_; (try clear hb); (try clear hb2); (try clear hk); (try clear hi)) | ((with_reducible refine gate_dst (N := 5) rfl ?_); refine box_event ?hg (N := 5) ?hd (cs := #[.int .i64 0, .string (⟨#[]⟩ : ByteArray), .int .i64 0, .int .i64 0]) (t := 49) ?hr ?_; (case hd => rfl); (case hg => rfl); (case hr => first|(go_simp; done)|(go_simp; rfl)); intro gb149 hg w11 hbox hb; have n0_ := Aside0.mk (below_step (by repeat (first|(with_reducible first|exact HB.out|apply below_alloc|apply pw_below_drewN|apply below_drew1)|exact HB.out)) hb); have n1_ := Aside0.mk (hbox); have n2_ := Aside0.mk ((by rw [hg]; exact (below_size (by repeat (first|(with_reducible first|exact HB.out|apply below_alloc|apply pw_below_drewN|apply below_drew1)|exact HB.out))) : w.heap.size ≤ gb149)); have n3_ := Aside0.mk ((by rw [hg]; exact (below_size (by repeat (first|(with_reducible first|exact HB.out|apply below_alloc|apply pw_below_drewN|apply below_drew1)|exact HB.out))) : w.heap.size ≤ gb149)); clear HB; have HB := n0_; have BK149 := n1_; have GW149 := n2_; have GE149 := n3_; clear n0_ n1_ n2_ n3_; clear hb hbox hg; have hcz12_0 : w11.cell? ⟨gb149, 0, none⟩ = some (.int .i64 0) := (blk_cell BK149.out 0).trans rfl; have hcz12_1 : w11.cell? ⟨gb149, 1, none⟩ = some (.string (⟨#[]⟩ : ByteArray)) := (blk_cell BK149.out 1).trans rfl; have hcz12_2 : w11.cell? ⟨gb149, 2, none⟩ = some (.int .i64 0) := (blk_cell BK149.out 2).trans rfl; have hcz12_3 : w11.cell? ⟨gb149, 3, none⟩ = some (.int .i64 0) := (blk_cell BK149.out 3).trans rfl; have hfz12_0 := blk_frozen BK149.out 0; have hfz12_1 := blk_frozen BK149.out 1; have hfz12_2 := blk_frozen BK149.out 2; have hfz12_3 := blk_frozen BK149.out 3))
    go_ret
    exact ⟨by first|rfl|(simp [errW_none, errW_some] <;> rfl)|(simp [*, errW_none, errW_some] <;> rfl), by repeat (first|(with_reducible first|exact HB.out|apply below_alloc|apply pw_below_drewN|apply below_drew1|refine below_set ?_ GE149.out)|exact HB.out)⟩
  ·rw [if_neg c5] at H
   have c5b0 : (t148 == 0) = false := beq_eq_false_iff_ne.mpr c5
   have c5b1 : (t148 != 0) = true := bne_iff_ne.mpr c5
   obtain rfl := Option.some.inj H
   go_enter Tryz.func30, Tryz.ntmps30
   go_wp2_with (first|((with_reducible refine gate_callee (f := 35) rfl ?_); refine goesL_ (some 11) rfl rfl Tryz.func35 (by kernel_rfl) rfl #[.string a0, .int .i64 0] rfl (by (try simp only [List.map_toArray, List.map_cons, List.map_nil]); first|done|rfl|(simp only [List.length_drop, List.length_take]; rfl)) ?_; (with_reducible refine (gossamerref01_One.calls k a0 0 t144 t145 t146 t147 t148 _ A4.out).mono ?_); rintro e w13 ⟨rfl, hb⟩; refine ⟨_, rfl, ?_⟩; have n0_ := Aside0.mk (below_step (by repeat (first|(with_reducible first|exact HB.out|apply below_alloc|apply pw_below_drewN|apply below_drew1)|exact HB.out)) hb); clear HB; have HB := n0_; clear n0_; (try clear hb); (try clear hb2); (try clear hk); (try clear hi)) | ((with_reducible refine gate_dst (N := 5) rfl ?_); refine box_event ?hg (N := 5) ?hd (cs := #[.int .i64 0, .string (⟨#[]⟩ : ByteArray), .int .i64 0, .int .i64 0]) (t := 49) ?hr ?_; (case hd => rfl); (case hg => rfl); (case hr => first|(go_simp; done)|(go_simp; rfl)); intro gb149 hg w14 hbox hb; have n0_ := Aside0.mk (below_step (by repeat (first|(with_reducible first|exact HB.out|apply below_alloc|apply pw_below_drewN|apply below_drew1)|exact HB.out)) hb); have n1_ := Aside0.mk (hbox); have n2_ := Aside0.mk ((by rw [hg]; exact (below_size (by repeat (first|(with_reducible first|exact HB.out|apply below_alloc|apply pw_below_drewN|apply below_drew1)|exact HB.out))) : w.heap.size ≤ gb149)); have n3_ := Aside0.mk ((by rw [hg]; exact (below_size (by repeat (first|(with_reducible first|exact HB.out|apply below_alloc|apply pw_below_drewN|apply below_drew1)|exact HB.out))) : w.heap.size ≤ gb149)); clear HB; have HB := n0_; have BK149 := n1_; have GW149 := n2_; have GE149 := n3_; clear n0_ n1_ n2_ n3_; clear hb hbox hg; have hcz15_0 : w14.cell? ⟨gb149, 0, none⟩ = some (.int .i64 0) := (blk_cell BK149.out 0).trans rfl; have hcz15_1 : w14.cell? ⟨gb149, 1, none⟩ = some (.string (⟨#[]⟩ : ByteArray)) := (blk_cell BK149.out 1).trans rfl; have hcz15_2 : w14.cell? ⟨gb149, 2, none⟩ = some (.int .i64 0) := (blk_cell BK149.out 2).trans rfl; have hcz15_3 : w14.cell? ⟨gb149, 3, none⟩ = some (.int .i64 0) := (blk_cell BK149.out 3).trans rfl; have hfz15_0 := blk_frozen BK149.out 0; have hfz15_1 := blk_frozen BK149.out 1; have hfz15_2 := blk_frozen BK149.out 2; have hfz15_3 := blk_frozen BK149.out 3))
   go_ret
   exact ⟨by first|rfl|(simp [errW_none, errW_some] <;> rfl)|(simp [*, errW_none, errW_some] <;> rfl), by repeat (first|(with_reducible first|exact HB.out|apply below_alloc|apply pw_below_drewN|apply below_drew1|refine below_set ?_ GE149.out)|exact HB.out)⟩

end Go.Proofs.YthdkjfhpbigdpaaGreatDoor.Q

namespace Go.Proofs.YthdkjfhpbigdpaaGreatDoor.Q
open Go.RowKit Go.Proofs.YthdkjfhpbigdpaaGreatDoorW.PrintWords Go.Proofs.YthdkjfhpbigdpaaGreatDoorW.PrintLast Go.Proofs.YthdkjfhpbigdpaaGreatDoorW.PrintMore
attribute [local go_sem] max2_int min2_int max_two min_two max_three min_three max_four min_four
set_option linter.unusedVariables false
set_option linter.unusedSimpArgs false

mutual
def gossamerref02_name.j0 : Nat → Int → Bool → Int → ByteArray → Int → Int → List (S24) → Option (Bool)
 | 0, _, _, _, _, _, _, _ => none
 | k + 1, x4, x5, x151000, x151001, x151002, x151003, x151004 => if x5 = true then ((gossamerref02_token.f k x151001 1).bind fun t151 => (some t151)) else (if x4 = 6 then (gossamerref02_name.j1 k x4 (x4 == 6) x151000 x151001 x151002 x151003 x151004) else (gossamerref02_name.j1 k x4 (x4 == 8) x151000 x151001 x151002 x151003 x151004))
def gossamerref02_name.j1 : Nat → Int → Bool → Int → ByteArray → Int → Int → List (S24) → Option (Bool)
 | 0, _, _, _, _, _, _, _ => none
 | k + 1, x4, x13, x151000, x151001, x151002, x151003, x151004 => if x13 = true then ((gossamerref02_token.f k x151001 2).bind fun t152 => (some t152)) else (if x4 = 10 then (if x151001.toList = ([43] : List UInt8) then (some true) else (if x151001.toList = ([45] : List UInt8) then (some true) else (if x151001.toList = ([42] : List UInt8) then (some true) else (if x151001.toList = ([47] : List UInt8) then (some true) else (if x151001.toList = ([60] : List UInt8) then (some true) else (some (x151001.toList == ([61, 61] : List UInt8)))))))) else (some (x151001.toList == ([] : List UInt8))))
end
def gossamerref02_name.f (k : Nat) (a0_0 : Int) (a0_1 : ByteArray) (a0_2 : Int) (a0_3 : Int) (l0_4 : List (S24)) : Option (Bool) := if a0_0 = 1 then (gossamerref02_name.j0 k a0_0 (a0_0 == 1) a0_0 a0_1 a0_2 a0_3 l0_4) else (if a0_0 = 2 then (gossamerref02_name.j0 k a0_0 (a0_0 == 2) a0_0 a0_1 a0_2 a0_3 l0_4) else (if a0_0 = 4 then (gossamerref02_name.j0 k a0_0 (a0_0 == 4) a0_0 a0_1 a0_2 a0_3 l0_4) else (gossamerref02_name.j0 k a0_0 (a0_0 == 5) a0_0 a0_1 a0_2 a0_3 l0_4)))
theorem gossamerref02_name.mono_l : ∀ k, (∀ y0 y1 y2 y3 y4 y5 y6, LeO (gossamerref02_name.j0 k y0 y1 y2 y3 y4 y5 y6) (gossamerref02_name.j0 (k + 1) y0 y1 y2 y3 y4 y5 y6)) ∧ (∀ y0 y1 y2 y3 y4 y5 y6, LeO (gossamerref02_name.j1 k y0 y1 y2 y3 y4 y5 y6) (gossamerref02_name.j1 (k + 1) y0 y1 y2 y3 y4 y5 y6))
 | 0 => ⟨fun _ _ _ _ _ _ _ r h => by simp [gossamerref02_name.j0] at h, fun _ _ _ _ _ _ _ r h => by simp [gossamerref02_name.j1] at h⟩
 | k + 1 => by
  obtain ⟨ih0, ih1⟩ := gossamerref02_name.mono_l k
  refine ⟨?_, ?_⟩
  ·intro y0 y1 y2 y3 y4 y5 y6
   unfold gossamerref02_name.j0
   repeat' first
  |(with_reducible exact ih0 _ _ _ _ _ _ _)
  |(with_reducible exact ih1 _ _ _ _ _ _ _)
  |(with_reducible exact gossamerref02_token.mono _ _ _)
  |(with_reducible exact LeO.refl _)
  |(with_reducible exact LeO.none _)
  |(with_reducible refine LeO.ite ?_ ?_)
  |(with_reducible refine LeO.bind ?_ (fun _ => ?_))
  |exact ih0 _ _ _ _ _ _ _
  |exact ih1 _ _ _ _ _ _ _
  |exact gossamerref02_token.mono _ _ _
  |exact LeO.none _
  |refine LeO.ite ?_ ?_
  |refine LeO.bind ?_ (fun _ => ?_)
  ·intro y0 y1 y2 y3 y4 y5 y6
   unfold gossamerref02_name.j1
   repeat' first
  |(with_reducible exact ih0 _ _ _ _ _ _ _)
  |(with_reducible exact ih1 _ _ _ _ _ _ _)
  |(with_reducible exact gossamerref02_token.mono _ _ _)
  |(with_reducible exact LeO.refl _)
  |(with_reducible exact LeO.none _)
  |(with_reducible refine LeO.ite ?_ ?_)
  |(with_reducible refine LeO.bind ?_ (fun _ => ?_))
  |exact ih0 _ _ _ _ _ _ _
  |exact ih1 _ _ _ _ _ _ _
  |exact gossamerref02_token.mono _ _ _
  |exact LeO.none _
  |refine LeO.ite ?_ ?_
  |refine LeO.bind ?_ (fun _ => ?_)
theorem gossamerref02_name.mono : ∀ a0 a1 a2 a3 a4 k, LeO (gossamerref02_name.f k a0 a1 a2 a3 a4) (gossamerref02_name.f (k + 1) a0 a1 a2 a3 a4) := by
 intro a0 a1 a2 a3 a4 k
 obtain ⟨ih0, ih1⟩ := gossamerref02_name.mono_l k
 unfold gossamerref02_name.f
 repeat' first
  |(with_reducible exact ih0 _ _ _ _ _ _ _)
  |(with_reducible exact ih1 _ _ _ _ _ _ _)
  |(with_reducible exact gossamerref02_token.mono _ _ _)
  |(with_reducible exact LeO.refl _)
  |(with_reducible exact LeO.none _)
  |(with_reducible refine LeO.ite ?_ ?_)
  |(with_reducible refine LeO.bind ?_ (fun _ => ?_))
  |exact ih0 _ _ _ _ _ _ _
  |exact ih1 _ _ _ _ _ _ _
  |exact gossamerref02_token.mono _ _ _
  |exact LeO.none _
  |refine LeO.ite ?_ ?_
  |refine LeO.bind ?_ (fun _ => ?_)
set_option maxHeartbeats 8000000 in
set_option maxRecDepth 100000 in
theorem gossamerref02_name.calls (k : Nat) (a0_0 : Int) (a0_1 : ByteArray) (a0_2 : Int) (a0_3 : Int) (A0_4 : Option Addr) (c0_4 : Nat) (l0_4 : List (S24)) (r : Bool) (w : World) (hr0_4 : Kd.C k24 w A0_4 l0_4.length l0_4) (hc0_4 : l0_4.length ≤ c0_4) (h : gossamerref02_name.f k a0_0 a0_1 a0_2 a0_3 l0_4 = some r) :
  Calls Tryz.prog 25 #[.agg #[.int .i64 a0_0, .string a0_1, .int .i64 a0_2, .int .i64 a0_3, .slice A0_4 l0_4.length c0_4]] w fun e w' => e = .returned (.bool r) ∧ Below w.heap.size w w' := by
 have hu24 := Tryz.underlying24
 have HR0_4 := Aside0.mk hr0_4
 have HC0_4 := Aside0.mk hc0_4
 clear hr0_4 hc0_4
 have HB := Aside0.mk (Below.refl w.heap.size w)
 have H : (if a0_0 = 1 then (gossamerref02_name.j0 k a0_0 (a0_0 == 1) a0_0 a0_1 a0_2 a0_3 l0_4) else (if a0_0 = 2 then (gossamerref02_name.j0 k a0_0 (a0_0 == 2) a0_0 a0_1 a0_2 a0_3 l0_4) else (if a0_0 = 4 then (gossamerref02_name.j0 k a0_0 (a0_0 == 4) a0_0 a0_1 a0_2 a0_3 l0_4) else (gossamerref02_name.j0 k a0_0 (a0_0 == 5) a0_0 a0_1 a0_2 a0_3 l0_4)))) = some r := h
 clear h
 have HC2 := Aside0.mk H
 clear H
 go_enter Tryz.func25, Tryz.ntmps25
 go_upto_if 5 with (first|((with_reducible refine gate_dst (N := 1) rfl ?_); refine box_event ?hg (N := 1) ?hd (cs := #[.int .i64 a0_0, .string a0_1, .int .i64 a0_2, .int .i64 a0_3, .slice A0_4 l0_4.length c0_4]) (t := 24) ?hr ?_; (case hd => rfl); (case hg => rfl); (case hr => first|(go_simp; done)|(go_simp; rfl)); intro gb150 hg w3 hbox hb; have n0_ := Aside0.mk (below_step (by repeat (first|(with_reducible first|exact HB.out|apply below_alloc|apply pw_below_drewN|apply below_drew1)|exact HB.out)) hb); have n1_ := Aside0.mk (hbox); have n2_ := Aside0.mk ((by rw [hg]; exact (below_size (by repeat (first|(with_reducible first|exact HB.out|apply below_alloc|apply pw_below_drewN|apply below_drew1)|exact HB.out))) : w.heap.size ≤ gb150)); have n3_ := Aside0.mk ((by rw [hg]; exact (below_size (by repeat (first|(with_reducible first|exact HB.out|apply below_alloc|apply pw_below_drewN|apply below_drew1)|exact HB.out))) : w.heap.size ≤ gb150)); clear HB; have HB := n0_; have BK150 := n1_; have GW150 := n2_; have GE150 := n3_; clear n0_ n1_ n2_ n3_; clear hb hbox hg; have hcz4_0 : w3.cell? ⟨gb150, 0, none⟩ = some (.int .i64 a0_0) := (blk_cell BK150.out 0).trans rfl; have hcz4_1 : w3.cell? ⟨gb150, 1, none⟩ = some (.string a0_1) := (blk_cell BK150.out 1).trans rfl; have hcz4_2 : w3.cell? ⟨gb150, 2, none⟩ = some (.int .i64 a0_2) := (blk_cell BK150.out 2).trans rfl; have hcz4_3 : w3.cell? ⟨gb150, 3, none⟩ = some (.int .i64 a0_3) := (blk_cell BK150.out 3).trans rfl; have hcz4_4 : w3.cell? ⟨gb150, 4, none⟩ = some (.slice A0_4 l0_4.length c0_4) := (blk_cell BK150.out 4).trans rfl; have hfz4_0 := blk_frozen BK150.out 0; have hfz4_1 := blk_frozen BK150.out 1; have hfz4_2 := blk_frozen BK150.out 2; have hfz4_3 := blk_frozen BK150.out 3; have hfz4_4 := blk_frozen BK150.out 4))
 (try simp only [Act.put, List.setIfInBounds_toArray, List.set_cons_zero, List.set_cons_succ])
 go_cut [5] (fun v5 wc => ∃ (kq : Nat) (x5_1 : Bool), v5 = .bool x5_1 ∧ Aside0 (gossamerref02_name.j0 kq a0_0 x5_1 a0_0 a0_1 a0_2 a0_3 l0_4 = some r) ∧ Aside0 (kq ≤ k) ∧ Aside0 (wc.heap[gb150]? = some (.cells #[.int .i64 a0_0, .string a0_1, .int .i64 a0_2, .int .i64 a0_3, (.slice A0_4 l0_4.length c0_4)] 24 (0, 0))) ∧ Aside0 (Below w.heap.size w wc))
 case first =>
  have H := HC2.out
  clear HC2
  by_cases c5 : a0_0 = 1
  ·rw [if_pos c5] at H
   have c5b0 : (a0_0 == 1) = true := beq_iff_eq.mpr c5
   have c5b1 : (a0_0 != 1) = false := bne_eq_false_iff_eq.mpr c5
   clear c5
   (first|rw [c5b0]|(simp only [i64_w, i32_w]; rw [c5b0]) | skip)
   have H' := Aside0.mk H
   clear H
   go_wp2
   go_meet
   case rel => exact ⟨_, ((a0_0 == 1)), (by first|rfl|(simp; done)|(simp [*]; done)), H', ⟨by first | omega|exact Nat.le_refl _⟩, ⟨by (with_reducible repeat (first|refine blk_drewN ?_ _|refine blk_drew ?_|refine blk_alloc ?_ _)); exact BK150.out⟩, ⟨by repeat (first|(with_reducible first|exact HB.out|apply below_alloc|apply pw_below_drewN|apply below_drew1|refine below_set ?_ GE150.out)|exact HB.out)⟩⟩
  ·rw [if_neg c5] at H
   have c5b0 : (a0_0 == 1) = false := beq_eq_false_iff_ne.mpr c5
   have c5b1 : (a0_0 != 1) = true := bne_iff_ne.mpr c5
   (first|rw [c5b0]|(simp only [i64_w, i32_w]; rw [c5b0]) | skip)
   by_cases c6 : a0_0 = 2
   ·rw [if_pos c6] at H
    have c6b0 : (a0_0 == 2) = true := beq_iff_eq.mpr c6
    have c6b1 : (a0_0 != 2) = false := bne_eq_false_iff_eq.mpr c6
    clear c6
    have H' := Aside0.mk H
    clear H
    go_wp2
    go_meet
    case rel => exact ⟨_, ((a0_0 == 2)), (by first|rfl|(simp; done)|(simp [*]; done)), H', ⟨by first | omega|exact Nat.le_refl _⟩, ⟨by (with_reducible repeat (first|refine blk_drewN ?_ _|refine blk_drew ?_|refine blk_alloc ?_ _)); exact BK150.out⟩, ⟨by repeat (first|(with_reducible first|exact HB.out|apply below_alloc|apply pw_below_drewN|apply below_drew1|refine below_set ?_ GE150.out)|exact HB.out)⟩⟩
   ·rw [if_neg c6] at H
    have c6b0 : (a0_0 == 2) = false := beq_eq_false_iff_ne.mpr c6
    have c6b1 : (a0_0 != 2) = true := bne_iff_ne.mpr c6
    by_cases c7 : a0_0 = 4
    ·rw [if_pos c7] at H
     have c7b0 : (a0_0 == 4) = true := beq_iff_eq.mpr c7
     have c7b1 : (a0_0 != 4) = false := bne_eq_false_iff_eq.mpr c7
     clear c7
     have H' := Aside0.mk H
     clear H
     go_wp2
     go_meet
     case rel => exact ⟨_, ((a0_0 == 4)), (by first|rfl|(simp; done)|(simp [*]; done)), H', ⟨by first | omega|exact Nat.le_refl _⟩, ⟨by (with_reducible repeat (first|refine blk_drewN ?_ _|refine blk_drew ?_|refine blk_alloc ?_ _)); exact BK150.out⟩, ⟨by repeat (first|(with_reducible first|exact HB.out|apply below_alloc|apply pw_below_drewN|apply below_drew1|refine below_set ?_ GE150.out)|exact HB.out)⟩⟩
    ·rw [if_neg c7] at H
     have c7b0 : (a0_0 == 4) = false := beq_eq_false_iff_ne.mpr c7
     have c7b1 : (a0_0 != 4) = true := bne_iff_ne.mpr c7
     have H' := Aside0.mk H
     clear H
     go_wp2
     go_meet
     case rel => exact ⟨_, ((a0_0 == 5)), (by first|rfl|(simp; done)|(simp [*]; done)), H', ⟨by first | omega|exact Nat.le_refl _⟩, ⟨by (with_reducible repeat (first|refine blk_drewN ?_ _|refine blk_drew ?_|refine blk_alloc ?_ _)); exact BK150.out⟩, ⟨by repeat (first|(with_reducible first|exact HB.out|apply below_alloc|apply pw_below_drewN|apply below_drew1|refine below_set ?_ GE150.out)|exact HB.out)⟩⟩
 case rest =>
  clear HC2
  try clear c2
  try clear p2
  try clear c5
  try clear c5b0
  try clear c5b1
  try clear c6
  try clear c6b0
  try clear c6b1
  try clear c7
  try clear c7b0
  try clear c7b1
  try clear hcz4_0
  try clear hcz4_1
  try clear hcz4_2
  try clear hcz4_3
  try clear hcz4_4
  try clear hfz4_0
  try clear hfz4_1
  try clear hfz4_2
  try clear hfz4_3
  try clear hfz4_4
  obtain ⟨kq, x5_1, rfl, HA, HJ1, BK150, HB⟩ := hcut
  cases kq with
  | zero => exact absurd HA.out (by simp [gossamerref02_name.j0])
  | succ kj1 =>
   have H := HA.out
   clear HA
   simp only [gossamerref02_name.j0] at H
   by_cases c8 : x5_1 = true
   ·subst c8
    have H1 : ((gossamerref02_token.f kj1 a0_1 1).bind fun t151 => (some t151)) = some r := by rw [if_pos rfl] at H; exact H
    clear H
    have H := H1
    clear H1
    replace H := Option.bind_eq_some_iff.mp H
    obtain ⟨t151, A90, H⟩ := H
    replace H : (some t151) = some r := H
    have A9 := Aside0.mk A90
    clear A90
    obtain rfl := Option.some.inj H
    have hcz10_0 : wc.cell? ⟨gb150, 0, none⟩ = some (.int .i64 a0_0) := (blk_cell BK150.out 0).trans rfl
    have hcz10_1 : wc.cell? ⟨gb150, 1, none⟩ = some (.string a0_1) := (blk_cell BK150.out 1).trans rfl
    have hcz10_2 : wc.cell? ⟨gb150, 2, none⟩ = some (.int .i64 a0_2) := (blk_cell BK150.out 2).trans rfl
    have hcz10_3 : wc.cell? ⟨gb150, 3, none⟩ = some (.int .i64 a0_3) := (blk_cell BK150.out 3).trans rfl
    have hcz10_4 : wc.cell? ⟨gb150, 4, none⟩ = some (.slice A0_4 l0_4.length c0_4) := (blk_cell BK150.out 4).trans rfl
    have hfz10_0 := blk_frozen BK150.out 0
    have hfz10_1 := blk_frozen BK150.out 1
    have hfz10_2 := blk_frozen BK150.out 2
    have hfz10_3 := blk_frozen BK150.out 3
    have hfz10_4 := blk_frozen BK150.out 4
    go_wp2_with (first|((with_reducible refine gate_callee (f := 30) rfl ?_); refine goesL_ (some 12) rfl rfl Tryz.func30 (by kernel_rfl) rfl #[.string a0_1, .int .i64 1] rfl (by (try simp only [List.map_toArray, List.map_cons, List.map_nil]); first|done|rfl|(simp only [List.length_drop, List.length_take]; rfl)) ?_; (with_reducible refine (gossamerref02_token.calls kj1 a0_1 1 t151 _ A9.out).mono ?_); rintro e w11 ⟨rfl, hb⟩; refine ⟨_, rfl, ?_⟩; have n0_ := Aside0.mk (blk_below (g := gb150) (o := .cells #[.int .i64 a0_0, .string a0_1, .int .i64 a0_2, .int .i64 a0_3, .slice A0_4 l0_4.length c0_4] 24 (0, 0)) (by (with_reducible repeat (first|refine blk_drewN ?_ _|refine blk_drew ?_|refine blk_alloc ?_ _)); exact BK150.out) hb); have n1_ := Aside0.mk (below_step (by repeat (first|(with_reducible first|exact HB.out|apply below_alloc|apply pw_below_drewN|apply below_drew1|refine below_set ?_ GE150.out)|exact HB.out)) hb); clear BK150; clear HB; have BK150 := n0_; have HB := n1_; clear n0_ n1_; (try clear hb); (try clear hb2); (try clear hk); (try clear hi)))
    go_ret
    exact ⟨by first|rfl|(simp [errW_none, errW_some] <;> rfl)|(simp [*, errW_none, errW_some] <;> rfl), by repeat (first|(with_reducible first|exact HB.out|apply below_alloc|apply pw_below_drewN|apply below_drew1|refine below_set ?_ GE150.out)|exact HB.out)⟩
   ·replace c8 := Bool.eq_false_iff.mpr c8
    subst c8
    have H1 : (if a0_0 = 6 then (gossamerref02_name.j1 kj1 a0_0 (a0_0 == 6) a0_0 a0_1 a0_2 a0_3 l0_4) else (gossamerref02_name.j1 kj1 a0_0 (a0_0 == 8) a0_0 a0_1 a0_2 a0_3 l0_4)) = some r := by rw [if_neg (show ¬ (false = true) by decide)] at H; exact H
    clear H
    have H := H1
    clear H1
    have HC12 := Aside0.mk H
    clear H
    go_upto_if 13 with (fail)
    go_cut [13] (fun v13 wc => ∃ (kq : Nat) (x13_11 : Bool), v13 = .bool x13_11 ∧ Aside0 (gossamerref02_name.j1 kq a0_0 x13_11 a0_0 a0_1 a0_2 a0_3 l0_4 = some r) ∧ Aside0 (kq ≤ kj1) ∧ Aside0 (wc.heap[gb150]? = some (.cells #[.int .i64 a0_0, .string a0_1, .int .i64 a0_2, .int .i64 a0_3, (.slice A0_4 l0_4.length c0_4)] 24 (0, 0))) ∧ Aside0 (Below w.heap.size w wc))
    case first =>
     have H := HC12.out
     clear HC12
     by_cases c13 : a0_0 = 6
     ·rw [if_pos c13] at H
      have c13b0 : (a0_0 == 6) = true := beq_iff_eq.mpr c13
      have c13b1 : (a0_0 != 6) = false := bne_eq_false_iff_eq.mpr c13
      clear c13
      (first|rw [c13b0]|(simp only [i64_w, i32_w]; rw [c13b0]) | skip)
      have H' := Aside0.mk H
      clear H
      go_wp2
      go_meet
      case rel => exact ⟨_, ((a0_0 == 6)), (by first|rfl|(simp; done)|(simp [*]; done)), H', ⟨by have := HJ1.out; first | omega|exact Nat.le_refl _⟩, ⟨by (with_reducible repeat (first|refine blk_drewN ?_ _|refine blk_drew ?_|refine blk_alloc ?_ _)); exact BK150.out⟩, ⟨by repeat (first|(with_reducible first|exact HB.out|apply below_alloc|apply pw_below_drewN|apply below_drew1|refine below_set ?_ GE150.out)|exact HB.out)⟩⟩
     ·rw [if_neg c13] at H
      have c13b0 : (a0_0 == 6) = false := beq_eq_false_iff_ne.mpr c13
      have c13b1 : (a0_0 != 6) = true := bne_iff_ne.mpr c13
      (first|rw [c13b0]|(simp only [i64_w, i32_w]; rw [c13b0]) | skip)
      have H' := Aside0.mk H
      clear H
      go_wp2
      go_meet
      case rel => exact ⟨_, ((a0_0 == 8)), (by first|rfl|(simp; done)|(simp [*]; done)), H', ⟨by have := HJ1.out; first | omega|exact Nat.le_refl _⟩, ⟨by (with_reducible repeat (first|refine blk_drewN ?_ _|refine blk_drew ?_|refine blk_alloc ?_ _)); exact BK150.out⟩, ⟨by repeat (first|(with_reducible first|exact HB.out|apply below_alloc|apply pw_below_drewN|apply below_drew1|refine below_set ?_ GE150.out)|exact HB.out)⟩⟩
    case rest =>
     clear HC12
     try clear c1
     try clear c2
     try clear p2
     try clear c3
     try clear c5
     try clear c5b0
     try clear c5b1
     try clear c6
     try clear c6b0
     try clear c6b1
     try clear c7
     try clear c7b0
     try clear c7b1
     try clear c8
     try clear c13
     try clear c13b0
     try clear c13b1
     try clear hcz10_0
     try clear hcz10_1
     try clear hcz10_2
     try clear hcz10_3
     try clear hcz10_4
     try clear hcz4_0
     try clear hcz4_1
     try clear hcz4_2
     try clear hcz4_3
     try clear hcz4_4
     try clear hfz10_0
     try clear hfz10_1
     try clear hfz10_2
     try clear hfz10_3
     try clear hfz10_4
     try clear hfz4_0
     try clear hfz4_1
     try clear hfz4_2
     try clear hfz4_3
     try clear hfz4_4
     try clear p2
     obtain ⟨kq, x13_11, rfl, HA, HJ11, BK150, HB⟩ := hcut
     cases kq with
     | zero => exact absurd HA.out (by simp [gossamerref02_name.j1])
     | succ kj11 =>
      have H := HA.out
      clear HA
      simp only [gossamerref02_name.j1] at H
      by_cases c14 : x13_11 = true
      ·subst c14
       have H1 : ((gossamerref02_token.f kj11 a0_1 2).bind fun t152 => (some t152)) = some r := by rw [if_pos rfl] at H; exact H
       clear H
       have H := H1
       clear H1
       replace H := Option.bind_eq_some_iff.mp H
       obtain ⟨t152, A150, H⟩ := H
       replace H : (some t152) = some r := H
       have A15 := Aside0.mk A150
       clear A150
       obtain rfl := Option.some.inj H
       have hcz16_0 : wc.cell? ⟨gb150, 0, none⟩ = some (.int .i64 a0_0) := (blk_cell BK150.out 0).trans rfl
       have hcz16_1 : wc.cell? ⟨gb150, 1, none⟩ = some (.string a0_1) := (blk_cell BK150.out 1).trans rfl
       have hcz16_2 : wc.cell? ⟨gb150, 2, none⟩ = some (.int .i64 a0_2) := (blk_cell BK150.out 2).trans rfl
       have hcz16_3 : wc.cell? ⟨gb150, 3, none⟩ = some (.int .i64 a0_3) := (blk_cell BK150.out 3).trans rfl
       have hcz16_4 : wc.cell? ⟨gb150, 4, none⟩ = some (.slice A0_4 l0_4.length c0_4) := (blk_cell BK150.out 4).trans rfl
       have hfz16_0 := blk_frozen BK150.out 0
       have hfz16_1 := blk_frozen BK150.out 1
       have hfz16_2 := blk_frozen BK150.out 2
       have hfz16_3 := blk_frozen BK150.out 3
       have hfz16_4 := blk_frozen BK150.out 4
       go_wp2_with (first|((with_reducible refine gate_callee (f := 30) rfl ?_); refine goesL_ (some 18) rfl rfl Tryz.func30 (by kernel_rfl) rfl #[.string a0_1, .int .i64 2] rfl (by (try simp only [List.map_toArray, List.map_cons, List.map_nil]); first|done|rfl|(simp only [List.length_drop, List.length_take]; rfl)) ?_; (with_reducible refine (gossamerref02_token.calls kj11 a0_1 2 t152 _ A15.out).mono ?_); rintro e w17 ⟨rfl, hb⟩; refine ⟨_, rfl, ?_⟩; have n0_ := Aside0.mk (blk_below (g := gb150) (o := .cells #[.int .i64 a0_0, .string a0_1, .int .i64 a0_2, .int .i64 a0_3, .slice A0_4 l0_4.length c0_4] 24 (0, 0)) (by (with_reducible repeat (first|refine blk_drewN ?_ _|refine blk_drew ?_|refine blk_alloc ?_ _)); exact BK150.out) hb); have n1_ := Aside0.mk (below_step (by repeat (first|(with_reducible first|exact HB.out|apply below_alloc|apply pw_below_drewN|apply below_drew1|refine below_set ?_ GE150.out)|exact HB.out)) hb); clear BK150; clear HB; have BK150 := n0_; have HB := n1_; clear n0_ n1_; (try clear hb); (try clear hb2); (try clear hk); (try clear hi)))
       go_ret
       exact ⟨by first|rfl|(simp [errW_none, errW_some] <;> rfl)|(simp [*, errW_none, errW_some] <;> rfl), by repeat (first|(with_reducible first|exact HB.out|apply below_alloc|apply pw_below_drewN|apply below_drew1|refine below_set ?_ GE150.out)|exact HB.out)⟩
      ·replace c14 := Bool.eq_false_iff.mpr c14
       subst c14
       have H1 : (if a0_0 = 10 then (if a0_1.toList = ([43] : List UInt8) then (some true) else (if a0_1.toList = ([45] : List UInt8) then (some true) else (if a0_1.toList = ([42] : List UInt8) then (some true) else (if a0_1.toList = ([47] : List UInt8) then (some true) else (if a0_1.toList = ([60] : List UInt8) then (some true) else (some (a0_1.toList == ([61, 61] : List UInt8)))))))) else (some (a0_1.toList == ([] : List UInt8)))) = some r := by rw [if_neg (show ¬ (false = true) by decide)] at H; exact H
       clear H
       have H := H1
       clear H1
       by_cases c18 : a0_0 = 10
       ·rw [if_pos c18] at H
        have c18b0 : (a0_0 == 10) = true := beq_iff_eq.mpr c18
        have c18b1 : (a0_0 != 10) = false := bne_eq_false_iff_eq.mpr c18
        clear c18
        by_cases c19 : a0_1.toList = ([43] : List UInt8)
        ·rw [if_pos c19] at H
         have c19b0 : (a0_1.toList == ([43] : List UInt8)) = true := beq_iff_eq.mpr c19
         have c19b1 : (a0_1.toList != ([43] : List UInt8)) = false := bne_eq_false_iff_eq.mpr c19
         clear c19
         obtain rfl := Option.some.inj H
         have hcz20_0 : wc.cell? ⟨gb150, 0, none⟩ = some (.int .i64 a0_0) := (blk_cell BK150.out 0).trans rfl
         have hcz20_1 : wc.cell? ⟨gb150, 1, none⟩ = some (.string a0_1) := (blk_cell BK150.out 1).trans rfl
         have hcz20_2 : wc.cell? ⟨gb150, 2, none⟩ = some (.int .i64 a0_2) := (blk_cell BK150.out 2).trans rfl
         have hcz20_3 : wc.cell? ⟨gb150, 3, none⟩ = some (.int .i64 a0_3) := (blk_cell BK150.out 3).trans rfl
         have hcz20_4 : wc.cell? ⟨gb150, 4, none⟩ = some (.slice A0_4 l0_4.length c0_4) := (blk_cell BK150.out 4).trans rfl
         have hfz20_0 := blk_frozen BK150.out 0
         have hfz20_1 := blk_frozen BK150.out 1
         have hfz20_2 := blk_frozen BK150.out 2
         have hfz20_3 := blk_frozen BK150.out 3
         have hfz20_4 := blk_frozen BK150.out 4
         go_wp2
         go_ret
         exact ⟨by first|rfl|(simp [errW_none, errW_some] <;> rfl)|(simp [*, errW_none, errW_some] <;> rfl), by repeat (first|(with_reducible first|exact HB.out|apply below_alloc|apply pw_below_drewN|apply below_drew1|refine below_set ?_ GE150.out)|exact HB.out)⟩
        ·rw [if_neg c19] at H
         have c19b0 : (a0_1.toList == ([43] : List UInt8)) = false := beq_eq_false_iff_ne.mpr c19
         have c19b1 : (a0_1.toList != ([43] : List UInt8)) = true := bne_iff_ne.mpr c19
         by_cases c21 : a0_1.toList = ([45] : List UInt8)
         ·rw [if_pos c21] at H
          have c21b0 : (a0_1.toList == ([45] : List UInt8)) = true := beq_iff_eq.mpr c21
          have c21b1 : (a0_1.toList != ([45] : List UInt8)) = false := bne_eq_false_iff_eq.mpr c21
          clear c21
          obtain rfl := Option.some.inj H
          have hcz22_0 : wc.cell? ⟨gb150, 0, none⟩ = some (.int .i64 a0_0) := (blk_cell BK150.out 0).trans rfl
          have hcz22_1 : wc.cell? ⟨gb150, 1, none⟩ = some (.string a0_1) := (blk_cell BK150.out 1).trans rfl
          have hcz22_2 : wc.cell? ⟨gb150, 2, none⟩ = some (.int .i64 a0_2) := (blk_cell BK150.out 2).trans rfl
          have hcz22_3 : wc.cell? ⟨gb150, 3, none⟩ = some (.int .i64 a0_3) := (blk_cell BK150.out 3).trans rfl
          have hcz22_4 : wc.cell? ⟨gb150, 4, none⟩ = some (.slice A0_4 l0_4.length c0_4) := (blk_cell BK150.out 4).trans rfl
          have hfz22_0 := blk_frozen BK150.out 0
          have hfz22_1 := blk_frozen BK150.out 1
          have hfz22_2 := blk_frozen BK150.out 2
          have hfz22_3 := blk_frozen BK150.out 3
          have hfz22_4 := blk_frozen BK150.out 4
          go_wp2
          go_ret
          exact ⟨by first|rfl|(simp [errW_none, errW_some] <;> rfl)|(simp [*, errW_none, errW_some] <;> rfl), by repeat (first|(with_reducible first|exact HB.out|apply below_alloc|apply pw_below_drewN|apply below_drew1|refine below_set ?_ GE150.out)|exact HB.out)⟩
         ·rw [if_neg c21] at H
          have c21b0 : (a0_1.toList == ([45] : List UInt8)) = false := beq_eq_false_iff_ne.mpr c21
          have c21b1 : (a0_1.toList != ([45] : List UInt8)) = true := bne_iff_ne.mpr c21
          by_cases c23 : a0_1.toList = ([42] : List UInt8)
          ·rw [if_pos c23] at H
           have c23b0 : (a0_1.toList == ([42] : List UInt8)) = true := beq_iff_eq.mpr c23
           have c23b1 : (a0_1.toList != ([42] : List UInt8)) = false := bne_eq_false_iff_eq.mpr c23
           clear c23
           obtain rfl := Option.some.inj H
           have hcz24_0 : wc.cell? ⟨gb150, 0, none⟩ = some (.int .i64 a0_0) := (blk_cell BK150.out 0).trans rfl
           have hcz24_1 : wc.cell? ⟨gb150, 1, none⟩ = some (.string a0_1) := (blk_cell BK150.out 1).trans rfl
           have hcz24_2 : wc.cell? ⟨gb150, 2, none⟩ = some (.int .i64 a0_2) := (blk_cell BK150.out 2).trans rfl
           have hcz24_3 : wc.cell? ⟨gb150, 3, none⟩ = some (.int .i64 a0_3) := (blk_cell BK150.out 3).trans rfl
           have hcz24_4 : wc.cell? ⟨gb150, 4, none⟩ = some (.slice A0_4 l0_4.length c0_4) := (blk_cell BK150.out 4).trans rfl
           have hfz24_0 := blk_frozen BK150.out 0
           have hfz24_1 := blk_frozen BK150.out 1
           have hfz24_2 := blk_frozen BK150.out 2
           have hfz24_3 := blk_frozen BK150.out 3
           have hfz24_4 := blk_frozen BK150.out 4
           go_wp2
           go_ret
           exact ⟨by first|rfl|(simp [errW_none, errW_some] <;> rfl)|(simp [*, errW_none, errW_some] <;> rfl), by repeat (first|(with_reducible first|exact HB.out|apply below_alloc|apply pw_below_drewN|apply below_drew1|refine below_set ?_ GE150.out)|exact HB.out)⟩
          ·rw [if_neg c23] at H
           have c23b0 : (a0_1.toList == ([42] : List UInt8)) = false := beq_eq_false_iff_ne.mpr c23
           have c23b1 : (a0_1.toList != ([42] : List UInt8)) = true := bne_iff_ne.mpr c23
           by_cases c25 : a0_1.toList = ([47] : List UInt8)
           ·rw [if_pos c25] at H
            have c25b0 : (a0_1.toList == ([47] : List UInt8)) = true := beq_iff_eq.mpr c25
            have c25b1 : (a0_1.toList != ([47] : List UInt8)) = false := bne_eq_false_iff_eq.mpr c25
            clear c25
            obtain rfl := Option.some.inj H
            have hcz26_0 : wc.cell? ⟨gb150, 0, none⟩ = some (.int .i64 a0_0) := (blk_cell BK150.out 0).trans rfl
            have hcz26_1 : wc.cell? ⟨gb150, 1, none⟩ = some (.string a0_1) := (blk_cell BK150.out 1).trans rfl
            have hcz26_2 : wc.cell? ⟨gb150, 2, none⟩ = some (.int .i64 a0_2) := (blk_cell BK150.out 2).trans rfl
            have hcz26_3 : wc.cell? ⟨gb150, 3, none⟩ = some (.int .i64 a0_3) := (blk_cell BK150.out 3).trans rfl
            have hcz26_4 : wc.cell? ⟨gb150, 4, none⟩ = some (.slice A0_4 l0_4.length c0_4) := (blk_cell BK150.out 4).trans rfl
            have hfz26_0 := blk_frozen BK150.out 0
            have hfz26_1 := blk_frozen BK150.out 1
            have hfz26_2 := blk_frozen BK150.out 2
            have hfz26_3 := blk_frozen BK150.out 3
            have hfz26_4 := blk_frozen BK150.out 4
            go_wp2
            go_ret
            exact ⟨by first|rfl|(simp [errW_none, errW_some] <;> rfl)|(simp [*, errW_none, errW_some] <;> rfl), by repeat (first|(with_reducible first|exact HB.out|apply below_alloc|apply pw_below_drewN|apply below_drew1|refine below_set ?_ GE150.out)|exact HB.out)⟩
           ·rw [if_neg c25] at H
            have c25b0 : (a0_1.toList == ([47] : List UInt8)) = false := beq_eq_false_iff_ne.mpr c25
            have c25b1 : (a0_1.toList != ([47] : List UInt8)) = true := bne_iff_ne.mpr c25
            by_cases c27 : a0_1.toList = ([60] : List UInt8)
            ·rw [if_pos c27] at H
             have c27b0 : (a0_1.toList == ([60] : List UInt8)) = true := beq_iff_eq.mpr c27
             have c27b1 : (a0_1.toList != ([60] : List UInt8)) = false := bne_eq_false_iff_eq.mpr c27
             clear c27
             obtain rfl := Option.some.inj H
             have hcz28_0 : wc.cell? ⟨gb150, 0, none⟩ = some (.int .i64 a0_0) := (blk_cell BK150.out 0).trans rfl
             have hcz28_1 : wc.cell? ⟨gb150, 1, none⟩ = some (.string a0_1) := (blk_cell BK150.out 1).trans rfl
             have hcz28_2 : wc.cell? ⟨gb150, 2, none⟩ = some (.int .i64 a0_2) := (blk_cell BK150.out 2).trans rfl
             have hcz28_3 : wc.cell? ⟨gb150, 3, none⟩ = some (.int .i64 a0_3) := (blk_cell BK150.out 3).trans rfl
             have hcz28_4 : wc.cell? ⟨gb150, 4, none⟩ = some (.slice A0_4 l0_4.length c0_4) := (blk_cell BK150.out 4).trans rfl
             have hfz28_0 := blk_frozen BK150.out 0
             have hfz28_1 := blk_frozen BK150.out 1
             have hfz28_2 := blk_frozen BK150.out 2
             have hfz28_3 := blk_frozen BK150.out 3
             have hfz28_4 := blk_frozen BK150.out 4
             go_wp2
             go_ret
             exact ⟨by first|rfl|(simp [errW_none, errW_some] <;> rfl)|(simp [*, errW_none, errW_some] <;> rfl), by repeat (first|(with_reducible first|exact HB.out|apply below_alloc|apply pw_below_drewN|apply below_drew1|refine below_set ?_ GE150.out)|exact HB.out)⟩
            ·rw [if_neg c27] at H
             have c27b0 : (a0_1.toList == ([60] : List UInt8)) = false := beq_eq_false_iff_ne.mpr c27
             have c27b1 : (a0_1.toList != ([60] : List UInt8)) = true := bne_iff_ne.mpr c27
             obtain rfl := Option.some.inj H
             have hcz29_0 : wc.cell? ⟨gb150, 0, none⟩ = some (.int .i64 a0_0) := (blk_cell BK150.out 0).trans rfl
             have hcz29_1 : wc.cell? ⟨gb150, 1, none⟩ = some (.string a0_1) := (blk_cell BK150.out 1).trans rfl
             have hcz29_2 : wc.cell? ⟨gb150, 2, none⟩ = some (.int .i64 a0_2) := (blk_cell BK150.out 2).trans rfl
             have hcz29_3 : wc.cell? ⟨gb150, 3, none⟩ = some (.int .i64 a0_3) := (blk_cell BK150.out 3).trans rfl
             have hcz29_4 : wc.cell? ⟨gb150, 4, none⟩ = some (.slice A0_4 l0_4.length c0_4) := (blk_cell BK150.out 4).trans rfl
             have hfz29_0 := blk_frozen BK150.out 0
             have hfz29_1 := blk_frozen BK150.out 1
             have hfz29_2 := blk_frozen BK150.out 2
             have hfz29_3 := blk_frozen BK150.out 3
             have hfz29_4 := blk_frozen BK150.out 4
             go_wp2
             go_ret
             exact ⟨by first|rfl|(simp [errW_none, errW_some] <;> rfl)|(simp [*, errW_none, errW_some] <;> rfl), by repeat (first|(with_reducible first|exact HB.out|apply below_alloc|apply pw_below_drewN|apply below_drew1|refine below_set ?_ GE150.out)|exact HB.out)⟩
       ·rw [if_neg c18] at H
        have c18b0 : (a0_0 == 10) = false := beq_eq_false_iff_ne.mpr c18
        have c18b1 : (a0_0 != 10) = true := bne_iff_ne.mpr c18
        obtain rfl := Option.some.inj H
        have hcz30_0 : wc.cell? ⟨gb150, 0, none⟩ = some (.int .i64 a0_0) := (blk_cell BK150.out 0).trans rfl
        have hcz30_1 : wc.cell? ⟨gb150, 1, none⟩ = some (.string a0_1) := (blk_cell BK150.out 1).trans rfl
        have hcz30_2 : wc.cell? ⟨gb150, 2, none⟩ = some (.int .i64 a0_2) := (blk_cell BK150.out 2).trans rfl
        have hcz30_3 : wc.cell? ⟨gb150, 3, none⟩ = some (.int .i64 a0_3) := (blk_cell BK150.out 3).trans rfl
        have hcz30_4 : wc.cell? ⟨gb150, 4, none⟩ = some (.slice A0_4 l0_4.length c0_4) := (blk_cell BK150.out 4).trans rfl
        have hfz30_0 := blk_frozen BK150.out 0
        have hfz30_1 := blk_frozen BK150.out 1
        have hfz30_2 := blk_frozen BK150.out 2
        have hfz30_3 := blk_frozen BK150.out 3
        have hfz30_4 := blk_frozen BK150.out 4
        go_wp2
        go_ret
        exact ⟨by first|rfl|(simp [errW_none, errW_some] <;> rfl)|(simp [*, errW_none, errW_some] <;> rfl), by repeat (first|(with_reducible first|exact HB.out|apply below_alloc|apply pw_below_drewN|apply below_drew1|refine below_set ?_ GE150.out)|exact HB.out)⟩

end Go.Proofs.YthdkjfhpbigdpaaGreatDoor.Q

namespace Go.Proofs.YthdkjfhpbigdpaaGreatDoor.Q
open Go.RowKit Go.Proofs.YthdkjfhpbigdpaaGreatDoorW.PrintWords Go.Proofs.YthdkjfhpbigdpaaGreatDoorW.PrintLast Go.Proofs.YthdkjfhpbigdpaaGreatDoorW.PrintMore
attribute [local go_sem] max2_int min2_int max_two min_two max_three min_three max_four min_four
set_option linter.unusedVariables false
set_option linter.unusedSimpArgs false

def gossamerref02_parts.j0 : Nat → Int → Int → Bool → Int → ByteArray → Int → Int → List (S24) → Option (Bool)
 | 0, _, _, _, _, _, _, _, _ => none
 | k + 1, x3, x8, x27, x154000, x154001, x154002, x154003, x154004 => if x27 = true then (if x3 = 2 then (some (x154002 == 0)) else (some false)) else (if x8 = 6 then (if x3 ≤ 8 then (some (x154002 == 0)) else (some false)) else (if x8 = 7 then (if x3 ≥ 2 then (if x3 ≤ 9 then (some (x154002 == 0)) else (some false)) else (some false)) else (if x8 = 8 then (if x154002 ≥ 0 then (if x154002 ≤ 8 then (some (x3 == (wrap64 (x154002 + 1)))) else (some false)) else (some false)) else (if x8 = 9 then (if x3 = 0 then (if x154002 ≥ 0 then (some (decide (x154002 < 1000000000000000000))) else (some false)) else (some false)) else (some false)))))
def gossamerref02_parts.f (k : Nat) (a0_0 : Int) (a0_1 : ByteArray) (a0_2 : Int) (a0_3 : Int) (l0_4 : List (S24)) : Option (Bool) := if a0_0 = 1 then (if (l0_4.length : Int) = 0 then (some (a0_2 == 0)) else (some false)) else (if a0_0 = 2 then (if (l0_4.length : Int) = 1 then (some (a0_2 == 0)) else (some false)) else (if a0_0 = 3 then (gossamerref02_parts.j0 k (l0_4.length : Int) a0_0 (a0_0 == 3) a0_0 a0_1 a0_2 a0_3 l0_4) else (if a0_0 = 4 then (gossamerref02_parts.j0 k (l0_4.length : Int) a0_0 (a0_0 == 4) a0_0 a0_1 a0_2 a0_3 l0_4) else (if a0_0 = 5 then (gossamerref02_parts.j0 k (l0_4.length : Int) a0_0 (a0_0 == 5) a0_0 a0_1 a0_2 a0_3 l0_4) else (gossamerref02_parts.j0 k (l0_4.length : Int) a0_0 (a0_0 == 10) a0_0 a0_1 a0_2 a0_3 l0_4)))))
theorem gossamerref02_parts.mono_l : ∀ k, (∀ y0 y1 y2 y3 y4 y5 y6 y7, LeO (gossamerref02_parts.j0 k y0 y1 y2 y3 y4 y5 y6 y7) (gossamerref02_parts.j0 (k + 1) y0 y1 y2 y3 y4 y5 y6 y7))
 | 0 => fun _ _ _ _ _ _ _ _ r h => by simp [gossamerref02_parts.j0] at h
 | k + 1 => by
  have ih0 := gossamerref02_parts.mono_l k
  ·intro y0 y1 y2 y3 y4 y5 y6 y7
   unfold gossamerref02_parts.j0
   repeat' first
  |(with_reducible exact ih0 _ _ _ _ _ _ _ _)
  |(with_reducible exact LeO.refl _)
  |(with_reducible exact LeO.none _)
  |(with_reducible refine LeO.ite ?_ ?_)
  |(with_reducible refine LeO.bind ?_ (fun _ => ?_))
  |exact ih0 _ _ _ _ _ _ _ _
  |exact LeO.none _
  |refine LeO.ite ?_ ?_
  |refine LeO.bind ?_ (fun _ => ?_)
theorem gossamerref02_parts.mono : ∀ a0 a1 a2 a3 a4 k, LeO (gossamerref02_parts.f k a0 a1 a2 a3 a4) (gossamerref02_parts.f (k + 1) a0 a1 a2 a3 a4) := by
 intro a0 a1 a2 a3 a4 k
 have ih0 := gossamerref02_parts.mono_l k
 unfold gossamerref02_parts.f
 repeat' first
  |(with_reducible exact ih0 _ _ _ _ _ _ _ _)
  |(with_reducible exact LeO.refl _)
  |(with_reducible exact LeO.none _)
  |(with_reducible refine LeO.ite ?_ ?_)
  |(with_reducible refine LeO.bind ?_ (fun _ => ?_))
  |exact ih0 _ _ _ _ _ _ _ _
  |exact LeO.none _
  |refine LeO.ite ?_ ?_
  |refine LeO.bind ?_ (fun _ => ?_)
set_option maxHeartbeats 8000000 in
set_option maxRecDepth 100000 in
theorem gossamerref02_parts.calls (k : Nat) (a0_0 : Int) (a0_1 : ByteArray) (a0_2 : Int) (a0_3 : Int) (A0_4 : Option Addr) (c0_4 : Nat) (l0_4 : List (S24)) (r : Bool) (w : World) (hr0_4 : Kd.C k24 w A0_4 l0_4.length l0_4) (hc0_4 : l0_4.length ≤ c0_4) (h : gossamerref02_parts.f k a0_0 a0_1 a0_2 a0_3 l0_4 = some r) :
  Calls Tryz.prog 26 #[.agg #[.int .i64 a0_0, .string a0_1, .int .i64 a0_2, .int .i64 a0_3, .slice A0_4 l0_4.length c0_4]] w fun e w' => e = .returned (.bool r) ∧ Below w.heap.size w w' := by
 have hu24 := Tryz.underlying24
 have HR0_4 := Aside0.mk hr0_4
 have HC0_4 := Aside0.mk hc0_4
 clear hr0_4 hc0_4
 have HB := Aside0.mk (Below.refl w.heap.size w)
 have H : (if a0_0 = 1 then (if (l0_4.length : Int) = 0 then (some (a0_2 == 0)) else (some false)) else (if a0_0 = 2 then (if (l0_4.length : Int) = 1 then (some (a0_2 == 0)) else (some false)) else (if a0_0 = 3 then (gossamerref02_parts.j0 k (l0_4.length : Int) a0_0 (a0_0 == 3) a0_0 a0_1 a0_2 a0_3 l0_4) else (if a0_0 = 4 then (gossamerref02_parts.j0 k (l0_4.length : Int) a0_0 (a0_0 == 4) a0_0 a0_1 a0_2 a0_3 l0_4) else (if a0_0 = 5 then (gossamerref02_parts.j0 k (l0_4.length : Int) a0_0 (a0_0 == 5) a0_0 a0_1 a0_2 a0_3 l0_4) else (gossamerref02_parts.j0 k (l0_4.length : Int) a0_0 (a0_0 == 10) a0_0 a0_1 a0_2 a0_3 l0_4)))))) = some r := h
 clear h
 by_cases c2 : a0_0 = 1
 ·rw [if_pos c2] at H
  have c2b0 : (a0_0 == 1) = true := beq_iff_eq.mpr c2
  have c2b1 : (a0_0 != 1) = false := bne_eq_false_iff_eq.mpr c2
  clear c2
  by_cases c3 : (l0_4.length : Int) = 0
  ·rw [if_pos c3] at H
   have c3b0 : ((l0_4.length : Int) == 0) = true := beq_iff_eq.mpr c3
   have c3b1 : ((l0_4.length : Int) != 0) = false := bne_eq_false_iff_eq.mpr c3
   clear c3
   obtain rfl := Option.some.inj H
   go_enter Tryz.func26, Tryz.ntmps26
   go_wp2_with (first|((with_reducible refine gate_dst (N := 1) rfl ?_); refine box_event ?hg (N := 1) ?hd (cs := #[.int .i64 a0_0, .string a0_1, .int .i64 a0_2, .int .i64 a0_3, .slice A0_4 l0_4.length c0_4]) (t := 24) ?hr ?_; (case hd => rfl); (case hg => rfl); (case hr => first|(go_simp; done)|(go_simp; rfl)); intro gb153 hg w4 hbox hb; have n0_ := Aside0.mk (below_step (by repeat (first|(with_reducible first|exact HB.out|apply below_alloc|apply pw_below_drewN|apply below_drew1)|exact HB.out)) hb); have n1_ := Aside0.mk (hbox); have n2_ := Aside0.mk ((by rw [hg]; exact (below_size (by repeat (first|(with_reducible first|exact HB.out|apply below_alloc|apply pw_below_drewN|apply below_drew1)|exact HB.out))) : w.heap.size ≤ gb153)); have n3_ := Aside0.mk ((by rw [hg]; exact (below_size (by repeat (first|(with_reducible first|exact HB.out|apply below_alloc|apply pw_below_drewN|apply below_drew1)|exact HB.out))) : w.heap.size ≤ gb153)); clear HB; have HB := n0_; have BK153 := n1_; have GW153 := n2_; have GE153 := n3_; clear n0_ n1_ n2_ n3_; clear hb hbox hg; have hcz5_0 : w4.cell? ⟨gb153, 0, none⟩ = some (.int .i64 a0_0) := (blk_cell BK153.out 0).trans rfl; have hcz5_1 : w4.cell? ⟨gb153, 1, none⟩ = some (.string a0_1) := (blk_cell BK153.out 1).trans rfl; have hcz5_2 : w4.cell? ⟨gb153, 2, none⟩ = some (.int .i64 a0_2) := (blk_cell BK153.out 2).trans rfl; have hcz5_3 : w4.cell? ⟨gb153, 3, none⟩ = some (.int .i64 a0_3) := (blk_cell BK153.out 3).trans rfl; have hcz5_4 : w4.cell? ⟨gb153, 4, none⟩ = some (.slice A0_4 l0_4.length c0_4) := (blk_cell BK153.out 4).trans rfl; have hfz5_0 := blk_frozen BK153.out 0; have hfz5_1 := blk_frozen BK153.out 1; have hfz5_2 := blk_frozen BK153.out 2; have hfz5_3 := blk_frozen BK153.out 3; have hfz5_4 := blk_frozen BK153.out 4))
   go_ret
   exact ⟨by first|rfl|(simp [errW_none, errW_some] <;> rfl)|(simp [*, errW_none, errW_some] <;> rfl), by repeat (first|(with_reducible first|exact HB.out|apply below_alloc|apply pw_below_drewN|apply below_drew1|refine below_set ?_ GE153.out)|exact HB.out)⟩
  ·rw [if_neg c3] at H
   have c3b0 : ((l0_4.length : Int) == 0) = false := beq_eq_false_iff_ne.mpr c3
   have c3b1 : ((l0_4.length : Int) != 0) = true := bne_iff_ne.mpr c3
   have c3b2 : ¬ (l0_4 = []) := fun h_ => c3 (by rw [h_]; rfl)
   obtain rfl := Option.some.inj H
   go_enter Tryz.func26, Tryz.ntmps26
   go_wp2_with (first|((with_reducible refine gate_dst (N := 1) rfl ?_); refine box_event ?hg (N := 1) ?hd (cs := #[.int .i64 a0_0, .string a0_1, .int .i64 a0_2, .int .i64 a0_3, .slice A0_4 l0_4.length c0_4]) (t := 24) ?hr ?_; (case hd => rfl); (case hg => rfl); (case hr => first|(go_simp; done)|(go_simp; rfl)); intro gb153 hg w6 hbox hb; have n0_ := Aside0.mk (below_step (by repeat (first|(with_reducible first|exact HB.out|apply below_alloc|apply pw_below_drewN|apply below_drew1)|exact HB.out)) hb); have n1_ := Aside0.mk (hbox); have n2_ := Aside0.mk ((by rw [hg]; exact (below_size (by repeat (first|(with_reducible first|exact HB.out|apply below_alloc|apply pw_below_drewN|apply below_drew1)|exact HB.out))) : w.heap.size ≤ gb153)); have n3_ := Aside0.mk ((by rw [hg]; exact (below_size (by repeat (first|(with_reducible first|exact HB.out|apply below_alloc|apply pw_below_drewN|apply below_drew1)|exact HB.out))) : w.heap.size ≤ gb153)); clear HB; have HB := n0_; have BK153 := n1_; have GW153 := n2_; have GE153 := n3_; clear n0_ n1_ n2_ n3_; clear hb hbox hg; have hcz7_0 : w6.cell? ⟨gb153, 0, none⟩ = some (.int .i64 a0_0) := (blk_cell BK153.out 0).trans rfl; have hcz7_1 : w6.cell? ⟨gb153, 1, none⟩ = some (.string a0_1) := (blk_cell BK153.out 1).trans rfl; have hcz7_2 : w6.cell? ⟨gb153, 2, none⟩ = some (.int .i64 a0_2) := (blk_cell BK153.out 2).trans rfl; have hcz7_3 : w6.cell? ⟨gb153, 3, none⟩ = some (.int .i64 a0_3) := (blk_cell BK153.out 3).trans rfl; have hcz7_4 : w6.cell? ⟨gb153, 4, none⟩ = some (.slice A0_4 l0_4.length c0_4) := (blk_cell BK153.out 4).trans rfl; have hfz7_0 := blk_frozen BK153.out 0; have hfz7_1 := blk_frozen BK153.out 1; have hfz7_2 := blk_frozen BK153.out 2; have hfz7_3 := blk_frozen BK153.out 3; have hfz7_4 := blk_frozen BK153.out 4))
   go_ret
   exact ⟨by first|rfl|(simp [errW_none, errW_some] <;> rfl)|(simp [*, errW_none, errW_some] <;> rfl), by repeat (first|(with_reducible first|exact HB.out|apply below_alloc|apply pw_below_drewN|apply below_drew1|refine below_set ?_ GE153.out)|exact HB.out)⟩
 ·rw [if_neg c2] at H
  have c2b0 : (a0_0 == 1) = false := beq_eq_false_iff_ne.mpr c2
  have c2b1 : (a0_0 != 1) = true := bne_iff_ne.mpr c2
  by_cases c8 : a0_0 = 2
  ·rw [if_pos c8] at H
   have c8b0 : (a0_0 == 2) = true := beq_iff_eq.mpr c8
   have c8b1 : (a0_0 != 2) = false := bne_eq_false_iff_eq.mpr c8
   clear c8
   by_cases c9 : (l0_4.length : Int) = 1
   ·rw [if_pos c9] at H
    have c9b0 : ((l0_4.length : Int) == 1) = true := beq_iff_eq.mpr c9
    have c9b1 : ((l0_4.length : Int) != 1) = false := bne_eq_false_iff_eq.mpr c9
    clear c9
    obtain rfl := Option.some.inj H
    go_enter Tryz.func26, Tryz.ntmps26
    go_wp2_with (first|((with_reducible refine gate_dst (N := 1) rfl ?_); refine box_event ?hg (N := 1) ?hd (cs := #[.int .i64 a0_0, .string a0_1, .int .i64 a0_2, .int .i64 a0_3, .slice A0_4 l0_4.length c0_4]) (t := 24) ?hr ?_; (case hd => rfl); (case hg => rfl); (case hr => first|(go_simp; done)|(go_simp; rfl)); intro gb153 hg w10 hbox hb; have n0_ := Aside0.mk (below_step (by repeat (first|(with_reducible first|exact HB.out|apply below_alloc|apply pw_below_drewN|apply below_drew1)|exact HB.out)) hb); have n1_ := Aside0.mk (hbox); have n2_ := Aside0.mk ((by rw [hg]; exact (below_size (by repeat (first|(with_reducible first|exact HB.out|apply below_alloc|apply pw_below_drewN|apply below_drew1)|exact HB.out))) : w.heap.size ≤ gb153)); have n3_ := Aside0.mk ((by rw [hg]; exact (below_size (by repeat (first|(with_reducible first|exact HB.out|apply below_alloc|apply pw_below_drewN|apply below_drew1)|exact HB.out))) : w.heap.size ≤ gb153)); clear HB; have HB := n0_; have BK153 := n1_; have GW153 := n2_; have GE153 := n3_; clear n0_ n1_ n2_ n3_; clear hb hbox hg; have hcz11_0 : w10.cell? ⟨gb153, 0, none⟩ = some (.int .i64 a0_0) := (blk_cell BK153.out 0).trans rfl; have hcz11_1 : w10.cell? ⟨gb153, 1, none⟩ = some (.string a0_1) := (blk_cell BK153.out 1).trans rfl; have hcz11_2 : w10.cell? ⟨gb153, 2, none⟩ = some (.int .i64 a0_2) := (blk_cell BK153.out 2).trans rfl; have hcz11_3 : w10.cell? ⟨gb153, 3, none⟩ = some (.int .i64 a0_3) := (blk_cell BK153.out 3).trans rfl; have hcz11_4 : w10.cell? ⟨gb153, 4, none⟩ = some (.slice A0_4 l0_4.length c0_4) := (blk_cell BK153.out 4).trans rfl; have hfz11_0 := blk_frozen BK153.out 0; have hfz11_1 := blk_frozen BK153.out 1; have hfz11_2 := blk_frozen BK153.out 2; have hfz11_3 := blk_frozen BK153.out 3; have hfz11_4 := blk_frozen BK153.out 4))
    go_ret
    exact ⟨by first|rfl|(simp [errW_none, errW_some] <;> rfl)|(simp [*, errW_none, errW_some] <;> rfl), by repeat (first|(with_reducible first|exact HB.out|apply below_alloc|apply pw_below_drewN|apply below_drew1|refine below_set ?_ GE153.out)|exact HB.out)⟩
   ·rw [if_neg c9] at H
    have c9b0 : ((l0_4.length : Int) == 1) = false := beq_eq_false_iff_ne.mpr c9
    have c9b1 : ((l0_4.length : Int) != 1) = true := bne_iff_ne.mpr c9
    obtain rfl := Option.some.inj H
    go_enter Tryz.func26, Tryz.ntmps26
    go_wp2_with (first|((with_reducible refine gate_dst (N := 1) rfl ?_); refine box_event ?hg (N := 1) ?hd (cs := #[.int .i64 a0_0, .string a0_1, .int .i64 a0_2, .int .i64 a0_3, .slice A0_4 l0_4.length c0_4]) (t := 24) ?hr ?_; (case hd => rfl); (case hg => rfl); (case hr => first|(go_simp; done)|(go_simp; rfl)); intro gb153 hg w12 hbox hb; have n0_ := Aside0.mk (below_step (by repeat (first|(with_reducible first|exact HB.out|apply below_alloc|apply pw_below_drewN|apply below_drew1)|exact HB.out)) hb); have n1_ := Aside0.mk (hbox); have n2_ := Aside0.mk ((by rw [hg]; exact (below_size (by repeat (first|(with_reducible first|exact HB.out|apply below_alloc|apply pw_below_drewN|apply below_drew1)|exact HB.out))) : w.heap.size ≤ gb153)); have n3_ := Aside0.mk ((by rw [hg]; exact (below_size (by repeat (first|(with_reducible first|exact HB.out|apply below_alloc|apply pw_below_drewN|apply below_drew1)|exact HB.out))) : w.heap.size ≤ gb153)); clear HB; have HB := n0_; have BK153 := n1_; have GW153 := n2_; have GE153 := n3_; clear n0_ n1_ n2_ n3_; clear hb hbox hg; have hcz13_0 : w12.cell? ⟨gb153, 0, none⟩ = some (.int .i64 a0_0) := (blk_cell BK153.out 0).trans rfl; have hcz13_1 : w12.cell? ⟨gb153, 1, none⟩ = some (.string a0_1) := (blk_cell BK153.out 1).trans rfl; have hcz13_2 : w12.cell? ⟨gb153, 2, none⟩ = some (.int .i64 a0_2) := (blk_cell BK153.out 2).trans rfl; have hcz13_3 : w12.cell? ⟨gb153, 3, none⟩ = some (.int .i64 a0_3) := (blk_cell BK153.out 3).trans rfl; have hcz13_4 : w12.cell? ⟨gb153, 4, none⟩ = some (.slice A0_4 l0_4.length c0_4) := (blk_cell BK153.out 4).trans rfl; have hfz13_0 := blk_frozen BK153.out 0; have hfz13_1 := blk_frozen BK153.out 1; have hfz13_2 := blk_frozen BK153.out 2; have hfz13_3 := blk_frozen BK153.out 3; have hfz13_4 := blk_frozen BK153.out 4))
    go_ret
    exact ⟨by first|rfl|(simp [errW_none, errW_some] <;> rfl)|(simp [*, errW_none, errW_some] <;> rfl), by repeat (first|(with_reducible first|exact HB.out|apply below_alloc|apply pw_below_drewN|apply below_drew1|refine below_set ?_ GE153.out)|exact HB.out)⟩
  ·rw [if_neg c8] at H
   have c8b0 : (a0_0 == 2) = false := beq_eq_false_iff_ne.mpr c8
   have c8b1 : (a0_0 != 2) = true := bne_iff_ne.mpr c8
   have HC14 := Aside0.mk H
   clear H
   go_enter Tryz.func26, Tryz.ntmps26
   go_upto_if 27 with (first|((with_reducible refine gate_dst (N := 1) rfl ?_); refine box_event ?hg (N := 1) ?hd (cs := #[.int .i64 a0_0, .string a0_1, .int .i64 a0_2, .int .i64 a0_3, .slice A0_4 l0_4.length c0_4]) (t := 24) ?hr ?_; (case hd => rfl); (case hg => rfl); (case hr => first|(go_simp; done)|(go_simp; rfl)); intro gb153 hg w15 hbox hb; have n0_ := Aside0.mk (below_step (by repeat (first|(with_reducible first|exact HB.out|apply below_alloc|apply pw_below_drewN|apply below_drew1)|exact HB.out)) hb); have n1_ := Aside0.mk (hbox); have n2_ := Aside0.mk ((by rw [hg]; exact (below_size (by repeat (first|(with_reducible first|exact HB.out|apply below_alloc|apply pw_below_drewN|apply below_drew1)|exact HB.out))) : w.heap.size ≤ gb153)); have n3_ := Aside0.mk ((by rw [hg]; exact (below_size (by repeat (first|(with_reducible first|exact HB.out|apply below_alloc|apply pw_below_drewN|apply below_drew1)|exact HB.out))) : w.heap.size ≤ gb153)); clear HB; have HB := n0_; have BK153 := n1_; have GW153 := n2_; have GE153 := n3_; clear n0_ n1_ n2_ n3_; clear hb hbox hg; have hcz16_0 : w15.cell? ⟨gb153, 0, none⟩ = some (.int .i64 a0_0) := (blk_cell BK153.out 0).trans rfl; have hcz16_1 : w15.cell? ⟨gb153, 1, none⟩ = some (.string a0_1) := (blk_cell BK153.out 1).trans rfl; have hcz16_2 : w15.cell? ⟨gb153, 2, none⟩ = some (.int .i64 a0_2) := (blk_cell BK153.out 2).trans rfl; have hcz16_3 : w15.cell? ⟨gb153, 3, none⟩ = some (.int .i64 a0_3) := (blk_cell BK153.out 3).trans rfl; have hcz16_4 : w15.cell? ⟨gb153, 4, none⟩ = some (.slice A0_4 l0_4.length c0_4) := (blk_cell BK153.out 4).trans rfl; have hfz16_0 := blk_frozen BK153.out 0; have hfz16_1 := blk_frozen BK153.out 1; have hfz16_2 := blk_frozen BK153.out 2; have hfz16_3 := blk_frozen BK153.out 3; have hfz16_4 := blk_frozen BK153.out 4))
   (try simp only [Act.put, List.setIfInBounds_toArray, List.set_cons_zero, List.set_cons_succ])
   go_cut [27] (fun v27 wc => ∃ (kq : Nat) (x27_13 : Bool), v27 = .bool x27_13 ∧ Aside0 (gossamerref02_parts.j0 kq (l0_4.length : Int) a0_0 x27_13 a0_0 a0_1 a0_2 a0_3 l0_4 = some r) ∧ Aside0 (kq ≤ k) ∧ Aside0 (wc.heap[gb153]? = some (.cells #[.int .i64 a0_0, .string a0_1, .int .i64 a0_2, .int .i64 a0_3, (.slice A0_4 l0_4.length c0_4)] 24 (0, 0))) ∧ Aside0 (Below w.heap.size w wc))
   case first =>
    have H := HC14.out
    clear HC14
    by_cases c17 : a0_0 = 3
    ·rw [if_pos c17] at H
     have c17b0 : (a0_0 == 3) = true := beq_iff_eq.mpr c17
     have c17b1 : (a0_0 != 3) = false := bne_eq_false_iff_eq.mpr c17
     clear c17
     (first|rw [c17b0]|(simp only [i64_w, i32_w]; rw [c17b0]) | skip)
     have H' := Aside0.mk H
     clear H
     go_wp2
     go_meet
     case rel => exact ⟨_, ((a0_0 == 3)), (by first|rfl|(simp; done)|(simp [*]; done)), H', ⟨by first | omega|exact Nat.le_refl _⟩, ⟨by (with_reducible repeat (first|refine blk_drewN ?_ _|refine blk_drew ?_|refine blk_alloc ?_ _)); exact BK153.out⟩, ⟨by repeat (first|(with_reducible first|exact HB.out|apply below_alloc|apply pw_below_drewN|apply below_drew1|refine below_set ?_ GE153.out)|exact HB.out)⟩⟩
    ·rw [if_neg c17] at H
     have c17b0 : (a0_0 == 3) = false := beq_eq_false_iff_ne.mpr c17
     have c17b1 : (a0_0 != 3) = true := bne_iff_ne.mpr c17
     (first|rw [c17b0]|(simp only [i64_w, i32_w]; rw [c17b0]) | skip)
     by_cases c18 : a0_0 = 4
     ·rw [if_pos c18] at H
      have c18b0 : (a0_0 == 4) = true := beq_iff_eq.mpr c18
      have c18b1 : (a0_0 != 4) = false := bne_eq_false_iff_eq.mpr c18
      clear c18
      have H' := Aside0.mk H
      clear H
      go_wp2
      go_meet
      case rel => exact ⟨_, ((a0_0 == 4)), (by first|rfl|(simp; done)|(simp [*]; done)), H', ⟨by first | omega|exact Nat.le_refl _⟩, ⟨by (with_reducible repeat (first|refine blk_drewN ?_ _|refine blk_drew ?_|refine blk_alloc ?_ _)); exact BK153.out⟩, ⟨by repeat (first|(with_reducible first|exact HB.out|apply below_alloc|apply pw_below_drewN|apply below_drew1|refine below_set ?_ GE153.out)|exact HB.out)⟩⟩
     ·rw [if_neg c18] at H
      have c18b0 : (a0_0 == 4) = false := beq_eq_false_iff_ne.mpr c18
      have c18b1 : (a0_0 != 4) = true := bne_iff_ne.mpr c18
      by_cases c19 : a0_0 = 5
      ·rw [if_pos c19] at H
       have c19b0 : (a0_0 == 5) = true := beq_iff_eq.mpr c19
       have c19b1 : (a0_0 != 5) = false := bne_eq_false_iff_eq.mpr c19
       clear c19
       have H' := Aside0.mk H
       clear H
       go_wp2
       go_meet
       case rel => exact ⟨_, ((a0_0 == 5)), (by first|rfl|(simp; done)|(simp [*]; done)), H', ⟨by first | omega|exact Nat.le_refl _⟩, ⟨by (with_reducible repeat (first|refine blk_drewN ?_ _|refine blk_drew ?_|refine blk_alloc ?_ _)); exact BK153.out⟩, ⟨by repeat (first|(with_reducible first|exact HB.out|apply below_alloc|apply pw_below_drewN|apply below_drew1|refine below_set ?_ GE153.out)|exact HB.out)⟩⟩
      ·rw [if_neg c19] at H
       have c19b0 : (a0_0 == 5) = false := beq_eq_false_iff_ne.mpr c19
       have c19b1 : (a0_0 != 5) = true := bne_iff_ne.mpr c19
       have H' := Aside0.mk H
       clear H
       go_wp2
       go_meet
       case rel => exact ⟨_, ((a0_0 == 10)), (by first|rfl|(simp; done)|(simp [*]; done)), H', ⟨by first | omega|exact Nat.le_refl _⟩, ⟨by (with_reducible repeat (first|refine blk_drewN ?_ _|refine blk_drew ?_|refine blk_alloc ?_ _)); exact BK153.out⟩, ⟨by repeat (first|(with_reducible first|exact HB.out|apply below_alloc|apply pw_below_drewN|apply below_drew1|refine below_set ?_ GE153.out)|exact HB.out)⟩⟩
   case rest =>
    clear HC14
    try clear c1
    try clear c2
    try clear c2b0
    try clear c2b1
    try clear p2
    try clear c3
    try clear c3b0
    try clear c3b1
    try clear c3b2
    try clear c8
    try clear c8b0
    try clear c8b1
    try clear c9
    try clear c9b0
    try clear c9b1
    try clear c17
    try clear c17b0
    try clear c17b1
    try clear c18
    try clear c18b0
    try clear c18b1
    try clear c19
    try clear c19b0
    try clear c19b1
    try clear hcz11_0
    try clear hcz11_1
    try clear hcz11_2
    try clear hcz11_3
    try clear hcz11_4
    try clear hcz13_0
    try clear hcz13_1
    try clear hcz13_2
    try clear hcz13_3
    try clear hcz13_4
    try clear hcz16_0
    try clear hcz16_1
    try clear hcz16_2
    try clear hcz16_3
    try clear hcz16_4
    try clear hcz5_0
    try clear hcz5_1
    try clear hcz5_2
    try clear hcz5_3
    try clear hcz5_4
    try clear hcz7_0
    try clear hcz7_1
    try clear hcz7_2
    try clear hcz7_3
    try clear hcz7_4
    try clear hfz11_0
    try clear hfz11_1
    try clear hfz11_2
    try clear hfz11_3
    try clear hfz11_4
    try clear hfz13_0
    try clear hfz13_1
    try clear hfz13_2
    try clear hfz13_3
    try clear hfz13_4
    try clear hfz16_0
    try clear hfz16_1
    try clear hfz16_2
    try clear hfz16_3
    try clear hfz16_4
    try clear hfz5_0
    try clear hfz5_1
    try clear hfz5_2
    try clear hfz5_3
    try clear hfz5_4
    try clear hfz7_0
    try clear hfz7_1
    try clear hfz7_2
    try clear hfz7_3
    try clear hfz7_4
    obtain ⟨kq, x27_13, rfl, HA, HJ13, BK153, HB⟩ := hcut
    cases kq with
    | zero => exact absurd HA.out (by simp [gossamerref02_parts.j0])
    | succ kj13 =>
     have H := HA.out
     clear HA
     simp only [gossamerref02_parts.j0] at H
     by_cases c20 : x27_13 = true
     ·subst c20
      have H1 : (if (l0_4.length : Int) = 2 then (some (a0_2 == 0)) else (some false)) = some r := by rw [if_pos rfl] at H; exact H
      clear H
      have H := H1
      clear H1
      by_cases c21 : (l0_4.length : Int) = 2
      ·rw [if_pos c21] at H
       have c21b0 : ((l0_4.length : Int) == 2) = true := beq_iff_eq.mpr c21
       have c21b1 : ((l0_4.length : Int) != 2) = false := bne_eq_false_iff_eq.mpr c21
       clear c21
       obtain rfl := Option.some.inj H
       have hcz22_0 : wc.cell? ⟨gb153, 0, none⟩ = some (.int .i64 a0_0) := (blk_cell BK153.out 0).trans rfl
       have hcz22_1 : wc.cell? ⟨gb153, 1, none⟩ = some (.string a0_1) := (blk_cell BK153.out 1).trans rfl
       have hcz22_2 : wc.cell? ⟨gb153, 2, none⟩ = some (.int .i64 a0_2) := (blk_cell BK153.out 2).trans rfl
       have hcz22_3 : wc.cell? ⟨gb153, 3, none⟩ = some (.int .i64 a0_3) := (blk_cell BK153.out 3).trans rfl
       have hcz22_4 : wc.cell? ⟨gb153, 4, none⟩ = some (.slice A0_4 l0_4.length c0_4) := (blk_cell BK153.out 4).trans rfl
       have hfz22_0 := blk_frozen BK153.out 0
       have hfz22_1 := blk_frozen BK153.out 1
       have hfz22_2 := blk_frozen BK153.out 2
       have hfz22_3 := blk_frozen BK153.out 3
       have hfz22_4 := blk_frozen BK153.out 4
       go_wp2
       go_ret
       exact ⟨by first|rfl|(simp [errW_none, errW_some] <;> rfl)|(simp [*, errW_none, errW_some] <;> rfl), by repeat (first|(with_reducible first|exact HB.out|apply below_alloc|apply pw_below_drewN|apply below_drew1|refine below_set ?_ GE153.out)|exact HB.out)⟩
      ·rw [if_neg c21] at H
       have c21b0 : ((l0_4.length : Int) == 2) = false := beq_eq_false_iff_ne.mpr c21
       have c21b1 : ((l0_4.length : Int) != 2) = true := bne_iff_ne.mpr c21
       obtain rfl := Option.some.inj H
       go_wp2
       go_ret
       exact ⟨by first|rfl|(simp [errW_none, errW_some] <;> rfl)|(simp [*, errW_none, errW_some] <;> rfl), by repeat (first|(with_reducible first|exact HB.out|apply below_alloc|apply pw_below_drewN|apply below_drew1|refine below_set ?_ GE153.out)|exact HB.out)⟩
     ·replace c20 := Bool.eq_false_iff.mpr c20
      subst c20
      have H1 : (if a0_0 = 6 then (if (l0_4.length : Int) ≤ 8 then (some (a0_2 == 0)) else (some false)) else (if a0_0 = 7 then (if (l0_4.length : Int) ≥ 2 then (if (l0_4.length : Int) ≤ 9 then (some (a0_2 == 0)) else (some false)) else (some false)) else (if a0_0 = 8 then (if a0_2 ≥ 0 then (if a0_2 ≤ 8 then (some ((l0_4.length : Int) == (wrap64 (a0_2 + 1)))) else (some false)) else (some false)) else (if a0_0 = 9 then (if (l0_4.length : Int) = 0 then (if a0_2 ≥ 0 then (some (decide (a0_2 < 1000000000000000000))) else (some false)) else (some false)) else (some false))))) = some r := by rw [if_neg (show ¬ (false = true) by decide)] at H; exact H
      clear H
      have H := H1
      clear H1
      by_cases c23 : a0_0 = 6
      ·rw [if_pos c23] at H
       have c23b0 : (a0_0 == 6) = true := beq_iff_eq.mpr c23
       have c23b1 : (a0_0 != 6) = false := bne_eq_false_iff_eq.mpr c23
       clear c23
       by_cases c24 : (l0_4.length : Int) ≤ 8
       ·rw [if_pos c24] at H
        have c24b0 : decide ((l0_4.length : Int) ≤ 8) = true := decide_eq_true c24
        have c24b1 : decide (l0_4.length ≤ 8) = true := decide_eq_true (by omega)
        clear c24
        obtain rfl := Option.some.inj H
        have hcz25_0 : wc.cell? ⟨gb153, 0, none⟩ = some (.int .i64 a0_0) := (blk_cell BK153.out 0).trans rfl
        have hcz25_1 : wc.cell? ⟨gb153, 1, none⟩ = some (.string a0_1) := (blk_cell BK153.out 1).trans rfl
        have hcz25_2 : wc.cell? ⟨gb153, 2, none⟩ = some (.int .i64 a0_2) := (blk_cell BK153.out 2).trans rfl
        have hcz25_3 : wc.cell? ⟨gb153, 3, none⟩ = some (.int .i64 a0_3) := (blk_cell BK153.out 3).trans rfl
        have hcz25_4 : wc.cell? ⟨gb153, 4, none⟩ = some (.slice A0_4 l0_4.length c0_4) := (blk_cell BK153.out 4).trans rfl
        have hfz25_0 := blk_frozen BK153.out 0
        have hfz25_1 := blk_frozen BK153.out 1
        have hfz25_2 := blk_frozen BK153.out 2
        have hfz25_3 := blk_frozen BK153.out 3
        have hfz25_4 := blk_frozen BK153.out 4
        go_wp2
        go_ret
        exact ⟨by first|rfl|(simp [errW_none, errW_some] <;> rfl)|(simp [*, errW_none, errW_some] <;> rfl), by repeat (first|(with_reducible first|exact HB.out|apply below_alloc|apply pw_below_drewN|apply below_drew1|refine below_set ?_ GE153.out)|exact HB.out)⟩
       ·rw [if_neg c24] at H
        have c24b0 : decide ((l0_4.length : Int) ≤ 8) = false := decide_eq_false c24
        have c24b1 : decide (l0_4.length ≤ 8) = false := decide_eq_false (by omega)
        clear c24
        obtain rfl := Option.some.inj H
        go_wp2
        go_ret
        exact ⟨by first|rfl|(simp [errW_none, errW_some] <;> rfl)|(simp [*, errW_none, errW_some] <;> rfl), by repeat (first|(with_reducible first|exact HB.out|apply below_alloc|apply pw_below_drewN|apply below_drew1|refine below_set ?_ GE153.out)|exact HB.out)⟩
      ·rw [if_neg c23] at H
       have c23b0 : (a0_0 == 6) = false := beq_eq_false_iff_ne.mpr c23
       have c23b1 : (a0_0 != 6) = true := bne_iff_ne.mpr c23
       by_cases c26 : a0_0 = 7
       ·rw [if_pos c26] at H
        have c26b0 : (a0_0 == 7) = true := beq_iff_eq.mpr c26
        have c26b1 : (a0_0 != 7) = false := bne_eq_false_iff_eq.mpr c26
        clear c26
        by_cases c27 : (l0_4.length : Int) ≥ 2
        ·rw [if_pos c27] at H
         have c27b0 : decide (2 ≤ (l0_4.length : Int)) = true := decide_eq_true c27
         have c27b1 : decide (2 ≤ l0_4.length) = true := decide_eq_true (by omega)
         clear c27
         by_cases c28 : (l0_4.length : Int) ≤ 9
         ·rw [if_pos c28] at H
          have c28b0 : decide ((l0_4.length : Int) ≤ 9) = true := decide_eq_true c28
          have c28b1 : decide (l0_4.length ≤ 9) = true := decide_eq_true (by omega)
          clear c28
          obtain rfl := Option.some.inj H
          have hcz29_0 : wc.cell? ⟨gb153, 0, none⟩ = some (.int .i64 a0_0) := (blk_cell BK153.out 0).trans rfl
          have hcz29_1 : wc.cell? ⟨gb153, 1, none⟩ = some (.string a0_1) := (blk_cell BK153.out 1).trans rfl
          have hcz29_2 : wc.cell? ⟨gb153, 2, none⟩ = some (.int .i64 a0_2) := (blk_cell BK153.out 2).trans rfl
          have hcz29_3 : wc.cell? ⟨gb153, 3, none⟩ = some (.int .i64 a0_3) := (blk_cell BK153.out 3).trans rfl
          have hcz29_4 : wc.cell? ⟨gb153, 4, none⟩ = some (.slice A0_4 l0_4.length c0_4) := (blk_cell BK153.out 4).trans rfl
          have hfz29_0 := blk_frozen BK153.out 0
          have hfz29_1 := blk_frozen BK153.out 1
          have hfz29_2 := blk_frozen BK153.out 2
          have hfz29_3 := blk_frozen BK153.out 3
          have hfz29_4 := blk_frozen BK153.out 4
          go_wp2
          go_ret
          exact ⟨by first|rfl|(simp [errW_none, errW_some] <;> rfl)|(simp [*, errW_none, errW_some] <;> rfl), by repeat (first|(with_reducible first|exact HB.out|apply below_alloc|apply pw_below_drewN|apply below_drew1|refine below_set ?_ GE153.out)|exact HB.out)⟩
         ·rw [if_neg c28] at H
          have c28b0 : decide ((l0_4.length : Int) ≤ 9) = false := decide_eq_false c28
          have c28b1 : decide (l0_4.length ≤ 9) = false := decide_eq_false (by omega)
          clear c28
          obtain rfl := Option.some.inj H
          go_wp2
          go_ret
          exact ⟨by first|rfl|(simp [errW_none, errW_some] <;> rfl)|(simp [*, errW_none, errW_some] <;> rfl), by repeat (first|(with_reducible first|exact HB.out|apply below_alloc|apply pw_below_drewN|apply below_drew1|refine below_set ?_ GE153.out)|exact HB.out)⟩
        ·rw [if_neg c27] at H
         have c27b0 : decide (2 ≤ (l0_4.length : Int)) = false := decide_eq_false c27
         have c27b1 : decide (2 ≤ l0_4.length) = false := decide_eq_false (by omega)
         clear c27
         obtain rfl := Option.some.inj H
         go_wp2
         go_ret
         exact ⟨by first|rfl|(simp [errW_none, errW_some] <;> rfl)|(simp [*, errW_none, errW_some] <;> rfl), by repeat (first|(with_reducible first|exact HB.out|apply below_alloc|apply pw_below_drewN|apply below_drew1|refine below_set ?_ GE153.out)|exact HB.out)⟩
       ·rw [if_neg c26] at H
        have c26b0 : (a0_0 == 7) = false := beq_eq_false_iff_ne.mpr c26
        have c26b1 : (a0_0 != 7) = true := bne_iff_ne.mpr c26
        by_cases c30 : a0_0 = 8
        ·rw [if_pos c30] at H
         have c30b0 : (a0_0 == 8) = true := beq_iff_eq.mpr c30
         have c30b1 : (a0_0 != 8) = false := bne_eq_false_iff_eq.mpr c30
         clear c30
         by_cases c31 : a0_2 ≥ 0
         ·rw [if_pos c31] at H
          have c31b0 : decide (0 ≤ a0_2) = true := decide_eq_true c31
          clear c31
          by_cases c32 : a0_2 ≤ 8
          ·rw [if_pos c32] at H
           have c32b0 : decide (a0_2 ≤ 8) = true := decide_eq_true c32
           clear c32
           obtain rfl := Option.some.inj H
           have hcz33_0 : wc.cell? ⟨gb153, 0, none⟩ = some (.int .i64 a0_0) := (blk_cell BK153.out 0).trans rfl
           have hcz33_1 : wc.cell? ⟨gb153, 1, none⟩ = some (.string a0_1) := (blk_cell BK153.out 1).trans rfl
           have hcz33_2 : wc.cell? ⟨gb153, 2, none⟩ = some (.int .i64 a0_2) := (blk_cell BK153.out 2).trans rfl
           have hcz33_3 : wc.cell? ⟨gb153, 3, none⟩ = some (.int .i64 a0_3) := (blk_cell BK153.out 3).trans rfl
           have hcz33_4 : wc.cell? ⟨gb153, 4, none⟩ = some (.slice A0_4 l0_4.length c0_4) := (blk_cell BK153.out 4).trans rfl
           have hfz33_0 := blk_frozen BK153.out 0
           have hfz33_1 := blk_frozen BK153.out 1
           have hfz33_2 := blk_frozen BK153.out 2
           have hfz33_3 := blk_frozen BK153.out 3
           have hfz33_4 := blk_frozen BK153.out 4
           go_wp2
           go_ret
           exact ⟨by first|rfl|(simp [errW_none, errW_some] <;> rfl)|(simp [*, errW_none, errW_some] <;> rfl), by repeat (first|(with_reducible first|exact HB.out|apply below_alloc|apply pw_below_drewN|apply below_drew1|refine below_set ?_ GE153.out)|exact HB.out)⟩
          ·rw [if_neg c32] at H
           have c32b0 : decide (a0_2 ≤ 8) = false := decide_eq_false c32
           clear c32
           obtain rfl := Option.some.inj H
           have hcz34_0 : wc.cell? ⟨gb153, 0, none⟩ = some (.int .i64 a0_0) := (blk_cell BK153.out 0).trans rfl
           have hcz34_1 : wc.cell? ⟨gb153, 1, none⟩ = some (.string a0_1) := (blk_cell BK153.out 1).trans rfl
           have hcz34_2 : wc.cell? ⟨gb153, 2, none⟩ = some (.int .i64 a0_2) := (blk_cell BK153.out 2).trans rfl
           have hcz34_3 : wc.cell? ⟨gb153, 3, none⟩ = some (.int .i64 a0_3) := (blk_cell BK153.out 3).trans rfl
           have hcz34_4 : wc.cell? ⟨gb153, 4, none⟩ = some (.slice A0_4 l0_4.length c0_4) := (blk_cell BK153.out 4).trans rfl
           have hfz34_0 := blk_frozen BK153.out 0
           have hfz34_1 := blk_frozen BK153.out 1
           have hfz34_2 := blk_frozen BK153.out 2
           have hfz34_3 := blk_frozen BK153.out 3
           have hfz34_4 := blk_frozen BK153.out 4
           go_wp2
           go_ret
           exact ⟨by first|rfl|(simp [errW_none, errW_some] <;> rfl)|(simp [*, errW_none, errW_some] <;> rfl), by repeat (first|(with_reducible first|exact HB.out|apply below_alloc|apply pw_below_drewN|apply below_drew1|refine below_set ?_ GE153.out)|exact HB.out)⟩
         ·rw [if_neg c31] at H
          have c31b0 : decide (0 ≤ a0_2) = false := decide_eq_false c31
          clear c31
          obtain rfl := Option.some.inj H
          have hcz35_0 : wc.cell? ⟨gb153, 0, none⟩ = some (.int .i64 a0_0) := (blk_cell BK153.out 0).trans rfl
          have hcz35_1 : wc.cell? ⟨gb153, 1, none⟩ = some (.string a0_1) := (blk_cell BK153.out 1).trans rfl
          have hcz35_2 : wc.cell? ⟨gb153, 2, none⟩ = some (.int .i64 a0_2) := (blk_cell BK153.out 2).trans rfl
          have hcz35_3 : wc.cell? ⟨gb153, 3, none⟩ = some (.int .i64 a0_3) := (blk_cell BK153.out 3).trans rfl
          have hcz35_4 : wc.cell? ⟨gb153, 4, none⟩ = some (.slice A0_4 l0_4.length c0_4) := (blk_cell BK153.out 4).trans rfl
          have hfz35_0 := blk_frozen BK153.out 0
          have hfz35_1 := blk_frozen BK153.out 1
          have hfz35_2 := blk_frozen BK153.out 2
          have hfz35_3 := blk_frozen BK153.out 3
          have hfz35_4 := blk_frozen BK153.out 4
          go_wp2
          go_ret
          exact ⟨by first|rfl|(simp [errW_none, errW_some] <;> rfl)|(simp [*, errW_none, errW_some] <;> rfl), by repeat (first|(with_reducible first|exact HB.out|apply below_alloc|apply pw_below_drewN|apply below_drew1|refine below_set ?_ GE153.out)|exact HB.out)⟩
        ·rw [if_neg c30] at H
         have c30b0 : (a0_0 == 8) = false := beq_eq_false_iff_ne.mpr c30
         have c30b1 : (a0_0 != 8) = true := bne_iff_ne.mpr c30
         by_cases c36 : a0_0 = 9
         ·rw [if_pos c36] at H
          have c36b0 : (a0_0 == 9) = true := beq_iff_eq.mpr c36
          have c36b1 : (a0_0 != 9) = false := bne_eq_false_iff_eq.mpr c36
          clear c36
          by_cases c37 : (l0_4.length : Int) = 0
          ·rw [if_pos c37] at H
           have c37b0 : ((l0_4.length : Int) == 0) = true := beq_iff_eq.mpr c37
           have c37b1 : ((l0_4.length : Int) != 0) = false := bne_eq_false_iff_eq.mpr c37
           clear c37
           by_cases c38 : a0_2 ≥ 0
           ·rw [if_pos c38] at H
            have c38b0 : decide (0 ≤ a0_2) = true := decide_eq_true c38
            clear c38
            obtain rfl := Option.some.inj H
            have hcz39_0 : wc.cell? ⟨gb153, 0, none⟩ = some (.int .i64 a0_0) := (blk_cell BK153.out 0).trans rfl
            have hcz39_1 : wc.cell? ⟨gb153, 1, none⟩ = some (.string a0_1) := (blk_cell BK153.out 1).trans rfl
            have hcz39_2 : wc.cell? ⟨gb153, 2, none⟩ = some (.int .i64 a0_2) := (blk_cell BK153.out 2).trans rfl
            have hcz39_3 : wc.cell? ⟨gb153, 3, none⟩ = some (.int .i64 a0_3) := (blk_cell BK153.out 3).trans rfl
            have hcz39_4 : wc.cell? ⟨gb153, 4, none⟩ = some (.slice A0_4 l0_4.length c0_4) := (blk_cell BK153.out 4).trans rfl
            have hfz39_0 := blk_frozen BK153.out 0
            have hfz39_1 := blk_frozen BK153.out 1
            have hfz39_2 := blk_frozen BK153.out 2
            have hfz39_3 := blk_frozen BK153.out 3
            have hfz39_4 := blk_frozen BK153.out 4
            go_wp2
            go_ret
            exact ⟨by first|rfl|(simp [errW_none, errW_some] <;> rfl)|(simp [*, errW_none, errW_some] <;> rfl), by repeat (first|(with_reducible first|exact HB.out|apply below_alloc|apply pw_below_drewN|apply below_drew1|refine below_set ?_ GE153.out)|exact HB.out)⟩
           ·rw [if_neg c38] at H
            have c38b0 : decide (0 ≤ a0_2) = false := decide_eq_false c38
            clear c38
            obtain rfl := Option.some.inj H
            have hcz40_0 : wc.cell? ⟨gb153, 0, none⟩ = some (.int .i64 a0_0) := (blk_cell BK153.out 0).trans rfl
            have hcz40_1 : wc.cell? ⟨gb153, 1, none⟩ = some (.string a0_1) := (blk_cell BK153.out 1).trans rfl
            have hcz40_2 : wc.cell? ⟨gb153, 2, none⟩ = some (.int .i64 a0_2) := (blk_cell BK153.out 2).trans rfl
            have hcz40_3 : wc.cell? ⟨gb153, 3, none⟩ = some (.int .i64 a0_3) := (blk_cell BK153.out 3).trans rfl
            have hcz40_4 : wc.cell? ⟨gb153, 4, none⟩ = some (.slice A0_4 l0_4.length c0_4) := (blk_cell BK153.out 4).trans rfl
            have hfz40_0 := blk_frozen BK153.out 0
            have hfz40_1 := blk_frozen BK153.out 1
            have hfz40_2 := blk_frozen BK153.out 2
            have hfz40_3 := blk_frozen BK153.out 3
            have hfz40_4 := blk_frozen BK153.out 4
            go_wp2
            go_ret
            exact ⟨by first|rfl|(simp [errW_none, errW_some] <;> rfl)|(simp [*, errW_none, errW_some] <;> rfl), by repeat (first|(with_reducible first|exact HB.out|apply below_alloc|apply pw_below_drewN|apply below_drew1|refine below_set ?_ GE153.out)|exact HB.out)⟩
          ·rw [if_neg c37] at H
           have c37b0 : ((l0_4.length : Int) == 0) = false := beq_eq_false_iff_ne.mpr c37
           have c37b1 : ((l0_4.length : Int) != 0) = true := bne_iff_ne.mpr c37
           have c37b2 : ¬ (l0_4 = []) := fun h_ => c37 (by rw [h_]; rfl)
           obtain rfl := Option.some.inj H
           go_wp2
           go_ret
           exact ⟨by first|rfl|(simp [errW_none, errW_some] <;> rfl)|(simp [*, errW_none, errW_some] <;> rfl), by repeat (first|(with_reducible first|exact HB.out|apply below_alloc|apply pw_below_drewN|apply below_drew1|refine below_set ?_ GE153.out)|exact HB.out)⟩
         ·rw [if_neg c36] at H
          have c36b0 : (a0_0 == 9) = false := beq_eq_false_iff_ne.mpr c36
          have c36b1 : (a0_0 != 9) = true := bne_iff_ne.mpr c36
          obtain rfl := Option.some.inj H
          go_wp2
          go_ret
          exact ⟨by first|rfl|(simp [errW_none, errW_some] <;> rfl)|(simp [*, errW_none, errW_some] <;> rfl), by repeat (first|(with_reducible first|exact HB.out|apply below_alloc|apply pw_below_drewN|apply below_drew1|refine below_set ?_ GE153.out)|exact HB.out)⟩

end Go.Proofs.YthdkjfhpbigdpaaGreatDoor.Q
