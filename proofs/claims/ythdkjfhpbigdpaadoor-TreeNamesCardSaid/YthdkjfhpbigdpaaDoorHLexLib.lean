/- Plain Lean: what the library's functions say (the shelf's own words), in the words of HLex. -/
import Derived.Test.YthdkjfhpbigdpaaDoorHLex
import Derived.Shelf.GgClosure.StringsIndexFunc
import Derived.Laws.RangeString
import Derived.Laws.RangeAny
import Derived.Lib.Atoi
import Derived.Lib.SlTrimSet
namespace Go.Proofs.YthdkjfhpbigdpaaDoor.HLex
open Go

theorem drop_cons_get (s : ByteArray) (i : Nat) (h : i < s.size) : s.data.toList.drop i = s[i] :: s.data.toList.drop (i + 1) := by
  have h' : i < s.data.toList.length := by simpa using h
  rw [List.drop_eq_getElem_cons h']
  rfl

theorem idxFrom (p : Nat → Bool) (q : UInt8 → Bool) (h1 : ∀ c : UInt8, c.toNat < 128 → p c.toNat = q c) (h2 : ∀ c : UInt8, 128 ≤ c.toNat → q c = true) (h3 : ∀ r, 128 ≤ r → p r = true) (s : ByteArray) :
    ∀ (f pos : Nat), pos ≤ s.size → s.size - pos ≤ f →
      Lib.idxFuncFrom p true s f pos = if pos + ((s.data.toList.drop pos).takeWhile (fun c => !q c)).length < s.size then ((pos + ((s.data.toList.drop pos).takeWhile (fun c => !q c)).length : Nat) : Int) else -1 := by
  intro f
  induction f with
  | zero =>
    intro pos hp hf
    have : pos = s.size := by omega
    rw [if_neg (by omega)]
    rfl
  | succ f ih =>
    intro pos hp hf
    unfold Lib.idxFuncFrom
    by_cases hlt : pos < s.size
    · rw [if_pos hlt, drop_cons_get s pos hlt, List.takeWhile_cons]
      by_cases ha : (s[pos]).toNat < 128
      · rw [decode_ascii s pos hlt ha, h1 _ ha]
        by_cases hq : q s[pos] = true
        · rw [if_pos hq, hq]; simp [hlt]
        · have hq' : q s[pos] = false := by simpa using hq
          rw [if_neg hq, hq', ih (pos + 1) (by omega) (by omega)]
          simp only [Bool.not_false, if_true, List.length_cons]
          rw [show pos + 1 + (List.takeWhile (fun c => !q c) (List.drop (pos + 1) s.data.toList)).length = pos + ((List.takeWhile (fun c => !q c) (List.drop (pos + 1) s.data.toList)).length + 1) from by omega]
      · have hd := decode_high s pos hlt (by omega)
        rw [h3 _ hd.1, if_pos rfl, h2 _ (by omega)]
        simp [hlt]
    · rw [if_neg hlt]
      have : pos = s.size := by omega
      rw [if_neg (by omega)]

theorem takeWhile_len_le (q : UInt8 → Bool) (l : List UInt8) : (l.takeWhile q).length ≤ l.length := by
  induction l with
  | nil => simp
  | cons a t ih => rw [List.takeWhile_cons]; split <;> simp <;> omega

theorem takeWhile_take (q : UInt8 → Bool) (l : List UInt8) : l.take (l.takeWhile q).length = l.takeWhile q := by
  induction l with
  | nil => simp
  | cons a t ih => rw [List.takeWhile_cons]; split <;> simp [ih]

theorem takeWhile_all {q : UInt8 → Bool} {l : List UInt8} (h : (l.takeWhile q).length = l.length) : l.takeWhile q = l := by
  have := takeWhile_take q l
  rw [h, List.take_length] at this
  exact this.symm

/-- strings.IndexFunc of lex.first: the run of letters and digits. -/
def pRun (r : Nat) : Bool := decide (127 < r) || !(decide (97 ≤ r) && decide (r ≤ 122) || decide (65 ≤ r) && decide (r ≤ 90) || decide (48 ≤ r) && decide (r ≤ 57))
theorem idx_run (s : ByteArray) : Lib.idxFunc pRun true s = if (s.data.toList.takeWhile wordly).length < s.size then ((s.data.toList.takeWhile wordly).length : Int) else -1 := by
  have h := idxFrom pRun (fun c => !wordly c) ?_ ?_ ?_ s s.size 0 (Nat.zero_le _) (by omega)
  · unfold Lib.idxFunc
    simpa using h
  · intro c hc
    unfold pRun wordly lower upper digit
    have : decide (127 < c.toNat) = false := by simp; omega
    rw [this]; simp
  · intro c hc
    unfold wordly lower upper digit
    have e1 : decide (c.toNat ≤ 122) = false := by simp; omega
    have e2 : decide (c.toNat ≤ 90) = false := by simp; omega
    have e3 : decide (c.toNat ≤ 57) = false := by simp; omega
    simp [e1, e2, e3]
  · intro r hr
    unfold pRun
    have : decide (127 < r) = true := by simp; omega
    simp [this]

/-- strings.ContainsFunc of lex.named: a byte above '9'. -/
def pBig (r : Nat) : Bool := decide (57 < r)
theorem takeWhile_any (q : UInt8 → Bool) (l : List UInt8) : (l.takeWhile (fun c => !q c)).length < l.length ↔ l.any q = true := by
  induction l with
  | nil => simp
  | cons a t ih =>
    rw [List.takeWhile_cons, List.any_cons]
    cases h : q a <;> simp [ih]
theorem idx_big (s : ByteArray) : decide (0 ≤ Lib.idxFunc pBig true s) = s.data.toList.any (fun c => decide (57 < c.toNat)) := by
  have h := idxFrom pBig (fun c => decide (57 < c.toNat)) (fun _ _ => rfl) (fun c hc => decide_eq_true (by omega)) (fun r hr => decide_eq_true (by omega)) s s.size 0 (Nat.zero_le _) (by omega)
  have e : Lib.idxFunc pBig true s = _ := h
  rw [e]
  have ha := takeWhile_any (fun c => decide (57 < c.toNat)) s.data.toList
  have hs : s.data.toList.length = s.size := Array.length_toList
  simp only [List.drop_zero, Nat.zero_add]
  by_cases hb : s.data.toList.any (fun c => decide (57 < c.toNat)) = true
  · rw [if_pos (by rw [← hs]; exact ha.2 hb), hb]; exact decide_eq_true (Int.natCast_nonneg _)
  · rw [if_neg (by rw [← hs]; exact fun z => hb (ha.1 z))]
    have : s.data.toList.any (fun c => decide (57 < c.toNat)) = false := by simpa using hb
    rw [this]; simp

/-- strings.TrimLeft at the blanks. -/
theorem trim_blank (l : List UInt8) : Lib.trimLeftS l [32, 10, 9] = l.dropWhile blank := by
  unfold Lib.trimLeftS
  congr 1
  funext c
  unfold blank
  rw [List.contains_cons, List.contains_cons, List.contains_cons, List.contains_nil, Bool.or_false, Bool.or_assoc]

theorem decFrom_num (l : List UInt8) : ∀ acc, (∀ c ∈ l, digit c = true) → Lib.decFrom acc l = some (l.foldl (fun n c => 10 * n + (c.toNat - 48)) acc) := by
  induction l with
  | nil => intro acc _; rfl
  | cons a t ih =>
    intro acc h
    have ha := h a (List.mem_cons_self ..)
    unfold digit at ha
    simp at ha
    unfold Lib.decFrom Lib.digitVal
    rw [if_pos ⟨ha.1, ha.2⟩]
    simp only [List.foldl_cons]
    rw [ih _ (fun c hc => h c (List.mem_cons_of_mem _ hc)), Nat.mul_comm]

/-- strconv.Atoi of digits. -/
theorem atoi_num (l : List UInt8) (hne : l ≠ []) (h : ∀ c ∈ l, digit c = true) : Lib.atoi l = some (num l : Int) := by
  cases l with
  | nil => exact absurd rfl hne
  | cons a t =>
    have ha := h a (List.mem_cons_self ..)
    unfold digit at ha
    simp at ha
    unfold Lib.atoi
    have e1 : (a == 45) = false := by
      apply beq_eq_false_iff_ne.2; rintro rfl; simp at ha
    have e2 : (a == 43) = false := by
      apply beq_eq_false_iff_ne.2; rintro rfl; simp at ha
    simp only [e1, e2, Bool.false_eq_true, if_false, Lib.decNat, List.isEmpty_cons]
    rw [decFrom_num _ 0 h]
    rfl

theorem first_prefix {l t : List UInt8} {k n : Nat} (h : first l = .ok (k, t, n)) : t <+: l ∧ t ≠ [] := by
  unfold first at h
  simp only at h
  split at h
  · split at h
    · rename_i s hs
      injection h with h
      injection h with h1 h2
      injection h2 with h2 h3
      subst h2
      refine ⟨by have := List.find?_some hs; simpa using this, ?_⟩
      have hm := List.mem_of_find?_eq_some hs
      rintro rfl
      exact absurd hm (by decide)
    · cases h
  · rename_i hne
    split at h
    · injection h with h
      injection h with h1 h2
      injection h2 with h2 h3
      subst h2
      exact ⟨List.takeWhile_prefix _, hne⟩
    · cases h

end Go.Proofs.YthdkjfhpbigdpaaDoor.HLex
