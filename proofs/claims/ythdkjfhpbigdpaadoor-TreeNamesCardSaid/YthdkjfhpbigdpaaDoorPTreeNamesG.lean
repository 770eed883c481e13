-- Written for this claim: several texts in one.
import Derived.Test.YthdkjfhpbigdpaaDoorQx8
import Derived.Test.YthdkjfhpbigdpaaDoorHTree
import Derived.Test.YthdkjfhpbigdpaaDoorHLexLaw
import Derived.Test.YthdkjfhpbigdpaaDoorHLexAll
import Derived.Test.YthdkjfhpbigdpaaDoorQx28
import Derived.Test.YthdkjfhpbigdpaaDoorQx29
import Derived.Test.YthdkjfhpbigdpaaDoorQx30
import Derived.Test.YthdkjfhpbigdpaaDoorQx31
import Derived.Test.YthdkjfhpbigdpaaDoorQx32
import Derived.Test.YthdkjfhpbigdpaaDoorHLexNum
import Derived.Test.YthdkjfhpbigdpaaDoorHLexKind
import Derived.Deep.RegionWith
import Derived.Test.YthdkjfhpbigdpaaDoorQx5
import Derived.Test.YthdkjfhpbigdpaaDoorQx4
import Derived.Test.YthdkjfhpbigdpaaDoorPTreeFix
import Derived.Test.YthdkjfhpbigdpaaDoorRows
import Derived.Lib.LaidTab
import Derived.Lib.ItoaNum
import Derived.LaidLaws
import Derived.LaidMore
import Derived.Stop.Joined
import Derived.Stop.LaidErr
import Derived.Lay
import Derived.Shelf.Strings.Fields
-- Written for this claim.
namespace Go.Proofs.YthdkjfhpbigdpaaDoor.Pure
open Go.Proofs.YthdkjfhpbigdpaaDoor
open HLex
/-! Plain Lean: what a token by itself is (for TreeNames). -/
namespace TreeNa
theorem nb {r t : List UInt8} {k n : Nat} (h : first r = .ok (k, t, n)) (c : UInt8) (r' : List UInt8) (he : r = c :: r') : HLex.blank c = false := by
  cases hc : HLex.blank c with
  | false => rfl
  | true =>
    exfalso
    have hn := blank_not hc
    have hp := first_pre h
    cases first_is h with
    | word h1 h2 =>
      apply h1
      rw [he, List.takeWhile_cons, if_neg (by rw [hn.1]; simp)]
    | sign h1 h2 =>
      cases t with
      | nil => exact hp.2 rfl
      | cons d t' =>
        have h3 := hp.1
        rw [he, List.cons_prefix_cons] at h3
        exact hn.2 _ (List.mem_of_find?_eq_some h2) (by rw [h3.1]; exact List.mem_cons_self ..)
theorem tok_to {L : List UInt8} {k n : Nat} (h : first L = .ok (k, L, n)) : ∃ p, lex L = .ok [⟨k, L, n, p⟩] := by
  have hp := first_pre h
  have hb : L.dropWhile HLex.blank = L := by
    cases L with
    | nil => exact absurd rfl hp.2
    | cons c r => exact dw_self (nb h c r rfl)
  have h1 : first (L.dropWhile HLex.blank) = .ok (k, L, n) := by rw [hb]; exact h
  refine ⟨0 + (L.length - L.length), ?_⟩
  rw [lex_lexs, lexs_tok 0 (by rw [hb]; exact hp.2) h1, hb, List.drop_length, lexs_nil _ rfl]
  rfl
theorem tok_from {L : List UInt8} {t : Tok} (h : lex L = .ok [t]) (ht : t.text = L) : first L = .ok (t.kind, L, t.n) := by
  rw [lex_lexs] at h
  by_cases hd : L.dropWhile HLex.blank = []
  · rw [lexs_nil _ hd] at h; cases h
  · cases hf : first (L.dropWhile HLex.blank) with
    | error e => rw [lexs_err 0 hd hf] at h; cases h
    | ok x =>
      obtain ⟨k, tx, n⟩ := x
      rw [lexs_tok 0 hd hf] at h
      cases hr : lexs (0 + (L.length - (L.dropWhile HLex.blank).length) + tx.length) ((L.dropWhile HLex.blank).drop tx.length) with
      | error e => rw [hr] at h; cases h
      | ok us =>
        rw [hr] at h
        simp only [more, Except.ok.injEq, List.cons.injEq] at h
        obtain ⟨h1, _⟩ := h
        rw [← h1] at ht ⊢
        simp only at ht ⊢
        have hp := first_pre hf
        rw [ht] at hf hp
        have hl := hp.1.length_le
        have hs : L.dropWhile HLex.blank <:+ L := List.dropWhile_suffix _
        have he : L.dropWhile HLex.blank = L := hs.eq_of_length (by have := hs.length_le; omega)
        rw [he] at hf
        exact hf
/-- A token by itself, a blank behind it. -/
theorem token_is (s : ByteArray) (k : Nat) : HTree.token s k = (match first (s.data.toList ++ [32]) with | .ok (k', t, _) => decide (k' = k) && decide (t = s.data.toList) | .error _ => false) := by
  rw [first_app (c := 32) rfl s.data.toList []]
  unfold HTree.token
  cases hf : first s.data.toList with
  | error e =>
    cases hl : lex s.data.toList with
    | error x => rfl
    | ok ts =>
      match ts, hl with
      | [], _ => rfl
      | [t], hl =>
        by_cases ht : t.text = s.data.toList
        · rw [tok_from hl ht] at hf; cases hf
        · simp [ht]
      | t :: u :: r, _ => rfl
  | ok x =>
    obtain ⟨k', t, n⟩ := x
    by_cases ht : t = s.data.toList
    · subst ht
      obtain ⟨p, hp⟩ := tok_to hf
      rw [hp]
    · have hno : ∀ u, lex s.data.toList = .ok [u] → u.text ≠ s.data.toList := by
        intro u hu hx
        rw [tok_from hu hx] at hf
        simp only [Except.ok.injEq, Prod.mk.injEq] at hf
        exact ht hf.2.1.symm
      cases hl : lex s.data.toList with
      | error x => simp [ht]
      | ok ts =>
        match ts, hl with
        | [], _ => simp [ht]
        | [u], hl => simp [ht, hno u hl]
        | t :: u :: r, _ => simp [ht]
end TreeNa
end Go.Proofs.YthdkjfhpbigdpaaDoor.Pure

-- Written for this claim.
namespace Go.Proofs.YthdkjfhpbigdpaaDoor.Pure
open Go Go.RowKit Go.Proofs.YthdkjfhpbigdpaaDoor.Q Go.Proofs.YthdkjfhpbigdpaaDoorW.PrintWords Go.Proofs.YthdkjfhpbigdpaaDoorW.PrintLast Go.Proofs.YthdkjfhpbigdpaaDoorW.PrintMore
open HLexC (toS)
open HLex (Tok Stands)
theorem wrap_small {n : Int} (h0 : -9223372036854775808 ≤ n) (h1 : n < 9223372036854775808) : wrap64 n = n := by
  unfold wrap64; omega
namespace More
theorem all_ok {a : ByteArray} {ts : List Tok} (h : a.size ≤ 1000000) (e : HLex.lex a.data.toList = .ok ts) : lex_All.f a = some (ts.map toS, 0, 0) := by
  unfold lex_All.f; rw [if_pos (Nat.le_trans h (by decide)), e]
theorem all_err {a : ByteArray} {p er : Nat} (h : a.size ≤ 1000000) (e : HLex.lex a.data.toList = .error (p, er)) : lex_All.f a = some ([], (p : Int), (er : Int)) := by
  unfold lex_All.f; rw [if_pos (Nat.le_trans h (by decide)), e]
theorem rd_tok (ts : List Tok) (i : Nat) (h : i < ts.length) : rd_T33 (ts.map toS) i = toS ts[i] := by
  unfold rd_T33; simp [List.getD, h]
theorem toks_len : ∀ (s : List UInt8) (us : List Tok) (x : Nat), Stands s x us → x + us.length ≤ s.length
  | s, [], x, st => by simpa using st.1
  | s, t :: us, x, st => by
    obtain ⟨s1, s2, s3, s4, s5, s6⟩ := st
    have := toks_len s us _ s6
    have : 0 < t.text.length := List.length_pos_iff.2 s3
    simp; omega
theorem toks_pos : ∀ (s : List UInt8) (us : List Tok) (x : Nat), Stands s x us → ∀ t ∈ us, t.pos + t.text.length ≤ s.length
  | s, [], x, st => by simp
  | s, t :: us, x, st => by
    obtain ⟨s1, s2, s3, s4, s5, s6⟩ := st
    intro u hu
    rcases List.mem_cons.1 hu with rfl | hu
    · exact s2
    · exact toks_pos s us _ s6 u hu
theorem lex_stands {s : List UInt8} {ts : List Tok} (h : HLex.lex s = .ok ts) : Stands s 0 ts := HLex.stands s s 0 ts (by simp) (by omega) h
theorem size_len (a : ByteArray) : a.data.toList.length = a.size := by simp
theorem err_is {s : List UInt8} {p e : Nat} (h : HLex.lex s = .error (p, e)) : p < s.length ∧ (e = 10 ∨ e = 11) := by
  obtain ⟨_, c2, c3, _⟩ := HLex.lexs_cut _ _ _ _ h
  exact ⟨by omega, c3⟩
/-- A token further on. -/
def later (d : Nat) (t : Tok) : Tok := { t with pos := t.pos + d }
theorem shift_ok (d : Nat) (ts : List Tok) : HLex.shift d (.ok ts) = .ok (ts.map (later d)) := rfl
end More
end Go.Proofs.YthdkjfhpbigdpaaDoor.Pure

-- Written for this claim.
namespace Go.Proofs.YthdkjfhpbigdpaaDoor.Pure
open Go Go.RowKit Go.Proofs.YthdkjfhpbigdpaaDoor.Q Go.Proofs.YthdkjfhpbigdpaaDoorW.PrintWords Go.Proofs.YthdkjfhpbigdpaaDoorW.PrintLast Go.Proofs.YthdkjfhpbigdpaaDoorW.PrintMore
open HLexC (toS)
open HLex (Tok Stands lower upper digit wordly num signs)
open More
namespace Refs
/-- A byte's class. -/
def cl (c : UInt8) : Int := if lower c then 1 else if upper c then 2 else if digit c then 3 else if HLex.blank c then 4 else 0
theorem blank_nat (c : UInt8) : HLex.blank c = (decide (c.toNat = 32) || decide (c.toNat = 10) || decide (c.toNat = 9)) := by
  unfold HLex.blank
  have e : ∀ d : UInt8, (c == d) = decide (c.toNat = d.toNat) := fun d => by
    by_cases h : c = d
    · subst h; simp
    · have h' : ¬ c.toNat = d.toNat := fun he => h (UInt8.toNat_inj.1 he)
      simp [h, h']
  rw [e, e, e]; rfl
theorem class_is (c : UInt8) (k : Nat) : gossamerref01_class.f (k + 3) (c.toNat : Int) = some (cl c) := by
  unfold gossamerref01_class.f gossamerref01_class.j0 gossamerref01_class.j1 gossamerref01_class.j2 cl
  rw [blank_nat]
  simp only [lower, upper, digit]
  by_cases h1 : 97 ≤ c.toNat <;> by_cases h2 : c.toNat ≤ 122 <;> by_cases h3 : 65 ≤ c.toNat <;> by_cases h4 : c.toNat ≤ 90 <;> by_cases h5 : 48 ≤ c.toNat <;> by_cases h6 : c.toNat ≤ 57 <;> first
    | omega
    | (have e1 : ((c.toNat : Int) ≥ 97) ↔ (97 ≤ c.toNat) := by omega
       have e2 : ((c.toNat : Int) ≤ 122) ↔ (c.toNat ≤ 122) := by omega
       have e3 : ((c.toNat : Int) ≥ 65) ↔ (65 ≤ c.toNat) := by omega
       have e4 : ((c.toNat : Int) ≤ 90) ↔ (c.toNat ≤ 90) := by omega
       have e5 : ((c.toNat : Int) ≥ 48) ↔ (48 ≤ c.toNat) := by omega
       have e6 : ((c.toNat : Int) ≤ 57) ↔ (c.toNat ≤ 57) := by omega
       have e7 : ((c.toNat : Int) = 32) ↔ (c.toNat = 32) := by omega
       have e8 : ((c.toNat : Int) = 10) ↔ (c.toNat = 10) := by omega
       have e9 : ((c.toNat : Int) = 9) ↔ (c.toNat = 9) := by omega
       simp only [e1, e2, e3, e4, e5, e6, e7, e8, e9, h1, h2, h3, h4, h5, h6, decide_true, decide_false, Bool.and_true, Bool.and_false, Bool.true_and, Bool.false_and, if_true, if_false, Bool.false_eq_true]
       try (by_cases h7 : c.toNat = 32 <;> by_cases h8 : c.toNat = 10 <;> by_cases h9 : c.toNat = 9 <;> simp [h7, h8, h9]))
def letter (c : UInt8) : Bool := decide (57 < c.toNat)
theorem cl_wordly (c : UInt8) : (1 ≤ cl c ∧ cl c ≤ 3) ↔ wordly c = true := by
  unfold cl wordly
  cases h1 : lower c <;> cases h2 : upper c <;> cases h3 : digit c <;> cases h4 : HLex.blank c <;> simp
theorem cl_letter (c : UInt8) (h : wordly c = true) : decide (cl c < 3) = letter c := by
  unfold cl letter
  simp only [wordly, lower, upper, digit, Bool.or_eq_true, Bool.and_eq_true, decide_eq_true_eq] at h ⊢
  by_cases h1 : 97 ≤ c.toNat ∧ c.toNat ≤ 122
  · simp [h1]; omega
  · by_cases h2 : 65 ≤ c.toNat ∧ c.toNat ≤ 90
    · simp [h1, h2]; omega
    · have h3 : 48 ≤ c.toNat ∧ c.toNat ≤ 57 := by rcases h with (h | h) | h <;> first | exact absurd h h1 | exact absurd h h2 | exact h
      simp [h1, h2, h3]
theorem bt_nat (a : ByteArray) (i : Nat) (c : UInt8) (h : a.data.toList[i]? = some c) : bt a (i : Int) = (c.toNat : Int) := by
  obtain ⟨hi, hc⟩ := List.getElem?_eq_some_iff.1 h
  unfold bt
  have h' : i < a.size := by simpa using hi
  simp [h', ← hc]
  rfl
theorem run_from (s : ByteArray) (at_ : Nat) (hs : s.size ≤ 1000000) : ∀ (l : List UInt8) (n : Nat) (b : Bool) (k : Nat), s.data.toList.drop (at_ + n) = l → at_ + n ≤ s.size → l.length + 4 ≤ k →
    gossamerref01_run.l0 k s at_ n b = some (((n + (l.takeWhile wordly).length : Nat) : Int), b || (l.takeWhile wordly).any letter)
  | l, n, b, 0, _, _, hk => by omega
  | [], n, b, k + 1, h, hle, _ => by
    have hl : s.data.toList.length ≤ at_ + n := List.drop_eq_nil_iff.1 h
    rw [size_len] at hl
    unfold gossamerref01_run.l0
    rw [wrap_small (by omega) (by omega), if_neg (by omega)]
    simp
  | c :: r, n, b, k + 1, h, hle, hk => by
    have hlen : at_ + n < s.data.toList.length := by
      have := congrArg List.length h
      rw [List.length_drop, List.length_cons] at this; omega
    have hc : s.data.toList[at_ + n]? = some c := by
      have := congrArg (fun l => l[0]?) h
      simpa using this
    rw [size_len] at hlen
    obtain ⟨k, rfl⟩ : ∃ j, k = j + 3 := ⟨k - 3, by simp at hk; omega⟩
    unfold gossamerref01_run.l0
    have hw : wrap64 ((at_ : Int) + (n : Int)) = ((at_ + n : Nat) : Int) := by rw [wrap_small (by omega) (by omega)]; omega
    rw [hw, if_pos (by omega), if_pos (by omega), bt_nat s _ c hc, class_is, Option.bind_some]
    by_cases hwc : wordly c = true
    · obtain ⟨h1, h3⟩ := (cl_wordly c).2 hwc
      rw [if_neg (by omega), if_neg (by omega), wrap_small (n := (n : Int) + 1) (by omega) (by omega)]
      have hr : s.data.toList.drop (at_ + (n + 1)) = r := by
        rw [← Nat.add_assoc, ← List.drop_drop, h]; rfl
      have ih := fun b' => run_from s at_ hs r (n + 1) b' (k + 3) hr (by omega) (by simp at hk; omega)
      have e1 : ((n : Int) + 1) = ((n + 1 : Nat) : Int) := by omega
      rw [e1, cl_letter c hwc]
      have e2 : (n + 1 + (List.takeWhile wordly r).length : Nat) = n + (List.takeWhile wordly (c :: r)).length := by simp [List.takeWhile, hwc]; omega
      cases b
      · rw [if_neg (by simp), ih, e2]
        simp [List.takeWhile, hwc]
      · rw [if_pos rfl, ih, e2]
        simp
    · have hwc' : wordly c = false := by simpa using hwc
      have hout : cl c < 1 ∨ cl c > 3 := by
        have := mt (cl_wordly c).1 hwc
        omega
      rcases hout with h1 | h3
      · rw [if_pos h1]; simp [List.takeWhile, hwc']
      · rw [if_neg (by omega), if_pos h3]; simp [List.takeWhile, hwc']
theorem run_is (s : ByteArray) (at_ : Nat) (hs : s.size ≤ 1000000) (hat : at_ ≤ s.size) : gossamerref01_run.f (s.size + 4) s at_ = some ((((s.data.toList.drop at_).takeWhile wordly).length : Int), ((s.data.toList.drop at_).takeWhile wordly).any letter) := by
  unfold gossamerref01_run.f
  have := run_from s at_ hs (s.data.toList.drop at_) 0 false (s.size + 4) rfl hat (by rw [List.length_drop, size_len]; omega)
  simpa using this
theorem num_from (t : ByteArray) (ht : t.size ≤ 18) (hd : ∀ d ∈ t.data.toList, digit d = true) : ∀ (m j k : Nat), j + m = t.size → m < k → gossamerref01_number.l0 k t (num (t.data.toList.take j)) j = some (num t.data.toList : Int)
  | m, j, 0, _, hk => by omega
  | 0, j, k + 1, h, _ => by
    unfold gossamerref01_number.l0
    rw [if_neg (by omega), List.take_of_length_le (by rw [size_len]; omega)]
  | m + 1, j, k + 1, h, hk => by
    have hj : j < t.data.toList.length := by rw [size_len]; omega
    have hdj := hd _ (List.getElem_mem hj)
    simp only [digit, Bool.and_eq_true, decide_eq_true_eq] at hdj
    have hsm := HLex.num_small t.data.toList hd j (by omega) (by omega)
    unfold gossamerref01_number.l0
    rw [if_pos (by omega), if_pos (by omega), bt_nat t j _ (List.getElem?_eq_getElem hj)]
    have e1 : wrap64 ((wrap64 ((wrap64 (10 * (num (t.data.toList.take j) : Int))) + (wrap64 ((t.data.toList[j]).toNat : Int)))) - 48) = ((num (t.data.toList.take (j + 1)) : Nat) : Int) := by
      rw [HLex.num_take _ _ hj, wrap_small (n := 10 * _) (by omega) (by omega), wrap_small (n := ((t.data.toList[j]).toNat : Int)) (by omega) (by omega), wrap_small (n := _ + _) (by omega) (by omega), wrap_small (by omega) (by omega)]
      omega
    rw [e1, wrap_small (by omega) (by omega)]
    exact num_from t ht hd m (j + 1) k (by omega) (by omega)
theorem number_is (t : ByteArray) (ht : t.size ≤ 18) (hd : ∀ d ∈ t.data.toList, digit d = true) : gossamerref01_number.f 20 t = some (num t.data.toList : Int) := by
  unfold gossamerref01_number.f
  exact num_from t ht hd t.size 0 20 (by omega) (by omega)
theorem rword_is (a : ByteArray) : gossamerref01_Word.f a = some (HLex.isWord a.data.toList) := by
  unfold gossamerref01_Word.f
  rw [Lib.toList_data]
  by_cases h1 : a.data.toList = [108, 101, 116]
  · simp [h1, HLex.isWord, HLex.words]
  by_cases h2 : a.data.toList = [108, 101, 116, 114, 101, 99]
  · simp [h2, HLex.isWord, HLex.words]
  by_cases h3 : a.data.toList = [105, 110]
  · simp [h3, HLex.isWord, HLex.words]
  by_cases h4 : a.data.toList = [99, 97, 115, 101]
  · simp [h4, HLex.isWord, HLex.words]
  by_cases h5 : a.data.toList = [111, 102] <;> simp [h1, h2, h3, h4, h5, HLex.isWord, HLex.words]
def tab : List UInt8 := [92, 46, 40, 41, 61, 123, 125, 124, 43, 45, 42, 47, 60]
theorem signs_are : signs = [45, 62] :: [61, 61] :: tab.map (fun x => [x]) := rfl
theorem find_singles (c : UInt8) (r : List UInt8) : ∀ T : List UInt8, (T.map (fun x => [x])).find? (fun s => s.isPrefixOf (c :: r)) = if T.contains c then some [c] else none
  | [] => rfl
  | x :: T => by
    rw [List.map_cons, List.find?_cons]
    by_cases h : x = c
    · subst h; simp [List.isPrefixOf]
    · have h2 : ¬ c = x := fun e => h e.symm
      have e : ([x] : List UInt8).isPrefixOf (c :: r) = false := by simp [List.isPrefixOf, h]
      rw [e]
      simp only [find_singles c r T, List.contains_cons]
      simp [h2]
theorem two_pre (a b c : UInt8) (r : List UInt8) : ([a, b] : List UInt8).isPrefixOf (c :: r) = decide ((c :: r).take 2 = [a, b]) := by
  rw [Bool.eq_iff_iff, List.isPrefixOf_iff_prefix, List.prefix_iff_eq_take, decide_eq_true_iff]
  exact eq_comm
theorem find_signs (c : UInt8) (r : List UInt8) : signs.find? (fun s => s.isPrefixOf (c :: r)) = if (c :: r).take 2 = [45, 62] then some [45, 62] else if (c :: r).take 2 = [61, 61] then some [61, 61] else if tab.contains c then some [c] else none := by
  rw [signs_are, List.find?_cons, two_pre, List.find?_cons, two_pre, find_singles]
  by_cases h1 : (c :: r).take 2 = [45, 62]
  · simp only [h1, decide_true, if_true]
  · rw [if_neg h1, decide_eq_false h1]
    by_cases h2 : (c :: r).take 2 = [61, 61]
    · simp only [h2, decide_true, if_true]
    · rw [if_neg h2, decide_eq_false h2]
theorem tab_bytes : ∀ i : Nat, i < 13 → (⟨#[92, 46, 40, 41, 61, 123, 125, 124, 43, 45, 42, 47, 60]⟩ : ByteArray).data.toList[i]? = tab[i]? := fun i _ => rfl
theorem sign_loop (s : ByteArray) (at_ : Nat) (c : UInt8) (hc : s.data.toList[at_]? = some c) : ∀ (m i k : Nat), i + m = 13 → m < k → gossamerref01_sign.l0 k s at_ i = some (if (tab.drop i).contains c then 1 else 0)
  | m, i, 0, _, hk => by omega
  | 0, i, k + 1, h, _ => by
    obtain rfl : i = 13 := by omega
    unfold gossamerref01_sign.l0
    rw [if_neg (by decide)]
    rfl
  | m + 1, i, k + 1, h, hk => by
    have hi : i < tab.length := by show i < 13; omega
    have hat : at_ < s.size := by have := (List.getElem?_eq_some_iff.1 hc).1; rwa [size_len] at this
    unfold gossamerref01_sign.l0
    rw [if_pos (by omega), if_pos (by omega), if_pos (by omega), if_pos (by omega), bt_nat s at_ c hc, bt_nat _ i tab[i] (by rw [tab_bytes i (by omega)]; exact List.getElem?_eq_getElem hi)]
    rw [List.drop_eq_getElem_cons hi, List.contains_cons]
    by_cases he : tab[i] = c
    · rw [if_pos (by rw [he]), he]; simp
    · have he2 : ¬ c = tab[i] := fun e => he e.symm
      have he3 : ¬ ((tab[i].toNat : Int) = (c.toNat : Int)) := fun e => he (UInt8.toNat_inj.1 (by omega))
      rw [if_neg he3, wrap_small (by omega) (by omega)]
      have ih := sign_loop s at_ c hc m (i + 1) k (by omega) (by omega)
      rw [show ((i : Int) + 1) = ((i + 1 : Nat) : Int) by omega, ih]
      simp [he2]
def signLen (l : List UInt8) : Nat := match signs.find? (fun s => s.isPrefixOf l) with | some t => t.length | none => 0
theorem extract_two (s : ByteArray) (at_ : Nat) : (s.extract at_ (at_ + 2)).data.toList = (s.data.toList.drop at_).take 2 := by
  simp [ByteArray.extract, ByteArray.copySlice]
theorem sign_is (s : ByteArray) (at_ : Nat) (c : UInt8) (r : List UInt8) (hs : s.size ≤ 1000000) (hl : s.data.toList.drop at_ = c :: r) : gossamerref01_sign.f 20 s at_ = some (signLen (c :: r) : Int) := by
  have hc : s.data.toList[at_]? = some c := by
    have := congrArg (fun l => l[0]?) hl
    simpa using this
  have hlen : at_ + (r.length + 1) = s.size := by
    have := congrArg List.length hl
    rw [List.length_drop, List.length_cons, size_len] at this; omega
  have hlp := sign_loop s at_ c hc 13 0 19 rfl (by omega)
  rw [List.drop_zero] at hlp
  unfold signLen
  rw [find_signs]
  unfold gossamerref01_sign.f
  rw [wrap_small (n := (at_ : Int) + 1) (by omega) (by omega), wrap_small (n := (at_ : Int) + 2) (by omega) (by omega)]
  have hnone : ∀ b, b = false → gossamerref01_sign.j0 20 s at_ b = some (if tab.contains c then 1 else 0) := by
    rintro b rfl
    show gossamerref01_sign.j0 (19 + 1) s at_ false = _
    rw [gossamerref01_sign.j0, if_neg (by simp)]
    exact hlp
  clear hlp
  generalize tab.contains c = q at *
  cases r with
  | nil =>
    rw [if_neg (by simp at hlen; omega), hnone _ rfl]
    simp only [List.take_succ_cons, List.take_nil]
    cases q <;> simp
  | cons d r =>
    simp only [List.length_cons] at hlen
    rw [if_pos (by omega), if_pos (by omega), if_pos (by omega), if_pos (by omega)]
    have hx : (s.extract (at_ : Int).toNat ((at_ : Int) + 2).toNat).toList = (c :: d :: r).take 2 := by
      rw [Lib.toList_data, ← hl, ← extract_two]
      have e1 : (at_ : Int).toNat = at_ := by omega
      have e2 : ((at_ : Int) + 2).toNat = at_ + 2 := by omega
      rw [e1, e2]
    rw [hx]
    by_cases h1 : (c :: d :: r).take 2 = [45, 62]
    · rw [if_pos h1, if_pos h1]; rfl
    · rw [if_neg h1, if_neg h1]
      by_cases h2 : (c :: d :: r).take 2 = [61, 61]
      · rw [if_pos h2, h2]; rfl
      · rw [if_neg h2, hnone _ (by simpa using h2)]
        cases q <;> simp
end Refs
end Go.Proofs.YthdkjfhpbigdpaaDoor.Pure

-- Written for this claim.
namespace Go.Proofs.YthdkjfhpbigdpaaDoor.Pure
open Go Go.RowKit Go.Lib Go.Proofs Go.Proofs.YthdkjfhpbigdpaaDoor.Q Go.Proofs.YthdkjfhpbigdpaaDoorW.PrintWords Go.Proofs.YthdkjfhpbigdpaaDoorW.PrintLast Go.Proofs.YthdkjfhpbigdpaaDoorW.PrintMore
open HLexC (toS)
open HLex (Tok Stands lower upper digit wordly num signs)
open More
namespace Refs
set_option linter.unusedVariables false
set_option linter.unusedSimpArgs false
def OnePost (s : ByteArray) (at_ : Nat) (w : World) (e : Ending) (w' : World) : Prop :=
  match HLex.first (s.data.toList.drop at_) with
  | .ok (k, t, n) => e = .returned (.tuple #[.agg #[.int .i64 (k : Int), .string ⟨t.toArray⟩, .int .i64 (n : Int), .int .i64 (at_ : Int)], .int .i64 0]) ∧ Below w.heap.size w w'
  | .error er => e = .returned (.tuple #[.agg #[.int .i64 0, .string ⟨#[]⟩, .int .i64 0, .int .i64 0], .int .i64 (er : Int)]) ∧ Below w.heap.size w w'
theorem extract_is (s : ByteArray) (at_ k : Nat) (t r : List UInt8) (hl : s.data.toList.drop at_ = r) (ht : r.take k = t) : s.extract at_ (at_ + k) = ⟨t.toArray⟩ := by
  refine (HLexC.bytes_eq_iff _ _).2 ?_
  have : (s.extract at_ (at_ + k)).data.toList = (s.data.toList.drop at_).take k := by simp [ByteArray.extract, ByteArray.copySlice]
  rw [this, hl, ht]
theorem below4 {B : Nat} {w w' : World} (h : Below B w w') {g : Nat} (hg : B ≤ g) (u0 u1 u2 u3 : Value) : Below B w ((((w'.setCell ⟨g, 0, none⟩ u0).setCell ⟨g, 1, none⟩ u1).setCell ⟨g, 2, none⟩ u2).setCell ⟨g, 3, none⟩ u3) :=
  (((h.setCell (p := ⟨g, 0, none⟩) hg u0).setCell (p := ⟨g, 1, none⟩) hg u1).setCell (p := ⟨g, 2, none⟩) hg u2).setCell (p := ⟨g, 3, none⟩) hg u3
def Z : Obj := Obj.cells #[Value.int .i64 0, Value.string ⟨#[]⟩, Value.int .i64 0, Value.int .i64 0] 33
set_option maxRecDepth 100000 in
theorem one_sign (s : ByteArray) (at_ : Nat) (w : World) (hs : s.size ≤ 1000000) (c : UInt8) (r : List UInt8) (hl : s.data.toList.drop at_ = c :: r) (hw : (c :: r).takeWhile wordly = []) :
    Calls Tryd.prog 16 #[.string s, .int .i64 at_] w (OnePost s at_ w) := by
  have hlen : at_ + (r.length + 1) = s.size := by
    have := congrArg List.length hl
    rw [List.length_drop, List.length_cons, size_len] at this; omega
  have hr0 := run_is s at_ hs (by omega)
  rw [hl, hw] at hr0
  have HR := Lib.hid hr0
  have hs0 := sign_is s at_ c r hs hl
  have HS := Lib.hid hs0
  have HL := Lib.hid hl
  have HW := Lib.hid hw
  clear hr0 hs0 hl hw
  have hb0 := blk_new w Z
  have hbA := below_alloc (Below.refl w.heap.size w) Z
  have BK := Lib.hid hb0; have BB := Lib.hid hbA
  clear hb0 hbA
  go_enter Tryd.func16, Tryd.ntmps16
  go_wp2_with fail
  refine (gossamerref01_run.calls (s.size + 4) s at_ _ _ _ HR.out).mono ?_
  rintro e wf ⟨rfl, hd⟩
  have n0_ := Lib.hid (blk_below BK.out hd.below)
  have n1_ := Lib.hid (below_step BB.out hd.below)
  clear BK BB hd
  have BK := n0_; have BB := n1_
  clear n0_ n1_
  go_wp2_with fail
  refine (gossamerref01_sign.calls 20 s at_ _ _ HS.out).mono ?_
  rintro e w2 ⟨rfl, hd⟩
  have n0_ := Lib.hid (blk_below BK.out hd.below)
  have n1_ := Lib.hid (below_step BB.out hd.below)
  clear BK BB hd
  have BK := n0_; have BB := n1_
  clear n0_ n1_
  cases hf : signs.find? (fun s => s.isPrefixOf (c :: r)) with
  | none =>
    have hk : signLen (c :: r) = 0 := by unfold signLen; rw [hf]
    rw [hk]
    have HF := Lib.hid hf
    clear hf hk
    have c0 := blk_cell BK.out 0; have c1 := blk_cell BK.out 1; have c2 := blk_cell BK.out 2; have c3 := blk_cell BK.out 3
    have z0 := blk_frozen BK.out 0; have z1 := blk_frozen BK.out 1; have z2 := blk_frozen BK.out 2; have z3 := blk_frozen BK.out 3
    simp only [List.getElem?_toArray, List.getElem?_cons_zero, List.getElem?_cons_succ] at c0 c1 c2 c3
    go_wp2_with fail
    refine bodyPost_ret (results_ct rfl _ _ w.heap.size 33 #[.int .i64 0, .string ⟨#[]⟩, .int .i64 0, .int .i64 0] (0, 0) _ rfl (blk_put (blk_put (blk_put (blk_put BK.out 0 _ rfl) 1 _ rfl) 2 _ rfl) 3 _ rfl) Tryd.underlying33 rfl (by kernel_rfl)) rfl ?_
    unfold OnePost
    have hfst : HLex.first (c :: r) = .error 10 := by unfold HLex.first; simp only [HW.out, if_true, HF.out]
    rw [HL.out, hfst]
    exact ⟨rfl, below4 BB.out (Nat.le_refl _) _ _ _ _⟩
  | some t =>
    have hk : signLen (c :: r) = t.length := by unfold signLen; rw [hf]
    have htm := List.mem_of_find?_eq_some hf
    have hpre : t <+: c :: r := by
      have := List.find?_some hf
      exact List.isPrefixOf_iff_prefix.1 this
    have ht0 : 0 < t.length := List.length_pos_iff.2 (HLex.sign_facts t htm).1
    have ht1 : t.length ≤ r.length + 1 := by have := hpre.length_le; rwa [List.length_cons] at this
    rw [hk]
    have HF := Lib.hid hf
    have HP := Lib.hid hpre
    clear hf hk htm hpre
    have c0 := blk_cell BK.out 0; have c1 := blk_cell BK.out 1; have c2 := blk_cell BK.out 2; have c3 := blk_cell BK.out 3
    have z0 := blk_frozen BK.out 0; have z1 := blk_frozen BK.out 1; have z2 := blk_frozen BK.out 2; have z3 := blk_frozen BK.out 3
    simp only [List.getElem?_toArray, List.getElem?_cons_zero, List.getElem?_cons_succ] at c0 c1 c2 c3
    have hx := extract_is s at_ t.length t (c :: r) HL.out (by obtain ⟨u, hu⟩ := HP.out; rw [← hu]; simp)
    have HX := Lib.hid hx
    clear hx
    have i1 : (at_ : Int) ≤ at_ + (t.length : Int) := by omega
    have i2 : (at_ : Int) + (t.length : Int) ≤ (s.size : Int) := by omega
    have i3 : ((at_ : Int) + (t.length : Int)).toNat = at_ + t.length := by omega
    go_wp2_with fail
    refine bodyPost_ret (results_ct rfl _ _ w.heap.size 33 #[.int .i64 5, .string (s.extract at_ (at_ + t.length)), .int .i64 0, .int .i64 at_] (0, 0) _ rfl (blk_put (blk_put (blk_put (blk_put BK.out 0 _ rfl) 1 _ rfl) 2 _ rfl) 3 _ rfl) Tryd.underlying33 rfl (by kernel_rfl)) rfl ?_
    unfold OnePost
    rw [HL.out, HLex.first_sign HW.out HF.out, HX.out]
    exact ⟨rfl, below4 BB.out (Nat.le_refl _) _ _ _ _⟩
set_option maxRecDepth 100000 in
theorem one_word (s : ByteArray) (at_ : Nat) (w : World) (hs : s.size ≤ 1000000) (c : UInt8) (r : List UInt8) (hl : s.data.toList.drop at_ = c :: r) (hc : wordly c = true) :
    Calls Tryd.prog 16 #[.string s, .int .i64 at_] w (OnePost s at_ w) := by
  have hlen : at_ + (r.length + 1) = s.size := by
    have := congrArg List.length hl
    rw [List.length_drop, List.length_cons, size_len] at this; omega
  obtain ⟨wd, hwd⟩ : ∃ wd, (c :: r).takeWhile wordly = wd := ⟨_, rfl⟩
  have hr0 := run_is s at_ hs (by omega)
  rw [hl, hwd] at hr0
  have hwn : 0 < wd.length := by rw [← hwd]; simp [List.takeWhile, hc]
  have hwl : wd.length ≤ r.length + 1 := by have := HLex.tw_len wordly (c :: r); rw [hwd] at this; simpa using this
  have hhd : wd.head? = some c := by rw [← hwd]; simp [List.takeWhile, hc]
  have hx : s.extract at_ (at_ + wd.length) = ⟨wd.toArray⟩ := extract_is s at_ wd.length wd (c :: r) hl (by rw [← hwd]; exact HLex.tw_eq_take _ _)
  have hcl := class_is c 1
  have hfst : HLex.first (c :: r) = match HLex.named wd with | .ok (k, n) => .ok (k, wd, n) | .error e => .error e := by
    unfold HLex.first
    have : (c :: r).takeWhile wordly ≠ [] := by rw [hwd]; exact List.length_pos_iff.1 hwn
    simp only [this, if_false]
    rw [hwd]
    rfl
  have hsc : ∀ h : at_ < s.size, s[at_]'h = c := fun h => by
    have h' : at_ < s.data.toList.length := by rw [size_len]; exact h
    have e1 : s.data.toList[at_]? = some c := by
      have := congrArg (fun l => l[0]?) hl
      simpa using this
    rw [List.getElem?_eq_getElem h'] at e1
    exact Option.some.inj e1
  have HR := Lib.hid hr0
  have HL := Lib.hid hl
  have HW := Lib.hid hwd
  have HC := Lib.hid hc
  have HCL := Lib.hid hcl
  have HX := Lib.hid hx
  have HH := Lib.hid hhd
  have HF := Lib.hid hfst
  clear hr0 hl hwd hc hcl hx hhd hfst
  have hb0 := blk_new w Z
  have hbA := below_alloc (Below.refl w.heap.size w) Z
  have BK := Lib.hid hb0; have BB := Lib.hid hbA
  clear hb0 hbA
  go_enter Tryd.func16, Tryd.ntmps16
  go_wp2_with fail
  refine (gossamerref01_run.calls (s.size + 4) s at_ _ _ _ HR.out).mono ?_
  rintro e wf ⟨rfl, hd⟩
  have n0_ := Lib.hid (blk_below BK.out hd.below)
  have n1_ := Lib.hid (below_step BB.out hd.below)
  clear BK BB hd
  have BK := n0_; have BB := n1_
  clear n0_ n1_
  have i1 : (at_ : Int) ≤ at_ + (wd.length : Int) := by omega
  have i2 : (at_ : Int) + (wd.length : Int) ≤ (s.size : Int) := by omega
  have i3 : ((at_ : Int) + (wd.length : Int)).toNat = at_ + wd.length := by omega
  -- behind the class call
  go_wp2_with fail
  have hgn := blk_lt BK.out
  have n0_ := Lib.hid (blk_alloc BK.out (Obj.cells #[Value.int .i64 0, Value.string (s.extract at_ (at_ + wd.length)), Value.int .i64 0, Value.int .i64 (at_ : Int)] 33))
  have n1_ := Lib.hid (below_alloc BB.out (Obj.cells #[Value.int .i64 0, Value.string (s.extract at_ (at_ + wd.length)), Value.int .i64 0, Value.int .i64 (at_ : Int)] 33))
  have n2_ := Lib.hid (blk_new wf (Obj.cells #[Value.int .i64 0, Value.string (s.extract at_ (at_ + wd.length)), Value.int .i64 0, Value.int .i64 (at_ : Int)] 33))
  clear BK BB
  have BK := n0_; have BB := n1_; have BT := n2_
  clear n0_ n1_ n2_
  refine (gossamerref01_class.calls 4 _ _ _ HCL.out).mono ?_
  rintro e w3 ⟨rfl, hd⟩
  have n0_ := Lib.hid (blk_below BK.out hd.below)
  have n1_ := Lib.hid (below_step BB.out hd.below)
  have n2_ := Lib.hid (blk_below BT.out hd.below)
  clear BK BB BT hd
  have BK := n0_; have BB := n1_; have BT := n2_
  clear n0_ n1_ n2_
  generalize wf.heap.size = g2 at *
  have c0 := blk_cell BK.out 0; have c1 := blk_cell BK.out 1; have c2 := blk_cell BK.out 2; have c3 := blk_cell BK.out 3
  have z0 := blk_frozen BK.out 0; have z1 := blk_frozen BK.out 1; have z2 := blk_frozen BK.out 2; have z3 := blk_frozen BK.out 3
  have d0 := blk_cell BT.out 0; have d1 := blk_cell BT.out 1; have d2 := blk_cell BT.out 2; have d3 := blk_cell BT.out 3
  have y0 := blk_frozen BT.out 0; have y1 := blk_frozen BT.out 1; have y2 := blk_frozen BT.out 2; have y3 := blk_frozen BT.out 3
  simp only [List.getElem?_toArray, List.getElem?_cons_zero, List.getElem?_cons_succ] at c0 c1 c2 c3 d0 d1 d2 d3
  have q1 : ¬ w.heap.size = g2 := by omega
  have q2 : ¬ g2 = w.heap.size := by omega
  have hwa : ∀ k n, HLex.named wd = .ok (k, n) → HLex.first (c :: r) = .ok (k, wd, n) := fun k n h => by rw [HF.out, h]
  have hwe : ∀ er, HLex.named wd = .error er → HLex.first (c :: r) = .error er := fun er h => by rw [HF.out, h]
  have HWA := Lib.hid hwa; have HWE := Lib.hid hwe
  clear hwa hwe
  by_cases hd : digit c = true
  · have e3 : cl c = 3 := by
      unfold cl; have := HLex.low_not (c := c)
      cases h1 : lower c
      · cases h2 : upper c
        · simp [hd]
        · simp only [upper, digit, Bool.and_eq_true, decide_eq_true_eq] at h2 hd; omega
      · rw [(HLex.low_not h1).2] at hd; cases hd
    have HD := Lib.hid hd
    clear hd
    rw [e3]
    clear e3
    cases ha : wd.any letter with
    | true =>
      have HA := Lib.hid ha
      clear ha
      go_wp2_with fail
      refine bodyPost_ret (results_ct rfl _ _ w.heap.size 33 #[.int .i64 0, .string ⟨#[]⟩, .int .i64 0, .int .i64 0] (0, 0) _ rfl (blk_put (blk_put (blk_put (blk_put BK.out 0 _ rfl) 1 _ rfl) 2 _ rfl) 3 _ rfl) Tryd.underlying33 rfl (by kernel_rfl)) rfl ?_
      unfold OnePost
      rw [HL.out, HWE.out 10 (by unfold HLex.named; rw [HH.out]; simp only [Option.map_some, Option.getD_some, HD.out]; exact if_pos HA.out)]
      exact ⟨rfl, below4 BB.out (Nat.le_refl _) _ _ _ _⟩
    | false =>
      have HA : Hid (wd.any (fun c => decide (57 < c.toNat)) = false) := Lib.hid ha
      clear ha
      by_cases h18 : 18 < wd.length
      · have j1 : decide ((wd.length : Int) > 18) = true := by simp; omega
        go_wp2_with fail
        refine bodyPost_ret (results_ct rfl _ _ w.heap.size 33 #[.int .i64 0, .string ⟨#[]⟩, .int .i64 0, .int .i64 0] (0, 0) _ rfl (blk_put (blk_put (blk_put (blk_put BK.out 0 _ rfl) 1 _ rfl) 2 _ rfl) 3 _ rfl) Tryd.underlying33 rfl (by kernel_rfl)) rfl ?_
        unfold OnePost
        rw [HL.out, HWE.out 11 (by unfold HLex.named; rw [HH.out]; simp only [Option.map_some, Option.getD_some, HD.out]; rw [if_pos trivial, HA.out, if_neg (by simp), if_pos (.inl h18)])]
        exact ⟨rfl, below4 BB.out (Nat.le_refl _) _ _ _ _⟩
      · have j1 : decide ((wd.length : Int) > 18) = false := by simp; omega
        by_cases h1 : 1 < wd.length
        · have j2 : decide ((wd.length : Int) > 1) = true := by simp; omega
          by_cases h0 : c.toNat = 48
          · have j3 : ((c.toNat : Int) == 48) = true := by simp; omega
            have hc48 := Lib.hid (UInt8.toNat_inj.1 h0 : c = 48)
            clear h0
            go_wp2_with fail
            refine bodyPost_ret (results_ct rfl _ _ w.heap.size 33 #[.int .i64 0, .string ⟨#[]⟩, .int .i64 0, .int .i64 0] (0, 0) _ rfl (blk_put (blk_put (blk_put (blk_put BK.out 0 _ rfl) 1 _ rfl) 2 _ rfl) 3 _ rfl) Tryd.underlying33 rfl (by kernel_rfl)) rfl ?_
            unfold OnePost
            rw [HL.out, HWE.out 11 (by unfold HLex.named; rw [HH.out]; simp only [Option.map_some, Option.getD_some, HD.out]; rw [if_pos trivial, HA.out, if_neg (by simp), if_pos (.inr ⟨h1, by rw [hc48.out]⟩)])]
            exact ⟨rfl, below4 BB.out (Nat.le_refl _) _ _ _ _⟩
          · have j3 : ((c.toNat : Int) == 48) = false := by simp; omega
            have H0 := Lib.hid h0
            clear h0
            have hall : ∀ d ∈ wd, digit d = true := by
              intro d hd
              have h1 : wordly d = true := by rw [← HW.out] at hd; exact HLex.tw_all _ _ d hd
              refine HLex.wordly_digit h1 fun h2 => ?_
              have : wd.any (fun c => decide (57 < c.toNat)) = true := List.any_eq_true.2 ⟨d, hd, by simpa using h2⟩
              rw [HA.out] at this; cases this
            have hnum := number_is (s.extract at_ (at_ + wd.length)) (by rw [HX.out]; show wd.toArray.size ≤ 18; simp; omega) (by rw [HX.out]; simpa using hall)
            rw [HX.out] at hnum
            simp only [List.toList_toArray] at hnum
            rw [← HX.out] at hnum
            have HN := Lib.hid hnum
            clear hnum hall
            go_wp2_with fail
            refine (gossamerref01_number.calls 20 _ _ _ HN.out).mono ?_
            rintro e w4 ⟨rfl, hd⟩
            have n0_ := Lib.hid (blk_below (blk_far (p := ⟨g2, 0, none⟩) BK.out q1 (.int .i64 (3))) hd.below)
            have n1_ := Lib.hid (below_step (BB.out.setCell (p := ⟨g2, 0, none⟩) (by show w.heap.size ≤ g2; omega) (.int .i64 (3))) hd.below)
            have n2_ := Lib.hid (blk_below (blk_put BT.out 0 (.int .i64 (3)) rfl) hd.below)
            clear BK BB BT hd c0 c1 c2 c3 z0 z1 z2 z3 d0 d1 d2 d3 y0 y1 y2 y3
            have BK := n0_; have BB := n1_; have BT := n2_
            clear n0_ n1_ n2_
            have c0 := blk_cell BK.out 0; have c1 := blk_cell BK.out 1; have c2 := blk_cell BK.out 2; have c3 := blk_cell BK.out 3
            have z0 := blk_frozen BK.out 0; have z1 := blk_frozen BK.out 1; have z2 := blk_frozen BK.out 2; have z3 := blk_frozen BK.out 3
            have d0 := blk_cell BT.out 0; have d1 := blk_cell BT.out 1; have d2 := blk_cell BT.out 2; have d3 := blk_cell BT.out 3
            have y0 := blk_frozen BT.out 0; have y1 := blk_frozen BT.out 1; have y2 := blk_frozen BT.out 2; have y3 := blk_frozen BT.out 3
            simp only [List.getElem?_toArray, List.getElem?_cons_zero, List.getElem?_cons_succ] at c0 c1 c2 c3
            simp at d0 d1 d2 d3
            go_wp2_with fail
            refine bodyPost_ret (results_ct rfl _ _ w.heap.size 33 #[.int .i64 3, .string (s.extract at_ (at_ + wd.length)), .int .i64 (num wd : Int), .int .i64 (at_ : Int)] (0, 0) _ rfl (blk_put (blk_put (blk_put (blk_put (blk_far (p := ⟨g2, 2, none⟩) BK.out q1 _) 0 _ rfl) 1 _ rfl) 2 _ rfl) 3 _ rfl) Tryd.underlying33 rfl (by kernel_rfl)) rfl ?_
            unfold OnePost
            rw [HL.out, HWA.out 3 (num wd) (by unfold HLex.named; rw [HH.out]; simp only [Option.map_some, Option.getD_some, HD.out]; rw [if_pos trivial, HA.out, if_neg (by simp), if_neg (by rintro (h | ⟨h, h'⟩) <;> first | exact absurd h h18 | exact absurd h h1 | exact absurd (congrArg UInt8.toNat (Option.some.inj h')) H0.out)]), HX.out]
            exact ⟨rfl, below4 (BB.out.setCell (p := ⟨g2, 2, none⟩) (by show w.heap.size ≤ g2; omega) _) (Nat.le_refl _) _ _ _ _⟩
        · have j2 : decide ((wd.length : Int) > 1) = false := by simp; omega
          have hall : ∀ d ∈ wd, digit d = true := by
            intro d hd
            have h1 : wordly d = true := by rw [← HW.out] at hd; exact HLex.tw_all _ _ d hd
            refine HLex.wordly_digit h1 fun h2 => ?_
            have : wd.any (fun c => decide (57 < c.toNat)) = true := List.any_eq_true.2 ⟨d, hd, by simpa using h2⟩
            rw [HA.out] at this; cases this
          have hnum := number_is (s.extract at_ (at_ + wd.length)) (by rw [HX.out]; show wd.toArray.size ≤ 18; simp; omega) (by rw [HX.out]; simpa using hall)
          rw [HX.out] at hnum
          simp only [List.toList_toArray] at hnum
          rw [← HX.out] at hnum
          have HN := Lib.hid hnum
          clear hnum hall
          go_wp2_with fail
          refine (gossamerref01_number.calls 20 _ _ _ HN.out).mono ?_
          rintro e w4 ⟨rfl, hd⟩
          have n0_ := Lib.hid (blk_below (blk_far (p := ⟨g2, 0, none⟩) BK.out q1 (.int .i64 (3))) hd.below)
          have n1_ := Lib.hid (below_step (BB.out.setCell (p := ⟨g2, 0, none⟩) (by show w.heap.size ≤ g2; omega) (.int .i64 (3))) hd.below)
          have n2_ := Lib.hid (blk_below (blk_put BT.out 0 (.int .i64 (3)) rfl) hd.below)
          clear BK BB BT hd c0 c1 c2 c3 z0 z1 z2 z3 d0 d1 d2 d3 y0 y1 y2 y3
          have BK := n0_; have BB := n1_; have BT := n2_
          clear n0_ n1_ n2_
          have c0 := blk_cell BK.out 0; have c1 := blk_cell BK.out 1; have c2 := blk_cell BK.out 2; have c3 := blk_cell BK.out 3
          have z0 := blk_frozen BK.out 0; have z1 := blk_frozen BK.out 1; have z2 := blk_frozen BK.out 2; have z3 := blk_frozen BK.out 3
          have d0 := blk_cell BT.out 0; have d1 := blk_cell BT.out 1; have d2 := blk_cell BT.out 2; have d3 := blk_cell BT.out 3
          have y0 := blk_frozen BT.out 0; have y1 := blk_frozen BT.out 1; have y2 := blk_frozen BT.out 2; have y3 := blk_frozen BT.out 3
          simp only [List.getElem?_toArray, List.getElem?_cons_zero, List.getElem?_cons_succ] at c0 c1 c2 c3
          simp at d0 d1 d2 d3
          go_wp2_with fail
          refine bodyPost_ret (results_ct rfl _ _ w.heap.size 33 #[.int .i64 3, .string (s.extract at_ (at_ + wd.length)), .int .i64 (num wd : Int), .int .i64 (at_ : Int)] (0, 0) _ rfl (blk_put (blk_put (blk_put (blk_put (blk_far (p := ⟨g2, 2, none⟩) BK.out q1 _) 0 _ rfl) 1 _ rfl) 2 _ rfl) 3 _ rfl) Tryd.underlying33 rfl (by kernel_rfl)) rfl ?_
          unfold OnePost
          rw [HL.out, HWA.out 3 (num wd) (by unfold HLex.named; rw [HH.out]; simp only [Option.map_some, Option.getD_some, HD.out]; rw [if_pos trivial, HA.out, if_neg (by simp), if_neg (by rintro (h | ⟨h, h'⟩) <;> first | exact absurd h h18 | exact absurd h h1 | exact absurd (congrArg UInt8.toNat (Option.some.inj h')) H0.out)]), HX.out]
          exact ⟨rfl, below4 (BB.out.setCell (p := ⟨g2, 2, none⟩) (by show w.heap.size ≤ g2; omega) _) (Nat.le_refl _) _ _ _ _⟩
  · have hd' : digit c = false := by simpa using hd
    clear hd
    obtain ⟨kc, hkc, e3⟩ : ∃ kc : Nat, kc = (if upper c then 2 else 1) ∧ cl c = (kc : Int) := by
      refine ⟨_, rfl, ?_⟩
      unfold cl
      cases h1 : lower c
      · cases h2 : upper c
        · have := HLex.wordly_low HC.out hd' h2; rw [h1] at this; cases this
        · rfl
      · rw [(HLex.low_not h1).1]; rfl
    have hk3 : kc = 1 ∨ kc = 2 := by rw [hkc]; cases upper c <;> simp
    have HD := Lib.hid hd'; have HK := Lib.hid hkc
    clear hd' hkc
    rw [e3]
    clear e3
    have j0 : ((kc : Int) == 3) = false := by simp; omega
    by_cases h16 : 16 < wd.length
    · have j1 : decide ((wd.length : Int) > 16) = true := by simp; omega
      go_wp2_with fail
      refine bodyPost_ret (results_ct rfl _ _ w.heap.size 33 #[.int .i64 0, .string ⟨#[]⟩, .int .i64 0, .int .i64 0] (0, 0) _ rfl (blk_put (blk_put (blk_put (blk_put BK.out 0 _ rfl) 1 _ rfl) 2 _ rfl) 3 _ rfl) Tryd.underlying33 rfl (by kernel_rfl)) rfl ?_
      unfold OnePost
      rw [HL.out, HWE.out 11 (by unfold HLex.named; rw [HH.out]; simp only [Option.map_some, Option.getD_some, HD.out]; rw [if_neg (by simp)]; rw [if_pos h16])]
      exact ⟨rfl, below4 BB.out (Nat.le_refl _) _ _ _ _⟩
    · have j1 : decide ((wd.length : Int) > 16) = false := by simp; omega
      have hword := rword_is (s.extract at_ (at_ + wd.length))
      rw [HX.out] at hword
      simp only [List.toList_toArray] at hword
      rw [← HX.out] at hword
      cases hiw : HLex.isWord wd with
      | true =>
        rw [hiw] at hword
        have HN := Lib.hid hword; have HI := Lib.hid hiw
        clear hword hiw
        go_wp2_with fail
        refine (gossamerref01_Word.calls _ _ _ HN.out).mono ?_
        rintro e w4 ⟨rfl, hd⟩
        have n0_ := Lib.hid (blk_below (blk_far (p := ⟨g2, 0, none⟩) BK.out q1 (.int .i64 ((kc : Int)))) hd.below)
        have n1_ := Lib.hid (below_step (BB.out.setCell (p := ⟨g2, 0, none⟩) (by show w.heap.size ≤ g2; omega) (.int .i64 ((kc : Int)))) hd.below)
        have n2_ := Lib.hid (blk_below (blk_put BT.out 0 (.int .i64 ((kc : Int))) rfl) hd.below)
        clear BK BB BT hd c0 c1 c2 c3 z0 z1 z2 z3 d0 d1 d2 d3 y0 y1 y2 y3
        have BK := n0_; have BB := n1_; have BT := n2_
        clear n0_ n1_ n2_
        have c0 := blk_cell BK.out 0; have c1 := blk_cell BK.out 1; have c2 := blk_cell BK.out 2; have c3 := blk_cell BK.out 3
        have z0 := blk_frozen BK.out 0; have z1 := blk_frozen BK.out 1; have z2 := blk_frozen BK.out 2; have z3 := blk_frozen BK.out 3
        have d0 := blk_cell BT.out 0; have d1 := blk_cell BT.out 1; have d2 := blk_cell BT.out 2; have d3 := blk_cell BT.out 3
        have y0 := blk_frozen BT.out 0; have y1 := blk_frozen BT.out 1; have y2 := blk_frozen BT.out 2; have y3 := blk_frozen BT.out 3
        simp only [List.getElem?_toArray, List.getElem?_cons_zero, List.getElem?_cons_succ] at c0 c1 c2 c3
        simp at d0 d1 d2 d3
        go_wp2_with fail
        refine bodyPost_ret (results_ct rfl _ _ w.heap.size 33 #[.int .i64 4, .string (s.extract at_ (at_ + wd.length)), .int .i64 0, .int .i64 (at_ : Int)] (0, 0) _ rfl (blk_put (blk_put (blk_put (blk_put (blk_far (p := ⟨g2, 0, none⟩) BK.out q1 _) 0 _ rfl) 1 _ rfl) 2 _ rfl) 3 _ rfl) Tryd.underlying33 rfl (by kernel_rfl)) rfl ?_
        unfold OnePost
        rw [HL.out, HWA.out 4 0 (by unfold HLex.named; rw [HH.out]; simp only [Option.map_some, Option.getD_some, HD.out]; rw [if_neg (by simp)]; rw [if_neg h16, if_pos HI.out]), HX.out]
        exact ⟨rfl, below4 (BB.out.setCell (p := ⟨g2, 0, none⟩) (by show w.heap.size ≤ g2; omega) _) (Nat.le_refl _) _ _ _ _⟩
      | false =>
        rw [hiw] at hword
        have HN := Lib.hid hword; have HI := Lib.hid hiw
        clear hword hiw
        go_wp2_with fail
        refine (gossamerref01_Word.calls _ _ _ HN.out).mono ?_
        rintro e w4 ⟨rfl, hd⟩
        have n0_ := Lib.hid (blk_below (blk_far (p := ⟨g2, 0, none⟩) BK.out q1 (.int .i64 ((kc : Int)))) hd.below)
        have n1_ := Lib.hid (below_step (BB.out.setCell (p := ⟨g2, 0, none⟩) (by show w.heap.size ≤ g2; omega) (.int .i64 ((kc : Int)))) hd.below)
        have n2_ := Lib.hid (blk_below (blk_put BT.out 0 (.int .i64 ((kc : Int))) rfl) hd.below)
        clear BK BB BT hd c0 c1 c2 c3 z0 z1 z2 z3 d0 d1 d2 d3 y0 y1 y2 y3
        have BK := n0_; have BB := n1_; have BT := n2_
        clear n0_ n1_ n2_
        have c0 := blk_cell BK.out 0; have c1 := blk_cell BK.out 1; have c2 := blk_cell BK.out 2; have c3 := blk_cell BK.out 3
        have z0 := blk_frozen BK.out 0; have z1 := blk_frozen BK.out 1; have z2 := blk_frozen BK.out 2; have z3 := blk_frozen BK.out 3
        have d0 := blk_cell BT.out 0; have d1 := blk_cell BT.out 1; have d2 := blk_cell BT.out 2; have d3 := blk_cell BT.out 3
        have y0 := blk_frozen BT.out 0; have y1 := blk_frozen BT.out 1; have y2 := blk_frozen BT.out 2; have y3 := blk_frozen BT.out 3
        simp only [List.getElem?_toArray, List.getElem?_cons_zero, List.getElem?_cons_succ] at c0 c1 c2 c3
        simp at d0 d1 d2 d3
        go_wp2_with fail
        refine bodyPost_ret (results_ct rfl _ _ w.heap.size 33 #[.int .i64 (kc : Int), .string (s.extract at_ (at_ + wd.length)), .int .i64 0, .int .i64 (at_ : Int)] (0, 0) _ rfl (blk_put (blk_put (blk_put (blk_put BK.out 0 _ rfl) 1 _ rfl) 2 _ rfl) 3 _ rfl) Tryd.underlying33 rfl (by kernel_rfl)) rfl ?_
        unfold OnePost
        rw [HL.out, HWA.out kc 0 (by unfold HLex.named; rw [HH.out]; simp only [Option.map_some, Option.getD_some, HD.out]; rw [if_neg (by simp)]; rw [if_neg h16, if_neg (by rw [HI.out]; simp), HK.out]; by_cases hu : upper c = true <;> simp [hu]), HX.out]
        exact ⟨rfl, below4 BB.out (Nat.le_refl _) _ _ _ _⟩
theorem one_any (s : ByteArray) (at_ : Nat) (w : World) (hs : s.size ≤ 1000000) (hat : at_ < s.size) : Calls Tryd.prog 16 #[.string s, .int .i64 at_] w (OnePost s at_ w) := by
  cases hl : s.data.toList.drop at_ with
  | nil =>
    have := List.drop_eq_nil_iff.1 hl
    rw [size_len] at this; omega
  | cons c r =>
    cases hc : wordly c with
    | true => exact one_word s at_ w hs c r hl hc
    | false => exact one_sign s at_ w hs c r hl (by simp [List.takeWhile, hc])
end Refs
end Go.Proofs.YthdkjfhpbigdpaaDoor.Pure

-- Written for this claim.
namespace Go.Proofs.YthdkjfhpbigdpaaDoor.Pure
open Go Go.RowKit Go.Lib Go.Proofs Go.Proofs.YthdkjfhpbigdpaaDoor.Q Go.Proofs.YthdkjfhpbigdpaaDoorW.PrintWords Go.Proofs.YthdkjfhpbigdpaaDoorW.PrintLast Go.Proofs.YthdkjfhpbigdpaaDoorW.PrintMore
namespace TreeNo
def sp (s : ByteArray) : ByteArray := s ++ ⟨#[32]⟩
theorem sp_list (s : ByteArray) : (sp s).data.toList = s.data.toList ++ [32] := by
  unfold sp
  simp
theorem sp_size (s : ByteArray) : (sp s).size = s.size + 1 := by
  have := congrArg List.length (sp_list s)
  simp only [List.length_append, List.length_cons, List.length_nil] at this
  simpa using this
/-- The reference's One, at the front of a text and a blank. -/
theorem one0 (s : ByteArray) (hs : s.size ≤ 50) (w : World) : Calls Tryd.prog 16 #[.string (s ++ ⟨#[32]⟩), .int .i64 0] w fun e w' =>
    match HLex.first (s.data.toList ++ [32]) with
    | .ok (k, t, n) => e = .returned (.tuple #[.agg #[.int .i64 (k : Int), .string ⟨t.toArray⟩, .int .i64 (n : Int), .int .i64 0], .int .i64 0]) ∧ Below w.heap.size w w'
    | .error er => e = .returned (.tuple #[.agg #[.int .i64 0, .string ⟨#[]⟩, .int .i64 0, .int .i64 0], .int .i64 (er : Int)]) ∧ Below w.heap.size w w' := by
  have h := Refs.one_any (sp s) 0 w (by rw [sp_size]; omega) (by rw [sp_size]; omega)
  have e0 : ((0 : Nat) : Int) = 0 := rfl
  rw [e0] at h
  refine Calls.mono h ?_
  intro e w' ho
  unfold Refs.OnePost at ho
  rw [List.drop_zero, sp_list] at ho
  exact ho
end TreeNo
end Go.Proofs.YthdkjfhpbigdpaaDoor.Pure

-- Written for this claim.
namespace Go.Proofs.YthdkjfhpbigdpaaDoor.Pure
open Go Go.RowKit Go.Lib Go.Proofs Go.Proofs.YthdkjfhpbigdpaaDoor.Q Go.Proofs.YthdkjfhpbigdpaaDoorW.PrintWords Go.Proofs.YthdkjfhpbigdpaaDoorW.PrintLast Go.Proofs.YthdkjfhpbigdpaaDoorW.PrintMore
open HTree
set_option linter.unusedVariables false
set_option linter.unusedSimpArgs false
namespace TreeNw
def nV (s : ByteArray) : T := ⟨1, s, 0, 0, []⟩
def nC (s : ByteArray) : T := ⟨6, s, 0, 0, []⟩
def nM (s : ByteArray) : T := ⟨9, s, -1, 0, []⟩
def nI (s : ByteArray) : T := ⟨9, s, 0, 0, []⟩
theorem w_V (s : ByteArray) : whole (nV s) = HTree.token s 1 := by
  have e : whole (nV s) = (decide ((1 : Int) ≠ 8) && (decide ((1 : Int) ≤ 1) && decide ((1 : Int) ≤ 10) && decide ((0 : Int) ≤ 0) && decide ((0 : Int) ≤ 0) && HTree.token s 1 && decide ((0 : Int) = 0) && decide ((0 : Int) ≤ 0) && true)) := rfl
  rw [e]; simp
theorem w_C (s : ByteArray) : whole (nC s) = HTree.token s 2 := by
  have e : whole (nC s) = (decide ((6 : Int) ≠ 8) && (decide ((1 : Int) ≤ 6) && decide ((6 : Int) ≤ 10) && decide ((0 : Int) ≤ 0) && decide ((0 : Int) ≤ 8) && HTree.token s 2 && decide ((0 : Int) = 0) && decide ((0 : Int) ≤ 0) && true)) := rfl
  rw [e]; simp
theorem w_M (s : ByteArray) : whole (nM s) = false := by
  have e : whole (nM s) = (decide ((9 : Int) ≠ 8) && (decide ((1 : Int) ≤ 9) && decide ((9 : Int) ≤ 10) && decide ((0 : Int) ≤ 0) && decide ((0 : Int) ≤ 0) && decide (s.data.toList = []) && (decide ((0 : Int) ≤ -1) && decide ((-1 : Int) ≤ 999999999999999999)) && decide ((0 : Int) ≤ 0) && true)) := rfl
  rw [e]; simp
theorem w_I (s : ByteArray) : whole (nI s) = decide (s.data.toList = []) := by
  have e : whole (nI s) = (decide ((9 : Int) ≠ 8) && (decide ((1 : Int) ≤ 9) && decide ((9 : Int) ≤ 10) && decide ((0 : Int) ≤ 0) && decide ((0 : Int) ≤ 0) && decide (s.data.toList = []) && (decide ((0 : Int) ≤ 0) && decide ((0 : Int) ≤ 999999999999999999)) && decide ((0 : Int) ≤ 0) && true)) := rfl
  rw [e]; simp
end TreeNw
open TreeNw
set_option maxRecDepth 100000 in
set_option maxHeartbeats 16000000 in
theorem TreeNames_walk {w : World} (s : ByteArray) (htab : Lib.TabIs Tryd.prog w "strings.asciiSpace" .u8 Lib.asciiSpaceTab) :
    Calls Tryd.prog 6 #[.string s] w fun e w' => e = .returned (.bool true) ∧ Below w.heap.size w w' := by
  have HT := Lib.hid (tabBelow_of_tabIs htab)
  clear htab
  have HB := Lib.hid (Below.refl w.heap.size w)
  go_enter Tryd.func6, Tryd.ntmps6
  go_wp2_with fail
  refine (TreeFix.fixed_any _ (HT.out.on HB.out).here).mono ?_
  rintro e w5 ⟨rfl, hb⟩
  have n0_ := Lib.hid (below_step HB.out hb)
  clear HB hb
  have HB := n0_
  clear n0_
  rcases Classical.em ((s.size : Int) > 50) with q | q
  · have d1 := decide_eq_true q
    have d2 : decide ((50 : Int) < (s.size : Int)) = true := decide_eq_true q
    have d3 : decide (50 < s.size) = true := decide_eq_true (by omega)
    have Q1 := Lib.hid q
    clear q
    go_wp2_with fail
    refine (TreeFix.fixed_any _ (HT.out.on HB.out).here).mono ?_
    rintro e w5 ⟨rfl, hb⟩
    have n0_ := Lib.hid (below_step HB.out hb)
    clear HB hb
    have HB := n0_
    clear n0_
    go_wp2_with fail
    go_ret
    exact ⟨rfl, HB.out⟩
  · have d1 := decide_eq_false q
    have d2 : decide ((50 : Int) < (s.size : Int)) = false := decide_eq_false q
    have d3 : decide (50 < s.size) = false := decide_eq_false (by omega)
    have hss : s.size ≤ 50 := by omega
    have Q1 := Lib.hid q; have QS := Lib.hid hss
    have q2 : ¬ 9223372036854775807 < s.size + 1 := by omega
    clear q hss
    go_wp2_with fail
    have V1 := Lib.hid (TreeNa.token_is s 1); have V2 := Lib.hid (TreeNa.token_is s 2)
    refine (TreeNo.one0 s QS.out _).mono ?_
    intro e w5 ho
    cases hf : HLex.first (s.data.toList ++ [32]) with
    | error er =>
      rw [hf] at ho V1 V2
      obtain ⟨rfl, hb⟩ := ho
      have he : er = 10 ∨ er = 11 := HLex.first_err hf
      have b0 : ((er : Int) == 0) = false := beq_eq_false_iff_ne.2 (by omega)
      have HE := Lib.hid he
      clear he hf
      have n0_ := Lib.hid (below_step HB.out hb)
      clear HB hb
      have HB := n0_
      clear n0_
      go_upto_region 4 with (fail)
      have bx := blk_new w5 (Obj.cells #[.int .i64 0, .string ⟨#[]⟩, .int .i64 0, .int .i64 0] 33)
      have hb := below_alloc (Below.refl w5.heap.size w5) (Obj.cells #[.int .i64 0, .string ⟨#[]⟩, .int .i64 0, .int .i64 0] 33)
      generalize w5.alloc (Obj.cells #[.int .i64 0, .string ⟨#[]⟩, .int .i64 0, .int .i64 0] 33) = wt at bx hb ⊢
      have BT := Lib.hid bx
      have n0_ := Lib.hid (below_step HB.out hb)
      clear HB hb bx
      have HB := n0_
      clear n0_
      have t0 := blk_cell BT.out 0; have t1 := blk_cell BT.out 1; have t2 := blk_cell BT.out 2; have t3 := blk_cell BT.out 3
      simp only [List.getElem?_toArray, List.getElem?_cons_zero, List.getElem?_cons_succ] at t0 t1 t2 t3
      generalize w5.heap.size = g5 at BT t0 t1 t2 t3 ⊢
      have WV : Hid (whole (nV s) = false) := Lib.hid (by rw [w_V, V1.out]; (try rfl))
      have WC : Hid (whole (nC s) = false) := Lib.hid (by rw [w_C, V2.out]; (try rfl))
      have WM := Lib.hid (w_M s)
      rcases Classical.em (s.data.toList = []) with q0 | q0
      · have bs : s.toList.isEmpty = true := by rw [Lib.toList_data, q0]; rfl
        have WI : Hid (whole (nI s) = true) := Lib.hid (by rw [w_I, decide_eq_true q0])
        have QE := Lib.hid q0
        clear q0
        go_wp2_with fail
        refine ((TreeMay.whole_any (nV s) (by show s.size + 1 + 0 ≤ _; have := QS.out; omega) _ _ _ (TreeFix.C0 _) (Nat.le_refl 0) (HT.out.on HB.out).here).mono fun e w' h => (⟨h.1.trans (by rw [WV.out]), h.2⟩ : e = .returned (.bool false) ∧ _)).mono ?_
        rintro e w6 ⟨rfl, hb⟩
        have n0_ := Lib.hid (below_step HB.out hb); have n1_ := Lib.hid (blk_below BT.out hb)
        clear HB BT hb t0 t1 t2 t3
        have HB := n0_; have BT := n1_
        clear n0_ n1_
        have t0 := blk_cell BT.out 0; have t1 := blk_cell BT.out 1; have t2 := blk_cell BT.out 2; have t3 := blk_cell BT.out 3
        simp only [List.getElem?_toArray, List.getElem?_cons_zero, List.getElem?_cons_succ] at t0 t1 t2 t3
        go_wp2_with fail
        refine ((TreeMay.whole_any (nC s) (by show s.size + 1 + 0 ≤ _; have := QS.out; omega) _ _ _ (TreeFix.C0 _) (Nat.le_refl 0) (HT.out.on HB.out).here).mono fun e w' h => (⟨h.1.trans (by rw [WC.out]), h.2⟩ : e = .returned (.bool false) ∧ _)).mono ?_
        rintro e w6 ⟨rfl, hb⟩
        have n0_ := Lib.hid (below_step HB.out hb); have n1_ := Lib.hid (blk_below BT.out hb)
        clear HB BT hb t0 t1 t2 t3
        have HB := n0_; have BT := n1_
        clear n0_ n1_
        have t0 := blk_cell BT.out 0; have t1 := blk_cell BT.out 1; have t2 := blk_cell BT.out 2; have t3 := blk_cell BT.out 3
        simp only [List.getElem?_toArray, List.getElem?_cons_zero, List.getElem?_cons_succ] at t0 t1 t2 t3
        go_wp2_with fail
        refine ((TreeMay.whole_any (nM s) (by show s.size + 1 + 0 ≤ _; have := QS.out; omega) _ _ _ (TreeFix.C0 _) (Nat.le_refl 0) (HT.out.on HB.out).here).mono fun e w' h => (⟨h.1.trans (by rw [WM.out]), h.2⟩ : e = .returned (.bool false) ∧ _)).mono ?_
        rintro e w6 ⟨rfl, hb⟩
        have n0_ := Lib.hid (below_step HB.out hb); have n1_ := Lib.hid (blk_below BT.out hb)
        clear HB BT hb t0 t1 t2 t3
        have HB := n0_; have BT := n1_
        clear n0_ n1_
        have t0 := blk_cell BT.out 0; have t1 := blk_cell BT.out 1; have t2 := blk_cell BT.out 2; have t3 := blk_cell BT.out 3
        simp only [List.getElem?_toArray, List.getElem?_cons_zero, List.getElem?_cons_succ] at t0 t1 t2 t3
        go_wp2_with fail
        refine ((TreeMay.whole_any (nI s) (by show s.size + 1 + 0 ≤ _; have := QS.out; omega) _ _ _ (TreeFix.C0 _) (Nat.le_refl 0) (HT.out.on HB.out).here).mono fun e w' h => (⟨h.1.trans (by rw [WI.out]), h.2⟩ : e = .returned (.bool true) ∧ _)).mono ?_
        rintro e w6 ⟨rfl, hb⟩
        have n0_ := Lib.hid (below_step HB.out hb); have n1_ := Lib.hid (blk_below BT.out hb)
        clear HB BT hb t0 t1 t2 t3
        have HB := n0_; have BT := n1_
        clear n0_ n1_
        have t0 := blk_cell BT.out 0; have t1 := blk_cell BT.out 1; have t2 := blk_cell BT.out 2; have t3 := blk_cell BT.out 3
        simp only [List.getElem?_toArray, List.getElem?_cons_zero, List.getElem?_cons_succ] at t0 t1 t2 t3
        go_wp2_with fail
        go_ret
        exact ⟨rfl, HB.out⟩
      · have bs : s.toList.isEmpty = false := by rw [Lib.toList_data]; cases h : s.data.toList with | nil => exact absurd h q0 | cons a l => rfl
        have WI : Hid (whole (nI s) = false) := Lib.hid (by rw [w_I, decide_eq_false q0])
        have QE := Lib.hid q0
        clear q0
        go_wp2_with fail
        refine ((TreeMay.whole_any (nV s) (by show s.size + 1 + 0 ≤ _; have := QS.out; omega) _ _ _ (TreeFix.C0 _) (Nat.le_refl 0) (HT.out.on HB.out).here).mono fun e w' h => (⟨h.1.trans (by rw [WV.out]), h.2⟩ : e = .returned (.bool false) ∧ _)).mono ?_
        rintro e w6 ⟨rfl, hb⟩
        have n0_ := Lib.hid (below_step HB.out hb); have n1_ := Lib.hid (blk_below BT.out hb)
        clear HB BT hb t0 t1 t2 t3
        have HB := n0_; have BT := n1_
        clear n0_ n1_
        have t0 := blk_cell BT.out 0; have t1 := blk_cell BT.out 1; have t2 := blk_cell BT.out 2; have t3 := blk_cell BT.out 3
        simp only [List.getElem?_toArray, List.getElem?_cons_zero, List.getElem?_cons_succ] at t0 t1 t2 t3
        go_wp2_with fail
        refine ((TreeMay.whole_any (nC s) (by show s.size + 1 + 0 ≤ _; have := QS.out; omega) _ _ _ (TreeFix.C0 _) (Nat.le_refl 0) (HT.out.on HB.out).here).mono fun e w' h => (⟨h.1.trans (by rw [WC.out]), h.2⟩ : e = .returned (.bool false) ∧ _)).mono ?_
        rintro e w6 ⟨rfl, hb⟩
        have n0_ := Lib.hid (below_step HB.out hb); have n1_ := Lib.hid (blk_below BT.out hb)
        clear HB BT hb t0 t1 t2 t3
        have HB := n0_; have BT := n1_
        clear n0_ n1_
        have t0 := blk_cell BT.out 0; have t1 := blk_cell BT.out 1; have t2 := blk_cell BT.out 2; have t3 := blk_cell BT.out 3
        simp only [List.getElem?_toArray, List.getElem?_cons_zero, List.getElem?_cons_succ] at t0 t1 t2 t3
        go_wp2_with fail
        refine ((TreeMay.whole_any (nM s) (by show s.size + 1 + 0 ≤ _; have := QS.out; omega) _ _ _ (TreeFix.C0 _) (Nat.le_refl 0) (HT.out.on HB.out).here).mono fun e w' h => (⟨h.1.trans (by rw [WM.out]), h.2⟩ : e = .returned (.bool false) ∧ _)).mono ?_
        rintro e w6 ⟨rfl, hb⟩
        have n0_ := Lib.hid (below_step HB.out hb); have n1_ := Lib.hid (blk_below BT.out hb)
        clear HB BT hb t0 t1 t2 t3
        have HB := n0_; have BT := n1_
        clear n0_ n1_
        have t0 := blk_cell BT.out 0; have t1 := blk_cell BT.out 1; have t2 := blk_cell BT.out 2; have t3 := blk_cell BT.out 3
        simp only [List.getElem?_toArray, List.getElem?_cons_zero, List.getElem?_cons_succ] at t0 t1 t2 t3
        go_wp2_with fail
        refine ((TreeMay.whole_any (nI s) (by show s.size + 1 + 0 ≤ _; have := QS.out; omega) _ _ _ (TreeFix.C0 _) (Nat.le_refl 0) (HT.out.on HB.out).here).mono fun e w' h => (⟨h.1.trans (by rw [WI.out]), h.2⟩ : e = .returned (.bool false) ∧ _)).mono ?_
        rintro e w6 ⟨rfl, hb⟩
        have n0_ := Lib.hid (below_step HB.out hb); have n1_ := Lib.hid (blk_below BT.out hb)
        clear HB BT hb t0 t1 t2 t3
        have HB := n0_; have BT := n1_
        clear n0_ n1_
        have t0 := blk_cell BT.out 0; have t1 := blk_cell BT.out 1; have t2 := blk_cell BT.out 2; have t3 := blk_cell BT.out 3
        simp only [List.getElem?_toArray, List.getElem?_cons_zero, List.getElem?_cons_succ] at t0 t1 t2 t3
        go_wp2_with fail
        go_ret
        exact ⟨rfl, HB.out⟩
    | ok x =>
      obtain ⟨k, t, n⟩ := x
      rw [hf] at ho V1 V2
      obtain ⟨rfl, hb⟩ := ho
      have hfe : s.data.toList = [] → False := by
        intro h
        rw [h] at hf
        have : HLex.first ([] ++ [32]) = .error 10 := by kernel_rfl
        rw [this] at hf; cases hf
      have bs : s.toList.isEmpty = false := by rw [Lib.toList_data]; cases h : s.data.toList with | nil => exact absurd h hfe | cons a l => rfl
      have WI : Hid (whole (nI s) = false) := Lib.hid (by rw [w_I, decide_eq_false hfe])
      clear hf hfe
      have n0_ := Lib.hid (below_step HB.out hb)
      clear HB hb
      have HB := n0_
      clear n0_
      obtain ⟨ts, HTS⟩ : ∃ q, Hid ((⟨t.toArray⟩ : ByteArray) = q) := ⟨_, Lib.hid rfl⟩
      have hts : ts.data.toList = t := by rw [← HTS.out]
      rw [HTS.out]
      go_upto_region 4 with (fail)
      have bx := blk_new w5 (Obj.cells #[.int .i64 (k : Int), .string ts, .int .i64 (n : Int), .int .i64 0] 33)
      have hb := below_alloc (Below.refl w5.heap.size w5) (Obj.cells #[.int .i64 (k : Int), .string ts, .int .i64 (n : Int), .int .i64 0] 33)
      generalize w5.alloc (Obj.cells #[.int .i64 (k : Int), .string ts, .int .i64 (n : Int), .int .i64 0] 33) = wt at bx hb ⊢
      have BT := Lib.hid bx
      have n0_ := Lib.hid (below_step HB.out hb)
      clear HB hb bx
      have HB := n0_
      clear n0_
      have t0 := blk_cell BT.out 0; have t1 := blk_cell BT.out 1; have t2 := blk_cell BT.out 2; have t3 := blk_cell BT.out 3
      simp only [List.getElem?_toArray, List.getElem?_cons_zero, List.getElem?_cons_succ] at t0 t1 t2 t3
      generalize w5.heap.size = g5 at BT t0 t1 t2 t3 ⊢
      rcases Classical.em (t = s.data.toList) with q | q
      · have bt : (ts.toList == s.toList) = true := by rw [Lib.toList_data, Lib.toList_data, hts]; exact beq_iff_eq.2 q
        have QT := Lib.hid q; have HT2 := Lib.hid hts
        clear q hts
        rcases Classical.em (k = 1) with q | q
        · have c1 : ((k : Int) == 1) = true := beq_iff_eq.2 (by omega)
          have K1 := Lib.hid q
          clear q
          have c2 : ((k : Int) == 2) = false := beq_eq_false_iff_ne.2 (by have := K1.out; omega)
          have WV : Hid (whole (nV s) = true) := Lib.hid (by rw [w_V, V1.out]; (try simp [K1.out, QT.out]))
          have WC : Hid (whole (nC s) = false) := Lib.hid (by rw [w_C, V2.out]; (try simp [K1.out]))
          have WM := Lib.hid (w_M s)
          go_wp2_with fail
          refine ((TreeMay.whole_any (nV s) (by show s.size + 1 + 0 ≤ _; have := QS.out; omega) _ _ _ (TreeFix.C0 _) (Nat.le_refl 0) (HT.out.on HB.out).here).mono fun e w' h => (⟨h.1.trans (by rw [WV.out]), h.2⟩ : e = .returned (.bool true) ∧ _)).mono ?_
          rintro e w6 ⟨rfl, hb⟩
          have n0_ := Lib.hid (below_step HB.out hb); have n1_ := Lib.hid (blk_below BT.out hb)
          clear HB BT hb t0 t1 t2 t3
          have HB := n0_; have BT := n1_
          clear n0_ n1_
          have t0 := blk_cell BT.out 0; have t1 := blk_cell BT.out 1; have t2 := blk_cell BT.out 2; have t3 := blk_cell BT.out 3
          simp only [List.getElem?_toArray, List.getElem?_cons_zero, List.getElem?_cons_succ] at t0 t1 t2 t3
          go_wp2_with fail
          refine ((TreeMay.whole_any (nC s) (by show s.size + 1 + 0 ≤ _; have := QS.out; omega) _ _ _ (TreeFix.C0 _) (Nat.le_refl 0) (HT.out.on HB.out).here).mono fun e w' h => (⟨h.1.trans (by rw [WC.out]), h.2⟩ : e = .returned (.bool false) ∧ _)).mono ?_
          rintro e w6 ⟨rfl, hb⟩
          have n0_ := Lib.hid (below_step HB.out hb); have n1_ := Lib.hid (blk_below BT.out hb)
          clear HB BT hb t0 t1 t2 t3
          have HB := n0_; have BT := n1_
          clear n0_ n1_
          have t0 := blk_cell BT.out 0; have t1 := blk_cell BT.out 1; have t2 := blk_cell BT.out 2; have t3 := blk_cell BT.out 3
          simp only [List.getElem?_toArray, List.getElem?_cons_zero, List.getElem?_cons_succ] at t0 t1 t2 t3
          go_wp2_with fail
          refine ((TreeMay.whole_any (nM s) (by show s.size + 1 + 0 ≤ _; have := QS.out; omega) _ _ _ (TreeFix.C0 _) (Nat.le_refl 0) (HT.out.on HB.out).here).mono fun e w' h => (⟨h.1.trans (by rw [WM.out]), h.2⟩ : e = .returned (.bool false) ∧ _)).mono ?_
          rintro e w6 ⟨rfl, hb⟩
          have n0_ := Lib.hid (below_step HB.out hb); have n1_ := Lib.hid (blk_below BT.out hb)
          clear HB BT hb t0 t1 t2 t3
          have HB := n0_; have BT := n1_
          clear n0_ n1_
          have t0 := blk_cell BT.out 0; have t1 := blk_cell BT.out 1; have t2 := blk_cell BT.out 2; have t3 := blk_cell BT.out 3
          simp only [List.getElem?_toArray, List.getElem?_cons_zero, List.getElem?_cons_succ] at t0 t1 t2 t3
          go_wp2_with fail
          refine ((TreeMay.whole_any (nI s) (by show s.size + 1 + 0 ≤ _; have := QS.out; omega) _ _ _ (TreeFix.C0 _) (Nat.le_refl 0) (HT.out.on HB.out).here).mono fun e w' h => (⟨h.1.trans (by rw [WI.out]), h.2⟩ : e = .returned (.bool false) ∧ _)).mono ?_
          rintro e w6 ⟨rfl, hb⟩
          have n0_ := Lib.hid (below_step HB.out hb); have n1_ := Lib.hid (blk_below BT.out hb)
          clear HB BT hb t0 t1 t2 t3
          have HB := n0_; have BT := n1_
          clear n0_ n1_
          have t0 := blk_cell BT.out 0; have t1 := blk_cell BT.out 1; have t2 := blk_cell BT.out 2; have t3 := blk_cell BT.out 3
          simp only [List.getElem?_toArray, List.getElem?_cons_zero, List.getElem?_cons_succ] at t0 t1 t2 t3
          go_wp2_with fail
          go_ret
          exact ⟨rfl, HB.out⟩
        · have c1 : ((k : Int) == 1) = false := beq_eq_false_iff_ne.2 (by omega)
          have K1 := Lib.hid q
          clear q
          rcases Classical.em (k = 2) with q | q
          · have c2 : ((k : Int) == 2) = true := beq_iff_eq.2 (by omega)
            have K2 := Lib.hid q
            clear q
            have WV : Hid (whole (nV s) = false) := Lib.hid (by rw [w_V, V1.out]; (try simp [K1.out]))
            have WC : Hid (whole (nC s) = true) := Lib.hid (by rw [w_C, V2.out]; (try simp [K2.out, QT.out]))
            have WM := Lib.hid (w_M s)
            go_wp2_with fail
            refine ((TreeMay.whole_any (nV s) (by show s.size + 1 + 0 ≤ _; have := QS.out; omega) _ _ _ (TreeFix.C0 _) (Nat.le_refl 0) (HT.out.on HB.out).here).mono fun e w' h => (⟨h.1.trans (by rw [WV.out]), h.2⟩ : e = .returned (.bool false) ∧ _)).mono ?_
            rintro e w6 ⟨rfl, hb⟩
            have n0_ := Lib.hid (below_step HB.out hb); have n1_ := Lib.hid (blk_below BT.out hb)
            clear HB BT hb t0 t1 t2 t3
            have HB := n0_; have BT := n1_
            clear n0_ n1_
            have t0 := blk_cell BT.out 0; have t1 := blk_cell BT.out 1; have t2 := blk_cell BT.out 2; have t3 := blk_cell BT.out 3
            simp only [List.getElem?_toArray, List.getElem?_cons_zero, List.getElem?_cons_succ] at t0 t1 t2 t3
            go_wp2_with fail
            refine ((TreeMay.whole_any (nC s) (by show s.size + 1 + 0 ≤ _; have := QS.out; omega) _ _ _ (TreeFix.C0 _) (Nat.le_refl 0) (HT.out.on HB.out).here).mono fun e w' h => (⟨h.1.trans (by rw [WC.out]), h.2⟩ : e = .returned (.bool true) ∧ _)).mono ?_
            rintro e w6 ⟨rfl, hb⟩
            have n0_ := Lib.hid (below_step HB.out hb); have n1_ := Lib.hid (blk_below BT.out hb)
            clear HB BT hb t0 t1 t2 t3
            have HB := n0_; have BT := n1_
            clear n0_ n1_
            have t0 := blk_cell BT.out 0; have t1 := blk_cell BT.out 1; have t2 := blk_cell BT.out 2; have t3 := blk_cell BT.out 3
            simp only [List.getElem?_toArray, List.getElem?_cons_zero, List.getElem?_cons_succ] at t0 t1 t2 t3
            go_wp2_with fail
            refine ((TreeMay.whole_any (nM s) (by show s.size + 1 + 0 ≤ _; have := QS.out; omega) _ _ _ (TreeFix.C0 _) (Nat.le_refl 0) (HT.out.on HB.out).here).mono fun e w' h => (⟨h.1.trans (by rw [WM.out]), h.2⟩ : e = .returned (.bool false) ∧ _)).mono ?_
            rintro e w6 ⟨rfl, hb⟩
            have n0_ := Lib.hid (below_step HB.out hb); have n1_ := Lib.hid (blk_below BT.out hb)
            clear HB BT hb t0 t1 t2 t3
            have HB := n0_; have BT := n1_
            clear n0_ n1_
            have t0 := blk_cell BT.out 0; have t1 := blk_cell BT.out 1; have t2 := blk_cell BT.out 2; have t3 := blk_cell BT.out 3
            simp only [List.getElem?_toArray, List.getElem?_cons_zero, List.getElem?_cons_succ] at t0 t1 t2 t3
            go_wp2_with fail
            refine ((TreeMay.whole_any (nI s) (by show s.size + 1 + 0 ≤ _; have := QS.out; omega) _ _ _ (TreeFix.C0 _) (Nat.le_refl 0) (HT.out.on HB.out).here).mono fun e w' h => (⟨h.1.trans (by rw [WI.out]), h.2⟩ : e = .returned (.bool false) ∧ _)).mono ?_
            rintro e w6 ⟨rfl, hb⟩
            have n0_ := Lib.hid (below_step HB.out hb); have n1_ := Lib.hid (blk_below BT.out hb)
            clear HB BT hb t0 t1 t2 t3
            have HB := n0_; have BT := n1_
            clear n0_ n1_
            have t0 := blk_cell BT.out 0; have t1 := blk_cell BT.out 1; have t2 := blk_cell BT.out 2; have t3 := blk_cell BT.out 3
            simp only [List.getElem?_toArray, List.getElem?_cons_zero, List.getElem?_cons_succ] at t0 t1 t2 t3
            go_wp2_with fail
            go_ret
            exact ⟨rfl, HB.out⟩
          · have c2 : ((k : Int) == 2) = false := beq_eq_false_iff_ne.2 (by omega)
            have K2 := Lib.hid q
            clear q
            have WV : Hid (whole (nV s) = false) := Lib.hid (by rw [w_V, V1.out]; (try simp [K1.out]))
            have WC : Hid (whole (nC s) = false) := Lib.hid (by rw [w_C, V2.out]; (try simp [K2.out]))
            have WM := Lib.hid (w_M s)
            go_wp2_with fail
            refine ((TreeMay.whole_any (nV s) (by show s.size + 1 + 0 ≤ _; have := QS.out; omega) _ _ _ (TreeFix.C0 _) (Nat.le_refl 0) (HT.out.on HB.out).here).mono fun e w' h => (⟨h.1.trans (by rw [WV.out]), h.2⟩ : e = .returned (.bool false) ∧ _)).mono ?_
            rintro e w6 ⟨rfl, hb⟩
            have n0_ := Lib.hid (below_step HB.out hb); have n1_ := Lib.hid (blk_below BT.out hb)
            clear HB BT hb t0 t1 t2 t3
            have HB := n0_; have BT := n1_
            clear n0_ n1_
            have t0 := blk_cell BT.out 0; have t1 := blk_cell BT.out 1; have t2 := blk_cell BT.out 2; have t3 := blk_cell BT.out 3
            simp only [List.getElem?_toArray, List.getElem?_cons_zero, List.getElem?_cons_succ] at t0 t1 t2 t3
            go_wp2_with fail
            refine ((TreeMay.whole_any (nC s) (by show s.size + 1 + 0 ≤ _; have := QS.out; omega) _ _ _ (TreeFix.C0 _) (Nat.le_refl 0) (HT.out.on HB.out).here).mono fun e w' h => (⟨h.1.trans (by rw [WC.out]), h.2⟩ : e = .returned (.bool false) ∧ _)).mono ?_
            rintro e w6 ⟨rfl, hb⟩
            have n0_ := Lib.hid (below_step HB.out hb); have n1_ := Lib.hid (blk_below BT.out hb)
            clear HB BT hb t0 t1 t2 t3
            have HB := n0_; have BT := n1_
            clear n0_ n1_
            have t0 := blk_cell BT.out 0; have t1 := blk_cell BT.out 1; have t2 := blk_cell BT.out 2; have t3 := blk_cell BT.out 3
            simp only [List.getElem?_toArray, List.getElem?_cons_zero, List.getElem?_cons_succ] at t0 t1 t2 t3
            go_wp2_with fail
            refine ((TreeMay.whole_any (nM s) (by show s.size + 1 + 0 ≤ _; have := QS.out; omega) _ _ _ (TreeFix.C0 _) (Nat.le_refl 0) (HT.out.on HB.out).here).mono fun e w' h => (⟨h.1.trans (by rw [WM.out]), h.2⟩ : e = .returned (.bool false) ∧ _)).mono ?_
            rintro e w6 ⟨rfl, hb⟩
            have n0_ := Lib.hid (below_step HB.out hb); have n1_ := Lib.hid (blk_below BT.out hb)
            clear HB BT hb t0 t1 t2 t3
            have HB := n0_; have BT := n1_
            clear n0_ n1_
            have t0 := blk_cell BT.out 0; have t1 := blk_cell BT.out 1; have t2 := blk_cell BT.out 2; have t3 := blk_cell BT.out 3
            simp only [List.getElem?_toArray, List.getElem?_cons_zero, List.getElem?_cons_succ] at t0 t1 t2 t3
            go_wp2_with fail
            refine ((TreeMay.whole_any (nI s) (by show s.size + 1 + 0 ≤ _; have := QS.out; omega) _ _ _ (TreeFix.C0 _) (Nat.le_refl 0) (HT.out.on HB.out).here).mono fun e w' h => (⟨h.1.trans (by rw [WI.out]), h.2⟩ : e = .returned (.bool false) ∧ _)).mono ?_
            rintro e w6 ⟨rfl, hb⟩
            have n0_ := Lib.hid (below_step HB.out hb); have n1_ := Lib.hid (blk_below BT.out hb)
            clear HB BT hb t0 t1 t2 t3
            have HB := n0_; have BT := n1_
            clear n0_ n1_
            have t0 := blk_cell BT.out 0; have t1 := blk_cell BT.out 1; have t2 := blk_cell BT.out 2; have t3 := blk_cell BT.out 3
            simp only [List.getElem?_toArray, List.getElem?_cons_zero, List.getElem?_cons_succ] at t0 t1 t2 t3
            go_wp2_with fail
            go_ret
            exact ⟨rfl, HB.out⟩
      · have bt : (ts.toList == s.toList) = false := by rw [Lib.toList_data, Lib.toList_data, hts]; exact beq_eq_false_iff_ne.2 q
        have QT := Lib.hid q; have HT2 := Lib.hid hts
        clear q hts
        rcases Classical.em (k = 1) with q | q
        · have c1 : ((k : Int) == 1) = true := beq_iff_eq.2 (by omega)
          have K1 := Lib.hid q
          clear q
          have c2 : ((k : Int) == 2) = false := beq_eq_false_iff_ne.2 (by have := K1.out; omega)
          have WV : Hid (whole (nV s) = false) := Lib.hid (by rw [w_V, V1.out]; (try simp [QT.out]))
          have WC : Hid (whole (nC s) = false) := Lib.hid (by rw [w_C, V2.out]; (try simp [QT.out]))
          have WM := Lib.hid (w_M s)
          go_wp2_with fail
          refine ((TreeMay.whole_any (nV s) (by show s.size + 1 + 0 ≤ _; have := QS.out; omega) _ _ _ (TreeFix.C0 _) (Nat.le_refl 0) (HT.out.on HB.out).here).mono fun e w' h => (⟨h.1.trans (by rw [WV.out]), h.2⟩ : e = .returned (.bool false) ∧ _)).mono ?_
          rintro e w6 ⟨rfl, hb⟩
          have n0_ := Lib.hid (below_step HB.out hb); have n1_ := Lib.hid (blk_below BT.out hb)
          clear HB BT hb t0 t1 t2 t3
          have HB := n0_; have BT := n1_
          clear n0_ n1_
          have t0 := blk_cell BT.out 0; have t1 := blk_cell BT.out 1; have t2 := blk_cell BT.out 2; have t3 := blk_cell BT.out 3
          simp only [List.getElem?_toArray, List.getElem?_cons_zero, List.getElem?_cons_succ] at t0 t1 t2 t3
          go_wp2_with fail
          refine ((TreeMay.whole_any (nC s) (by show s.size + 1 + 0 ≤ _; have := QS.out; omega) _ _ _ (TreeFix.C0 _) (Nat.le_refl 0) (HT.out.on HB.out).here).mono fun e w' h => (⟨h.1.trans (by rw [WC.out]), h.2⟩ : e = .returned (.bool false) ∧ _)).mono ?_
          rintro e w6 ⟨rfl, hb⟩
          have n0_ := Lib.hid (below_step HB.out hb); have n1_ := Lib.hid (blk_below BT.out hb)
          clear HB BT hb t0 t1 t2 t3
          have HB := n0_; have BT := n1_
          clear n0_ n1_
          have t0 := blk_cell BT.out 0; have t1 := blk_cell BT.out 1; have t2 := blk_cell BT.out 2; have t3 := blk_cell BT.out 3
          simp only [List.getElem?_toArray, List.getElem?_cons_zero, List.getElem?_cons_succ] at t0 t1 t2 t3
          go_wp2_with fail
          refine ((TreeMay.whole_any (nM s) (by show s.size + 1 + 0 ≤ _; have := QS.out; omega) _ _ _ (TreeFix.C0 _) (Nat.le_refl 0) (HT.out.on HB.out).here).mono fun e w' h => (⟨h.1.trans (by rw [WM.out]), h.2⟩ : e = .returned (.bool false) ∧ _)).mono ?_
          rintro e w6 ⟨rfl, hb⟩
          have n0_ := Lib.hid (below_step HB.out hb); have n1_ := Lib.hid (blk_below BT.out hb)
          clear HB BT hb t0 t1 t2 t3
          have HB := n0_; have BT := n1_
          clear n0_ n1_
          have t0 := blk_cell BT.out 0; have t1 := blk_cell BT.out 1; have t2 := blk_cell BT.out 2; have t3 := blk_cell BT.out 3
          simp only [List.getElem?_toArray, List.getElem?_cons_zero, List.getElem?_cons_succ] at t0 t1 t2 t3
          go_wp2_with fail
          refine ((TreeMay.whole_any (nI s) (by show s.size + 1 + 0 ≤ _; have := QS.out; omega) _ _ _ (TreeFix.C0 _) (Nat.le_refl 0) (HT.out.on HB.out).here).mono fun e w' h => (⟨h.1.trans (by rw [WI.out]), h.2⟩ : e = .returned (.bool false) ∧ _)).mono ?_
          rintro e w6 ⟨rfl, hb⟩
          have n0_ := Lib.hid (below_step HB.out hb); have n1_ := Lib.hid (blk_below BT.out hb)
          clear HB BT hb t0 t1 t2 t3
          have HB := n0_; have BT := n1_
          clear n0_ n1_
          have t0 := blk_cell BT.out 0; have t1 := blk_cell BT.out 1; have t2 := blk_cell BT.out 2; have t3 := blk_cell BT.out 3
          simp only [List.getElem?_toArray, List.getElem?_cons_zero, List.getElem?_cons_succ] at t0 t1 t2 t3
          go_wp2_with fail
          go_ret
          exact ⟨rfl, HB.out⟩
        · have c1 : ((k : Int) == 1) = false := beq_eq_false_iff_ne.2 (by omega)
          have K1 := Lib.hid q
          clear q
          rcases Classical.em (k = 2) with q | q
          · have c2 : ((k : Int) == 2) = true := beq_iff_eq.2 (by omega)
            have K2 := Lib.hid q
            clear q
            have WV : Hid (whole (nV s) = false) := Lib.hid (by rw [w_V, V1.out]; (try simp [QT.out]))
            have WC : Hid (whole (nC s) = false) := Lib.hid (by rw [w_C, V2.out]; (try simp [QT.out]))
            have WM := Lib.hid (w_M s)
            go_wp2_with fail
            refine ((TreeMay.whole_any (nV s) (by show s.size + 1 + 0 ≤ _; have := QS.out; omega) _ _ _ (TreeFix.C0 _) (Nat.le_refl 0) (HT.out.on HB.out).here).mono fun e w' h => (⟨h.1.trans (by rw [WV.out]), h.2⟩ : e = .returned (.bool false) ∧ _)).mono ?_
            rintro e w6 ⟨rfl, hb⟩
            have n0_ := Lib.hid (below_step HB.out hb); have n1_ := Lib.hid (blk_below BT.out hb)
            clear HB BT hb t0 t1 t2 t3
            have HB := n0_; have BT := n1_
            clear n0_ n1_
            have t0 := blk_cell BT.out 0; have t1 := blk_cell BT.out 1; have t2 := blk_cell BT.out 2; have t3 := blk_cell BT.out 3
            simp only [List.getElem?_toArray, List.getElem?_cons_zero, List.getElem?_cons_succ] at t0 t1 t2 t3
            go_wp2_with fail
            refine ((TreeMay.whole_any (nC s) (by show s.size + 1 + 0 ≤ _; have := QS.out; omega) _ _ _ (TreeFix.C0 _) (Nat.le_refl 0) (HT.out.on HB.out).here).mono fun e w' h => (⟨h.1.trans (by rw [WC.out]), h.2⟩ : e = .returned (.bool false) ∧ _)).mono ?_
            rintro e w6 ⟨rfl, hb⟩
            have n0_ := Lib.hid (below_step HB.out hb); have n1_ := Lib.hid (blk_below BT.out hb)
            clear HB BT hb t0 t1 t2 t3
            have HB := n0_; have BT := n1_
            clear n0_ n1_
            have t0 := blk_cell BT.out 0; have t1 := blk_cell BT.out 1; have t2 := blk_cell BT.out 2; have t3 := blk_cell BT.out 3
            simp only [List.getElem?_toArray, List.getElem?_cons_zero, List.getElem?_cons_succ] at t0 t1 t2 t3
            go_wp2_with fail
            refine ((TreeMay.whole_any (nM s) (by show s.size + 1 + 0 ≤ _; have := QS.out; omega) _ _ _ (TreeFix.C0 _) (Nat.le_refl 0) (HT.out.on HB.out).here).mono fun e w' h => (⟨h.1.trans (by rw [WM.out]), h.2⟩ : e = .returned (.bool false) ∧ _)).mono ?_
            rintro e w6 ⟨rfl, hb⟩
            have n0_ := Lib.hid (below_step HB.out hb); have n1_ := Lib.hid (blk_below BT.out hb)
            clear HB BT hb t0 t1 t2 t3
            have HB := n0_; have BT := n1_
            clear n0_ n1_
            have t0 := blk_cell BT.out 0; have t1 := blk_cell BT.out 1; have t2 := blk_cell BT.out 2; have t3 := blk_cell BT.out 3
            simp only [List.getElem?_toArray, List.getElem?_cons_zero, List.getElem?_cons_succ] at t0 t1 t2 t3
            go_wp2_with fail
            refine ((TreeMay.whole_any (nI s) (by show s.size + 1 + 0 ≤ _; have := QS.out; omega) _ _ _ (TreeFix.C0 _) (Nat.le_refl 0) (HT.out.on HB.out).here).mono fun e w' h => (⟨h.1.trans (by rw [WI.out]), h.2⟩ : e = .returned (.bool false) ∧ _)).mono ?_
            rintro e w6 ⟨rfl, hb⟩
            have n0_ := Lib.hid (below_step HB.out hb); have n1_ := Lib.hid (blk_below BT.out hb)
            clear HB BT hb t0 t1 t2 t3
            have HB := n0_; have BT := n1_
            clear n0_ n1_
            have t0 := blk_cell BT.out 0; have t1 := blk_cell BT.out 1; have t2 := blk_cell BT.out 2; have t3 := blk_cell BT.out 3
            simp only [List.getElem?_toArray, List.getElem?_cons_zero, List.getElem?_cons_succ] at t0 t1 t2 t3
            go_wp2_with fail
            go_ret
            exact ⟨rfl, HB.out⟩
          · have c2 : ((k : Int) == 2) = false := beq_eq_false_iff_ne.2 (by omega)
            have K2 := Lib.hid q
            clear q
            have WV : Hid (whole (nV s) = false) := Lib.hid (by rw [w_V, V1.out]; (try simp [QT.out]))
            have WC : Hid (whole (nC s) = false) := Lib.hid (by rw [w_C, V2.out]; (try simp [QT.out]))
            have WM := Lib.hid (w_M s)
            go_wp2_with fail
            refine ((TreeMay.whole_any (nV s) (by show s.size + 1 + 0 ≤ _; have := QS.out; omega) _ _ _ (TreeFix.C0 _) (Nat.le_refl 0) (HT.out.on HB.out).here).mono fun e w' h => (⟨h.1.trans (by rw [WV.out]), h.2⟩ : e = .returned (.bool false) ∧ _)).mono ?_
            rintro e w6 ⟨rfl, hb⟩
            have n0_ := Lib.hid (below_step HB.out hb); have n1_ := Lib.hid (blk_below BT.out hb)
            clear HB BT hb t0 t1 t2 t3
            have HB := n0_; have BT := n1_
            clear n0_ n1_
            have t0 := blk_cell BT.out 0; have t1 := blk_cell BT.out 1; have t2 := blk_cell BT.out 2; have t3 := blk_cell BT.out 3
            simp only [List.getElem?_toArray, List.getElem?_cons_zero, List.getElem?_cons_succ] at t0 t1 t2 t3
            go_wp2_with fail
            refine ((TreeMay.whole_any (nC s) (by show s.size + 1 + 0 ≤ _; have := QS.out; omega) _ _ _ (TreeFix.C0 _) (Nat.le_refl 0) (HT.out.on HB.out).here).mono fun e w' h => (⟨h.1.trans (by rw [WC.out]), h.2⟩ : e = .returned (.bool false) ∧ _)).mono ?_
            rintro e w6 ⟨rfl, hb⟩
            have n0_ := Lib.hid (below_step HB.out hb); have n1_ := Lib.hid (blk_below BT.out hb)
            clear HB BT hb t0 t1 t2 t3
            have HB := n0_; have BT := n1_
            clear n0_ n1_
            have t0 := blk_cell BT.out 0; have t1 := blk_cell BT.out 1; have t2 := blk_cell BT.out 2; have t3 := blk_cell BT.out 3
            simp only [List.getElem?_toArray, List.getElem?_cons_zero, List.getElem?_cons_succ] at t0 t1 t2 t3
            go_wp2_with fail
            refine ((TreeMay.whole_any (nM s) (by show s.size + 1 + 0 ≤ _; have := QS.out; omega) _ _ _ (TreeFix.C0 _) (Nat.le_refl 0) (HT.out.on HB.out).here).mono fun e w' h => (⟨h.1.trans (by rw [WM.out]), h.2⟩ : e = .returned (.bool false) ∧ _)).mono ?_
            rintro e w6 ⟨rfl, hb⟩
            have n0_ := Lib.hid (below_step HB.out hb); have n1_ := Lib.hid (blk_below BT.out hb)
            clear HB BT hb t0 t1 t2 t3
            have HB := n0_; have BT := n1_
            clear n0_ n1_
            have t0 := blk_cell BT.out 0; have t1 := blk_cell BT.out 1; have t2 := blk_cell BT.out 2; have t3 := blk_cell BT.out 3
            simp only [List.getElem?_toArray, List.getElem?_cons_zero, List.getElem?_cons_succ] at t0 t1 t2 t3
            go_wp2_with fail
            refine ((TreeMay.whole_any (nI s) (by show s.size + 1 + 0 ≤ _; have := QS.out; omega) _ _ _ (TreeFix.C0 _) (Nat.le_refl 0) (HT.out.on HB.out).here).mono fun e w' h => (⟨h.1.trans (by rw [WI.out]), h.2⟩ : e = .returned (.bool false) ∧ _)).mono ?_
            rintro e w6 ⟨rfl, hb⟩
            have n0_ := Lib.hid (below_step HB.out hb); have n1_ := Lib.hid (blk_below BT.out hb)
            clear HB BT hb t0 t1 t2 t3
            have HB := n0_; have BT := n1_
            clear n0_ n1_
            have t0 := blk_cell BT.out 0; have t1 := blk_cell BT.out 1; have t2 := blk_cell BT.out 2; have t3 := blk_cell BT.out 3
            simp only [List.getElem?_toArray, List.getElem?_cons_zero, List.getElem?_cons_succ] at t0 t1 t2 t3
            go_wp2_with fail
            go_ret
            exact ⟨rfl, HB.out⟩
end Go.Proofs.YthdkjfhpbigdpaaDoor.Pure

-- Written for this claim.
namespace Go.Proofs.YthdkjfhpbigdpaaDoor.Pure
open Go Go.RowKit
namespace TreeTab
theorem gTab : Tryd.prog.globalNamed "strings.asciiSpace" = some 0 := by kernel_rfl
theorem gTabType : (Tryd.prog.globals[0]?).map (·.type) = some 61 := by kernel_rfl
theorem data : (Rows.laid_strings_asciiSpace : DataW Unit) = Lib.tabData .u8 Lib.asciiSpaceTab := by kernel_rfl
theorem tab_of {W : World} (h : laidMetH Tryd.prog Rows.treeSameUptoRow.laid W) : Lib.TabIs Tryd.prog W "strings.asciiSpace" .u8 Lib.asciiSpaceTab := by
  rw [MakeChecks.laidMetH_plain _ _ _ (by kernel_rfl)] at h
  have h2 := h.tail.tail.tail.tail.tail.tail.tail
  rw [data] at h2
  exact Lib.tabIs_of_head gTab gTabType Tryd.underlying61 Tryd.underlying5 (by kernel_rfl) (by kernel_rfl) h2
end TreeTab
end Go.Proofs.YthdkjfhpbigdpaaDoor.Pure
