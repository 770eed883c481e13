-- Written for this claim: several texts in one.
import Derived.Test.YthgmpflfgicmbaaDoorQx8
import Derived.Test.YthgmpflfgicmbaaDoorQx9
import Derived.Test.YthgmpflfgicmbaaDoorQx11
import Derived.Test.YthgmpflfgicmbaaDoorQx12
import Derived.Test.YthgmpflfgicmbaaDoorQx13
import Derived.Test.YthgmpflfgicmbaaDoorQx10
import Derived.Test.YthgmpflfgicmbaaDoorPLexMore
import Derived.Test.YthgmpflfgicmbaaDoorHLexNum
import Derived.Test.YthgmpflfgicmbaaDoorHLexKind
import Derived.Deep.RegionWith
import Derived.Test.YthgmpflfgicmbaaDoorHLexPl
import Derived.OwnWalk
import Derived.Test.YthgmpflfgicmbaaDoorQx16
import Derived.Test.YthgmpflfgicmbaaDoorRows
import Derived.Test.YthgmpflfgicmbaaDoorQx0
import Derived.Deep.Slices
import Derived.ProofKit
import Derived.OpenShut
-- Written for this claim.
namespace Go.Proofs.YthgmpflfgicmbaaDoor.Pure
open Go Go.RowKit Go.Proofs.YthgmpflfgicmbaaDoor.Q Go.Proofs.YthgmpflfgicmbaaDoorW.PrintWords Go.Proofs.YthgmpflfgicmbaaDoorW.PrintLast Go.Proofs.YthgmpflfgicmbaaDoorW.PrintMore
open HLexC (toS)
open HLex (Tok Stands lower upper digit wordly num signs)
open More
namespace Refs
/-- A byte's class. -/
def cl (c : UInt8) : Int := if lower c then 1 else if upper c then 2 else if digit c then 3 else if HLex.blank c then 4 else 0
theorem blank_nat (c : UInt8) : HLex.blank c = (decide (c.toNat = 32) || decide (c.toNat = 10) || decide (c.toNat = 9)) := by
  unfold HLex.blank
  have e : ∀ d : UInt8, (c == d) = decide (c.toNat = d.toNat) := fun d => by
    by_cases h : c = d
    · subst h; simp
    · have h' : ¬ c.toNat = d.toNat := fun he => h (UInt8.toNat_inj.1 he)
      simp [h, h']
  rw [e, e, e]; rfl
theorem class_is (c : UInt8) (k : Nat) : gossamerref01_class.f (k + 3) (c.toNat : Int) = some (cl c) := by
  unfold gossamerref01_class.f gossamerref01_class.j0 gossamerref01_class.j1 gossamerref01_class.j2 cl
  rw [blank_nat]
  simp only [lower, upper, digit]
  by_cases h1 : 97 ≤ c.toNat <;> by_cases h2 : c.toNat ≤ 122 <;> by_cases h3 : 65 ≤ c.toNat <;> by_cases h4 : c.toNat ≤ 90 <;> by_cases h5 : 48 ≤ c.toNat <;> by_cases h6 : c.toNat ≤ 57 <;> first
    | omega
    | (have e1 : ((c.toNat : Int) ≥ 97) ↔ (97 ≤ c.toNat) := by omega
       have e2 : ((c.toNat : Int) ≤ 122) ↔ (c.toNat ≤ 122) := by omega
       have e3 : ((c.toNat : Int) ≥ 65) ↔ (65 ≤ c.toNat) := by omega
       have e4 : ((c.toNat : Int) ≤ 90) ↔ (c.toNat ≤ 90) := by omega
       have e5 : ((c.toNat : Int) ≥ 48) ↔ (48 ≤ c.toNat) := by omega
       have e6 : ((c.toNat : Int) ≤ 57) ↔ (c.toNat ≤ 57) := by omega
       have e7 : ((c.toNat : Int) = 32) ↔ (c.toNat = 32) := by omega
       have e8 : ((c.toNat : Int) = 10) ↔ (c.toNat = 10) := by omega
       have e9 : ((c.toNat : Int) = 9) ↔ (c.toNat = 9) := by omega
       simp only [e1, e2, e3, e4, e5, e6, e7, e8, e9, h1, h2, h3, h4, h5, h6, decide_true, decide_false, Bool.and_true, Bool.and_false, Bool.true_and, Bool.false_and, if_true, if_false, Bool.false_eq_true]
       try (by_cases h7 : c.toNat = 32 <;> by_cases h8 : c.toNat = 10 <;> by_cases h9 : c.toNat = 9 <;> simp [h7, h8, h9]))
def letter (c : UInt8) : Bool := decide (57 < c.toNat)
theorem cl_wordly (c : UInt8) : (1 ≤ cl c ∧ cl c ≤ 3) ↔ wordly c = true := by
  unfold cl wordly
  cases h1 : lower c <;> cases h2 : upper c <;> cases h3 : digit c <;> cases h4 : HLex.blank c <;> simp
theorem cl_letter (c : UInt8) (h : wordly c = true) : decide (cl c < 3) = letter c := by
  unfold cl letter
  simp only [wordly, lower, upper, digit, Bool.or_eq_true, Bool.and_eq_true, decide_eq_true_eq] at h ⊢
  by_cases h1 : 97 ≤ c.toNat ∧ c.toNat ≤ 122
  · simp [h1]; omega
  · by_cases h2 : 65 ≤ c.toNat ∧ c.toNat ≤ 90
    · simp [h1, h2]; omega
    · have h3 : 48 ≤ c.toNat ∧ c.toNat ≤ 57 := by rcases h with (h | h) | h <;> first | exact absurd h h1 | exact absurd h h2 | exact h
      simp [h1, h2, h3]
theorem bt_nat (a : ByteArray) (i : Nat) (c : UInt8) (h : a.data.toList[i]? = some c) : bt a (i : Int) = (c.toNat : Int) := by
  obtain ⟨hi, hc⟩ := List.getElem?_eq_some_iff.1 h
  unfold bt
  have h' : i < a.size := by simpa using hi
  simp [h', ← hc]
  rfl
theorem run_from (s : ByteArray) (at_ : Nat) (hs : s.size ≤ 1000000) : ∀ (l : List UInt8) (n : Nat) (b : Bool) (k : Nat), s.data.toList.drop (at_ + n) = l → at_ + n ≤ s.size → l.length + 4 ≤ k →
    gossamerref01_run.l0 k s at_ n b = some (((n + (l.takeWhile wordly).length : Nat) : Int), b || (l.takeWhile wordly).any letter)
  | l, n, b, 0, _, _, hk => by omega
  | [], n, b, k + 1, h, hle, _ => by
    have hl : s.data.toList.length ≤ at_ + n := List.drop_eq_nil_iff.1 h
    rw [size_len] at hl
    unfold gossamerref01_run.l0
    rw [wrap_small (by omega) (by omega), if_neg (by omega)]
    simp
  | c :: r, n, b, k + 1, h, hle, hk => by
    have hlen : at_ + n < s.data.toList.length := by
      have := congrArg List.length h
      rw [List.length_drop, List.length_cons] at this; omega
    have hc : s.data.toList[at_ + n]? = some c := by
      have := congrArg (fun l => l[0]?) h
      simpa using this
    rw [size_len] at hlen
    obtain ⟨k, rfl⟩ : ∃ j, k = j + 3 := ⟨k - 3, by simp at hk; omega⟩
    unfold gossamerref01_run.l0
    have hw : wrap64 ((at_ : Int) + (n : Int)) = ((at_ + n : Nat) : Int) := by rw [wrap_small (by omega) (by omega)]; omega
    rw [hw, if_pos (by omega), if_pos (by omega), bt_nat s _ c hc, class_is, Option.bind_some]
    by_cases hwc : wordly c = true
    · obtain ⟨h1, h3⟩ := (cl_wordly c).2 hwc
      rw [if_neg (by omega), if_neg (by omega), wrap_small (n := (n : Int) + 1) (by omega) (by omega)]
      have hr : s.data.toList.drop (at_ + (n + 1)) = r := by
        rw [← Nat.add_assoc, ← List.drop_drop, h]; rfl
      have ih := fun b' => run_from s at_ hs r (n + 1) b' (k + 3) hr (by omega) (by simp at hk; omega)
      have e1 : ((n : Int) + 1) = ((n + 1 : Nat) : Int) := by omega
      rw [e1, cl_letter c hwc]
      have e2 : (n + 1 + (List.takeWhile wordly r).length : Nat) = n + (List.takeWhile wordly (c :: r)).length := by simp [List.takeWhile, hwc]; omega
      cases b
      · rw [if_neg (by simp), ih, e2]
        simp [List.takeWhile, hwc]
      · rw [if_pos rfl, ih, e2]
        simp
    · have hwc' : wordly c = false := by simpa using hwc
      have hout : cl c < 1 ∨ cl c > 3 := by
        have := mt (cl_wordly c).1 hwc
        omega
      rcases hout with h1 | h3
      · rw [if_pos h1]; simp [List.takeWhile, hwc']
      · rw [if_neg (by omega), if_pos h3]; simp [List.takeWhile, hwc']
theorem run_is (s : ByteArray) (at_ : Nat) (hs : s.size ≤ 1000000) (hat : at_ ≤ s.size) : gossamerref01_run.f (s.size + 4) s at_ = some ((((s.data.toList.drop at_).takeWhile wordly).length : Int), ((s.data.toList.drop at_).takeWhile wordly).any letter) := by
  unfold gossamerref01_run.f
  have := run_from s at_ hs (s.data.toList.drop at_) 0 false (s.size + 4) rfl hat (by rw [List.length_drop, size_len]; omega)
  simpa using this
theorem num_from (t : ByteArray) (ht : t.size ≤ 18) (hd : ∀ d ∈ t.data.toList, digit d = true) : ∀ (m j k : Nat), j + m = t.size → m < k → gossamerref01_number.l0 k t (num (t.data.toList.take j)) j = some (num t.data.toList : Int)
  | m, j, 0, _, hk => by omega
  | 0, j, k + 1, h, _ => by
    unfold gossamerref01_number.l0
    rw [if_neg (by omega), List.take_of_length_le (by rw [size_len]; omega)]
  | m + 1, j, k + 1, h, hk => by
    have hj : j < t.data.toList.length := by rw [size_len]; omega
    have hdj := hd _ (List.getElem_mem hj)
    simp only [digit, Bool.and_eq_true, decide_eq_true_eq] at hdj
    have hsm := HLex.num_small t.data.toList hd j (by omega) (by omega)
    unfold gossamerref01_number.l0
    rw [if_pos (by omega), if_pos (by omega), bt_nat t j _ (List.getElem?_eq_getElem hj)]
    have e1 : wrap64 ((wrap64 ((wrap64 (10 * (num (t.data.toList.take j) : Int))) + (wrap64 ((t.data.toList[j]).toNat : Int)))) - 48) = ((num (t.data.toList.take (j + 1)) : Nat) : Int) := by
      rw [HLex.num_take _ _ hj, wrap_small (n := 10 * _) (by omega) (by omega), wrap_small (n := ((t.data.toList[j]).toNat : Int)) (by omega) (by omega), wrap_small (n := _ + _) (by omega) (by omega), wrap_small (by omega) (by omega)]
      omega
    rw [e1, wrap_small (by omega) (by omega)]
    exact num_from t ht hd m (j + 1) k (by omega) (by omega)
theorem number_is (t : ByteArray) (ht : t.size ≤ 18) (hd : ∀ d ∈ t.data.toList, digit d = true) : gossamerref01_number.f 20 t = some (num t.data.toList : Int) := by
  unfold gossamerref01_number.f
  exact num_from t ht hd t.size 0 20 (by omega) (by omega)
theorem rword_is (a : ByteArray) : gossamerref01_Word.f a = some (HLex.isWord a.data.toList) := by
  unfold gossamerref01_Word.f
  rw [Lib.toList_data]
  by_cases h1 : a.data.toList = [108, 101, 116]
  · simp [h1, HLex.isWord, HLex.words]
  by_cases h2 : a.data.toList = [108, 101, 116, 114, 101, 99]
  · simp [h2, HLex.isWord, HLex.words]
  by_cases h3 : a.data.toList = [105, 110]
  · simp [h3, HLex.isWord, HLex.words]
  by_cases h4 : a.data.toList = [99, 97, 115, 101]
  · simp [h4, HLex.isWord, HLex.words]
  by_cases h5 : a.data.toList = [111, 102] <;> simp [h1, h2, h3, h4, h5, HLex.isWord, HLex.words]
def tab : List UInt8 := [92, 46, 40, 41, 61, 123, 125, 124, 43, 45, 42, 47, 60]
theorem signs_are : signs = [45, 62] :: [61, 61] :: tab.map (fun x => [x]) := rfl
theorem find_singles (c : UInt8) (r : List UInt8) : ∀ T : List UInt8, (T.map (fun x => [x])).find? (fun s => s.isPrefixOf (c :: r)) = if T.contains c then some [c] else none
  | [] => rfl
  | x :: T => by
    rw [List.map_cons, List.find?_cons]
    by_cases h : x = c
    · subst h; simp [List.isPrefixOf]
    · have h2 : ¬ c = x := fun e => h e.symm
      have e : ([x] : List UInt8).isPrefixOf (c :: r) = false := by simp [List.isPrefixOf, h]
      rw [e]
      simp only [find_singles c r T, List.contains_cons]
      simp [h2]
theorem two_pre (a b c : UInt8) (r : List UInt8) : ([a, b] : List UInt8).isPrefixOf (c :: r) = decide ((c :: r).take 2 = [a, b]) := by
  rw [Bool.eq_iff_iff, List.isPrefixOf_iff_prefix, List.prefix_iff_eq_take, decide_eq_true_iff]
  exact eq_comm
theorem find_signs (c : UInt8) (r : List UInt8) : signs.find? (fun s => s.isPrefixOf (c :: r)) = if (c :: r).take 2 = [45, 62] then some [45, 62] else if (c :: r).take 2 = [61, 61] then some [61, 61] else if tab.contains c then some [c] else none := by
  rw [signs_are, List.find?_cons, two_pre, List.find?_cons, two_pre, find_singles]
  by_cases h1 : (c :: r).take 2 = [45, 62]
  · simp only [h1, decide_true, if_true]
  · rw [if_neg h1, decide_eq_false h1]
    by_cases h2 : (c :: r).take 2 = [61, 61]
    · simp only [h2, decide_true, if_true]
    · rw [if_neg h2, decide_eq_false h2]
theorem tab_bytes : ∀ i : Nat, i < 13 → (⟨#[92, 46, 40, 41, 61, 123, 125, 124, 43, 45, 42, 47, 60]⟩ : ByteArray).data.toList[i]? = tab[i]? := fun i _ => rfl
theorem sign_loop (s : ByteArray) (at_ : Nat) (c : UInt8) (hc : s.data.toList[at_]? = some c) : ∀ (m i k : Nat), i + m = 13 → m < k → gossamerref01_sign.l0 k s at_ i = some (if (tab.drop i).contains c then 1 else 0)
  | m, i, 0, _, hk => by omega
  | 0, i, k + 1, h, _ => by
    obtain rfl : i = 13 := by omega
    unfold gossamerref01_sign.l0
    rw [if_neg (by decide)]
    rfl
  | m + 1, i, k + 1, h, hk => by
    have hi : i < tab.length := by show i < 13; omega
    have hat : at_ < s.size := by have := (List.getElem?_eq_some_iff.1 hc).1; rwa [size_len] at this
    unfold gossamerref01_sign.l0
    rw [if_pos (by omega), if_pos (by omega), if_pos (by omega), if_pos (by omega), bt_nat s at_ c hc, bt_nat _ i tab[i] (by rw [tab_bytes i (by omega)]; exact List.getElem?_eq_getElem hi)]
    rw [List.drop_eq_getElem_cons hi, List.contains_cons]
    by_cases he : tab[i] = c
    · rw [if_pos (by rw [he]), he]; simp
    · have he2 : ¬ c = tab[i] := fun e => he e.symm
      have he3 : ¬ ((tab[i].toNat : Int) = (c.toNat : Int)) := fun e => he (UInt8.toNat_inj.1 (by omega))
      rw [if_neg he3, wrap_small (by omega) (by omega)]
      have ih := sign_loop s at_ c hc m (i + 1) k (by omega) (by omega)
      rw [show ((i : Int) + 1) = ((i + 1 : Nat) : Int) by omega, ih]
      simp [he2]
def signLen (l : List UInt8) : Nat := match signs.find? (fun s => s.isPrefixOf l) with | some t => t.length | none => 0
theorem extract_two (s : ByteArray) (at_ : Nat) : (s.extract at_ (at_ + 2)).data.toList = (s.data.toList.drop at_).take 2 := by
  simp [ByteArray.extract, ByteArray.copySlice]
theorem sign_is (s : ByteArray) (at_ : Nat) (c : UInt8) (r : List UInt8) (hs : s.size ≤ 1000000) (hl : s.data.toList.drop at_ = c :: r) : gossamerref01_sign.f 20 s at_ = some (signLen (c :: r) : Int) := by
  have hc : s.data.toList[at_]? = some c := by
    have := congrArg (fun l => l[0]?) hl
    simpa using this
  have hlen : at_ + (r.length + 1) = s.size := by
    have := congrArg List.length hl
    rw [List.length_drop, List.length_cons, size_len] at this; omega
  have hlp := sign_loop s at_ c hc 13 0 19 rfl (by omega)
  rw [List.drop_zero] at hlp
  unfold signLen
  rw [find_signs]
  unfold gossamerref01_sign.f
  rw [wrap_small (n := (at_ : Int) + 1) (by omega) (by omega), wrap_small (n := (at_ : Int) + 2) (by omega) (by omega)]
  have hnone : ∀ b, b = false → gossamerref01_sign.j0 20 s at_ b = some (if tab.contains c then 1 else 0) := by
    rintro b rfl
    show gossamerref01_sign.j0 (19 + 1) s at_ false = _
    rw [gossamerref01_sign.j0, if_neg (by simp)]
    exact hlp
  clear hlp
  generalize tab.contains c = q at *
  cases r with
  | nil =>
    rw [if_neg (by simp at hlen; omega), hnone _ rfl]
    simp only [List.take_succ_cons, List.take_nil]
    cases q <;> simp
  | cons d r =>
    simp only [List.length_cons] at hlen
    rw [if_pos (by omega), if_pos (by omega), if_pos (by omega), if_pos (by omega)]
    have hx : (s.extract (at_ : Int).toNat ((at_ : Int) + 2).toNat).toList = (c :: d :: r).take 2 := by
      rw [Lib.toList_data, ← hl, ← extract_two]
      have e1 : (at_ : Int).toNat = at_ := by omega
      have e2 : ((at_ : Int) + 2).toNat = at_ + 2 := by omega
      rw [e1, e2]
    rw [hx]
    by_cases h1 : (c :: d :: r).take 2 = [45, 62]
    · rw [if_pos h1, if_pos h1]; rfl
    · rw [if_neg h1, if_neg h1]
      by_cases h2 : (c :: d :: r).take 2 = [61, 61]
      · rw [if_pos h2, h2]; rfl
      · rw [if_neg h2, hnone _ (by simpa using h2)]
        cases q <;> simp
end Refs
end Go.Proofs.YthgmpflfgicmbaaDoor.Pure

-- Written for this claim.
namespace Go.Proofs.YthgmpflfgicmbaaDoor.Pure
open Go Go.RowKit Go.Lib Go.Proofs Go.Proofs.YthgmpflfgicmbaaDoor.Q Go.Proofs.YthgmpflfgicmbaaDoorW.PrintWords Go.Proofs.YthgmpflfgicmbaaDoorW.PrintLast Go.Proofs.YthgmpflfgicmbaaDoorW.PrintMore
open HLexC (toS)
open HLex (Tok Stands lower upper digit wordly num signs)
open More
namespace Refs
set_option linter.unusedVariables false
set_option linter.unusedSimpArgs false
def OnePost (s : ByteArray) (at_ : Nat) (w : World) (e : Ending) (w' : World) : Prop :=
  match HLex.first (s.data.toList.drop at_) with
  | .ok (k, t, n) => e = .returned (.tuple #[.agg #[.int .i64 (k : Int), .string ⟨t.toArray⟩, .int .i64 (n : Int), .int .i64 (at_ : Int)], .int .i64 0]) ∧ Below w.heap.size w w'
  | .error er => e = .returned (.tuple #[.agg #[.int .i64 0, .string ⟨#[]⟩, .int .i64 0, .int .i64 0], .int .i64 (er : Int)]) ∧ Below w.heap.size w w'
theorem extract_is (s : ByteArray) (at_ k : Nat) (t r : List UInt8) (hl : s.data.toList.drop at_ = r) (ht : r.take k = t) : s.extract at_ (at_ + k) = ⟨t.toArray⟩ := by
  refine (HLexC.bytes_eq_iff _ _).2 ?_
  have : (s.extract at_ (at_ + k)).data.toList = (s.data.toList.drop at_).take k := by simp [ByteArray.extract, ByteArray.copySlice]
  rw [this, hl, ht]
theorem below4 {B : Nat} {w w' : World} (h : Below B w w') {g : Nat} (hg : B ≤ g) (u0 u1 u2 u3 : Value) : Below B w ((((w'.setCell ⟨g, 0, none⟩ u0).setCell ⟨g, 1, none⟩ u1).setCell ⟨g, 2, none⟩ u2).setCell ⟨g, 3, none⟩ u3) :=
  (((h.setCell (p := ⟨g, 0, none⟩) hg u0).setCell (p := ⟨g, 1, none⟩) hg u1).setCell (p := ⟨g, 2, none⟩) hg u2).setCell (p := ⟨g, 3, none⟩) hg u3
def Z : Obj := Obj.cells #[Value.int .i64 0, Value.string ⟨#[]⟩, Value.int .i64 0, Value.int .i64 0] 33
set_option maxRecDepth 100000 in
theorem one_sign (s : ByteArray) (at_ : Nat) (w : World) (hs : s.size ≤ 1000000) (c : UInt8) (r : List UInt8) (hl : s.data.toList.drop at_ = c :: r) (hw : (c :: r).takeWhile wordly = []) :
    Calls Tryd.prog 22 #[.string s, .int .i64 at_] w (OnePost s at_ w) := by
  have hlen : at_ + (r.length + 1) = s.size := by
    have := congrArg List.length hl
    rw [List.length_drop, List.length_cons, size_len] at this; omega
  have hr0 := run_is s at_ hs (by omega)
  rw [hl, hw] at hr0
  have HR := Lib.hid hr0
  have hs0 := sign_is s at_ c r hs hl
  have HS := Lib.hid hs0
  have HL := Lib.hid hl
  have HW := Lib.hid hw
  clear hr0 hs0 hl hw
  have hb0 := blk_new w Z
  have hbA := below_alloc (Below.refl w.heap.size w) Z
  have BK := Lib.hid hb0; have BB := Lib.hid hbA
  clear hb0 hbA
  go_enter Tryd.func22, Tryd.ntmps22
  go_wp2_with fail
  refine (gossamerref01_run.calls (s.size + 4) s at_ _ _ _ HR.out).mono ?_
  rintro e wf ⟨rfl, hd⟩
  have n0_ := Lib.hid (blk_below BK.out hd.below)
  have n1_ := Lib.hid (below_step BB.out hd.below)
  clear BK BB hd
  have BK := n0_; have BB := n1_
  clear n0_ n1_
  go_wp2_with fail
  refine (gossamerref01_sign.calls 20 s at_ _ _ HS.out).mono ?_
  rintro e w2 ⟨rfl, hd⟩
  have n0_ := Lib.hid (blk_below BK.out hd.below)
  have n1_ := Lib.hid (below_step BB.out hd.below)
  clear BK BB hd
  have BK := n0_; have BB := n1_
  clear n0_ n1_
  cases hf : signs.find? (fun s => s.isPrefixOf (c :: r)) with
  | none =>
    have hk : signLen (c :: r) = 0 := by unfold signLen; rw [hf]
    rw [hk]
    have HF := Lib.hid hf
    clear hf hk
    have c0 := blk_cell BK.out 0; have c1 := blk_cell BK.out 1; have c2 := blk_cell BK.out 2; have c3 := blk_cell BK.out 3
    have z0 := blk_frozen BK.out 0; have z1 := blk_frozen BK.out 1; have z2 := blk_frozen BK.out 2; have z3 := blk_frozen BK.out 3
    simp only [List.getElem?_toArray, List.getElem?_cons_zero, List.getElem?_cons_succ] at c0 c1 c2 c3
    go_wp2_with fail
    refine bodyPost_ret (results_ct rfl _ _ w.heap.size 33 #[.int .i64 0, .string ⟨#[]⟩, .int .i64 0, .int .i64 0] (0, 0) _ rfl (blk_put (blk_put (blk_put (blk_put BK.out 0 _ rfl) 1 _ rfl) 2 _ rfl) 3 _ rfl) Tryd.underlying33 rfl (by kernel_rfl)) rfl ?_
    unfold OnePost
    have hfst : HLex.first (c :: r) = .error 10 := by unfold HLex.first; simp only [HW.out, if_true, HF.out]
    rw [HL.out, hfst]
    exact ⟨rfl, below4 BB.out (Nat.le_refl _) _ _ _ _⟩
  | some t =>
    have hk : signLen (c :: r) = t.length := by unfold signLen; rw [hf]
    have htm := List.mem_of_find?_eq_some hf
    have hpre : t <+: c :: r := by
      have := List.find?_some hf
      exact List.isPrefixOf_iff_prefix.1 this
    have ht0 : 0 < t.length := List.length_pos_iff.2 (HLex.sign_facts t htm).1
    have ht1 : t.length ≤ r.length + 1 := by have := hpre.length_le; rwa [List.length_cons] at this
    rw [hk]
    have HF := Lib.hid hf
    have HP := Lib.hid hpre
    clear hf hk htm hpre
    have c0 := blk_cell BK.out 0; have c1 := blk_cell BK.out 1; have c2 := blk_cell BK.out 2; have c3 := blk_cell BK.out 3
    have z0 := blk_frozen BK.out 0; have z1 := blk_frozen BK.out 1; have z2 := blk_frozen BK.out 2; have z3 := blk_frozen BK.out 3
    simp only [List.getElem?_toArray, List.getElem?_cons_zero, List.getElem?_cons_succ] at c0 c1 c2 c3
    have hx := extract_is s at_ t.length t (c :: r) HL.out (by obtain ⟨u, hu⟩ := HP.out; rw [← hu]; simp)
    have HX := Lib.hid hx
    clear hx
    have i1 : (at_ : Int) ≤ at_ + (t.length : Int) := by omega
    have i2 : (at_ : Int) + (t.length : Int) ≤ (s.size : Int) := by omega
    have i3 : ((at_ : Int) + (t.length : Int)).toNat = at_ + t.length := by omega
    go_wp2_with fail
    refine bodyPost_ret (results_ct rfl _ _ w.heap.size 33 #[.int .i64 5, .string (s.extract at_ (at_ + t.length)), .int .i64 0, .int .i64 at_] (0, 0) _ rfl (blk_put (blk_put (blk_put (blk_put BK.out 0 _ rfl) 1 _ rfl) 2 _ rfl) 3 _ rfl) Tryd.underlying33 rfl (by kernel_rfl)) rfl ?_
    unfold OnePost
    rw [HL.out, HLex.first_sign HW.out HF.out, HX.out]
    exact ⟨rfl, below4 BB.out (Nat.le_refl _) _ _ _ _⟩
set_option maxRecDepth 100000 in
theorem one_word (s : ByteArray) (at_ : Nat) (w : World) (hs : s.size ≤ 1000000) (c : UInt8) (r : List UInt8) (hl : s.data.toList.drop at_ = c :: r) (hc : wordly c = true) :
    Calls Tryd.prog 22 #[.string s, .int .i64 at_] w (OnePost s at_ w) := by
  have hlen : at_ + (r.length + 1) = s.size := by
    have := congrArg List.length hl
    rw [List.length_drop, List.length_cons, size_len] at this; omega
  obtain ⟨wd, hwd⟩ : ∃ wd, (c :: r).takeWhile wordly = wd := ⟨_, rfl⟩
  have hr0 := run_is s at_ hs (by omega)
  rw [hl, hwd] at hr0
  have hwn : 0 < wd.length := by rw [← hwd]; simp [List.takeWhile, hc]
  have hwl : wd.length ≤ r.length + 1 := by have := HLex.tw_len wordly (c :: r); rw [hwd] at this; simpa using this
  have hhd : wd.head? = some c := by rw [← hwd]; simp [List.takeWhile, hc]
  have hx : s.extract at_ (at_ + wd.length) = ⟨wd.toArray⟩ := extract_is s at_ wd.length wd (c :: r) hl (by rw [← hwd]; exact HLex.tw_eq_take _ _)
  have hcl := class_is c 1
  have hfst : HLex.first (c :: r) = match HLex.named wd with | .ok (k, n) => .ok (k, wd, n) | .error e => .error e := by
    unfold HLex.first
    have : (c :: r).takeWhile wordly ≠ [] := by rw [hwd]; exact List.length_pos_iff.1 hwn
    simp only [this, if_false]
    rw [hwd]
    rfl
  have hsc : ∀ h : at_ < s.size, s[at_]'h = c := fun h => by
    have h' : at_ < s.data.toList.length := by rw [size_len]; exact h
    have e1 : s.data.toList[at_]? = some c := by
      have := congrArg (fun l => l[0]?) hl
      simpa using this
    rw [List.getElem?_eq_getElem h'] at e1
    exact Option.some.inj e1
  have HR := Lib.hid hr0
  have HL := Lib.hid hl
  have HW := Lib.hid hwd
  have HC := Lib.hid hc
  have HCL := Lib.hid hcl
  have HX := Lib.hid hx
  have HH := Lib.hid hhd
  have HF := Lib.hid hfst
  clear hr0 hl hwd hc hcl hx hhd hfst
  have hb0 := blk_new w Z
  have hbA := below_alloc (Below.refl w.heap.size w) Z
  have BK := Lib.hid hb0; have BB := Lib.hid hbA
  clear hb0 hbA
  go_enter Tryd.func22, Tryd.ntmps22
  go_wp2_with fail
  refine (gossamerref01_run.calls (s.size + 4) s at_ _ _ _ HR.out).mono ?_
  rintro e wf ⟨rfl, hd⟩
  have n0_ := Lib.hid (blk_below BK.out hd.below)
  have n1_ := Lib.hid (below_step BB.out hd.below)
  clear BK BB hd
  have BK := n0_; have BB := n1_
  clear n0_ n1_
  have i1 : (at_ : Int) ≤ at_ + (wd.length : Int) := by omega
  have i2 : (at_ : Int) + (wd.length : Int) ≤ (s.size : Int) := by omega
  have i3 : ((at_ : Int) + (wd.length : Int)).toNat = at_ + wd.length := by omega
  -- behind the class call
  go_wp2_with fail
  have hgn := blk_lt BK.out
  have n0_ := Lib.hid (blk_alloc BK.out (Obj.cells #[Value.int .i64 0, Value.string (s.extract at_ (at_ + wd.length)), Value.int .i64 0, Value.int .i64 (at_ : Int)] 33))
  have n1_ := Lib.hid (below_alloc BB.out (Obj.cells #[Value.int .i64 0, Value.string (s.extract at_ (at_ + wd.length)), Value.int .i64 0, Value.int .i64 (at_ : Int)] 33))
  have n2_ := Lib.hid (blk_new wf (Obj.cells #[Value.int .i64 0, Value.string (s.extract at_ (at_ + wd.length)), Value.int .i64 0, Value.int .i64 (at_ : Int)] 33))
  clear BK BB
  have BK := n0_; have BB := n1_; have BT := n2_
  clear n0_ n1_ n2_
  refine (gossamerref01_class.calls 4 _ _ _ HCL.out).mono ?_
  rintro e w3 ⟨rfl, hd⟩
  have n0_ := Lib.hid (blk_below BK.out hd.below)
  have n1_ := Lib.hid (below_step BB.out hd.below)
  have n2_ := Lib.hid (blk_below BT.out hd.below)
  clear BK BB BT hd
  have BK := n0_; have BB := n1_; have BT := n2_
  clear n0_ n1_ n2_
  generalize wf.heap.size = g2 at *
  have c0 := blk_cell BK.out 0; have c1 := blk_cell BK.out 1; have c2 := blk_cell BK.out 2; have c3 := blk_cell BK.out 3
  have z0 := blk_frozen BK.out 0; have z1 := blk_frozen BK.out 1; have z2 := blk_frozen BK.out 2; have z3 := blk_frozen BK.out 3
  have d0 := blk_cell BT.out 0; have d1 := blk_cell BT.out 1; have d2 := blk_cell BT.out 2; have d3 := blk_cell BT.out 3
  have y0 := blk_frozen BT.out 0; have y1 := blk_frozen BT.out 1; have y2 := blk_frozen BT.out 2; have y3 := blk_frozen BT.out 3
  simp only [List.getElem?_toArray, List.getElem?_cons_zero, List.getElem?_cons_succ] at c0 c1 c2 c3 d0 d1 d2 d3
  have q1 : ¬ w.heap.size = g2 := by omega
  have q2 : ¬ g2 = w.heap.size := by omega
  have hwa : ∀ k n, HLex.named wd = .ok (k, n) → HLex.first (c :: r) = .ok (k, wd, n) := fun k n h => by rw [HF.out, h]
  have hwe : ∀ er, HLex.named wd = .error er → HLex.first (c :: r) = .error er := fun er h => by rw [HF.out, h]
  have HWA := Lib.hid hwa; have HWE := Lib.hid hwe
  clear hwa hwe
  by_cases hd : digit c = true
  · have e3 : cl c = 3 := by
      unfold cl; have := HLex.low_not (c := c)
      cases h1 : lower c
      · cases h2 : upper c
        · simp [hd]
        · simp only [upper, digit, Bool.and_eq_true, decide_eq_true_eq] at h2 hd; omega
      · rw [(HLex.low_not h1).2] at hd; cases hd
    have HD := Lib.hid hd
    clear hd
    rw [e3]
    clear e3
    cases ha : wd.any letter with
    | true =>
      have HA := Lib.hid ha
      clear ha
      go_wp2_with fail
      refine bodyPost_ret (results_ct rfl _ _ w.heap.size 33 #[.int .i64 0, .string ⟨#[]⟩, .int .i64 0, .int .i64 0] (0, 0) _ rfl (blk_put (blk_put (blk_put (blk_put BK.out 0 _ rfl) 1 _ rfl) 2 _ rfl) 3 _ rfl) Tryd.underlying33 rfl (by kernel_rfl)) rfl ?_
      unfold OnePost
      rw [HL.out, HWE.out 10 (by unfold HLex.named; rw [HH.out]; simp only [Option.map_some, Option.getD_some, HD.out]; exact if_pos HA.out)]
      exact ⟨rfl, below4 BB.out (Nat.le_refl _) _ _ _ _⟩
    | false =>
      have HA : Hid (wd.any (fun c => decide (57 < c.toNat)) = false) := Lib.hid ha
      clear ha
      by_cases h18 : 18 < wd.length
      · have j1 : decide ((wd.length : Int) > 18) = true := by simp; omega
        go_wp2_with fail
        refine bodyPost_ret (results_ct rfl _ _ w.heap.size 33 #[.int .i64 0, .string ⟨#[]⟩, .int .i64 0, .int .i64 0] (0, 0) _ rfl (blk_put (blk_put (blk_put (blk_put BK.out 0 _ rfl) 1 _ rfl) 2 _ rfl) 3 _ rfl) Tryd.underlying33 rfl (by kernel_rfl)) rfl ?_
        unfold OnePost
        rw [HL.out, HWE.out 11 (by unfold HLex.named; rw [HH.out]; simp only [Option.map_some, Option.getD_some, HD.out]; rw [if_pos trivial, HA.out, if_neg (by simp), if_pos (.inl h18)])]
        exact ⟨rfl, below4 BB.out (Nat.le_refl _) _ _ _ _⟩
      · have j1 : decide ((wd.length : Int) > 18) = false := by simp; omega
        by_cases h1 : 1 < wd.length
        · have j2 : decide ((wd.length : Int) > 1) = true := by simp; omega
          by_cases h0 : c.toNat = 48
          · have j3 : ((c.toNat : Int) == 48) = true := by simp; omega
            have hc48 := Lib.hid (UInt8.toNat_inj.1 h0 : c = 48)
            clear h0
            go_wp2_with fail
            refine bodyPost_ret (results_ct rfl _ _ w.heap.size 33 #[.int .i64 0, .string ⟨#[]⟩, .int .i64 0, .int .i64 0] (0, 0) _ rfl (blk_put (blk_put (blk_put (blk_put BK.out 0 _ rfl) 1 _ rfl) 2 _ rfl) 3 _ rfl) Tryd.underlying33 rfl (by kernel_rfl)) rfl ?_
            unfold OnePost
            rw [HL.out, HWE.out 11 (by unfold HLex.named; rw [HH.out]; simp only [Option.map_some, Option.getD_some, HD.out]; rw [if_pos trivial, HA.out, if_neg (by simp), if_pos (.inr ⟨h1, by rw [hc48.out]⟩)])]
            exact ⟨rfl, below4 BB.out (Nat.le_refl _) _ _ _ _⟩
          · have j3 : ((c.toNat : Int) == 48) = false := by simp; omega
            have H0 := Lib.hid h0
            clear h0
            have hall : ∀ d ∈ wd, digit d = true := by
              intro d hd
              have h1 : wordly d = true := by rw [← HW.out] at hd; exact HLex.tw_all _ _ d hd
              refine HLex.wordly_digit h1 fun h2 => ?_
              have : wd.any (fun c => decide (57 < c.toNat)) = true := List.any_eq_true.2 ⟨d, hd, by simpa using h2⟩
              rw [HA.out] at this; cases this
            have hnum := number_is (s.extract at_ (at_ + wd.length)) (by rw [HX.out]; show wd.toArray.size ≤ 18; simp; omega) (by rw [HX.out]; simpa using hall)
            rw [HX.out] at hnum
            simp only [List.toList_toArray] at hnum
            rw [← HX.out] at hnum
            have HN := Lib.hid hnum
            clear hnum hall
            go_wp2_with fail
            refine (gossamerref01_number.calls 20 _ _ _ HN.out).mono ?_
            rintro e w4 ⟨rfl, hd⟩
            have n0_ := Lib.hid (blk_below (blk_far (p := ⟨g2, 0, none⟩) BK.out q1 (.int .i64 (3))) hd.below)
            have n1_ := Lib.hid (below_step (BB.out.setCell (p := ⟨g2, 0, none⟩) (by show w.heap.size ≤ g2; omega) (.int .i64 (3))) hd.below)
            have n2_ := Lib.hid (blk_below (blk_put BT.out 0 (.int .i64 (3)) rfl) hd.below)
            clear BK BB BT hd c0 c1 c2 c3 z0 z1 z2 z3 d0 d1 d2 d3 y0 y1 y2 y3
            have BK := n0_; have BB := n1_; have BT := n2_
            clear n0_ n1_ n2_
            have c0 := blk_cell BK.out 0; have c1 := blk_cell BK.out 1; have c2 := blk_cell BK.out 2; have c3 := blk_cell BK.out 3
            have z0 := blk_frozen BK.out 0; have z1 := blk_frozen BK.out 1; have z2 := blk_frozen BK.out 2; have z3 := blk_frozen BK.out 3
            have d0 := blk_cell BT.out 0; have d1 := blk_cell BT.out 1; have d2 := blk_cell BT.out 2; have d3 := blk_cell BT.out 3
            have y0 := blk_frozen BT.out 0; have y1 := blk_frozen BT.out 1; have y2 := blk_frozen BT.out 2; have y3 := blk_frozen BT.out 3
            simp only [List.getElem?_toArray, List.getElem?_cons_zero, List.getElem?_cons_succ] at c0 c1 c2 c3
            simp at d0 d1 d2 d3
            go_wp2_with fail
            refine bodyPost_ret (results_ct rfl _ _ w.heap.size 33 #[.int .i64 3, .string (s.extract at_ (at_ + wd.length)), .int .i64 (num wd : Int), .int .i64 (at_ : Int)] (0, 0) _ rfl (blk_put (blk_put (blk_put (blk_put (blk_far (p := ⟨g2, 2, none⟩) BK.out q1 _) 0 _ rfl) 1 _ rfl) 2 _ rfl) 3 _ rfl) Tryd.underlying33 rfl (by kernel_rfl)) rfl ?_
            unfold OnePost
            rw [HL.out, HWA.out 3 (num wd) (by unfold HLex.named; rw [HH.out]; simp only [Option.map_some, Option.getD_some, HD.out]; rw [if_pos trivial, HA.out, if_neg (by simp), if_neg (by rintro (h | ⟨h, h'⟩) <;> first | exact absurd h h18 | exact absurd h h1 | exact absurd (congrArg UInt8.toNat (Option.some.inj h')) H0.out)]), HX.out]
            exact ⟨rfl, below4 (BB.out.setCell (p := ⟨g2, 2, none⟩) (by show w.heap.size ≤ g2; omega) _) (Nat.le_refl _) _ _ _ _⟩
        · have j2 : decide ((wd.length : Int) > 1) = false := by simp; omega
          have hall : ∀ d ∈ wd, digit d = true := by
            intro d hd
            have h1 : wordly d = true := by rw [← HW.out] at hd; exact HLex.tw_all _ _ d hd
            refine HLex.wordly_digit h1 fun h2 => ?_
            have : wd.any (fun c => decide (57 < c.toNat)) = true := List.any_eq_true.2 ⟨d, hd, by simpa using h2⟩
            rw [HA.out] at this; cases this
          have hnum := number_is (s.extract at_ (at_ + wd.length)) (by rw [HX.out]; show wd.toArray.size ≤ 18; simp; omega) (by rw [HX.out]; simpa using hall)
          rw [HX.out] at hnum
          simp only [List.toList_toArray] at hnum
          rw [← HX.out] at hnum
          have HN := Lib.hid hnum
          clear hnum hall
          go_wp2_with fail
          refine (gossamerref01_number.calls 20 _ _ _ HN.out).mono ?_
          rintro e w4 ⟨rfl, hd⟩
          have n0_ := Lib.hid (blk_below (blk_far (p := ⟨g2, 0, none⟩) BK.out q1 (.int .i64 (3))) hd.below)
          have n1_ := Lib.hid (below_step (BB.out.setCell (p := ⟨g2, 0, none⟩) (by show w.heap.size ≤ g2; omega) (.int .i64 (3))) hd.below)
          have n2_ := Lib.hid (blk_below (blk_put BT.out 0 (.int .i64 (3)) rfl) hd.below)
          clear BK BB BT hd c0 c1 c2 c3 z0 z1 z2 z3 d0 d1 d2 d3 y0 y1 y2 y3
          have BK := n0_; have BB := n1_; have BT := n2_
          clear n0_ n1_ n2_
          have c0 := blk_cell BK.out 0; have c1 := blk_cell BK.out 1; have c2 := blk_cell BK.out 2; have c3 := blk_cell BK.out 3
          have z0 := blk_frozen BK.out 0; have z1 := blk_frozen BK.out 1; have z2 := blk_frozen BK.out 2; have z3 := blk_frozen BK.out 3
          have d0 := blk_cell BT.out 0; have d1 := blk_cell BT.out 1; have d2 := blk_cell BT.out 2; have d3 := blk_cell BT.out 3
          have y0 := blk_frozen BT.out 0; have y1 := blk_frozen BT.out 1; have y2 := blk_frozen BT.out 2; have y3 := blk_frozen BT.out 3
          simp only [List.getElem?_toArray, List.getElem?_cons_zero, List.getElem?_cons_succ] at c0 c1 c2 c3
          simp at d0 d1 d2 d3
          go_wp2_with fail
          refine bodyPost_ret (results_ct rfl _ _ w.heap.size 33 #[.int .i64 3, .string (s.extract at_ (at_ + wd.length)), .int .i64 (num wd : Int), .int .i64 (at_ : Int)] (0, 0) _ rfl (blk_put (blk_put (blk_put (blk_put (blk_far (p := ⟨g2, 2, none⟩) BK.out q1 _) 0 _ rfl) 1 _ rfl) 2 _ rfl) 3 _ rfl) Tryd.underlying33 rfl (by kernel_rfl)) rfl ?_
          unfold OnePost
          rw [HL.out, HWA.out 3 (num wd) (by unfold HLex.named; rw [HH.out]; simp only [Option.map_some, Option.getD_some, HD.out]; rw [if_pos trivial, HA.out, if_neg (by simp), if_neg (by rintro (h | ⟨h, h'⟩) <;> first | exact absurd h h18 | exact absurd h h1 | exact absurd (congrArg UInt8.toNat (Option.some.inj h')) H0.out)]), HX.out]
          exact ⟨rfl, below4 (BB.out.setCell (p := ⟨g2, 2, none⟩) (by show w.heap.size ≤ g2; omega) _) (Nat.le_refl _) _ _ _ _⟩
  · have hd' : digit c = false := by simpa using hd
    clear hd
    obtain ⟨kc, hkc, e3⟩ : ∃ kc : Nat, kc = (if upper c then 2 else 1) ∧ cl c = (kc : Int) := by
      refine ⟨_, rfl, ?_⟩
      unfold cl
      cases h1 : lower c
      · cases h2 : upper c
        · have := HLex.wordly_low HC.out hd' h2; rw [h1] at this; cases this
        · rfl
      · rw [(HLex.low_not h1).1]; rfl
    have hk3 : kc = 1 ∨ kc = 2 := by rw [hkc]; cases upper c <;> simp
    have HD := Lib.hid hd'; have HK := Lib.hid hkc
    clear hd' hkc
    rw [e3]
    clear e3
    have j0 : ((kc : Int) == 3) = false := by simp; omega
    by_cases h16 : 16 < wd.length
    · have j1 : decide ((wd.length : Int) > 16) = true := by simp; omega
      go_wp2_with fail
      refine bodyPost_ret (results_ct rfl _ _ w.heap.size 33 #[.int .i64 0, .string ⟨#[]⟩, .int .i64 0, .int .i64 0] (0, 0) _ rfl (blk_put (blk_put (blk_put (blk_put BK.out 0 _ rfl) 1 _ rfl) 2 _ rfl) 3 _ rfl) Tryd.underlying33 rfl (by kernel_rfl)) rfl ?_
      unfold OnePost
      rw [HL.out, HWE.out 11 (by unfold HLex.named; rw [HH.out]; simp only [Option.map_some, Option.getD_some, HD.out]; rw [if_neg (by simp)]; rw [if_pos h16])]
      exact ⟨rfl, below4 BB.out (Nat.le_refl _) _ _ _ _⟩
    · have j1 : decide ((wd.length : Int) > 16) = false := by simp; omega
      have hword := rword_is (s.extract at_ (at_ + wd.length))
      rw [HX.out] at hword
      simp only [List.toList_toArray] at hword
      rw [← HX.out] at hword
      cases hiw : HLex.isWord wd with
      | true =>
        rw [hiw] at hword
        have HN := Lib.hid hword; have HI := Lib.hid hiw
        clear hword hiw
        go_wp2_with fail
        refine (gossamerref01_Word.calls _ _ _ HN.out).mono ?_
        rintro e w4 ⟨rfl, hd⟩
        have n0_ := Lib.hid (blk_below (blk_far (p := ⟨g2, 0, none⟩) BK.out q1 (.int .i64 ((kc : Int)))) hd.below)
        have n1_ := Lib.hid (below_step (BB.out.setCell (p := ⟨g2, 0, none⟩) (by show w.heap.size ≤ g2; omega) (.int .i64 ((kc : Int)))) hd.below)
        have n2_ := Lib.hid (blk_below (blk_put BT.out 0 (.int .i64 ((kc : Int))) rfl) hd.below)
        clear BK BB BT hd c0 c1 c2 c3 z0 z1 z2 z3 d0 d1 d2 d3 y0 y1 y2 y3
        have BK := n0_; have BB := n1_; have BT := n2_
        clear n0_ n1_ n2_
        have c0 := blk_cell BK.out 0; have c1 := blk_cell BK.out 1; have c2 := blk_cell BK.out 2; have c3 := blk_cell BK.out 3
        have z0 := blk_frozen BK.out 0; have z1 := blk_frozen BK.out 1; have z2 := blk_frozen BK.out 2; have z3 := blk_frozen BK.out 3
        have d0 := blk_cell BT.out 0; have d1 := blk_cell BT.out 1; have d2 := blk_cell BT.out 2; have d3 := blk_cell BT.out 3
        have y0 := blk_frozen BT.out 0; have y1 := blk_frozen BT.out 1; have y2 := blk_frozen BT.out 2; have y3 := blk_frozen BT.out 3
        simp only [List.getElem?_toArray, List.getElem?_cons_zero, List.getElem?_cons_succ] at c0 c1 c2 c3
        simp at d0 d1 d2 d3
        go_wp2_with fail
        refine bodyPost_ret (results_ct rfl _ _ w.heap.size 33 #[.int .i64 4, .string (s.extract at_ (at_ + wd.length)), .int .i64 0, .int .i64 (at_ : Int)] (0, 0) _ rfl (blk_put (blk_put (blk_put (blk_put (blk_far (p := ⟨g2, 0, none⟩) BK.out q1 _) 0 _ rfl) 1 _ rfl) 2 _ rfl) 3 _ rfl) Tryd.underlying33 rfl (by kernel_rfl)) rfl ?_
        unfold OnePost
        rw [HL.out, HWA.out 4 0 (by unfold HLex.named; rw [HH.out]; simp only [Option.map_some, Option.getD_some, HD.out]; rw [if_neg (by simp)]; rw [if_neg h16, if_pos HI.out]), HX.out]
        exact ⟨rfl, below4 (BB.out.setCell (p := ⟨g2, 0, none⟩) (by show w.heap.size ≤ g2; omega) _) (Nat.le_refl _) _ _ _ _⟩
      | false =>
        rw [hiw] at hword
        have HN := Lib.hid hword; have HI := Lib.hid hiw
        clear hword hiw
        go_wp2_with fail
        refine (gossamerref01_Word.calls _ _ _ HN.out).mono ?_
        rintro e w4 ⟨rfl, hd⟩
        have n0_ := Lib.hid (blk_below (blk_far (p := ⟨g2, 0, none⟩) BK.out q1 (.int .i64 ((kc : Int)))) hd.below)
        have n1_ := Lib.hid (below_step (BB.out.setCell (p := ⟨g2, 0, none⟩) (by show w.heap.size ≤ g2; omega) (.int .i64 ((kc : Int)))) hd.below)
        have n2_ := Lib.hid (blk_below (blk_put BT.out 0 (.int .i64 ((kc : Int))) rfl) hd.below)
        clear BK BB BT hd c0 c1 c2 c3 z0 z1 z2 z3 d0 d1 d2 d3 y0 y1 y2 y3
        have BK := n0_; have BB := n1_; have BT := n2_
        clear n0_ n1_ n2_
        have c0 := blk_cell BK.out 0; have c1 := blk_cell BK.out 1; have c2 := blk_cell BK.out 2; have c3 := blk_cell BK.out 3
        have z0 := blk_frozen BK.out 0; have z1 := blk_frozen BK.out 1; have z2 := blk_frozen BK.out 2; have z3 := blk_frozen BK.out 3
        have d0 := blk_cell BT.out 0; have d1 := blk_cell BT.out 1; have d2 := blk_cell BT.out 2; have d3 := blk_cell BT.out 3
        have y0 := blk_frozen BT.out 0; have y1 := blk_frozen BT.out 1; have y2 := blk_frozen BT.out 2; have y3 := blk_frozen BT.out 3
        simp only [List.getElem?_toArray, List.getElem?_cons_zero, List.getElem?_cons_succ] at c0 c1 c2 c3
        simp at d0 d1 d2 d3
        go_wp2_with fail
        refine bodyPost_ret (results_ct rfl _ _ w.heap.size 33 #[.int .i64 (kc : Int), .string (s.extract at_ (at_ + wd.length)), .int .i64 0, .int .i64 (at_ : Int)] (0, 0) _ rfl (blk_put (blk_put (blk_put (blk_put BK.out 0 _ rfl) 1 _ rfl) 2 _ rfl) 3 _ rfl) Tryd.underlying33 rfl (by kernel_rfl)) rfl ?_
        unfold OnePost
        rw [HL.out, HWA.out kc 0 (by unfold HLex.named; rw [HH.out]; simp only [Option.map_some, Option.getD_some, HD.out]; rw [if_neg (by simp)]; rw [if_neg h16, if_neg (by rw [HI.out]; simp), HK.out]; by_cases hu : upper c = true <;> simp [hu]), HX.out]
        exact ⟨rfl, below4 BB.out (Nat.le_refl _) _ _ _ _⟩
theorem one_any (s : ByteArray) (at_ : Nat) (w : World) (hs : s.size ≤ 1000000) (hat : at_ < s.size) : Calls Tryd.prog 22 #[.string s, .int .i64 at_] w (OnePost s at_ w) := by
  cases hl : s.data.toList.drop at_ with
  | nil =>
    have := List.drop_eq_nil_iff.1 hl
    rw [size_len] at this; omega
  | cons c r =>
    cases hc : wordly c with
    | true => exact one_word s at_ w hs c r hl hc
    | false => exact one_sign s at_ w hs c r hl (by simp [List.takeWhile, hc])
end Refs
end Go.Proofs.YthgmpflfgicmbaaDoor.Pure

-- Written for this claim.
namespace Go.Proofs.YthgmpflfgicmbaaDoor.Pure
open Go Go.RowKit Go.Lib Go.Proofs Go.Proofs.YthgmpflfgicmbaaDoor.Q Go.Proofs.YthgmpflfgicmbaaDoorW.PrintWords Go.Proofs.YthgmpflfgicmbaaDoorW.PrintLast Go.Proofs.YthgmpflfgicmbaaDoorW.PrintMore
open HLexC (toS AllPost infoTok)
open HLex (Tok Stands lower upper digit wordly num signs lexs more)
open More
namespace Refs
set_option linter.unusedVariables false
set_option linter.unusedSimpArgs false
theorem cl_blank (c : UInt8) : (cl c == 4) = HLex.blank c := by
  unfold cl
  cases hb : HLex.blank c with
  | false => cases lower c <;> cases upper c <;> cases digit c <;> rfl
  | true =>
    have hw := (HLex.blank_not hb).1
    simp only [wordly, Bool.or_eq_false_iff] at hw
    rw [hw.1.1, hw.1.2, hw.2]; rfl
theorem join_more (acc : List Tok) (t : Tok) (x : Except (Nat × Nat) (List Tok)) : HLexC.join acc (more t x) = HLexC.join (acc ++ [t]) x := by
  cases x <;> simp [HLexC.join, more]
set_option maxRecDepth 100000 in
theorem rall_any (s : ByteArray) (w : World) (hs : s.size ≤ 1000000) : Calls Tryd.prog 11 #[.string s] w (AllPost s w) := by
  go_enter Tryd.func11, Tryd.ntmps11
  go_wp2_with (first | ((with_reducible refine gate_dst (N := 9) rfl ?_); refine Kd.R_lit k33 _ 33 ?hg (N := 9) ?hd (xs := ([] : List S33)) (inner := []) (ok := fun _ => True) (okp := fun _ => True) ?hr ?hp (fun _ hk => hk) trivial (Below.refl _ _) (Nat.le_refl _) (by simp) ?_; (case hd => rfl); (case hg => rfl); (case hr => first | (go_simp; done) | (go_simp; rfl)); (case hp => exact (Reps.none _ _)); intro vl w2 ho3 hb hg_ hnew_; clear hg_ hnew_; have HO := Lib.hid ho3; have HB := Lib.hid hb; clear ho3 hb))
  go_loopw [5, 6] (fun v i wr => ∃ (at_ : Nat) (acc : List Tok), at_ ≤ s.size ∧ acc.length ≤ at_ ∧ i = .int .i64 at_ ∧ Hid (HLex.lex s.data.toList = HLexC.join acc (lexs at_ (s.data.toList.drop at_))) ∧ Hid (Kd.R k33 33 wr w.heap.size (fun _ => True) v (acc.map toS)) ∧ Hid (Below w.heap.size w wr)) (fun _ i _ => s.size - (intOf i).toNat)
  case atStart => exact ⟨0, [], Nat.zero_le _, Nat.le_refl _, rfl, Lib.hid (by rw [List.drop_zero, HLex.lex_lexs]; cases lexs 0 s.data.toList <;> rfl), HO, HB⟩
  case round =>
    clear HO HB
    obtain ⟨at_, acc, hle, hacc, rfl, HX, HO, HB⟩ := hrel
    by_cases hlt : at_ < s.size
    · cases hl : s.data.toList.drop at_ with
      | nil => have := List.drop_eq_nil_iff.1 hl; rw [size_len] at this; omega
      | cons c r =>
        have hsc : ∀ h : at_ < s.size, s[at_]'h = c := fun h => by
          have h' : at_ < s.data.toList.length := by rw [size_len]; exact h
          have e1 : s.data.toList[at_]? = some c := by
            have := congrArg (fun l => l[0]?) hl
            simpa using this
          rw [List.getElem?_eq_getElem h'] at e1
          exact Option.some.inj e1
        have hlen : at_ + (r.length + 1) = s.size := by
          have := congrArg List.length hl
          rw [List.length_drop, List.length_cons, size_len] at this; omega
        have hnx : s.data.toList.drop (at_ + 1) = r := by rw [← List.drop_drop, hl]; rfl
        have HL := Lib.hid hl
        have HNX := Lib.hid hnx
        have HCL := Lib.hid (class_is c 1)
        have hx := HX.out
        rw [hl] at hx
        have HX1 := Lib.hid hx
        clear hl hx HX hnx
        cases hb : HLex.blank c with
        | true =>
          have j0 : (cl c == 4) = true := by rw [cl_blank, hb]
          have HBL := Lib.hid hb
          clear hb
          go_wp2_with fail
          refine (gossamerref01_class.calls 4 _ _ _ HCL.out).mono ?_
          rintro e w3 ⟨rfl, hd⟩
          have HO3 := Lib.hid (Kd.R_below HO.out hd.below)
          have HB3 := Lib.hid (below_step HB.out hd.below)
          clear hd
          go_wp2_with fail
          refine ⟨⟨at_ + 1, acc, by omega, by omega, by first | rfl | go_num, Lib.hid ?_, HO3, HB3⟩, by simp [intOf]; omega⟩
          have := HLex.lexs_blanks (g := [c]) (by simpa using HBL.out) r at_
          rw [HX1.out, HNX.out]
          exact congrArg _ this
        | false =>
          have j0 : (cl c == 4) = false := by rw [cl_blank, hb]
          have hdw := HLex.dw_self (r := r) hb
          have HDW := Lib.hid hdw
          clear hb hdw
          go_wp2_with fail
          refine (gossamerref01_class.calls 4 _ _ _ HCL.out).mono ?_
          rintro e w3 ⟨rfl, hd⟩
          have HO3 := Lib.hid (Kd.R_below HO.out hd.below)
          have HB3 := Lib.hid (below_step HB.out hd.below)
          clear hd HO HB
          go_wp2_with fail
          refine (one_any s at_ _ hs hlt).mono ?_
          rintro e w4 hp
          unfold OnePost at hp
          rw [HL.out] at hp
          cases hf : HLex.first (c :: r) with
          | error er =>
            rw [hf] at hp
            obtain ⟨rfl, hb4⟩ := hp
            have HB4 := Lib.hid (below_step HB3.out hb4)
            have hlx := HLex.lexs_err at_ (l := c :: r) (by rw [HDW.out]; simp) (by rw [HDW.out]; exact hf)
            have her : ¬ er = 0 := by have := HLex.first_err hf; omega
            have j1 : ((er : Int) != 0) = true := by simp; omega
            rw [HDW.out, Nat.sub_self, Nat.add_zero] at hlx
            have HLX := Lib.hid hlx
            clear hlx hf her hb4
            go_wp2_with fail
            refine bodyPost_ret (results_tmp3 rfl _ _ _) rfl ?_
            unfold AllPost
            rw [HX1.out, HLX.out]
            exact ⟨rfl, below_alloc HB4.out _⟩
          | ok ktn =>
            obtain ⟨k, tx, n⟩ := ktn
            rw [hf] at hp
            obtain ⟨rfl, hb4⟩ := hp
            have HO4 := Lib.hid (Kd.R_below HO3.out hb4)
            have HB4 := Lib.hid (below_step HB3.out hb4)
            have hlx := HLex.lexs_tok at_ (l := c :: r) (by rw [HDW.out]; simp) (by rw [HDW.out]; exact hf)
            rw [HDW.out, Nat.sub_self, Nat.add_zero] at hlx
            have hpre := HLex.first_pre hf
            have htx1 : tx.length ≤ r.length + 1 := by have := hpre.1.length_le; rwa [List.length_cons] at this
            have htx0 : 0 < tx.length := List.length_pos_iff.2 hpre.2
            have hdd : s.data.toList.drop (at_ + tx.length) = (c :: r).drop tx.length := by rw [← HL.out, List.drop_drop]
            have HLX := Lib.hid hlx; have HDD := Lib.hid hdd
            clear hlx hf hb4 hpre hdd
            go_upto_region 9 with (fail)
            have HRA := Lib.hid (Kd.R_alloc HO4.out (Obj.cells #[Value.int IntKind.i64 ↑k, Value.string { data := tx.toArray }, Value.int IntKind.i64 ↑n, Value.int IntKind.i64 ↑at_] 33))
            have HBA2 := Lib.hid (below_alloc HB4.out (Obj.cells #[Value.int IntKind.i64 ↑k, Value.string { data := tx.toArray }, Value.int IntKind.i64 ↑n, Value.int IntKind.i64 ↑at_] 33))
            have HT := Lib.hid (blk_new w4 (Obj.cells #[Value.int IntKind.i64 ↑k, Value.string { data := tx.toArray }, Value.int IntKind.i64 ↑n, Value.int IntKind.i64 ↑at_] 33))
            have HNE : Hid (some w4.heap.size ≠ u5.ownBlock) := Lib.hid (fun e_ => by have := ((Kd.R_bound HO4.out).1 _ e_.symm).2.2.1; omega)
            have hsz : w.heap.size ≤ w4.heap.size := HB4.out.size
            have hlk : ((acc.map toS).length + 1) * 40 ≤ 140737488355328 := by rw [List.length_map]; omega
            have HLK := Lib.hid hlk; clear hlk
            clear HO3 HB3 HO4 HB4
            go_wp2_with (at_builtin; go_loud (refine Kd.R_append k33 (w0 := w) w.heap.size rfl (.tmp 31) (.tmp 33) 22 33 (.agg #[(.int .i64 0), (.string ⟨#[]⟩), (.int .i64 0), (.int .i64 0)]) 40 rfl Tryd.underlying22 infoTok rfl (by decide) (by omega) u5 (acc.map toS) (⟨(k : Int), ⟨tx.toArray⟩, (n : Int), (at_ : Int)⟩ : S33) [.int .i64 k, .string ⟨tx.toArray⟩, .int .i64 n, .int .i64 at_] (fun _ => True) (fun _ => False) rfl (by first | (go_simp; done) | (go_simp; rfl)) ?aP (fun _ hk => hk.elim) (fun _ _ => trivial) ?aO ?aB ?aS ?aL ?_; (case aL => exact HLK.out); (case aP => exact k33_mkM _ _ _ _); (case aO => exact HRA.out); (case aB => exact HBA2.out); (case aS => simp; omega); intro v1 w5 ho hb hg hat; have hT5 := blk_grown HT.out hg HNE.out; have e0 := blk_cell hT5 0; have e1 := blk_cell hT5 1; have e2 := blk_cell hT5 2; have e3 := blk_cell hT5 3; simp only [List.getElem?_toArray, List.getElem?_cons_zero, List.getElem?_cons_succ] at e0 e1 e2 e3; have HO := Lib.hid ho; have HB5 := Lib.hid hb; clear ho hb hg hat hT5))
            go_roundw
            case rel =>
              refine ⟨at_ + tx.length, acc ++ [⟨k, tx, n, at_⟩], by omega, by rw [List.length_append, List.length_singleton]; omega, by go_num, Lib.hid ?_, Lib.hid ?_, HB5⟩
              · rw [HX1.out, HLX.out, HDD.out, join_more]
              · rw [List.map_append]; exact HO.out
            case measure => simp [intOf]; omega
    · have hal : at_ = s.size := by omega
      subst hal
      go_wp2_with fail
      refine bodyPost_ret (results_tmp3 rfl _ _ _) rfl ?_
      unfold AllPost
      rw [HX.out, List.drop_of_length_le (by rw [size_len]; exact Nat.le_refl _), HLex.lexs_nil _ (by rfl)]
      simp only [HLexC.join, List.append_nil]
      exact ⟨_, rfl, HO.out, HB.out⟩
end Refs
end Go.Proofs.YthgmpflfgicmbaaDoor.Pure

-- Written for this claim.
namespace Go.Proofs.YthgmpflfgicmbaaDoor.Pure
open Go Go.RowKit Go.Lib Go.Proofs Go.Proofs.YthgmpflfgicmbaaDoor.Q Go.Proofs.YthgmpflfgicmbaaDoorW.PrintWords Go.Proofs.YthgmpflfgicmbaaDoorW.PrintLast Go.Proofs.YthgmpflfgicmbaaDoorW.PrintMore
open HLexC (toS AllPost)
open HLex (Tok)
open More Refs
set_option linter.unusedVariables false
set_option linter.unusedSimpArgs false
theorem rall_calls (a : ByteArray) (r1 : List S33) (r2 r3 : Int) (w : World) (hs : a.size ≤ 2000) (h : lex_All.f a = some (r1, r2, r3)) :
    Calls Tryd.prog 11 #[.string a] w fun e w' => ∃ v0_ : Value, e = .returned (.tuple #[v0_, .int .i64 r2, .int .i64 r3]) ∧ Kd.R k33 33 w' w.heap.size (fun _ => True) v0_ r1 ∧ Below w.heap.size w w' := by
  unfold lex_All.f at h
  rw [if_pos (by omega)] at h
  refine (rall_any a w (by omega)).mono fun e w' hp => ?_
  unfold AllPost at hp
  cases hl : HLex.lex a.data.toList with
  | ok ts =>
    rw [hl] at h hp
    simp only [Option.some.injEq, Prod.mk.injEq] at h
    obtain ⟨rfl, rfl, rfl⟩ := h
    exact hp
  | error x =>
    obtain ⟨p, er⟩ := x
    rw [hl] at h hp
    simp only [Option.some.injEq, Prod.mk.injEq] at h
    obtain ⟨rfl, rfl, rfl⟩ := h
    exact ⟨_, hp.1, Kd.R_nil _ _ _ _ _, hp.2⟩
/-- The text of tokens behind the first one. -/
def tl (ts : List S33) : List UInt8 := Lib.joinTail [32] (ts.map (·.f1.data.toList))
theorem tl_cons (t : S33) (ts : List S33) : tl (t :: ts) = 32 :: (t.f1.data.toList ++ tl ts) := by simp [tl, Lib.joinTail]
theorem joined_cons (t : S33) (ts : List S33) : HLexC.joined ((t :: ts).map (·.f1)) = t.f1.data.toList ++ tl ts := by
  unfold HLexC.joined tl
  rw [List.map_cons, List.map_cons, Lib.join_cons, List.map_map]; rfl
theorem rd_at (l : List S33) (i : Nat) (t : S33) (h : l[i]? = some t) : rd_T33 l (i : Int) = t := by
  unfold rd_T33
  rw [Int.toNat_natCast, List.getD_eq_getElem?_getD, h]; rfl
theorem text_loop (l : List S33) : ∀ (ts : List S33) (i k : Nat) (acc : ByteArray), l.drop i = ts → 0 < i → acc.size + (tl ts).length ≤ 1000000000000 → i ≤ 1000000 → l.length ≤ 1000000 → ts.length < k → gossamerref01_Text.l0 k l acc i = some ⟨(acc.data.toList ++ tl ts).toArray⟩
  | ts, i, 0, acc, _, _, _, _, _, hk => by omega
  | [], i, k + 1, acc, h, h0, hb, _, _, _ => by
    have := List.drop_eq_nil_iff.1 h
    unfold gossamerref01_Text.l0
    rw [if_neg (by omega)]
    congr 1
    simp [tl, Lib.joinTail]
  | t :: ts, i, k + 1, acc, h, h0, hb, hi, hl, hk => by
    have hlen : i + (ts.length + 1) = l.length := by
      have := congrArg List.length h
      rw [List.length_drop, List.length_cons] at this; omega
    have ht : l[i]? = some t := by
      have := congrArg (fun l => l[0]?) h
      simpa using this
    have hnx : l.drop (i + 1) = ts := by rw [← List.drop_drop, h]; rfl
    have hts : t.f1.data.toList.length = t.f1.size := size_len _
    rw [tl_cons, List.length_cons, List.length_append, hts] at hb
    have hz1 : (acc ++ (⟨#[32]⟩ : ByteArray)).size = acc.size + 1 := by rw [ByteArray.size_append]; rfl
    have hz2 : ((acc ++ (⟨#[32]⟩ : ByteArray)) ++ t.f1).size = acc.size + 1 + t.f1.size := by rw [ByteArray.size_append, hz1]
    unfold gossamerref01_Text.l0
    rw [if_pos (by omega), if_pos (by omega), if_pos (by omega), if_pos (by omega), rd_at l i t ht, if_pos (by rw [hz1]; omega), wrap_small (by omega) (by omega)]
    have ih := text_loop l ts (i + 1) k ((acc ++ (⟨#[32]⟩ : ByteArray)) ++ t.f1) hnx (by omega) (by rw [hz2]; omega) (by omega) hl (by simp at hk; omega)
    rw [show ((i : Int) + 1) = ((i + 1 : Nat) : Int) by omega, ih]
    congr 2
    rw [tl_cons]
    simp
theorem text_is (l : List S33) (hl : l.length ≤ 1000000) (hb : (HLexC.joined (l.map (·.f1))).length ≤ 1000000000000) : gossamerref01_Text.f (l.length + 2) l = some ⟨(HLexC.joined (l.map (·.f1))).toArray⟩ := by
  unfold gossamerref01_Text.f
  cases l with
  | nil => rfl
  | cons t ts =>
    rw [joined_cons] at hb ⊢
    have hts : t.f1.data.toList.length = t.f1.size := size_len _
    rw [List.length_append, hts] at hb
    have h0 : rd_T33 (t :: ts) 0 = t := rfl
    show gossamerref01_Text.l0 (ts.length + 2 + 1) _ _ _ = _
    unfold gossamerref01_Text.l0
    rw [if_pos (by simp), if_neg (by omega), if_pos (by omega), h0, if_pos (by show 0 + t.f1.size ≤ _; omega)]
    have := text_loop (t :: ts) ts 1 (ts.length + 2) ((⟨#[]⟩ : ByteArray) ++ t.f1) rfl (by omega) (by rw [ByteArray.size_append]; show 0 + t.f1.size + (tl ts).length ≤ _; omega) (by omega) hl (by omega)
    rw [show wrap64 (0 + 1) = ((1 : Nat) : Int) by simp [wrap64], this]
    congr 2
theorem ltext_is (l : List S33) (hl : l.length ≤ 1000000) (hb : (HLexC.joined (l.map (·.f1))).length ≤ 1000000000000) : lex_Text.f l = some ⟨(HLexC.joined (l.map (·.f1))).toArray⟩ := by
  unfold lex_Text.f
  rw [if_pos hl, if_pos (by omega)]
/-- The weight of a list of tokens. -/
def wtT (t : S33) : Nat := t.f1.size + 1
theorem tl_len : ∀ l : List S33, (tl l).length = (l.map wtT).sum
  | [] => rfl
  | t :: ts => by
    rw [tl_cons, List.length_cons, List.length_append, tl_len ts, List.map_cons, List.sum_cons, wtT, size_len]; omega
theorem joined_len (l : List S33) : (HLexC.joined (l.map (·.f1))).length ≤ (l.map wtT).sum := by
  cases l with
  | nil => simp [HLexC.joined, Lib.join_nil]
  | cons t ts => rw [joined_cons, List.length_append, tl_len, List.map_cons, List.sum_cons, wtT, size_len]; omega
set_option maxRecDepth 100000 in
theorem tells_big (a : ByteArray) (A : Option Addr) (c : Nat) (l : List S33) (w : World) (h : ¬ (a.size ≤ 2000 ∧ l.length ≤ 500)) :
    Calls Tryd.prog 3 #[.string a, .slice A l.length c] w fun e w' => e = .returned (.bool true) ∧ Below w.heap.size w w' := by
  have HB := Lib.hid (Below.refl w.heap.size w)
  by_cases h1 : a.size ≤ 2000
  · have d1 : decide ((a.size : Int) > 2000) = false := by simp; omega
    have d2 : decide ((l.length : Int) > 500) = true := by simp; omega
    go_enter Tryd.func3, Tryd.ntmps3
    go_wp2_with (go_at_call 9; refine (gossamerlaw01_fixed.calls 8 true _ fixed_is).mono ?_; rintro e wf ⟨rfl, hbf⟩; have n0_ := Lib.hid (below_step HB.out hbf); clear HB hbf; have HB := n0_; clear n0_)
    go_ret
    exact ⟨rfl, HB.out⟩
  · have d1 : decide ((a.size : Int) > 2000) = true := by simp; omega
    go_enter Tryd.func3, Tryd.ntmps3
    go_wp2_with (go_at_call 9; refine (gossamerlaw01_fixed.calls 8 true _ fixed_is).mono ?_; rintro e wf ⟨rfl, hbf⟩; have n0_ := Lib.hid (below_step HB.out hbf); clear HB hbf; have HB := n0_; clear n0_)
    go_ret
    exact ⟨rfl, HB.out⟩
set_option maxRecDepth 100000 in
theorem tells_small (a : ByteArray) (A : Option Addr) (c : Nat) (l : List S33) (w : World) (hc : Kd.C k33 w A l.length l) (hlc : l.length ≤ c) (ha : a.size ≤ 2000) (hl : l.length ≤ 500) (hw : (l.map wtT).sum ≤ 1000000000)
    (l3 : List S33) (p1 e1 : Int) (fa : lex_All.f a = some (l3, p1, e1)) (h3 : l3.length ≤ 2000) :
    Calls Tryd.prog 3 #[.string a, .slice A l.length c] w fun e w' => e = .returned (.bool true) ∧ Below w.heap.size w w' := by
  have HB := Lib.hid (Below.refl w.heap.size w)
  have d1 : decide ((a.size : Int) > 2000) = false := by simp; omega
  have d2 : decide ((l.length : Int) > 500) = false := by simp; omega
  have hjl := joined_len l
  have T1 := Lib.hid (ltext_is l (by omega) (by omega))
  have T2 := Lib.hid (text_is l (by omega) (by omega))
  have W1 := Lib.hid (word_is a)
  have W2 := Lib.hid (rword_is a)
  obtain ⟨k0, hsame⟩ := (same_self l3 (by omega)).rounds
  have HS := Lib.hid hsame
  have FA := Lib.hid fa
  have HC := Lib.hid hc
  clear hjl hsame fa hc hw
  go_enter Tryd.func3, Tryd.ntmps3
  go_wp2_with fail
  refine (lex_All.calls a l3 p1 e1 _ FA.out).mono ?_
  rintro e w1 ⟨va, rfl, ra, hb1⟩
  obtain ⟨A1, c1, rfl, hc1, ca⟩ := Kd.R_reads ra
  have n0_ := Lib.hid (below_step HB.out hb1); clear HB hb1; have HB := n0_; clear n0_ ra
  have CA := Lib.hid ca; clear ca
  go_wp2_with fail
  refine (rall_calls a l3 p1 e1 _ ha FA.out).mono ?_
  rintro e w2 ⟨vb, rfl, rb, hb2⟩
  obtain ⟨A2, c2, rfl, hc2, cb⟩ := Kd.R_reads rb
  have n0_ := Lib.hid (below_step HB.out hb2); have n1_ := Lib.hid (Kd.C_below CA.out hb2); clear HB CA hb2; have HB := n0_; have CA := n1_; clear n0_ n1_ rb
  have CB := Lib.hid cb; clear cb
  go_wp2_with fail
  refine (gossamerlaw01_fixed.calls 8 true _ fixed_is).mono ?_
  rintro e w4 ⟨rfl, hb⟩
  have n0_ := Lib.hid (below_step HB.out hb); have n1_ := Lib.hid (Kd.C_below CA.out hb); have n2_ := Lib.hid (Kd.C_below CB.out hb); clear HB CA CB hb; have HB := n0_; have CA := n1_; have CB := n2_; clear n0_ n1_ n2_
  go_wp2_with fail
  refine (gossamerref01_Same.calls k0 A1 c1 l3 A2 c2 l3 true _ CA.out hc1 CB.out hc2 HS.out).mono ?_
  rintro e w5 ⟨rfl, hd⟩
  have n0_ := Lib.hid (below_step HB.out hd.below); clear HB hd; have HB := n0_; clear n0_ CA CB
  go_wp2_with fail
  have hcl := Kd.C_below HC.out HB.out
  refine (lex_Text.calls A c l _ _ hcl hlc T1.out).mono ?_
  rintro e w6 ⟨rfl, hb⟩
  have n0_ := Lib.hid (below_step HB.out hb); clear HB hb hcl; have HB := n0_; clear n0_
  go_wp2_with fail
  have hcl := Kd.C_below HC.out HB.out
  refine (gossamerref01_Text.calls (l.length + 2) A c l _ _ hcl hlc T2.out).mono ?_
  rintro e w7 ⟨rfl, hd⟩
  have n0_ := Lib.hid (below_step HB.out hd.below); clear HB hd hcl; have HB := n0_; clear n0_
  go_wp2_with fail
  refine (lex_Word.calls 8 a _ _ W1.out).mono ?_
  rintro e w8 ⟨rfl, hb⟩
  have n0_ := Lib.hid (below_step HB.out hb); clear HB hb; have HB := n0_; clear n0_
  go_wp2_with fail
  refine (gossamerref01_Word.calls a _ _ W2.out).mono ?_
  rintro e w9 ⟨rfl, hd⟩
  have n0_ := Lib.hid (below_step HB.out hd.below); clear HB hd; have HB := n0_; clear n0_
  go_wp2_with fail
  go_ret
  exact ⟨by simp, HB.out⟩
theorem LexTells_walk {w : World} (a : ByteArray) (A : Option Addr) (c : Nat) (l : List S33) (hc : Kd.C k33 w A l.length l) (hlc : l.length ≤ c) (_ok : (∀ y ∈ l, True) ∧ l.length ≤ 9223372036854775807) (hw : (l.map wtT).sum ≤ 1000000000) :
    Calls Tryd.prog 3 #[.string a, .slice A l.length c] w fun e w' => e = .returned (.bool true) ∧ Below w.heap.size w w' := by
  by_cases hs : a.size ≤ 2000 ∧ l.length ≤ 500
  · obtain ⟨ha, hl⟩ := hs
    cases e0 : HLex.lex a.data.toList with
    | error x =>
      obtain ⟨p, er⟩ := x
      exact tells_small a A c l w hc hlc ha hl hw [] (p : Int) (er : Int) (all_err (by omega) e0) (by simp)
    | ok ts =>
      have hts := toks_len _ _ _ (lex_stands e0)
      rw [size_len] at hts
      exact tells_small a A c l w hc hlc ha hl hw (ts.map toS) 0 0 (all_ok (by omega) e0) (by simp; omega)
  · exact tells_big a A c l w hs
end Go.Proofs.YthgmpflfgicmbaaDoor.Pure

/- Reading an argument: what the model's reading of a value gives, kind by kind: the Lean value, its bounds, and its weight (at most the reading's bulk). -/
namespace Go.Proofs.YthgmpflfgicmbaaDoor.HRead
open Go Go.RowKit Go.Lib Go.Proofs.YthgmpflfgicmbaaDoorW.PrintWords Go.Proofs.YthgmpflfgicmbaaDoorW.PrintLast Go.Proofs.YthgmpflfgicmbaaDoorW.PrintMore
set_option linter.unusedVariables false

/-- At fuel n every reading of type t is a value of kind d. -/
def Rd {α : Type} (P : Program) (d : Kd α) (t : TypeId) (ok : α → Prop) (wt : α → Nat) (n : Nat) : Prop :=
  ∀ {H : Type} (enc : TypeId × Value → H) (w : World) (base : Nat) (spare : Nat → Bool) (held : Bool) (cs : List Value) (x : DataW H × List MemPlace),
    DataW.trod enc P w base spare held n t cs = some x → ∃ y, d.K w y cs ∧ ok y ∧ wt y ≤ Rows.uptoBulk x.1
def RdF {α : Type} (P : Program) (d : Kd α) (fs : List Field) (o : Nat) (ok : α → Prop) (wt : α → Nat) (n : Nat) : Prop :=
  ∀ {H : Type} (enc : TypeId × Value → H) (w : World) (base : Nat) (spare : Nat → Bool) (held : Bool) (cs : List Value) (xs : List (DataW H × List MemPlace)), xs.length = fs.length →
    (∀ (i : Nat) (f : Field), fs[i]? = some f → DataW.trod enc P w base spare held n f.type ((cs.drop f.offset).take (P.cellsOf f.type)) = xs[i]?) →
    ∃ y, d.K w y ((cs.drop o).take d.sz) ∧ ok y ∧ wt y ≤ Rows.uptoBulkAll (xs.map (·.1))

theorem list_of {α : Type} {p : Nat → α → Prop} : ∀ n, (∀ i, i < n → ∃ y, p i y) → ∃ ys : List α, ys.length = n ∧ ∀ i y, ys[i]? = some y → p i y
  | 0, _ => ⟨[], rfl, fun i y h => by simp at h⟩
  | n + 1, h => by
    obtain ⟨ys, hl, hp⟩ := list_of n fun i hi => h i (by omega)
    obtain ⟨y, hy⟩ := h n (by omega)
    refine ⟨ys ++ [y], by simp [hl], fun i z hz => ?_⟩
    by_cases hi : i < n
    · rw [List.getElem?_append_left (by omega)] at hz; exact hp i z hz
    · rw [List.getElem?_append_right (by omega)] at hz
      have h0 : i - ys.length = 0 := by
        have := (List.getElem?_eq_some_iff.1 hz).1
        simp at this; omega
      rw [h0] at hz
      obtain rfl : y = z := by simpa using hz
      obtain rfl : i = n := by omega
      exact hy
theorem bulk_sum {α H : Type} (wt : α → Nat) : ∀ (ys : List α) (ds : List (DataW H)), ys.length = ds.length → (∀ (i : Nat) (y : α) (d : DataW H), ys[i]? = some y → ds[i]? = some d → wt y ≤ Rows.uptoBulk d) → (ys.map wt).sum ≤ Rows.uptoBulkAll ds
  | [], ds, _, _ => by simp
  | y :: ys, [], h, _ => by simp at h
  | y :: ys, d :: ds, h, hp => by
    have h1 := hp 0 y d rfl rfl
    have h2 := bulk_sum wt ys ds (by simpa using h) fun i z e hz he => hp (i + 1) z e hz he
    simp only [List.map_cons, List.sum_cons, Rows.uptoBulkAll]
    omega

section
variable {P : Program} {t e : TypeId} {n : Nat}
theorem rd_zero {α : Type} {d : Kd α} {ok : α → Prop} {wt : α → Nat} : Rd P d t ok wt 0 := fun enc w base spare held cs x h => by simp [DataW.trod] at h
theorem rd_int {k : IntKind} (ht : P.underlying t = some (.int k)) : Rd P (Kd.int k) t (fun m => (Lit.int k m).wf = true) (fun _ => 1) n := by
  intro H enc w base spare held cs x h
  obtain ⟨m, rfl, rfl, hw⟩ := DataW.trod_int ht h
  exact ⟨m, rfl, hw, by simp [Rows.uptoBulk]⟩
theorem rd_bool (ht : P.underlying t = some .bool) : Rd P Kd.bool t (fun _ => True) (fun _ => 1) n := by
  intro H enc w base spare held cs x h
  obtain ⟨b, rfl, rfl⟩ := DataW.trod_bool ht h
  exact ⟨b, rfl, trivial, by simp [Rows.uptoBulk]⟩
theorem rd_string (ht : P.underlying t = some .string) : Rd P Kd.string t (fun _ => True) (fun s => s.size + 1) n := by
  intro H enc w base spare held cs x h
  obtain ⟨s, rfl, rfl, hs⟩ := DataW.trod_string ht h
  exact ⟨s, rfl, trivial, by simp [Rows.uptoBulk]⟩
theorem rd_slice {α : Type} {d : Kd α} {ok : α → Prop} {wt : α → Nat} (ht : P.underlying t = some (.slice e)) (hc : P.cellsOf e = d.sz) (h : Rd P d e ok wt n) :
    Rd P (Kd.slice e d) t (fun ys => (∀ y ∈ ys, ok y) ∧ ys.length ≤ 9223372036854775807) (fun ys => (ys.map wt).sum + 1) (n + 1) := by
  intro H enc w base spare held cs x hx
  rcases DataW.trod_slice ht hx with ⟨rfl, rfl⟩ | ⟨a, len, cap, elems, rest, m, hm, rfl, rfl, hb, hl, hmax, hel, hget, _, _⟩
  · exact ⟨[], ⟨none, 0, rfl, Nat.le_refl _, rfl, by simp, fun h0 => absurd h0 (by simp)⟩, ⟨by simp, by simp⟩, by simp [Rows.uptoBulk]⟩
  · obtain rfl : n = m := by omega
    rw [hc] at hget
    have hmax' : cap ≤ 9223372036854775807 := hmax
    have key : ∀ i, i < len → ∃ y, ∃ cs' x', elems[i]? = some x' ∧ w.cells? base (a.add (i * d.sz)) d.sz = some cs' ∧ d.K w y cs' ∧ ok y ∧ wt y ≤ Rows.uptoBulk x'.1 := by
      intro i hi
      have h1 := hget i hi
      rw [List.getElem?_eq_getElem (by omega)] at h1
      obtain ⟨cs', h2, h3⟩ := Option.bind_eq_some_iff.1 h1
      obtain ⟨y, k1, k2, k3⟩ := h enc w base spare held cs' _ h3
      exact ⟨y, cs', _, List.getElem?_eq_getElem (by omega), h2, k1, k2, k3⟩
    obtain ⟨ys, hyl, hy⟩ := list_of len key
    refine ⟨ys, ⟨some a, cap, by rw [hyl], by omega, ?_⟩, ⟨?_, by omega⟩, ?_⟩
    · refine ⟨rfl, by omega, fun _ => ⟨a, rfl, fun j p hj => ?_⟩⟩
      obtain ⟨cs', x', _, h2, h3, _⟩ := hy j p hj
      obtain ⟨_, h5, h6⟩ := World.cells?_some h2
      refine ⟨cs', h5, h3, fun i u hi => ?_⟩
      have hlt : i < d.sz := by
        have := (List.getElem?_eq_some_iff.1 hi).1
        omega
      rw [← add_add, h6 i hlt, hi]
    · intro y hm
      obtain ⟨i, hi⟩ := List.getElem?_of_mem hm
      obtain ⟨_, _, _, _, _, h4, _⟩ := hy i y hi
      exact h4
    · have := bulk_sum wt ys (elems.map (·.1)) (by simp [hyl, hel]) (fun i y dd hi hd => by
        obtain ⟨cs', x', h1, _, _, _, h5⟩ := hy i y hi
        rw [List.getElem?_map, h1] at hd
        obtain rfl : x'.1 = dd := by simpa using hd
        exact h5)
      simp only [Rows.uptoBulk]
      omega
theorem rdf_one {α : Type} {d : Kd α} {ok : α → Prop} {wt : α → Nat} {f : Field} {o : Nat} (ho : f.offset = o) (hc : P.cellsOf f.type = d.sz) (h : Rd P d f.type ok wt n) : RdF P d [f] o ok wt n := by
  intro H enc w base spare held cs xs hl hx
  match xs, hl with
  | [x], _ =>
    have h0 := hx 0 f rfl
    rw [ho, hc] at h0
    obtain ⟨y, h1, h2, h3⟩ := h enc w base spare held _ _ h0
    exact ⟨y, h1, h2, by simpa [Rows.uptoBulkAll] using h3⟩
theorem rdf_cons {α β : Type} {d : Kd α} {d2 : Kd β} {ok : α → Prop} {wt : α → Nat} {ok2 : β → Prop} {wt2 : β → Nat} {f : Field} {fs : List Field} {o : Nat} (ho : f.offset = o) (hc : P.cellsOf f.type = d.sz) (h : Rd P d f.type ok wt n) (h2 : RdF P d2 fs (o + d.sz) ok2 wt2 n) :
    RdF P (Kd.pair d d2) (f :: fs) o (fun y => ok y.1 ∧ ok2 y.2) (fun y => wt y.1 + wt2 y.2) n := by
  intro H enc w base spare held cs xs hl hx
  match xs, hl with
  | x :: xs, hl =>
    have h0 := hx 0 f rfl
    rw [ho, hc] at h0
    obtain ⟨y, k1, k2, k3⟩ := h enc w base spare held _ _ h0
    obtain ⟨z, j1, j2, j3⟩ := h2 enc w base spare held cs xs (by simpa using hl) fun i g hg => by
      have := hx (i + 1) g (by simpa using hg)
      simpa using this
    refine ⟨(y, z), ⟨_, _, ?_, k1, j1⟩, ⟨k2, j2⟩, ?_⟩
    · show (cs.drop o).take (d.sz + d2.sz) = _
      rw [List.take_add, List.drop_drop]
    · simp only [List.map_cons, Rows.uptoBulkAll]
      omega
theorem rd_struct {α : Type} {d : Kd α} {ok : α → Prop} {wt : α → Nat} {fs : Array Field} (ht : P.underlying t = some (.struct fs)) (hc : P.cellsOf t = d.sz) (h : RdF P d fs.toList 0 ok wt n) : Rd P d t ok (fun y => wt y + 1) (n + 1) := by
  intro H enc w base spare held cs x hx
  obtain ⟨xs, m, hm, rfl, hl, hxl, hf⟩ := DataW.trod_struct ht hx
  obtain rfl : n = m := by omega
  obtain ⟨y, h1, h2, h3⟩ := h enc w base spare held cs xs (by simpa using hxl) fun i f hi => hf i f (by simpa using hi)
  refine ⟨y, ?_, h2, by simp only [Rows.uptoBulk]; omega⟩
  rw [List.drop_zero, List.take_of_length_le (by omega)] at h1
  exact h1
theorem rd_iso {α β : Type} {d : Kd α} {ok : α → Prop} {wt : α → Nat} (f : β → α) (g : α → β) (hfg : ∀ a, f (g a) = a) {ok' : β → Prop} {wt' : β → Nat} (hok : ∀ a, ok a → ok' (g a)) (hwt : ∀ a, wt' (g a) ≤ wt a) (h : Rd P d t ok wt n) : Rd P (Kd.iso d f) t ok' wt' n := by
  intro H enc w base spare held cs x hx
  obtain ⟨y, h1, h2, h3⟩ := h enc w base spare held cs x hx
  exact ⟨g y, by show d.K w (f (g y)) cs; rw [hfg]; exact h1, hok _ h2, Nat.le_trans (hwt _) h3⟩
/-- A slice argument: its row. -/
theorem read_slice {α : Type} {d : Kd α} {ok : List α → Prop} {wt : α → Nat} {H : Type} {enc : TypeId × Value → H} {w : World} {base : Nat} {spare : Nat → Bool} {held : Bool} {v : Value} {D : DataW H} {ps : List MemPlace} (ht : P.underlying t = some (.slice e))
    (h : ∀ n, Rd P (Kd.slice e d) t ok (fun ys => (ys.map wt).sum + 1) n) (hv : v.cells.toList = [v]) (hd : DataW.Trod enc P w base spare held t v D ps) :
    ∃ (ys : List α) (A : Option Addr) (c : Nat), v = .slice A ys.length c ∧ ys.length ≤ c ∧ d.C w A ys.length ys ∧ ok ys ∧ (ys.map wt).sum + 1 ≤ Rows.uptoBulk D := by
  obtain ⟨fuel, hf⟩ := hd
  obtain ⟨ys, ⟨A, c, h1, h2, h3⟩, h4, h5⟩ := h fuel enc w base spare held _ _ hf
  rw [hv] at h1
  exact ⟨ys, A, c, by simpa using h1, h2, h3, h4, h5⟩
end
end Go.Proofs.YthgmpflfgicmbaaDoor.HRead

-- Written for this claim.
namespace Go.Proofs.YthgmpflfgicmbaaDoor.Pure
open Go Go.RowKit Go.Proofs.YthgmpflfgicmbaaDoor.Q Go.Proofs.YthgmpflfgicmbaaDoorW.PrintWords Go.Proofs.YthgmpflfgicmbaaDoorW.PrintLast Go.Proofs.YthgmpflfgicmbaaDoorW.PrintMore
open HRead
theorem rdTok : ∀ n, Rd Tryd.prog k33 33 (fun _ => True) wtT n
  | 0 => rd_zero
  | n + 1 => rd_iso (d := Kd.pair (Kd.int .i64) (Kd.pair Kd.string (Kd.pair (Kd.int .i64) (Kd.int .i64)))) (fun x : S33 => (x.f0, x.f1, x.f2, x.f3)) (fun y => ⟨y.1, y.2.1, y.2.2.1, y.2.2.2⟩) (fun _ => rfl) (fun _ _ => trivial) (fun y => by simp only [wtT]; omega)
      (rd_struct Tryd.underlying33 (by kernel_rfl) (rdf_cons rfl (by kernel_rfl) (rd_int Tryd.underlying3) (rdf_cons rfl (by kernel_rfl) (rd_string Tryd.underlying9) (rdf_cons rfl (by kernel_rfl) (rd_int Tryd.underlying3) (rdf_one rfl (by kernel_rfl) (rd_int Tryd.underlying3))))))
theorem rdToks : ∀ n, Rd Tryd.prog (Kd.slice 33 k33) 22 (fun ys => (∀ y ∈ ys, True) ∧ ys.length ≤ 9223372036854775807) (fun ys => (ys.map wtT).sum + 1) n
  | 0 => rd_zero
  | n + 1 => rd_slice Tryd.underlying22 (by kernel_rfl) (rdTok n)
end Go.Proofs.YthgmpflfgicmbaaDoor.Pure
