-- Written for this claim.
import Derived.Test.YthdkjfhpbigdpaaDoorQx8
import Derived.Test.YthdkjfhpbigdpaaDoorQx18
import Derived.Test.YthdkjfhpbigdpaaDoorPTreeMap
import Derived.Test.YthdkjfhpbigdpaaDoorHShelf
namespace Go.Proofs.YthdkjfhpbigdpaaDoor.Pure
open Go Go.RowKit Go.Lib Go.Proofs Go.Proofs.YthdkjfhpbigdpaaDoor.Q Go.Proofs.YthdkjfhpbigdpaaDoorW.PrintWords Go.Proofs.YthdkjfhpbigdpaaDoorW.PrintLast Go.Proofs.YthdkjfhpbigdpaaDoorW.PrintMore
open HTree
namespace TreeNm
set_option linter.unusedVariables false
set_option linter.unusedSimpArgs false
theorem token_is (s : ByteArray) (k : Nat) (hs : s.size ≤ 1000000000) : tree_token.f s k = some (token s k) := by
  unfold tree_token.f lex_All.f token
  rw [if_pos (by omega)]
  cases h : HLex.lex s.data.toList with
  | error x => obtain ⟨p, er⟩ := x; simp
  | ok ts =>
    match ts with
    | [] => simp
    | [t] =>
      simp only [Option.bind_some, List.map_cons, List.map_nil, List.length_cons, List.length_nil]
      have e0 : rd_T33 [HLexC.toS t] 0 = HLexC.toS t := rfl
      rw [e0]
      simp only [HLexC.toS, Lib.toList_data, List.toList_toArray]
      by_cases h2 : t.kind = k
      · have : (t.kind : Int) = (k : Int) := by omega
        simp [h2, Bool.beq_eq_decide_eq]
      · have : ¬ (t.kind : Int) = (k : Int) := by omega
        simp [h2, this]
    | t :: u :: r =>
      have : ¬ (((List.map HLexC.toS (t :: u :: r)).length : Int) = 1) := by simp; omega
      simp only [Option.bind_some]
      rw [if_neg this]
theorem number_is (k : Int) (s : ByteArray) (n a : Int) (l : List T) (hl : l.length ≤ 1000000000) : tree_number.f k s n a l = some (number k n l.length) := by
  have hw : wrap64 ((l.length : Int) - 1) = (l.length : Int) - 1 := IntWalk.wrap64_in _ ⟨by omega, by omega⟩
  unfold tree_number.f number
  rw [hw]
  by_cases h9 : k = 9
  · by_cases h0 : n ≥ 0
    · rw [if_pos h9, if_pos h0, if_pos h9, decide_eq_true (show 0 ≤ n from h0), Bool.true_and]
    · rw [if_pos h9, if_neg h0, if_pos h9, decide_eq_false (show ¬ 0 ≤ n from h0), Bool.false_and]
  · rw [if_neg h9, if_neg h9]
    by_cases h8 : k = 8
    · rw [if_pos h8, if_pos h8]
      cases h : decide (n = (l.length : Int) - 1) with
      | true => rw [beq_iff_eq.2 (of_decide_eq_true h)]
      | false => rw [beq_eq_false_iff_ne.2 (of_decide_eq_false h)]
    · rw [if_neg h8, if_neg h8]
      cases h : decide (n = 0) with
      | true => rw [beq_iff_eq.2 (of_decide_eq_true h)]
      | false => rw [beq_eq_false_iff_ne.2 (of_decide_eq_false h)]
def signs : ByteArray := ⟨#[43, 32, 45, 32, 42, 32, 47, 32, 60, 32, 61, 61]⟩
theorem signs_low : ∀ (j : Nat) b, signs.data.toList[j]? = some b → b.toNat < 128 := by
  intro j b h
  have hm := List.mem_of_getElem? h
  have : ∀ b ∈ signs.data.toList, b.toNat < 128 := by decide
  exact this b hm
theorem fields_is : Lib.fields signs.data.toList = [[43], [45], [42], [47], [60], [61, 61]] := by decide +kernel
def sgs : List ByteArray := [⟨#[43]⟩, ⟨#[45]⟩, ⟨#[42]⟩, ⟨#[47]⟩, ⟨#[60]⟩, ⟨#[61, 61]⟩]
theorem contains_is (s : ByteArray) : Lib.containsS sgs s = oper s := by
  have h1 := Lib.containsS_iff sgs s
  have h2 : oper s = true ↔ s ∈ sgs := by
    unfold oper sgs
    rw [List.contains_iff_mem]
    simp only [List.mem_cons, List.mem_nil_iff, or_false, HLexC.bytes_eq_iff]
  cases ha : Lib.containsS sgs s <;> cases hb : oper s <;> simp_all
set_option maxRecDepth 100000 in
theorem named_any (s : ByteArray) (wh : Int) (hs : s.size ≤ 1000000000) (w : World) (htab : Lib.TabIs Tryd.prog w "strings.asciiSpace" .u8 Lib.asciiSpaceTab) :
    Calls Tryd.prog 29 #[.string s, .int .i64 wh] w fun e w' => e = .returned (.bool (named s wh)) ∧ Below w.heap.size w w' := by
  have HT := Lib.hid htab
  clear htab
  rcases Classical.em (wh = 1) with q | q
  · subst q
    go_enter Tryd.func29, Tryd.ntmps29
    go_wp2_with fail
    refine (tree_token.calls s 1 _ _ (token_is s 1 hs)).mono ?_
    rintro e w5 ⟨rfl, hb⟩
    go_wp2_with fail
    go_ret
    exact ⟨rfl, hb⟩
  have b1 : (wh == 1) = false := beq_eq_false_iff_ne.2 q
  have Q1 := Lib.hid q
  clear q
  rcases Classical.em (wh = 2) with q | q
  · subst q
    go_enter Tryd.func29, Tryd.ntmps29
    go_wp2_with fail
    refine (tree_token.calls s 2 _ _ (token_is s 2 hs)).mono ?_
    rintro e w5 ⟨rfl, hb⟩
    go_wp2_with fail
    go_ret
    exact ⟨rfl, hb⟩
  have b2 : (wh == 2) = false := beq_eq_false_iff_ne.2 q
  have Q2 := Lib.hid q
  clear q
  rcases Classical.em (wh = 3) with q | q
  · subst q
    rcases Classical.em (s.data.toList = []) with q0 | q0
    · have bs : s.toList.isEmpty = true := by rw [Lib.toList_data, q0]; rfl
      have HN : Hid (named s 3 = false) := Lib.hid (by show oper s = false; unfold oper; rw [q0]; rfl)
      clear q0
      go_enter Tryd.func29, Tryd.ntmps29
      go_wp2_with fail
      go_ret
      exact ⟨by rw [HN.out]; rfl, Below.refl _ _⟩
    · have bs : s.toList.isEmpty = false := by rw [Lib.toList_data]; cases h : s.data.toList with | nil => exact absurd h q0 | cons a l => rfl
      clear q0
      go_enter Tryd.func29, Tryd.ntmps29
      go_wp2_with fail
      refine (Tryd.strings_Fields signs w (by decide) signs_low HT.out).mono ?_
      rintro e w5 ⟨rfl, rfl⟩
      rw [fields_is]
      have hc : ∀ j, j < sgs.length → (w.alloc (.cells ([[43], [45], [42], [47], [60], [61, 61]].map fun l => Value.string ⟨(l : List UInt8).toArray⟩).toArray 9)).cell? ⟨w.heap.size, 0 + j, none⟩ = some (.string (sgs.getD j ByteArray.empty)) := by
        intro j hj
        have hb := blk_cell (blk_new w (.cells ([[43], [45], [42], [47], [60], [61, 61]].map fun l => Value.string ⟨(l : List UInt8).toArray⟩).toArray 9)) j
        rw [Nat.zero_add, hb]
        have : j = 0 ∨ j = 1 ∨ j = 2 ∨ j = 3 ∨ j = 4 ∨ j = 5 := by simp only [sgs, List.length_cons, List.length_nil] at hj; omega
        rcases this with rfl | rfl | rfl | rfl | rfl | rfl <;> rfl
      have hbw := below_alloc (Below.refl w.heap.size w) (.cells ([[43], [45], [42], [47], [60], [61, 61]].map fun l => Value.string ⟨(l : List UInt8).toArray⟩).toArray 9)
      generalize w.alloc (.cells ([[43], [45], [42], [47], [60], [61, 61]].map fun l => Value.string ⟨(l : List UInt8).toArray⟩).toArray 9) = w6 at hc hbw ⊢
      have HC := Lib.hid hc; have HB := Lib.hid hbw
      clear hc hbw
      go_wp2_with fail
      refine (Tryd.slices_Contains_string w.heap.size 0 6 6 sgs s w6 (by decide) (by decide) HC.out).mono ?_
      rintro e w7 ⟨rfl, rfl⟩
      rw [show sgs.take 6 = sgs from rfl, contains_is]
      go_wp2_with fail
      go_ret
      exact ⟨rfl, HB.out⟩
  have b3 : (wh == 3) = false := beq_eq_false_iff_ne.2 q
  have Q3 := Lib.hid q
  clear q
  rcases Classical.em (s.data.toList = []) with q0 | q0
  · have bs : s.toList.isEmpty = true := by rw [Lib.toList_data, q0]; rfl
    have HN : Hid (named s wh = true) := Lib.hid (by unfold named; rw [if_neg Q1.out, if_neg Q2.out, if_neg Q3.out]; exact decide_eq_true q0)
    clear q0
    go_enter Tryd.func29, Tryd.ntmps29
    go_wp2_with fail
    go_ret
    exact ⟨by rw [HN.out]; rfl, Below.refl _ _⟩
  · have bs : s.toList.isEmpty = false := by rw [Lib.toList_data]; cases h : s.data.toList with | nil => exact absurd h q0 | cons a l => rfl
    have HN : Hid (named s wh = false) := Lib.hid (by unfold named; rw [if_neg Q1.out, if_neg Q2.out, if_neg Q3.out]; exact decide_eq_false q0)
    clear q0
    go_enter Tryd.func29, Tryd.ntmps29
    go_wp2_with fail
    go_ret
    exact ⟨by rw [HN.out]; rfl, Below.refl _ _⟩
end TreeNm
end Go.Proofs.YthdkjfhpbigdpaaDoor.Pure
