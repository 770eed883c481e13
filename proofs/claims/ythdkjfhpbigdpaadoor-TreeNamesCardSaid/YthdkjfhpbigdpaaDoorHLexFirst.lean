/- The walk of lex.first, in the words of HLex. -/
import Derived.Test.YthdkjfhpbigdpaaDoorHLexCalls
import Derived.Test.YthdkjfhpbigdpaaDoorHShelf
import Derived.Below
import Derived.OwnWalk
import Derived.Tactics
import Derived.Tactics2
import Derived.Laws.Slices
import Derived.WalkKit
import Derived.KernelRfl
import Derived.Deep.LoopGhost
import Derived.Deep.QuietTactic
import Derived.BigQuiet
import Derived.WideLaws
import Derived.Outline
import Derived.Laws.Rows
import Derived.Test.YthdkjfhpbigdpaaDoorWMore
import Derived.WalkSmall
namespace Go.Proofs.YthdkjfhpbigdpaaDoor.HLexC
open Go Go.RowKit Go.Lib Go.Proofs Go.Proofs.YthdkjfhpbigdpaaDoorW.PrintWords Go.Proofs.YthdkjfhpbigdpaaDoorW.PrintLast Go.Proofs.YthdkjfhpbigdpaaDoorW.PrintMore
set_option linter.unusedVariables false
set_option linter.unusedSimpArgs false


def signsB : List ByteArray := [⟨#[45, 62]⟩, ⟨#[61, 61]⟩, ⟨#[92]⟩, ⟨#[46]⟩, ⟨#[40]⟩, ⟨#[41]⟩, ⟨#[61]⟩, ⟨#[123]⟩, ⟨#[125]⟩, ⟨#[124]⟩, ⟨#[43]⟩, ⟨#[45]⟩, ⟨#[42]⟩, ⟨#[47]⟩, ⟨#[60]⟩]
def signsV : Array Value := #[.string ⟨#[45, 62]⟩, .string ⟨#[61, 61]⟩, .string ⟨#[92]⟩, .string ⟨#[46]⟩, .string ⟨#[40]⟩, .string ⟨#[41]⟩, .string ⟨#[61]⟩, .string ⟨#[123]⟩, .string ⟨#[125]⟩, .string ⟨#[124]⟩, .string ⟨#[43]⟩, .string ⟨#[45]⟩, .string ⟨#[42]⟩, .string ⟨#[47]⟩, .string ⟨#[60]⟩]

theorem signs_any (w : World) :
    Calls Tryd.prog 54 #[] w fun e w' => e = .returned (.agg signsV) ∧ Below w.heap.size w w' := by
  go_enter Tryd.func54, Tryd.ntmps54
  go_wp2
  exact bodyPost_ret (v := .agg signsV) (results_cell_row rfl _ _ w.heap.size 84 signsV (0, 0) _ rfl (blk_new w _) Tryd.underlying84 rfl (by kernel_rfl)) rfl ⟨rfl, (Below.refl _ w).alloc (Nat.le_refl _) _⟩

theorem takeWhile_forall (q : UInt8 → Bool) (l : List UInt8) : ∀ c ∈ l.takeWhile q, q c = true := by
  induction l with
  | nil => intro c hc; simp at hc
  | cons a t ih =>
    intro c hc
    rw [List.takeWhile_cons] at hc
    split at hc
    · rcases List.mem_cons.1 hc with rfl | h
      · assumption
      · exact ih c h
    · simp at hc
theorem first_of_ok {l : List UInt8} {kd n : Nat} (hne : l.takeWhile HLex.wordly ≠ []) (h : HLex.named (l.takeWhile HLex.wordly) = .ok (kd, n)) : HLex.first l = .ok (kd, l.takeWhile HLex.wordly, n) := by
  unfold HLex.first; simp only [hne, if_false, h]
theorem first_of_err {l : List UInt8} {er : Nat} (hne : l.takeWhile HLex.wordly ≠ []) (h : HLex.named (l.takeWhile HLex.wordly) = .error er) : HLex.first l = .error er := by
  unfold HLex.first; simp only [hne, if_false, h]
theorem take_data (s : ByteArray) (k : Nat) : (s.extract 0 k).data.toList = s.data.toList.take k := by
  rw [Lib.extract_data]; simp
theorem prefix_take (p l : List UInt8) : p.isPrefixOf l = (decide (p.length ≤ l.length) && (l.take p.length == p)) := by
  rw [Bool.eq_iff_iff]
  simp only [List.isPrefixOf_iff_prefix, Bool.and_eq_true, decide_eq_true_eq, beq_iff_eq]
  constructor
  · intro h; exact ⟨h.length_le, (List.prefix_iff_eq_take.1 h).symm⟩
  · rintro ⟨_, h⟩; rw [← h]; exact List.take_prefix _ _
set_option maxHeartbeats 1000000 in
theorem hasPrefix_any (s p : ByteArray) (w : World) (hs : s.size ≤ 9223372036854775807) :
    Calls Tryd.prog 55 #[.string s, .string p] w fun e w' => e = .returned (.bool (p.data.toList.isPrefixOf s.data.toList)) ∧ w = w' := by
  have e1 : s.data.toList.length = s.size := Array.length_toList
  have e2 : p.data.toList.length = p.size := Array.length_toList
  have hp := prefix_take p.data.toList s.data.toList
  rw [e1, e2] at hp
  have HP := Lib.hid hp
  clear hp e1 e2
  by_cases hle : p.size ≤ s.size
  · have hd : decide (p.size ≤ s.size) = true := decide_eq_true hle
    go_enter Tryd.func55, Tryd.ntmps55
    go_wp2
    go_ret
    refine ⟨?_, rfl⟩
    show Ending.returned (.bool ((s.extract 0 p.size).toList == p.toList)) = _
    rw [HP.out, hd, Bool.true_and, Lib.toList_data, Lib.toList_data, HLexC.take_data]
  · have hd : decide (p.size ≤ s.size) = false := decide_eq_false hle
    go_enter Tryd.func55, Tryd.ntmps55
    go_wp2
    go_ret
    exact ⟨by rw [HP.out, hd]; rfl, rfl⟩
def FirstPost (s : ByteArray) (w : World) (e : Ending) (w' : World) : Prop :=
  (match HLex.first s.data.toList with
    | .ok (k, t, n) => e = .returned (.agg #[.int .i64 (k : Int), .string ⟨t.toArray⟩, .int .i64 (n : Int), .int .i64 0])
    | .error er => e = .panicked [{ v := .iface 65 (.agg #[.int .i64 (er : Int)]), recovered := false }]) ∧ Below w.heap.size w w'

set_option maxHeartbeats 2000000 in
theorem first_word (s : ByteArray) (w : World) (hmax : s.size ≤ 9223372036854775807) (hne : s.data.toList.takeWhile HLex.wordly ≠ []) :
    Calls Tryd.prog 44 #[.string s] w (FirstPost s w) := by
  have hidx := HLex.idx_run s
  have hk0 : 0 < (s.data.toList.takeWhile HLex.wordly).length := List.length_pos_iff.2 hne
  have hkl := HLex.takeWhile_len_le HLex.wordly s.data.toList
  have e1 : s.data.toList.length = s.size := Array.length_toList
  rw [e1] at hkl
  generalize hk : (s.data.toList.takeWhile HLex.wordly).length = k at *
  by_cases hlt : k < s.size
  · rw [if_pos hlt] at hidx
    have HI := Lib.hid hidx; clear hidx
    go_enter Tryd.func44, Tryd.ntmps44
    go_wp2_with (go_at_call 50; refine (indexRun_any s _).mono ?_; rintro e w' ⟨rfl, hbl⟩; rw [HI.out])
    have hx : (s.extract 0 k).data.toList = s.data.toList.takeWhile HLex.wordly := by rw [take_data, ← hk, HLex.takeWhile_take]
    have hxs : (s.extract 0 k).size = k := by
      have : (s.extract 0 k).data.toList.length = (s.extract 0 k).size := Array.length_toList
      rw [hx] at this; omega
    have hxw : ∀ c ∈ (s.extract 0 k).data.toList, HLex.wordly c = true := by
      rw [hx]; exact takeWhile_forall _ _
    have hse : ∀ er, HLex.named (s.extract 0 k).data.toList = .error er → HLex.first s.data.toList = .error er := by
      rw [hx]; intro er h; exact first_of_err hne h
    have hso : ∀ kd n, HLex.named (s.extract 0 k).data.toList = .ok (kd, n) → HLex.first s.data.toList = .ok (kd, (s.extract 0 k).data.toList, n) := by
      rw [hx]; intro kd n h; exact first_of_ok hne h
    have HSE := Lib.hid hse
    have HSO := Lib.hid hso
    have hb0 := blk_below (blk_new w _) hbl
    have HB0 := Lib.hid hb0
    have HX := Lib.hid hxw
    clear hse hso hx hxw hb0
    generalize hxg : s.extract 0 k = x at *
    clear hxg
    refine (named_any x w' (by omega) (by omega) HX.out).mono ?_
    rintro e w2 ⟨hres, hb2⟩
    cases hnm : HLex.named x.data.toList with
    | error er =>
      rw [hnm] at hres
      have hs2 := HSE.out er hnm
      simp only at hres
      subst hres
      refine (show _ ∧ _ from ⟨rfl, ?_⟩)
      unfold FirstPost
      rw [hs2]
      exact ⟨rfl, below_step (below_step (below_alloc (Below.refl _ w) _) hbl) hb2⟩
    | ok kn =>
      obtain ⟨kd, n⟩ := kn
      rw [hnm] at hres
      have hs2 := HSO.out kd n hnm
      simp only at hres
      subst hres
      have hB2 := blk_below HB0.out hb2
      have c0 := blk_cell hB2 0; have c1 := blk_cell hB2 1; have c2 := blk_cell hB2 2; have c3 := blk_cell hB2 3
      have z0 := fun i => blk_frozen hB2 i
      replace HB0 := Lib.hid hB2
      have HS := Lib.hid hs2
      clear hB2 hs2 hnm
      simp at c0 c1 c2 c3
      go_wp2_with fail
      refine bodyPost_ret (v := .agg #[.int .i64 (kd : Int), .string x, .int .i64 (n : Int), .int .i64 0]) (results_cell_row rfl _ _ w.heap.size 33 #[.int .i64 (kd : Int), .string x, .int .i64 (n : Int), .int .i64 0] (0, 0) _ rfl (blk_put (blk_put (blk_put (blk_put HB0.out 0 _ rfl) 1 _ rfl) 2 _ rfl) 3 _ rfl) Tryd.underlying33 rfl (by kernel_rfl)) rfl ?_
      unfold FirstPost
      rw [HS.out]
      exact ⟨rfl, below_set (below_set (below_set (below_set (below_step (below_step (below_alloc (Below.refl _ w) _) hbl) hb2) (by omega)) (by omega)) (by omega)) (by omega)⟩
  · have hks : k = s.size := by omega
    rw [if_neg hlt] at hidx
    have hall : s.data.toList.takeWhile HLex.wordly = s.data.toList := HLex.takeWhile_all (by omega)
    have HI := Lib.hid hidx; clear hidx
    go_enter Tryd.func44, Tryd.ntmps44
    go_wp2_with (go_at_call 50; refine (indexRun_any s _).mono ?_; rintro e w' ⟨rfl, hbl⟩; rw [HI.out])
    have hx : s.data.toList = s.data.toList.takeWhile HLex.wordly := hall.symm
    have hxw : ∀ c ∈ s.data.toList, HLex.wordly c = true := by
      rw [hall.symm]; exact takeWhile_forall _ _
    have hse : ∀ er, HLex.named s.data.toList = .error er → HLex.first s.data.toList = .error er := by
      intro er h; exact first_of_err hne (by rw [hall]; exact h)
    have hso : ∀ kd n, HLex.named s.data.toList = .ok (kd, n) → HLex.first s.data.toList = .ok (kd, s.data.toList, n) := by
      intro kd n h; rw [first_of_ok hne (by rw [hall]; exact h), hall]
    have HSE := Lib.hid hse
    have HSO := Lib.hid hso
    have hb0 := blk_below (blk_new w _) hbl
    have HB0 := Lib.hid hb0
    have HX := Lib.hid hxw
    clear hse hso hx hxw hb0
    clear hk hne hall e1
    refine (named_any s w' (by omega) (by omega) HX.out).mono ?_
    rintro e w2 ⟨hres, hb2⟩
    cases hnm : HLex.named s.data.toList with
    | error er =>
      rw [hnm] at hres
      have hs2 := HSE.out er hnm
      simp only at hres
      subst hres
      refine (show _ ∧ _ from ⟨rfl, ?_⟩)
      unfold FirstPost
      rw [hs2]
      exact ⟨rfl, below_step (below_step (below_alloc (Below.refl _ w) _) hbl) hb2⟩
    | ok kn =>
      obtain ⟨kd, n⟩ := kn
      rw [hnm] at hres
      have hs2 := HSO.out kd n hnm
      simp only at hres
      subst hres
      have hB2 := blk_below HB0.out hb2
      have c0 := blk_cell hB2 0; have c1 := blk_cell hB2 1; have c2 := blk_cell hB2 2; have c3 := blk_cell hB2 3
      have z0 := fun i => blk_frozen hB2 i
      replace HB0 := Lib.hid hB2
      have HS := Lib.hid hs2
      clear hB2 hs2 hnm
      simp at c0 c1 c2 c3
      go_wp2_with fail
      refine bodyPost_ret (v := .agg #[.int .i64 (kd : Int), .string s, .int .i64 (n : Int), .int .i64 0]) (results_cell_row rfl _ _ w.heap.size 33 #[.int .i64 (kd : Int), .string s, .int .i64 (n : Int), .int .i64 0] (0, 0) _ rfl (blk_put (blk_put (blk_put (blk_put HB0.out 0 _ rfl) 1 _ rfl) 2 _ rfl) 3 _ rfl) Tryd.underlying33 rfl (by kernel_rfl)) rfl ?_
      unfold FirstPost
      rw [HS.out]
      exact ⟨rfl, below_set (below_set (below_set (below_set (below_step (below_step (below_alloc (Below.refl _ w) _) hbl) hb2) (by omega)) (by omega)) (by omega)) (by omega)⟩

theorem find_lemma (l : List UInt8) (k : Nat) (hk : k < 15) (hno : ∀ j, j < k → (HLex.signs.getD j []).isPrefixOf l = false) (hyes : (HLex.signs.getD k []).isPrefixOf l = true) :
    HLex.signs.find? (fun s => s.isPrefixOf l) = some (HLex.signs.getD k []) := by
  rw [List.find?_eq_some_iff_getElem]
  refine ⟨hyes, k, hk, ?_, ?_⟩
  · rw [List.getD_eq_getElem?_getD, List.getElem?_eq_getElem (show k < HLex.signs.length from hk)]; rfl
  · intro j hj
    have := hno j hj
    rw [List.getD_eq_getElem?_getD, List.getElem?_eq_getElem (show j < HLex.signs.length from Nat.lt_trans hj hk)] at this
    simpa using this
theorem find_none (l : List UInt8) (hno : ∀ j, j < 15 → (HLex.signs.getD j []).isPrefixOf l = false) : HLex.signs.find? (fun s => s.isPrefixOf l) = none := by
  rw [List.find?_eq_none]
  intro x hx
  obtain ⟨j, hj, rfl⟩ := List.getElem_of_mem hx
  have := hno j hj
  rw [List.getD_eq_getElem?_getD, List.getElem?_eq_getElem hj, Option.getD_some] at this
  rw [this]; exact Bool.false_ne_true

set_option maxRecDepth 100000 in
theorem index_signs (k : Nat) (hk : k < 15) : ∀ w : World, (Instr.index 84 (.agg signsV) (.int .i64 k)).run Tryd.prog w = .ok (.string (signsB.getD k ByteArray.empty)) w := by
  have hk15 : k = 0 ∨ k = 1 ∨ k = 2 ∨ k = 3 ∨ k = 4 ∨ k = 5 ∨ k = 6 ∨ k = 7 ∨ k = 8 ∨ k = 9 ∨ k = 10 ∨ k = 11 ∨ k = 12 ∨ k = 13 ∨ k = 14 := by omega
  rcases hk15 with rfl | rfl | rfl | rfl | rfl | rfl | rfl | rfl | rfl | rfl | rfl | rfl | rfl | rfl | rfl
  all_goals exact fun w => by kernel_rfl

theorem signs_same (k : Nat) (hk : k < 15) : (signsB[k]?.getD ByteArray.empty).data.toList = HLex.signs.getD k [] := by
  have hk15 : k = 0 ∨ k = 1 ∨ k = 2 ∨ k = 3 ∨ k = 4 ∨ k = 5 ∨ k = 6 ∨ k = 7 ∨ k = 8 ∨ k = 9 ∨ k = 10 ∨ k = 11 ∨ k = 12 ∨ k = 13 ∨ k = 14 := by omega
  rcases hk15 with rfl | rfl | rfl | rfl | rfl | rfl | rfl | rfl | rfl | rfl | rfl | rfl | rfl | rfl | rfl
  all_goals rfl

set_option maxHeartbeats 4000000 in
theorem first_sign (s : ByteArray) (w : World) (hmax : s.size ≤ 9223372036854775807) (hn : 0 < s.size) (hne : s.data.toList.takeWhile HLex.wordly = []) :
    Calls Tryd.prog 44 #[.string s] w (FirstPost s w) := by
  have hidx := HLex.idx_run s
  rw [hne, List.length_nil, if_pos hn] at hidx
  have HI := Lib.hid hidx; clear hidx
  have hF1 : ∀ x, HLex.signs.find? (fun x => x.isPrefixOf s.data.toList) = some x → HLex.first s.data.toList = .ok (5, x, 0) := by
    intro o ho; unfold HLex.first; simp only [hne, if_true, ho]
  have hF2 : HLex.signs.find? (fun x => x.isPrefixOf s.data.toList) = none → HLex.first s.data.toList = .error 10 := by
    intro ho; unfold HLex.first; simp only [hne, if_true, ho]
  have HF1 := Lib.hid hF1; have HF2 := Lib.hid hF2; clear hF1 hF2 hne
  go_enter Tryd.func44, Tryd.ntmps44
  go_wp2_with (first | (go_at_call 50; refine (indexRun_any s _).mono ?_; rintro e w' ⟨rfl, hbl⟩; rw [HI.out]) | (go_at_call 54; refine (signs_any _).mono ?_; rintro e w2 ⟨rfl, hb2⟩))
  go_loop [5, 19] (fun _ i => ∃ k : Nat, k ≤ 15 ∧ i = .int .i64 k ∧ Hid (∀ j, j < k → (HLex.signs.getD j []).isPrefixOf s.data.toList = false)) (fun _ i => 15 - (intOf i).toNat)
  case atStart => exact ⟨0, by omega, rfl, Lib.hid (fun j hj => absurd hj (Nat.not_lt_zero _))⟩
  case round =>
    obtain ⟨k, hk, rfl, hno⟩ := hrel
    by_cases hlt : k < 15
    · have hix := index_signs k hlt
      have hsk := signs_same k hlt
      have hb0 := blk_below (blk_below (blk_new w _) hbl) hb2
      have c0 := blk_cell hb0 0; have c1 := blk_cell hb0 1; have c2 := blk_cell hb0 2; have c3 := blk_cell hb0 3
      have z0 := fun i => blk_frozen hb0 i
      have HB0 := Lib.hid hb0; have HSK := Lib.hid hsk
      clear hb0 hsk
      simp at c0 c1 c2 c3
      cases hp : (HLex.signs.getD k []).isPrefixOf s.data.toList
      · have HP := Lib.hid hp
        clear hp
        go_wp2_with (go_at_call 55; refine (hasPrefix_any s _ _ hmax).mono ?_; rintro e w3 ⟨rfl, rfl⟩; rw [show (signsB[k]?.getD ByteArray.empty).data.toList = HLex.signs.getD k [] from HSK.out, HP.out])
        go_round
        case rel =>
          refine ⟨k + 1, by omega, by go_num, Lib.hid (fun j hj => ?_)⟩
          rcases Nat.lt_succ_iff_lt_or_eq.1 hj with h | rfl
          · exact hno.out j h
          · exact HP.out
        case measure => simp [intOf]; omega
      · have HP := Lib.hid hp
        clear hp
        go_wp2_with (go_at_call 55; refine (hasPrefix_any s _ _ hmax).mono ?_; rintro e w3 ⟨rfl, rfl⟩; rw [show (signsB[k]?.getD ByteArray.empty).data.toList = HLex.signs.getD k [] from HSK.out, HP.out])
        have hf := HF1.out _ (find_lemma _ k hlt hno.out HP.out)
        have hx : (⟨(HLex.signs.getD k []).toArray⟩ : ByteArray) = signsB[k]?.getD ByteArray.empty := by rw [← HSK.out]
        refine bodyPost_ret (v := .agg #[.int .i64 5, .string (signsB[k]?.getD ByteArray.empty), .int .i64 0, .int .i64 0]) (results_cell_row rfl _ _ w.heap.size 33 #[.int .i64 5, .string (signsB[k]?.getD ByteArray.empty), .int .i64 0, .int .i64 0] (0, 0) _ rfl (blk_put (blk_put (blk_put (blk_put HB0.out 0 _ rfl) 1 _ rfl) 2 _ rfl) 3 _ rfl) Tryd.underlying33 rfl (by kernel_rfl)) rfl ?_
        unfold FirstPost
        rw [hf]
        simp only [hx]
        exact ⟨rfl, below_set (below_set (below_set (below_set (below_step (below_step (below_alloc (Below.refl _ w) _) hbl) hb2) (by omega)) (by omega)) (by omega)) (by omega)⟩
    · go_wp2_with fail
      have hf := HF2.out (find_none _ (fun j hj => hno.out j (by omega)))
      refine (show _ ∧ _ from ⟨rfl, ?_⟩)
      unfold FirstPost
      rw [hf]
      exact ⟨rfl, below_step (below_step (below_alloc (Below.refl _ w) _) hbl) hb2⟩

theorem first_any (s : ByteArray) (w : World) (hmax : s.size ≤ 9223372036854775807) (hn : 0 < s.size) :
    Calls Tryd.prog 44 #[.string s] w (FirstPost s w) := by
  by_cases hne : s.data.toList.takeWhile HLex.wordly = []
  · exact first_sign s w hmax hn hne
  · exact first_word s w hmax hne
end Go.Proofs.YthdkjfhpbigdpaaDoor.HLexC
