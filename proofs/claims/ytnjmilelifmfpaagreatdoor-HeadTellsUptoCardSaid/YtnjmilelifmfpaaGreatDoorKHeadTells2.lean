-- Written for this claim: several texts in one.
import Derived.Test.YtnjmilelifmfpaaGreatDoorKHeadTells1
import Derived.Below
import Derived.OwnWalk
import Derived.Tactics
import Derived.Tactics2
import Derived.Laws.Slices
import Derived.WalkKit
import Derived.KernelRfl
import Derived.Deep.LoopGhost
import Derived.Deep.QuietTactic
import Derived.BigQuiet
import Derived.WideLaws
import Derived.Outline
import Derived.Laws.Rows
import Derived.Test.YtnjmilelifmfpaaGreatDoorYHeadTellsMore
import Derived.WalkSmall
import Derived.Defers
import Derived.Recover
import Derived.Laws.Pointers
import Derived.RegionTactic
import Derived.ChangeAlike
import Derived.Deep.DeepCutAuto
import Derived.Deep.CutBlock
import Derived.Laws.NewBlocks
import Derived.Deep.RegionWith
import Derived.Test.YtnjmilelifmfpaaGreatDoorProg
set_option linter.unusedSimpArgs false
set_option linter.unusedVariables false
/- The walk of lex.first, in the words of HLex. -/
namespace Go.Proofs.YtnjmilelifmfpaaGreatDoor.HLexC
open Go Go.RowKit Go.Lib Go.Proofs Go.Proofs.YtnjmilelifmfpaaGreatDoorW.PrintWords Go.Proofs.YtnjmilelifmfpaaGreatDoorW.PrintLast Go.Proofs.YtnjmilelifmfpaaGreatDoorW.PrintMore
set_option linter.unusedVariables false
set_option linter.unusedSimpArgs false


def signsB : List ByteArray := [⟨#[45, 62]⟩, ⟨#[61, 61]⟩, ⟨#[92]⟩, ⟨#[46]⟩, ⟨#[40]⟩, ⟨#[41]⟩, ⟨#[61]⟩, ⟨#[123]⟩, ⟨#[125]⟩, ⟨#[124]⟩, ⟨#[43]⟩, ⟨#[45]⟩, ⟨#[42]⟩, ⟨#[47]⟩, ⟨#[60]⟩]
def signsV : Array Value := #[.string ⟨#[45, 62]⟩, .string ⟨#[61, 61]⟩, .string ⟨#[92]⟩, .string ⟨#[46]⟩, .string ⟨#[40]⟩, .string ⟨#[41]⟩, .string ⟨#[61]⟩, .string ⟨#[123]⟩, .string ⟨#[125]⟩, .string ⟨#[124]⟩, .string ⟨#[43]⟩, .string ⟨#[45]⟩, .string ⟨#[42]⟩, .string ⟨#[47]⟩, .string ⟨#[60]⟩]

theorem signs_any (w : World) :
  Calls Tryz.prog 122 #[] w fun e w' => e = .returned (.agg signsV) ∧ Below w.heap.size w w' := by
 go_enter Tryz.func122, Tryz.ntmps122
 go_wp2
 exact bodyPost_ret (v := .agg signsV) (results_cell_row rfl _ _ w.heap.size 124 signsV (0, 0) _ rfl (blk_new w _) Tryz.underlying124 rfl (by kernel_rfl)) rfl ⟨rfl, (Below.refl _ w).alloc (Nat.le_refl _) _⟩

theorem takeWhile_forall (q : UInt8 → Bool) (l : List UInt8) : ∀ c ∈ l.takeWhile q, q c = true := by
 induction l with
 | nil => intro c hc; simp at hc
 | cons a t ih =>
  intro c hc
  rw [List.takeWhile_cons] at hc
  split at hc
  ·rcases List.mem_cons.1 hc with rfl | h
   ·assumption
   ·exact ih c h
  ·simp at hc
theorem first_of_ok {l : List UInt8} {kd n : Nat} (hne : l.takeWhile HLex.wordly ≠ []) (h : HLex.named (l.takeWhile HLex.wordly) = .ok (kd, n)) : HLex.first l = .ok (kd, l.takeWhile HLex.wordly, n) := by
 unfold HLex.first; simp only [hne, if_false, h]
theorem first_of_err {l : List UInt8} {er : Nat} (hne : l.takeWhile HLex.wordly ≠ []) (h : HLex.named (l.takeWhile HLex.wordly) = .error er) : HLex.first l = .error er := by
 unfold HLex.first; simp only [hne, if_false, h]
theorem take_data (s : ByteArray) (k : Nat) : (s.extract 0 k).data.toList = s.data.toList.take k := by
 rw [Lib.extract_data]; simp
theorem prefix_take (p l : List UInt8) : p.isPrefixOf l = (decide (p.length ≤ l.length) && (l.take p.length == p)) := by
 rw [Bool.eq_iff_iff]
 simp only [List.isPrefixOf_iff_prefix, Bool.and_eq_true, decide_eq_true_eq, beq_iff_eq]
 constructor
 ·intro h; exact ⟨h.length_le, (List.prefix_iff_eq_take.1 h).symm⟩
 ·rintro ⟨_, h⟩; rw [← h]; exact List.take_prefix _ _
set_option maxHeartbeats 1000000 in
theorem hasPrefix_any (s p : ByteArray) (w : World) (hs : s.size ≤ 9223372036854775807) :
  Calls Tryz.prog 123 #[.string s, .string p] w fun e w' => e = .returned (.bool (p.data.toList.isPrefixOf s.data.toList)) ∧ w = w' := by
 have e1 : s.data.toList.length = s.size := Array.length_toList
 have e2 : p.data.toList.length = p.size := Array.length_toList
 have hp := prefix_take p.data.toList s.data.toList
 rw [e1, e2] at hp
 have HP := Lib.hid hp
 clear hp e1 e2
 by_cases hle : p.size ≤ s.size
 ·have hd : decide (p.size ≤ s.size) = true := decide_eq_true hle
  go_enter Tryz.func123, Tryz.ntmps123
  go_wp2
  go_ret
  refine ⟨?_, rfl⟩
  show Ending.returned (.bool ((s.extract 0 p.size).toList == p.toList)) = _
  rw [HP.out, hd, Bool.true_and, Lib.toList_data, Lib.toList_data, HLexC.take_data]
 ·have hd : decide (p.size ≤ s.size) = false := decide_eq_false hle
  go_enter Tryz.func123, Tryz.ntmps123
  go_wp2
  go_ret
  exact ⟨by rw [HP.out, hd]; rfl, rfl⟩
def FirstPost (s : ByteArray) (w : World) (e : Ending) (w' : World) : Prop :=
 (match HLex.first s.data.toList with
  | .ok (k, t, n) => e = .returned (.agg #[.int .i64 (k : Int), .string ⟨t.toArray⟩, .int .i64 (n : Int), .int .i64 0])
  | .error er => e = .panicked [{ v := .iface 90 (.agg #[.int .i64 (er : Int)]), recovered := false }]) ∧ Below w.heap.size w w'

set_option maxHeartbeats 2000000 in
theorem first_word (s : ByteArray) (w : World) (hmax : s.size ≤ 9223372036854775807) (hne : s.data.toList.takeWhile HLex.wordly ≠ []) :
  Calls Tryz.prog 85 #[.string s] w (FirstPost s w) := by
 have hidx := HLex.idx_run s
 have hk0 : 0 < (s.data.toList.takeWhile HLex.wordly).length := List.length_pos_iff.2 hne
 have hkl := HLex.takeWhile_len_le HLex.wordly s.data.toList
 have e1 : s.data.toList.length = s.size := Array.length_toList
 rw [e1] at hkl
 generalize hk : (s.data.toList.takeWhile HLex.wordly).length = k at *
 by_cases hlt : k < s.size
 ·rw [if_pos hlt] at hidx
  have HI := Lib.hid hidx; clear hidx
  go_enter Tryz.func85, Tryz.ntmps85
  go_wp2_with (go_at_call 118; refine (indexRun_any s _).mono ?_; rintro e w' ⟨rfl, hbl⟩; rw [HI.out])
  have hx : (s.extract 0 k).data.toList = s.data.toList.takeWhile HLex.wordly := by rw [take_data, ← hk, HLex.takeWhile_take]
  have hxs : (s.extract 0 k).size = k := by
   have : (s.extract 0 k).data.toList.length = (s.extract 0 k).size := Array.length_toList
   rw [hx] at this; omega
  have hxw : ∀ c ∈ (s.extract 0 k).data.toList, HLex.wordly c = true := by
   rw [hx]; exact takeWhile_forall _ _
  have hse : ∀ er, HLex.named (s.extract 0 k).data.toList = .error er → HLex.first s.data.toList = .error er := by
   rw [hx]; intro er h; exact first_of_err hne h
  have hso : ∀ kd n, HLex.named (s.extract 0 k).data.toList = .ok (kd, n) → HLex.first s.data.toList = .ok (kd, (s.extract 0 k).data.toList, n) := by
   rw [hx]; intro kd n h; exact first_of_ok hne h
  have HSE := Lib.hid hse
  have HSO := Lib.hid hso
  have hb0 := blk_below (blk_new w _) hbl
  have HB0 := Lib.hid hb0
  have HX := Lib.hid hxw
  clear hse hso hx hxw hb0
  generalize hxg : s.extract 0 k = x at *
  clear hxg
  refine (named_any x w' (by omega) (by omega) HX.out).mono ?_
  rintro e w2 ⟨hres, hb2⟩
  cases hnm : HLex.named x.data.toList with
  | error er =>
   rw [hnm] at hres
   have hs2 := HSE.out er hnm
   simp only at hres
   subst hres
   refine (show _ ∧ _ from ⟨rfl, ?_⟩)
   unfold FirstPost
   rw [hs2]
   exact ⟨rfl, below_step (below_step (below_alloc (Below.refl _ w) _) hbl) hb2⟩
  | ok kn =>
   obtain ⟨kd, n⟩ := kn
   rw [hnm] at hres
   have hs2 := HSO.out kd n hnm
   simp only at hres
   subst hres
   have hB2 := blk_below HB0.out hb2
   have c0 := blk_cell hB2 0; have c1 := blk_cell hB2 1; have c2 := blk_cell hB2 2; have c3 := blk_cell hB2 3
   have z0 := fun i => blk_frozen hB2 i
   replace HB0 := Lib.hid hB2
   have HS := Lib.hid hs2
   clear hB2 hs2 hnm
   simp at c0 c1 c2 c3
   go_wp2_with fail
   refine bodyPost_ret (v := .agg #[.int .i64 (kd : Int), .string x, .int .i64 (n : Int), .int .i64 0]) (results_cell_row rfl _ _ w.heap.size 63 #[.int .i64 (kd : Int), .string x, .int .i64 (n : Int), .int .i64 0] (0, 0) _ rfl (blk_put (blk_put (blk_put (blk_put HB0.out 0 _ rfl) 1 _ rfl) 2 _ rfl) 3 _ rfl) Tryz.underlying63 rfl (by kernel_rfl)) rfl ?_
   unfold FirstPost
   rw [HS.out]
   exact ⟨rfl, below_set (below_set (below_set (below_set (below_step (below_step (below_alloc (Below.refl _ w) _) hbl) hb2) (by omega)) (by omega)) (by omega)) (by omega)⟩
 ·have hks : k = s.size := by omega
  rw [if_neg hlt] at hidx
  have hall : s.data.toList.takeWhile HLex.wordly = s.data.toList := HLex.takeWhile_all (by omega)
  have HI := Lib.hid hidx; clear hidx
  go_enter Tryz.func85, Tryz.ntmps85
  go_wp2_with (go_at_call 118; refine (indexRun_any s _).mono ?_; rintro e w' ⟨rfl, hbl⟩; rw [HI.out])
  have hx : s.data.toList = s.data.toList.takeWhile HLex.wordly := hall.symm
  have hxw : ∀ c ∈ s.data.toList, HLex.wordly c = true := by
   rw [hall.symm]; exact takeWhile_forall _ _
  have hse : ∀ er, HLex.named s.data.toList = .error er → HLex.first s.data.toList = .error er := by
   intro er h; exact first_of_err hne (by rw [hall]; exact h)
  have hso : ∀ kd n, HLex.named s.data.toList = .ok (kd, n) → HLex.first s.data.toList = .ok (kd, s.data.toList, n) := by
   intro kd n h; rw [first_of_ok hne (by rw [hall]; exact h), hall]
  have HSE := Lib.hid hse
  have HSO := Lib.hid hso
  have hb0 := blk_below (blk_new w _) hbl
  have HB0 := Lib.hid hb0
  have HX := Lib.hid hxw
  clear hse hso hx hxw hb0
  clear hk hne hall e1
  refine (named_any s w' (by omega) (by omega) HX.out).mono ?_
  rintro e w2 ⟨hres, hb2⟩
  cases hnm : HLex.named s.data.toList with
  | error er =>
   rw [hnm] at hres
   have hs2 := HSE.out er hnm
   simp only at hres
   subst hres
   refine (show _ ∧ _ from ⟨rfl, ?_⟩)
   unfold FirstPost
   rw [hs2]
   exact ⟨rfl, below_step (below_step (below_alloc (Below.refl _ w) _) hbl) hb2⟩
  | ok kn =>
   obtain ⟨kd, n⟩ := kn
   rw [hnm] at hres
   have hs2 := HSO.out kd n hnm
   simp only at hres
   subst hres
   have hB2 := blk_below HB0.out hb2
   have c0 := blk_cell hB2 0; have c1 := blk_cell hB2 1; have c2 := blk_cell hB2 2; have c3 := blk_cell hB2 3
   have z0 := fun i => blk_frozen hB2 i
   replace HB0 := Lib.hid hB2
   have HS := Lib.hid hs2
   clear hB2 hs2 hnm
   simp at c0 c1 c2 c3
   go_wp2_with fail
   refine bodyPost_ret (v := .agg #[.int .i64 (kd : Int), .string s, .int .i64 (n : Int), .int .i64 0]) (results_cell_row rfl _ _ w.heap.size 63 #[.int .i64 (kd : Int), .string s, .int .i64 (n : Int), .int .i64 0] (0, 0) _ rfl (blk_put (blk_put (blk_put (blk_put HB0.out 0 _ rfl) 1 _ rfl) 2 _ rfl) 3 _ rfl) Tryz.underlying63 rfl (by kernel_rfl)) rfl ?_
   unfold FirstPost
   rw [HS.out]
   exact ⟨rfl, below_set (below_set (below_set (below_set (below_step (below_step (below_alloc (Below.refl _ w) _) hbl) hb2) (by omega)) (by omega)) (by omega)) (by omega)⟩

theorem find_lemma (l : List UInt8) (k : Nat) (hk : k < 15) (hno : ∀ j, j < k → (HLex.signs.getD j []).isPrefixOf l = false) (hyes : (HLex.signs.getD k []).isPrefixOf l = true) :
  HLex.signs.find? (fun s => s.isPrefixOf l) = some (HLex.signs.getD k []) := by
 rw [List.find?_eq_some_iff_getElem]
 refine ⟨hyes, k, hk, ?_, ?_⟩
 ·rw [List.getD_eq_getElem?_getD, List.getElem?_eq_getElem (show k < HLex.signs.length from hk)]; rfl
 ·intro j hj
  have := hno j hj
  rw [List.getD_eq_getElem?_getD, List.getElem?_eq_getElem (show j < HLex.signs.length from Nat.lt_trans hj hk)] at this
  simpa using this
theorem find_none (l : List UInt8) (hno : ∀ j, j < 15 → (HLex.signs.getD j []).isPrefixOf l = false) : HLex.signs.find? (fun s => s.isPrefixOf l) = none := by
 rw [List.find?_eq_none]
 intro x hx
 obtain ⟨j, hj, rfl⟩ := List.getElem_of_mem hx
 have := hno j hj
 rw [List.getD_eq_getElem?_getD, List.getElem?_eq_getElem hj, Option.getD_some] at this
 rw [this]; exact Bool.false_ne_true

set_option maxRecDepth 100000 in
theorem index_signs (k : Nat) (hk : k < 15) : ∀ w : World, (Instr.index 124 (.agg signsV) (.int .i64 k)).run Tryz.prog w = .ok (.string (signsB.getD k ByteArray.empty)) w := by
 have hk15 : k = 0 ∨ k = 1 ∨ k = 2 ∨ k = 3 ∨ k = 4 ∨ k = 5 ∨ k = 6 ∨ k = 7 ∨ k = 8 ∨ k = 9 ∨ k = 10 ∨ k = 11 ∨ k = 12 ∨ k = 13 ∨ k = 14 := by omega
 rcases hk15 with rfl|rfl|rfl|rfl|rfl|rfl|rfl|rfl|rfl|rfl|rfl|rfl|rfl|rfl|rfl
 all_goals exact fun w => by kernel_rfl

theorem signs_same (k : Nat) (hk : k < 15) : (signsB[k]?.getD ByteArray.empty).data.toList = HLex.signs.getD k [] := by
 have hk15 : k = 0 ∨ k = 1 ∨ k = 2 ∨ k = 3 ∨ k = 4 ∨ k = 5 ∨ k = 6 ∨ k = 7 ∨ k = 8 ∨ k = 9 ∨ k = 10 ∨ k = 11 ∨ k = 12 ∨ k = 13 ∨ k = 14 := by omega
 rcases hk15 with rfl|rfl|rfl|rfl|rfl|rfl|rfl|rfl|rfl|rfl|rfl|rfl|rfl|rfl|rfl
 all_goals rfl

set_option maxHeartbeats 4000000 in
theorem first_sign (s : ByteArray) (w : World) (hmax : s.size ≤ 9223372036854775807) (hn : 0 < s.size) (hne : s.data.toList.takeWhile HLex.wordly = []) :
  Calls Tryz.prog 85 #[.string s] w (FirstPost s w) := by
 have hidx := HLex.idx_run s
 rw [hne, List.length_nil, if_pos hn] at hidx
 have HI := Lib.hid hidx; clear hidx
 have hF1 : ∀ x, HLex.signs.find? (fun x => x.isPrefixOf s.data.toList) = some x → HLex.first s.data.toList = .ok (5, x, 0) := by
  intro o ho; unfold HLex.first; simp only [hne, if_true, ho]
 have hF2 : HLex.signs.find? (fun x => x.isPrefixOf s.data.toList) = none → HLex.first s.data.toList = .error 10 := by
  intro ho; unfold HLex.first; simp only [hne, if_true, ho]
 have HF1 := Lib.hid hF1; have HF2 := Lib.hid hF2; clear hF1 hF2 hne
 go_enter Tryz.func85, Tryz.ntmps85
 go_wp2_with (first|(go_at_call 118; refine (indexRun_any s _).mono ?_; rintro e w' ⟨rfl, hbl⟩; rw [HI.out]) | (go_at_call 122; refine (signs_any _).mono ?_; rintro e w2 ⟨rfl, hb2⟩))
 go_loop [5, 19] (fun _ i => ∃ k : Nat, k ≤ 15 ∧ i = .int .i64 k ∧ Hid (∀ j, j < k → (HLex.signs.getD j []).isPrefixOf s.data.toList = false)) (fun _ i => 15 - (intOf i).toNat)
 case atStart => exact ⟨0, by omega, rfl, Lib.hid (fun j hj => absurd hj (Nat.not_lt_zero _))⟩
 case round =>
  obtain ⟨k, hk, rfl, hno⟩ := hrel
  by_cases hlt : k < 15
  ·have hix := index_signs k hlt
   have hsk := signs_same k hlt
   have hb0 := blk_below (blk_below (blk_new w _) hbl) hb2
   have c0 := blk_cell hb0 0; have c1 := blk_cell hb0 1; have c2 := blk_cell hb0 2; have c3 := blk_cell hb0 3
   have z0 := fun i => blk_frozen hb0 i
   have HB0 := Lib.hid hb0; have HSK := Lib.hid hsk
   clear hb0 hsk
   simp at c0 c1 c2 c3
   cases hp : (HLex.signs.getD k []).isPrefixOf s.data.toList
   ·have HP := Lib.hid hp
    clear hp
    go_wp2_with (go_at_call 123; refine (hasPrefix_any s _ _ hmax).mono ?_; rintro e w3 ⟨rfl, rfl⟩; rw [show (signsB[k]?.getD ByteArray.empty).data.toList = HLex.signs.getD k [] from HSK.out, HP.out])
    go_round
    case rel =>
     refine ⟨k + 1, by omega, by go_num, Lib.hid (fun j hj => ?_)⟩
     rcases Nat.lt_succ_iff_lt_or_eq.1 hj with h|rfl
     ·exact hno.out j h
     ·exact HP.out
    case measure => simp [intOf]; omega
   ·have HP := Lib.hid hp
    clear hp
    go_wp2_with (go_at_call 123; refine (hasPrefix_any s _ _ hmax).mono ?_; rintro e w3 ⟨rfl, rfl⟩; rw [show (signsB[k]?.getD ByteArray.empty).data.toList = HLex.signs.getD k [] from HSK.out, HP.out])
    have hf := HF1.out _ (find_lemma _ k hlt hno.out HP.out)
    have hx : (⟨(HLex.signs.getD k []).toArray⟩ : ByteArray) = signsB[k]?.getD ByteArray.empty := by rw [← HSK.out]
    refine bodyPost_ret (v := .agg #[.int .i64 5, .string (signsB[k]?.getD ByteArray.empty), .int .i64 0, .int .i64 0]) (results_cell_row rfl _ _ w.heap.size 63 #[.int .i64 5, .string (signsB[k]?.getD ByteArray.empty), .int .i64 0, .int .i64 0] (0, 0) _ rfl (blk_put (blk_put (blk_put (blk_put HB0.out 0 _ rfl) 1 _ rfl) 2 _ rfl) 3 _ rfl) Tryz.underlying63 rfl (by kernel_rfl)) rfl ?_
    unfold FirstPost
    rw [hf]
    simp only [hx]
    exact ⟨rfl, below_set (below_set (below_set (below_set (below_step (below_step (below_alloc (Below.refl _ w) _) hbl) hb2) (by omega)) (by omega)) (by omega)) (by omega)⟩
  ·go_wp2_with fail
   have hf := HF2.out (find_none _ (fun j hj => hno.out j (by omega)))
   refine (show _ ∧ _ from ⟨rfl, ?_⟩)
   unfold FirstPost
   rw [hf]
   exact ⟨rfl, below_step (below_step (below_alloc (Below.refl _ w) _) hbl) hb2⟩

theorem first_any (s : ByteArray) (w : World) (hmax : s.size ≤ 9223372036854775807) (hn : 0 < s.size) :
  Calls Tryz.prog 85 #[.string s] w (FirstPost s w) := by
 by_cases hne : s.data.toList.takeWhile HLex.wordly = []
 ·exact first_sign s w hmax hn hne
 ·exact first_word s w hmax hne
end Go.Proofs.YtnjmilelifmfpaaGreatDoor.HLexC

/- The walk of lex.All (and of its deferred function), in the words of HLex. -/
namespace Go.Proofs.YtnjmilelifmfpaaGreatDoor.HLexC
open Go Go.RowKit Go.Lib Go.Proofs Go.Proofs.YtnjmilelifmfpaaGreatDoorW.PrintWords Go.Proofs.YtnjmilelifmfpaaGreatDoorW.PrintLast Go.Proofs.YtnjmilelifmfpaaGreatDoorW.PrintMore Go.Proofs.YtnjmilelifmfpaaGreatDoor.Q
set_option linter.unusedVariables false
set_option linter.unusedSimpArgs false

set_option maxRecDepth 100000 in
theorem wrong_neq (er : Int) : ∀ W : World, (binOp .neq 20 (.iface 90 (.agg #[.int .i64 er])) .nilIface).run Tryz.prog W = .ok (.bool true) W := fun W => run_neq_held_nil _ _ _ _ (by kernel_rfl)
set_option maxRecDepth 100000 in
theorem wrong_assert (er : Int) : ∀ W : World, (Instr.typeAssert (.iface 90 (.agg #[.int .i64 er])) 20 90 true).run Tryz.prog W = .ok (.tuple #[.agg #[.int .i64 er], .bool true]) W := fun W => by rfl
set_option maxRecDepth 100000 in
theorem nil_neq : ∀ W : World, (binOp .neq 20 .nilIface .nilIface).run Tryz.prog W = .ok (.bool false) W := fun W => run_neq_nil_nil _ _ (by kernel_rfl)
set_option maxHeartbeats 1000000 in
theorem catch_panicking (g0 g1 : Nat) (er : Int) (v0 v1 : Value) (older : List PanicEntry) (w : World)
  (h0 : w.heap[g0]? = some (.cells #[v0] 56 (0, 0))) (h1 : w.heap[g1]? = some (.cells #[v1] 30 (0, 0))) (hne : g0 ≠ g1) :
  CallsD Tryz.prog 83 #[.pointer (some ⟨g0, 0, none⟩), .pointer (some ⟨g1, 0, none⟩)] (.panicking ({ v := .iface 90 (.agg #[.int .i64 er]), recovered := false } :: older)) w fun e u' w' =>
   e = .returned (.tuple #[]) ∧ u' = .panicking ({ v := .iface 90 (.agg #[.int .i64 er]), recovered := true } :: older) ∧
    w'.heap[g0]? = some (.cells #[.slice none 0 0] 56 (0, 0)) ∧ w'.heap[g1]? = some (.cells #[.int .i64 er] 30 (0, 0)) ∧ (∀ B, B ≤ g0 → B ≤ g1 → B ≤ w.heap.size → Below B w w') := by
 refine callsD_of_wpS Tryz.func83 rfl fun c₀ cs hu => ?_
 apply wpS_seq
 apply wpS_region
 simp [wpOpsS, go_sem, recoverD, hu, Tryz.ntmps83, Exit.thenS]
 have f0 : w.frozen? ⟨g0, 0, none⟩ = false := blk_frozen h0 0
 have f1 : w.frozen? ⟨g1, 0, none⟩ = false := blk_frozen h1 0
 have hneq := wrong_neq er
 have hta := wrong_assert er
 refine wpS_of_wp (wp_mono (Q := fun e a' w' => e = .normal ∧ a'.defers = [] ∧ (w'.heap[g0]? = some (.cells #[.slice none 0 0] 56 (0, 0)) ∧ w'.heap[g1]? = some (.cells #[.int .i64 er] 30 (0, 0)) ∧ (∀ B, B ≤ g0 → B ≤ g1 → B ≤ w.heap.size → Below B w w'))) ?_ ?_)
 ·clear hu
  trace "1"
  rw [show (#[Value.pointer (some { block := g0, off := 0 }), Value.pointer (some { block := g1, off := 0 })] ++ ((Array.replicate 16 undef).setIfInBounds 3 (Value.iface 90 (Value.agg #[Value.int IntKind.i64 er]))).setIfInBounds 0 (Value.iface 90 (Value.agg #[Value.int IntKind.i64 er]))) = #[Value.pointer (some { block := g0, off := 0 }), Value.pointer (some { block := g1, off := 0 }), (Value.iface 90 (Value.agg #[Value.int IntKind.i64 er])), undef, undef, (Value.iface 90 (Value.agg #[Value.int IntKind.i64 er])), undef, undef, undef, undef, undef, undef, undef, undef, undef, undef, undef, undef] from rfl]
  go_wp2_with fail
  have l0 := blk_lt h0
  have l1 := blk_lt h1
  have n0 : ¬ w.heap.size = g0 := by omega
  have n1 : ¬ w.heap.size = g1 := by omega
  have n0' : ¬ g0 = w.heap.size := by omega
  have n1' : ¬ g1 = w.heap.size := by omega
  have c0 := blk_cell h0 0
  have c1 := blk_cell h1 0
  simp at c0 c1
  have H0 := Lib.hid h0; have H1 := Lib.hid h1; clear h0 h1
  go_region
  exact ⟨rfl, rfl, blk_drew (blk_alloc (blk_far (p := ⟨g1, 0, none⟩) (blk_put H0.out 0 _ rfl) hne _) _), blk_drew (blk_alloc (blk_put (blk_far (p := ⟨g0, 0, none⟩) H1.out (Ne.symm hne) _) 0 _ rfl) _), fun B b0 b1 b2 => ((((Below.refl B w).setCell b0 _).setCell b1 _).alloc (by simpa using b2) _).drew⟩
 ·rintro e a' w' ⟨rfl, hd, h2, h3, h4⟩
  exact ⟨hd, _, rfl, .tuple #[], by simp [results, Tryz.results83, go_sem], rfl, rfl, h2, h3, h4⟩

theorem catch_idle (g0 g1 : Nat) (w : World) :
  CallsD Tryz.prog 83 #[.pointer (some ⟨g0, 0, none⟩), .pointer (some ⟨g1, 0, none⟩)] .returning w fun e u' w' => e = .returned (.tuple #[]) ∧ u' = .returning ∧ w' = w := by
 refine callsD_of_wpS Tryz.func83 rfl fun c₀ cs hu => ?_
 apply wpS_seq
 apply wpS_region
 simp [wpOpsS, go_sem, recoverD, hu, Tryz.ntmps83, Exit.thenS]
 refine wpS_of_wp (wp_mono (Q := fun e a' w' => e = .normal ∧ a'.defers = [] ∧ w' = w) ?_ ?_)
 ·have hneq := nil_neq
  rw [show (#[Value.pointer (some { block := g0, off := 0 }), Value.pointer (some { block := g1, off := 0 })] ++ ((Array.replicate 16 undef).setIfInBounds 3 Value.nilIface).setIfInBounds 0 Value.nilIface) = #[Value.pointer (some { block := g0, off := 0 }), Value.pointer (some { block := g1, off := 0 }), Value.nilIface, undef, undef, Value.nilIface, undef, undef, undef, undef, undef, undef, undef, undef, undef, undef, undef, undef] from rfl]
  go_wp2_with fail
 ·rintro e a' w' ⟨rfl, hd, rfl⟩
  exact ⟨hd, .returning, by rw [← hu], .tuple #[], by simp [results, Tryz.results83, go_sem], rfl, rfl, rfl⟩

def toS (t : HLex.Tok) : S63 := ⟨(t.kind : Int), ⟨t.text.toArray⟩, (t.n : Int), (t.pos : Int)⟩
def join (acc : List HLex.Tok) : Except (Nat × Nat) (List HLex.Tok) → Except (Nat × Nat) (List HLex.Tok)
 | .ok ts => .ok (acc ++ ts)
 | .error x => .error x
def AllPost (s : ByteArray) (w : World) (e : Ending) (w' : World) : Prop :=
 match HLex.lex s.data.toList with
 | .ok ts => ∃ v, e = .returned (.tuple #[v, .int .i64 0, .int .i64 0]) ∧ Kd.R k63 63 w' w.heap.size (fun _ => True) v (ts.map toS) ∧ Below w.heap.size w w'
 | .error (p, er) => e = .returned (.tuple #[.slice none 0 0, .int .i64 (p : Int), .int .i64 (er : Int)]) ∧ Below w.heap.size w w'

theorem trim_any (x : ByteArray) (w : World) : Calls Tryz.prog 84 #[.string x, .string ⟨#[32, 10, 9]⟩] w fun e w' => (∃ y : ByteArray, e = .returned (.string y) ∧ Hid (y.data.toList = x.data.toList.dropWhile HLex.blank)) ∧ Below w.heap.size w w' :=
 (Tryz.TrimLeft_set x ⟨#[32, 10, 9]⟩ w (by decide) (ascii_of_all (by decide))).mono fun e w' ⟨he, hb⟩ => ⟨⟨_, he, Lib.hid (HLex.trim_blank _)⟩, hb⟩
theorem drop_data (s : ByteArray) (k : Nat) : (s.extract k s.size).data.toList = s.data.toList.drop k := Lib.extract_to_end s k
theorem dropWhile_len (q : UInt8 → Bool) (l : List UInt8) : (l.dropWhile q).length ≤ l.length := (List.dropWhile_suffix q).length_le

structure AllInv (s : ByteArray) (w : World) (gk at_ : Nat) (acc : List HLex.Tok) (lv : Value) (wr : World) : Prop where
 lex : HLex.lex s.data.toList = join acc (HLex.lexFrom gk at_ (s.data.toList.drop at_))
 len : acc.length ≤ at_
 hl : wr.heap[w.heap.size]? = some (.cells #[lv] 56 (0, 0))
 he : wr.heap[w.heap.size + 1]? = some (.cells #[.int .i64 0] 30 (0, 0))
 row : Kd.R k63 63 wr (w.heap.size + 2) (fun _ => True) lv (acc.map toS)
 bel : Below w.heap.size w wr

theorem infoTok : (Tryz.prog.info? 63).map (fun i => (i.zero, i.size, i.bytes)) = some (some (.agg #[(.int .i64 0), (.string ⟨#[]⟩), (.int .i64 0), (.int .i64 0)]), 4, 40) := by kernel_rfl
set_option maxRecDepth 100000 in
set_option maxHeartbeats 4000000 in
theorem all_any (s : ByteArray) (w : World) (hmax : s.size ≤ 1000000000000) :
  Calls Tryz.prog 54 #[.string s] w (AllPost s w) := by
 have hmf : ∀ (fn : Fn) (first cap : Array Value) (w : World), (Instr.makeFunc fn first cap).run Tryz.prog w = .ok (.func fn first cap) w := fun _ _ _ _ => rfl
 go_enter_defers Tryz.func54, Tryz.ntmps54
 go_wp2_with fail
 go_loopg [3] (s.size + 1) (fun gk v3 wr => ∃ (at_ : Nat) (acc : List HLex.Tok) (lv : Value), v3 = .int .i64 at_ ∧ at_ ≤ s.size ∧ s.size - at_ < gk ∧ AllInv s w gk at_ acc lv wr)
 case atStart =>
  refine ⟨0, [], .slice none 0 0, rfl, Nat.zero_le _, by omega, ?_, Nat.le_refl _, ?_, ?_, Kd.R_nil _ _ _ _ _, ?_⟩
  ·unfold HLex.lex
   have e1 : s.data.toList.length = s.size := Array.length_toList
   rw [e1, List.drop_zero]
   cases HLex.lexFrom (s.size + 1) 0 s.data.toList <;> rfl
  ·exact blk_alloc (blk_new w _) _
  ·have h := blk_new (w.alloc (Obj.cells #[Value.slice none 0 0] 56)) (Obj.cells #[Value.int IntKind.i64 0] 30)
   rw [World.size_alloc] at h
   exact h
  ·exact below_alloc (below_alloc (Below.refl _ w) _) _
 case round =>
  obtain ⟨at_, acc, lv, rfl, hle, hgk, hinv⟩ := hrel
  have e1 : s.data.toList.length = s.size := Array.length_toList
  have hrl := dropWhile_len HLex.blank (s.data.toList.drop at_)
  rw [List.length_drop, e1] at hrl
  have hcl := blk_cell hinv.hl 0; have hce := blk_cell hinv.he 0
  have hfl := blk_frozen hinv.hl 0; have hfe := blk_frozen hinv.he 0
  simp at hcl hce
  cases hr : (s.data.toList.drop at_).dropWhile HLex.blank
  ·rw [hr] at hrl
   have HR := Lib.hid hr; clear hr
   have E1 := Lib.hid e1; clear e1
   go_upto_region 3 with (fail)
   refine (trim_any _ _).mono ?_
   rintro e w2 ⟨⟨y, rfl, hy⟩, hb2⟩
   have hyl := hy.out
   rw [drop_data, HR.out] at hyl
   have hy0 : y = ⟨#[]⟩ := (bytes_eq_iff y ⟨#[]⟩).2 hyl
   subst hy0
   clear hy hyl
   have hl2 := blk_below hinv.hl hb2
   have he2 := blk_below hinv.he hb2
   have hr2 := Kd.R_below hinv.row hb2
   have hB2 := below_step hinv.bel hb2
   have hlex := hinv.lex
   obtain ⟨gk, rfl⟩ : ∃ g, gk = g + 1 := ⟨gk - 1, by omega⟩
   unfold HLex.lexFrom at hlex
   rw [HR.out] at hlex
   simp only [if_true] at hlex
   have k2 := blk_cell hl2 0; have k3 := blk_cell he2 0; have z2 := blk_frozen hl2 0; have z3 := blk_frozen he2 0
   simp at k2 k3
   have HL2 := Lib.hid hl2; have HE2 := Lib.hid he2; have HR2 := Lib.hid hr2; have HB2 := Lib.hid hB2; have HLEX := Lib.hid hlex
   obtain ⟨A1, c1, hlv⟩ := Kd.R_slice hr2
   clear hl2 he2 hr2 hB2 hlex hfe hfl hcl hce
   go_wp2_with fail
   have m0 := blk_far (p := ⟨w.heap.size + 1, 0, none⟩) (blk_put HL2.out 0 (.slice A1 acc.length c1) rfl) (by simp) (.int .i64 0)
   have m1 := blk_put (blk_far (p := ⟨w.heap.size, 0, none⟩) HE2.out (by simp) (.slice A1 acc.length c1)) 0 (.int .i64 0) rfl
   have k4 : ((w2.setCell ⟨w.heap.size, 0, none⟩ (.slice A1 acc.length c1)).setCell ⟨w.heap.size + 1, 0, none⟩ (.int .i64 0)).cell? ⟨w.heap.size, 0, none⟩ = some (.slice A1 acc.length c1) := blk_cell m0 0
   have k5 : ((w2.setCell ⟨w.heap.size, 0, none⟩ (.slice A1 acc.length c1)).setCell ⟨w.heap.size + 1, 0, none⟩ (.int .i64 0)).cell? ⟨w.heap.size + 1, 0, none⟩ = some (.int .i64 0) := blk_cell m1 0
   refine leaves_cons (f := 83) (args := #[.pointer (some ⟨w.heap.size, 0, none⟩), .pointer (some ⟨w.heap.size + 1, 0, none⟩)]) (by simp) (by simp [go_sem]) ?_
   refine (catch_idle _ _ _).mono ?_
   rintro e u' w4 ⟨rfl, rfl, rfl⟩
   have HLV := Lib.hid hlv
   clear k2 k3 z2 z3 hlv m0 m1
   simp [Leaves, settle, results, Tryz.results54, go_sem, k4, k5]
   unfold AllPost
   rw [HLEX.out]
   have h := Kd.R_mono (Kd.R_far (p := ⟨w.heap.size + 1, 0, none⟩) (Kd.R_mono (Kd.R_far (p := ⟨w.heap.size, 0, none⟩) (Kd.R_bound HR2.out) (fun k hk => by have := hk.2.1; simp; omega) (.slice A1 acc.length c1)) (fun k hk => (hk.2.1 : w.heap.size + 2 ≤ k))) (fun k hk => by simp; omega) (.int .i64 0)) (fun _ _ => trivial)
   rw [HLV.out] at h
   exact ⟨_, rfl, by simpa [List.length_map] using Kd.R_lower h (Nat.le_add_right _ 2), (HB2.out.setCell (Nat.le_refl _) _).setCell (Nat.le_succ _) _⟩
  ·rename_i c0 r0
   rw [hr] at hrl
   rw [List.length_cons] at hrl
   have HR := Lib.hid hr; clear hr
   have E1 := Lib.hid e1; clear e1
   go_upto_region 3 with (fail)
   refine (trim_any _ _).mono ?_
   rintro e w2 ⟨⟨y, rfl, hy⟩, hb2⟩
   have hyl := hy.out
   rw [drop_data, HR.out] at hyl
   have hyz : y.data.toList.length = r0.length + 1 := by rw [hyl, List.length_cons]
   rw [Array.length_toList] at hyz
   have hyz' : y.size = r0.length + 1 := hyz
   have q2 : 0 < y.size := by omega
   have q3 : y.size ≤ s.size - at_ := by omega
   have hpz : ((s.size : Int) - (y.size : Int)) = ((s.size - y.size : Nat) : Int) := by omega
   have hp1 : s.size - y.size < s.size := by omega
   have hp2 : at_ ≤ s.size - y.size := by omega
   have hpd : s.data.toList.drop (s.size - y.size) = c0 :: r0 := by
    have hs := List.dropWhile_suffix HLex.blank (l := s.data.toList.drop at_)
    rw [HR.out] at hs
    have hs2 := hs.trans (List.drop_suffix at_ s.data.toList)
    have := List.suffix_iff_eq_drop.1 hs2
    rw [List.length_cons, E1.out, ← hyz'] at this
    exact this.symm
   have HP := Lib.hid hpz
   have HPD := Lib.hid hpd
   have HYZ := Lib.hid hyz'
   clear hy hyl hyz hyz' hpz hpd
   go_upto_region 3 with (fail)
   rw [HP.out]
   generalize hpg : s.size - y.size = p at *
   have HPG := Lib.hid hpg
   clear hpg
   go_upto_region 6 with (fail)
   have hxd : (s.extract p s.size).data.toList = c0 :: r0 := by rw [drop_data, HPD.out]
   have hxz : (s.extract p s.size).size = r0.length + 1 := by
    have : (s.extract p s.size).data.toList.length = (s.extract p s.size).size := Array.length_toList
    rw [hxd, List.length_cons] at this; exact this.symm
   refine (first_any (s.extract p s.size) w2 (by omega) (by omega)).mono ?_
   rintro e w3 ⟨hres, hb3⟩
   rw [hxd] at hres
   have hl3 := blk_below (blk_below hinv.hl hb2) hb3
   have he3 := blk_below (blk_below hinv.he hb2) hb3
   have hr3 := Kd.R_below (Kd.R_below hinv.row hb2) hb3
   have hB3 := below_step (below_step hinv.bel hb2) hb3
   have hlex := hinv.lex
   have hlen := hinv.len
   obtain ⟨gk, rfl⟩ : ∃ g, gk = g + 1 := ⟨gk - 1, by omega⟩
   unfold HLex.lexFrom at hlex
   rw [HR.out] at hlex
   simp only [reduceCtorEq, if_false] at hlex
   have hpos : at_ + ((List.drop at_ s.data.toList).length - (c0 :: r0).length) = p := by
    rw [List.length_drop, List.length_cons, E1.out]
    have := HPG.out; have := HYZ.out; omega
   rw [hpos] at hlex
   cases hfs : HLex.first (c0 :: r0) with
   | error er =>
    rw [hfs] at hres hlex
    simp only at hres hlex
    subst hres
    refine leaves_cons (f := 83) (args := #[.pointer (some ⟨w.heap.size, 0, none⟩), .pointer (some ⟨w.heap.size + 1, 0, none⟩)]) (by simp) (by simp [go_sem]) ?_
    refine (catch_panicking w.heap.size (w.heap.size + 1) er lv (.int .i64 0) [] w3 hl3 he3 (by omega)).mono ?_
    rintro e u' w4 ⟨rfl, rfl, h2, h3, h4⟩
    have k2 := blk_cell h2 0; have k3 := blk_cell h3 0
    simp at k2 k3
    clear hfe hfl hcl hce hl3 he3
    simp [Leaves, settle, results, Tryz.results54, go_sem, k2, k3]
    unfold AllPost
    rw [hlex]
    exact ⟨rfl, hB3.trans (h4 _ (Nat.le_refl _) (by omega) hB3.size)⟩
   | ok ktn =>
    obtain ⟨k, tx, n⟩ := ktn
    rw [hfs] at hres hlex
    simp only at hres hlex
    subst hres
    simp only
    have hpre := HLex.first_prefix hfs
    have htx1 : tx.length ≤ r0.length + 1 := by have := hpre.1.length_le; rwa [List.length_cons] at this
    have htx0 : 0 < tx.length := List.length_pos_iff.2 hpre.2
    have hend : p + tx.length ≤ s.size := by have := HPG.out; have := HYZ.out; omega
    clear hpre
    go_upto_region 7 with (fail)
    have hl4 := blk_alloc hl3 (Obj.cells #[Value.int IntKind.i64 ↑k, Value.string { data := tx.toArray }, Value.int IntKind.i64 ↑n, Value.int IntKind.i64 ↑p] 63)
    have he4 := blk_alloc he3 (Obj.cells #[Value.int IntKind.i64 ↑k, Value.string { data := tx.toArray }, Value.int IntKind.i64 ↑n, Value.int IntKind.i64 ↑p] 63)
    have hr4 := Kd.R_alloc hr3 (Obj.cells #[Value.int IntKind.i64 ↑k, Value.string { data := tx.toArray }, Value.int IntKind.i64 ↑n, Value.int IntKind.i64 ↑p] 63)
    have hB4 := below_alloc hB3 (Obj.cells #[Value.int IntKind.i64 ↑k, Value.string { data := tx.toArray }, Value.int IntKind.i64 ↑n, Value.int IntKind.i64 ↑p] 63)
    have ht4 := blk_new w3 (Obj.cells #[Value.int IntKind.i64 ↑k, Value.string { data := tx.toArray }, Value.int IntKind.i64 ↑n, Value.int IntKind.i64 ↑p] 63)
    have hne4 : some w3.heap.size ≠ lv.ownBlock := fun e_ => by have := ((Kd.R_bound hr3).1 _ e_.symm).2.2.1; omega
    have c2 := blk_cell hl4 0
    have d0 := blk_cell ht4 0; have d1 := blk_cell ht4 1; have d2 := blk_cell ht4 2; have d3 := blk_cell ht4 3
    simp only [List.getElem?_toArray, List.getElem?_cons_zero, List.getElem?_cons_succ] at c2 d0 d1 d2 d3
    have hsz4 := hB4.size
    have hsz3 := hB3.size
    have hw3 : w.heap.size + 2 ≤ w3.heap.size := by have := blk_lt he3; omega
    have HL4 := Lib.hid hl4; have HE4 := Lib.hid he4; have HR4 := Lib.hid hr4; have HB4 := Lib.hid hB4; have HT4 := Lib.hid ht4; have HLEX := Lib.hid hlex; have HN4 := Lib.hid hne4
    clear hfe hfl hcl hce hl3 he3 hr3 hB3 hl4 he4 hr4 hB4 ht4 hlex hfs hpos hne4 hsz4
    have hlenm : ((List.map toS acc).length + 1) * 40 ≤ 140737488355328 := by rw [List.length_map]; omega
    go_wp2_with (at_builtin; go_loud (refine Kd.R_append k63 (w0 := w3.alloc (Obj.cells #[Value.int IntKind.i64 ↑k, Value.string { data := tx.toArray }, Value.int IntKind.i64 ↑n, Value.int IntKind.i64 ↑p] 63)) (w.heap.size + 2) rfl (.tmp 26) (.tmp 28) 56 63 (.agg #[(.int .i64 0), (.string ⟨#[]⟩), (.int .i64 0), (.int .i64 0)]) 40 rfl Tryz.underlying56 infoTok rfl (by decide) (by omega) lv (acc.map toS) (⟨(k : Int), ⟨tx.toArray⟩, (n : Int), (p : Int)⟩ : S63) [.int .i64 k, .string ⟨tx.toArray⟩, .int .i64 n, .int .i64 p] (fun _ => True) (fun _ => False) rfl (by first|(go_simp; done)|(go_simp; rfl)) (k63_mkM _ _ _ _) (fun _ hk => hk.elim) (fun _ _ => trivial) HR4.out (Below.refl _ _) (by simp; omega) hlenm ?_); intro v1 w5 ho hb hg hat; obtain ⟨A1, c1, rfl⟩ := Kd.R_slice ho; have hl5 := (hb.block w.heap.size (by omega)).trans HL4.out; have he5 := (hb.block (w.heap.size + 1) (by omega)).trans HE4.out; have ht5 := blk_grown HT4.out hg HN4.out; have e2 := blk_cell hl5 0; have f2 := blk_frozen hl5 0; have e5 := blk_cell ht5 1; simp only [List.getElem?_toArray, List.getElem?_cons_zero, List.getElem?_cons_succ] at e2 e5; have HL5 := Lib.hid hl5; have HE5 := Lib.hid he5; have HO := Lib.hid ho; have HBB := Lib.hid hb; clear hl5 he5 ht5 ho hb hg hat)
    go_roundg gk
    case measure => omega
    case rel =>
     refine ⟨p + tx.length, acc ++ [⟨k, tx, n, p⟩], .slice A1 (acc.length + 1) c1, by go_num, hend, by omega, ?_, ?_, ?_, ?_, ?_, ?_⟩
     ·rw [HLEX.out]
      have hd : List.drop (p + tx.length) s.data.toList = List.drop tx.length (c0 :: r0) := by rw [← HPD.out, List.drop_drop]
      rw [hd]
      cases HLex.lexFrom gk (p + tx.length) (List.drop tx.length (c0 :: r0)) with
      | ok ts => simp [join]
      | error e => simp [join]
     ·rw [List.length_append, List.length_singleton]; omega
     ·exact blk_put HL5.out 0 _ rfl
     ·exact blk_far (p := ⟨w.heap.size, 0, none⟩) HE5.out (by simp) _
     ·rw [List.map_append]
      have h := Kd.R_mono (Kd.R_far (p := ⟨w.heap.size, 0, none⟩) (Kd.R_bound HO.out) (fun k hk => by have := hk.2.1; simp; omega) (.slice A1 (acc.length + 1) c1)) (fun _ _ => trivial)
      simpa [List.length_map, toS] using h
     ·exact (HB4.out.trans (HBB.out.mono (by omega))).setCell (Nat.le_refl _) _
end Go.Proofs.YtnjmilelifmfpaaGreatDoor.HLexC

namespace Go.Proofs.YtnjmilelifmfpaaGreatDoor.Q
open Go.RowKit Go.Proofs.YtnjmilelifmfpaaGreatDoorW.PrintWords Go.Proofs.YtnjmilelifmfpaaGreatDoorW.PrintLast Go.Proofs.YtnjmilelifmfpaaGreatDoorW.PrintMore
attribute [local go_sem] max2_int min2_int max_two min_two max_three min_three max_four min_four
set_option linter.unusedVariables false
set_option linter.unusedSimpArgs false

def lex_All.f (a0 : ByteArray) : Option ((List S63) × Int × Int) :=
 if a0.size ≤ 1000000000000 then
  match HLex.lex a0.data.toList with
  | .ok ts => some (ts.map HLexC.toS, 0, 0)
  | .error (p, er) => some ([], (p : Int), (er : Int))
 else none
theorem lex_All.calls (a0 : ByteArray) (r1 : List S63) (r2 : Int) (r3 : Int) (w : World) (h : lex_All.f a0 = some (r1, r2, r3)) :
  Calls Tryz.prog 54 #[.string a0] w fun e w' => ∃ v0_ : Value, e = .returned (.tuple #[v0_, .int .i64 r2, .int .i64 r3]) ∧ Kd.R k63 63 w' w.heap.size (fun _ => True) v0_ r1 ∧ Below w.heap.size w w' := by
 unfold lex_All.f at h
 by_cases hs : a0.size ≤ 1000000000000
 ·rw [if_pos hs] at h
  refine (HLexC.all_any a0 w hs).mono fun e w' hp => ?_
  unfold HLexC.AllPost at hp
  cases hl : HLex.lex a0.data.toList with
  | ok ts =>
   rw [hl] at h hp
   simp only [Option.some.injEq, Prod.mk.injEq] at h
   obtain ⟨rfl, rfl, rfl⟩ := h
   exact hp
  | error x =>
   obtain ⟨p, er⟩ := x
   rw [hl] at h hp
   simp only [Option.some.injEq, Prod.mk.injEq] at h
   obtain ⟨rfl, rfl, rfl⟩ := h
   exact ⟨_, hp.1, Kd.R_nil _ _ _ _ _, hp.2⟩
 ·rw [if_neg hs] at h; cases h

end Go.Proofs.YtnjmilelifmfpaaGreatDoor.Q

/- Plain Lean: what the tokenizer obeys. No program in sight. -/
namespace Go.Proofs.YtnjmilelifmfpaaGreatDoor.HLex

theorem tw_len (q : UInt8 → Bool) (l : List UInt8) : (l.takeWhile q).length ≤ l.length := (List.takeWhile_prefix q).length_le
theorem dw_len (q : UInt8 → Bool) (l : List UInt8) : (l.dropWhile q).length ≤ l.length := (List.dropWhile_suffix q).length_le
theorem tw_eq_take (q : UInt8 → Bool) (l : List UInt8) : l.take (l.takeWhile q).length = l.takeWhile q := by
 induction l with
 | nil => rfl
 | cons c r ih => by_cases h : q c <;> simp [List.takeWhile, h, ih]
theorem tw_all (q : UInt8 → Bool) (l : List UInt8) : ∀ c ∈ l.takeWhile q, q c = true := by
 induction l with
 | nil => simp
 | cons c r ih => by_cases h : q c <;> simp [List.takeWhile, h]; exact ih
theorem dw_self {q : UInt8 → Bool} {c : UInt8} {r : List UInt8} (h : q c = false) : (c :: r).dropWhile q = c :: r := by simp [List.dropWhile, h]

inductive FirstIs (r : List UInt8) : Nat → List UInt8 → Nat → Prop
 | word {k n : Nat} : r.takeWhile wordly ≠ [] → named (r.takeWhile wordly) = .ok (k, n) → FirstIs r k (r.takeWhile wordly) n
 | sign {s : List UInt8} : r.takeWhile wordly = [] → signs.find? (fun s => s.isPrefixOf r) = some s → FirstIs r 5 s 0
theorem first_is {r t : List UInt8} {k n : Nat} (h : first r = .ok (k, t, n)) : FirstIs r k t n := by
 unfold first at h
 by_cases hw : r.takeWhile wordly = []
 ·simp only [hw, if_true] at h
  split at h
  ·rename_i s hs; cases h; exact .sign hw hs
  ·cases h
 ·simp only [hw, if_false] at h
  split at h
  ·rename_i k' n' hn; cases h; exact .word hw hn
  ·cases h
theorem first_word {r : List UInt8} {k n : Nat} (hw : r.takeWhile wordly ≠ []) (hn : named (r.takeWhile wordly) = .ok (k, n)) : first r = .ok (k, r.takeWhile wordly, n) := by
 unfold first; simp only [hw, if_false, hn]
theorem first_sign {r s : List UInt8} (hw : r.takeWhile wordly = []) (hs : signs.find? (fun s => s.isPrefixOf r) = some s) : first r = .ok (5, s, 0) := by
 unfold first; simp only [hw, if_true, hs]
theorem sign_facts : ∀ s ∈ signs, s ≠ [] ∧ s.length ≤ 2 ∧ first s = .ok (5, s, 0) ∧ (∀ c ∈ s, blank c = false) := by
 intro s hs
 simp only [signs, List.mem_cons, List.mem_nil_iff, or_false] at hs
 rcases hs with rfl|rfl|rfl|rfl|rfl|rfl|rfl|rfl|rfl|rfl|rfl|rfl|rfl|rfl|rfl <;> exact ⟨by decide, by decide, rfl, by decide⟩
theorem first_pre {r t : List UInt8} {k n : Nat} (h : first r = .ok (k, t, n)) : t <+: r ∧ t ≠ [] := by
 cases first_is h with
 | word h1 h2 => exact ⟨List.takeWhile_prefix _, h1⟩
 | sign h1 h2 =>
  have := List.find?_some h2
  exact ⟨List.isPrefixOf_iff_prefix.1 this, (sign_facts _ (List.mem_of_find?_eq_some h2)).1⟩

theorem blank_not {c : UInt8} (h : blank c = true) : wordly c = false ∧ ∀ s ∈ signs, c ∉ s := by
 have h' : c = 32 ∨ c = 10 ∨ c = 9 := by simpa [blank, or_assoc] using h
 rcases h' with rfl|rfl|rfl <;> decide
theorem fuel : ∀ (f g pos : Nat) (l : List UInt8), l.length < f → l.length < g → lexFrom f pos l = lexFrom g pos l
 | 0, _, _, _, h, _ => by omega
 | _, 0, _, _, _, h => by omega
 | f + 1, g + 1, pos, l, hf, hg => by
  unfold lexFrom
  have hr := dw_len blank l
  by_cases h0 : l.dropWhile blank = []
  ·simp [h0]
  ·simp only [h0, if_false]
   cases h1 : first (l.dropWhile blank) with
   | error e => rfl
   | ok x =>
    obtain ⟨k, t, n⟩ := x
    have ht := first_pre h1
    have : 0 < t.length := List.length_pos_iff.2 ht.2
    have hl : 0 < (l.dropWhile blank).length := List.length_pos_iff.2 h0
    simp only []
    rw [fuel f g _ _ (by simp; omega) (by simp; omega)]
def lexs (pos : Nat) (l : List UInt8) : Except (Nat × Nat) (List Tok) := lexFrom (l.length + 1) pos l
theorem lex_lexs (l : List UInt8) : lex l = lexs 0 l := rfl
theorem lexs_nil (pos : Nat) {l : List UInt8} (h : l.dropWhile blank = []) : lexs pos l = .ok [] := by
 unfold lexs lexFrom; simp [h]
theorem lexs_err (pos : Nat) {l : List UInt8} {e : Nat} (h : l.dropWhile blank ≠ []) (h1 : first (l.dropWhile blank) = .error e) :
  lexs pos l = .error (pos + (l.length - (l.dropWhile blank).length), e) := by
 unfold lexs lexFrom; simp [h, h1]
def more (t : Tok) : Except (Nat × Nat) (List Tok) → Except (Nat × Nat) (List Tok)
 | .ok ts => .ok (t :: ts)
 | .error e => .error e
theorem lexs_tok (pos : Nat) {l t : List UInt8} {k n : Nat} (h : l.dropWhile blank ≠ []) (h1 : first (l.dropWhile blank) = .ok (k, t, n)) :
  lexs pos l = more ⟨k, t, n, pos + (l.length - (l.dropWhile blank).length)⟩ (lexs (pos + (l.length - (l.dropWhile blank).length) + t.length) ((l.dropWhile blank).drop t.length)) := by
 have ht := first_pre h1
 have h3 : 0 < t.length := List.length_pos_iff.2 ht.2
 have h4 : 0 < (l.dropWhile blank).length := List.length_pos_iff.2 h
 have h5 := dw_len blank l
 conv => lhs; unfold lexs lexFrom
 simp only [h, if_false, h1]
 rw [show lexFrom l.length = lexFrom l.length from rfl, fuel l.length (((l.dropWhile blank).drop t.length).length + 1) _ _ (by simp; omega) (by omega)]
 unfold lexs more
 cases lexFrom (((l.dropWhile blank).drop t.length).length + 1) (pos + (l.length - (l.dropWhile blank).length) + t.length) ((l.dropWhile blank).drop t.length) <;> rfl

def both (a b : Except (Nat × Nat) (List Tok)) : Except (Nat × Nat) (List Tok) :=
 match a with
 | .error e => .error e
 | .ok ts => match b with
  | .error e => .error e
  | .ok us => .ok (ts ++ us)
def Stands (s : List UInt8) : Nat → List Tok → Prop
 | at_, [] => at_ ≤ s.length ∧ ∀ i, at_ ≤ i → (h : i < s.length) → blank s[i] = true
 | at_, t :: ts => at_ ≤ t.pos ∧ t.pos + t.text.length ≤ s.length ∧ t.text ≠ [] ∧ (∀ i, at_ ≤ i → i < t.pos → (h : i < s.length) → blank s[i] = true) ∧
   (s.drop t.pos).take t.text.length = t.text ∧ Stands s (t.pos + t.text.length) ts
end Go.Proofs.YtnjmilelifmfpaaGreatDoor.HLex

namespace Go.Proofs.YtnjmilelifmfpaaGreatDoor.Pure
open Go Go.RowKit Go.Proofs.YtnjmilelifmfpaaGreatDoor.Q Go.Proofs.YtnjmilelifmfpaaGreatDoorW.PrintWords Go.Proofs.YtnjmilelifmfpaaGreatDoorW.PrintLast Go.Proofs.YtnjmilelifmfpaaGreatDoorW.PrintMore
open HLexC (toS)
open HLex (Tok Stands)
theorem wrap_small {n : Int} (h0 : -9223372036854775808 ≤ n) (h1 : n < 9223372036854775808) : wrap64 n = n := by
 unfold wrap64; omega
namespace More
theorem size_len (a : ByteArray) : a.data.toList.length = a.size := by simp
def later (d : Nat) (t : Tok) : Tok := { t with pos := t.pos + d }
end More
end Go.Proofs.YtnjmilelifmfpaaGreatDoor.Pure

/- Plain Lean: the number of digits, digit by digit. No program in sight. -/
namespace Go.Proofs.YtnjmilelifmfpaaGreatDoor.HLex
theorem num_snoc (l : List UInt8) (c : UInt8) : num (l ++ [c]) = 10 * num l + (c.toNat - 48) := by unfold num; rw [List.foldl_append]; rfl
theorem num_take (l : List UInt8) (j : Nat) (h : j < l.length) : num (l.take (j + 1)) = 10 * num (l.take j) + (l[j].toNat - 48) := by
 rw [List.take_succ_eq_append_getElem h, num_snoc]
theorem num_lt (l : List UInt8) (h : ∀ d ∈ l, digit d = true) : ∀ j, j ≤ l.length → num (l.take j) < 10 ^ j
 | 0, _ => by simp [num]
 | j + 1, hj => by
  have ih := num_lt l h j (by omega)
  have hd := h l[j] (List.getElem_mem (by omega))
  rw [num_take l j (by omega)]
  simp only [digit, Bool.and_eq_true, decide_eq_true_eq] at hd
  rw [Nat.pow_succ]; omega
theorem num_small (l : List UInt8) (h : ∀ d ∈ l, digit d = true) (j : Nat) (hj : j ≤ l.length) (h17 : j ≤ 17) : num (l.take j) < 100000000000000000 :=
 Nat.lt_of_lt_of_le (num_lt l h j hj) (Nat.pow_le_pow_right (by decide) h17)
end Go.Proofs.YtnjmilelifmfpaaGreatDoor.HLex

namespace Go.Proofs.YtnjmilelifmfpaaGreatDoor.Pure
open Go Go.RowKit Go.Proofs.YtnjmilelifmfpaaGreatDoor.Q Go.Proofs.YtnjmilelifmfpaaGreatDoorW.PrintWords Go.Proofs.YtnjmilelifmfpaaGreatDoorW.PrintLast Go.Proofs.YtnjmilelifmfpaaGreatDoorW.PrintMore
open HLexC (toS)
open HLex (Tok Stands lower upper digit wordly num signs)
open More
namespace Refs
def cl (c : UInt8) : Int := if lower c then 1 else if upper c then 2 else if digit c then 3 else if HLex.blank c then 4 else 0
theorem blank_nat (c : UInt8) : HLex.blank c = (decide (c.toNat = 32) || decide (c.toNat = 10) || decide (c.toNat = 9)) := by
  unfold HLex.blank
  have e : ∀ d : UInt8, (c == d) = decide (c.toNat = d.toNat) := fun d => by
    by_cases h : c = d
    · subst h; simp
    · have h' : ¬ c.toNat = d.toNat := fun he => h (UInt8.toNat_inj.1 he)
      simp [h, h']
  rw [e, e, e]; rfl
theorem class_is (c : UInt8) (k : Nat) : gossamerref01_class.f (k + 3) (c.toNat : Int) = some (cl c) := by
  unfold gossamerref01_class.f gossamerref01_class.j0 gossamerref01_class.j1 gossamerref01_class.j2 cl
  rw [blank_nat]
  simp only [lower, upper, digit]
  by_cases h1 : 97 ≤ c.toNat <;> by_cases h2 : c.toNat ≤ 122 <;> by_cases h3 : 65 ≤ c.toNat <;> by_cases h4 : c.toNat ≤ 90 <;> by_cases h5 : 48 ≤ c.toNat <;> by_cases h6 : c.toNat ≤ 57 <;> first
    | omega
    | (have e1 : ((c.toNat : Int) ≥ 97) ↔ (97 ≤ c.toNat) := by omega
       have e2 : ((c.toNat : Int) ≤ 122) ↔ (c.toNat ≤ 122) := by omega
       have e3 : ((c.toNat : Int) ≥ 65) ↔ (65 ≤ c.toNat) := by omega
       have e4 : ((c.toNat : Int) ≤ 90) ↔ (c.toNat ≤ 90) := by omega
       have e5 : ((c.toNat : Int) ≥ 48) ↔ (48 ≤ c.toNat) := by omega
       have e6 : ((c.toNat : Int) ≤ 57) ↔ (c.toNat ≤ 57) := by omega
       have e7 : ((c.toNat : Int) = 32) ↔ (c.toNat = 32) := by omega
       have e8 : ((c.toNat : Int) = 10) ↔ (c.toNat = 10) := by omega
       have e9 : ((c.toNat : Int) = 9) ↔ (c.toNat = 9) := by omega
       simp only [e1, e2, e3, e4, e5, e6, e7, e8, e9, h1, h2, h3, h4, h5, h6, decide_true, decide_false, Bool.and_true, Bool.and_false, Bool.true_and, Bool.false_and, if_true, if_false, Bool.false_eq_true]
       try (by_cases h7 : c.toNat = 32 <;> by_cases h8 : c.toNat = 10 <;> by_cases h9 : c.toNat = 9 <;> simp [h7, h8, h9]))
def letter (c : UInt8) : Bool := decide (57 < c.toNat)
theorem cl_wordly (c : UInt8) : (1 ≤ cl c ∧ cl c ≤ 3) ↔ wordly c = true := by
  unfold cl wordly
  cases h1 : lower c <;> cases h2 : upper c <;> cases h3 : digit c <;> cases h4 : HLex.blank c <;> simp
theorem cl_letter (c : UInt8) (h : wordly c = true) : decide (cl c < 3) = letter c := by
  unfold cl letter
  simp only [wordly, lower, upper, digit, Bool.or_eq_true, Bool.and_eq_true, decide_eq_true_eq] at h ⊢
  by_cases h1 : 97 ≤ c.toNat ∧ c.toNat ≤ 122
  · simp [h1]; omega
  · by_cases h2 : 65 ≤ c.toNat ∧ c.toNat ≤ 90
    · simp [h1, h2]; omega
    · have h3 : 48 ≤ c.toNat ∧ c.toNat ≤ 57 := by rcases h with (h | h) | h <;> first|exact absurd h h1|exact absurd h h2|exact h
      simp [h1, h2, h3]
theorem bt_nat (a : ByteArray) (i : Nat) (c : UInt8) (h : a.data.toList[i]? = some c) : bt a (i : Int) = (c.toNat : Int) := by
  obtain ⟨hi, hc⟩ := List.getElem?_eq_some_iff.1 h
  unfold bt
  have h' : i < a.size := by simpa using hi
  simp [h', ← hc]
  rfl
theorem run_from (s : ByteArray) (at_ : Nat) (hs : s.size ≤ 1100000) : ∀ (l : List UInt8) (n : Nat) (b : Bool) (k : Nat), s.data.toList.drop (at_ + n) = l → at_ + n ≤ s.size → l.length + 4 ≤ k →
    gossamerref01_run.l0 k s at_ n b = some (((n + (l.takeWhile wordly).length : Nat) : Int), b || (l.takeWhile wordly).any letter)
  | l, n, b, 0, _, _, hk => by omega
  | [], n, b, k + 1, h, hle, _ => by
    have hl : s.data.toList.length ≤ at_ + n := List.drop_eq_nil_iff.1 h
    rw [size_len] at hl
    unfold gossamerref01_run.l0
    rw [wrap_small (by omega) (by omega), if_neg (by omega)]
    simp
  | c :: r, n, b, k + 1, h, hle, hk => by
    have hlen : at_ + n < s.data.toList.length := by
      have := congrArg List.length h
      rw [List.length_drop, List.length_cons] at this; omega
    have hc : s.data.toList[at_ + n]? = some c := by
      have := congrArg (fun l => l[0]?) h
      simpa using this
    rw [size_len] at hlen
    obtain ⟨k, rfl⟩ : ∃ j, k = j + 3 := ⟨k - 3, by simp at hk; omega⟩
    unfold gossamerref01_run.l0
    have hw : wrap64 ((at_ : Int) + (n : Int)) = ((at_ + n : Nat) : Int) := by rw [wrap_small (by omega) (by omega)]; omega
    rw [hw, if_pos (by omega), if_pos (by omega), bt_nat s _ c hc, class_is, Option.bind_some]
    by_cases hwc : wordly c = true
    · obtain ⟨h1, h3⟩ := (cl_wordly c).2 hwc
      rw [if_neg (by omega), if_neg (by omega), wrap_small (n := (n : Int) + 1) (by omega) (by omega)]
      have hr : s.data.toList.drop (at_ + (n + 1)) = r := by
        rw [← Nat.add_assoc, ← List.drop_drop, h]; rfl
      have ih := fun b' => run_from s at_ hs r (n + 1) b' (k + 3) hr (by omega) (by simp at hk; omega)
      have e1 : ((n : Int) + 1) = ((n + 1 : Nat) : Int) := by omega
      rw [e1, cl_letter c hwc]
      have e2 : (n + 1 + (List.takeWhile wordly r).length : Nat) = n + (List.takeWhile wordly (c :: r)).length := by simp [List.takeWhile, hwc]; omega
      cases b
      · rw [if_neg (by simp), ih, e2]
        simp [List.takeWhile, hwc]
      · rw [if_pos rfl, ih, e2]
        simp
    · have hwc' : wordly c = false := by simpa using hwc
      have hout : cl c < 1 ∨ cl c > 3 := by
        have := mt (cl_wordly c).1 hwc
        omega
      rcases hout with h1 | h3
      · rw [if_pos h1]; simp [List.takeWhile, hwc']
      · rw [if_neg (by omega), if_pos h3]; simp [List.takeWhile, hwc']
theorem run_is (s : ByteArray) (at_ : Nat) (hs : s.size ≤ 1100000) (hat : at_ ≤ s.size) : gossamerref01_run.f (s.size + 4) s at_ = some ((((s.data.toList.drop at_).takeWhile wordly).length : Int), ((s.data.toList.drop at_).takeWhile wordly).any letter) := by
  unfold gossamerref01_run.f
  have := run_from s at_ hs (s.data.toList.drop at_) 0 false (s.size + 4) rfl hat (by rw [List.length_drop, size_len]; omega)
  simpa using this
theorem num_from (t : ByteArray) (ht : t.size ≤ 18) (hd : ∀ d ∈ t.data.toList, digit d = true) : ∀ (m j k : Nat), j + m = t.size → m < k → gossamerref01_number.l0 k t (num (t.data.toList.take j)) j = some (num t.data.toList : Int)
  | m, j, 0, _, hk => by omega
  | 0, j, k + 1, h, _ => by
    unfold gossamerref01_number.l0
    rw [if_neg (by omega), List.take_of_length_le (by rw [size_len]; omega)]
  | m + 1, j, k + 1, h, hk => by
    have hj : j < t.data.toList.length := by rw [size_len]; omega
    have hdj := hd _ (List.getElem_mem hj)
    simp only [digit, Bool.and_eq_true, decide_eq_true_eq] at hdj
    have hsm := HLex.num_small t.data.toList hd j (by omega) (by omega)
    unfold gossamerref01_number.l0
    rw [if_pos (by omega), if_pos (by omega), bt_nat t j _ (List.getElem?_eq_getElem hj)]
    have e1 : wrap64 ((wrap64 ((wrap64 (10 * (num (t.data.toList.take j) : Int))) + (wrap64 ((t.data.toList[j]).toNat : Int)))) - 48) = ((num (t.data.toList.take (j + 1)) : Nat) : Int) := by
      rw [HLex.num_take _ _ hj, wrap_small (n := 10 * _) (by omega) (by omega), wrap_small (n := ((t.data.toList[j]).toNat : Int)) (by omega) (by omega), wrap_small (n := _ + _) (by omega) (by omega), wrap_small (by omega) (by omega)]
      omega
    rw [e1, wrap_small (by omega) (by omega)]
    exact num_from t ht hd m (j + 1) k (by omega) (by omega)
theorem number_is (t : ByteArray) (ht : t.size ≤ 18) (hd : ∀ d ∈ t.data.toList, digit d = true) : gossamerref01_number.f 20 t = some (num t.data.toList : Int) := by
  unfold gossamerref01_number.f
  exact num_from t ht hd t.size 0 20 (by omega) (by omega)
theorem rword_is (a : ByteArray) : gossamerref01_Word.f a = some (HLex.isWord a.data.toList) := by
  unfold gossamerref01_Word.f
  rw [Lib.toList_data]
  by_cases h1 : a.data.toList = [108, 101, 116]
  · simp [h1, HLex.isWord, HLex.words]
  by_cases h2 : a.data.toList = [108, 101, 116, 114, 101, 99]
  · simp [h2, HLex.isWord, HLex.words]
  by_cases h3 : a.data.toList = [105, 110]
  · simp [h3, HLex.isWord, HLex.words]
  by_cases h4 : a.data.toList = [99, 97, 115, 101]
  · simp [h4, HLex.isWord, HLex.words]
  by_cases h5 : a.data.toList = [111, 102] <;> simp [h1, h2, h3, h4, h5, HLex.isWord, HLex.words]
def tab : List UInt8 := [92, 46, 40, 41, 61, 123, 125, 124, 43, 45, 42, 47, 60]
theorem signs_are : signs = [45, 62] :: [61, 61] :: tab.map (fun x => [x]) := rfl
theorem find_singles (c : UInt8) (r : List UInt8) : ∀ T : List UInt8, (T.map (fun x => [x])).find? (fun s => s.isPrefixOf (c :: r)) = if T.contains c then some [c] else none
  | [] => rfl
  | x :: T => by
    rw [List.map_cons, List.find?_cons]
    by_cases h : x = c
    · subst h; simp [List.isPrefixOf]
    · have h2 : ¬ c = x := fun e => h e.symm
      have e : ([x] : List UInt8).isPrefixOf (c :: r) = false := by simp [List.isPrefixOf, h]
      rw [e]
      simp only [find_singles c r T, List.contains_cons]
      simp [h2]
theorem two_pre (a b c : UInt8) (r : List UInt8) : ([a, b] : List UInt8).isPrefixOf (c :: r) = decide ((c :: r).take 2 = [a, b]) := by
  rw [Bool.eq_iff_iff, List.isPrefixOf_iff_prefix, List.prefix_iff_eq_take, decide_eq_true_iff]
  exact eq_comm
theorem find_signs (c : UInt8) (r : List UInt8) : signs.find? (fun s => s.isPrefixOf (c :: r)) = if (c :: r).take 2 = [45, 62] then some [45, 62] else if (c :: r).take 2 = [61, 61] then some [61, 61] else if tab.contains c then some [c] else none := by
  rw [signs_are, List.find?_cons, two_pre, List.find?_cons, two_pre, find_singles]
  by_cases h1 : (c :: r).take 2 = [45, 62]
  · simp only [h1, decide_true, if_true]
  · rw [if_neg h1, decide_eq_false h1]
    by_cases h2 : (c :: r).take 2 = [61, 61]
    · simp only [h2, decide_true, if_true]
    · rw [if_neg h2, decide_eq_false h2]
theorem tab_bytes : ∀ i : Nat, i < 13 → (⟨#[92, 46, 40, 41, 61, 123, 125, 124, 43, 45, 42, 47, 60]⟩ : ByteArray).data.toList[i]? = tab[i]? := fun i _ => rfl
theorem sign_loop (s : ByteArray) (at_ : Nat) (c : UInt8) (hc : s.data.toList[at_]? = some c) : ∀ (m i k : Nat), i + m = 13 → m < k → gossamerref01_sign.l0 k s at_ i = some (if (tab.drop i).contains c then 1 else 0)
  | m, i, 0, _, hk => by omega
  | 0, i, k + 1, h, _ => by
    obtain rfl : i = 13 := by omega
    unfold gossamerref01_sign.l0
    rw [if_neg (by decide)]
    rfl
  | m + 1, i, k + 1, h, hk => by
    have hi : i < tab.length := by show i < 13; omega
    have hat : at_ < s.size := by have := (List.getElem?_eq_some_iff.1 hc).1; rwa [size_len] at this
    unfold gossamerref01_sign.l0
    rw [if_pos (by omega), if_pos (by omega), if_pos (by omega), if_pos (by omega), bt_nat s at_ c hc, bt_nat _ i tab[i] (by rw [tab_bytes i (by omega)]; exact List.getElem?_eq_getElem hi)]
    rw [List.drop_eq_getElem_cons hi, List.contains_cons]
    by_cases he : tab[i] = c
    · rw [if_pos (by rw [he]), he]; simp
    · have he2 : ¬ c = tab[i] := fun e => he e.symm
      have he3 : ¬ ((tab[i].toNat : Int) = (c.toNat : Int)) := fun e => he (UInt8.toNat_inj.1 (by omega))
      rw [if_neg he3, wrap_small (by omega) (by omega)]
      have ih := sign_loop s at_ c hc m (i + 1) k (by omega) (by omega)
      rw [show ((i : Int) + 1) = ((i + 1 : Nat) : Int) by omega, ih]
      simp [he2]
def signLen (l : List UInt8) : Nat := match signs.find? (fun s => s.isPrefixOf l) with | some t => t.length | none => 0
theorem extract_two (s : ByteArray) (at_ : Nat) : (s.extract at_ (at_ + 2)).data.toList = (s.data.toList.drop at_).take 2 := by
  simp [ByteArray.extract, ByteArray.copySlice]
theorem sign_is (s : ByteArray) (at_ : Nat) (c : UInt8) (r : List UInt8) (hs : s.size ≤ 1100000) (hl : s.data.toList.drop at_ = c :: r) : gossamerref01_sign.f 20 s at_ = some (signLen (c :: r) : Int) := by
  have hc : s.data.toList[at_]? = some c := by
    have := congrArg (fun l => l[0]?) hl
    simpa using this
  have hlen : at_ + (r.length + 1) = s.size := by
    have := congrArg List.length hl
    rw [List.length_drop, List.length_cons, size_len] at this; omega
  have hlp := sign_loop s at_ c hc 13 0 19 rfl (by omega)
  rw [List.drop_zero] at hlp
  unfold signLen
  rw [find_signs]
  unfold gossamerref01_sign.f
  rw [wrap_small (n := (at_ : Int) + 1) (by omega) (by omega), wrap_small (n := (at_ : Int) + 2) (by omega) (by omega)]
  have hnone : ∀ b, b = false → gossamerref01_sign.j0 20 s at_ b = some (if tab.contains c then 1 else 0) := by
    rintro b rfl
    show gossamerref01_sign.j0 (19 + 1) s at_ false = _
    rw [gossamerref01_sign.j0, if_neg (by simp)]
    exact hlp
  clear hlp
  generalize tab.contains c = q at *
  cases r with
  | nil =>
    rw [if_neg (by simp at hlen; omega), hnone _ rfl]
    simp only [List.take_succ_cons, List.take_nil]
    cases q <;> simp
  | cons d r =>
    simp only [List.length_cons] at hlen
    rw [if_pos (by omega), if_pos (by omega), if_pos (by omega), if_pos (by omega)]
    have hx : (s.extract (at_ : Int).toNat ((at_ : Int) + 2).toNat).toList = (c :: d :: r).take 2 := by
      rw [Lib.toList_data, ← hl, ← extract_two]
      have e1 : (at_ : Int).toNat = at_ := by omega
      have e2 : ((at_ : Int) + 2).toNat = at_ + 2 := by omega
      rw [e1, e2]
    rw [hx]
    by_cases h1 : (c :: d :: r).take 2 = [45, 62]
    · rw [if_pos h1, if_pos h1]; rfl
    · rw [if_neg h1, if_neg h1]
      by_cases h2 : (c :: d :: r).take 2 = [61, 61]
      · rw [if_pos h2, h2]; rfl
      · rw [if_neg h2, hnone _ (by simpa using h2)]
        cases q <;> simp
end Refs
end Go.Proofs.YtnjmilelifmfpaaGreatDoor.Pure

/- Plain Lean: what a token's kind, first byte, text and number have to do with one another. No program in sight. -/
namespace Go.Proofs.YtnjmilelifmfpaaGreatDoor.HLex
theorem low_not {c : UInt8} (h : lower c = true) : upper c = false ∧ digit c = false := by
 simp only [lower, upper, digit, Bool.and_eq_true, decide_eq_true_eq, Bool.and_eq_false_imp, decide_eq_false_iff_not] at *
 omega
theorem wordly_low {c : UInt8} (h : wordly c = true) (h1 : digit c = false) (h2 : upper c = false) : lower c = true := by
 simpa [wordly, h1, h2] using h
theorem wordly_digit {c : UInt8} (h : wordly c = true) (h1 : ¬ 57 < c.toNat) : digit c = true := by
 simp only [wordly, lower, upper, digit, Bool.or_eq_true, Bool.and_eq_true, decide_eq_true_eq] at *
 omega
end Go.Proofs.YtnjmilelifmfpaaGreatDoor.HLex

namespace Go.Proofs.YtnjmilelifmfpaaGreatDoor.Pure
open Go Go.RowKit Go.Lib Go.Proofs Go.Proofs.YtnjmilelifmfpaaGreatDoor.Q Go.Proofs.YtnjmilelifmfpaaGreatDoorW.PrintWords Go.Proofs.YtnjmilelifmfpaaGreatDoorW.PrintLast Go.Proofs.YtnjmilelifmfpaaGreatDoorW.PrintMore
open HLexC (toS)
open HLex (Tok Stands lower upper digit wordly num signs)
open More
namespace Refs
set_option linter.unusedVariables false
set_option linter.unusedSimpArgs false
def OnePost (s : ByteArray) (at_ : Nat) (w : World) (e : Ending) (w' : World) : Prop :=
 match HLex.first (s.data.toList.drop at_) with
 | .ok (k, t, n) => e = .returned (.tuple #[.agg #[.int .i64 (k : Int), .string ⟨t.toArray⟩, .int .i64 (n : Int), .int .i64 (at_ : Int)], .int .i64 0]) ∧ Below w.heap.size w w'
 | .error er => e = .returned (.tuple #[.agg #[.int .i64 0, .string ⟨#[]⟩, .int .i64 0, .int .i64 0], .int .i64 (er : Int)]) ∧ Below w.heap.size w w'
theorem extract_is (s : ByteArray) (at_ k : Nat) (t r : List UInt8) (hl : s.data.toList.drop at_ = r) (ht : r.take k = t) : s.extract at_ (at_ + k) = ⟨t.toArray⟩ := by
 refine (HLexC.bytes_eq_iff _ _).2 ?_
 have : (s.extract at_ (at_ + k)).data.toList = (s.data.toList.drop at_).take k := by simp [ByteArray.extract, ByteArray.copySlice]
 rw [this, hl, ht]
theorem below4 {B : Nat} {w w' : World} (h : Below B w w') {g : Nat} (hg : B ≤ g) (u0 u1 u2 u3 : Value) : Below B w ((((w'.setCell ⟨g, 0, none⟩ u0).setCell ⟨g, 1, none⟩ u1).setCell ⟨g, 2, none⟩ u2).setCell ⟨g, 3, none⟩ u3) :=
 (((h.setCell (p := ⟨g, 0, none⟩) hg u0).setCell (p := ⟨g, 1, none⟩) hg u1).setCell (p := ⟨g, 2, none⟩) hg u2).setCell (p := ⟨g, 3, none⟩) hg u3
def Z : Obj := Obj.cells #[Value.int .i64 0, Value.string ⟨#[]⟩, Value.int .i64 0, Value.int .i64 0] 63
set_option maxRecDepth 100000 in
theorem one_sign (s : ByteArray) (at_ : Nat) (w : World) (hs : s.size ≤ 1100000) (c : UInt8) (r : List UInt8) (hl : s.data.toList.drop at_ = c :: r) (hw : (c :: r).takeWhile wordly = []) :
  Calls Tryz.prog 68 #[.string s, .int .i64 at_] w (OnePost s at_ w) := by
 have hlen : at_ + (r.length + 1) = s.size := by
  have := congrArg List.length hl
  rw [List.length_drop, List.length_cons, size_len] at this; omega
 have hr0 := run_is s at_ hs (by omega)
 rw [hl, hw] at hr0
 have HR := Lib.hid hr0
 have hs0 := sign_is s at_ c r hs hl
 have HS := Lib.hid hs0
 have HL := Lib.hid hl
 have HW := Lib.hid hw
 clear hr0 hs0 hl hw
 have hb0 := blk_new w Z
 have hbA := below_alloc (Below.refl w.heap.size w) Z
 have BK := Lib.hid hb0; have BB := Lib.hid hbA
 clear hb0 hbA
 go_enter Tryz.func68, Tryz.ntmps68
 go_wp2_with fail
 refine (gossamerref01_run.calls (s.size + 4) s at_ _ _ _ HR.out).mono ?_
 rintro e wf ⟨rfl, hd⟩
 have n0_ := Lib.hid (blk_below BK.out hd.below)
 have n1_ := Lib.hid (below_step BB.out hd.below)
 clear BK BB hd
 have BK := n0_; have BB := n1_
 clear n0_ n1_
 go_wp2_with fail
 refine (gossamerref01_sign.calls 20 s at_ _ _ HS.out).mono ?_
 rintro e w2 ⟨rfl, hd⟩
 have n0_ := Lib.hid (blk_below BK.out hd.below)
 have n1_ := Lib.hid (below_step BB.out hd.below)
 clear BK BB hd
 have BK := n0_; have BB := n1_
 clear n0_ n1_
 cases hf : signs.find? (fun s => s.isPrefixOf (c :: r)) with
 | none =>
  have hk : signLen (c :: r) = 0 := by unfold signLen; rw [hf]
  rw [hk]
  have HF := Lib.hid hf
  clear hf hk
  have c0 := blk_cell BK.out 0; have c1 := blk_cell BK.out 1; have c2 := blk_cell BK.out 2; have c3 := blk_cell BK.out 3
  have z0 := blk_frozen BK.out 0; have z1 := blk_frozen BK.out 1; have z2 := blk_frozen BK.out 2; have z3 := blk_frozen BK.out 3
  simp only [List.getElem?_toArray, List.getElem?_cons_zero, List.getElem?_cons_succ] at c0 c1 c2 c3
  go_wp2_with fail
  refine bodyPost_ret (results_ct rfl _ _ w.heap.size 63 #[.int .i64 0, .string ⟨#[]⟩, .int .i64 0, .int .i64 0] (0, 0) _ rfl (blk_put (blk_put (blk_put (blk_put BK.out 0 _ rfl) 1 _ rfl) 2 _ rfl) 3 _ rfl) Tryz.underlying63 rfl (by kernel_rfl)) rfl ?_
  unfold OnePost
  have hfst : HLex.first (c :: r) = .error 10 := by unfold HLex.first; simp only [HW.out, if_true, HF.out]
  rw [HL.out, hfst]
  exact ⟨rfl, below4 BB.out (Nat.le_refl _) _ _ _ _⟩
 | some t =>
  have hk : signLen (c :: r) = t.length := by unfold signLen; rw [hf]
  have htm := List.mem_of_find?_eq_some hf
  have hpre : t <+: c :: r := by
   have := List.find?_some hf
   exact List.isPrefixOf_iff_prefix.1 this
  have ht0 : 0 < t.length := List.length_pos_iff.2 (HLex.sign_facts t htm).1
  have ht1 : t.length ≤ r.length + 1 := by have := hpre.length_le; rwa [List.length_cons] at this
  rw [hk]
  have HF := Lib.hid hf
  have HP := Lib.hid hpre
  clear hf hk htm hpre
  have c0 := blk_cell BK.out 0; have c1 := blk_cell BK.out 1; have c2 := blk_cell BK.out 2; have c3 := blk_cell BK.out 3
  have z0 := blk_frozen BK.out 0; have z1 := blk_frozen BK.out 1; have z2 := blk_frozen BK.out 2; have z3 := blk_frozen BK.out 3
  simp only [List.getElem?_toArray, List.getElem?_cons_zero, List.getElem?_cons_succ] at c0 c1 c2 c3
  have hx := extract_is s at_ t.length t (c :: r) HL.out (by obtain ⟨u, hu⟩ := HP.out; rw [← hu]; simp)
  have HX := Lib.hid hx
  clear hx
  have i1 : (at_ : Int) ≤ at_ + (t.length : Int) := by omega
  have i2 : (at_ : Int) + (t.length : Int) ≤ (s.size : Int) := by omega
  have i3 : ((at_ : Int) + (t.length : Int)).toNat = at_ + t.length := by omega
  go_wp2_with fail
  refine bodyPost_ret (results_ct rfl _ _ w.heap.size 63 #[.int .i64 5, .string (s.extract at_ (at_ + t.length)), .int .i64 0, .int .i64 at_] (0, 0) _ rfl (blk_put (blk_put (blk_put (blk_put BK.out 0 _ rfl) 1 _ rfl) 2 _ rfl) 3 _ rfl) Tryz.underlying63 rfl (by kernel_rfl)) rfl ?_
  unfold OnePost
  rw [HL.out, HLex.first_sign HW.out HF.out, HX.out]
  exact ⟨rfl, below4 BB.out (Nat.le_refl _) _ _ _ _⟩
set_option maxRecDepth 100000 in
theorem one_word (s : ByteArray) (at_ : Nat) (w : World) (hs : s.size ≤ 1100000) (c : UInt8) (r : List UInt8) (hl : s.data.toList.drop at_ = c :: r) (hc : wordly c = true) :
  Calls Tryz.prog 68 #[.string s, .int .i64 at_] w (OnePost s at_ w) := by
 have hlen : at_ + (r.length + 1) = s.size := by
  have := congrArg List.length hl
  rw [List.length_drop, List.length_cons, size_len] at this; omega
 obtain ⟨wd, hwd⟩ : ∃ wd, (c :: r).takeWhile wordly = wd := ⟨_, rfl⟩
 have hr0 := run_is s at_ hs (by omega)
 rw [hl, hwd] at hr0
 have hwn : 0 < wd.length := by rw [← hwd]; simp [List.takeWhile, hc]
 have hwl : wd.length ≤ r.length + 1 := by have := HLex.tw_len wordly (c :: r); rw [hwd] at this; simpa using this
 have hhd : wd.head? = some c := by rw [← hwd]; simp [List.takeWhile, hc]
 have hx : s.extract at_ (at_ + wd.length) = ⟨wd.toArray⟩ := extract_is s at_ wd.length wd (c :: r) hl (by rw [← hwd]; exact HLex.tw_eq_take _ _)
 have hcl := class_is c 1
 have hfst : HLex.first (c :: r) = match HLex.named wd with | .ok (k, n) => .ok (k, wd, n) | .error e => .error e := by
  unfold HLex.first
  have : (c :: r).takeWhile wordly ≠ [] := by rw [hwd]; exact List.length_pos_iff.1 hwn
  simp only [this, if_false]
  rw [hwd] <;> rfl
 have hsc : ∀ h : at_ < s.size, s[at_]'h = c := fun h => by
  have h' : at_ < s.data.toList.length := by rw [size_len]; exact h
  have e1 : s.data.toList[at_]? = some c := by
   have := congrArg (fun l => l[0]?) hl
   simpa using this
  rw [List.getElem?_eq_getElem h'] at e1
  exact Option.some.inj e1
 have HR := Lib.hid hr0
 have HL := Lib.hid hl
 have HW := Lib.hid hwd
 have HC := Lib.hid hc
 have HCL := Lib.hid hcl
 have HX := Lib.hid hx
 have HH := Lib.hid hhd
 have HF := Lib.hid hfst
 clear hr0 hl hwd hc hcl hx hhd hfst
 have hb0 := blk_new w Z
 have hbA := below_alloc (Below.refl w.heap.size w) Z
 have BK := Lib.hid hb0; have BB := Lib.hid hbA
 clear hb0 hbA
 go_enter Tryz.func68, Tryz.ntmps68
 go_wp2_with fail
 refine (gossamerref01_run.calls (s.size + 4) s at_ _ _ _ HR.out).mono ?_
 rintro e wf ⟨rfl, hd⟩
 have n0_ := Lib.hid (blk_below BK.out hd.below)
 have n1_ := Lib.hid (below_step BB.out hd.below)
 clear BK BB hd
 have BK := n0_; have BB := n1_
 clear n0_ n1_
 have i1 : (at_ : Int) ≤ at_ + (wd.length : Int) := by omega
 have i2 : (at_ : Int) + (wd.length : Int) ≤ (s.size : Int) := by omega
 have i3 : ((at_ : Int) + (wd.length : Int)).toNat = at_ + wd.length := by omega
 go_wp2_with fail
 have hgn := blk_lt BK.out
 have n0_ := Lib.hid (blk_alloc BK.out (Obj.cells #[Value.int .i64 0, Value.string (s.extract at_ (at_ + wd.length)), Value.int .i64 0, Value.int .i64 (at_ : Int)] 63))
 have n1_ := Lib.hid (below_alloc BB.out (Obj.cells #[Value.int .i64 0, Value.string (s.extract at_ (at_ + wd.length)), Value.int .i64 0, Value.int .i64 (at_ : Int)] 63))
 have n2_ := Lib.hid (blk_new wf (Obj.cells #[Value.int .i64 0, Value.string (s.extract at_ (at_ + wd.length)), Value.int .i64 0, Value.int .i64 (at_ : Int)] 63))
 clear BK BB
 have BK := n0_; have BB := n1_; have BT := n2_
 clear n0_ n1_ n2_
 refine (gossamerref01_class.calls 4 _ _ _ HCL.out).mono ?_
 rintro e w3 ⟨rfl, hd⟩
 have n0_ := Lib.hid (blk_below BK.out hd.below)
 have n1_ := Lib.hid (below_step BB.out hd.below)
 have n2_ := Lib.hid (blk_below BT.out hd.below)
 clear BK BB BT hd
 have BK := n0_; have BB := n1_; have BT := n2_
 clear n0_ n1_ n2_
 generalize wf.heap.size = g2 at *
 have c0 := blk_cell BK.out 0; have c1 := blk_cell BK.out 1; have c2 := blk_cell BK.out 2; have c3 := blk_cell BK.out 3
 have z0 := blk_frozen BK.out 0; have z1 := blk_frozen BK.out 1; have z2 := blk_frozen BK.out 2; have z3 := blk_frozen BK.out 3
 have d0 := blk_cell BT.out 0; have d1 := blk_cell BT.out 1; have d2 := blk_cell BT.out 2; have d3 := blk_cell BT.out 3
 have y0 := blk_frozen BT.out 0; have y1 := blk_frozen BT.out 1; have y2 := blk_frozen BT.out 2; have y3 := blk_frozen BT.out 3
 simp only [List.getElem?_toArray, List.getElem?_cons_zero, List.getElem?_cons_succ] at c0 c1 c2 c3 d0 d1 d2 d3
 have q1 : ¬ w.heap.size = g2 := by omega
 have q2 : ¬ g2 = w.heap.size := by omega
 have hwa : ∀ k n, HLex.named wd = .ok (k, n) → HLex.first (c :: r) = .ok (k, wd, n) := fun k n h => by rw [HF.out, h]
 have hwe : ∀ er, HLex.named wd = .error er → HLex.first (c :: r) = .error er := fun er h => by rw [HF.out, h]
 have HWA := Lib.hid hwa; have HWE := Lib.hid hwe
 clear hwa hwe
 by_cases hd : digit c = true
 ·have e3 : cl c = 3 := by
   unfold cl; have := HLex.low_not (c := c)
   cases h1 : lower c
   ·cases h2 : upper c
    ·simp [hd]
    ·simp only [upper, digit, Bool.and_eq_true, decide_eq_true_eq] at h2 hd; omega
   ·rw [(HLex.low_not h1).2] at hd; cases hd
  have HD := Lib.hid hd
  clear hd
  rw [e3]
  clear e3
  cases ha : wd.any letter with
  | true =>
   have HA := Lib.hid ha
   clear ha
   go_wp2_with fail
   refine bodyPost_ret (results_ct rfl _ _ w.heap.size 63 #[.int .i64 0, .string ⟨#[]⟩, .int .i64 0, .int .i64 0] (0, 0) _ rfl (blk_put (blk_put (blk_put (blk_put BK.out 0 _ rfl) 1 _ rfl) 2 _ rfl) 3 _ rfl) Tryz.underlying63 rfl (by kernel_rfl)) rfl ?_
   unfold OnePost
   rw [HL.out, HWE.out 10 (by unfold HLex.named; rw [HH.out]; simp only [Option.map_some, Option.getD_some, HD.out]; exact if_pos HA.out)]
   exact ⟨rfl, below4 BB.out (Nat.le_refl _) _ _ _ _⟩
  | false =>
   have HA : Hid (wd.any (fun c => decide (57 < c.toNat)) = false) := Lib.hid ha
   clear ha
   by_cases h18 : 18 < wd.length
   ·have j1 : decide ((wd.length : Int) > 18) = true := by simp; omega
    go_wp2_with fail
    refine bodyPost_ret (results_ct rfl _ _ w.heap.size 63 #[.int .i64 0, .string ⟨#[]⟩, .int .i64 0, .int .i64 0] (0, 0) _ rfl (blk_put (blk_put (blk_put (blk_put BK.out 0 _ rfl) 1 _ rfl) 2 _ rfl) 3 _ rfl) Tryz.underlying63 rfl (by kernel_rfl)) rfl ?_
    unfold OnePost
    rw [HL.out, HWE.out 11 (by unfold HLex.named; rw [HH.out]; simp only [Option.map_some, Option.getD_some, HD.out]; rw [if_pos trivial, HA.out, if_neg (by simp), if_pos (.inl h18)])]
    exact ⟨rfl, below4 BB.out (Nat.le_refl _) _ _ _ _⟩
   ·have j1 : decide ((wd.length : Int) > 18) = false := by simp; omega
    by_cases h1 : 1 < wd.length
    ·have j2 : decide ((wd.length : Int) > 1) = true := by simp; omega
     by_cases h0 : c.toNat = 48
     ·have j3 : ((c.toNat : Int) == 48) = true := by simp; omega
      have hc48 := Lib.hid (UInt8.toNat_inj.1 h0 : c = 48)
      clear h0
      go_wp2_with fail
      refine bodyPost_ret (results_ct rfl _ _ w.heap.size 63 #[.int .i64 0, .string ⟨#[]⟩, .int .i64 0, .int .i64 0] (0, 0) _ rfl (blk_put (blk_put (blk_put (blk_put BK.out 0 _ rfl) 1 _ rfl) 2 _ rfl) 3 _ rfl) Tryz.underlying63 rfl (by kernel_rfl)) rfl ?_
      unfold OnePost
      rw [HL.out, HWE.out 11 (by unfold HLex.named; rw [HH.out]; simp only [Option.map_some, Option.getD_some, HD.out]; rw [if_pos trivial, HA.out, if_neg (by simp), if_pos (.inr ⟨h1, by rw [hc48.out]⟩)])]
      exact ⟨rfl, below4 BB.out (Nat.le_refl _) _ _ _ _⟩
     ·have j3 : ((c.toNat : Int) == 48) = false := by simp; omega
      have H0 := Lib.hid h0
      clear h0
      have hall : ∀ d ∈ wd, digit d = true := by
       intro d hd
       have h1 : wordly d = true := by rw [← HW.out] at hd; exact HLex.tw_all _ _ d hd
       refine HLex.wordly_digit h1 fun h2 => ?_
       have : wd.any (fun c => decide (57 < c.toNat)) = true := List.any_eq_true.2 ⟨d, hd, by simpa using h2⟩
       rw [HA.out] at this; cases this
      have hnum := number_is (s.extract at_ (at_ + wd.length)) (by rw [HX.out]; show wd.toArray.size ≤ 18; simp; omega) (by rw [HX.out]; simpa using hall)
      rw [HX.out] at hnum
      simp only [List.toList_toArray] at hnum
      rw [← HX.out] at hnum
      have HN := Lib.hid hnum
      clear hnum hall
      go_wp2_with fail
      refine (gossamerref01_number.calls 20 _ _ _ HN.out).mono ?_
      rintro e w4 ⟨rfl, hd⟩
      have n0_ := Lib.hid (blk_below (blk_far (p := ⟨g2, 0, none⟩) BK.out q1 (.int .i64 (3))) hd.below)
      have n1_ := Lib.hid (below_step (BB.out.setCell (p := ⟨g2, 0, none⟩) (by show w.heap.size ≤ g2; omega) (.int .i64 (3))) hd.below)
      have n2_ := Lib.hid (blk_below (blk_put BT.out 0 (.int .i64 (3)) rfl) hd.below)
      clear BK BB BT hd c0 c1 c2 c3 z0 z1 z2 z3 d0 d1 d2 d3 y0 y1 y2 y3
      have BK := n0_; have BB := n1_; have BT := n2_
      clear n0_ n1_ n2_
      have c0 := blk_cell BK.out 0; have c1 := blk_cell BK.out 1; have c2 := blk_cell BK.out 2; have c3 := blk_cell BK.out 3
      have z0 := blk_frozen BK.out 0; have z1 := blk_frozen BK.out 1; have z2 := blk_frozen BK.out 2; have z3 := blk_frozen BK.out 3
      have d0 := blk_cell BT.out 0; have d1 := blk_cell BT.out 1; have d2 := blk_cell BT.out 2; have d3 := blk_cell BT.out 3
      have y0 := blk_frozen BT.out 0; have y1 := blk_frozen BT.out 1; have y2 := blk_frozen BT.out 2; have y3 := blk_frozen BT.out 3
      simp only [List.getElem?_toArray, List.getElem?_cons_zero, List.getElem?_cons_succ] at c0 c1 c2 c3
      simp at d0 d1 d2 d3
      go_wp2_with fail
      refine bodyPost_ret (results_ct rfl _ _ w.heap.size 63 #[.int .i64 3, .string (s.extract at_ (at_ + wd.length)), .int .i64 (num wd : Int), .int .i64 (at_ : Int)] (0, 0) _ rfl (blk_put (blk_put (blk_put (blk_put (blk_far (p := ⟨g2, 2, none⟩) BK.out q1 _) 0 _ rfl) 1 _ rfl) 2 _ rfl) 3 _ rfl) Tryz.underlying63 rfl (by kernel_rfl)) rfl ?_
      unfold OnePost
      rw [HL.out, HWA.out 3 (num wd) (by unfold HLex.named; rw [HH.out]; simp only [Option.map_some, Option.getD_some, HD.out]; rw [if_pos trivial, HA.out, if_neg (by simp), if_neg (by rintro (h | ⟨h, h'⟩) <;> first|exact absurd h h18|exact absurd h h1|exact absurd (congrArg UInt8.toNat (Option.some.inj h')) H0.out)]), HX.out]
      exact ⟨rfl, below4 (BB.out.setCell (p := ⟨g2, 2, none⟩) (by show w.heap.size ≤ g2; omega) _) (Nat.le_refl _) _ _ _ _⟩
    ·have j2 : decide ((wd.length : Int) > 1) = false := by simp; omega
     have hall : ∀ d ∈ wd, digit d = true := by
      intro d hd
      have h1 : wordly d = true := by rw [← HW.out] at hd; exact HLex.tw_all _ _ d hd
      refine HLex.wordly_digit h1 fun h2 => ?_
      have : wd.any (fun c => decide (57 < c.toNat)) = true := List.any_eq_true.2 ⟨d, hd, by simpa using h2⟩
      rw [HA.out] at this; cases this
     have hnum := number_is (s.extract at_ (at_ + wd.length)) (by rw [HX.out]; show wd.toArray.size ≤ 18; simp; omega) (by rw [HX.out]; simpa using hall)
     rw [HX.out] at hnum
     simp only [List.toList_toArray] at hnum
     rw [← HX.out] at hnum
     have HN := Lib.hid hnum
     clear hnum hall
     go_wp2_with fail
     refine (gossamerref01_number.calls 20 _ _ _ HN.out).mono ?_
     rintro e w4 ⟨rfl, hd⟩
     have n0_ := Lib.hid (blk_below (blk_far (p := ⟨g2, 0, none⟩) BK.out q1 (.int .i64 (3))) hd.below)
     have n1_ := Lib.hid (below_step (BB.out.setCell (p := ⟨g2, 0, none⟩) (by show w.heap.size ≤ g2; omega) (.int .i64 (3))) hd.below)
     have n2_ := Lib.hid (blk_below (blk_put BT.out 0 (.int .i64 (3)) rfl) hd.below)
     clear BK BB BT hd c0 c1 c2 c3 z0 z1 z2 z3 d0 d1 d2 d3 y0 y1 y2 y3
     have BK := n0_; have BB := n1_; have BT := n2_
     clear n0_ n1_ n2_
     have c0 := blk_cell BK.out 0; have c1 := blk_cell BK.out 1; have c2 := blk_cell BK.out 2; have c3 := blk_cell BK.out 3
     have z0 := blk_frozen BK.out 0; have z1 := blk_frozen BK.out 1; have z2 := blk_frozen BK.out 2; have z3 := blk_frozen BK.out 3
     have d0 := blk_cell BT.out 0; have d1 := blk_cell BT.out 1; have d2 := blk_cell BT.out 2; have d3 := blk_cell BT.out 3
     have y0 := blk_frozen BT.out 0; have y1 := blk_frozen BT.out 1; have y2 := blk_frozen BT.out 2; have y3 := blk_frozen BT.out 3
     simp only [List.getElem?_toArray, List.getElem?_cons_zero, List.getElem?_cons_succ] at c0 c1 c2 c3
     simp at d0 d1 d2 d3
     go_wp2_with fail
     refine bodyPost_ret (results_ct rfl _ _ w.heap.size 63 #[.int .i64 3, .string (s.extract at_ (at_ + wd.length)), .int .i64 (num wd : Int), .int .i64 (at_ : Int)] (0, 0) _ rfl (blk_put (blk_put (blk_put (blk_put (blk_far (p := ⟨g2, 2, none⟩) BK.out q1 _) 0 _ rfl) 1 _ rfl) 2 _ rfl) 3 _ rfl) Tryz.underlying63 rfl (by kernel_rfl)) rfl ?_
     unfold OnePost
     rw [HL.out, HWA.out 3 (num wd) (by unfold HLex.named; rw [HH.out]; simp only [Option.map_some, Option.getD_some, HD.out]; rw [if_pos trivial, HA.out, if_neg (by simp), if_neg (by rintro (h | ⟨h, h'⟩) <;> first|exact absurd h h18|exact absurd h h1|exact absurd (congrArg UInt8.toNat (Option.some.inj h')) H0.out)]), HX.out]
     exact ⟨rfl, below4 (BB.out.setCell (p := ⟨g2, 2, none⟩) (by show w.heap.size ≤ g2; omega) _) (Nat.le_refl _) _ _ _ _⟩
 ·have hd' : digit c = false := by simpa using hd
  clear hd
  obtain ⟨kc, hkc, e3⟩ : ∃ kc : Nat, kc = (if upper c then 2 else 1) ∧ cl c = (kc : Int) := by
   refine ⟨_, rfl, ?_⟩
   unfold cl
   cases h1 : lower c
   ·cases h2 : upper c
    ·have := HLex.wordly_low HC.out hd' h2; rw [h1] at this; cases this
    ·rfl
   ·rw [(HLex.low_not h1).1]; rfl
  have hk3 : kc = 1 ∨ kc = 2 := by rw [hkc]; cases upper c <;> simp
  have HD := Lib.hid hd'; have HK := Lib.hid hkc
  clear hd' hkc
  rw [e3]
  clear e3
  have j0 : ((kc : Int) == 3) = false := by simp; omega
  by_cases h16 : 16 < wd.length
  ·have j1 : decide ((wd.length : Int) > 16) = true := by simp; omega
   go_wp2_with fail
   refine bodyPost_ret (results_ct rfl _ _ w.heap.size 63 #[.int .i64 0, .string ⟨#[]⟩, .int .i64 0, .int .i64 0] (0, 0) _ rfl (blk_put (blk_put (blk_put (blk_put BK.out 0 _ rfl) 1 _ rfl) 2 _ rfl) 3 _ rfl) Tryz.underlying63 rfl (by kernel_rfl)) rfl ?_
   unfold OnePost
   rw [HL.out, HWE.out 11 (by unfold HLex.named; rw [HH.out]; simp only [Option.map_some, Option.getD_some, HD.out]; rw [if_neg (by simp)]; rw [if_pos h16])]
   exact ⟨rfl, below4 BB.out (Nat.le_refl _) _ _ _ _⟩
  ·have j1 : decide ((wd.length : Int) > 16) = false := by simp; omega
   have hword := rword_is (s.extract at_ (at_ + wd.length))
   rw [HX.out] at hword
   simp only [List.toList_toArray] at hword
   rw [← HX.out] at hword
   cases hiw : HLex.isWord wd with
   | true =>
    rw [hiw] at hword
    have HN := Lib.hid hword; have HI := Lib.hid hiw
    clear hword hiw
    go_wp2_with fail
    refine (gossamerref01_Word.calls _ _ _ HN.out).mono ?_
    rintro e w4 ⟨rfl, hd⟩
    have n0_ := Lib.hid (blk_below (blk_far (p := ⟨g2, 0, none⟩) BK.out q1 (.int .i64 ((kc : Int)))) hd.below)
    have n1_ := Lib.hid (below_step (BB.out.setCell (p := ⟨g2, 0, none⟩) (by show w.heap.size ≤ g2; omega) (.int .i64 ((kc : Int)))) hd.below)
    have n2_ := Lib.hid (blk_below (blk_put BT.out 0 (.int .i64 ((kc : Int))) rfl) hd.below)
    clear BK BB BT hd c0 c1 c2 c3 z0 z1 z2 z3 d0 d1 d2 d3 y0 y1 y2 y3
    have BK := n0_; have BB := n1_; have BT := n2_
    clear n0_ n1_ n2_
    have c0 := blk_cell BK.out 0; have c1 := blk_cell BK.out 1; have c2 := blk_cell BK.out 2; have c3 := blk_cell BK.out 3
    have z0 := blk_frozen BK.out 0; have z1 := blk_frozen BK.out 1; have z2 := blk_frozen BK.out 2; have z3 := blk_frozen BK.out 3
    have d0 := blk_cell BT.out 0; have d1 := blk_cell BT.out 1; have d2 := blk_cell BT.out 2; have d3 := blk_cell BT.out 3
    have y0 := blk_frozen BT.out 0; have y1 := blk_frozen BT.out 1; have y2 := blk_frozen BT.out 2; have y3 := blk_frozen BT.out 3
    simp only [List.getElem?_toArray, List.getElem?_cons_zero, List.getElem?_cons_succ] at c0 c1 c2 c3
    simp at d0 d1 d2 d3
    go_wp2_with fail
    refine bodyPost_ret (results_ct rfl _ _ w.heap.size 63 #[.int .i64 4, .string (s.extract at_ (at_ + wd.length)), .int .i64 0, .int .i64 (at_ : Int)] (0, 0) _ rfl (blk_put (blk_put (blk_put (blk_put (blk_far (p := ⟨g2, 0, none⟩) BK.out q1 _) 0 _ rfl) 1 _ rfl) 2 _ rfl) 3 _ rfl) Tryz.underlying63 rfl (by kernel_rfl)) rfl ?_
    unfold OnePost
    rw [HL.out, HWA.out 4 0 (by unfold HLex.named; rw [HH.out]; simp only [Option.map_some, Option.getD_some, HD.out]; rw [if_neg (by simp)]; rw [if_neg h16, if_pos HI.out]), HX.out]
    exact ⟨rfl, below4 (BB.out.setCell (p := ⟨g2, 0, none⟩) (by show w.heap.size ≤ g2; omega) _) (Nat.le_refl _) _ _ _ _⟩
   | false =>
    rw [hiw] at hword
    have HN := Lib.hid hword; have HI := Lib.hid hiw
    clear hword hiw
    go_wp2_with fail
    refine (gossamerref01_Word.calls _ _ _ HN.out).mono ?_
    rintro e w4 ⟨rfl, hd⟩
    have n0_ := Lib.hid (blk_below (blk_far (p := ⟨g2, 0, none⟩) BK.out q1 (.int .i64 ((kc : Int)))) hd.below)
    have n1_ := Lib.hid (below_step (BB.out.setCell (p := ⟨g2, 0, none⟩) (by show w.heap.size ≤ g2; omega) (.int .i64 ((kc : Int)))) hd.below)
    have n2_ := Lib.hid (blk_below (blk_put BT.out 0 (.int .i64 ((kc : Int))) rfl) hd.below)
    clear BK BB BT hd c0 c1 c2 c3 z0 z1 z2 z3 d0 d1 d2 d3 y0 y1 y2 y3
    have BK := n0_; have BB := n1_; have BT := n2_
    clear n0_ n1_ n2_
    have c0 := blk_cell BK.out 0; have c1 := blk_cell BK.out 1; have c2 := blk_cell BK.out 2; have c3 := blk_cell BK.out 3
    have z0 := blk_frozen BK.out 0; have z1 := blk_frozen BK.out 1; have z2 := blk_frozen BK.out 2; have z3 := blk_frozen BK.out 3
    have d0 := blk_cell BT.out 0; have d1 := blk_cell BT.out 1; have d2 := blk_cell BT.out 2; have d3 := blk_cell BT.out 3
    have y0 := blk_frozen BT.out 0; have y1 := blk_frozen BT.out 1; have y2 := blk_frozen BT.out 2; have y3 := blk_frozen BT.out 3
    simp only [List.getElem?_toArray, List.getElem?_cons_zero, List.getElem?_cons_succ] at c0 c1 c2 c3
    simp at d0 d1 d2 d3
    go_wp2_with fail
    refine bodyPost_ret (results_ct rfl _ _ w.heap.size 63 #[.int .i64 (kc : Int), .string (s.extract at_ (at_ + wd.length)), .int .i64 0, .int .i64 (at_ : Int)] (0, 0) _ rfl (blk_put (blk_put (blk_put (blk_put BK.out 0 _ rfl) 1 _ rfl) 2 _ rfl) 3 _ rfl) Tryz.underlying63 rfl (by kernel_rfl)) rfl ?_
    unfold OnePost
    rw [HL.out, HWA.out kc 0 (by unfold HLex.named; rw [HH.out]; simp only [Option.map_some, Option.getD_some, HD.out]; rw [if_neg (by simp)]; rw [if_neg h16, if_neg (by rw [HI.out]; simp), HK.out]; by_cases hu : upper c = true <;> simp [hu]), HX.out]
    exact ⟨rfl, below4 BB.out (Nat.le_refl _) _ _ _ _⟩
theorem one_any (s : ByteArray) (at_ : Nat) (w : World) (hs : s.size ≤ 1100000) (hat : at_ < s.size) : Calls Tryz.prog 68 #[.string s, .int .i64 at_] w (OnePost s at_ w) := by
 cases hl : s.data.toList.drop at_ with
 | nil =>
  have := List.drop_eq_nil_iff.1 hl
  rw [size_len] at this; omega
 | cons c r =>
  cases hc : wordly c with
  | true => exact one_word s at_ w hs c r hl hc
  | false => exact one_sign s at_ w hs c r hl (by simp [List.takeWhile, hc])
end Refs
end Go.Proofs.YtnjmilelifmfpaaGreatDoor.Pure

namespace Go.Proofs.YtnjmilelifmfpaaGreatDoor.Ev
open Go Go.RowKit Go.Proofs.YtnjmilelifmfpaaGreatDoor.Q Go.Proofs.YtnjmilelifmfpaaGreatDoorW.PrintWords Go.Proofs.YtnjmilelifmfpaaGreatDoorW.PrintLast Go.Proofs.YtnjmilelifmfpaaGreatDoorW.PrintMore
open HCore (wt wts may same height heights size sizes)
set_option linter.unusedSimpArgs false
set_option linter.unusedVariables false

theorem pur_s {S : Snap} {x v : Value} (h : Pur S (.s x) v) : v = x := by cases h; rfl
theorem nil_C {w : World} {A : Option Addr} : Kd.C Q.k24 w A 0 [] := ⟨rfl, by decide, fun h => absurd h (by simp)⟩
theorem fwd {S : Snap} {w : World} (hA : Agr S w) : ∀ n, n ≤ 9223372036854775807 → ∀ l : List Tm, sizes l ≤ n → ∀ v, Pur S (.row (encTs l)) v → ∃ A c, v = .slice A l.length c ∧ l.length ≤ c ∧ Kd.C Q.k24 w A l.length l := by
 intro n
 induction n with
 | zero =>
  intro _ l hl v hv
  have : l = [] := by
   cases l with
   | nil => rfl
   | cons x l => have := size_of x; simp only [sizes] at hl; omega
  subst this
  cases hv with
  | row sz h r e m => simp only [encTs, List.length_nil] at e; subst e; exact ⟨_, _, rfl, by simp, nil_C⟩
  | nil => exact ⟨_, _, rfl, by simp, nil_C⟩
 | succ n ih =>
  intro hn l hl v hv
  have hlen := len_sizes l
  cases hv' : l with
  | nil =>
   subst hv'
   cases hv with
   | row sz h r e m => simp only [encTs, List.length_nil] at e; subst e; exact ⟨_, _, rfl, by simp, nil_C⟩
   | nil => exact ⟨_, _, rfl, by simp, nil_C⟩
  | cons x0 l0 =>
   rw [← hv']
   generalize hxs : encTs l = xs at hv
   cases hv with
   | nil => rw [hv'] at hxs; simp [encTs] at hxs
   | row sz h r e m =>
    rename_i b o len cap
    subst hxs
    rw [encTs_len] at e; subst e
    refine ⟨_, _, rfl, m, rfl, by omega, fun _ => ⟨_, rfl, fun j p hj => ?_⟩⟩
    have hget : (encTs l)[j]? = some (encT p) := by rw [encTs_get, hj]; rfl
    have hcs := Rows.get (sz := 4) (fun c hc => by rw [encTs_map] at hc; obtain ⟨y, _, rfl⟩ := List.mem_map.1 hc; exact encT_len y) r hget
    have hp : p ∈ l := List.mem_of_getElem? hj
    have h1 := sizes_mem hp
    have h2 := size_of p
    obtain ⟨vs, v1, v2, v3⟩ := hcs.vals
    rw [encT_is] at v1 v3
    obtain ⟨u0, e0, p0⟩ := v3 0 _ rfl
    obtain ⟨u1, e1, p1⟩ := v3 1 _ rfl
    obtain ⟨u2, e2, p2⟩ := v3 2 _ rfl
    obtain ⟨u3, e3, p3⟩ := v3 3 _ rfl
    obtain ⟨A4, c4, rfl, hl4, hC4⟩ := ih (by omega) p.f3 (by omega) u3 p3
    have q0 := pur_s p0; have q1 := pur_s p1; have q2 := pur_s p2
    subst q0 q1 q2
    refine ⟨_, rfl, k24_mk w p hl4 hC4, fun i u hi => ?_⟩
    rw [Addr.add_lit]
    have hv2 : vs[i]? = some u := match i, hi with
     | 0, hi => e0.trans hi
     | 1, hi => e1.trans hi
     | 2, hi => e2.trans hi
     | 3, hi => e3.trans hi
    have := v2 i u hv2
    rw [Nat.add_assoc] at this
    exact hA.1 _ _ _ this
theorem rows_of {S : Snap} {sz b : Nat} : ∀ (xs : List (List AV)) (o : Nat), (∀ c ∈ xs, c.length = sz) → (∀ i c, xs[i]? = some c → Cells S b (o + i * sz) c) → Rows S b o xs
 | [], _, _, _ => .nil
 | c :: xs, o, h, k => by
  have h0 := h c (List.mem_cons_self ..)
  refine .cons (by simpa using k 0 c rfl) (rows_of xs _ (fun c hc => h c (List.mem_cons_of_mem _ hc)) fun i d hd => ?_)
  have := k (i + 1) d (by simpa using hd)
  rwa [Nat.add_mul, Nat.one_mul, show o + (i * sz + sz) = o + c.length + i * sz by omega] at this
def SW (w : World) : Snap := fun b o => w.cell? ⟨b, o, none⟩
theorem SW_agr (w : World) : Agr (SW w) w := ⟨fun _ _ _ h => h, fun _ _ _ _ _ _ h => h⟩
theorem spot_none {w : World} {a : Addr} {v : Value} (h : w.cell? a = some v) : a.spot = none := by
 unfold World.cell? at h
 split at h
 ·split at h
  ·cases h
  ·rename_i h0; cases ha : a.spot with
   | none => rfl
   | some _ => rw [ha] at h0; simp at h0
 ·cases h
theorem add_eq {a : Addr} (h : a.spot = none) (n : Nat) : a.add n = ⟨a.block, a.off + n, none⟩ := by
 cases a with
 | mk b o s => simp only at h; subst h; rw [Addr.add_lit]
theorem bwd {w : World} : ∀ n, ∀ l : List Tm, sizes l ≤ n → ∀ A c, l.length ≤ c → Kd.C Q.k24 w A l.length l → Pur (SW w) (.row (encTs l)) (.slice A l.length c) := by
 intro n
 induction n with
 | zero =>
  intro l hl A c hc h
  have : l = [] := by
   cases l with
   | nil => rfl
   | cons x l => have := size_of x; simp only [sizes] at hl; omega
  subst this
  exact .nil
 | succ n ih =>
  intro l hl A c hc h
  cases hv : l with
  | nil => exact .nil
  | cons x0 l0 =>
   rw [← hv]
   have hp0 : l[0]? = some x0 := by rw [hv]; rfl
   obtain ⟨ad, _, _, rfl, y0, -⟩ := Pure.WK.tm_get h hp0
   have hsp : ad.spot = none := by
    have := spot_none y0
    rw [Nat.zero_mul, Pure.WK.add0] at this; exact this
   have had : ad = ⟨ad.block, ad.off, none⟩ := by cases ad; simp only at hsp; subst hsp; rfl
   rw [had]
   refine .row 4 (fun c hc => by rw [encTs_map] at hc; obtain ⟨y, _, rfl⟩ := List.mem_map.1 hc; exact encT_len y) (rows_of _ _ (fun c hc => by rw [encTs_map] at hc; obtain ⟨y, _, rfl⟩ := List.mem_map.1 hc; exact encT_len y) fun i d hd => ?_) (encTs_len l) hc
   rw [encTs_get, Option.map_eq_some_iff] at hd
   obtain ⟨p, hp, rfl⟩ := hd
   obtain ⟨ad', A4, c4, e, z0, z1, z2, z3, hl4, hC4⟩ := Pure.WK.tm_get h hp
   cases e
   rw [add_eq hsp] at z0 z1 z2 z3
   have hm := sizes_mem (List.mem_of_getElem? hp)
   have h2 := size_of p
   rw [encT_is]
   exact .cons z0 (.s rfl) (.cons z1 (.s rfl) (.cons z2 (.s rfl) (.cons z3 (ih p.f3 (by omega) A4 c4 hl4 hC4) .nil)))
def told (S : Snap) (k : Nat) : Prop := ∃ o v, S k o = some v
theorem argF {S : Snap} {w : World} (hA : Agr S w) {x : Tm} (hx : size x ≤ 9223372036854775807) {v : Value} (h : Rep (g0 S) (.agg (encT x)) v) :
  ∃ A c, v = .agg #[.int .i64 x.f0, .int .i64 x.f1, .string x.f2, .slice A x.f3.length c] ∧ x.f3.length ≤ c ∧ Kd.F Q.k24 w (told S) A x.f3.length x.f3 := by
 have hf := size_of x
 rw [encT_is] at h
 cases h with
 | com h => cases h with
  | cel h => cases h with | pur p => cases p
  | agg h =>
   cases h with | cons c0 h =>
   cases h with | cons c1 h =>
   cases h with | cons c2 h =>
   cases h with | cons c3 h =>
   cases h
   cases c0 with | pur p0 =>
   cases c1 with | pur p1 =>
   cases c2 with | pur p2 =>
   cases c3 with | pur p3 =>
   obtain ⟨A, c, rfl, hl, hC⟩ := fwd hA _ (Nat.le_refl _) x.f3 (by omega) _ p3
   cases p0; cases p1; cases p2
   refine ⟨A, c, rfl, hl, fun W' hW => ?_⟩
   have hA' : Agr S W' := agr_same hA fun b o v e => hW b ⟨o, v, e⟩ (hA.lt e)
   obtain ⟨A', c', e, hl', hC'⟩ := fwd hA' _ (Nat.le_refl _) x.f3 (by omega) _ p3
   cases e
   exact hC'
theorem repT {w : World} {x : Tm} {A : Option Addr} {c : Nat} (hl : x.f3.length ≤ c) (hC : Kd.C Q.k24 w A x.f3.length x.f3) :
  Com (g0 (SW w)) (.agg (encT x)) (.agg #[.int .i64 x.f0, .int .i64 x.f1, .string x.f2, .slice A x.f3.length c]) := by
 rw [encT_is]
 exact .agg (.cons (.pur (.s rfl)) (.cons (.pur (.s rfl)) (.cons (.pur (.s rfl)) (.cons (.pur (bwd _ x.f3 (Nat.le_refl _) A c hl hC)) .nil))))
def Snew (S : Snap) (n : Nat) (w' : World) : Snap := fun b o => if b < n then S b o else w'.cell? ⟨b, o, none⟩
theorem Snew_ok {S : Snap} {w w' : World} (hA : Agr S w) (hb : Below w.heap.size w w') : SLe S (Snew S w.heap.size w') ∧ (∀ b o, b < w.heap.size → Snew S w.heap.size w' b o = S b o) ∧ Agr (Snew S w.heap.size w') w' := by
 refine ⟨fun b o v e => by unfold Snew; rw [if_pos (hA.lt e)]; exact e, fun b o h => if_pos h, ?_⟩
 have hA' := hA.below hb
 refine ⟨fun b o v e => ?_, fun b o v o' v' e e' => ?_⟩
 ·unfold Snew at e
  split at e
  ·exact hA'.1 b o v e
  ·exact e
 ·unfold Snew at e ⊢
  split at e
  ·rename_i h; rw [if_pos h]; exact hA'.2 b o v o' v' e e'
  ·rename_i h; rw [if_neg h]; exact e'
open Classical in
noncomputable def only (ok : Nat → Prop) (w : World) : World := { w with heap := w.heap.mapIdx fun k o => if ok k then o else .cells #[] 0 }
theorem only_get {ok : Nat → Prop} {w : World} {k : Nat} (h : ok k) : (only ok w).heap[k]? = w.heap[k]? := by
 simp only [only, Array.getElem?_mapIdx, h, if_true]
 cases w.heap[k]? <;> rfl
theorem only_cell {ok : Nat → Prop} {w : World} {b o : Nat} {v : Value} (h : (only ok w).cell? ⟨b, o, none⟩ = some v) : ok b ∧ w.cell? ⟨b, o, none⟩ = some v := by
 by_cases hb : ok b
 ·refine ⟨hb, ?_⟩
  rw [← World.cell?_of_block (w := w) (only_get hb)]; exact h
 ·exfalso
  have hlt := World.block_lt_of_cell? _ _ h
  have : (only ok w).heap[b]? = some (.cells #[] 0) := by
   have hw : b < w.heap.size := by simpa [only] using hlt
   simp only [only, Array.getElem?_mapIdx, hb, if_false]
   rw [Array.getElem?_eq_getElem hw]; rfl
  rw [cell_of_row _ b o #[] 0 (0, 0) this] at h
  simp at h
theorem resF {S : Snap} {w w' : World} (hA : Agr S w) (hb : Below w.heap.size w w') {x : Tm} {A : Option Addr} {c : Nat} (hl : x.f3.length ≤ c) (hF : Kd.F Q.k24 w' (fun k => told S k ∨ w.heap.size ≤ k) A x.f3.length x.f3) :
  Com (g0 (Snew S w.heap.size w')) (.agg (encT x)) (.agg #[.int .i64 x.f0, .int .i64 x.f1, .string x.f2, .slice A x.f3.length c]) := by
 have hC := hF (only (fun k => told S k ∨ w.heap.size ≤ k) w') fun k hk _ => only_get hk
 refine Com.mono (g := g0 (SW (only (fun k => told S k ∨ w.heap.size ≤ k) w'))) (g' := g0 (Snew S w.heap.size w')) ⟨fun b o v e => ?_, fun _ _ h => by simp [g0] at h, fun _ _ h => by simp [g0] at h⟩ (repT hl hC)
 obtain ⟨h1, h2⟩ := only_cell e
 show Snew S w.heap.size w' b o = some v
 unfold Snew
 split
 ·rename_i hlt
  rcases h1 with ⟨o', v', h1⟩ | h1
  ·exact (hA.below hb).2 b o' v' o v h1 h2
  ·omega
 ·exact h2
theorem post_s {S : Snap} {w : World} (hA : Agr S w) {v : Value} (h1 : v.oneCell' = true) {e : Ending} {w' : World} (h : e = .returned v ∧ Below w.heap.size w w') : Post S w (.ret (.s v)) e w' := by
 obtain ⟨rfl, hb⟩ := h
 exact ⟨S, SLe.refl _, fun _ _ _ => rfl, hA.below hb, hb, rep_s h1⟩
theorem post_ret {S : Snap} {w : World} {v : Value} {e : Ending} {w' : World} (h : Post S w (.ret (.s v)) e w') : e = .returned v ∧ Below w.heap.size w w' := by
 cases e with
 | returned x =>
  obtain ⟨S', -, -, -, hb, r⟩ := h
  have : x = v := sc_rep r rfl
  subst this
  exact ⟨rfl, hb⟩
 | panicked ch => exact h.elim
 | _ => exact h.elim
def oneOut (s : ByteArray) (k : Nat) : AOut := match HLex.first (s.data.toList.drop k) with
 | .ok (kd, t, n) => .ret (.tup [.agg [.s (.int .i64 (kd : Int)), .s (.string ⟨t.toArray⟩), .s (.int .i64 (n : Int)), .s (.int .i64 (k : Int))], .s (.int .i64 0)])
 | .error er => .ret (.tup [.agg [.s (.int .i64 0), .s (.string ⟨#[]⟩), .s (.int .i64 0), .s (.int .i64 0)], .s (.int .i64 (er : Int))])
abbrev TOne : Spec := fun args out => ∃ (s : ByteArray) (k : Nat), args = [.s (.string s), .s (.int .i64 (k : Int))] ∧ s.size ≤ 1100000 ∧ k < s.size ∧ out = oneOut s k
theorem c_one {J : JW} : Con Tryz.prog J 68 TOne := by
 rintro args out ⟨s, k, rfl, hs, hk, rfl⟩
 show ∀ S w vs, J w → Agr S w → All2 (Rep (g0 S)) _ vs → Calls Tryz.prog _ vs.toArray w (Post S w _)
 intro S w vs hJ hA h
 cases h with | cons r0 h =>
 cases h with | cons r1 h =>
 cases h
 have e0 := sc_rep r0 rfl
 have e1 := sc_rep r1 rfl
 subst e0 e1
 refine (Pure.Refs.one_any s k w hs hk).mono fun e w' h => ?_
 unfold Pure.Refs.OnePost at h
 unfold oneOut
 cases hq : HLex.first (s.data.toList.drop k) with
 | ok y =>
  obtain ⟨a, b, c⟩ := y
  rw [hq] at h
  obtain ⟨rfl, hb⟩ := h
  exact ⟨S, SLe.refl _, fun _ _ _ => rfl, hA.below hb, hb, .tup (.cons (.agg (.cons (.pur (.s rfl)) (.cons (.pur (.s rfl)) (.cons (.pur (.s rfl)) (.cons (.pur (.s rfl)) .nil))))) (.cons (.cel (.pur (.s rfl))) .nil))⟩
 | error er =>
  rw [hq] at h
  obtain ⟨rfl, hb⟩ := h
  exact ⟨S, SLe.refl _, fun _ _ _ => rfl, hA.below hb, hb, .tup (.cons (.agg (.cons (.pur (.s rfl)) (.cons (.pur (.s rfl)) (.cons (.pur (.s rfl)) (.cons (.pur (.s rfl)) .nil))))) (.cons (.cel (.pur (.s rfl))) .nil))⟩
end Go.Proofs.YtnjmilelifmfpaaGreatDoor.Ev

namespace Go.Proofs.YtnjmilelifmfpaaGreatDoor.Q
open Go.RowKit Go.Proofs.YtnjmilelifmfpaaGreatDoorW.PrintWords Go.Proofs.YtnjmilelifmfpaaGreatDoorW.PrintLast Go.Proofs.YtnjmilelifmfpaaGreatDoorW.PrintMore
attribute [local go_sem] max2_int min2_int max_two min_two max_three min_three max_four min_four
set_option linter.unusedVariables false
set_option linter.unusedSimpArgs false

def slices_Index_string_string.l0 : Nat → List ByteArray → ByteArray → Int → Int → Option (Int)
 | 0, _, _, _, _ => none
 | k + 1, x0, x1, x7, x8 => if x8 < x7 then (if 0 ≤ x8 then (if x8 < (x0.length : Int) then (if x1.toList = (rdOf ByteArray.empty x0 x8).toList then (some x8) else (slices_Index_string_string.l0 k x0 x1 x7 (wrap64 (x8 + 1)))) else (none)) else (none)) else (some (-1))
def slices_Index_string_string.f (k : Nat) (l0 : List ByteArray) (a1 : ByteArray) : Option (Int) := slices_Index_string_string.l0 k l0 a1 (l0.length : Int) 0
theorem slices_Index_string_string.mono_l : ∀ k, (∀ y0 y1 y2 y3, LeO (slices_Index_string_string.l0 k y0 y1 y2 y3) (slices_Index_string_string.l0 (k + 1) y0 y1 y2 y3))
 | 0 => fun _ _ _ _ r h => by simp [slices_Index_string_string.l0] at h
 | k + 1 => by
  have ih0 := slices_Index_string_string.mono_l k
  ·intro y0 y1 y2 y3
   unfold slices_Index_string_string.l0
   repeat' first
  |(with_reducible exact ih0 _ _ _ _)
  |(with_reducible exact LeO.refl _)
  |(with_reducible exact LeO.none _)
  |(with_reducible refine LeO.ite ?_ ?_)
  |(with_reducible refine LeO.bind ?_ (fun _ => ?_))
  |exact ih0 _ _ _ _
  |exact LeO.none _
  |refine LeO.ite ?_ ?_
  |refine LeO.bind ?_ (fun _ => ?_)
theorem slices_Index_string_string.mono : ∀ a0 a1 k, LeO (slices_Index_string_string.f k a0 a1) (slices_Index_string_string.f (k + 1) a0 a1) := by
 intro a0 a1 k
 have ih0 := slices_Index_string_string.mono_l k
 unfold slices_Index_string_string.f
 repeat' first
  |(with_reducible exact ih0 _ _ _ _)
  |(with_reducible exact LeO.refl _)
  |(with_reducible exact LeO.none _)
  |(with_reducible refine LeO.ite ?_ ?_)
  |(with_reducible refine LeO.bind ?_ (fun _ => ?_))
  |exact ih0 _ _ _ _
  |exact LeO.none _
  |refine LeO.ite ?_ ?_
  |refine LeO.bind ?_ (fun _ => ?_)
set_option maxHeartbeats 8000000 in
set_option maxRecDepth 100000 in
theorem slices_Index_string_string.calls (k : Nat) (A0 : Option Addr) (c0 : Nat) (l0 : List ByteArray) (a1 : ByteArray) (r : Int) (w : World) (hr0 : Kd.C Kd.string w A0 l0.length l0) (hc0 : l0.length ≤ c0) (h : slices_Index_string_string.f k l0 a1 = some r) :
  Calls Tryz.prog 82 #[.slice A0 l0.length c0, .string a1] w fun e w' => e = .returned (.int .i64 r) ∧ Drawn0 w w' := by
 have HR0 := Aside0.mk hr0
 have HC0 := Aside0.mk hc0
 clear hr0 hc0
 have H : (slices_Index_string_string.l0 k l0 a1 (l0.length : Int) 0) = some r := h
 clear h
 have H' := Aside0.mk H
 clear H
 go_enter Tryz.func82, Tryz.ntmps82
 go_wp2
 go_loopg [8] k (fun kq v8 w' => ∃ (x8_1 : Int), v8 = .int .i64 x8_1 ∧ Aside0 (slices_Index_string_string.l0 kq l0 a1 (l0.length : Int) x8_1 = some r) ∧ Aside0 (kq ≤ k) ∧ Drawn0 w w')
 case atStart => exact ⟨(0), (by first|rfl|(simp; done)|(simp [*]; done)), H', ⟨Nat.le_refl _⟩, by repeat (first|exact Drawn0.refl _|apply Drawn0.step)⟩
 case round =>
  clear H'
  try clear p2
  obtain ⟨x8_1, rfl, HA, HK1, ⟨m1, rfl⟩⟩ := hrel
  cases gk with
  | zero => exact absurd HA.out (by simp [slices_Index_string_string.l0])
  | succ k1 =>
   have H := HA.out
   clear HA
   simp only [slices_Index_string_string.l0] at H
   by_cases c3 : x8_1 < (l0.length : Int)
   ·rw [if_pos c3] at H
    have c3b0 : decide (x8_1 < (l0.length : Int)) = true := decide_eq_true c3
    clear c3
    by_cases c4 : 0 ≤ x8_1
    ·rw [if_pos c4] at H
     have c4b0 : decide (0 ≤ x8_1) = true := decide_eq_true c4
     clear c4
     by_cases c5 : x8_1 < (l0.length : Int)
     ·rw [if_pos c5] at H
      have c5b0 : decide (x8_1 < (l0.length : Int)) = true := decide_eq_true c5
      clear c5
      by_cases c6 : a1.toList = (rdOf ByteArray.empty l0 x8_1).toList
      ·rw [if_pos c6] at H
       have c6b0 : (a1.toList == (rdOf ByteArray.empty l0 x8_1).toList) = true := beq_iff_eq.mpr c6
       have c6b1 : (a1.toList != (rdOf ByteArray.empty l0 x8_1).toList) = false := bne_eq_false_iff_eq.mpr c6
       clear c6
       obtain rfl := Option.some.inj H
       have p110 : 0 ≤ (x8_1 : Int) := of_decide_eq_true (by first|(with_reducible assumption) | assumption)
       have q110 : x8_1 < (l0.length : Int) := of_decide_eq_true (by first|(with_reducible assumption) | assumption)
       obtain ⟨ad110, e110, hx110_0⟩ := Kd.at_string HR0.out x8_1 p110 q110
       cases e110
       replace p110 := eq_true p110
       replace q110 := eq_true q110
       go_wp2
       go_ret
       exact ⟨by first|rfl|(simp; done)|(simp [*]; done), by repeat (first|exact Drawn0.refl _|apply Drawn0.step)⟩
      ·rw [if_neg c6] at H
       have c6b0 : (a1.toList == (rdOf ByteArray.empty l0 x8_1).toList) = false := beq_eq_false_iff_ne.mpr c6
       have c6b1 : (a1.toList != (rdOf ByteArray.empty l0 x8_1).toList) = true := bne_iff_ne.mpr c6
       have H' := Aside0.mk H
       clear H
       have p110 : 0 ≤ (x8_1 : Int) := of_decide_eq_true (by first|(with_reducible assumption) | assumption)
       have q110 : x8_1 < (l0.length : Int) := of_decide_eq_true (by first|(with_reducible assumption) | assumption)
       obtain ⟨ad110, e110, hx110_0⟩ := Kd.at_string HR0.out x8_1 p110 q110
       cases e110
       replace p110 := eq_true p110
       replace q110 := eq_true q110
       go_wp2
       go_roundg k1
       case measure => have := HK1.out; omega
       case rel => exact ⟨(wrap64 (x8_1 + 1)), (by first|rfl|(simp; done)|(simp [*]; done)), H', ⟨by have := HK1.out; omega⟩, by repeat (first|exact Drawn0.refl _|apply Drawn0.step)⟩
     ·rw [if_neg c5] at H
      exact absurd H (by simp)
    ·rw [if_neg c4] at H
     exact absurd H (by simp)
   ·rw [if_neg c3] at H
    have c3b0 : decide (x8_1 < (l0.length : Int)) = false := decide_eq_false c3
    clear c3
    obtain rfl := Option.some.inj H
    go_wp2
    go_ret
    exact ⟨by first|rfl|(simp; done)|(simp [*]; done), by repeat (first|exact Drawn0.refl _|apply Drawn0.step)⟩

end Go.Proofs.YtnjmilelifmfpaaGreatDoor.Q

namespace Go.Proofs.YtnjmilelifmfpaaGreatDoor.Q
open Go.RowKit Go.Proofs.YtnjmilelifmfpaaGreatDoorW.PrintWords Go.Proofs.YtnjmilelifmfpaaGreatDoorW.PrintLast Go.Proofs.YtnjmilelifmfpaaGreatDoorW.PrintMore
attribute [local go_sem] max2_int min2_int max_two min_two max_three min_three max_four min_four
set_option linter.unusedVariables false
set_option linter.unusedSimpArgs false

def slices_Contains_string_string.f (k : Nat) (l0 : List ByteArray) (a1 : ByteArray) : Option (Bool) := (slices_Index_string_string.f k l0 a1).bind fun t111 => (some (decide (t111 ≥ 0)))
theorem slices_Contains_string_string.mono : ∀ a0 a1 k, LeO (slices_Contains_string_string.f k a0 a1) (slices_Contains_string_string.f (k + 1) a0 a1) := by
 intro a0 a1 k
 unfold slices_Contains_string_string.f
 repeat' first
  |(with_reducible exact slices_Index_string_string.mono _ _ _)
  |(with_reducible exact LeO.refl _)
  |(with_reducible exact LeO.none _)
  |(with_reducible refine LeO.ite ?_ ?_)
  |(with_reducible refine LeO.bind ?_ (fun _ => ?_))
  |exact slices_Index_string_string.mono _ _ _
  |exact LeO.none _
  |refine LeO.ite ?_ ?_
  |refine LeO.bind ?_ (fun _ => ?_)
set_option maxHeartbeats 8000000 in
set_option maxRecDepth 100000 in
theorem slices_Contains_string_string.calls (k : Nat) (A0 : Option Addr) (c0 : Nat) (l0 : List ByteArray) (a1 : ByteArray) (r : Bool) (w : World) (hr0 : Kd.C Kd.string w A0 l0.length l0) (hc0 : l0.length ≤ c0) (h : slices_Contains_string_string.f k l0 a1 = some r) :
  Calls Tryz.prog 53 #[.slice A0 l0.length c0, .string a1] w fun e w' => e = .returned (.bool r) ∧ Drawn0 w w' := by
 have HR0 := Aside0.mk hr0
 have HC0 := Aside0.mk hc0
 clear hr0 hc0
 have H : ((slices_Index_string_string.f k l0 a1).bind fun t111 => (some (decide (t111 ≥ 0)))) = some r := h
 clear h
 replace H := Option.bind_eq_some_iff.mp H
 obtain ⟨t111, A30, H⟩ := H
 replace H : (some (decide (t111 ≥ 0))) = some r := H
 have A3 := Aside0.mk A30
 clear A30
 obtain rfl := Option.some.inj H
 go_enter Tryz.func53, Tryz.ntmps53
 go_wp2_with (first|((with_reducible refine gate_callee (f := 82) rfl ?_); refine goesL_ (some 7) rfl rfl Tryz.func82 (by kernel_rfl) rfl #[.slice A0 l0.length c0, .string a1] rfl (by (try simp only [List.map_toArray, List.map_cons, List.map_nil]); first|done|rfl|(simp only [List.length_drop, List.length_take]; rfl)) ?_; (with_reducible refine (slices_Index_string_string.calls k _ _ l0 a1 t111 _ ?side1 ?side2 A3.out).mono ?_); (case side1 => repeat (first|exact HR0.out|(with_reducible refine Kd.C_alloc ?_ _)|(with_reducible refine Kd.C_drewN ?_ _)|(with_reducible refine Kd.C_drew ?_))); (case side2 => exact HC0.out); rintro e w' ⟨rfl, ⟨nd, rfl⟩⟩; refine ⟨_, rfl, ?_⟩))
 go_ret
 exact ⟨by first|rfl|(simp; done)|(simp [*]; done), by repeat (first|exact Drawn0.refl _|apply Drawn0.step)⟩

end Go.Proofs.YtnjmilelifmfpaaGreatDoor.Q

namespace Go.Proofs.YtnjmilelifmfpaaGreatDoor.Q
open Go.RowKit Go.Proofs.YtnjmilelifmfpaaGreatDoorW.PrintWords Go.Proofs.YtnjmilelifmfpaaGreatDoorW.PrintLast Go.Proofs.YtnjmilelifmfpaaGreatDoorW.PrintMore
attribute [local go_sem] max2_int min2_int max_two min_two max_three min_three max_four min_four
set_option linter.unusedVariables false
set_option linter.unusedSimpArgs false

def core_operator.f (k : Nat) (a0 : ByteArray) : Option (Bool) := (slices_Contains_string_string.f k (([(⟨#[43]⟩ : ByteArray), (⟨#[45]⟩ : ByteArray), (⟨#[42]⟩ : ByteArray), (⟨#[47]⟩ : ByteArray), (⟨#[60]⟩ : ByteArray), (⟨#[61, 61]⟩ : ByteArray)] : List ByteArray)) a0).bind fun t115 => (some t115)
theorem core_operator.mono : ∀ a0 k, LeO (core_operator.f k a0) (core_operator.f (k + 1) a0) := by
 intro a0 k
 unfold core_operator.f
 repeat' first
  |(with_reducible exact slices_Contains_string_string.mono _ _ _)
  |(with_reducible exact LeO.refl _)
  |(with_reducible exact LeO.none _)
  |(with_reducible refine LeO.ite ?_ ?_)
  |(with_reducible refine LeO.bind ?_ (fun _ => ?_))
  |exact slices_Contains_string_string.mono _ _ _
  |exact LeO.none _
  |refine LeO.ite ?_ ?_
  |refine LeO.bind ?_ (fun _ => ?_)
set_option maxHeartbeats 8000000 in
set_option maxRecDepth 100000 in
theorem core_operator.calls (k : Nat) (a0 : ByteArray) (r : Bool) (w : World) (h : core_operator.f k a0 = some r) :
  Calls Tryz.prog 33 #[.string a0] w fun e w' => e = .returned (.bool r) ∧ Below w.heap.size w w' := by
 have HB := Aside0.mk (Below.refl w.heap.size w)
 have H : ((slices_Contains_string_string.f k (([(⟨#[43]⟩ : ByteArray), (⟨#[45]⟩ : ByteArray), (⟨#[42]⟩ : ByteArray), (⟨#[47]⟩ : ByteArray), (⟨#[60]⟩ : ByteArray), (⟨#[61, 61]⟩ : ByteArray)] : List ByteArray)) a0).bind fun t115 => (some t115)) = some r := h
 clear h
 obtain ⟨y112, hy112⟩ : ∃ y_ : List ByteArray, y_ = (([(⟨#[43]⟩ : ByteArray), (⟨#[45]⟩ : ByteArray), (⟨#[42]⟩ : ByteArray), (⟨#[47]⟩ : ByteArray), (⟨#[60]⟩ : ByteArray), (⟨#[61, 61]⟩ : ByteArray)] : List ByteArray)) := ⟨_, rfl⟩
 replace H : ((slices_Contains_string_string.f k y112 a0).bind fun t115 => (some t115)) = some r := by first | (rw [hy112]; with_reducible exact H) | (have H2_ := (Option.bind_some _ _).symm.trans H; rw [hy112]; with_reducible exact H2_) | (have H2_ := (Option.bind_some _ _).symm.trans H; with_reducible exact H2_) | with_reducible exact H | (rw [hy112]; exact H)|exact H
 have Ny112 := Aside0.mk hy112
 clear hy112
 replace H := Option.bind_eq_some_iff.mp H
 obtain ⟨t115, A20, H⟩ := H
 replace H : (some t115) = some r := H
 have A2 := Aside0.mk A20
 clear A20
 obtain rfl := Option.some.inj H
 go_enter Tryz.func33, Tryz.ntmps33
 go_wp2_with (first|((with_reducible refine gate_dst (N := 3) rfl ?_); refine Kd.R_lit Kd.string _ 9 ?hg (N := 3) ?hd (xs := ([(⟨#[43]⟩ : ByteArray), (⟨#[45]⟩ : ByteArray), (⟨#[42]⟩ : ByteArray), (⟨#[47]⟩ : ByteArray), (⟨#[60]⟩ : ByteArray), (⟨#[61, 61]⟩ : ByteArray)] : List ByteArray)) (inner := [.string (⟨#[43]⟩ : ByteArray), .string (⟨#[45]⟩ : ByteArray), .string (⟨#[42]⟩ : ByteArray), .string (⟨#[47]⟩ : ByteArray), .string (⟨#[60]⟩ : ByteArray), .string (⟨#[61, 61]⟩ : ByteArray)]) (ok := fun _ => True) (okp := fun _ => True) ?hr ?hp (fun _ hk => hk) trivial (Below.refl _ _) (Nat.le_refl _) (by simp) ?_; (case hd => rfl); (case hg => rfl); (case hr => first|(go_simp; done)|(go_simp; rfl)); (case hp => exact (Reps.one (show Kd.M Kd.string _ _ _ (⟨#[43]⟩ : ByteArray) [.string (⟨#[43]⟩ : ByteArray)] from rfl) (Reps.one (show Kd.M Kd.string _ _ _ (⟨#[45]⟩ : ByteArray) [.string (⟨#[45]⟩ : ByteArray)] from rfl) (Reps.one (show Kd.M Kd.string _ _ _ (⟨#[42]⟩ : ByteArray) [.string (⟨#[42]⟩ : ByteArray)] from rfl) (Reps.one (show Kd.M Kd.string _ _ _ (⟨#[47]⟩ : ByteArray) [.string (⟨#[47]⟩ : ByteArray)] from rfl) (Reps.one (show Kd.M Kd.string _ _ _ (⟨#[60]⟩ : ByteArray) [.string (⟨#[60]⟩ : ByteArray)] from rfl) (Reps.one (show Kd.M Kd.string _ _ _ (⟨#[61, 61]⟩ : ByteArray) [.string (⟨#[61, 61]⟩ : ByteArray)] from rfl) (Reps.none _ _)))))))); intro v113 w3 ho4 hb hg_ hnew_; clear hg_ hnew_; (first|rw [← Ny112.out] at ho4|(simp only [Int.reduceToNat] at ho4; rw [← Ny112.out] at ho4)); have n0_ := Aside0.mk (Kd.R_lower ho4 (below_size (by repeat (first|(with_reducible first|exact HB.out|apply below_alloc|apply pw_below_drewN|apply below_drew1)|exact HB.out)))); have n1_ := Aside0.mk (below_step (by repeat (first|(with_reducible first|exact HB.out|apply below_alloc|apply pw_below_drewN|apply below_drew1)|exact HB.out)) hb); clear HB; have HO114 := n0_; have HB := n1_; clear n0_ n1_; clear hb ho4; obtain ⟨Ao5, co5, eo5⟩ := Kd.R_slice HO114.out; subst eo5) | ((with_reducible refine gate_callee (f := 53) rfl ?_); refine goesL_ (some 5) rfl rfl Tryz.func53 (by kernel_rfl) rfl #[.slice Ao5 y112.length co5, .string a0] rfl (by (try simp only [List.map_toArray, List.map_cons, List.map_nil]); first|done|rfl|(simp only [List.length_drop, List.length_take]; rfl)) ?_; (with_reducible refine (slices_Contains_string_string.calls k _ _ y112 a0 t115 _ ?side1 ?side2 A2.out).mono ?_); (case side1 => repeat (first|exact (Kd.R_reads' HO114.out).2.2|(with_reducible refine Kd.C_alloc ?_ _)|(with_reducible refine Kd.C_drewN ?_ _)|(with_reducible refine Kd.C_drew ?_))); (case side2 => exact (Kd.R_reads' HO114.out).2.1); rintro e w' ⟨rfl, ⟨nd, rfl⟩⟩; refine ⟨_, rfl, ?_⟩))
 go_ret
 exact ⟨by first|rfl|(simp [errW_none, errW_some] <;> rfl)|(simp [*, errW_none, errW_some] <;> rfl), by repeat (first|(with_reducible first|exact HB.out|apply below_alloc|apply pw_below_drewN|apply below_drew1)|exact HB.out)⟩

end Go.Proofs.YtnjmilelifmfpaaGreatDoor.Q

namespace Go.Proofs.YtnjmilelifmfpaaGreatDoor.Q
open Go.RowKit Go.Proofs.YtnjmilelifmfpaaGreatDoorW.PrintWords Go.Proofs.YtnjmilelifmfpaaGreatDoorW.PrintLast Go.Proofs.YtnjmilelifmfpaaGreatDoorW.PrintMore
attribute [local go_sem] max2_int min2_int max_two min_two max_three min_three max_four min_four
set_option linter.unusedVariables false
set_option linter.unusedSimpArgs false

def core_con.f (a0 : ByteArray) : Option (Bool) := (lex_All.f a0).bind fun bt116 => (if (bt116.1.length : Int) = 1 then (if 0 < (bt116.1.length : Int) then (if ((rd_T63 bt116.1 0).f0) = 2 then (some (((rd_T63 bt116.1 0).f1).toList == a0.toList)) else (some false)) else (none)) else (some false))
set_option maxHeartbeats 8000000 in
set_option maxRecDepth 100000 in
theorem core_con.calls (a0 : ByteArray) (r : Bool) (w : World) (h : core_con.f a0 = some r) :
  Calls Tryz.prog 34 #[.string a0] w fun e w' => e = .returned (.bool r) ∧ Below w.heap.size w w' := by
 have HB := Aside0.mk (Below.refl w.heap.size w)
 have H : ((lex_All.f a0).bind fun bt116 => (if (bt116.1.length : Int) = 1 then (if 0 < (bt116.1.length : Int) then (if ((rd_T63 bt116.1 0).f0) = 2 then (some (((rd_T63 bt116.1 0).f1).toList == a0.toList)) else (some false)) else (none)) else (some false))) = some r := h
 clear h
 replace H := Option.bind_eq_some_iff.mp H
 obtain ⟨⟨t116, t117, t118⟩, A20, H⟩ := H
 replace H : (if (t116.length : Int) = 1 then (if 0 < (t116.length : Int) then (if ((rd_T63 t116 0).f0) = 2 then (some (((rd_T63 t116 0).f1).toList == a0.toList)) else (some false)) else (none)) else (some false)) = some r := H
 have A2 := Aside0.mk A20
 clear A20
 by_cases c3 : (t116.length : Int) = 1
 ·rw [if_pos c3] at H
  have c3b0 : ((t116.length : Int) == 1) = true := beq_iff_eq.mpr c3
  have c3b1 : ((t116.length : Int) != 1) = false := bne_eq_false_iff_eq.mpr c3
  clear c3
  by_cases c4 : 0 < (t116.length : Int)
  ·rw [if_pos c4] at H
   have c4b0 : decide (0 < (t116.length : Int)) = true := decide_eq_true c4
   have c4b1 : decide (0 < t116.length) = true := decide_eq_true (by omega)
   clear c4
   by_cases c5 : ((rd_T63 t116 0).f0) = 2
   ·rw [if_pos c5] at H
    have c5b0 : (((rd_T63 t116 0).f0) == 2) = true := beq_iff_eq.mpr c5
    have c5b1 : (((rd_T63 t116 0).f0) != 2) = false := bne_eq_false_iff_eq.mpr c5
    clear c5
    obtain rfl := Option.some.inj H
    go_enter Tryz.func34, Tryz.ntmps34
    go_wp2_with (first|((with_reducible refine gate_callee (f := 54) rfl ?_); refine goesL_ (some 8) rfl rfl Tryz.func54 (by kernel_rfl) rfl #[.string a0] rfl (by (try simp only [List.map_toArray, List.map_cons, List.map_nil]); first|done|rfl|(simp only [List.length_drop, List.length_take]; rfl)) ?_; (with_reducible refine (lex_All.calls a0 t116 t117 t118 _ A2.out).mono ?_); rintro e w6 ⟨v119, rfl, ho0, hb⟩; refine ⟨_, rfl, ?_⟩; have n0_ := Aside0.mk (Kd.R_lower ho0 (below_size (by repeat (first|(with_reducible first|exact HB.out|apply below_alloc|apply pw_below_drewN|apply below_drew1)|exact HB.out)))); have n1_ := Aside0.mk (below_step (by repeat (first|(with_reducible first|exact HB.out|apply below_alloc|apply pw_below_drewN|apply below_drew1)|exact HB.out)) hb); clear HB; have HO120 := n0_; have HB := n1_; clear n0_ n1_; (try clear hb); (try clear hb2); (try clear hk); (try clear hi); (try clear ho0); obtain ⟨Ao7, co7, eo7⟩ := Kd.R_slice HO120.out; subst eo7; have p121 : 0 ≤ (0 : Int) := (by omega); have q121 : 0 < (t116.length : Int) := of_decide_eq_true (by first|(with_reducible assumption) | assumption); obtain ⟨ad121, e121, hx121_0, hx121_1, hx121_2, hx121_3⟩ := at_T63 (Kd.R_reads' HO120.out).2.2 0 p121 q121; cases e121; have qi121 : (0 < t116.length) = True := eq_true (by omega); (try rw [show ((0 : Int)).toNat = 0 from rfl] at hx121_0); (try rw [show 0 * 4 = 0 from rfl] at hx121_0); (try rw [Addr.add_zero'] at hx121_0); (try rw [show ((0 : Int)).toNat = 0 from rfl] at hx121_1); (try rw [show 0 * 4 = 0 from rfl] at hx121_1); (try rw [Addr.add_zero'] at hx121_1); (try rw [show ((0 : Int)).toNat = 0 from rfl] at hx121_2); (try rw [show 0 * 4 = 0 from rfl] at hx121_2); (try rw [Addr.add_zero'] at hx121_2); (try rw [show ((0 : Int)).toNat = 0 from rfl] at hx121_3); (try rw [show 0 * 4 = 0 from rfl] at hx121_3); (try rw [Addr.add_zero'] at hx121_3); replace p121 := eq_true p121; replace q121 := eq_true q121; have p122 : 0 ≤ (0 : Int) := (by omega); have q122 : 0 < (t116.length : Int) := of_decide_eq_true (by first|(with_reducible assumption) | assumption); obtain ⟨ad122, e122, hx122_0, hx122_1, hx122_2, hx122_3⟩ := at_T63 (Kd.R_reads' HO120.out).2.2 0 p122 q122; obtain rfl : ad121 = ad122 := (by injection e122); have qi122 : (0 < t116.length) = True := eq_true (by omega); (try rw [show ((0 : Int)).toNat = 0 from rfl] at hx122_0); (try rw [show 0 * 4 = 0 from rfl] at hx122_0); (try rw [Addr.add_zero'] at hx122_0); (try rw [show ((0 : Int)).toNat = 0 from rfl] at hx122_1); (try rw [show 0 * 4 = 0 from rfl] at hx122_1); (try rw [Addr.add_zero'] at hx122_1); (try rw [show ((0 : Int)).toNat = 0 from rfl] at hx122_2); (try rw [show 0 * 4 = 0 from rfl] at hx122_2); (try rw [Addr.add_zero'] at hx122_2); (try rw [show ((0 : Int)).toNat = 0 from rfl] at hx122_3); (try rw [show 0 * 4 = 0 from rfl] at hx122_3); (try rw [Addr.add_zero'] at hx122_3); replace p122 := eq_true p122; replace q122 := eq_true q122))
    go_ret
    exact ⟨by first|rfl|(simp [errW_none, errW_some] <;> rfl)|(simp [*, errW_none, errW_some] <;> rfl), by repeat (first|(with_reducible first|exact HB.out|apply below_alloc|apply pw_below_drewN|apply below_drew1)|exact HB.out)⟩
   ·rw [if_neg c5] at H
    have c5b0 : (((rd_T63 t116 0).f0) == 2) = false := beq_eq_false_iff_ne.mpr c5
    have c5b1 : (((rd_T63 t116 0).f0) != 2) = true := bne_iff_ne.mpr c5
    obtain rfl := Option.some.inj H
    go_enter Tryz.func34, Tryz.ntmps34
    go_wp2_with (first|((with_reducible refine gate_callee (f := 54) rfl ?_); refine goesL_ (some 8) rfl rfl Tryz.func54 (by kernel_rfl) rfl #[.string a0] rfl (by (try simp only [List.map_toArray, List.map_cons, List.map_nil]); first|done|rfl|(simp only [List.length_drop, List.length_take]; rfl)) ?_; (with_reducible refine (lex_All.calls a0 t116 t117 t118 _ A2.out).mono ?_); rintro e w8 ⟨v119, rfl, ho0, hb⟩; refine ⟨_, rfl, ?_⟩; have n0_ := Aside0.mk (Kd.R_lower ho0 (below_size (by repeat (first|(with_reducible first|exact HB.out|apply below_alloc|apply pw_below_drewN|apply below_drew1)|exact HB.out)))); have n1_ := Aside0.mk (below_step (by repeat (first|(with_reducible first|exact HB.out|apply below_alloc|apply pw_below_drewN|apply below_drew1)|exact HB.out)) hb); clear HB; have HO120 := n0_; have HB := n1_; clear n0_ n1_; (try clear hb); (try clear hb2); (try clear hk); (try clear hi); (try clear ho0); obtain ⟨Ao9, co9, eo9⟩ := Kd.R_slice HO120.out; subst eo9; have p121 : 0 ≤ (0 : Int) := (by omega); have q121 : 0 < (t116.length : Int) := of_decide_eq_true (by first|(with_reducible assumption) | assumption); obtain ⟨ad121, e121, hx121_0, hx121_1, hx121_2, hx121_3⟩ := at_T63 (Kd.R_reads' HO120.out).2.2 0 p121 q121; cases e121; have qi121 : (0 < t116.length) = True := eq_true (by omega); (try rw [show ((0 : Int)).toNat = 0 from rfl] at hx121_0); (try rw [show 0 * 4 = 0 from rfl] at hx121_0); (try rw [Addr.add_zero'] at hx121_0); (try rw [show ((0 : Int)).toNat = 0 from rfl] at hx121_1); (try rw [show 0 * 4 = 0 from rfl] at hx121_1); (try rw [Addr.add_zero'] at hx121_1); (try rw [show ((0 : Int)).toNat = 0 from rfl] at hx121_2); (try rw [show 0 * 4 = 0 from rfl] at hx121_2); (try rw [Addr.add_zero'] at hx121_2); (try rw [show ((0 : Int)).toNat = 0 from rfl] at hx121_3); (try rw [show 0 * 4 = 0 from rfl] at hx121_3); (try rw [Addr.add_zero'] at hx121_3); replace p121 := eq_true p121; replace q121 := eq_true q121))
    go_ret
    exact ⟨by first|rfl|(simp [errW_none, errW_some] <;> rfl)|(simp [*, errW_none, errW_some] <;> rfl), by repeat (first|(with_reducible first|exact HB.out|apply below_alloc|apply pw_below_drewN|apply below_drew1)|exact HB.out)⟩
  ·rw [if_neg c4] at H
   exact absurd H (by simp)
 ·rw [if_neg c3] at H
  have c3b0 : ((t116.length : Int) == 1) = false := beq_eq_false_iff_ne.mpr c3
  have c3b1 : ((t116.length : Int) != 1) = true := bne_iff_ne.mpr c3
  obtain rfl := Option.some.inj H
  go_enter Tryz.func34, Tryz.ntmps34
  go_wp2_with (first|((with_reducible refine gate_callee (f := 54) rfl ?_); refine goesL_ (some 8) rfl rfl Tryz.func54 (by kernel_rfl) rfl #[.string a0] rfl (by (try simp only [List.map_toArray, List.map_cons, List.map_nil]); first|done|rfl|(simp only [List.length_drop, List.length_take]; rfl)) ?_; (with_reducible refine (lex_All.calls a0 t116 t117 t118 _ A2.out).mono ?_); rintro e w10 ⟨v119, rfl, ho0, hb⟩; refine ⟨_, rfl, ?_⟩; have n0_ := Aside0.mk (Kd.R_lower ho0 (below_size (by repeat (first|(with_reducible first|exact HB.out|apply below_alloc|apply pw_below_drewN|apply below_drew1)|exact HB.out)))); have n1_ := Aside0.mk (below_step (by repeat (first|(with_reducible first|exact HB.out|apply below_alloc|apply pw_below_drewN|apply below_drew1)|exact HB.out)) hb); clear HB; have HO120 := n0_; have HB := n1_; clear n0_ n1_; (try clear hb); (try clear hb2); (try clear hk); (try clear hi); (try clear ho0); obtain ⟨Ao11, co11, eo11⟩ := Kd.R_slice HO120.out; subst eo11))
  go_ret
  exact ⟨by first|rfl|(simp [errW_none, errW_some] <;> rfl)|(simp [*, errW_none, errW_some] <;> rfl), by repeat (first|(with_reducible first|exact HB.out|apply below_alloc|apply pw_below_drewN|apply below_drew1)|exact HB.out)⟩

end Go.Proofs.YtnjmilelifmfpaaGreatDoor.Q

/- The walks of slices.IndexFunc and slices.ContainsFunc on terms, for whatever function tells a Bool of an element. -/
namespace Go.Proofs.YtnjmilelifmfpaaGreatDoor.HCoreC
open Go Go.RowKit Go.Lib Go.Proofs Go.Proofs.YtnjmilelifmfpaaGreatDoorW.PrintWords Go.Proofs.YtnjmilelifmfpaaGreatDoorW.PrintLast Go.Proofs.YtnjmilelifmfpaaGreatDoorW.PrintMore Go.Proofs.YtnjmilelifmfpaaGreatDoor.Q Go.Proofs.YtnjmilelifmfpaaGreatDoor.HCore
set_option linter.unusedVariables false
set_option linter.unusedSimpArgs false
end Go.Proofs.YtnjmilelifmfpaaGreatDoor.HCoreC

namespace Go.Proofs.YtnjmilelifmfpaaGreatDoor.Pure
open Go Go.RowKit Go.Lib Go.Proofs Go.Proofs.YtnjmilelifmfpaaGreatDoor.Q Go.Proofs.YtnjmilelifmfpaaGreatDoorW.PrintWords Go.Proofs.YtnjmilelifmfpaaGreatDoorW.PrintLast Go.Proofs.YtnjmilelifmfpaaGreatDoorW.PrintMore
open HCoreC HCore
namespace CoreCon
set_option linter.unusedVariables false
set_option linter.unusedSimpArgs false
theorem oper_is (s : ByteArray) : core_operator.f 9 s = some (oper s) := by
 unfold core_operator.f slices_Contains_string_string.f slices_Index_string_string.f
 simp only [slices_Index_string_string.l0, Lib.toList_data, rdOf]
 have w1 : wrap64 1 = 1 := by simp [wrap64]
 have w2 : wrap64 2 = 2 := by simp [wrap64]
 have w3 : wrap64 3 = 3 := by simp [wrap64]
 have w4 : wrap64 4 = 4 := by simp [wrap64]
 have w5 : wrap64 5 = 5 := by simp [wrap64]
 have w6 : wrap64 6 = 6 := by simp [wrap64]
 unfold oper
 by_cases h1 : s.data.toList = [43]
 ·simp [h1]
 by_cases h2 : s.data.toList = [45]
 ·simp [h2, w1]
 by_cases h3 : s.data.toList = [42]
 ·simp [h3, w1, w2]
 by_cases h4 : s.data.toList = [47]
 ·simp [h4, w1, w2, w3]
 by_cases h5 : s.data.toList = [60]
 ·simp [h5, w1, w2, w3, w4]
 by_cases h6 : s.data.toList = [61, 61]
 ·simp [h6, w1, w2, w3, w4, w5]
 simp [h1, h2, h3, h4, h5, h6, w1, w2, w3, w4, w5, w6]
theorem con_is (s : ByteArray) (hs : s.size ≤ 1000000000) : core_con.f s = some (con s) := by
 unfold core_con.f lex_All.f con
 rw [if_pos (by omega)]
 cases h : HLex.lex s.data.toList with
 | error x => obtain ⟨p, er⟩ := x; simp
 | ok ts =>
  match ts with
  | [] => simp
  | [t] =>
   simp only [Option.bind_some, List.map_cons, List.map_nil, List.length_cons, List.length_nil]
   have e0 : rd_T63 [HLexC.toS t] 0 = HLexC.toS t := rfl
   rw [e0]
   simp only [HLexC.toS, Lib.toList_data, List.toList_toArray]
   by_cases h2 : t.kind = 2
   ·have : (t.kind : Int) = 2 := by omega
    rw [if_pos (by decide), if_pos (by decide), if_pos this]
    by_cases h3 : t.text = s.data.toList <;> simp [h2, h3]
   ·have : ¬ (t.kind : Int) = 2 := by omega
    rw [if_pos (by decide), if_pos (by decide), if_neg this]
    simp [h2]
  | t :: u :: r =>
   have : ¬ (((List.map HLexC.toS (t :: u :: r)).length : Int) = 1) := by simp; omega
   simp only [Option.bind_some]
   rw [if_neg this]
end CoreCon
end Go.Proofs.YtnjmilelifmfpaaGreatDoor.Pure

namespace Go.Proofs.YtnjmilelifmfpaaGreatDoor.Ev
open Go Go.RowKit
def c3 : ACode := (.seq (.reg [b 2 (.box (T 0)), b 4 (.mv (B false))]) (.seq (.seq (.reg [b 15 (.ld true 4 (T 2)), b 16 (.call 9 [(T 15), (I 300)]), b 17 (.sc (.un .not) [(T 16)]), b 18 (.mv (T 17)), bg 19 18 false (.ld true 4 (T 2)), bg 20 18 false (.call 10 [(T 19)]), bg 21 18 false (.sc (.bin .gtr 3) [(T 20), (I 300)]), b 22 (.pick (T 18) (B true) (T 21)), b 23 (.mv (T 22)), bg 24 23 false (.mv (T 1)), bg 25 23 false (.sc (.bin .gtr 3) [(T 24), (I 100)]), bg 26 23 false (.mv (T 25)), bg 27 26 true (.mv (T 1)), bg 28 26 true (.sc (.bin .leq 3) [(T 27), (I 100000)]), bg 29 23 false (.pick (T 26) (T 28) (B false)), b 30 (.pick (T 23) (B true) (T 29))]) (.cond (T 30) (.seq (.reg [b 31 (.call 11 []), b 4 (.mv (T 31))]) .ret) .skip)) (.seq (.reg [b 33 (.ld true 4 (T 2)), b 34 (.call 12 [(T 33)]), b 32 (.mv (T 34)), b 35 (.ex (T 32) 0), b 36 (.ex (T 32) 1), b 5 (.alloc [(.int .i64 0), (.int .i64 0), (.string ⟨#[]⟩), (.slice none 0 0)]), b0 (.st 4 (T 5) (T 35)), b 6 (.mv (T 36))]) (.seq (.reg [b 38 (.ld true 4 (T 2)), b 39 (.call 13 [(T 38)]), b 37 (.mv (T 39)), b 40 (.ex (T 37) 0), b 41 (.ex (T 37) 1), b 7 (.alloc [(.int .i64 0), (.int .i64 0), (.string ⟨#[]⟩), (.slice none 0 0)]), b0 (.st 4 (T 7) (T 40)), b 8 (.mv (T 41))]) (.seq (.reg [b 43 (.ld true 4 (T 2)), b 44 (.mv (T 1)), b 45 (.call 14 [(T 43), (T 44)]), b 42 (.mv (T 45)), b 46 (.ex (T 42) 0), b 47 (.ex (T 42) 1), b 48 (.ex (T 42) 2), b 9 (.alloc [(.int .i64 0), (.int .i64 0), (.string ⟨#[]⟩), (.slice none 0 0)]), b0 (.st 4 (T 9) (T 46)), b 10 (.mv (T 47)), b 11 (.mv (T 48))]) (.seq (.reg [b 50 (.ld true 4 (T 2)), b 51 (.mv (T 1)), b 52 (.call 15 [(T 50), (T 51)]), b 49 (.mv (T 52)), b 53 (.ex (T 49) 0), b 54 (.ex (T 49) 1), b 55 (.ex (T 49) 2), b 12 (.alloc [(.int .i64 0), (.int .i64 0), (.string ⟨#[]⟩), (.slice none 0 0)]), b0 (.st 4 (T 12) (T 53)), b 13 (.mv (T 54)), b 14 (.mv (T 55))]) (.seq (.reg [b 56 (.call 11 []), b 57 (.mv (T 56)), bg 58 57 true (.ld true 4 (T 5)), bg 59 57 true (.ld true 4 (T 7)), bg 60 57 true (.call 16 [(T 58), (T 59)]), b 61 (.pick (T 57) (T 60) (B false)), b 62 (.mv (T 61)), bg 63 62 true (.mv (T 6)), bg 64 62 true (.mv (T 8)), bg 65 62 true (.sc (.bin .eql 3) [(T 63), (T 64)]), b 66 (.pick (T 62) (T 65) (B false)), b 67 (.mv (T 66)), bg 68 67 true (.ld true 4 (T 9)), bg 69 67 true (.ld true 4 (T 12)), bg 70 67 true (.call 16 [(T 68), (T 69)]), b 71 (.pick (T 67) (T 70) (B false)), b 72 (.mv (T 71)), bg 73 72 true (.mv (T 10)), bg 74 72 true (.mv (T 13)), bg 75 72 true (.sc (.bin .eql 3) [(T 73), (T 74)]), b 76 (.pick (T 72) (T 75) (B false)), b 77 (.mv (T 76)), bg 78 77 true (.mv (T 11)), bg 79 77 true (.mv (T 14)), bg 80 77 true (.sc (.bin .eql 30) [(T 78), (T 79)]), b 81 (.pick (T 77) (T 80) (B false)), b 4 (.mv (T 81))]) .ret)))))))
theorem k3 : ∃ code, Tryz.prog.funcs[3]? = some Tryz.f3 ∧ Tryz.f3.body = some code ∧ comp Tryz.prog Tryz.f3.ntmps code = some c3 ∧ rvs Tryz.prog Tryz.f3.results.toList = some [(.t 4)] := ⟨_, Tryz.func3, rfl, by kernel_rfl, by kernel_rfl⟩
def c4 : ACode := (.seq (.reg [b 2 (.box (T 0)), b 4 (.mv (B false))]) (.seq (.seq (.reg [b 18 (.call 11 []), b 19 (.sc (.un .not) [(T 18)]), b 20 (.mv (T 19)), bg 21 20 false (.ld true 4 (T 2)), bg 22 20 false (.call 9 [(T 21), (I 200)]), bg 23 20 false (.sc (.un .not) [(T 22)]), b 24 (.pick (T 20) (B true) (T 23)), b 25 (.mv (T 24)), bg 26 25 false (.ld true 4 (T 2)), bg 27 25 false (.call 10 [(T 26)]), bg 28 25 false (.sc (.bin .gtr 3) [(T 27), (I 300)]), b 29 (.pick (T 25) (B true) (T 28)), b 30 (.mv (T 29)), bg 31 30 false (.ld true 4 (T 2)), bg 32 30 false (.call 17 [(T 31), (I 0)]), bg 33 30 false (.sc (.un .not) [(T 32)]), b 34 (.pick (T 30) (B true) (T 33)), b 35 (.mv (T 34)), bg 36 35 false (.mv (T 1)), bg 37 35 false (.sc (.bin .lss 3) [(T 36), (I 0)]), b 38 (.pick (T 35) (B true) (T 37)), b 39 (.mv (T 38)), bg 40 39 false (.mv (T 1)), bg 41 39 false (.sc (.bin .gtr 3) [(T 40), (I 60)]), b 42 (.pick (T 39) (B true) (T 41))]) (.cond (T 42) (.seq (.reg [b 43 (.call 11 []), b 4 (.mv (T 43))]) .ret) .skip)) (.seq (.reg [b 45 (.ld true 4 (T 2)), b 46 (.call 14 [(T 45), (I 60)]), b 44 (.mv (T 46)), b 47 (.ex (T 44) 0), b 48 (.ex (T 44) 1), b 49 (.ex (T 44) 2), b 5 (.alloc [(.int .i64 0), (.int .i64 0), (.string ⟨#[]⟩), (.slice none 0 0)]), b0 (.st 4 (T 5) (T 47)), b 6 (.mv (T 48)), b 7 (.mv (T 49))]) (.seq (.reg [b 50 (.ld true 4 (T 2)), b 8 (.alloc [(.int .i64 0), (.int .i64 0), (.string ⟨#[]⟩), (.slice none 0 0)]), b0 (.st 4 (T 8) (T 50))]) (.seq (.seq (.reg [b 9 (.mv (I 0))]) (.block 0 (.loop (.seq (.seq (.reg [b 51 (.mv (T 9)), b 52 (.mv (T 1)), b 53 (.sc (.bin .lss 3) [(T 51), (T 52)]), b 54 (.mv (T 53)), bg 55 54 true (.mv (T 9)), bg 56 54 true (.mv (T 6)), bg 57 54 true (.sc (.bin .lss 3) [(T 55), (T 56)]), b 58 (.pick (T 54) (T 57) (B false))]) (.cond (T 58) .skip (.exit 0))) (.seq (.block 1 (.seq (.reg [b 62 (.ld true 4 (T 8)), b 63 (.call 12 [(T 62)]), b 61 (.mv (T 63)), b 64 (.ex (T 61) 0), b 65 (.ex (T 61) 1), b 10 (.alloc [(.int .i64 0), (.int .i64 0), (.string ⟨#[]⟩), (.slice none 0 0)]), b0 (.st 4 (T 10) (T 64)), b 11 (.mv (T 65))]) (.seq (.seq (.reg [b 66 (.mv (T 11)), b 67 (.sc (.bin .eql 3) [(T 66), (I 0)]), b 68 (.mv (T 67)), bg 69 68 false (.ld true 4 (T 10)), bg 70 68 false (.call 17 [(T 69), (I 0)]), bg 71 68 false (.sc (.un .not) [(T 70)]), b 72 (.pick (T 68) (B true) (T 71))]) (.cond (T 72) (.seq (.reg [b 4 (.mv (B false))]) .ret) .skip)) (.reg [b 73 (.ld true 4 (T 10)), b0 (.st 4 (T 8) (T 73))])))) (.reg [b 59 (.mv (T 9)), b 60 (.sc (.bin .add 3) [(T 59), (I 1)]), b 9 (.mv (T 60))])))))) (.seq (.seq (.reg [b 74 (.mv (T 7)), b 75 (.sc (.bin .neq 30) [(T 74), (I 0)])]) (.cond (T 75) (.seq (.reg [b 76 (.mv (T 7)), b 77 (.sc (.bin .eql 30) [(T 76), (I 90)]), b 78 (.mv (T 77)), bg 79 78 false (.mv (T 7)), bg 80 78 false (.sc (.bin .eql 30) [(T 79), (I 91)]), b 81 (.pick (T 78) (B true) (T 80)), b 82 (.mv (T 81)), bg 83 82 true (.mv (T 6)), bg 84 82 true (.sc (.bin .leq 3) [(T 83), (I 60)]), b 85 (.pick (T 82) (T 84) (B false)), b 4 (.mv (T 85))]) .ret) .skip)) (.seq (.reg [b 87 (.ld true 4 (T 8)), b 88 (.call 14 [(T 87), (I 60)]), b 86 (.mv (T 88)), b 89 (.ex (T 86) 0), b 90 (.ex (T 86) 1), b 91 (.ex (T 86) 2), b 12 (.alloc [(.int .i64 0), (.int .i64 0), (.string ⟨#[]⟩), (.slice none 0 0)]), b0 (.st 4 (T 12) (T 89)), b 13 (.mv (T 90)), b 14 (.mv (T 91))]) (.seq (.reg [b 93 (.ld true 4 (T 5)), b 94 (.call 12 [(T 93)]), b 92 (.mv (T 94)), b 95 (.ex (T 92) 0), b 96 (.ex (T 92) 1), b 15 (.alloc [(.int .i64 0), (.int .i64 0), (.string ⟨#[]⟩), (.slice none 0 0)]), b0 (.st 4 (T 15) (T 95)), b 16 (.mv (T 96))]) (.seq (.reg [b 97 (.fa 0 (T 5)), b 98 (.ld false 1 (T 97)), b 99 (.sc (.bin .eql 3) [(T 98), (I 2)]), b 100 (.mv (T 99)), bg 101 100 false (.fa 0 (T 5)), bg 102 100 false (.ld false 1 (T 101)), bg 103 100 false (.sc (.bin .eql 3) [(T 102), (I 4)]), b 104 (.pick (T 100) (B true) (T 103)), b 105 (.mv (T 104)), bg 106 105 false (.fa 0 (T 5)), bg 107 105 false (.ld false 1 (T 106)), bg 108 105 false (.sc (.bin .eql 3) [(T 107), (I 7)]), b 109 (.pick (T 105) (B true) (T 108)), b 110 (.mv (T 109)), bg 111 110 false (.fa 0 (T 5)), bg 112 110 false (.ld false 1 (T 111)), bg 113 110 false (.sc (.bin .eql 3) [(T 112), (I 9)]), b 114 (.pick (T 110) (B true) (T 113)), b 17 (.mv (T 114))]) (.seq (.reg [b 115 (.mv (T 14)), b 116 (.sc (.bin .eql 30) [(T 115), (I 0)]), b 117 (.mv (T 116)), bg 118 117 true (.ld true 4 (T 5)), bg 119 117 true (.ld true 4 (T 12)), bg 120 117 true (.call 16 [(T 118), (T 119)]), b 121 (.pick (T 117) (T 120) (B false)), b 122 (.mv (T 121)), bg 123 122 true (.mv (T 13)), bg 124 122 true (.mv (T 6)), bg 125 122 true (.mv (T 1)), bg 126 122 true (.mv (T 6)), bg 127 122 true (.sc (.bi .min [3, 3] 3) [(T 125), (T 126)]), bg 128 122 true (.sc (.bin .sub 3) [(T 124), (T 127)]), bg 129 122 true (.sc (.bin .eql 3) [(T 123), (T 128)]), b 130 (.pick (T 122) (T 129) (B false)), b 131 (.mv (T 130)), bg 132 131 true (.mv (T 16)), bg 133 131 true (.sc (.bin .eql 3) [(T 132), (I 0)]), b 134 (.pick (T 131) (T 133) (B false)), b 135 (.mv (T 134)), bg 136 135 true (.mv (T 17)), b 137 (.pick (T 135) (T 136) (B false)), b 138 (.mv (T 137)), bg 139 138 true (.ld true 4 (T 5)), bg 140 138 true (.call 17 [(T 139), (I 0)]), b 141 (.pick (T 138) (T 140) (B false)), b 4 (.mv (T 141))]) .ret))))))))))
theorem k4 : ∃ code, Tryz.prog.funcs[4]? = some Tryz.f4 ∧ Tryz.f4.body = some code ∧ comp Tryz.prog Tryz.f4.ntmps code = some c4 ∧ rvs Tryz.prog Tryz.f4.results.toList = some [(.t 4)] := ⟨_, Tryz.func4, rfl, by kernel_rfl, by kernel_rfl⟩
def c5 : ACode := (.seq (.reg [b 2 (.box (T 0)), b 4 (.mv (B false))]) (.seq (.seq (.reg [b 11 (.call 11 []), b 12 (.sc (.un .not) [(T 11)]), b 13 (.mv (T 12)), bg 14 13 false (.ld true 4 (T 2)), bg 15 13 false (.call 9 [(T 14), (I 200)]), bg 16 13 false (.sc (.un .not) [(T 15)]), b 17 (.pick (T 13) (B true) (T 16)), b 18 (.mv (T 17)), bg 19 18 false (.ld true 4 (T 2)), bg 20 18 false (.call 10 [(T 19)]), bg 21 18 false (.sc (.bin .gtr 3) [(T 20), (I 300)]), b 22 (.pick (T 18) (B true) (T 21)), b 23 (.mv (T 22)), bg 24 23 false (.ld true 4 (T 2)), bg 25 23 false (.call 17 [(T 24), (I 0)]), bg 26 23 false (.sc (.un .not) [(T 25)]), b 27 (.pick (T 23) (B true) (T 26)), b 28 (.mv (T 27)), bg 29 28 false (.mv (T 1)), bg 30 28 false (.sc (.bin .lss 3) [(T 29), (I 0)]), b 31 (.pick (T 28) (B true) (T 30)), b 32 (.mv (T 31)), bg 33 32 false (.mv (T 1)), bg 34 32 false (.sc (.bin .gtr 3) [(T 33), (I 60)]), b 35 (.pick (T 32) (B true) (T 34))]) (.cond (T 35) (.seq (.reg [b 36 (.call 11 []), b 4 (.mv (T 36))]) .ret) .skip)) (.seq (.reg [b 38 (.ld true 4 (T 2)), b 39 (.call 14 [(T 38), (I 60)]), b 37 (.mv (T 39)), b 40 (.ex (T 37) 0), b 41 (.ex (T 37) 1), b 42 (.ex (T 37) 2), b 5 (.alloc [(.int .i64 0), (.int .i64 0), (.string ⟨#[]⟩), (.slice none 0 0)]), b0 (.st 4 (T 5) (T 40)), b 6 (.mv (T 41)), b 7 (.mv (T 42))]) (.seq (.reg [b 44 (.ld true 4 (T 2)), b 45 (.mv (T 1)), b 46 (.call 14 [(T 44), (T 45)]), b 43 (.mv (T 46)), b 47 (.ex (T 43) 0), b 48 (.ex (T 43) 1), b 49 (.ex (T 43) 2), b 8 (.alloc [(.int .i64 0), (.int .i64 0), (.string ⟨#[]⟩), (.slice none 0 0)]), b0 (.st 4 (T 8) (T 47)), b 9 (.mv (T 48)), b 10 (.mv (T 49))]) (.seq (.seq (.reg [b 50 (.mv (T 7)), b 51 (.sc (.bin .eql 30) [(T 50), (I 0)]), b 52 (.mv (T 51)), bg 53 52 true (.mv (T 1)), bg 54 52 true (.mv (T 6)), bg 55 52 true (.sc (.bin .geq 3) [(T 53), (T 54)]), b 56 (.pick (T 52) (T 55) (B false))]) (.cond (T 56) (.seq (.reg [b 57 (.mv (T 10)), b 58 (.sc (.bin .eql 30) [(T 57), (I 0)]), b 59 (.mv (T 58)), bg 60 59 true (.mv (T 9)), bg 61 59 true (.mv (T 6)), bg 62 59 true (.sc (.bin .eql 3) [(T 60), (T 61)]), b 63 (.pick (T 59) (T 62) (B false)), b 64 (.mv (T 63)), bg 65 64 true (.ld true 4 (T 5)), bg 66 64 true (.ld true 4 (T 8)), bg 67 64 true (.call 16 [(T 65), (T 66)]), b 68 (.pick (T 64) (T 67) (B false)), b 4 (.mv (T 68))]) .ret) .skip)) (.seq (.reg [b 69 (.mv (T 10)), b 70 (.sc (.bin .neq 30) [(T 69), (I 0)]), b 71 (.mv (T 70)), bg 72 71 true (.mv (T 9)), bg 73 71 true (.mv (T 1)), bg 74 71 true (.sc (.bin .leq 3) [(T 72), (T 73)]), b 75 (.pick (T 71) (T 74) (B false)), b 76 (.mv (T 75)), bg 77 76 true (.ld true 4 (T 8)), bg 78 76 true (.bld [(.int .i64 0), (.int .i64 0), (.string ⟨#[]⟩), (.slice none 0 0)] []), bg 79 76 true (.call 16 [(T 77), (T 78)]), b 80 (.pick (T 76) (T 79) (B false)), b 81 (.mv (T 80)), bg 82 81 true (.mv (T 10)), bg 83 81 true (.sc (.bin .neq 30) [(T 82), (I 90)]), bg 84 81 true (.mv (T 83)), bg 85 84 false (.mv (T 9)), bg 86 84 false (.mv (T 1)), bg 87 84 false (.sc (.bin .eql 3) [(T 85), (T 86)]), bg 88 81 true (.pick (T 84) (B true) (T 87)), b 89 (.pick (T 81) (T 88) (B false)), b 4 (.mv (T 89))]) .ret))))))
theorem k5 : ∃ code, Tryz.prog.funcs[5]? = some Tryz.f5 ∧ Tryz.f5.body = some code ∧ comp Tryz.prog Tryz.f5.ntmps code = some c5 ∧ rvs Tryz.prog Tryz.f5.results.toList = some [(.t 4)] := ⟨_, Tryz.func5, rfl, by kernel_rfl, by kernel_rfl⟩
def c6 : ACode := (.seq (.reg [b 2 (.box (T 0)), b 3 (.box (T 1)), b 4 (.mv (B false))]) (.seq (.seq (.reg [b 15 (.call 11 []), b 16 (.sc (.un .not) [(T 15)]), b 17 (.mv (T 16)), bg 18 17 false (.ld true 4 (T 2)), bg 19 17 false (.call 9 [(T 18), (I 100)]), bg 20 17 false (.sc (.un .not) [(T 19)]), b 21 (.pick (T 17) (B true) (T 20)), b 22 (.mv (T 21)), bg 23 22 false (.ld true 4 (T 2)), bg 24 22 false (.call 10 [(T 23)]), bg 25 22 false (.sc (.bin .gtr 3) [(T 24), (I 300)]), b 26 (.pick (T 22) (B true) (T 25)), b 27 (.mv (T 26)), bg 28 27 false (.ld true 4 (T 3)), bg 29 27 false (.call 9 [(T 28), (I 100)]), bg 30 27 false (.sc (.un .not) [(T 29)]), b 31 (.pick (T 27) (B true) (T 30)), b 32 (.mv (T 31)), bg 33 32 false (.ld true 4 (T 3)), bg 34 32 false (.call 10 [(T 33)]), bg 35 32 false (.sc (.bin .gtr 3) [(T 34), (I 300)]), b 36 (.pick (T 32) (B true) (T 35)), b 37 (.mv (T 36)), bg 38 37 false (.ld true 4 (T 2)), bg 39 37 false (.call 17 [(T 38), (I 0)]), bg 40 37 false (.sc (.un .not) [(T 39)]), b 41 (.pick (T 37) (B true) (T 40)), b 42 (.mv (T 41)), bg 43 42 false (.ld true 4 (T 3)), bg 44 42 false (.call 17 [(T 43), (I 0)]), bg 45 42 false (.sc (.un .not) [(T 44)]), b 46 (.pick (T 42) (B true) (T 45))]) (.cond (T 46) (.seq (.reg [b 47 (.call 11 []), b 4 (.mv (T 47))]) .ret) .skip)) (.seq (.reg [b 48 (.ld true 4 (T 2)), b 49 (.ld true 4 (T 3)), b 50 (.bs 24 4 [(T 48), (T 49)]), b 51 (.bld [(.int .i64 0), (.int .i64 0), (.string ⟨#[]⟩), (.slice none 0 0)] [(0, (1, (I 4))), (2, (1, (S [80]))), (3, (1, (T 50)))]), b 5 (.alloc [(.int .i64 0), (.int .i64 0), (.string ⟨#[]⟩), (.slice none 0 0)]), b0 (.st 4 (T 5) (T 51))]) (.seq (.reg [b 52 (.ld true 4 (T 5)), b 53 (.bld [(.int .i64 0), (.int .i64 0), (.string ⟨#[]⟩), (.slice none 0 0)] [(0, (1, (I 1))), (1, (1, (I 1)))]), b 54 (.bs 24 4 [(T 53)]), b 55 (.bld [(.int .i64 0), (.int .i64 0), (.string ⟨#[]⟩), (.slice none 0 0)] [(0, (1, (I 6))), (2, (1, (S [80]))), (1, (1, (I 2))), (3, (1, (T 54)))]), b 56 (.bs 24 4 [(T 52), (T 55)]), b 57 (.bld [(.int .i64 0), (.int .i64 0), (.string ⟨#[]⟩), (.slice none 0 0)] [(0, (1, (I 5))), (3, (1, (T 56)))]), b 6 (.alloc [(.int .i64 0), (.int .i64 0), (.string ⟨#[]⟩), (.slice none 0 0)]), b0 (.st 4 (T 6) (T 57))]) (.seq (.reg [b 58 (.ld true 4 (T 2)), b 59 (.bs 24 4 [(T 58)]), b 60 (.bld [(.int .i64 0), (.int .i64 0), (.string ⟨#[]⟩), (.slice none 0 0)] [(0, (1, (I 2))), (3, (1, (T 59)))]), b 61 (.ld true 4 (T 3)), b 62 (.bs 24 4 [(T 60), (T 61)]), b 63 (.bld [(.int .i64 0), (.int .i64 0), (.string ⟨#[]⟩), (.slice none 0 0)] [(0, (1, (I 3))), (3, (1, (T 62)))]), b 7 (.alloc [(.int .i64 0), (.int .i64 0), (.string ⟨#[]⟩), (.slice none 0 0)]), b0 (.st 4 (T 7) (T 63))]) (.seq (.reg [b 65 (.ld true 4 (T 5)), b 66 (.call 14 [(T 65), (I 0)]), b 64 (.mv (T 66)), b 67 (.ex (T 64) 0), b 68 (.ex (T 64) 1), b 69 (.ex (T 64) 2), b 8 (.alloc [(.int .i64 0), (.int .i64 0), (.string ⟨#[]⟩), (.slice none 0 0)]), b0 (.st 4 (T 8) (T 67)), b 9 (.mv (T 68)), b 10 (.mv (T 69))]) (.seq (.reg [b 71 (.ld true 4 (T 6)), b 72 (.call 12 [(T 71)]), b 70 (.mv (T 72)), b 73 (.ex (T 70) 0), b 74 (.ex (T 70) 1), b 11 (.alloc [(.int .i64 0), (.int .i64 0), (.string ⟨#[]⟩), (.slice none 0 0)]), b0 (.st 4 (T 11) (T 73)), b 12 (.mv (T 74))]) (.seq (.reg [b 76 (.ld true 4 (T 7)), b 77 (.call 12 [(T 76)]), b 75 (.mv (T 77)), b 78 (.ex (T 75) 0), b 79 (.ex (T 75) 1), b 13 (.alloc [(.int .i64 0), (.int .i64 0), (.string ⟨#[]⟩), (.slice none 0 0)]), b0 (.st 4 (T 13) (T 78)), b 14 (.mv (T 79))]) (.seq (.reg [b 80 (.mv (T 10)), b 81 (.sc (.bin .eql 30) [(T 80), (I 0)]), b 82 (.mv (T 81)), bg 83 82 true (.mv (T 9)), bg 84 82 true (.sc (.bin .eql 3) [(T 83), (I 0)]), b 85 (.pick (T 82) (T 84) (B false)), b 86 (.mv (T 85)), bg 87 86 true (.ld true 4 (T 8)), bg 88 86 true (.ld true 4 (T 5)), bg 89 86 true (.call 16 [(T 87), (T 88)]), b 90 (.pick (T 86) (T 89) (B false)), b 91 (.mv (T 90)), bg 92 91 true (.mv (T 12)), bg 93 91 true (.sc (.bin .eql 3) [(T 92), (I 2)]), b 94 (.pick (T 91) (T 93) (B false)), b 95 (.mv (T 94)), bg 96 95 true (.ld true 4 (T 11)), bg 97 95 true (.ld true 4 (T 2)), bg 98 95 true (.call 16 [(T 96), (T 97)]), b 99 (.pick (T 95) (T 98) (B false)), b 100 (.mv (T 99)), bg 101 100 true (.mv (T 14)), bg 102 100 true (.sc (.bin .eql 3) [(T 101), (I 1)]), b 103 (.pick (T 100) (T 102) (B false)), b 104 (.mv (T 103)), bg 105 104 true (.ld true 4 (T 13)), bg 106 104 true (.ld true 4 (T 2)), bg 107 104 true (.call 16 [(T 105), (T 106)]), b 108 (.pick (T 104) (T 107) (B false)), b 4 (.mv (T 108))]) .ret)))))))))
theorem k6 : ∃ code, Tryz.prog.funcs[6]? = some Tryz.f6 ∧ Tryz.f6.body = some code ∧ comp Tryz.prog Tryz.f6.ntmps code = some c6 ∧ rvs Tryz.prog Tryz.f6.results.toList = some [(.t 4)] := ⟨_, Tryz.func6, rfl, by kernel_rfl, by kernel_rfl⟩
def c7 : ACode := (.seq (.reg [b 2 (.box (T 0)), b 3 (.box (T 1)), b 4 (.mv (B false))]) (.seq (.seq (.reg [b 14 (.call 11 []), b 15 (.sc (.un .not) [(T 14)]), b 16 (.mv (T 15)), bg 17 16 false (.ld true 4 (T 2)), bg 18 16 false (.call 9 [(T 17), (I 100)]), bg 19 16 false (.sc (.un .not) [(T 18)]), b 20 (.pick (T 16) (B true) (T 19)), b 21 (.mv (T 20)), bg 22 21 false (.ld true 4 (T 2)), bg 23 21 false (.call 10 [(T 22)]), bg 24 21 false (.sc (.bin .gtr 3) [(T 23), (I 200)]), b 25 (.pick (T 21) (B true) (T 24)), b 26 (.mv (T 25)), bg 27 26 false (.ld true 4 (T 3)), bg 28 26 false (.call 9 [(T 27), (I 100)]), bg 29 26 false (.sc (.un .not) [(T 28)]), b 30 (.pick (T 26) (B true) (T 29)), b 31 (.mv (T 30)), bg 32 31 false (.ld true 4 (T 3)), bg 33 31 false (.call 10 [(T 32)]), bg 34 31 false (.sc (.bin .gtr 3) [(T 33), (I 200)]), b 35 (.pick (T 31) (B true) (T 34)), b 36 (.mv (T 35)), bg 37 36 false (.ld true 4 (T 2)), bg 38 36 false (.call 17 [(T 37), (I 0)]), bg 39 36 false (.sc (.un .not) [(T 38)]), b 40 (.pick (T 36) (B true) (T 39)), b 41 (.mv (T 40)), bg 42 41 false (.ld true 4 (T 3)), bg 43 41 false (.call 17 [(T 42), (I 0)]), bg 44 41 false (.sc (.un .not) [(T 43)]), b 45 (.pick (T 41) (B true) (T 44))]) (.cond (T 45) (.seq (.reg [b 46 (.call 11 []), b 4 (.mv (T 46))]) .ret) .skip)) (.seq (.reg [b 48 (.ld true 4 (T 2)), b 49 (.call 12 [(T 48)]), b 47 (.mv (T 49)), b 50 (.ex (T 47) 0), b 51 (.ex (T 47) 1), b 5 (.alloc [(.int .i64 0), (.int .i64 0), (.string ⟨#[]⟩), (.slice none 0 0)]), b0 (.st 4 (T 5) (T 50)), b 6 (.mv (T 51))]) (.seq (.seq (.reg [b 52 (.mv (T 6)), b 53 (.sc (.bin .eql 3) [(T 52), (I 0)])]) (.cond (T 53) (.seq (.reg [b 4 (.mv (B true))]) .ret) .skip)) (.seq (.reg [b 54 (.ld true 4 (T 3)), b 55 (.bs 24 4 [(T 54)]), b 56 (.bld [(.int .i64 0), (.int .i64 0), (.string ⟨#[]⟩), (.slice none 0 0)] [(0, (1, (I 6))), (2, (1, (S [65]))), (3, (1, (T 55)))]), b 7 (.alloc [(.int .i64 0), (.int .i64 0), (.string ⟨#[]⟩), (.slice none 0 0)]), b0 (.st 4 (T 7) (T 56))]) (.seq (.reg [b 57 (.bld [(.int .i64 0), (.int .i64 0), (.string ⟨#[]⟩), (.slice none 0 0)] [(0, (1, (I 7))), (1, (1, (I 7)))]), b 8 (.alloc [(.int .i64 0), (.int .i64 0), (.string ⟨#[]⟩), (.slice none 0 0)]), b0 (.st 4 (T 8) (T 57))]) (.seq (.reg [b 58 (.ld true 4 (T 2)), b 59 (.ld true 4 (T 3)), b 60 (.bs 24 4 [(T 58), (T 59)]), b 61 (.bld [(.int .i64 0), (.int .i64 0), (.string ⟨#[]⟩), (.slice none 0 0)] [(0, (1, (I 3))), (3, (1, (T 60)))]), b 62 (.ld true 4 (T 2)), b 63 (.ld true 4 (T 7)), b 64 (.bs 24 4 [(T 62), (T 63)]), b 65 (.bld [(.int .i64 0), (.int .i64 0), (.string ⟨#[]⟩), (.slice none 0 0)] [(0, (1, (I 5))), (3, (1, (T 64)))]), b 66 (.ld true 4 (T 2)), b 67 (.ld true 4 (T 3)), b 68 (.bs 24 4 [(T 66), (T 67)]), b 69 (.bld [(.int .i64 0), (.int .i64 0), (.string ⟨#[]⟩), (.slice none 0 0)] [(0, (1, (I 8))), (2, (1, (S [43]))), (3, (1, (T 68)))]), b 70 (.ld true 4 (T 8)), b 71 (.ld true 4 (T 2)), b 72 (.bs 24 4 [(T 70), (T 71)]), b 73 (.bld [(.int .i64 0), (.int .i64 0), (.string ⟨#[]⟩), (.slice none 0 0)] [(0, (1, (I 8))), (2, (1, (S [60]))), (3, (1, (T 72)))]), b 74 (.bs 24 4 [(T 61), (T 65), (T 69), (T 73)]), b 9 (.mv (T 74))]) (.seq (.reg [b 75 (.ld true 4 (T 5)), b 76 (.ld true 4 (T 3)), b 77 (.bs 24 4 [(T 75), (T 76)]), b 78 (.bld [(.int .i64 0), (.int .i64 0), (.string ⟨#[]⟩), (.slice none 0 0)] [(0, (1, (I 3))), (3, (1, (T 77)))]), b 79 (.ld true 4 (T 5)), b 80 (.ld true 4 (T 7)), b 81 (.bs 24 4 [(T 79), (T 80)]), b 82 (.bld [(.int .i64 0), (.int .i64 0), (.string ⟨#[]⟩), (.slice none 0 0)] [(0, (1, (I 5))), (3, (1, (T 81)))]), b 83 (.ld true 4 (T 5)), b 84 (.ld true 4 (T 3)), b 85 (.bs 24 4 [(T 83), (T 84)]), b 86 (.bld [(.int .i64 0), (.int .i64 0), (.string ⟨#[]⟩), (.slice none 0 0)] [(0, (1, (I 8))), (2, (1, (S [43]))), (3, (1, (T 85)))]), b 87 (.ld true 4 (T 8)), b 88 (.ld true 4 (T 5)), b 89 (.bs 24 4 [(T 87), (T 88)]), b 90 (.bld [(.int .i64 0), (.int .i64 0), (.string ⟨#[]⟩), (.slice none 0 0)] [(0, (1, (I 8))), (2, (1, (S [60]))), (3, (1, (T 89)))]), b 91 (.bs 24 4 [(T 78), (T 82), (T 86), (T 90)]), b 10 (.mv (T 91))]) (.seq (.seq (.reg [b 11 (.mv (I 0))]) (.block 0 (.loop (.seq (.seq (.reg [b 92 (.mv (T 11)), b 93 (.mv (T 9)), b 94 (.ln (T 93)), b 95 (.sc (.bin .lss 3) [(T 92), (T 94)])]) (.cond (T 95) .skip (.exit 0))) (.seq (.block 1 (.seq (.reg [b 99 (.mv (T 9)), b 100 (.mv (T 11)), b 101 (.ia 4 (T 99) (T 100)), b 102 (.ld true 4 (T 101)), b 103 (.call 12 [(T 102)]), b 98 (.mv (T 103)), b 104 (.ex (T 98) 0), b 105 (.ex (T 98) 1), b 12 (.alloc [(.int .i64 0), (.int .i64 0), (.string ⟨#[]⟩), (.slice none 0 0)]), b0 (.st 4 (T 12) (T 104)), b 13 (.mv (T 105))]) (.seq (.reg [a 106 (.mv (T 13)), b 107 (.mv (T 6)), b 108 (.sc (.bin .neq 3) [(T 106), (T 107)]), b 109 (.mv (T 108)), ag 110 109 false (.ld true 4 (T 12)), ag 111 109 false (.mv (T 10)), bg 112 109 false (.mv (T 11)), bg 113 109 false (.ia 4 (T 111) (T 112)), bg 114 109 false (.ld true 4 (T 113)), bg 115 109 false (.call 16 [(T 110), (T 114)]), bg 116 109 false (.sc (.un .not) [(T 115)]), b 117 (.pick (T 109) (B true) (T 116))]) (.cond (T 117) (.seq (.reg [b 4 (.mv (B false))]) .ret) .skip)))) (.reg [b 96 (.mv (T 11)), b 97 (.sc (.bin .add 3) [(T 96), (I 1)]), b 11 (.mv (T 97))])))))) (.seq (.reg [b 4 (.mv (B true))]) .ret))))))))))
theorem k7 : ∃ code, Tryz.prog.funcs[7]? = some Tryz.f7 ∧ Tryz.f7.body = some code ∧ comp Tryz.prog Tryz.f7.ntmps code = some c7 ∧ rvs Tryz.prog Tryz.f7.results.toList = some [(.t 4)] := ⟨_, Tryz.func7, rfl, by kernel_rfl, by kernel_rfl⟩
def c8 : ACode := (.seq (.reg [b 4 (.mv (B false))]) (.seq (.seq (.reg [b 11 (.call 11 []), b 12 (.sc (.un .not) [(T 11)])]) (.cond (T 12) (.seq (.reg [b 4 (.mv (B false))]) .ret) .skip)) (.seq (.reg [b 13 (.bs 9 1 [(S [43]), (S [45]), (S [42]), (S [60]), (S [61, 61]), (S [47])]), b 5 (.mv (T 13))]) (.seq (.reg [b 14 (.mv (T 0)), b 15 (.mv (T 1)), b 16 (.sc (.bin .add 3) [(T 14), (T 15)]), b 17 (.mv (T 0)), b 18 (.mv (T 1)), b 19 (.sc (.bin .sub 3) [(T 17), (T 18)]), b 20 (.mv (T 0)), b 21 (.mv (T 1)), b 22 (.sc (.bin .mul 3) [(T 20), (T 21)]), b 23 (.bs 3 1 [(T 16), (T 19), (T 22), (I 0), (I 0), (I 0)]), b 6 (.mv (T 23))]) (.seq (.seq (.reg [b 7 (.mv (I 0))]) (.block 0 (.loop (.seq (.seq (.reg [b 24 (.mv (T 7)), b 25 (.mv (T 5)), b 26 (.ln (T 25)), b 27 (.sc (.bin .lss 3) [(T 24), (T 26)])]) (.cond (T 27) .skip (.exit 0))) (.seq (.block 1 (.seq (.reg [b 30 (.mv (T 5)), b 31 (.mv (T 7)), b 32 (.ia 1 (T 30) (T 31)), b 33 (.ld false 1 (T 32)), b 34 (.mv (T 0)), b 35 (.bld [(.int .i64 0), (.int .i64 0), (.string ⟨#[]⟩), (.slice none 0 0)] [(0, (1, (I 7))), (1, (1, (T 34)))]), b 36 (.mv (T 1)), b 37 (.bld [(.int .i64 0), (.int .i64 0), (.string ⟨#[]⟩), (.slice none 0 0)] [(0, (1, (I 7))), (1, (1, (T 36)))]), b 38 (.bs 24 4 [(T 35), (T 37)]), b 39 (.bld [(.int .i64 0), (.int .i64 0), (.string ⟨#[]⟩), (.slice none 0 0)] [(0, (1, (I 8))), (2, (1, (T 33))), (3, (1, (T 38)))]), b 8 (.alloc [(.int .i64 0), (.int .i64 0), (.string ⟨#[]⟩), (.slice none 0 0)]), b0 (.st 4 (T 8) (T 39))]) (.seq (.reg [b 41 (.ld true 4 (T 8)), b 42 (.call 12 [(T 41)]), b 40 (.mv (T 42)), b 43 (.ex (T 40) 0), b 44 (.ex (T 40) 1), b 9 (.alloc [(.int .i64 0), (.int .i64 0), (.string ⟨#[]⟩), (.slice none 0 0)]), b0 (.st 4 (T 9) (T 43)), b 10 (.mv (T 44))]) (.seq (.seq (.reg [b 45 (.mv (T 5)), b 46 (.mv (T 7)), b 47 (.ia 1 (T 45) (T 46)), b 48 (.ld false 1 (T 47)), b 49 (.sc (.bin .eql 9) [(T 48), (S [47])]), b 50 (.mv (T 49)), bg 51 50 true (.mv (T 1)), bg 52 50 true (.sc (.bin .eql 3) [(T 51), (I 0)]), b 53 (.pick (T 50) (T 52) (B false))]) (.cond (T 53) (.seq (.reg [b 54 (.mv (T 10)), b 55 (.sc (.bin .eql 3) [(T 54), (I 4)]), b 56 (.mv (T 55)), bg 57 56 true (.fa 0 (T 9)), bg 58 56 true (.ld false 1 (T 57)), bg 59 56 true (.sc (.bin .eql 3) [(T 58), (I 9)]), b 60 (.pick (T 56) (T 59) (B false)), b 4 (.mv (T 60))]) .ret) .skip)) (.seq (.seq (.reg [b 61 (.mv (T 10)), b 62 (.sc (.bin .neq 3) [(T 61), (I 3)])]) (.cond (T 62) (.seq (.reg [b 4 (.mv (B false))]) .ret) .skip)) (.seq (.seq (.reg [b 63 (.mv (T 7)), b 64 (.sc (.bin .lss 3) [(T 63), (I 3)]), b 65 (.mv (T 64)), bg 66 65 true (.fa 0 (T 9)), bg 67 65 true (.ld false 1 (T 66)), bg 68 65 true (.sc (.bin .neq 3) [(T 67), (I 7)]), bg 69 65 true (.mv (T 68)), ag 70 69 false (.fa 1 (T 9)), ag 71 69 false (.ld false 1 (T 70)), ag 72 69 false (.mv (T 6)), bg 73 69 false (.mv (T 7)), bg 74 69 false (.ia 1 (T 72) (T 73)), bg 75 69 false (.ld false 1 (T 74)), bg 76 69 false (.sc (.bin .neq 3) [(T 71), (T 75)]), bg 77 65 true (.pick (T 69) (B true) (T 76)), b 78 (.pick (T 65) (T 77) (B false)), b 79 (.mv (T 78)), bg 80 79 false (.mv (T 7)), bg 81 79 false (.sc (.bin .eql 3) [(T 80), (I 3)]), bg 82 79 false (.mv (T 81)), ag 83 82 true (.fa 2 (T 9)), ag 84 82 true (.ld false 1 (T 83)), ag 85 82 true (.sc (.bin .eql 9) [(T 84), (S [84, 114, 117, 101])]), ag 86 82 true (.mv (T 0)), bg 87 82 true (.mv (T 1)), bg 88 82 true (.sc (.bin .lss 3) [(T 86), (T 87)]), bg 89 82 true (.sc (.bin .neq 4) [(T 85), (T 88)]), bg 90 79 false (.pick (T 82) (T 89) (B false)), b 91 (.pick (T 79) (B true) (T 90)), b 92 (.mv (T 91)), bg 93 92 false (.mv (T 7)), bg 94 92 false (.sc (.bin .eql 3) [(T 93), (I 4)]), bg 95 92 false (.mv (T 94)), ag 96 95 true (.fa 2 (T 9)), ag 97 95 true (.ld false 1 (T 96)), ag 98 95 true (.sc (.bin .eql 9) [(T 97), (S [84, 114, 117, 101])]), ag 99 95 true (.mv (T 0)), bg 100 95 true (.mv (T 1)), bg 101 95 true (.sc (.bin .eql 3) [(T 99), (T 100)]), bg 102 95 true (.sc (.bin .neq 4) [(T 98), (T 101)]), bg 103 92 false (.pick (T 95) (T 102) (B false)), b 104 (.pick (T 92) (B true) (T 103))]) (.cond (T 104) (.seq (.reg [b 4 (.mv (B false))]) .ret) .skip)) (.seq (.reg [b 105 (.mv (T 7)), b 106 (.sc (.bin .eql 3) [(T 105), (I 5)]), b 107 (.mv (T 106)), bg 108 107 true (.fa 1 (T 9)), bg 109 107 true (.ld false 1 (T 108)), bg 110 107 true (.mv (T 1)), bg 111 107 true (.sc (.bin .mul 3) [(T 109), (T 110)]), bg 112 107 true (.mv (T 0)), bg 113 107 true (.sc (.bin .gtr 3) [(T 111), (T 112)]), bg 114 107 true (.mv (T 113)), bg 115 114 true (.mv (T 0)), bg 116 114 true (.sc (.bin .geq 3) [(T 115), (I 0)]), bg 117 107 true (.pick (T 114) (T 116) (B false)), bg 118 107 true (.mv (T 117)), bg 119 118 true (.mv (T 1)), bg 120 118 true (.sc (.bin .gtr 3) [(T 119), (I 0)]), bg 121 107 true (.pick (T 118) (T 120) (B false)), bg 122 107 true (.mv (T 121)), bg 123 122 false (.fa 1 (T 9)), bg 124 122 false (.ld false 1 (T 123)), bg 125 122 false (.mv (T 1)), bg 126 122 false (.sc (.bin .mul 3) [(T 124), (T 125)]), bg 127 122 false (.mv (T 1)), bg 128 122 false (.sc (.bin .add 3) [(T 126), (T 127)]), bg 129 122 false (.mv (T 0)), bg 130 122 false (.sc (.bin .leq 3) [(T 128), (T 129)]), bg 131 122 false (.mv (T 130)), bg 132 131 true (.mv (T 0)), bg 133 131 true (.sc (.bin .geq 3) [(T 132), (I 0)]), bg 134 122 false (.pick (T 131) (T 133) (B false)), bg 135 122 false (.mv (T 134)), bg 136 135 true (.mv (T 1)), bg 137 135 true (.sc (.bin .gtr 3) [(T 136), (I 0)]), bg 138 122 false (.pick (T 135) (T 137) (B false)), bg 139 122 false (.mv (T 138)), bg 140 139 true (.mv (T 1)), bg 141 139 true (.sc (.bin .lss 3) [(T 140), (I 1073741824)]), bg 142 122 false (.pick (T 139) (T 141) (B false)), bg 143 122 false (.mv (T 142)), bg 144 143 true (.mv (T 0)), bg 145 143 true (.sc (.bin .lss 3) [(T 144), (I 1152921504606846976)]), bg 146 122 false (.pick (T 143) (T 145) (B false)), bg 147 107 true (.pick (T 122) (B true) (T 146)), bg 148 107 true (.mv (T 147)), bg 149 148 false (.mv (T 1)), bg 150 148 false (.sc (.bin .eql 3) [(T 149), (I (-1))]), bg 151 148 false (.mv (T 150)), bg 152 151 true (.fa 1 (T 9)), bg 153 151 true (.ld false 1 (T 152)), bg 154 151 true (.mv (T 0)), bg 155 151 true (.sc (.un .neg) [(T 154)]), bg 156 151 true (.sc (.bin .neq 3) [(T 153), (T 155)]), bg 157 148 false (.pick (T 151) (T 156) (B false)), bg 158 107 true (.pick (T 148) (B true) (T 157)), b 159 (.pick (T 107) (T 158) (B false))]) (.cond (T 159) (.seq (.reg [b 4 (.mv (B false))]) .ret) .skip)))))))) (.reg [b 28 (.mv (T 7)), b 29 (.sc (.bin .add 3) [(T 28), (I 1)]), b 7 (.mv (T 29))])))))) (.seq (.reg [b 4 (.mv (B true))]) .ret))))))
theorem k8 : ∃ code, Tryz.prog.funcs[8]? = some Tryz.f8 ∧ Tryz.f8.body = some code ∧ comp Tryz.prog Tryz.f8.ntmps code = some c8 ∧ rvs Tryz.prog Tryz.f8.results.toList = some [(.t 4)] := ⟨_, Tryz.func8, rfl, by kernel_rfl, by kernel_rfl⟩
def c9 : ACode := (.seq (.reg [b 2 (.box (T 0)), b 4 (.mv (B false))]) (.seq (.reg [b 5 (.ld true 4 (T 2)), b 6 (.mv (T 1)), b 7 (.call 18 [(T 5), (T 6), (I 600)]), b 8 (.sc (.bin .geq 3) [(T 7), (I 0)]), b 4 (.mv (T 8))]) .ret))
theorem k9 : ∃ code, Tryz.prog.funcs[9]? = some Tryz.f9 ∧ Tryz.f9.body = some code ∧ comp Tryz.prog Tryz.f9.ntmps code = some c9 ∧ rvs Tryz.prog Tryz.f9.results.toList = some [(.t 4)] := ⟨_, Tryz.func9, rfl, by kernel_rfl, by kernel_rfl⟩
def c10 : ACode := (.seq (.reg [b 1 (.box (T 0)), b 2 (.mv (I 0))]) (.seq (.reg [b 3 (.mv (I 0))]) (.seq (.seq (.reg [b 4 (.mv (I 0))]) (.block 0 (.loop (.seq (.seq (.reg [b 5 (.mv (T 4)), b 6 (.fa 3 (T 1)), b 7 (.ld false 1 (T 6)), b 8 (.ln (T 7)), b 9 (.sc (.bin .lss 3) [(T 5), (T 8)])]) (.cond (T 9) .skip (.exit 0))) (.seq (.block 1 (.reg [b 12 (.mv (T 3)), b 13 (.fa 3 (T 1)), b 14 (.ld false 1 (T 13)), b 15 (.mv (T 4)), b 16 (.ia 4 (T 14) (T 15)), b 17 (.ld true 4 (T 16)), b 18 (.call 10 [(T 17)]), b 19 (.sc (.bi .max [3, 3] 3) [(T 12), (T 18)]), b 3 (.mv (T 19))])) (.reg [b 10 (.mv (T 4)), b 11 (.sc (.bin .add 3) [(T 10), (I 1)]), b 4 (.mv (T 11))])))))) (.seq (.reg [b 20 (.mv (T 3)), b 21 (.sc (.bin .add 3) [(T 20), (I 1)]), b 2 (.mv (T 21))]) .ret))))
theorem k10 : ∃ code, Tryz.prog.funcs[10]? = some Tryz.f10 ∧ Tryz.f10.body = some code ∧ comp Tryz.prog Tryz.f10.ntmps code = some c10 ∧ rvs Tryz.prog Tryz.f10.results.toList = some [(.t 2)] := ⟨_, Tryz.func10, rfl, by kernel_rfl, by kernel_rfl⟩
def c11 : ACode := (.seq (.reg [b 0 (.mv (B false))]) (.seq (.reg [b 14 (.bs 9 1 [(S [40, 92, 120, 46, 32, 120, 41, 32, 49]), (S [99, 97, 115, 101, 32, 65, 32, 50, 32, 51, 32, 111, 102, 32, 123, 32, 65, 32, 120, 32, 121, 32, 45, 62, 32, 120, 32, 45, 32, 121, 32, 125]), (S [49, 32, 47, 32, 48]), (S [49, 32, 50]), (S [108, 101, 116, 114, 101, 99, 32, 102, 32, 61, 32, 92, 110, 46, 32, 99, 97, 115, 101, 32, 110, 32, 61, 61, 32, 48, 32, 111, 102, 32, 123, 32, 84, 114, 117, 101, 32, 45, 62, 32, 49, 32, 124, 32, 70, 97, 108, 115, 101, 32, 45, 62, 32, 110, 32, 42, 32, 102, 32, 40, 110, 32, 45, 32, 49, 41, 32, 125, 32, 105, 110, 32, 102, 32, 53]), (S [40, 92, 120, 46, 32, 65, 32, 40, 120, 32, 120, 41, 41, 32, 51]), (S [99, 97, 115, 101, 32, 49, 32, 111, 102, 32, 123, 32, 65, 32, 45, 62, 32, 49, 32, 125]), (S [99, 97, 115, 101, 32, 65, 32, 111, 102, 32, 123, 32, 66, 32, 45, 62, 32, 49, 32, 125]), (S [65, 32, 43, 32, 49]), (S [55, 32, 47, 32, 50, 32, 45, 32, 57])]), b 1 (.mv (T 14))]) (.seq (.reg [b 15 (.bs 9 1 [(S [49]), (S [45, 49]), (S [33]), (S [33]), (S [49, 50, 48]), (S [40, 65, 32, 40, 64, 32, 51, 32, 51, 41, 41]), (S [33]), (S [33]), (S [33]), (S [45, 54])]), b 2 (.mv (T 15))]) (.seq (.seq (.reg [b 3 (.mv (I 0))]) (.block 0 (.loop (.seq (.seq (.reg [b 16 (.mv (T 3)), b 17 (.mv (T 1)), b 18 (.ln (T 17)), b 19 (.sc (.bin .lss 3) [(T 16), (T 18)])]) (.cond (T 19) .skip (.exit 0))) (.seq (.block 1 (.seq (.reg [b 23 (.mv (T 1)), b 24 (.mv (T 3)), b 25 (.ia 1 (T 23) (T 24)), b 26 (.ld false 1 (T 25)), b 27 (.call 19 [(T 26)]), b 28 (.call 14 [(T 27), (I 1000)]), b 22 (.mv (T 28)), b 29 (.ex (T 22) 0), b 30 (.ex (T 22) 1), b 31 (.ex (T 22) 2), b 4 (.alloc [(.int .i64 0), (.int .i64 0), (.string ⟨#[]⟩), (.slice none 0 0)]), b0 (.st 4 (T 4) (T 29)), b 5 (.mv (T 30)), b 6 (.mv (T 31))]) (.seq (.reg [b 32 (.mv (T 6)), b 33 (.sc (.bin .neq 30) [(T 32), (I 0)]), b 34 (.mv (T 33)), ag 35 34 false (.ld true 4 (T 4)), ag 36 34 false (.call 20 [(T 35)]), ag 37 34 false (.mv (T 2)), bg 38 34 false (.mv (T 3)), bg 39 34 false (.ia 1 (T 37) (T 38)), bg 40 34 false (.ld false 1 (T 39)), bg 41 34 false (.sc (.bin .neq 9) [(T 36), (T 40)]), b 42 (.pick (T 34) (B true) (T 41)), b 43 (.mv (T 42)), bg 44 43 false (.mv (T 5)), bg 45 43 false (.sc (.bin .lss 3) [(T 44), (I 1)]), b 46 (.pick (T 43) (B true) (T 45))]) (.cond (T 46) (.seq (.reg [b 0 (.mv (B false))]) .ret) .skip)))) (.reg [b 20 (.mv (T 3)), b 21 (.sc (.bin .add 3) [(T 20), (I 1)]), b 3 (.mv (T 21))])))))) (.seq (.reg [b 48 (.mv (T 1)), b 49 (.ia 1 (T 48) (I 0)), b 50 (.ld false 1 (T 49)), b 51 (.call 19 [(T 50)]), b 52 (.call 12 [(T 51)]), b 47 (.mv (T 52)), b 53 (.ex (T 47) 0), b 54 (.ex (T 47) 1), b 7 (.alloc [(.int .i64 0), (.int .i64 0), (.string ⟨#[]⟩), (.slice none 0 0)]), b0 (.st 4 (T 7) (T 53)), b 8 (.mv (T 54))]) (.seq (.reg [b 56 (.call 19 [(S [40, 92, 120, 46, 32, 120, 32, 120, 41, 32, 40, 92, 120, 46, 32, 120, 32, 120, 41])]), b 57 (.call 14 [(T 56), (I 50)]), b 55 (.mv (T 57)), b 58 (.ex (T 55) 0), b 59 (.ex (T 55) 1), b 60 (.ex (T 55) 2), b 9 (.alloc [(.int .i64 0), (.int .i64 0), (.string ⟨#[]⟩), (.slice none 0 0)]), b0 (.st 4 (T 9) (T 58)), b 10 (.mv (T 59)), b 11 (.mv (T 60))]) (.seq (.reg [b 62 (.call 19 [(S [92, 120, 46, 32, 120, 32, 49])]), b 63 (.call 12 [(T 62)]), b 61 (.mv (T 63)), b 64 (.ex (T 61) 0), b 65 (.ex (T 61) 1), b 12 (.alloc [(.int .i64 0), (.int .i64 0), (.string ⟨#[]⟩), (.slice none 0 0)]), b0 (.st 4 (T 12) (T 64)), b 13 (.mv (T 65))]) (.seq (.reg [b 66 (.ld true 4 (T 7)), b 67 (.call 20 [(T 66)]), b 68 (.sc (.bin .eql 9) [(T 67), (S [49])]), b 69 (.mv (T 68)), bg 70 69 true (.mv (T 8)), bg 71 69 true (.sc (.bin .eql 3) [(T 70), (I 1)]), b 72 (.pick (T 69) (T 71) (B false)), b 73 (.mv (T 72)), bg 74 73 true (.mv (T 10)), bg 75 73 true (.sc (.bin .eql 3) [(T 74), (I 50)]), b 76 (.pick (T 73) (T 75) (B false)), b 77 (.mv (T 76)), bg 78 77 true (.mv (T 11)), bg 79 77 true (.sc (.bin .eql 30) [(T 78), (I 90)]), b 80 (.pick (T 77) (T 79) (B false)), b 81 (.mv (T 80)), bg 82 81 true (.mv (T 13)), bg 83 81 true (.sc (.bin .eql 3) [(T 82), (I 0)]), b 84 (.pick (T 81) (T 83) (B false)), b 0 (.mv (T 84))]) .ret))))))))
theorem k11 : ∃ code, Tryz.prog.funcs[11]? = some Tryz.f11 ∧ Tryz.f11.body = some code ∧ comp Tryz.prog Tryz.f11.ntmps code = some c11 ∧ rvs Tryz.prog Tryz.f11.results.toList = some [(.t 0)] := ⟨_, Tryz.func11, rfl, by kernel_rfl, by kernel_rfl⟩
def c12 : ACode := (.seq (.reg [b 1 (.box (T 0)), b 2 (.alloc [(.int .i64 0), (.int .i64 0), (.string ⟨#[]⟩), (.slice none 0 0)]), b 3 (.mv (I 0))]) (.seq (.seq (.reg [b 4 (.ld true 4 (T 1)), b 5 (.call 21 [(T 4), (I 4611686018427387904)]), b 6 (.sc (.un .not) [(T 5)])]) (.cond (T 6) (.seq (.reg [b 7 (.ld true 4 (T 1)), b0 (.st 4 (T 2) (T 7)), b 3 (.mv (I 0))]) .ret) .skip)) (.seq (.reg [b 8 (.ld true 4 (T 1)), b 9 (.call 22 [(T 8)]), b 10 (.ex (T 9) 0), b 11 (.ex (T 9) 1), b0 (.st 4 (T 2) (T 10)), b 3 (.mv (T 11))]) .ret)))
theorem k12 : ∃ code, Tryz.prog.funcs[12]? = some Tryz.f12 ∧ Tryz.f12.body = some code ∧ comp Tryz.prog Tryz.f12.ntmps code = some c12 ∧ rvs Tryz.prog Tryz.f12.results.toList = some [(.c true 4 2), (.t 3)] := ⟨_, Tryz.func12, rfl, by kernel_rfl, by kernel_rfl⟩
def c13 : ACode := (.seq (.reg [b 1 (.box (T 0)), b 2 (.alloc [(.int .i64 0), (.int .i64 0), (.string ⟨#[]⟩), (.slice none 0 0)]), b 3 (.mv (I 0))]) (.seq (.seq (.reg [b 4 (.ld true 4 (T 1)), b 5 (.call 17 [(T 4), (I 4611686018427387904)]), b 6 (.sc (.un .not) [(T 5)])]) (.cond (T 6) (.seq (.reg [b 7 (.ld true 4 (T 1)), b0 (.st 4 (T 2) (T 7)), b 3 (.mv (I 0))]) .ret) .skip)) (.seq (.reg [b 8 (.ld true 4 (T 1)), b 9 (.call 23 [(T 8)]), b 10 (.ex (T 9) 0), b 11 (.ex (T 9) 1), b0 (.st 4 (T 2) (T 10)), b 3 (.mv (T 11))]) .ret)))
theorem k13 : ∃ code, Tryz.prog.funcs[13]? = some Tryz.f13 ∧ Tryz.f13.body = some code ∧ comp Tryz.prog Tryz.f13.ntmps code = some c13 ∧ rvs Tryz.prog Tryz.f13.results.toList = some [(.c true 4 2), (.t 3)] := ⟨_, Tryz.func13, rfl, by kernel_rfl, by kernel_rfl⟩
def c14 : ACode := (.seq (.reg [b 2 (.box (T 0)), b 4 (.alloc [(.int .i64 0), (.int .i64 0), (.string ⟨#[]⟩), (.slice none 0 0)]), b 5 (.mv (I 0)), b 6 (.mv (I 0))]) (.seq (.seq (.reg [b 10 (.ld true 4 (T 2)), b 11 (.call 21 [(T 10), (I 0)]), b 12 (.sc (.un .not) [(T 11)]), b 13 (.mv (T 12)), bg 14 13 false (.mv (T 1)), bg 15 13 false (.sc (.bin .lss 3) [(T 14), (I 0)]), b 16 (.pick (T 13) (B true) (T 15)), b 17 (.mv (T 16)), bg 18 17 false (.mv (T 1)), bg 19 17 false (.sc (.bin .gtr 3) [(T 18), (I 100000)]), b 20 (.pick (T 17) (B true) (T 19))]) (.cond (T 20) (.seq (.reg [b 21 (.bld [(.int .i64 0), (.int .i64 0), (.string ⟨#[]⟩), (.slice none 0 0)] []), b0 (.st 4 (T 4) (T 21)), b 5 (.mv (I 0)), b 6 (.mv (I 1))]) .ret) .skip)) (.seq (.reg [b 7 (.mv (I 0))]) (.block 0 (.loop (.seq (.block 1 (.seq (.seq (.reg [b 24 (.ld true 4 (T 2)), b 25 (.call 24 [(T 24)]), b 26 (.sc (.bin .gtr 3) [(T 25), (I 5000)])]) (.cond (T 26) (.seq (.reg [b 27 (.bld [(.int .i64 0), (.int .i64 0), (.string ⟨#[]⟩), (.slice none 0 0)] []), b 28 (.mv (T 7)), b0 (.st 4 (T 4) (T 27)), b 5 (.mv (T 28)), b 6 (.mv (I 91))]) .ret) .skip)) (.seq (.reg [b 30 (.ld true 4 (T 2)), b 31 (.call 22 [(T 30)]), b 29 (.mv (T 31)), b 32 (.ex (T 29) 0), b 33 (.ex (T 29) 1), b 8 (.alloc [(.int .i64 0), (.int .i64 0), (.string ⟨#[]⟩), (.slice none 0 0)]), b0 (.st 4 (T 8) (T 32)), b 9 (.mv (T 33))]) (.seq (.block 2 (.seq (.reg [b 35 (.mv (T 9)), b 36 (.sc (.bin .eql 3) [(T 35), (I 0)]), b 34 (.mv (T 36))]) (.cond (T 34) (.seq (.reg [b 37 (.ld true 4 (T 2)), b 38 (.mv (T 7)), b0 (.st 4 (T 4) (T 37)), b 5 (.mv (T 38)), b 6 (.mv (I 0))]) .ret) (.seq (.reg [b 40 (.mv (T 7)), b 41 (.mv (T 1)), b 42 (.sc (.bin .eql 3) [(T 40), (T 41)]), b 39 (.mv (T 42))]) (.cond (T 39) (.seq (.reg [b 43 (.bld [(.int .i64 0), (.int .i64 0), (.string ⟨#[]⟩), (.slice none 0 0)] []), b 44 (.mv (T 7)), b0 (.st 4 (T 4) (T 43)), b 5 (.mv (T 44)), b 6 (.mv (I 90))]) .ret) .skip))))) (.reg [b 45 (.ld true 4 (T 8)), b0 (.st 4 (T 2) (T 45))]))))) (.reg [b 22 (.mv (T 7)), b 23 (.sc (.bin .add 3) [(T 22), (I 1)]), b 7 (.mv (T 23))])))))))
theorem k14 : ∃ code, Tryz.prog.funcs[14]? = some Tryz.f14 ∧ Tryz.f14.body = some code ∧ comp Tryz.prog Tryz.f14.ntmps code = some c14 ∧ rvs Tryz.prog Tryz.f14.results.toList = some [(.c true 4 4), (.t 5), (.t 6)] := ⟨_, Tryz.func14, rfl, by kernel_rfl, by kernel_rfl⟩
def c15 : ACode := (.seq (.reg [b 2 (.box (T 0)), b 4 (.alloc [(.int .i64 0), (.int .i64 0), (.string ⟨#[]⟩), (.slice none 0 0)]), b 5 (.mv (I 0)), b 6 (.mv (I 0))]) (.seq (.seq (.reg [b 10 (.ld true 4 (T 2)), b 11 (.call 17 [(T 10), (I 0)]), b 12 (.sc (.un .not) [(T 11)]), b 13 (.mv (T 12)), bg 14 13 false (.mv (T 1)), bg 15 13 false (.sc (.bin .lss 3) [(T 14), (I 0)]), b 16 (.pick (T 13) (B true) (T 15)), b 17 (.mv (T 16)), bg 18 17 false (.mv (T 1)), bg 19 17 false (.sc (.bin .gtr 3) [(T 18), (I 100000)]), b 20 (.pick (T 17) (B true) (T 19))]) (.cond (T 20) (.seq (.reg [b 21 (.bld [(.int .i64 0), (.int .i64 0), (.string ⟨#[]⟩), (.slice none 0 0)] []), b0 (.st 4 (T 4) (T 21)), b 5 (.mv (I 0)), b 6 (.mv (I 1))]) .ret) .skip)) (.seq (.reg [b 7 (.mv (I 0))]) (.block 0 (.loop (.seq (.block 1 (.seq (.seq (.reg [b 24 (.ld true 4 (T 2)), b 25 (.call 25 [(T 24)]), b 26 (.sc (.bin .gtr 3) [(T 25), (I 5000)])]) (.cond (T 26) (.seq (.reg [b 27 (.bld [(.int .i64 0), (.int .i64 0), (.string ⟨#[]⟩), (.slice none 0 0)] []), b 28 (.mv (T 7)), b0 (.st 4 (T 4) (T 27)), b 5 (.mv (T 28)), b 6 (.mv (I 91))]) .ret) .skip)) (.seq (.reg [b 30 (.ld true 4 (T 2)), b 31 (.call 23 [(T 30)]), b 29 (.mv (T 31)), b 32 (.ex (T 29) 0), b 33 (.ex (T 29) 1), b 8 (.alloc [(.int .i64 0), (.int .i64 0), (.string ⟨#[]⟩), (.slice none 0 0)]), b0 (.st 4 (T 8) (T 32)), b 9 (.mv (T 33))]) (.seq (.seq (.reg [b 34 (.mv (T 9)), b 35 (.sc (.bin .eql 3) [(T 34), (I 0)])]) (.cond (T 35) (.seq (.reg [b 36 (.ld true 4 (T 2)), b 37 (.mv (T 7)), b0 (.st 4 (T 4) (T 36)), b 5 (.mv (T 37)), b 6 (.mv (I 0))]) .ret) .skip)) (.seq (.seq (.reg [b 38 (.mv (T 7)), b 39 (.mv (T 1)), b 40 (.sc (.bin .eql 3) [(T 38), (T 39)])]) (.cond (T 40) (.seq (.reg [b 41 (.bld [(.int .i64 0), (.int .i64 0), (.string ⟨#[]⟩), (.slice none 0 0)] []), b 42 (.mv (T 7)), b0 (.st 4 (T 4) (T 41)), b 5 (.mv (T 42)), b 6 (.mv (I 90))]) .ret) .skip)) (.reg [b 43 (.ld true 4 (T 8)), b0 (.st 4 (T 2) (T 43))])))))) (.reg [b 22 (.mv (T 7)), b 23 (.sc (.bin .add 3) [(T 22), (I 1)]), b 7 (.mv (T 23))])))))))
theorem k15 : ∃ code, Tryz.prog.funcs[15]? = some Tryz.f15 ∧ Tryz.f15.body = some code ∧ comp Tryz.prog Tryz.f15.ntmps code = some c15 ∧ rvs Tryz.prog Tryz.f15.results.toList = some [(.c true 4 4), (.t 5), (.t 6)] := ⟨_, Tryz.func15, rfl, by kernel_rfl, by kernel_rfl⟩
def c16 : ACode := (.seq (.reg [b 2 (.box (T 0)), b 3 (.box (T 1)), b 4 (.mv (B false))]) (.seq (.seq (.reg [b 6 (.fa 0 (T 2)), b 7 (.ld false 1 (T 6)), b 8 (.fa 0 (T 3)), b 9 (.ld false 1 (T 8)), b 10 (.sc (.bin .neq 3) [(T 7), (T 9)]), b 11 (.mv (T 10)), bg 12 11 false (.fa 2 (T 2)), bg 13 11 false (.ld false 1 (T 12)), bg 14 11 false (.fa 2 (T 3)), bg 15 11 false (.ld false 1 (T 14)), bg 16 11 false (.sc (.bin .neq 9) [(T 13), (T 15)]), b 17 (.pick (T 11) (B true) (T 16)), b 18 (.mv (T 17)), bg 19 18 false (.fa 1 (T 2)), bg 20 18 false (.ld false 1 (T 19)), bg 21 18 false (.fa 1 (T 3)), bg 22 18 false (.ld false 1 (T 21)), bg 23 18 false (.sc (.bin .neq 3) [(T 20), (T 22)]), b 24 (.pick (T 18) (B true) (T 23)), b 25 (.mv (T 24)), bg 26 25 false (.fa 3 (T 2)), bg 27 25 false (.ld false 1 (T 26)), bg 28 25 false (.ln (T 27)), bg 29 25 false (.fa 3 (T 3)), bg 30 25 false (.ld false 1 (T 29)), bg 31 25 false (.ln (T 30)), bg 32 25 false (.sc (.bin .neq 3) [(T 28), (T 31)]), b 33 (.pick (T 25) (B true) (T 32))]) (.cond (T 33) (.seq (.reg [b 4 (.mv (B false))]) .ret) .skip)) (.seq (.seq (.reg [b 5 (.mv (I 0))]) (.block 0 (.loop (.seq (.seq (.reg [b 34 (.mv (T 5)), b 35 (.fa 3 (T 2)), b 36 (.ld false 1 (T 35)), b 37 (.ln (T 36)), b 38 (.sc (.bin .lss 3) [(T 34), (T 37)])]) (.cond (T 38) .skip (.exit 0))) (.seq (.block 1 (.seq (.reg [a 41 (.fa 3 (T 2)), a 42 (.ld false 1 (T 41)), a 43 (.mv (T 5)), a 44 (.ia 4 (T 42) (T 43)), a 45 (.ld true 4 (T 44)), a 46 (.fa 3 (T 3)), a 47 (.ld false 1 (T 46)), b 48 (.mv (T 5)), b 49 (.ia 4 (T 47) (T 48)), b 50 (.ld true 4 (T 49)), b 51 (.call 16 [(T 45), (T 50)]), b 52 (.sc (.un .not) [(T 51)])]) (.cond (T 52) (.seq (.reg [b 4 (.mv (B false))]) .ret) .skip))) (.reg [b 39 (.mv (T 5)), b 40 (.sc (.bin .add 3) [(T 39), (I 1)]), b 5 (.mv (T 40))])))))) (.seq (.reg [b 4 (.mv (B true))]) .ret))))
theorem k16 : ∃ code, Tryz.prog.funcs[16]? = some Tryz.f16 ∧ Tryz.f16.body = some code ∧ comp Tryz.prog Tryz.f16.ntmps code = some c16 ∧ rvs Tryz.prog Tryz.f16.results.toList = some [(.t 4)] := ⟨_, Tryz.func16, rfl, by kernel_rfl, by kernel_rfl⟩
def c17 : ACode := (.seq (.reg [b 2 (.box (T 0)), b 4 (.mv (B false))]) (.seq (.reg [b 5 (.ld true 4 (T 2)), b 6 (.mv (T 1)), b 7 (.call 26 [(T 5), (T 6), (B false)]), b 4 (.mv (T 7))]) .ret))
theorem k17 : ∃ code, Tryz.prog.funcs[17]? = some Tryz.f17 ∧ Tryz.f17.body = some code ∧ comp Tryz.prog Tryz.f17.ntmps code = some c17 ∧ rvs Tryz.prog Tryz.f17.results.toList = some [(.t 4)] := ⟨_, Tryz.func17, rfl, by kernel_rfl, by kernel_rfl⟩
def c18 : ACode := (.seq (.reg [b 3 (.box (T 0)), b 6 (.mv (I 0))]) (.seq (.seq (.reg [b 8 (.mv (T 1)), b 9 (.sc (.bin .lss 3) [(T 8), (I 1)]), b 10 (.mv (T 9)), bg 11 10 false (.mv (T 2)), bg 12 10 false (.sc (.bin .lss 3) [(T 11), (I 1)]), b 13 (.pick (T 10) (B true) (T 12))]) (.cond (T 13) (.seq (.reg [b 6 (.mv (I (-1)))]) .ret) .skip)) (.seq (.reg [b 14 (.mv (T 1)), b 15 (.sc (.bin .sub 3) [(T 14), (I 1)]), b 1 (.mv (T 15))]) (.seq (.seq (.reg [b 7 (.mv (I 0))]) (.block 0 (.loop (.seq (.seq (.reg [b 16 (.mv (T 7)), b 17 (.fa 3 (T 3)), b 18 (.ld false 1 (T 17)), b 19 (.ln (T 18)), b 20 (.sc (.bin .lss 3) [(T 16), (T 19)])]) (.cond (T 20) .skip (.exit 0))) (.seq (.block 1 (.seq (.reg [b 23 (.fa 3 (T 3)), b 24 (.ld false 1 (T 23)), b 25 (.mv (T 7)), b 26 (.ia 4 (T 24) (T 25)), b 27 (.ld true 4 (T 26)), b 28 (.mv (T 1)), b 29 (.mv (T 2)), b 30 (.sc (.bin .sub 3) [(T 29), (I 1)]), b 31 (.call 18 [(T 27), (T 28), (T 30)]), b 1 (.mv (T 31))]) (.seq (.reg [b 32 (.mv (T 1)), b 33 (.sc (.bin .lss 3) [(T 32), (I 0)])]) (.cond (T 33) (.seq (.reg [b 6 (.mv (I (-1)))]) .ret) .skip)))) (.reg [b 21 (.mv (T 7)), b 22 (.sc (.bin .add 3) [(T 21), (I 1)]), b 7 (.mv (T 22))])))))) (.seq (.reg [b 34 (.mv (T 1)), b 6 (.mv (T 34))]) .ret)))))
theorem k18 : ∃ code, Tryz.prog.funcs[18]? = some Tryz.f18 ∧ Tryz.f18.body = some code ∧ comp Tryz.prog Tryz.f18.ntmps code = some c18 ∧ rvs Tryz.prog Tryz.f18.results.toList = some [(.t 6)] := ⟨_, Tryz.func18, rfl, by kernel_rfl, by kernel_rfl⟩
def c19 : ACode := (.seq (.reg [b 2 (.alloc [(.int .i64 0), (.int .i64 0), (.string ⟨#[]⟩), (.slice none 0 0)])]) (.seq (.reg [b 10 (.mv (T 0)), b 11 (.call 27 [(T 10), (I 150)]), b 9 (.mv (T 11)), b 12 (.ex (T 9) 0), b 13 (.ex (T 9) 1), b 14 (.ex (T 9) 2), b 3 (.alloc [(.int .i64 0), (.string ⟨#[]⟩), (.int .i64 0), (.int .i64 0), (.slice none 0 0)]), b0 (.st 5 (T 3) (T 12)), b 4 (.mv (T 13)), b 5 (.mv (T 14))]) (.seq (.reg [b 16 (.ld true 5 (T 3)), b 17 (.call 28 [(T 16)]), b 15 (.mv (T 17)), b 18 (.ex (T 15) 0), b 19 (.ex (T 15) 1), b 20 (.ex (T 15) 2), b 6 (.alloc [(.int .i64 0), (.int .i64 0), (.string ⟨#[]⟩), (.slice none 0 0)]), b0 (.st 4 (T 6) (T 18)), b 7 (.mv (T 19)), b 8 (.mv (T 20))]) (.seq (.reg [b 21 (.ld true 4 (T 6)), b0 (.st 4 (T 2) (T 21))]) .ret))))
theorem k19 : ∃ code, Tryz.prog.funcs[19]? = some Tryz.f19 ∧ Tryz.f19.body = some code ∧ comp Tryz.prog Tryz.f19.ntmps code = some c19 ∧ rvs Tryz.prog Tryz.f19.results.toList = some [(.c true 4 2)] := ⟨_, Tryz.func19, rfl, by kernel_rfl, by kernel_rfl⟩
def c20 : ACode := (.seq (.reg [b 1 (.box (T 0)), b 2 (.mv (S []))]) (.seq (.reg [b 3 (.mv (S []))]) (.seq (.seq (.reg [b 5 (.fa 0 (T 1)), b 6 (.ld false 1 (T 5))]) (.block 0 (.seq (.reg [b 8 (.sc (.bin .eql 3) [(T 6), (I 1)]), b 7 (.mv (T 8))]) (.cond (T 7) (.seq (.reg [b 9 (.fa 1 (T 1)), b 10 (.ld false 1 (T 9)), b 11 (.call 29 [(T 10)]), b 12 (.sc (.bin .add 9) [(S [35]), (T 11)]), b 2 (.mv (T 12))]) .ret) (.seq (.reg [b 14 (.sc (.bin .eql 3) [(T 6), (I 7)]), b 13 (.mv (T 14))]) (.cond (T 13) (.seq (.reg [b 15 (.fa 1 (T 1)), b 16 (.ld false 1 (T 15)), b 17 (.call 29 [(T 16)]), b 2 (.mv (T 17))]) .ret) (.seq (.reg [b 19 (.sc (.bin .eql 3) [(T 6), (I 9)]), b 18 (.mv (T 19))]) (.cond (T 18) (.seq (.reg [b 2 (.mv (S [33]))]) .ret) (.seq (.reg [b 21 (.sc (.bin .eql 3) [(T 6), (I 2)]), b 20 (.mv (T 21))]) (.cond (T 20) (.reg [b 3 (.mv (S [92]))]) (.seq (.reg [b 23 (.sc (.bin .eql 3) [(T 6), (I 3)]), b 22 (.mv (T 23))]) (.cond (T 22) (.reg [b 3 (.mv (S [64]))]) (.seq (.reg [b 25 (.sc (.bin .eql 3) [(T 6), (I 5)]), b 24 (.mv (T 25))]) (.cond (T 24) (.reg [b 3 (.mv (S [63]))]) (.seq (.seq (.reg [b 27 (.sc (.bin .eql 3) [(T 6), (I 4)]), b 26 (.mv (T 27))]) (.cond (T 26) .skip (.reg [b 28 (.sc (.bin .eql 3) [(T 6), (I 8)]), b 26 (.mv (T 28))]))) (.cond (T 26) (.reg [b 29 (.fa 2 (T 1)), b 30 (.ld false 1 (T 29)), b 3 (.mv (T 30))]) (.seq (.reg [b 32 (.sc (.bin .eql 3) [(T 6), (I 6)]), b 31 (.mv (T 32))]) (.cond (T 31) (.reg [a 33 (.fa 2 (T 1)), a 34 (.ld false 1 (T 33)), a 35 (.sc (.bin .add 9) [(T 34), (S [58])]), b 36 (.fa 1 (T 1)), b 37 (.ld false 1 (T 36)), b 38 (.call 29 [(T 37)]), b 39 (.sc (.bin .add 9) [(T 35), (T 38)]), b 3 (.mv (T 39))]) .skip)))))))))))))))))) (.seq (.seq (.reg [b 4 (.mv (I 0))]) (.block 1 (.loop (.seq (.seq (.reg [b 40 (.mv (T 4)), b 41 (.fa 3 (T 1)), b 42 (.ld false 1 (T 41)), b 43 (.ln (T 42)), b 44 (.sc (.bin .lss 3) [(T 40), (T 43)])]) (.cond (T 44) .skip (.exit 1))) (.seq (.block 2 (.reg [b 47 (.mv (T 3)), b 48 (.fa 3 (T 1)), b 49 (.ld false 1 (T 48)), b 50 (.mv (T 4)), b 51 (.ia 4 (T 49) (T 50)), b 52 (.ld true 4 (T 51)), b 53 (.call 20 [(T 52)]), b 54 (.sc (.bin .add 9) [(S [32]), (T 53)]), b 55 (.sc (.bin .add 9) [(T 47), (T 54)]), b 3 (.mv (T 55))])) (.reg [b 45 (.mv (T 4)), b 46 (.sc (.bin .add 3) [(T 45), (I 1)]), b 4 (.mv (T 46))])))))) (.seq (.reg [b 56 (.mv (T 3)), b 57 (.sc (.bin .add 9) [(S [40]), (T 56)]), b 58 (.sc (.bin .add 9) [(T 57), (S [41])]), b 2 (.mv (T 58))]) .ret)))))
theorem k20 : ∃ code, Tryz.prog.funcs[20]? = some Tryz.f20 ∧ Tryz.f20.body = some code ∧ comp Tryz.prog Tryz.f20.ntmps code = some c20 ∧ rvs Tryz.prog Tryz.f20.results.toList = some [(.t 2)] := ⟨_, Tryz.func20, rfl, by kernel_rfl, by kernel_rfl⟩
def c23 : ACode := (.seq (.reg [b 1 (.box (T 0)), b 2 (.alloc [(.int .i64 0), (.int .i64 0), (.string ⟨#[]⟩), (.slice none 0 0)]), b 3 (.mv (I 0))]) (.seq (.seq (.reg [b 6 (.fa 0 (T 1)), b 7 (.ld false 1 (T 6)), b 8 (.sc (.bin .neq 3) [(T 7), (I 3)]), b 9 (.mv (T 8)), bg 10 9 true (.fa 0 (T 1)), bg 11 9 true (.ld false 1 (T 10)), bg 12 9 true (.sc (.bin .neq 3) [(T 11), (I 5)]), b 13 (.pick (T 9) (T 12) (B false)), b 14 (.mv (T 13)), bg 15 14 true (.fa 0 (T 1)), bg 16 14 true (.ld false 1 (T 15)), bg 17 14 true (.sc (.bin .neq 3) [(T 16), (I 8)]), b 18 (.pick (T 14) (T 17) (B false))]) (.cond (T 18) (.seq (.reg [b 19 (.ld true 4 (T 1)), b0 (.st 4 (T 2) (T 19)), b 3 (.mv (I 0))]) .ret) .skip)) (.seq (.reg [b 20 (.fa 3 (T 1)), b 21 (.ld false 1 (T 20)), b 22 (.ia 4 (T 21) (I 0)), b 23 (.ld true 4 (T 22)), b 4 (.alloc [(.int .i64 0), (.int .i64 0), (.string ⟨#[]⟩), (.slice none 0 0)]), b0 (.st 4 (T 4) (T 23))]) (.seq (.seq (.reg [b 24 (.ld true 4 (T 4)), b 25 (.call 39 [(T 24)]), b 26 (.sc (.un .not) [(T 25)])]) (.cond (T 26) (.seq (.reg [b 27 (.ld true 4 (T 1)), b 28 (.call 40 [(T 27), (I 0)]), b 29 (.ex (T 28) 0), b 30 (.ex (T 28) 1), b0 (.st 4 (T 2) (T 29)), b 3 (.mv (T 30))]) .ret) .skip)) (.seq (.seq (.reg [b 31 (.fa 0 (T 1)), b 32 (.ld false 1 (T 31)), b 33 (.sc (.bin .eql 3) [(T 32), (I 5)])]) (.cond (T 33) (.seq (.reg [b 34 (.ld true 4 (T 1)), b 35 (.call 41 [(T 34)]), b 36 (.ex (T 35) 0), b 37 (.ex (T 35) 1), b0 (.st 4 (T 2) (T 36)), b 3 (.mv (T 37))]) .ret) .skip)) (.seq (.seq (.reg [b 38 (.fa 0 (T 1)), b 39 (.ld false 1 (T 38)), b 40 (.sc (.bin .eql 3) [(T 39), (I 3)])]) (.cond (T 40) (.seq (.seq (.reg [b 41 (.fa 0 (T 4)), b 42 (.ld false 1 (T 41)), b 43 (.sc (.bin .eql 3) [(T 42), (I 2)])]) (.cond (T 43) (.seq (.reg [a 44 (.fa 3 (T 4)), a 45 (.ld false 1 (T 44)), a 46 (.ia 4 (T 45) (I 0)), a 47 (.ld true 4 (T 46)), b 48 (.fa 3 (T 1)), b 49 (.ld false 1 (T 48)), b 50 (.ia 4 (T 49) (I 1)), b 51 (.ld true 4 (T 50)), b 52 (.call 42 [(T 47), (I 0), (T 51)]), b0 (.st 4 (T 2) (T 52)), b 3 (.mv (I 1))]) .ret) .skip)) (.seq (.reg [b 53 (.call 43 []), b 54 (.ex (T 53) 0), b 55 (.ex (T 53) 1), b0 (.st 4 (T 2) (T 54)), b 3 (.mv (T 55))]) .ret)) .skip)) (.seq (.reg [b 56 (.fa 3 (T 1)), b 57 (.ld false 1 (T 56)), b 58 (.ia 4 (T 57) (I 1)), b 59 (.ld true 4 (T 58)), b 5 (.alloc [(.int .i64 0), (.int .i64 0), (.string ⟨#[]⟩), (.slice none 0 0)]), b0 (.st 4 (T 5) (T 59))]) (.seq (.seq (.reg [b 60 (.fa 0 (T 4)), b 61 (.ld false 1 (T 60)), b 62 (.sc (.bin .neq 3) [(T 61), (I 7)])]) (.cond (T 62) (.seq (.reg [b 63 (.call 43 []), b 64 (.ex (T 63) 0), b 65 (.ex (T 63) 1), b0 (.st 4 (T 2) (T 64)), b 3 (.mv (T 65))]) .ret) .skip)) (.seq (.seq (.reg [b 66 (.ld true 4 (T 5)), b 67 (.call 39 [(T 66)]), b 68 (.sc (.un .not) [(T 67)])]) (.cond (T 68) (.seq (.reg [b 69 (.ld true 4 (T 1)), b 70 (.call 40 [(T 69), (I 1)]), b 71 (.ex (T 70) 0), b 72 (.ex (T 70) 1), b0 (.st 4 (T 2) (T 71)), b 3 (.mv (T 72))]) .ret) .skip)) (.seq (.seq (.reg [b 73 (.fa 0 (T 5)), b 74 (.ld false 1 (T 73)), b 75 (.sc (.bin .neq 3) [(T 74), (I 7)])]) (.cond (T 75) (.seq (.reg [b 76 (.call 43 []), b 77 (.ex (T 76) 0), b 78 (.ex (T 76) 1), b0 (.st 4 (T 2) (T 77)), b 3 (.mv (T 78))]) .ret) .skip)) (.seq (.reg [b 79 (.fa 2 (T 1)), b 80 (.ld false 1 (T 79)), b 81 (.fa 1 (T 4)), b 82 (.ld false 1 (T 81)), b 83 (.fa 1 (T 5)), b 84 (.ld false 1 (T 83)), b 85 (.call 44 [(T 80), (T 82), (T 84)]), b 86 (.ex (T 85) 0), b 87 (.ex (T 85) 1), b0 (.st 4 (T 2) (T 86)), b 3 (.mv (T 87))]) .ret)))))))))))
theorem k23 : ∃ code, Tryz.prog.funcs[23]? = some Tryz.f23 ∧ Tryz.f23.body = some code ∧ comp Tryz.prog Tryz.f23.ntmps code = some c23 ∧ rvs Tryz.prog Tryz.f23.results.toList = some [(.c true 4 2), (.t 3)] := ⟨_, Tryz.func23, rfl, by kernel_rfl, by kernel_rfl⟩
def c24 : ACode := (.seq (.reg [b 1 (.box (T 0)), b 2 (.mv (I 0))]) (.seq (.reg [b 3 (.mv (I 1))]) (.seq (.seq (.reg [b 6 (.fa 3 (T 1)), b 7 (.ld false 1 (T 6)), b 8 (.ln (T 7)), b 9 (.mv (I 0))]) (.block 0 (.loop (.seq (.reg [b 10 (.sc (.bin .lss 3) [(T 9), (T 8)])]) (.seq (.cond (T 10) .skip (.exit 0)) (.seq (.block 1 (.seq (.reg [b 11 (.ia 4 (T 7) (T 9)), b 12 (.ld true 4 (T 11)), b 5 (.alloc [(.int .i64 0), (.int .i64 0), (.string ⟨#[]⟩), (.slice none 0 0)]), b0 (.st 4 (T 5) (T 12))]) (.reg [b 13 (.mv (T 3)), b 14 (.ld true 4 (T 5)), b 15 (.call 24 [(T 14)]), b 16 (.sc (.bin .add 3) [(T 13), (T 15)]), b 3 (.mv (T 16))]))) (.reg [b 17 (.sc (.bin .add 3) [(T 9), (I 1)]), b 9 (.mv (T 17))]))))))) (.seq (.reg [b 18 (.mv (T 3)), b 2 (.mv (T 18))]) .ret))))
theorem k24 : ∃ code, Tryz.prog.funcs[24]? = some Tryz.f24 ∧ Tryz.f24.body = some code ∧ comp Tryz.prog Tryz.f24.ntmps code = some c24 ∧ rvs Tryz.prog Tryz.f24.results.toList = some [(.t 2)] := ⟨_, Tryz.func24, rfl, by kernel_rfl, by kernel_rfl⟩
def c25 : ACode := (.seq (.reg [b 1 (.box (T 0)), b 2 (.mv (I 0))]) (.seq (.reg [b 3 (.mv (I 1))]) (.seq (.seq (.reg [b 4 (.mv (I 0))]) (.block 0 (.loop (.seq (.seq (.reg [b 5 (.mv (T 4)), b 6 (.fa 3 (T 1)), b 7 (.ld false 1 (T 6)), b 8 (.ln (T 7)), b 9 (.sc (.bin .lss 3) [(T 5), (T 8)])]) (.cond (T 9) .skip (.exit 0))) (.seq (.block 1 (.reg [b 12 (.mv (T 3)), b 13 (.fa 3 (T 1)), b 14 (.ld false 1 (T 13)), b 15 (.mv (T 4)), b 16 (.ia 4 (T 14) (T 15)), b 17 (.ld true 4 (T 16)), b 18 (.call 25 [(T 17)]), b 19 (.sc (.bin .add 3) [(T 12), (T 18)]), b 3 (.mv (T 19))])) (.reg [b 10 (.mv (T 4)), b 11 (.sc (.bin .add 3) [(T 10), (I 1)]), b 4 (.mv (T 11))])))))) (.seq (.reg [b 20 (.mv (T 3)), b 2 (.mv (T 20))]) .ret))))
theorem k25 : ∃ code, Tryz.prog.funcs[25]? = some Tryz.f25 ∧ Tryz.f25.body = some code ∧ comp Tryz.prog Tryz.f25.ntmps code = some c25 ∧ rvs Tryz.prog Tryz.f25.results.toList = some [(.t 2)] := ⟨_, Tryz.func25, rfl, by kernel_rfl, by kernel_rfl⟩
def c26 : ACode := (.seq (.reg [b 3 (.box (T 0)), b 6 (.mv (B false))]) (.seq (.seq (.reg [b 9 (.mv (T 1)), b 10 (.sc (.bin .lss 3) [(T 9), (I 0)]), b 11 (.mv (T 10)), bg 12 11 false (.ld true 4 (T 3)), bg 13 11 false (.mv (T 1)), bg 14 11 false (.mv (T 2)), bg 15 11 false (.call 45 [(T 12), (T 13), (T 14)]), bg 16 11 false (.sc (.un .not) [(T 15)]), b 17 (.pick (T 11) (B true) (T 16))]) (.cond (T 17) (.seq (.reg [b 6 (.mv (B false))]) .ret) .skip)) (.seq (.seq (.reg [b 18 (.fa 0 (T 3)), b 19 (.ld false 1 (T 18)), b 20 (.sc (.bin .eql 3) [(T 19), (I 2)])]) (.cond (T 20) (.reg [b 21 (.mv (T 1)), b 22 (.sc (.bin .add 3) [(T 21), (I 1)]), b 1 (.mv (T 22))]) .skip)) (.seq (.seq (.reg [b 23 (.fa 0 (T 3)), b 24 (.ld false 1 (T 23)), b 25 (.sc (.bin .eql 3) [(T 24), (I 6)])]) (.cond (T 25) (.reg [b 26 (.mv (T 1)), b 27 (.fa 1 (T 3)), b 28 (.ld false 1 (T 27)), b 29 (.sc (.bin .add 3) [(T 26), (T 28)]), b 1 (.mv (T 29))]) .skip)) (.seq (.seq (.reg [b 7 (.mv (I 0))]) (.block 0 (.loop (.seq (.seq (.reg [b 30 (.mv (T 7)), b 31 (.fa 3 (T 3)), b 32 (.ld false 1 (T 31)), b 33 (.ln (T 32)), b 34 (.sc (.bin .lss 3) [(T 30), (T 33)])]) (.cond (T 34) .skip (.exit 0))) (.seq (.block 1 (.seq (.seq (.reg [a 37 (.fa 3 (T 3)), a 38 (.ld false 1 (T 37)), a 39 (.mv (T 7)), a 40 (.ia 4 (T 38) (T 39)), a 41 (.ld true 4 (T 40)), a 42 (.mv (T 1)), b 43 (.fa 0 (T 3)), b 44 (.ld false 1 (T 43)), b 45 (.sc (.bin .eql 3) [(T 44), (I 5)]), b 46 (.mv (T 45)), bg 47 46 true (.mv (T 7)), bg 48 46 true (.sc (.bin .gtr 3) [(T 47), (I 0)]), b 49 (.pick (T 46) (T 48) (B false)), b 50 (.call 26 [(T 41), (T 42), (T 49)]), b 51 (.sc (.un .not) [(T 50)])]) (.cond (T 51) (.seq (.reg [b 6 (.mv (B false))]) .ret) .skip)) (.seq (.reg [b 8 (.mv (I 1))]) (.block 2 (.loop (.seq (.seq (.reg [b 52 (.mv (T 8)), b 53 (.mv (T 7)), b 54 (.sc (.bin .lss 3) [(T 52), (T 53)]), b 55 (.mv (T 54)), bg 56 55 true (.fa 0 (T 3)), bg 57 55 true (.ld false 1 (T 56)), bg 58 55 true (.sc (.bin .eql 3) [(T 57), (I 5)]), b 59 (.pick (T 55) (T 58) (B false))]) (.cond (T 59) .skip (.exit 2))) (.seq (.block 3 (.seq (.reg [a 62 (.fa 3 (T 3)), a 63 (.ld false 1 (T 62)), a 64 (.mv (T 8)), a 65 (.ia 4 (T 63) (T 64)), a 66 (.fa 2 (T 65)), a 67 (.ld false 1 (T 66)), a 68 (.fa 3 (T 3)), a 69 (.ld false 1 (T 68)), b 70 (.mv (T 7)), b 71 (.ia 4 (T 69) (T 70)), b 72 (.fa 2 (T 71)), b 73 (.ld false 1 (T 72)), b 74 (.sc (.bin .eql 9) [(T 67), (T 73)])]) (.cond (T 74) (.seq (.reg [b 6 (.mv (B false))]) .ret) .skip))) (.reg [b 60 (.mv (T 8)), b 61 (.sc (.bin .add 3) [(T 60), (I 1)]), b 8 (.mv (T 61))])))))))) (.reg [b 35 (.mv (T 7)), b 36 (.sc (.bin .add 3) [(T 35), (I 1)]), b 7 (.mv (T 36))])))))) (.seq (.reg [b 6 (.mv (B true))]) .ret))))))
theorem k26 : ∃ code, Tryz.prog.funcs[26]? = some Tryz.f26 ∧ Tryz.f26.body = some code ∧ comp Tryz.prog Tryz.f26.ntmps code = some c26 ∧ rvs Tryz.prog Tryz.f26.results.toList = some [(.t 6)] := ⟨_, Tryz.func26, rfl, by kernel_rfl, by kernel_rfl⟩
def c29 : ACode := (.seq (.reg [b 2 (.mv (S []))]) (.seq (.seq (.reg [b 5 (.mv (T 0)), b 6 (.sc (.bin .lss 3) [(T 5), (I 0)])]) (.cond (T 6) (.seq (.reg [b 3 (.mv (S []))]) (.seq (.seq (.reg [b 7 (.mv (T 0)), b 8 (.sc (.bin .quo 3) [(T 7), (I 10)]), b 9 (.sc (.bin .lss 3) [(T 8), (I 0)])]) (.cond (T 9) (.reg [b 10 (.mv (T 0)), b 11 (.sc (.bin .quo 3) [(T 10), (I 10)]), b 12 (.sc (.un .neg) [(T 11)]), b 13 (.call 29 [(T 12)]), b 3 (.mv (T 13))]) .skip)) (.seq (.reg [b 14 (.mv (T 3)), b 15 (.sc (.bin .add 9) [(S [45]), (T 14)]), b 16 (.mv (T 0)), b 17 (.sc (.bin .rem 3) [(T 16), (I 10)]), b 18 (.sc (.bin .sub 3) [(I 48), (T 17)]), b 19 (.sc (.cv 3 5) [(T 18)]), b 20 (.bs 5 1 [(T 19)]), b 21 (.bts (T 20)), b 22 (.sc (.bin .add 9) [(T 15), (T 21)]), b 2 (.mv (T 22))]) .ret))) .skip)) (.seq (.reg [b 23 (.mv (T 0)), b 24 (.sc (.bin .rem 3) [(T 23), (I 10)]), b 25 (.sc (.bin .add 3) [(I 48), (T 24)]), b 26 (.sc (.cv 3 5) [(T 25)]), b 27 (.bs 5 1 [(T 26)]), b 28 (.bts (T 27)), b 4 (.mv (T 28))]) (.seq (.seq (.reg [b 29 (.mv (T 0)), b 30 (.sc (.bin .geq 3) [(T 29), (I 10)])]) (.cond (T 30) (.reg [b 31 (.mv (T 0)), b 32 (.sc (.bin .quo 3) [(T 31), (I 10)]), b 33 (.call 29 [(T 32)]), b 34 (.mv (T 4)), b 35 (.sc (.bin .add 9) [(T 33), (T 34)]), b 4 (.mv (T 35))]) .skip)) (.seq (.reg [b 36 (.mv (T 4)), b 2 (.mv (T 36))]) .ret)))))
theorem k29 : ∃ code, Tryz.prog.funcs[29]? = some Tryz.f29 ∧ Tryz.f29.body = some code ∧ comp Tryz.prog Tryz.f29.ntmps code = some c29 ∧ rvs Tryz.prog Tryz.f29.results.toList = some [(.t 2)] := ⟨_, Tryz.func29, rfl, by kernel_rfl, by kernel_rfl⟩
def c39 : ACode := (.seq (.reg [b 1 (.box (T 0)), b 2 (.mv (B false))]) (.seq (.reg [b 3 (.fa 0 (T 1)), b 4 (.ld false 1 (T 3)), b 5 (.sc (.bin .eql 3) [(T 4), (I 2)]), b 6 (.mv (T 5)), bg 7 6 false (.fa 0 (T 1)), bg 8 6 false (.ld false 1 (T 7)), bg 9 6 false (.sc (.bin .eql 3) [(T 8), (I 4)]), b 10 (.pick (T 6) (B true) (T 9)), b 11 (.mv (T 10)), bg 12 11 false (.fa 0 (T 1)), bg 13 11 false (.ld false 1 (T 12)), bg 14 11 false (.sc (.bin .eql 3) [(T 13), (I 7)]), b 15 (.pick (T 11) (B true) (T 14)), b 16 (.mv (T 15)), bg 17 16 false (.fa 0 (T 1)), bg 18 16 false (.ld false 1 (T 17)), bg 19 16 false (.sc (.bin .eql 3) [(T 18), (I 9)]), b 20 (.pick (T 16) (B true) (T 19)), b 2 (.mv (T 20))]) .ret))
theorem k39 : ∃ code, Tryz.prog.funcs[39]? = some Tryz.f39 ∧ Tryz.f39.body = some code ∧ comp Tryz.prog Tryz.f39.ntmps code = some c39 ∧ rvs Tryz.prog Tryz.f39.results.toList = some [(.t 2)] := ⟨_, Tryz.func39, rfl, by kernel_rfl, by kernel_rfl⟩
def c40 : ACode := (.seq (.reg [b 2 (.box (T 0)), b 4 (.alloc [(.int .i64 0), (.int .i64 0), (.string ⟨#[]⟩), (.slice none 0 0)]), b 5 (.mv (I 0))]) (.seq (.reg [b 10 (.fa 3 (T 2)), b 11 (.ld false 1 (T 10)), b 12 (.mv (T 1)), b 13 (.ia 4 (T 11) (T 12)), b 14 (.ld true 4 (T 13)), b 15 (.call 23 [(T 14)]), b 9 (.mv (T 15)), b 16 (.ex (T 9) 0), b 17 (.ex (T 9) 1), b 6 (.alloc [(.int .i64 0), (.int .i64 0), (.string ⟨#[]⟩), (.slice none 0 0)]), b0 (.st 4 (T 6) (T 16)), b 7 (.mv (T 17))]) (.seq (.seq (.reg [b 18 (.mv (T 7)), b 19 (.sc (.bin .eql 3) [(T 18), (I 0)])]) (.cond (T 19) (.seq (.reg [b 20 (.ld true 4 (T 2)), b0 (.st 4 (T 4) (T 20)), b 5 (.mv (I 0))]) .ret) .skip)) (.seq (.reg [b 21 (.fa 0 (T 2)), b 22 (.ld false 1 (T 21)), b 23 (.fa 1 (T 2)), b 24 (.ld false 1 (T 23)), b 25 (.fa 2 (T 2)), b 26 (.ld false 1 (T 25)), b 27 (.bld [(.int .i64 0), (.int .i64 0), (.string ⟨#[]⟩), (.slice none 0 0)] [(0, (1, (T 22))), (1, (1, (T 24))), (2, (1, (T 26)))]), b 8 (.alloc [(.int .i64 0), (.int .i64 0), (.string ⟨#[]⟩), (.slice none 0 0)]), b0 (.st 4 (T 8) (T 27))]) (.seq (.reg [b 28 (.fa 3 (T 8)), b 29 (.ld false 1 (T 28)), b 30 (.fa 3 (T 2)), b 31 (.ld false 1 (T 30)), b 32 (.ap 24 4 56 (T 29) (T 31)), b 33 (.fa 3 (T 8)), b0 (.st 1 (T 33) (T 32))]) (.seq (.reg [b 34 (.fa 3 (T 8)), b 35 (.ld false 1 (T 34)), b 36 (.mv (T 1)), b 37 (.ld true 4 (T 6)), b 38 (.ia 4 (T 35) (T 36)), b0 (.st 4 (T 38) (T 37))]) (.seq (.reg [b 39 (.ld true 4 (T 8)), b 40 (.mv (T 7)), b0 (.st 4 (T 4) (T 39)), b 5 (.mv (T 40))]) .ret)))))))
theorem k40 : ∃ code, Tryz.prog.funcs[40]? = some Tryz.f40 ∧ Tryz.f40.body = some code ∧ comp Tryz.prog Tryz.f40.ntmps code = some c40 ∧ rvs Tryz.prog Tryz.f40.results.toList = some [(.c true 4 4), (.t 5)] := ⟨_, Tryz.func40, rfl, by kernel_rfl, by kernel_rfl⟩
def c41 : ACode := (.seq (.reg [b 1 (.box (T 0)), b 2 (.alloc [(.int .i64 0), (.int .i64 0), (.string ⟨#[]⟩), (.slice none 0 0)]), b 3 (.mv (I 0))]) (.seq (.reg [b 6 (.fa 3 (T 1)), b 7 (.ld false 1 (T 6)), b 8 (.ia 4 (T 7) (I 0)), b 9 (.ld true 4 (T 8)), b 4 (.alloc [(.int .i64 0), (.int .i64 0), (.string ⟨#[]⟩), (.slice none 0 0)]), b0 (.st 4 (T 4) (T 9))]) (.seq (.seq (.reg [b 5 (.mv (I 1))]) (.block 0 (.loop (.seq (.seq (.reg [b 10 (.mv (T 5)), b 11 (.fa 3 (T 1)), b 12 (.ld false 1 (T 11)), b 13 (.ln (T 12)), b 14 (.sc (.bin .lss 3) [(T 10), (T 13)]), b 15 (.mv (T 14)), bg 16 15 true (.fa 0 (T 4)), bg 17 15 true (.ld false 1 (T 16)), bg 18 15 true (.sc (.bin .eql 3) [(T 17), (I 4)]), b 19 (.pick (T 15) (T 18) (B false))]) (.cond (T 19) .skip (.exit 0))) (.seq (.block 1 (.seq (.reg [a 22 (.fa 3 (T 1)), a 23 (.ld false 1 (T 22)), a 24 (.mv (T 5)), a 25 (.ia 4 (T 23) (T 24)), a 26 (.fa 2 (T 25)), a 27 (.ld false 1 (T 26)), b 28 (.fa 2 (T 4)), b 29 (.ld false 1 (T 28)), b 30 (.sc (.bin .eql 9) [(T 27), (T 29)]), b 31 (.mv (T 30)), ag 32 31 true (.fa 3 (T 1)), ag 33 31 true (.ld false 1 (T 32)), ag 34 31 true (.mv (T 5)), ag 35 31 true (.ia 4 (T 33) (T 34)), ag 36 31 true (.fa 1 (T 35)), ag 37 31 true (.ld false 1 (T 36)), bg 38 31 true (.fa 3 (T 4)), bg 39 31 true (.ld false 1 (T 38)), bg 40 31 true (.ln (T 39)), bg 41 31 true (.sc (.bin .eql 3) [(T 37), (T 40)]), b 42 (.pick (T 31) (T 41) (B false))]) (.cond (T 42) (.seq (.reg [a 43 (.fa 3 (T 1)), a 44 (.ld false 1 (T 43)), a 45 (.mv (T 5)), a 46 (.ia 4 (T 44) (T 45)), a 47 (.fa 3 (T 46)), a 48 (.ld false 1 (T 47)), a 49 (.ia 4 (T 48) (I 0)), a 50 (.ld true 4 (T 49)), b 51 (.fa 3 (T 4)), b 52 (.ld false 1 (T 51)), b 53 (.call 63 [(T 50), (T 52)]), b0 (.st 4 (T 2) (T 53)), b 3 (.mv (I 2))]) .ret) .skip))) (.reg [b 20 (.mv (T 5)), b 21 (.sc (.bin .add 3) [(T 20), (I 1)]), b 5 (.mv (T 21))])))))) (.seq (.reg [b 54 (.call 43 []), b 55 (.ex (T 54) 0), b 56 (.ex (T 54) 1), b0 (.st 4 (T 2) (T 55)), b 3 (.mv (T 56))]) .ret))))
theorem k41 : ∃ code, Tryz.prog.funcs[41]? = some Tryz.f41 ∧ Tryz.f41.body = some code ∧ comp Tryz.prog Tryz.f41.ntmps code = some c41 ∧ rvs Tryz.prog Tryz.f41.results.toList = some [(.c true 4 2), (.t 3)] := ⟨_, Tryz.func41, rfl, by kernel_rfl, by kernel_rfl⟩
def c42 : ACode := (.seq (.reg [b 3 (.box (T 0)), b 5 (.box (T 2)), b 6 (.alloc [(.int .i64 0), (.int .i64 0), (.string ⟨#[]⟩), (.slice none 0 0)])]) (.seq (.reg [b 7 (.ld true 4 (T 3)), b 8 (.mv (T 1)), b 9 (.ld true 4 (T 5)), b 10 (.call 64 [(T 7), (T 8), (T 9), (I 0)]), b0 (.st 4 (T 6) (T 10))]) .ret))
theorem k42 : ∃ code, Tryz.prog.funcs[42]? = some Tryz.f42 ∧ Tryz.f42.body = some code ∧ comp Tryz.prog Tryz.f42.ntmps code = some c42 ∧ rvs Tryz.prog Tryz.f42.results.toList = some [(.c true 4 6)] := ⟨_, Tryz.func42, rfl, by kernel_rfl, by kernel_rfl⟩
def c43 : ACode := (.seq (.reg [b 0 (.alloc [(.int .i64 0), (.int .i64 0), (.string ⟨#[]⟩), (.slice none 0 0)]), b 1 (.mv (I 0))]) (.seq (.reg [b 2 (.bld [(.int .i64 0), (.int .i64 0), (.string ⟨#[]⟩), (.slice none 0 0)] [(0, (1, (I 9)))]), b0 (.st 4 (T 0) (T 2)), b 1 (.mv (I 4))]) .ret))
theorem k43 : ∃ code, Tryz.prog.funcs[43]? = some Tryz.f43 ∧ Tryz.f43.body = some code ∧ comp Tryz.prog Tryz.f43.ntmps code = some c43 ∧ rvs Tryz.prog Tryz.f43.results.toList = some [(.c true 4 0), (.t 1)] := ⟨_, Tryz.func43, rfl, by kernel_rfl, by kernel_rfl⟩
def c44 : ACode := (.seq (.reg [b 6 (.alloc [(.int .i64 0), (.int .i64 0), (.string ⟨#[]⟩), (.slice none 0 0)]), b 7 (.mv (I 0))]) (.seq (.seq (.reg [b 8 (.mv (T 0))]) (.block 0 (.seq (.reg [b 10 (.sc (.bin .eql 9) [(T 8), (S [43])]), b 9 (.mv (T 10))]) (.cond (T 9) (.seq (.reg [b 11 (.mv (T 1)), b 12 (.mv (T 2)), b 13 (.sc (.bin .add 3) [(T 11), (T 12)]), b 14 (.call 65 [(T 13)]), b 15 (.ex (T 14) 0), b 16 (.ex (T 14) 1), b0 (.st 4 (T 6) (T 15)), b 7 (.mv (T 16))]) .ret) (.seq (.reg [b 18 (.sc (.bin .eql 9) [(T 8), (S [45])]), b 17 (.mv (T 18))]) (.cond (T 17) (.seq (.reg [b 19 (.mv (T 1)), b 20 (.mv (T 2)), b 21 (.sc (.bin .sub 3) [(T 19), (T 20)]), b 22 (.call 65 [(T 21)]), b 23 (.ex (T 22) 0), b 24 (.ex (T 22) 1), b0 (.st 4 (T 6) (T 23)), b 7 (.mv (T 24))]) .ret) (.seq (.reg [b 26 (.sc (.bin .eql 9) [(T 8), (S [42])]), b 25 (.mv (T 26))]) (.cond (T 25) (.seq (.reg [b 27 (.mv (T 1)), b 28 (.mv (T 2)), b 29 (.sc (.bin .mul 3) [(T 27), (T 28)]), b 30 (.call 65 [(T 29)]), b 31 (.ex (T 30) 0), b 32 (.ex (T 30) 1), b0 (.st 4 (T 6) (T 31)), b 7 (.mv (T 32))]) .ret) (.seq (.reg [b 34 (.sc (.bin .eql 9) [(T 8), (S [47])]), b 33 (.mv (T 34))]) (.cond (T 33) (.seq (.seq (.reg [b 35 (.mv (T 2)), b 36 (.sc (.bin .eql 3) [(T 35), (I 0)])]) (.cond (T 36) (.seq (.reg [b 37 (.call 43 []), b 38 (.ex (T 37) 0), b 39 (.ex (T 37) 1), b0 (.st 4 (T 6) (T 38)), b 7 (.mv (T 39))]) .ret) .skip)) (.seq (.seq (.reg [b 40 (.mv (T 2)), b 41 (.sc (.bin .eql 3) [(T 40), (I (-1))])]) (.cond (T 41) (.seq (.reg [b 42 (.mv (T 1)), b 43 (.sc (.un .neg) [(T 42)]), b 44 (.call 65 [(T 43)]), b 45 (.ex (T 44) 0), b 46 (.ex (T 44) 1), b0 (.st 4 (T 6) (T 45)), b 7 (.mv (T 46))]) .ret) .skip)) (.seq (.reg [b 47 (.mv (T 1)), b 48 (.mv (T 2)), b 49 (.sc (.bin .quo 3) [(T 47), (T 48)]), b 50 (.call 65 [(T 49)]), b 51 (.ex (T 50) 0), b 52 (.ex (T 50) 1), b0 (.st 4 (T 6) (T 51)), b 7 (.mv (T 52))]) .ret))) .skip)))))))))) (.seq (.seq (.reg [b 53 (.mv (T 0)), b 54 (.sc (.bin .eql 9) [(T 53), (S [60])]), b 55 (.mv (T 54)), bg 56 55 true (.mv (T 1)), bg 57 55 true (.mv (T 2)), bg 58 55 true (.sc (.bin .lss 3) [(T 56), (T 57)]), b 59 (.pick (T 55) (T 58) (B false)), b 60 (.mv (T 59)), bg 61 60 false (.mv (T 0)), bg 62 60 false (.sc (.bin .eql 9) [(T 61), (S [61, 61])]), bg 63 60 false (.mv (T 62)), bg 64 63 true (.mv (T 1)), bg 65 63 true (.mv (T 2)), bg 66 63 true (.sc (.bin .eql 3) [(T 64), (T 65)]), bg 67 60 false (.pick (T 63) (T 66) (B false)), b 68 (.pick (T 60) (B true) (T 67))]) (.cond (T 68) (.seq (.reg [b 69 (.bld [(.int .i64 0), (.int .i64 0), (.string ⟨#[]⟩), (.slice none 0 0)] [(0, (1, (I 4))), (2, (1, (S [84, 114, 117, 101])))]), b0 (.st 4 (T 6) (T 69)), b 7 (.mv (I 3))]) .ret) .skip)) (.seq (.reg [b 70 (.bld [(.int .i64 0), (.int .i64 0), (.string ⟨#[]⟩), (.slice none 0 0)] [(0, (1, (I 4))), (2, (1, (S [70, 97, 108, 115, 101])))]), b0 (.st 4 (T 6) (T 70)), b 7 (.mv (I 3))]) .ret))))
theorem k44 : ∃ code, Tryz.prog.funcs[44]? = some Tryz.f44 ∧ Tryz.f44.body = some code ∧ comp Tryz.prog Tryz.f44.ntmps code = some c44 ∧ rvs Tryz.prog Tryz.f44.results.toList = some [(.c true 4 6), (.t 7)] := ⟨_, Tryz.func44, rfl, by kernel_rfl, by kernel_rfl⟩
def c45 : ACode := (.seq (.reg [b 3 (.box (T 0)), b 6 (.mv (B false))]) (.seq (.reg [b 10 (.fa 3 (T 3)), b 11 (.ld false 1 (T 10)), b 12 (.ln (T 11)), b 7 (.mv (T 12))]) (.seq (.reg [b 13 (.fa 2 (T 3)), b 14 (.ld false 1 (T 13)), b 15 (.sc (.bin .eql 9) [(T 14), (S [43])]), b 16 (.mv (T 15)), bg 17 16 false (.fa 2 (T 3)), bg 18 16 false (.ld false 1 (T 17)), bg 19 16 false (.sc (.bin .eql 9) [(T 18), (S [45])]), b 20 (.pick (T 16) (B true) (T 19)), b 21 (.mv (T 20)), bg 22 21 false (.fa 2 (T 3)), bg 23 21 false (.ld false 1 (T 22)), bg 24 21 false (.sc (.bin .eql 9) [(T 23), (S [42])]), b 25 (.pick (T 21) (B true) (T 24)), b 26 (.mv (T 25)), bg 27 26 false (.fa 2 (T 3)), bg 28 26 false (.ld false 1 (T 27)), bg 29 26 false (.sc (.bin .eql 9) [(T 28), (S [47])]), b 30 (.pick (T 26) (B true) (T 29)), b 31 (.mv (T 30)), bg 32 31 false (.fa 2 (T 3)), bg 33 31 false (.ld false 1 (T 32)), bg 34 31 false (.sc (.bin .eql 9) [(T 33), (S [60])]), b 35 (.pick (T 31) (B true) (T 34)), b 36 (.mv (T 35)), bg 37 36 false (.fa 2 (T 3)), bg 38 36 false (.ld false 1 (T 37)), bg 39 36 false (.sc (.bin .eql 9) [(T 38), (S [61, 61])]), b 40 (.pick (T 36) (B true) (T 39)), b 8 (.mv (T 40))]) (.seq (.reg [b 41 (.fa 2 (T 3)), b 42 (.ld false 1 (T 41)), b 43 (.sc (.bin .eql 9) [(T 42), (S [])]), b 44 (.mv (T 43)), bg 45 44 true (.fa 1 (T 3)), bg 46 44 true (.ld false 1 (T 45)), bg 47 44 true (.sc (.bin .eql 3) [(T 46), (I 0)]), b 48 (.pick (T 44) (T 47) (B false)), b 9 (.mv (T 48))]) (.seq (.seq (.reg [b 49 (.mv (T 2))]) (.cond (T 49) (.seq (.reg [b 50 (.fa 0 (T 3)), b 51 (.ld false 1 (T 50)), b 52 (.sc (.bin .eql 3) [(T 51), (I 6)]), b 53 (.mv (T 52)), bg 54 53 true (.fa 2 (T 3)), bg 55 53 true (.ld false 1 (T 54)), bg 56 53 true (.call 66 [(T 55)]), b 57 (.pick (T 53) (T 56) (B false)), b 58 (.mv (T 57)), bg 59 58 true (.fa 1 (T 3)), bg 60 58 true (.ld false 1 (T 59)), bg 61 58 true (.sc (.bin .geq 3) [(T 60), (I 0)]), b 62 (.pick (T 58) (T 61) (B false)), b 63 (.mv (T 62)), bg 64 63 true (.fa 1 (T 3)), bg 65 63 true (.ld false 1 (T 64)), bg 66 63 true (.sc (.bin .leq 3) [(T 65), (I 8)]), b 67 (.pick (T 63) (T 66) (B false)), b 68 (.mv (T 67)), bg 69 68 true (.mv (T 7)), bg 70 68 true (.sc (.bin .eql 3) [(T 69), (I 1)]), b 71 (.pick (T 68) (T 70) (B false)), b 6 (.mv (T 71))]) .ret) .skip)) (.seq (.seq (.reg [b 72 (.fa 0 (T 3)), b 73 (.ld false 1 (T 72))]) (.block 0 (.seq (.reg [b 75 (.sc (.bin .eql 3) [(T 73), (I 1)]), b 74 (.mv (T 75))]) (.cond (T 74) (.seq (.reg [b 76 (.fa 2 (T 3)), b 77 (.ld false 1 (T 76)), b 78 (.sc (.bin .eql 9) [(T 77), (S [])]), b 79 (.mv (T 78)), bg 80 79 true (.mv (T 7)), bg 81 79 true (.sc (.bin .eql 3) [(T 80), (I 0)]), b 82 (.pick (T 79) (T 81) (B false)), b 83 (.mv (T 82)), bg 84 83 true (.fa 1 (T 3)), bg 85 83 true (.ld false 1 (T 84)), bg 86 83 true (.sc (.bin .geq 3) [(T 85), (I 0)]), b 87 (.pick (T 83) (T 86) (B false)), b 88 (.mv (T 87)), bg 89 88 true (.fa 1 (T 3)), bg 90 88 true (.ld false 1 (T 89)), bg 91 88 true (.mv (T 1)), bg 92 88 true (.sc (.bin .lss 3) [(T 90), (T 91)]), b 93 (.pick (T 88) (T 92) (B false)), b 6 (.mv (T 93))]) .ret) (.seq (.reg [b 95 (.sc (.bin .eql 3) [(T 73), (I 2)]), b 94 (.mv (T 95))]) (.cond (T 94) (.seq (.reg [b 96 (.mv (T 9)), b 97 (.mv (T 96)), bg 98 97 true (.mv (T 7)), bg 99 97 true (.sc (.bin .eql 3) [(T 98), (I 1)]), b 100 (.pick (T 97) (T 99) (B false)), b 6 (.mv (T 100))]) .ret) (.seq (.reg [b 102 (.sc (.bin .eql 3) [(T 73), (I 3)]), b 101 (.mv (T 102))]) (.cond (T 101) (.seq (.reg [b 103 (.mv (T 9)), b 104 (.mv (T 103)), bg 105 104 true (.mv (T 7)), bg 106 104 true (.sc (.bin .eql 3) [(T 105), (I 2)]), b 107 (.pick (T 104) (T 106) (B false)), b 6 (.mv (T 107))]) .ret) (.seq (.reg [b 109 (.sc (.bin .eql 3) [(T 73), (I 4)]), b 108 (.mv (T 109))]) (.cond (T 108) (.seq (.reg [b 110 (.fa 2 (T 3)), b 111 (.ld false 1 (T 110)), b 112 (.call 66 [(T 111)]), b 113 (.mv (T 112)), bg 114 113 true (.fa 1 (T 3)), bg 115 113 true (.ld false 1 (T 114)), bg 116 113 true (.sc (.bin .eql 3) [(T 115), (I 0)]), b 117 (.pick (T 113) (T 116) (B false)), b 118 (.mv (T 117)), bg 119 118 true (.mv (T 7)), bg 120 118 true (.sc (.bin .leq 3) [(T 119), (I 8)]), b 121 (.pick (T 118) (T 120) (B false)), b 6 (.mv (T 121))]) .ret) (.seq (.reg [b 123 (.sc (.bin .eql 3) [(T 73), (I 5)]), b 122 (.mv (T 123))]) (.cond (T 122) (.seq (.reg [b 124 (.mv (T 9)), b 125 (.mv (T 124)), bg 126 125 true (.mv (T 7)), bg 127 125 true (.sc (.bin .geq 3) [(T 126), (I 2)]), b 128 (.pick (T 125) (T 127) (B false)), b 129 (.mv (T 128)), bg 130 129 true (.mv (T 7)), bg 131 129 true (.sc (.bin .leq 3) [(T 130), (I 9)]), b 132 (.pick (T 129) (T 131) (B false)), b 6 (.mv (T 132))]) .ret) (.seq (.reg [b 134 (.sc (.bin .eql 3) [(T 73), (I 7)]), b 133 (.mv (T 134))]) (.cond (T 133) (.seq (.reg [b 135 (.fa 2 (T 3)), b 136 (.ld false 1 (T 135)), b 137 (.sc (.bin .eql 9) [(T 136), (S [])]), b 138 (.mv (T 137)), bg 139 138 true (.mv (T 7)), bg 140 138 true (.sc (.bin .eql 3) [(T 139), (I 0)]), b 141 (.pick (T 138) (T 140) (B false)), b 6 (.mv (T 141))]) .ret) (.seq (.reg [b 143 (.sc (.bin .eql 3) [(T 73), (I 8)]), b 142 (.mv (T 143))]) (.cond (T 142) (.seq (.reg [b 144 (.mv (T 8)), b 145 (.mv (T 144)), bg 146 145 true (.fa 1 (T 3)), bg 147 145 true (.ld false 1 (T 146)), bg 148 145 true (.sc (.bin .eql 3) [(T 147), (I 0)]), b 149 (.pick (T 145) (T 148) (B false)), b 150 (.mv (T 149)), bg 151 150 true (.mv (T 7)), bg 152 150 true (.sc (.bin .eql 3) [(T 151), (I 2)]), b 153 (.pick (T 150) (T 152) (B false)), b 6 (.mv (T 153))]) .ret) (.seq (.reg [b 155 (.sc (.bin .eql 3) [(T 73), (I 9)]), b 154 (.mv (T 155))]) (.cond (T 154) (.seq (.reg [b 156 (.mv (T 9)), b 157 (.mv (T 156)), bg 158 157 true (.mv (T 7)), bg 159 157 true (.sc (.bin .eql 3) [(T 158), (I 0)]), b 160 (.pick (T 157) (T 159) (B false)), b 6 (.mv (T 160))]) .ret) .skip)))))))))))))))))) (.seq (.reg [b 6 (.mv (B false))]) .ret)))))))
theorem k45 : ∃ code, Tryz.prog.funcs[45]? = some Tryz.f45 ∧ Tryz.f45.body = some code ∧ comp Tryz.prog Tryz.f45.ntmps code = some c45 ∧ rvs Tryz.prog Tryz.f45.results.toList = some [(.t 6)] := ⟨_, Tryz.func45, rfl, by kernel_rfl, by kernel_rfl⟩
def c63 : ACode := (.seq (.reg [b 2 (.box (T 0)), b 4 (.alloc [(.int .i64 0), (.int .i64 0), (.string ⟨#[]⟩), (.slice none 0 0)])]) (.seq (.reg [b 5 (.ld true 4 (T 2)), b 6 (.mv (T 1)), b 7 (.call 93 [(T 5), (T 6), (I 0)]), b0 (.st 4 (T 4) (T 7))]) .ret))
theorem k63 : ∃ code, Tryz.prog.funcs[63]? = some Tryz.f63 ∧ Tryz.f63.body = some code ∧ comp Tryz.prog Tryz.f63.ntmps code = some c63 ∧ rvs Tryz.prog Tryz.f63.results.toList = some [(.c true 4 4)] := ⟨_, Tryz.func63, rfl, by kernel_rfl, by kernel_rfl⟩
def c64 : ACode := (.seq (.reg [b 4 (.box (T 0)), b 6 (.box (T 2)), b 8 (.alloc [(.int .i64 0), (.int .i64 0), (.string ⟨#[]⟩), (.slice none 0 0)])]) (.seq (.seq (.reg [b 11 (.fa 0 (T 4)), b 12 (.ld false 1 (T 11)), b 13 (.sc (.bin .eql 3) [(T 12), (I 1)])]) (.cond (T 13) (.seq (.seq (.reg [b 14 (.fa 1 (T 4)), b 15 (.ld false 1 (T 14)), b 16 (.mv (T 1)), b 17 (.mv (T 3)), b 18 (.sc (.bin .add 3) [(T 16), (T 17)]), b 19 (.sc (.bin .eql 3) [(T 15), (T 18)])]) (.cond (T 19) (.seq (.reg [b 20 (.ld true 4 (T 6)), b 21 (.mv (T 3)), b 22 (.call 94 [(T 20), (T 21), (I 0)]), b0 (.st 4 (T 8) (T 22))]) .ret) .skip)) (.seq (.seq (.reg [b 23 (.fa 1 (T 4)), b 24 (.ld false 1 (T 23)), b 25 (.mv (T 1)), b 26 (.mv (T 3)), b 27 (.sc (.bin .add 3) [(T 25), (T 26)]), b 28 (.sc (.bin .gtr 3) [(T 24), (T 27)])]) (.cond (T 28) (.reg [b 29 (.fa 1 (T 4)), b 30 (.ld false 1 (T 29)), b 31 (.sc (.bin .sub 3) [(T 30), (I 1)]), b 32 (.fa 1 (T 4)), b0 (.st 1 (T 32) (T 31))]) .skip)) (.seq (.reg [b 33 (.ld true 4 (T 4)), b0 (.st 4 (T 8) (T 33))]) .ret))) .skip)) (.seq (.reg [b 34 (.fa 0 (T 4)), b 35 (.ld false 1 (T 34)), b 36 (.fa 1 (T 4)), b 37 (.ld false 1 (T 36)), b 38 (.fa 2 (T 4)), b 39 (.ld false 1 (T 38)), b 40 (.bld [(.int .i64 0), (.int .i64 0), (.string ⟨#[]⟩), (.slice none 0 0)] [(0, (1, (T 35))), (1, (1, (T 37))), (2, (1, (T 39)))]), b 9 (.alloc [(.int .i64 0), (.int .i64 0), (.string ⟨#[]⟩), (.slice none 0 0)]), b0 (.st 4 (T 9) (T 40))]) (.seq (.seq (.reg [b 10 (.mv (I 0))]) (.block 0 (.loop (.seq (.seq (.reg [b 41 (.mv (T 10)), b 42 (.fa 3 (T 4)), b 43 (.ld false 1 (T 42)), b 44 (.ln (T 43)), b 45 (.sc (.bin .lss 3) [(T 41), (T 44)])]) (.cond (T 45) .skip (.exit 0))) (.seq (.block 1 (.reg [a 48 (.fa 3 (T 9)), a 49 (.ld false 1 (T 48)), a 50 (.fa 3 (T 4)), a 51 (.ld false 1 (T 50)), a 52 (.mv (T 10)), a 53 (.ia 4 (T 51) (T 52)), a 54 (.ld true 4 (T 53)), a 55 (.mv (T 1)), a 56 (.ld true 4 (T 6)), a 57 (.mv (T 3)), b 58 (.ld true 4 (T 4)), b 59 (.call 95 [(T 58)]), b 60 (.sc (.bin .add 3) [(T 57), (T 59)]), b 61 (.call 64 [(T 54), (T 55), (T 56), (T 60)]), b 62 (.bs 24 4 [(T 61)]), b 63 (.ap 24 4 56 (T 49) (T 62)), b 64 (.fa 3 (T 9)), b0 (.st 1 (T 64) (T 63))])) (.reg [b 46 (.mv (T 10)), b 47 (.sc (.bin .add 3) [(T 46), (I 1)]), b 10 (.mv (T 47))])))))) (.seq (.reg [b 65 (.ld true 4 (T 9)), b0 (.st 4 (T 8) (T 65))]) .ret)))))
theorem k64 : ∃ code, Tryz.prog.funcs[64]? = some Tryz.f64 ∧ Tryz.f64.body = some code ∧ comp Tryz.prog Tryz.f64.ntmps code = some c64 ∧ rvs Tryz.prog Tryz.f64.results.toList = some [(.c true 4 8)] := ⟨_, Tryz.func64, rfl, by kernel_rfl, by kernel_rfl⟩
def c65 : ACode := (.seq (.reg [b 2 (.alloc [(.int .i64 0), (.int .i64 0), (.string ⟨#[]⟩), (.slice none 0 0)]), b 3 (.mv (I 0))]) (.seq (.reg [b 4 (.mv (T 0)), b 5 (.bld [(.int .i64 0), (.int .i64 0), (.string ⟨#[]⟩), (.slice none 0 0)] [(0, (1, (I 7))), (1, (1, (T 4)))]), b0 (.st 4 (T 2) (T 5)), b 3 (.mv (I 3))]) .ret))
theorem k65 : ∃ code, Tryz.prog.funcs[65]? = some Tryz.f65 ∧ Tryz.f65.body = some code ∧ comp Tryz.prog Tryz.f65.ntmps code = some c65 ∧ rvs Tryz.prog Tryz.f65.results.toList = some [(.c true 4 2), (.t 3)] := ⟨_, Tryz.func65, rfl, by kernel_rfl, by kernel_rfl⟩
def c66 : ACode := (.seq (.reg [b 2 (.mv (B false))]) (.seq (.seq (.reg [b 5 (.mv (T 0)), b 6 (.sc (.bin .eql 9) [(T 5), (S [])])]) (.cond (T 6) (.seq (.reg [b 2 (.mv (B false))]) .ret) .skip)) (.seq (.reg [b 8 (.mv (T 0)), b 9 (.call 68 [(T 8), (I 0)]), b 7 (.mv (T 9)), b 10 (.ex (T 7) 0), b 11 (.ex (T 7) 1), b 3 (.alloc [(.int .i64 0), (.string ⟨#[]⟩), (.int .i64 0), (.int .i64 0)]), b0 (.st 4 (T 3) (T 10)), b 4 (.mv (T 11))]) (.seq (.reg [b 12 (.mv (T 4)), b 13 (.sc (.bin .eql 30) [(T 12), (I 0)]), b 14 (.mv (T 13)), bg 15 14 true (.fa 0 (T 3)), bg 16 14 true (.ld false 1 (T 15)), bg 17 14 true (.sc (.bin .eql 3) [(T 16), (I 2)]), b 18 (.pick (T 14) (T 17) (B false)), b 19 (.mv (T 18)), bg 20 19 true (.fa 1 (T 3)), bg 21 19 true (.ld false 1 (T 20)), bg 22 19 true (.mv (T 0)), bg 23 19 true (.sc (.bin .eql 9) [(T 21), (T 22)]), b 24 (.pick (T 19) (T 23) (B false)), b 2 (.mv (T 24))]) .ret))))
theorem k66 : ∃ code, Tryz.prog.funcs[66]? = some Tryz.f66 ∧ Tryz.f66.body = some code ∧ comp Tryz.prog Tryz.f66.ntmps code = some c66 ∧ rvs Tryz.prog Tryz.f66.results.toList = some [(.t 2)] := ⟨_, Tryz.func66, rfl, by kernel_rfl, by kernel_rfl⟩
def c93 : ACode := (.seq (.reg [b 3 (.box (T 0)), b 6 (.alloc [(.int .i64 0), (.int .i64 0), (.string ⟨#[]⟩), (.slice none 0 0)])]) (.seq (.seq (.reg [b 9 (.fa 0 (T 3)), b 10 (.ld false 1 (T 9)), b 11 (.sc (.bin .eql 3) [(T 10), (I 1)])]) (.cond (T 11) (.seq (.seq (.reg [b 12 (.fa 1 (T 3)), b 13 (.ld false 1 (T 12)), b 14 (.mv (T 2)), b 15 (.sc (.bin .lss 3) [(T 13), (T 14)])]) (.cond (T 15) (.seq (.reg [b 16 (.ld true 4 (T 3)), b0 (.st 4 (T 6) (T 16))]) .ret) .skip)) (.seq (.seq (.reg [b 17 (.fa 1 (T 3)), b 18 (.ld false 1 (T 17)), b 19 (.mv (T 2)), b 20 (.mv (T 1)), b 21 (.ln (T 20)), b 22 (.sc (.bin .add 3) [(T 19), (T 21)]), b 23 (.sc (.bin .lss 3) [(T 18), (T 22)])]) (.cond (T 23) (.seq (.reg [b 24 (.mv (T 1)), b 25 (.mv (T 1)), b 26 (.ln (T 25)), b 27 (.sc (.bin .sub 3) [(T 26), (I 1)]), b 28 (.fa 1 (T 3)), b 29 (.ld false 1 (T 28)), b 30 (.mv (T 2)), b 31 (.sc (.bin .sub 3) [(T 29), (T 30)]), b 32 (.sc (.bin .sub 3) [(T 27), (T 31)]), b 33 (.ia 4 (T 24) (T 32)), b 34 (.ld true 4 (T 33)), b 35 (.mv (T 2)), b 36 (.call 94 [(T 34), (T 35), (I 0)]), b0 (.st 4 (T 6) (T 36))]) .ret) .skip)) (.seq (.reg [b 37 (.fa 1 (T 3)), b 38 (.ld false 1 (T 37)), b 39 (.mv (T 1)), b 40 (.ln (T 39)), b 41 (.sc (.bin .sub 3) [(T 38), (T 40)]), b 42 (.fa 1 (T 3)), b0 (.st 1 (T 42) (T 41))]) (.seq (.reg [b 43 (.ld true 4 (T 3)), b0 (.st 4 (T 6) (T 43))]) .ret)))) .skip)) (.seq (.reg [b 44 (.fa 0 (T 3)), b 45 (.ld false 1 (T 44)), b 46 (.fa 1 (T 3)), b 47 (.ld false 1 (T 46)), b 48 (.fa 2 (T 3)), b 49 (.ld false 1 (T 48)), b 50 (.bld [(.int .i64 0), (.int .i64 0), (.string ⟨#[]⟩), (.slice none 0 0)] [(0, (1, (T 45))), (1, (1, (T 47))), (2, (1, (T 49)))]), b 7 (.alloc [(.int .i64 0), (.int .i64 0), (.string ⟨#[]⟩), (.slice none 0 0)]), b0 (.st 4 (T 7) (T 50))]) (.seq (.seq (.reg [b 8 (.mv (I 0))]) (.block 0 (.loop (.seq (.seq (.reg [b 51 (.mv (T 8)), b 52 (.fa 3 (T 3)), b 53 (.ld false 1 (T 52)), b 54 (.ln (T 53)), b 55 (.sc (.bin .lss 3) [(T 51), (T 54)])]) (.cond (T 55) .skip (.exit 0))) (.seq (.block 1 (.reg [a 58 (.fa 3 (T 7)), a 59 (.ld false 1 (T 58)), a 60 (.fa 3 (T 3)), a 61 (.ld false 1 (T 60)), a 62 (.mv (T 8)), a 63 (.ia 4 (T 61) (T 62)), a 64 (.ld true 4 (T 63)), a 65 (.mv (T 1)), a 66 (.mv (T 2)), b 67 (.ld true 4 (T 3)), b 68 (.call 95 [(T 67)]), b 69 (.sc (.bin .add 3) [(T 66), (T 68)]), b 70 (.call 93 [(T 64), (T 65), (T 69)]), b 71 (.bs 24 4 [(T 70)]), b 72 (.ap 24 4 56 (T 59) (T 71)), b 73 (.fa 3 (T 7)), b0 (.st 1 (T 73) (T 72))])) (.reg [b 56 (.mv (T 8)), b 57 (.sc (.bin .add 3) [(T 56), (I 1)]), b 8 (.mv (T 57))])))))) (.seq (.reg [b 74 (.ld true 4 (T 7)), b0 (.st 4 (T 6) (T 74))]) .ret)))))
theorem k93 : ∃ code, Tryz.prog.funcs[93]? = some Tryz.f93 ∧ Tryz.f93.body = some code ∧ comp Tryz.prog Tryz.f93.ntmps code = some c93 ∧ rvs Tryz.prog Tryz.f93.results.toList = some [(.c true 4 6)] := ⟨_, Tryz.func93, rfl, by kernel_rfl, by kernel_rfl⟩
def c94 : ACode := (.seq (.reg [b 3 (.box (T 0)), b 6 (.alloc [(.int .i64 0), (.int .i64 0), (.string ⟨#[]⟩), (.slice none 0 0)])]) (.seq (.seq (.reg [b 9 (.fa 0 (T 3)), b 10 (.ld false 1 (T 9)), b 11 (.sc (.bin .eql 3) [(T 10), (I 1)])]) (.cond (T 11) (.seq (.seq (.reg [b 12 (.fa 1 (T 3)), b 13 (.ld false 1 (T 12)), b 14 (.mv (T 2)), b 15 (.sc (.bin .geq 3) [(T 13), (T 14)])]) (.cond (T 15) (.reg [b 16 (.fa 1 (T 3)), b 17 (.ld false 1 (T 16)), b 18 (.mv (T 1)), b 19 (.sc (.bin .add 3) [(T 17), (T 18)]), b 20 (.fa 1 (T 3)), b0 (.st 1 (T 20) (T 19))]) .skip)) (.seq (.reg [b 21 (.ld true 4 (T 3)), b0 (.st 4 (T 6) (T 21))]) .ret)) .skip)) (.seq (.reg [b 22 (.fa 0 (T 3)), b 23 (.ld false 1 (T 22)), b 24 (.fa 1 (T 3)), b 25 (.ld false 1 (T 24)), b 26 (.fa 2 (T 3)), b 27 (.ld false 1 (T 26)), b 28 (.bld [(.int .i64 0), (.int .i64 0), (.string ⟨#[]⟩), (.slice none 0 0)] [(0, (1, (T 23))), (1, (1, (T 25))), (2, (1, (T 27)))]), b 7 (.alloc [(.int .i64 0), (.int .i64 0), (.string ⟨#[]⟩), (.slice none 0 0)]), b0 (.st 4 (T 7) (T 28))]) (.seq (.seq (.reg [b 8 (.mv (I 0))]) (.block 0 (.loop (.seq (.seq (.reg [b 29 (.mv (T 8)), b 30 (.fa 3 (T 3)), b 31 (.ld false 1 (T 30)), b 32 (.ln (T 31)), b 33 (.sc (.bin .lss 3) [(T 29), (T 32)])]) (.cond (T 33) .skip (.exit 0))) (.seq (.block 1 (.reg [a 36 (.fa 3 (T 7)), a 37 (.ld false 1 (T 36)), a 38 (.fa 3 (T 3)), a 39 (.ld false 1 (T 38)), a 40 (.mv (T 8)), a 41 (.ia 4 (T 39) (T 40)), a 42 (.ld true 4 (T 41)), a 43 (.mv (T 1)), a 44 (.mv (T 2)), b 45 (.ld true 4 (T 3)), b 46 (.call 95 [(T 45)]), b 47 (.sc (.bin .add 3) [(T 44), (T 46)]), b 48 (.call 94 [(T 42), (T 43), (T 47)]), b 49 (.bs 24 4 [(T 48)]), b 50 (.ap 24 4 56 (T 37) (T 49)), b 51 (.fa 3 (T 7)), b0 (.st 1 (T 51) (T 50))])) (.reg [b 34 (.mv (T 8)), b 35 (.sc (.bin .add 3) [(T 34), (I 1)]), b 8 (.mv (T 35))])))))) (.seq (.reg [b 52 (.ld true 4 (T 7)), b0 (.st 4 (T 6) (T 52))]) .ret)))))
theorem k94 : ∃ code, Tryz.prog.funcs[94]? = some Tryz.f94 ∧ Tryz.f94.body = some code ∧ comp Tryz.prog Tryz.f94.ntmps code = some c94 ∧ rvs Tryz.prog Tryz.f94.results.toList = some [(.c true 4 6)] := ⟨_, Tryz.func94, rfl, by kernel_rfl, by kernel_rfl⟩
def c95 : ACode := (.seq (.reg [b 1 (.box (T 0)), b 2 (.mv (I 0))]) (.seq (.seq (.reg [b 3 (.fa 0 (T 1)), b 4 (.ld false 1 (T 3)), b 5 (.sc (.bin .eql 3) [(T 4), (I 2)])]) (.cond (T 5) (.seq (.reg [b 2 (.mv (I 1))]) .ret) .skip)) (.seq (.seq (.reg [b 6 (.fa 0 (T 1)), b 7 (.ld false 1 (T 6)), b 8 (.sc (.bin .eql 3) [(T 7), (I 6)])]) (.cond (T 8) (.seq (.reg [b 9 (.fa 1 (T 1)), b 10 (.ld false 1 (T 9)), b 2 (.mv (T 10))]) .ret) .skip)) (.seq (.reg [b 2 (.mv (I 0))]) .ret))))
theorem k95 : ∃ code, Tryz.prog.funcs[95]? = some Tryz.f95 ∧ Tryz.f95.body = some code ∧ comp Tryz.prog Tryz.f95.ntmps code = some c95 ∧ rvs Tryz.prog Tryz.f95.results.toList = some [(.t 2)] := ⟨_, Tryz.func95, rfl, by kernel_rfl, by kernel_rfl⟩
end Go.Proofs.YtnjmilelifmfpaaGreatDoor.Ev

namespace Go.Proofs.YtnjmilelifmfpaaGreatDoor.Ev
open Go Go.RowKit
open HCore (wt wts may same height heights size sizes)
set_option linter.unusedSimpArgs false
set_option linter.unusedVariables false
abbrev cX (x : Tm) : List AV := [.s (.int .i64 x.f0), .s (.int .i64 x.f1), .s (.string x.f2), .row (encTs x.f3)]
theorem part {l : List Tm} {i : Nat} (h : (i : Int) < (encTs l).length) : ∃ y, l[i]? = some y ∧ y ∈ l ∧ i < l.length := by
 rw [encTs_len] at h
 have h' : i < l.length := by omega
 exact ⟨l[i], by simp, List.getElem_mem h', h'⟩
theorem fin_at {l : List Tm} {i : Nat} (h : i ≤ l.length) (q : ¬ (i : Int) < (encTs l).length) : i = l.length := by rw [encTs_len] at q; omega
theorem nxt {i : Nat} (h : i < 4000000000) : IntKind.i64.wrap ((i : Int) + 1) = ((i + 1 : Nat) : Int) := by rw [wr (by omega) (by omega)]; omega
def DepthS (x : Tm) (i : Nat) : AS := ⟨tm [(4, .s (.int .i64 i)), (3, .s (.int .i64 (heights (x.f3.take i)))), (1, .ptr 0 0)], bm [(0, some (cX x))], bm [], 1⟩
abbrev TDepth (n : Nat) : Spec := fun args out => ∃ x : Tm, args = [.agg (encT x)] ∧ height x < n ∧ size x ≤ 1000000000 ∧ out = .ret (.s (.int .i64 (height x)))
theorem c_depth {J : JW} (hJ : JOk J) : ∀ n, Con Tryz.prog J 10 (TDepth n)
 | 0 => fun args out ⟨x, _, h, _⟩ => by omega
 | n + 1 => by
  obtain ⟨code, h1, h2, h3, h4⟩ := k10
  refine con (ok_cons (c_depth hJ n) ok_nil) hJ h1 h2 h3 h4 fun args out h => ?_
  obtain ⟨x, rfl, hn, hw, rfl⟩ := h
  refine ⟨rfl, by rw [Tryz.ntmps10]; simp, ?_⟩
  have s4 := size_of x
  have s2 := height_of x
  have s5 := len_sizes x.f3
  have s6 := height_le_size x
  rw [encT_is]
  unfold c10
  refine go ?_
  refine count x.f3.length (DepthS x) (by unfold DepthS; rw [show heights (x.f3.take 0) = 0 from rfl]; exact lm [(0, 0)]) fun i hi => ?_
  unfold DepthS
  refine go ?_
  by_cases q : (i : Int) < (encTs x.f3).length
  ·simp only [q, decide_true]
   obtain ⟨y, hy, hm, hl⟩ := part q
   have s1 := height_mem hm
   have s3 := sizes_mem hm
   simp only [eget hy]
   refine go ?_
   refine ⟨false, _, ⟨y, by rw [encT_is], by omega, by omega, rfl⟩, ?_⟩
   refine go ?_
   rw [nxt (by omega), show (if (height y : Int) > (heights (x.f3.take i) : Int) then (height y : Int) else (heights (x.f3.take i) : Int)) = (heights (x.f3.take (i + 1)) : Int) by rw [heights_take hy]; split <;> omega]
   exact ⟨hl, lm [(0, 0)]⟩
  ·simp only [q, decide_false]
   have := fin_at hi q
   subst this
   rw [take_len]
   refine go ?_
   rw [wr (by omega) (by omega), s2]
   rfl
def RSizeS (x : Tm) (i : Nat) : AS := ⟨tm [(4, .s (.int .i64 i)), (3, .s (.int .i64 ((sizes (x.f3.take i) + 1 : Nat) : Int))), (1, .ptr 0 0)], bm [(0, some (cX x))], bm [], 1⟩
abbrev TSize (n : Nat) : Spec := fun args out => ∃ x : Tm, args = [.agg (encT x)] ∧ height x < n ∧ size x ≤ 1000000000 ∧ out = .ret (.s (.int .i64 (size x)))
theorem c_rsize {J : JW} (hJ : JOk J) : ∀ n, Con Tryz.prog J 25 (TSize n)
 | 0 => fun args out ⟨x, _, h, _⟩ => by omega
 | n + 1 => by
  obtain ⟨code, h1, h2, h3, h4⟩ := k25
  refine con (ok_cons (c_rsize hJ n) ok_nil) hJ h1 h2 h3 h4 fun args out h => ?_
  obtain ⟨x, rfl, hn, hw, rfl⟩ := h
  refine ⟨rfl, by rw [Tryz.ntmps25]; simp, ?_⟩
  have s4 := size_of x
  have s2 := height_of x
  have s5 := len_sizes x.f3
  rw [encT_is]
  unfold c25
  refine go ?_
  refine count x.f3.length (RSizeS x) (by unfold RSizeS; rw [show sizes (x.f3.take 0) = 0 from rfl]; exact lm [(0, 0)]) fun i hi => ?_
  unfold RSizeS
  refine go ?_
  by_cases q : (i : Int) < (encTs x.f3).length
  ·simp only [q, decide_true]
   obtain ⟨y, hy, hm, hl⟩ := part q
   have s1 := height_mem hm
   have s3 := sizes_mem hm
   have s6 := stake_le (l := x.f3) (i := i)
   simp only [eget hy]
   refine go ?_
   refine ⟨false, _, ⟨y, by rw [encT_is], by omega, by omega, rfl⟩, ?_⟩
   refine go ?_
   rw [nxt (by omega), wr (i := ((sizes (x.f3.take i) + 1 : Nat) : Int) + (size y : Int)) (by omega) (by omega), show ((sizes (x.f3.take i) + 1 : Nat) : Int) + (size y : Int) = ((sizes (x.f3.take (i + 1)) + 1 : Nat) : Int) by rw [sizes_take hy]; omega]
   exact ⟨hl, lm [(0, 0)]⟩
  ·simp only [q, decide_false]
   have := fin_at hi q
   subst this
   rw [take_len]
   refine go ?_
   rw [s4]
def CSizeS (x : Tm) (i : Nat) : AS := ⟨tm [(9, .s (.int .i64 i)), (3, .s (.int .i64 ((sizes (x.f3.take i) + 1 : Nat) : Int))), (7, .row (encTs x.f3)), (8, .s (.int .i64 (encTs x.f3).length))], bm [], bm [], 1⟩
theorem c_size {J : JW} (hJ : JOk J) : ∀ n, Con Tryz.prog J 24 (TSize n)
 | 0 => fun args out ⟨x, _, h, _⟩ => by omega
 | n + 1 => by
  obtain ⟨code, h1, h2, h3, h4⟩ := k24
  refine con (ok_cons (c_size hJ n) ok_nil) hJ h1 h2 h3 h4 fun args out h => ?_
  obtain ⟨x, rfl, hn, hw, rfl⟩ := h
  refine ⟨rfl, by rw [Tryz.ntmps24]; simp, ?_⟩
  have s4 := size_of x
  have s2 := height_of x
  have s5 := len_sizes x.f3
  rw [encT_is]
  unfold c24
  refine go ?_
  refine count x.f3.length (CSizeS x) (by unfold CSizeS; rw [show sizes (x.f3.take 0) = 0 from rfl]; exact lm []) fun i hi => ?_
  unfold CSizeS
  refine go ?_
  by_cases q : (i : Int) < (encTs x.f3).length
  ·simp only [q, decide_true]
   obtain ⟨y, hy, hm, hl⟩ := part q
   have s1 := height_mem hm
   have s3 := sizes_mem hm
   have s6 := stake_le (l := x.f3) (i := i)
   simp only [eget hy]
   refine go ?_
   refine ⟨false, _, ⟨y, by rw [encT_is], by omega, by omega, rfl⟩, ?_⟩
   refine go ?_
   rw [nxt (by omega), wr (i := ((sizes (x.f3.take i) + 1 : Nat) : Int) + (size y : Int)) (by omega) (by omega), show ((sizes (x.f3.take i) + 1 : Nat) : Int) + (size y : Int) = ((sizes (x.f3.take (i + 1)) + 1 : Nat) : Int) by rw [sizes_take hy]; omega]
   exact ⟨hl, lm []⟩
  ·simp only [q, decide_false]
   have := fin_at hi q
   subst this
   rw [take_len]
   refine go ?_
   rw [s4]
end Go.Proofs.YtnjmilelifmfpaaGreatDoor.Ev
