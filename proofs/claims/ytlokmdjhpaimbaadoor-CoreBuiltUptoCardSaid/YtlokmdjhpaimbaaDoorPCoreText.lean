-- Written for this claim.
import Derived.Test.YtlokmdjhpaimbaaDoorQx1
import Derived.Test.YtlokmdjhpaimbaaDoorHCore
import Derived.Test.YtlokmdjhpaimbaaDoorHLexAll
import Derived.Test.YtlokmdjhpaimbaaDoorHShelf
import Derived.Test.YtlokmdjhpaimbaaDoorHBuild
import Derived.Deep.RegionWith
import Derived.Lib.AppendIntMem
import Derived.Lib.ItoaLen
import Derived.Lib.BufferKept
namespace Go.Proofs.YtlokmdjhpaimbaaDoor.Pure
open Go Go.RowKit Go.Lib Go.Proofs Go.Proofs.YtlokmdjhpaimbaaDoor.Q Go.Proofs.YtlokmdjhpaimbaaDoorW.PrintWords Go.Proofs.YtlokmdjhpaimbaaDoorW.PrintLast Go.Proofs.YtlokmdjhpaimbaaDoorW.PrintMore
open HCore
namespace CoreText
set_option linter.unusedVariables false
set_option linter.unusedSimpArgs false
/-- What stands ahead of a term's parts. -/
def word : T → List UInt8
  | ⟨k, n, s, _⟩ => if k = 2 then [92] else if k = 3 then [64] else if k = 5 then [63] else if k = 4 then s.data.toList else if k = 8 then s.data.toList else if k = 6 then s.data.toList ++ 58 :: Lib.itoa n else []
mutual
def text : T → List UInt8
  | ⟨k, n, s, l⟩ => if k = 1 then 35 :: Lib.itoa n else if k = 7 then Lib.itoa n else if k = 9 then [33] else 40 :: (word ⟨k, n, s, l⟩ ++ (texts l ++ [41]))
def texts : List T → List UInt8
  | [] => []
  | x :: r => 32 :: (text x ++ texts r)
end
theorem bytes_self (s : ByteArray) : s = ⟨s.data.toList.toArray⟩ := by simp
theorem wf_bounds {n : Int} (h : (Lit.int .i64 n).wf = true) : -9223372036854775808 ≤ n ∧ n ≤ 9223372036854775807 := by
  simp only [Lit.wf, Bool.and_eq_true, decide_eq_true_eq] at h
  exact h
theorem itoa_len (n : Int) (h0 : -9223372036854775808 ≤ n) (h1 : n ≤ 9223372036854775807) : (Lib.itoa n).length ≤ 21 := by
  unfold Lib.itoa
  split
  · rw [List.length_cons, Lib.decDigits_length]; have := Lib.nDigits_le20 n.natAbs (by omega); omega
  · rw [Lib.decDigits_length]; have := Lib.nDigits_le20 n.toNat (by omega); omega
theorem keep2 {p0 p1 : Addr} {v0 v1 : Value} {wq w1 w2 : World} (h : w1.cell? p0 = some v0 ∧ w1.cell? p1 = some v1 ∧ Below wq.heap.size wq w1) (hb : Below w1.heap.size w1 w2) :
    w2.cell? p0 = some v0 ∧ w2.cell? p1 = some v1 ∧ Below wq.heap.size wq w2 :=
  ⟨(hb.cell (World.block_lt_of_cell? _ _ h.1)).trans h.1, (hb.cell (World.block_lt_of_cell? _ _ h.2.1)).trans h.2.1, below_step h.2.2 hb⟩
set_option maxRecDepth 100000 in
theorem word_2 (x : T) (hk : x.f0 = 2) (ok : (Lit.int .i64 x.f1).wf = true) (hw : x.f2.size ≤ 1000000000) (w : World) (A : Option Addr) (c : Nat) (htab : TabBelow Tryd.prog w.heap.size w "internal/strconv.uint64pow10" .u64 Lib.pow10Tab) :
    Calls Tryd.prog 34 #[.agg #[.int .i64 x.f0, .int .i64 x.f1, .string x.f2, .slice A x.f3.length c]] w fun e w' => e = .returned (.string ⟨(word x).toArray⟩) ∧ Below w.heap.size w w' := by
  have HWD : Hid (word x = word ⟨2, x.f1, x.f2, x.f3⟩) := Lib.hid (by cases x; simp only at hk; subst hk; rfl)
  have HK := Lib.hid hk
  have HT := Lib.hid htab
  clear hk htab
  have hba := below_alloc (Below.refl w.heap.size w) (Obj.cells #[.int .i64 x.f0, .int .i64 x.f1, .string x.f2, .slice A x.f3.length c] 24)
  have hb0 := blk_new w (Obj.cells #[.int .i64 x.f0, .int .i64 x.f1, .string x.f2, .slice A x.f3.length c] 24)
  go_enter Tryd.func34, Tryd.ntmps34
  go_upto_region 1 with (fail)
  generalize hwq : w.alloc (Obj.cells #[.int .i64 x.f0, .int .i64 x.f1, .string x.f2, .slice A x.f3.length c] 24) = wq at hb0 hba ⊢
  clear hwq
  have HB := Lib.hid hba; have BK := Lib.hid hb0
  clear hba hb0
  have y0 := blk_cell BK.out 0; have y1 := blk_cell BK.out 1; have y2 := blk_cell BK.out 2; have y3 := blk_cell BK.out 3
  simp only [List.getElem?_toArray, List.getElem?_cons_zero, List.getElem?_cons_succ] at y0 y1 y2 y3
  rw [HK.out] at y0
  go_wp2_with fail
  go_ret
  exact ⟨by rw [HWD.out]; rfl, HB.out⟩
set_option maxRecDepth 100000 in
theorem word_3 (x : T) (hk : x.f0 = 3) (ok : (Lit.int .i64 x.f1).wf = true) (hw : x.f2.size ≤ 1000000000) (w : World) (A : Option Addr) (c : Nat) (htab : TabBelow Tryd.prog w.heap.size w "internal/strconv.uint64pow10" .u64 Lib.pow10Tab) :
    Calls Tryd.prog 34 #[.agg #[.int .i64 x.f0, .int .i64 x.f1, .string x.f2, .slice A x.f3.length c]] w fun e w' => e = .returned (.string ⟨(word x).toArray⟩) ∧ Below w.heap.size w w' := by
  have HWD : Hid (word x = word ⟨3, x.f1, x.f2, x.f3⟩) := Lib.hid (by cases x; simp only at hk; subst hk; rfl)
  have HK := Lib.hid hk
  have HT := Lib.hid htab
  clear hk htab
  have hba := below_alloc (Below.refl w.heap.size w) (Obj.cells #[.int .i64 x.f0, .int .i64 x.f1, .string x.f2, .slice A x.f3.length c] 24)
  have hb0 := blk_new w (Obj.cells #[.int .i64 x.f0, .int .i64 x.f1, .string x.f2, .slice A x.f3.length c] 24)
  go_enter Tryd.func34, Tryd.ntmps34
  go_upto_region 1 with (fail)
  generalize hwq : w.alloc (Obj.cells #[.int .i64 x.f0, .int .i64 x.f1, .string x.f2, .slice A x.f3.length c] 24) = wq at hb0 hba ⊢
  clear hwq
  have HB := Lib.hid hba; have BK := Lib.hid hb0
  clear hba hb0
  have y0 := blk_cell BK.out 0; have y1 := blk_cell BK.out 1; have y2 := blk_cell BK.out 2; have y3 := blk_cell BK.out 3
  simp only [List.getElem?_toArray, List.getElem?_cons_zero, List.getElem?_cons_succ] at y0 y1 y2 y3
  rw [HK.out] at y0
  go_wp2_with fail
  go_ret
  exact ⟨by rw [HWD.out]; rfl, HB.out⟩
set_option maxRecDepth 100000 in
theorem word_5 (x : T) (hk : x.f0 = 5) (ok : (Lit.int .i64 x.f1).wf = true) (hw : x.f2.size ≤ 1000000000) (w : World) (A : Option Addr) (c : Nat) (htab : TabBelow Tryd.prog w.heap.size w "internal/strconv.uint64pow10" .u64 Lib.pow10Tab) :
    Calls Tryd.prog 34 #[.agg #[.int .i64 x.f0, .int .i64 x.f1, .string x.f2, .slice A x.f3.length c]] w fun e w' => e = .returned (.string ⟨(word x).toArray⟩) ∧ Below w.heap.size w w' := by
  have HWD : Hid (word x = word ⟨5, x.f1, x.f2, x.f3⟩) := Lib.hid (by cases x; simp only at hk; subst hk; rfl)
  have HK := Lib.hid hk
  have HT := Lib.hid htab
  clear hk htab
  have hba := below_alloc (Below.refl w.heap.size w) (Obj.cells #[.int .i64 x.f0, .int .i64 x.f1, .string x.f2, .slice A x.f3.length c] 24)
  have hb0 := blk_new w (Obj.cells #[.int .i64 x.f0, .int .i64 x.f1, .string x.f2, .slice A x.f3.length c] 24)
  go_enter Tryd.func34, Tryd.ntmps34
  go_upto_region 1 with (fail)
  generalize hwq : w.alloc (Obj.cells #[.int .i64 x.f0, .int .i64 x.f1, .string x.f2, .slice A x.f3.length c] 24) = wq at hb0 hba ⊢
  clear hwq
  have HB := Lib.hid hba; have BK := Lib.hid hb0
  clear hba hb0
  have y0 := blk_cell BK.out 0; have y1 := blk_cell BK.out 1; have y2 := blk_cell BK.out 2; have y3 := blk_cell BK.out 3
  simp only [List.getElem?_toArray, List.getElem?_cons_zero, List.getElem?_cons_succ] at y0 y1 y2 y3
  rw [HK.out] at y0
  go_wp2_with fail
  go_ret
  exact ⟨by rw [HWD.out]; rfl, HB.out⟩
set_option maxRecDepth 100000 in
theorem word_4 (x : T) (hk : x.f0 = 4) (ok : (Lit.int .i64 x.f1).wf = true) (hw : x.f2.size ≤ 1000000000) (w : World) (A : Option Addr) (c : Nat) (htab : TabBelow Tryd.prog w.heap.size w "internal/strconv.uint64pow10" .u64 Lib.pow10Tab) :
    Calls Tryd.prog 34 #[.agg #[.int .i64 x.f0, .int .i64 x.f1, .string x.f2, .slice A x.f3.length c]] w fun e w' => e = .returned (.string ⟨(word x).toArray⟩) ∧ Below w.heap.size w w' := by
  have HWD : Hid (word x = word ⟨4, x.f1, x.f2, x.f3⟩) := Lib.hid (by cases x; simp only at hk; subst hk; rfl)
  have HK := Lib.hid hk
  have HT := Lib.hid htab
  clear hk htab
  have hba := below_alloc (Below.refl w.heap.size w) (Obj.cells #[.int .i64 x.f0, .int .i64 x.f1, .string x.f2, .slice A x.f3.length c] 24)
  have hb0 := blk_new w (Obj.cells #[.int .i64 x.f0, .int .i64 x.f1, .string x.f2, .slice A x.f3.length c] 24)
  go_enter Tryd.func34, Tryd.ntmps34
  go_upto_region 1 with (fail)
  generalize hwq : w.alloc (Obj.cells #[.int .i64 x.f0, .int .i64 x.f1, .string x.f2, .slice A x.f3.length c] 24) = wq at hb0 hba ⊢
  clear hwq
  have HB := Lib.hid hba; have BK := Lib.hid hb0
  clear hba hb0
  have y0 := blk_cell BK.out 0; have y1 := blk_cell BK.out 1; have y2 := blk_cell BK.out 2; have y3 := blk_cell BK.out 3
  simp only [List.getElem?_toArray, List.getElem?_cons_zero, List.getElem?_cons_succ] at y0 y1 y2 y3
  rw [HK.out] at y0
  go_wp2_with fail
  go_ret
  exact ⟨by rw [HWD.out]; exact congrArg (fun t => Ending.returned (Value.string t)) (bytes_self x.f2), HB.out⟩
set_option maxRecDepth 100000 in
theorem word_8 (x : T) (hk : x.f0 = 8) (ok : (Lit.int .i64 x.f1).wf = true) (hw : x.f2.size ≤ 1000000000) (w : World) (A : Option Addr) (c : Nat) (htab : TabBelow Tryd.prog w.heap.size w "internal/strconv.uint64pow10" .u64 Lib.pow10Tab) :
    Calls Tryd.prog 34 #[.agg #[.int .i64 x.f0, .int .i64 x.f1, .string x.f2, .slice A x.f3.length c]] w fun e w' => e = .returned (.string ⟨(word x).toArray⟩) ∧ Below w.heap.size w w' := by
  have HWD : Hid (word x = word ⟨8, x.f1, x.f2, x.f3⟩) := Lib.hid (by cases x; simp only at hk; subst hk; rfl)
  have HK := Lib.hid hk
  have HT := Lib.hid htab
  clear hk htab
  have hba := below_alloc (Below.refl w.heap.size w) (Obj.cells #[.int .i64 x.f0, .int .i64 x.f1, .string x.f2, .slice A x.f3.length c] 24)
  have hb0 := blk_new w (Obj.cells #[.int .i64 x.f0, .int .i64 x.f1, .string x.f2, .slice A x.f3.length c] 24)
  go_enter Tryd.func34, Tryd.ntmps34
  go_upto_region 1 with (fail)
  generalize hwq : w.alloc (Obj.cells #[.int .i64 x.f0, .int .i64 x.f1, .string x.f2, .slice A x.f3.length c] 24) = wq at hb0 hba ⊢
  clear hwq
  have HB := Lib.hid hba; have BK := Lib.hid hb0
  clear hba hb0
  have y0 := blk_cell BK.out 0; have y1 := blk_cell BK.out 1; have y2 := blk_cell BK.out 2; have y3 := blk_cell BK.out 3
  simp only [List.getElem?_toArray, List.getElem?_cons_zero, List.getElem?_cons_succ] at y0 y1 y2 y3
  rw [HK.out] at y0
  go_wp2_with fail
  go_ret
  exact ⟨by rw [HWD.out]; exact congrArg (fun t => Ending.returned (Value.string t)) (bytes_self x.f2), HB.out⟩
set_option maxRecDepth 100000 in
theorem word_6 (x : T) (hk : x.f0 = 6) (ok : (Lit.int .i64 x.f1).wf = true) (hw : x.f2.size ≤ 1000000000) (w : World) (A : Option Addr) (c : Nat) (htab : TabBelow Tryd.prog w.heap.size w "internal/strconv.uint64pow10" .u64 Lib.pow10Tab) :
    Calls Tryd.prog 34 #[.agg #[.int .i64 x.f0, .int .i64 x.f1, .string x.f2, .slice A x.f3.length c]] w fun e w' => e = .returned (.string ⟨(word x).toArray⟩) ∧ Below w.heap.size w w' := by
  have HWD : Hid (word x = word ⟨6, x.f1, x.f2, x.f3⟩) := Lib.hid (by cases x; simp only at hk; subst hk; rfl)
  have HK := Lib.hid hk
  have HT := Lib.hid htab
  clear hk htab
  have hba := below_alloc (Below.refl w.heap.size w) (Obj.cells #[.int .i64 x.f0, .int .i64 x.f1, .string x.f2, .slice A x.f3.length c] 24)
  have hb0 := blk_new w (Obj.cells #[.int .i64 x.f0, .int .i64 x.f1, .string x.f2, .slice A x.f3.length c] 24)
  go_enter Tryd.func34, Tryd.ntmps34
  go_upto_region 1 with (fail)
  generalize hwq : w.alloc (Obj.cells #[.int .i64 x.f0, .int .i64 x.f1, .string x.f2, .slice A x.f3.length c] 24) = wq at hb0 hba ⊢
  clear hwq
  have HB := Lib.hid hba; have BK := Lib.hid hb0
  clear hba hb0
  have y0 := blk_cell BK.out 0; have y1 := blk_cell BK.out 1; have y2 := blk_cell BK.out 2; have y3 := blk_cell BK.out 3
  simp only [List.getElem?_toArray, List.getElem?_cons_zero, List.getElem?_cons_succ] at y0 y1 y2 y3
  rw [HK.out] at y0
  obtain ⟨h0, h1⟩ := wf_bounds ok
  have hil := itoa_len x.f1 h0 h1
  have hz1 : (x.f2 ++ (⟨#[58]⟩ : ByteArray)).size = x.f2.size + 1 := by rw [ByteArray.size_append]; rfl
  have hz2 : (⟨(Lib.itoa x.f1).toArray⟩ : ByteArray).size = (Lib.itoa x.f1).length := rfl
  have q1 : ¬ 9223372036854775807 < x.f2.size + 1 := by omega
  have q2 : ¬ 9223372036854775807 < x.f2.size + 1 + (Lib.itoa x.f1).length := by omega
  go_wp2_with fail
  refine wp_region_held_drew (S := (fun w' => w'.cell? ⟨w.heap.size, 1, none⟩ = some (.int .i64 x.f1) ∧ w'.cell? ⟨w.heap.size, 2, none⟩ = some (.string x.f2) ∧ Below wq.heap.size wq w')) (by kernel_rfl) (by (try dsimp only); exact keep2 ⟨y1, y2, Below.refl _ _⟩ (below_drew1 (Below.refl _ _))) (fun hHeld => ?_)
  refine wpAnyH_take (i := 0) (v := ?_) rfl (by kernel_rfl) (by kernel_rfl) (by kernel_rfl) (fun _ _ _ h => h) (Or.inl ⟨by rfl, ?_⟩) (by assumption) ?_
  rotate_left 1
  · (intro w hSw; (try dsimp only at hSw); (try simp only [List.getElem_toArray, List.getElem_cons_succ, List.getElem_cons_zero]); go_simp; (try with_reducible rfl))
  (try simp only [Act.put, List.getElem_toArray, List.getElem_cons_succ, List.getElem_cons_zero, List.setIfInBounds_toArray, List.set_cons_zero, List.set_cons_succ])
  refine wpAnyH_take (i := 1) (v := ?_) rfl (by kernel_rfl) (by kernel_rfl) (by kernel_rfl) (fun _ _ _ h => h) (Or.inl ⟨by rfl, ?_⟩) (by assumption) ?_
  rotate_left 1
  · (intro w hSw; (try dsimp only at hSw); (try simp only [List.getElem_toArray, List.getElem_cons_succ, List.getElem_cons_zero]); go_simp; (try with_reducible rfl))
  (try simp only [Act.put, List.getElem_toArray, List.getElem_cons_succ, List.getElem_cons_zero, List.setIfInBounds_toArray, List.set_cons_zero, List.set_cons_succ])
  refine wpAnyH_take (i := 2) (v := ?_) rfl (by kernel_rfl) (by kernel_rfl) (by kernel_rfl) (fun _ _ _ h => h) (Or.inl ⟨by rfl, ?_⟩) (by assumption) ?_
  rotate_left 1
  · (intro w hSw; (try dsimp only at hSw); (try simp only [List.getElem_toArray, List.getElem_cons_succ, List.getElem_cons_zero]); go_simp; (try with_reducible rfl))
  (try simp only [Act.put, List.getElem_toArray, List.getElem_cons_succ, List.getElem_cons_zero, List.setIfInBounds_toArray, List.set_cons_zero, List.set_cons_succ])
  refine wpAnyH_take (i := 3) (v := ?_) rfl (by kernel_rfl) (by kernel_rfl) (by kernel_rfl) (fun _ _ _ h => h) (Or.inl ⟨by rfl, ?_⟩) (by assumption) ?_
  rotate_left 1
  · (intro w hSw; (try dsimp only at hSw); (try simp only [List.getElem_toArray, List.getElem_cons_succ, List.getElem_cons_zero]); go_simp; (try with_reducible rfl))
  (try simp only [Act.put, List.getElem_toArray, List.getElem_cons_succ, List.getElem_cons_zero, List.setIfInBounds_toArray, List.set_cons_zero, List.set_cons_succ])
  refine wpAnyH_take (i := 4) (v := ?_) rfl (by kernel_rfl) (by kernel_rfl) (by kernel_rfl) (fun _ _ _ h => h) (Or.inl ⟨by rfl, ?_⟩) (by assumption) ?_
  rotate_left 1
  · (intro w hSw; (try dsimp only at hSw); (try simp only [List.getElem_toArray, List.getElem_cons_succ, List.getElem_cons_zero]); go_simp; (try with_reducible rfl))
  (try simp only [Act.put, List.getElem_toArray, List.getElem_cons_succ, List.getElem_cons_zero, List.setIfInBounds_toArray, List.set_cons_zero, List.set_cons_succ])
  refine wpAnyH_ready (rs := [5]) (by kernel_rfl) (by simp) ?_
  refine AllReadyH.cons rfl (fun K hK => ?_) AllReadyH.nil
  (try simp only [List.getElem_toArray, List.getElem_cons_succ, List.getElem_cons_zero])
  go_simp
  refine (Tryd.strconv_Itoa x.f1 h0 h1 _ (HT.out.on (below_step HB.out hHeld.2.2)).here).mono ?_
  rintro e w9 ⟨rfl, kk, os, rfl⟩
  have hb := below_grow wq.drew.heap.size wq.drew (Nat.le_refl _) kk os
  simp only []
  refine hK.out _ _ ?_ (fun hHeld => ?_)
  · (try dsimp only); exact keep2 hHeld hb
  clear hK K
  (try simp only [Act.put, List.getElem_toArray, List.getElem_cons_succ, List.getElem_cons_zero, List.setIfInBounds_toArray, List.set_cons_zero, List.set_cons_succ])
  refine wpAnyH_take (i := 6) (v := ?_) rfl (by kernel_rfl) (by kernel_rfl) (by kernel_rfl) (fun _ _ _ h => h) (Or.inl ⟨by rfl, ?_⟩) (by assumption) ?_
  rotate_left 1
  · (intro w hSw; (try dsimp only at hSw); (try simp only [List.getElem_toArray, List.getElem_cons_succ, List.getElem_cons_zero]); go_simp; (try with_reducible rfl))
  (try simp only [Act.put, List.getElem_toArray, List.getElem_cons_succ, List.getElem_cons_zero, List.setIfInBounds_toArray, List.set_cons_zero, List.set_cons_succ])
  refine wpAnyH_take (i := 7) (v := ?_) rfl (by kernel_rfl) (by kernel_rfl) (by kernel_rfl) (fun _ _ _ h => h) (Or.inl ⟨by rfl, ?_⟩) (by assumption) ?_
  rotate_left 1
  · (intro w hSw; (try dsimp only at hSw); (try simp only [List.getElem_toArray, List.getElem_cons_succ, List.getElem_cons_zero]); go_simp; (try with_reducible rfl))
  (try simp only [Act.put, List.getElem_toArray, List.getElem_cons_succ, List.getElem_cons_zero, List.setIfInBounds_toArray, List.set_cons_zero, List.set_cons_succ])
  refine wpAnyH_done (by kernel_rfl) ?_ _
  have HB9 := Lib.hid (below_step HB.out hHeld.2.2)
  clear hHeld
  go_wp2_with fail
  go_ret
  exact ⟨by rw [HWD.out]; exact congrArg (fun t => Ending.returned (Value.string t)) ((HLexC.bytes_eq_iff _ _).2 (by simp [word])), HB9.out⟩
set_option maxRecDepth 100000 in
theorem word_else (x : T) (h2 : x.f0 ≠ 2) (h3 : x.f0 ≠ 3) (h5 : x.f0 ≠ 5) (h4 : x.f0 ≠ 4) (h8 : x.f0 ≠ 8) (h6 : x.f0 ≠ 6) (w : World) (A : Option Addr) (c : Nat) :
    Calls Tryd.prog 34 #[.agg #[.int .i64 x.f0, .int .i64 x.f1, .string x.f2, .slice A x.f3.length c]] w fun e w' => e = .returned (.string ⟨(word x).toArray⟩) ∧ Below w.heap.size w w' := by
  have HWD : Hid (word x = []) := Lib.hid (by cases x; simp only at h2 h3 h5 h4 h8 h6; simp [word, h2, h3, h5, h4, h8, h6])
  have hba := below_alloc (Below.refl w.heap.size w) (Obj.cells #[.int .i64 x.f0, .int .i64 x.f1, .string x.f2, .slice A x.f3.length c] 24)
  have hb0 := blk_new w (Obj.cells #[.int .i64 x.f0, .int .i64 x.f1, .string x.f2, .slice A x.f3.length c] 24)
  go_enter Tryd.func34, Tryd.ntmps34
  go_upto_region 1 with (fail)
  generalize hwq : w.alloc (Obj.cells #[.int .i64 x.f0, .int .i64 x.f1, .string x.f2, .slice A x.f3.length c] 24) = wq at hb0 hba ⊢
  clear hwq
  have HB := Lib.hid hba; have BK := Lib.hid hb0
  clear hba hb0
  have y0 := blk_cell BK.out 0; have y1 := blk_cell BK.out 1; have y2 := blk_cell BK.out 2; have y3 := blk_cell BK.out 3
  simp only [List.getElem?_toArray, List.getElem?_cons_zero, List.getElem?_cons_succ] at y0 y1 y2 y3
  have b2 : (x.f0 == 2) = false := beq_eq_false_iff_ne.2 h2
  have b3 : (x.f0 == 3) = false := beq_eq_false_iff_ne.2 h3
  have b5 : (x.f0 == 5) = false := beq_eq_false_iff_ne.2 h5
  have b4 : (x.f0 == 4) = false := beq_eq_false_iff_ne.2 h4
  have b8 : (x.f0 == 8) = false := beq_eq_false_iff_ne.2 h8
  have b6 : (x.f0 == 6) = false := beq_eq_false_iff_ne.2 h6
  clear h2 h3 h5 h4 h8 h6
  go_wp2_with fail
  go_ret
  exact ⟨by rw [HWD.out]; rfl, HB.out⟩
theorem builder_below {TT e : TypeId} {B b : Nat} {p : Value} {bs : List Value} {W W' : World} (h : Lib.BuilderAtF TT e B b p bs W) (hb : Below W.heap.size W W') : Lib.BuilderAtF TT e B b p bs W' := by
  have hlt := h.lt
  obtain ⟨hB, v, hv, hown, hne⟩ := h
  exact ⟨hB, v, (hb.block b hlt).trans hv, hown.kept (row := none) ⟨hb.os, hb.tape, hb.output, hb.size, fun k hk _ => hb.block k hk⟩ (Classical.em _), hne⟩
theorem isb_below {TT e : TypeId} {B b : Nat} {bs : List Value} {W W' : World} (h : Lib.IsBuilderF TT e B b bs W) (hb : Below W.heap.size W W') : Lib.IsBuilderF TT e B b bs W' :=
  h.elim (fun x => .inl (builder_below x hb)) (fun x => .inr (builder_below x hb))
theorem isb_lt {TT e : TypeId} {B b : Nat} {bs : List Value} {W : World} (h : Lib.IsBuilderF TT e B b bs W) : b < W.heap.size := h.elim (fun x => x.lt) (fun x => x.lt)
theorem kept_below {bo : Option Nat} {W W' : World} (hb : Below W.heap.size W W') : Lib.OthersKept 5 bo W W' := Lib.OthersKept.below (Lib.OthersKept.refl 5 bo W) hb
/-- A term's own cells are none of the builder's. -/
theorem kept_block {b g : Nat} {cs : Array Value} {W W' : World} (h : Lib.OthersKept 5 (some b) W W') (hg : W.heap[g]? = some (.cells cs 24 (0, 0))) (hne : g ≠ b) : W'.heap[g]? = some (.cells cs 24 (0, 0)) :=
  h g _ hg (fun e => hne (Option.some.inj e)) (fun c fz e => by injection e with _ e2; exact absurd e2 (by decide))
theorem bc_len (l : List UInt8) : (Lib.byteCells l).length = l.length := by simp [Lib.byteCells]
theorem bc_app (l r : List UInt8) : Lib.byteCells (l ++ r) = Lib.byteCells l ++ Lib.byteCells r := by simp [Lib.byteCells]
theorem itoa_any (n : Int) (h0 : -9223372036854775808 ≤ n) (h1 : n ≤ 9223372036854775807) (w : World) (htab : Lib.TabIs Tryd.prog w "internal/strconv.uint64pow10" .u64 Lib.pow10Tab) :
    Calls Tryd.prog 32 #[.int .i64 n] w fun e w' => e = .returned (.string ⟨(Lib.itoa n).toArray⟩) ∧ Below w.heap.size w w' :=
  (Tryd.strconv_Itoa n h0 h1 w htab).mono fun e w' ⟨he, k, os, h⟩ => ⟨he, by rw [h]; exact below_grow w.heap.size w (Nat.le_refl _) k os⟩
theorem results_none {P : Program} {fn : Func} (h : fn.results = #[]) (tmps : Array Value) (w : World) : (results fn tmps).run P w = .ok (.tuple #[]) w := by
  simp [results, h]
set_option maxRecDepth 100000 in
theorem write_9 (x : T) (hk : x.f0 = 9) (ok : (Lit.int .i64 x.f1).wf = true) (B b : Nat) (bs : List UInt8) (w0 w : World) (A : Option Addr) (c : Nat) (hc : Kd.C k24 w0 A x.f3.length x.f3) (hlc : x.f3.length ≤ c) (hB : B = w0.heap.size) (hbel : Below B w0 w) (hBw : B ≤ w.heap.size)
    (hb : Lib.IsBuilderF 44 5 B b (Lib.byteCells bs) w) (htab : TabBelow Tryd.prog B w0 "internal/strconv.uint64pow10" .u64 Lib.pow10Tab) (hlen : bs.length + (text x).length ≤ 100000000000) :
    Calls Tryd.prog 23 #[.pointer (some ⟨b, 0, none⟩), .agg #[.int .i64 x.f0, .int .i64 x.f1, .string x.f2, .slice A x.f3.length c]] w fun e w' => e = .returned (.tuple #[]) ∧ Lib.IsBuilderF 44 5 B b (Lib.byteCells (bs ++ text x)) w' ∧ Below B w w' ∧ Lib.OthersKept 5 (some b) w w' := by
  have HTX : Hid (text x = text ⟨9, x.f1, x.f2, x.f3⟩) := Lib.hid (by cases x; simp only at hk; subst hk; rfl)
  have HK := Lib.hid hk
  clear hk
  have hba := Below.trans hbel (Below.mono (below_alloc (Below.refl w.heap.size w) (Obj.cells #[.int .i64 x.f0, .int .i64 x.f1, .string x.f2, .slice A x.f3.length c] 24)) hBw)
  have hb0 := blk_new w (Obj.cells #[.int .i64 x.f0, .int .i64 x.f1, .string x.f2, .slice A x.f3.length c] 24)
  have hib := isb_below hb (below_alloc (Below.refl w.heap.size w) (Obj.cells #[.int .i64 x.f0, .int .i64 x.f1, .string x.f2, .slice A x.f3.length c] 24))
  have hlt := isb_lt hib
  go_enter Tryd.func23, Tryd.ntmps23
  go_upto_region 1 with (fail)
  generalize hwq : w.alloc (Obj.cells #[.int .i64 x.f0, .int .i64 x.f1, .string x.f2, .slice A x.f3.length c] 24) = wq at hb0 hba hib hlt ⊢
  have hsz : w.heap.size < wq.heap.size := blk_lt hb0
  have hbq : Below B w wq := by rw [← hwq]; exact Below.mono (below_alloc (Below.refl w.heap.size w) _) hBw
  have hkq : Lib.OthersKept 5 (some b) w wq := by rw [← hwq]; exact kept_below (below_alloc (Below.refl w.heap.size w) _)
  clear hwq
  have HKW := Lib.hid hkq
  clear hkq
  have hbne : w.heap.size ≠ b := by have := isb_lt hb; omega
  have HB := Lib.hid hba; have HBW := Lib.hid hbq; have BK := Lib.hid hb0; have IB := Lib.hid hib; have HT := Lib.hid htab; have HLN := Lib.hid hlen; have HC := Lib.hid hc
  clear hba hbq hb0 hib htab hlen hc hb hbel
  have y0 := blk_cell BK.out 0; have y1 := blk_cell BK.out 1; have y2 := blk_cell BK.out 2; have y3 := blk_cell BK.out 3
  simp only [List.getElem?_toArray, List.getElem?_cons_zero, List.getElem?_cons_succ] at y0 y1 y2 y3
  rw [HK.out] at y0
  go_wp2_with fail
  refine (Tryd.Builder_WriteByte_k B b (Lib.byteCells bs) 33 wq IB.out (by rw [bc_len]; have := HLN.out; omega) (by omega)).mono ?_
  rintro e w5 ⟨rfl, hat, hb5, hk5⟩
  have HAT := Lib.hid hat; have HB5 := Lib.hid hb5; have HK5 := Lib.hid hk5
  clear hat hb5 hk5
  go_wp2_with fail
  refine bodyPost_ret (results_none rfl _ _) rfl ?_
  refine ⟨rfl, .inr ?_, HBW.out.trans HB5.out, HKW.out.trans HK5.out⟩
  have h := HAT.out
  rw [HTX.out]
  rw [show text ⟨9, x.f1, x.f2, x.f3⟩ = [33] from rfl, bc_app]; exact h
set_option maxRecDepth 100000 in
theorem write_7 (x : T) (hk : x.f0 = 7) (ok : (Lit.int .i64 x.f1).wf = true) (B b : Nat) (bs : List UInt8) (w0 w : World) (A : Option Addr) (c : Nat) (hc : Kd.C k24 w0 A x.f3.length x.f3) (hlc : x.f3.length ≤ c) (hB : B = w0.heap.size) (hbel : Below B w0 w) (hBw : B ≤ w.heap.size)
    (hb : Lib.IsBuilderF 44 5 B b (Lib.byteCells bs) w) (htab : TabBelow Tryd.prog B w0 "internal/strconv.uint64pow10" .u64 Lib.pow10Tab) (hlen : bs.length + (text x).length ≤ 100000000000) :
    Calls Tryd.prog 23 #[.pointer (some ⟨b, 0, none⟩), .agg #[.int .i64 x.f0, .int .i64 x.f1, .string x.f2, .slice A x.f3.length c]] w fun e w' => e = .returned (.tuple #[]) ∧ Lib.IsBuilderF 44 5 B b (Lib.byteCells (bs ++ text x)) w' ∧ Below B w w' ∧ Lib.OthersKept 5 (some b) w w' := by
  have HTX : Hid (text x = text ⟨7, x.f1, x.f2, x.f3⟩) := Lib.hid (by cases x; simp only at hk; subst hk; rfl)
  have HK := Lib.hid hk
  clear hk
  have hba := Below.trans hbel (Below.mono (below_alloc (Below.refl w.heap.size w) (Obj.cells #[.int .i64 x.f0, .int .i64 x.f1, .string x.f2, .slice A x.f3.length c] 24)) hBw)
  have hb0 := blk_new w (Obj.cells #[.int .i64 x.f0, .int .i64 x.f1, .string x.f2, .slice A x.f3.length c] 24)
  have hib := isb_below hb (below_alloc (Below.refl w.heap.size w) (Obj.cells #[.int .i64 x.f0, .int .i64 x.f1, .string x.f2, .slice A x.f3.length c] 24))
  have hlt := isb_lt hib
  go_enter Tryd.func23, Tryd.ntmps23
  go_upto_region 1 with (fail)
  generalize hwq : w.alloc (Obj.cells #[.int .i64 x.f0, .int .i64 x.f1, .string x.f2, .slice A x.f3.length c] 24) = wq at hb0 hba hib hlt ⊢
  have hsz : w.heap.size < wq.heap.size := blk_lt hb0
  have hbq : Below B w wq := by rw [← hwq]; exact Below.mono (below_alloc (Below.refl w.heap.size w) _) hBw
  have hkq : Lib.OthersKept 5 (some b) w wq := by rw [← hwq]; exact kept_below (below_alloc (Below.refl w.heap.size w) _)
  clear hwq
  have HKW := Lib.hid hkq
  clear hkq
  have hbne : w.heap.size ≠ b := by have := isb_lt hb; omega
  have HB := Lib.hid hba; have HBW := Lib.hid hbq; have BK := Lib.hid hb0; have IB := Lib.hid hib; have HT := Lib.hid htab; have HLN := Lib.hid hlen; have HC := Lib.hid hc
  clear hba hbq hb0 hib htab hlen hc hb hbel
  have y0 := blk_cell BK.out 0; have y1 := blk_cell BK.out 1; have y2 := blk_cell BK.out 2; have y3 := blk_cell BK.out 3
  simp only [List.getElem?_toArray, List.getElem?_cons_zero, List.getElem?_cons_succ] at y0 y1 y2 y3
  rw [HK.out] at y0
  go_wp2_with fail
  obtain ⟨h0, h1⟩ := wf_bounds ok
  refine (itoa_any x.f1 h0 h1 _ (HT.out.on HB.out).here).mono ?_
  rintro e w4 ⟨rfl, hg⟩
  have HG := Lib.hid hg
  have hsg := hg.size
  clear hg
  go_wp2_with fail
  refine (Tryd.Builder_WriteString_k B b (Lib.byteCells bs) ⟨(Lib.itoa x.f1).toArray⟩ w4 (isb_below IB.out HG.out) (by rw [bc_len]; have := HLN.out; rw [HTX.out] at this; exact Nat.le_trans this (by decide)) (by omega)).mono ?_
  rintro e w5 ⟨rfl, hat, hb5, hk5⟩
  have HAT := Lib.hid hat; have HB5 := Lib.hid hb5; have HK5 := Lib.hid hk5
  clear hat hb5 hk5
  go_wp2_with fail
  refine bodyPost_ret (results_none rfl _ _) rfl ?_
  refine ⟨rfl, .inr ?_, (HBW.out.trans (HG.out.mono (by omega))).trans HB5.out, (Lib.OthersKept.below HKW.out HG.out).trans HK5.out⟩
  have h := HAT.out
  rw [HTX.out]
  rw [show text ⟨7, x.f1, x.f2, x.f3⟩ = Lib.itoa x.f1 from rfl, bc_app]; exact h
set_option maxRecDepth 100000 in
theorem write_1 (x : T) (hk : x.f0 = 1) (ok : (Lit.int .i64 x.f1).wf = true) (B b : Nat) (bs : List UInt8) (w0 w : World) (A : Option Addr) (c : Nat) (hc : Kd.C k24 w0 A x.f3.length x.f3) (hlc : x.f3.length ≤ c) (hB : B = w0.heap.size) (hbel : Below B w0 w) (hBw : B ≤ w.heap.size)
    (hb : Lib.IsBuilderF 44 5 B b (Lib.byteCells bs) w) (htab : TabBelow Tryd.prog B w0 "internal/strconv.uint64pow10" .u64 Lib.pow10Tab) (hlen : bs.length + (text x).length ≤ 100000000000) :
    Calls Tryd.prog 23 #[.pointer (some ⟨b, 0, none⟩), .agg #[.int .i64 x.f0, .int .i64 x.f1, .string x.f2, .slice A x.f3.length c]] w fun e w' => e = .returned (.tuple #[]) ∧ Lib.IsBuilderF 44 5 B b (Lib.byteCells (bs ++ text x)) w' ∧ Below B w w' ∧ Lib.OthersKept 5 (some b) w w' := by
  have HTX : Hid (text x = text ⟨1, x.f1, x.f2, x.f3⟩) := Lib.hid (by cases x; simp only at hk; subst hk; rfl)
  have HK := Lib.hid hk
  clear hk
  have hba := Below.trans hbel (Below.mono (below_alloc (Below.refl w.heap.size w) (Obj.cells #[.int .i64 x.f0, .int .i64 x.f1, .string x.f2, .slice A x.f3.length c] 24)) hBw)
  have hb0 := blk_new w (Obj.cells #[.int .i64 x.f0, .int .i64 x.f1, .string x.f2, .slice A x.f3.length c] 24)
  have hib := isb_below hb (below_alloc (Below.refl w.heap.size w) (Obj.cells #[.int .i64 x.f0, .int .i64 x.f1, .string x.f2, .slice A x.f3.length c] 24))
  have hlt := isb_lt hib
  go_enter Tryd.func23, Tryd.ntmps23
  go_upto_region 1 with (fail)
  generalize hwq : w.alloc (Obj.cells #[.int .i64 x.f0, .int .i64 x.f1, .string x.f2, .slice A x.f3.length c] 24) = wq at hb0 hba hib hlt ⊢
  have hsz : w.heap.size < wq.heap.size := blk_lt hb0
  have hbq : Below B w wq := by rw [← hwq]; exact Below.mono (below_alloc (Below.refl w.heap.size w) _) hBw
  have hkq : Lib.OthersKept 5 (some b) w wq := by rw [← hwq]; exact kept_below (below_alloc (Below.refl w.heap.size w) _)
  clear hwq
  have HKW := Lib.hid hkq
  clear hkq
  have hbne : w.heap.size ≠ b := by have := isb_lt hb; omega
  have HB := Lib.hid hba; have HBW := Lib.hid hbq; have BK := Lib.hid hb0; have IB := Lib.hid hib; have HT := Lib.hid htab; have HLN := Lib.hid hlen; have HC := Lib.hid hc
  clear hba hbq hb0 hib htab hlen hc hb hbel
  have y0 := blk_cell BK.out 0; have y1 := blk_cell BK.out 1; have y2 := blk_cell BK.out 2; have y3 := blk_cell BK.out 3
  simp only [List.getElem?_toArray, List.getElem?_cons_zero, List.getElem?_cons_succ] at y0 y1 y2 y3
  rw [HK.out] at y0
  go_wp2_with fail
  obtain ⟨h0, h1⟩ := wf_bounds ok
  refine (itoa_any x.f1 h0 h1 _ (HT.out.on HB.out).here).mono ?_
  rintro e w4 ⟨rfl, hg⟩
  have HG := Lib.hid hg
  have hsg := hg.size
  clear hg
  have hil := itoa_len x.f1 h0 h1
  have hz2 : (⟨(Lib.itoa x.f1).toArray⟩ : ByteArray).size = (Lib.itoa x.f1).length := rfl
  have q2 : ¬ 9223372036854775807 < 1 + (Lib.itoa x.f1).length := by omega
  have hz3 : ((⟨#[35]⟩ : ByteArray) ++ (⟨(Lib.itoa x.f1).toArray⟩ : ByteArray)).size = 1 + (Lib.itoa x.f1).length := by rw [ByteArray.size_append]; rfl
  have hsc : Lib.strCells ((⟨#[35]⟩ : ByteArray) ++ (⟨(Lib.itoa x.f1).toArray⟩ : ByteArray)) = Lib.byteCells (35 :: Lib.itoa x.f1) := by simp [Lib.strCells, Lib.byteCells]
  have HSC := Lib.hid hsc
  clear hsc
  go_wp2_with fail
  refine (Tryd.Builder_WriteString_k B b (Lib.byteCells bs) _ w4 (isb_below IB.out HG.out) (by rw [bc_len, hz3]; have := HLN.out; rw [HTX.out] at this; have h2 : bs.length + (Lib.itoa x.f1).length ≤ 100000000000 := Nat.le_trans (by show _ ≤ bs.length + ((Lib.itoa x.f1).length + 1); omega) this; omega) (by omega)).mono ?_
  rintro e w5 ⟨rfl, hat, hb5, hk5⟩
  rw [HSC.out] at hat
  have HAT := Lib.hid hat; have HB5 := Lib.hid hb5; have HK5 := Lib.hid hk5
  clear hat hb5 hk5
  go_wp2_with fail
  refine bodyPost_ret (results_none rfl _ _) rfl ?_
  refine ⟨rfl, .inr ?_, (HBW.out.trans (HG.out.mono (by omega))).trans HB5.out, (Lib.OthersKept.below HKW.out HG.out).trans HK5.out⟩
  have h := HAT.out
  rw [HTX.out]
  rw [show text ⟨1, x.f1, x.f2, x.f3⟩ = 35 :: Lib.itoa x.f1 from rfl, bc_app]; exact h
theorem wtn (a : T) : a.f2.size ≤ wt a := by cases a; simp only [wt]; omega
theorem word_any (x : T) (ok : (Lit.int .i64 x.f1).wf = true) (hw : x.f2.size ≤ 1000000000) (w : World) (A : Option Addr) (c : Nat) (htab : TabBelow Tryd.prog w.heap.size w "internal/strconv.uint64pow10" .u64 Lib.pow10Tab) :
    Calls Tryd.prog 34 #[.agg #[.int .i64 x.f0, .int .i64 x.f1, .string x.f2, .slice A x.f3.length c]] w fun e w' => e = .returned (.string ⟨(word x).toArray⟩) ∧ Below w.heap.size w w' := by
  by_cases h2 : x.f0 = 2
  · exact word_2 x h2 ok hw w A c htab
  by_cases h3 : x.f0 = 3
  · exact word_3 x h3 ok hw w A c htab
  by_cases h5 : x.f0 = 5
  · exact word_5 x h5 ok hw w A c htab
  by_cases h4 : x.f0 = 4
  · exact word_4 x h4 ok hw w A c htab
  by_cases h8 : x.f0 = 8
  · exact word_8 x h8 ok hw w A c htab
  by_cases h6 : x.f0 = 6
  · exact word_6 x h6 ok hw w A c htab
  exact word_else x h2 h3 h5 h4 h8 h6 w A c
/-- core.write writes a term's text. -/
def WrC (x : T) : Prop := ∀ (B b : Nat) (bs : List UInt8) (w0 w : World) (A : Option Addr) (c : Nat), Kd.C k24 w0 A x.f3.length x.f3 → x.f3.length ≤ c → B = w0.heap.size → Below B w0 w → B ≤ w.heap.size →
    Lib.IsBuilderF 44 5 B b (Lib.byteCells bs) w → TabBelow Tryd.prog B w0 "internal/strconv.uint64pow10" .u64 Lib.pow10Tab → bs.length + (text x).length ≤ 100000000000 →
    Calls Tryd.prog 23 #[.pointer (some ⟨b, 0, none⟩), .agg #[.int .i64 x.f0, .int .i64 x.f1, .string x.f2, .slice A x.f3.length c]] w fun e w' => e = .returned (.tuple #[]) ∧ Lib.IsBuilderF 44 5 B b (Lib.byteCells (bs ++ text x)) w' ∧ Below B w w' ∧ Lib.OthersKept 5 (some b) w w'
theorem texts_app (l r : List T) : texts (l ++ r) = texts l ++ texts r := by
  induction l with
  | nil => rfl
  | cons x l ih => simp only [List.cons_append, texts, ih, List.append_assoc]
theorem texts_len (l : List T) (k : Nat) : (texts (l.take k)).length ≤ (texts l).length := by
  have := texts_app (l.take k) (l.drop k)
  rw [List.take_append_drop] at this
  rw [this, List.length_append]; omega
theorem texts_snoc (l : List T) (k : Nat) (h : k < l.length) : texts (l.take (k + 1)) = texts (l.take k) ++ (32 :: text l[k]) := by
  rw [List.take_succ_eq_append_getElem h, texts_app]; simp [texts]
theorem wts_wt (x : T) : wts x.f3 ≤ wt x := by cases x; simp only [wt]; omega
set_option maxRecDepth 100000 in
theorem write_else (x : T) (h1 : x.f0 ≠ 1) (h7 : x.f0 ≠ 7) (h9 : x.f0 ≠ 9) (ok : (Lit.int .i64 x.f1).wf = true) (hw : wt x ≤ 1000000000) (H : ∀ y ∈ x.f3, WrC y) (B b : Nat) (bs : List UInt8) (w0 w : World) (A : Option Addr) (c : Nat) (hc : Kd.C k24 w0 A x.f3.length x.f3) (hlc : x.f3.length ≤ c) (hB : B = w0.heap.size) (hbel : Below B w0 w) (hBw : B ≤ w.heap.size)
    (hb : Lib.IsBuilderF 44 5 B b (Lib.byteCells bs) w) (htab : TabBelow Tryd.prog B w0 "internal/strconv.uint64pow10" .u64 Lib.pow10Tab) (hlen : bs.length + (text x).length ≤ 100000000000) :
    Calls Tryd.prog 23 #[.pointer (some ⟨b, 0, none⟩), .agg #[.int .i64 x.f0, .int .i64 x.f1, .string x.f2, .slice A x.f3.length c]] w fun e w' => e = .returned (.tuple #[]) ∧ Lib.IsBuilderF 44 5 B b (Lib.byteCells (bs ++ text x)) w' ∧ Below B w w' ∧ Lib.OthersKept 5 (some b) w w' := by
  have HTX : Hid (text x = 40 :: (word x ++ (texts x.f3 ++ [41]))) := Lib.hid (by cases x; simp only at h1 h7 h9; simp [text, h1, h7, h9])
  have HH := Lib.hid H
  have hbel0 := hbel
  clear H
  have hba := Below.trans hbel (Below.mono (below_alloc (Below.refl w.heap.size w) (Obj.cells #[.int .i64 x.f0, .int .i64 x.f1, .string x.f2, .slice A x.f3.length c] 24)) hBw)
  have hb0 := blk_new w (Obj.cells #[.int .i64 x.f0, .int .i64 x.f1, .string x.f2, .slice A x.f3.length c] 24)
  have hib := isb_below hb (below_alloc (Below.refl w.heap.size w) (Obj.cells #[.int .i64 x.f0, .int .i64 x.f1, .string x.f2, .slice A x.f3.length c] 24))
  have hlt := isb_lt hib
  go_enter Tryd.func23, Tryd.ntmps23
  go_upto_region 1 with (fail)
  generalize hwq : w.alloc (Obj.cells #[.int .i64 x.f0, .int .i64 x.f1, .string x.f2, .slice A x.f3.length c] 24) = wq at hb0 hba hib hlt ⊢
  have hsz : w.heap.size < wq.heap.size := blk_lt hb0
  have hbq : Below B w wq := by rw [← hwq]; exact Below.mono (below_alloc (Below.refl w.heap.size w) _) hBw
  have hkq : Lib.OthersKept 5 (some b) w wq := by rw [← hwq]; exact kept_below (below_alloc (Below.refl w.heap.size w) _)
  clear hwq
  have HKW := Lib.hid hkq
  clear hkq
  have hbne : w.heap.size ≠ b := by have := isb_lt hb; omega
  have HB := Lib.hid hba; have HBW := Lib.hid hbq; have BK := Lib.hid hb0; have IB := Lib.hid hib; have HT := Lib.hid htab; have HLN := Lib.hid hlen; have HC := Lib.hid hc
  clear hba hbq hb0 hib htab hlen hc hb hbel
  have y0 := blk_cell BK.out 0; have y1 := blk_cell BK.out 1; have y2 := blk_cell BK.out 2; have y3 := blk_cell BK.out 3
  simp only [List.getElem?_toArray, List.getElem?_cons_zero, List.getElem?_cons_succ] at y0 y1 y2 y3
  have b1 : (x.f0 == 1) = false := beq_eq_false_iff_ne.2 h1
  have b7 : (x.f0 == 7) = false := beq_eq_false_iff_ne.2 h7
  have b9 : (x.f0 == 9) = false := beq_eq_false_iff_ne.2 h9
  clear h1 h7 h9
  go_wp2_with fail
  refine (word_any x ok (by have := wtn x; omega) wq A c (fun w' hb => HT.out w' (HB.out.trans (hb.mono (by omega))))).mono ?_
  rintro e w4 ⟨rfl, hg⟩
  have HG := Lib.hid hg
  have hsg := hg.size
  clear hg
  have hlw : bs.length + (1 + ((word x).length + ((texts x.f3).length + 1))) ≤ 100000000000 := by have := HLN.out; rw [HTX.out] at this; simp only [List.length_cons, List.length_append, List.length_nil] at this; omega
  have hz2 : (⟨(word x).toArray⟩ : ByteArray).size = (word x).length := rfl
  have q2 : ¬ 9223372036854775807 < 1 + (word x).length := by omega
  have hz3 : ((⟨#[40]⟩ : ByteArray) ++ (⟨(word x).toArray⟩ : ByteArray)).size = 1 + (word x).length := by rw [ByteArray.size_append]; rfl
  have hsc : Lib.strCells ((⟨#[40]⟩ : ByteArray) ++ (⟨(word x).toArray⟩ : ByteArray)) = Lib.byteCells (40 :: word x) := by simp [Lib.strCells, Lib.byteCells]
  have HSC := Lib.hid hsc
  clear hsc
  go_wp2_with fail
  refine (Tryd.Builder_WriteString_k B b (Lib.byteCells bs) _ w4 (isb_below IB.out HG.out) (by rw [bc_len, hz3]; omega) (by omega)).mono ?_
  rintro e w5 ⟨rfl, hat, hb5, hk5⟩
  rw [HSC.out, ← bc_app] at hat
  have h5 := kept_block hk5 (blk_below BK.out HG.out) hbne
  have HAT : Hid (Lib.IsBuilderF 44 5 B b (Lib.byteCells (bs ++ 40 :: word x)) w5) := Lib.hid (.inr hat)
  have HB5 := Lib.hid ((HBW.out.trans (HG.out.mono (by omega))).trans hb5)
  have HK5 := Lib.hid ((Lib.OthersKept.below HKW.out HG.out).trans hk5)
  have hs5 := hb5.size
  have HCK := Lib.hid h5
  clear hat hb5 hk5 h5 y0 y1 y2 y3 BK HB HBW HKW IB HG b1 b7 b9 hz2 hz3 HSC q2
  have y3 := blk_cell HCK.out 3
  simp only [List.getElem?_toArray, List.getElem?_cons_zero, List.getElem?_cons_succ] at y3
  have HB0 := Lib.hid (hbel0.trans HB5.out)
  go_wp2_with fail
  go_loopw [35] (fun i wr => ∃ k : Nat, k ≤ x.f3.length ∧ i = .int .i64 k ∧ Hid (Lib.IsBuilderF 44 5 B b (Lib.byteCells (bs ++ 40 :: (word x ++ texts (x.f3.take k)))) wr) ∧ Hid (Below B w wr) ∧ Hid (Lib.OthersKept 5 (some b) w wr)) (fun i _ => x.f3.length - (intOf i).toNat)
  case atStart => exact ⟨0, Nat.zero_le _, rfl, Lib.hid (by simpa [texts] using HAT.out), HB5, HK5⟩
  case round =>
    clear HAT HB0 HCK y3 HB5 HK5
    obtain ⟨k, hk, rfl, IB, HB, HKP⟩ := hrel
    have hllw := len_wts x.f3
    have hwx := wts_wt x
    by_cases hlt : k < x.f3.length
    · have hcr : Kd.C k24 wr A x.f3.length x.f3 := Kd.C_below HC.out (by rw [← hB]; exact hbel0.trans HB.out)
      obtain ⟨ad, A3, c3, rfl, x0, x1, x2, x3, hl3, hc3⟩ := at_T24 hcr (k : Int) (by omega) (by omega)
      simp only [Int.toNat_natCast] at x0 x1 x2 x3
      have hc0 : Kd.C k24 w0 A3 (rd_T24 x.f3 (k : Int)).f3.length (rd_T24 x.f3 (k : Int)).f3 := by
        obtain ⟨ad', A3', c3', hA', _, _, _, z3, _, hz⟩ := at_T24 HC.out (k : Int) (by omega) (by omega)
        simp only [Int.toNat_natCast] at z3
        cases hA'
        have hcz := ((show Below w0.heap.size w0 wr by rw [← hB]; exact hbel0.trans HB.out).cell (World.block_lt_of_cell? w0 _ z3)).trans z3
        rw [x3] at hcz
        injection hcz with hcz
        injection hcz with e1 e2 e3
        rw [e1]; exact hz
      have hrk : rd_T24 x.f3 (k : Int) = x.f3[k] := by
        unfold rd_T24
        rw [Int.toNat_natCast, List.getD_eq_getElem?_getD, List.getElem?_eq_getElem hlt]; rfl
      rw [hrk] at x0 x1 x2 x3 hl3 hc3 hc0
      have hts := texts_snoc x.f3 k hlt
      have htl := texts_len x.f3 (k + 1)
      have hyw := HH.out x.f3[k] (List.getElem_mem hlt)
      rw [hts, List.length_append, List.length_cons] at htl
      generalize hx : x.f3[k] = y at *
      have HTS := Lib.hid hts; have HYW := Lib.hid hyw; have HC0 := Lib.hid hc0
      clear hrk hx hc3 hcr hts hyw hc0
      go_upto_region 12 with (fail)
      have hb0 := blk_new wr (Obj.cells #[.int .i64 y.f0, .int .i64 y.f1, .string y.f2, .slice A3 y.f3.length c3] 24)
      have hba := below_alloc (Below.refl wr.heap.size wr) (Obj.cells #[.int .i64 y.f0, .int .i64 y.f1, .string y.f2, .slice A3 y.f3.length c3] 24)
      have hbw : B ≤ wr.heap.size := Nat.le_trans hBw HB.out.size
      have hbn : wr.heap.size ≠ b := by have := isb_lt IB.out; omega
      generalize hwq : wr.alloc (Obj.cells #[.int .i64 y.f0, .int .i64 y.f1, .string y.f2, .slice A3 y.f3.length c3] 24) = wq at hb0 hba ⊢
      clear hwq
      have HB0 := Lib.hid hb0; have HBA := Lib.hid hba
      have hsq := hba.size
      clear hb0 hba x0 x1 x2 x3
      go_wp2_with fail
      refine (Tryd.Builder_WriteByte_k B b _ 32 wq (isb_below IB.out HBA.out) (by rw [bc_len]; simp only [List.length_append, List.length_cons]; omega) (by omega)).mono ?_
      rintro e w6 ⟨rfl, hat, hb6, hk6⟩
      have hblk := kept_block hk6 HB0.out hbn
      have hs6 := hb6.size
      have hib6 : Lib.IsBuilderF 44 5 B b (Lib.byteCells (bs ++ 40 :: (word x ++ texts (x.f3.take k)) ++ [32])) w6 := .inr (by rw [bc_app]; exact hat)
      have HIB6 := Lib.hid hib6; have HB6 := Lib.hid (HB.out.trans ((HBA.out.mono hbw).trans hb6)); have HK6 := Lib.hid ((Lib.OthersKept.below HKP.out HBA.out).trans hk6); have HBL := Lib.hid hblk
      have u0 := blk_cell HBL.out 0; have u1 := blk_cell HBL.out 1; have u2 := blk_cell HBL.out 2; have u3 := blk_cell HBL.out 3
      simp only [List.getElem?_toArray, List.getElem?_cons_zero, List.getElem?_cons_succ] at u0 u1 u2 u3
      clear hat hb6 hk6 hblk hib6
      go_wp2_with fail
      refine (HYW.out B b _ w0 w6 A3 c3 HC0.out hl3 hB (hbel0.trans HB6.out) (by omega) HIB6.out HT.out (by simp only [List.length_append, List.length_cons, List.length_nil]; omega)).mono ?_
      rintro e w7 ⟨rfl, hib7, hb7, hk7⟩
      have hq : bs ++ 40 :: (word x ++ texts (x.f3.take k)) ++ [32] ++ text y = bs ++ 40 :: (word x ++ texts (x.f3.take (k + 1))) := by rw [HTS.out]; simp
      rw [hq] at hib7
      have HIB7 := Lib.hid hib7; have HB7 := Lib.hid (HB6.out.trans hb7); have HK7 := Lib.hid (HK6.out.trans hk7)
      clear hib7 hb7 hk7 hq u0 u1 u2 u3
      go_wp2_with fail
      exact ⟨⟨k + 1, by omega, by first | rfl | go_num, HIB7, HB7, HK7⟩, by simp [intOf]; omega⟩
    · have hkl : k = x.f3.length := by omega
      subst hkl
      go_wp2_with fail
      refine (Tryd.Builder_WriteByte_k B b _ 41 wr IB.out (by rw [bc_len, List.take_length]; simp only [List.length_append, List.length_cons]; omega) (Nat.le_trans hBw HB.out.size)).mono ?_
      rintro e w6 ⟨rfl, hat, hb6, hk6⟩
      have HAT := Lib.hid hat; have HB6 := Lib.hid (HB.out.trans hb6); have HK6 := Lib.hid (HKP.out.trans hk6)
      clear hat hb6 hk6
      go_wp2_with fail
      refine bodyPost_end (results_none rfl _ _) rfl ?_
      refine ⟨rfl, .inr ?_, HB6.out, HK6.out⟩
      have h := HAT.out
      rw [List.take_length] at h
      have e1 : bs ++ text x = (bs ++ 40 :: (word x ++ texts x.f3)) ++ [41] := by rw [HTX.out]; simp
      rw [e1, bc_app]; exact h
theorem ok_get {l : List T} (h : Oks l) : ∀ x ∈ l, Ok x := by
  induction l with
  | nil => intro x hx; cases hx
  | cons y r ih =>
    intro x hx
    rcases List.mem_cons.1 hx with rfl | hx
    · exact h.1
    · exact ih h.2 x hx
theorem ok_num {x : T} (h : Ok x) : (Lit.int .i64 x.f1).wf = true := by cases x; exact h.2.1
theorem ok_kids {x : T} (h : Ok x) : Oks x.f3 := by cases x; exact h.2.2
theorem write_any : ∀ (n : Nat) (x : T), height x ≤ n → wt x ≤ 1000000000 → Ok x → WrC x
  | 0, x, hn, _, _ => by cases x; simp only [height] at hn; omega
  | n + 1, x, hn, hw, ok => by
    have hh : height x = heights x.f3 + 1 := by cases x; rfl
    have H : ∀ y ∈ x.f3, WrC y := fun y hy => write_any n y (by have := height_get hy; omega) (by have := wt_get hy; have := wts_wt x; omega) (ok_get (ok_kids ok) y hy)
    intro B b bs w0 w A c hc hlc hB hbel hBw hb htab hlen
    by_cases h1 : x.f0 = 1
    · exact write_1 x h1 (ok_num ok) B b bs w0 w A c hc hlc hB hbel hBw hb htab hlen
    by_cases h7 : x.f0 = 7
    · exact write_7 x h7 (ok_num ok) B b bs w0 w A c hc hlc hB hbel hBw hb htab hlen
    by_cases h9 : x.f0 = 9
    · exact write_9 x h9 (ok_num ok) B b bs w0 w A c hc hlc hB hbel hBw hb htab hlen
    exact write_else x h1 h7 h9 (ok_num ok) hw H B b bs w0 w A c hc hlc hB hbel hBw hb htab hlen
set_option maxRecDepth 100000 in
/-- core.Text, whatever term. -/
theorem text_any (x : T) (hw : wt x ≤ 1000000000) (ok : Ok x) (hlen : (text x).length ≤ 100000000000) (w : World) (A : Option Addr) (c : Nat) (hc : Kd.C k24 w A x.f3.length x.f3) (hlc : x.f3.length ≤ c) (htab : Lib.TabIs Tryd.prog w "internal/strconv.uint64pow10" .u64 Lib.pow10Tab) :
    Calls Tryd.prog 11 #[.agg #[.int .i64 x.f0, .int .i64 x.f1, .string x.f2, .slice A x.f3.length c]] w fun e w' => e = .returned (.string ⟨(text x).toArray⟩) ∧ Below w.heap.size w w' := by
  have HW := Lib.hid (write_any (height x) x (Nat.le_refl _) hw ok)
  have HC := Lib.hid hc
  have HT := Lib.hid (tabBelow_of_tabIs htab)
  clear hc htab
  go_enter Tryd.func11, Tryd.ntmps11
  go_wp2_with fail
  have hbel : Below w.heap.size w ((w.alloc (Obj.cells #[.int .i64 x.f0, .int .i64 x.f1, .string x.f2, .slice A x.f3.length c] 24)).alloc (Obj.cells #[.pointer none, .slice none 0 0] 44)) := below_alloc (below_alloc (Below.refl w.heap.size w) _) _
  have hnew := blk_new (w.alloc (Obj.cells #[.int .i64 x.f0, .int .i64 x.f1, .string x.f2, .slice A x.f3.length c] 24)) (Obj.cells #[.pointer none, .slice none 0 0] 44)
  rw [World.size_alloc] at hnew
  have hib : Lib.IsBuilderF 44 5 w.heap.size (w.heap.size + 1) (Lib.byteCells []) ((w.alloc (Obj.cells #[.int .i64 x.f0, .int .i64 x.f1, .string x.f2, .slice A x.f3.length c] 24)).alloc (Obj.cells #[.pointer none, .slice none 0 0] 44)) :=
    .inl ⟨by omega, .slice none 0 0, hnew, World.ownsRowF_nil _ _ _ _, by simp [Value.ownBlock]⟩
  refine (HW.out w.heap.size (w.heap.size + 1) [] w _ A c HC.out hlc rfl hbel hbel.size hib HT.out (by simpa using hlen)).mono ?_
  rintro e w5 ⟨rfl, hib5, hb5, _⟩
  have HIB := Lib.hid hib5; have HB := Lib.hid (hbel.trans hb5)
  clear hib5 hb5 hib hnew hbel
  go_wp2_with fail
  refine (Tryd.Builder_String_k w.heap.size (w.heap.size + 1) (text x) w5 (by simpa using HIB.out) HB.out.size).mono ?_
  rintro e w6 ⟨rfl, _, hb6, _⟩
  have HB6 := Lib.hid (HB.out.trans hb6)
  clear hb6
  go_wp2_with fail
  go_ret
  exact ⟨rfl, HB6.out⟩
end CoreText
end Go.Proofs.YtlokmdjhpaimbaaDoor.Pure
