-- Written for this claim.
import Derived.Test.YtlokmdjhpaimbaaDoorQx1
import Derived.Test.YtlokmdjhpaimbaaDoorQx2
import Derived.Test.YtlokmdjhpaimbaaDoorQx8
import Derived.Test.YtlokmdjhpaimbaaDoorQx10
import Derived.Test.YtlokmdjhpaimbaaDoorPCoreMay
import Derived.Deep.RegionWith
namespace Go.Proofs.YtlokmdjhpaimbaaDoor.Pure
open Go Go.RowKit Go.Lib Go.Proofs Go.Proofs.YtlokmdjhpaimbaaDoor.Q Go.Proofs.YtlokmdjhpaimbaaDoorW.PrintWords Go.Proofs.YtlokmdjhpaimbaaDoorW.PrintLast Go.Proofs.YtlokmdjhpaimbaaDoorW.PrintMore
open HCoreC HCore
namespace CoreMay
set_option linter.unusedVariables false
set_option linter.unusedSimpArgs false
theorem wts_wt (x : T) : wts x.f3 ≤ wt x := by cases x; simp only [wt]; omega
theorem len_wt (x : T) : x.f3.length ≤ wt x := by cases x; rename_i a b c l; have := len_wts l; simp only [wt]; omega
theorem eq_1 (x : T) (free : Int) (hk : x.f0 = 1) : may x free = (decide (x.f3.length = 0) && decide (x.f2.data.toList = []) && (decide (0 ≤ x.f1) && decide (x.f1 ≤ free - 1))) := by
  cases x; simp only at hk; subst hk; exact Bool.and_assoc _ _ _
set_option maxRecDepth 100000 in
theorem may_1 (x : T) (free : Int) (hk : x.f0 = 1) (hw : wt x ≤ 1000000000) (hf0 : -1000000000 ≤ free) (hf1 : free ≤ 2000000000) (H : ∀ y ∈ x.f3, ∀ m : Int, 0 ≤ m → m ≤ 8 → MayC y (free + m)) : MayC x free := by
  intro w A c hc hlc
  have ME := Lib.hid (eq_1 x free hk)
  have hba := below_alloc (Below.refl w.heap.size w) (Obj.cells #[.int .i64 x.f0, .int .i64 x.f1, .string x.f2, .slice A x.f3.length c] 24)
  have hb0 := blk_new w (Obj.cells #[.int .i64 x.f0, .int .i64 x.f1, .string x.f2, .slice A x.f3.length c] 24)
  have hcc := Kd.C_below hc hba
  have HK := Lib.hid hk
  clear hk
  have hll := len_wt x
  go_enter Tryd.func10, Tryd.ntmps10
  go_upto_region 1 with (fail)
  generalize hwq : w.alloc (Obj.cells #[.int .i64 x.f0, .int .i64 x.f1, .string x.f2, .slice A x.f3.length c] 24) = wq at hb0 hba hcc ⊢
  clear hwq
  have hlt : w.heap.size < wq.heap.size := blk_lt hb0
  have HB := Lib.hid hba; have HC := Lib.hid hcc; have HH := Lib.hid H; have BK := Lib.hid hb0
  clear hba hcc hc H hb0
  have y0 := blk_cell BK.out 0; have y1 := blk_cell BK.out 1; have y2 := blk_cell BK.out 2; have y3 := blk_cell BK.out 3
  simp only [List.getElem?_toArray, List.getElem?_cons_zero, List.getElem?_cons_succ] at y0 y1 y2 y3
  rw [HK.out] at y0
  rcases Classical.em (x.f3.length = 0) with q0 | q0
  · have Q0 := Lib.hid q0
    clear q0
    have b1 : ((x.f3.length : Int) == 0) = true := by rw [Q0.out]; rfl
    rcases Classical.em (x.f2.data.toList = []) with q1 | q1
    · have Q1 := Lib.hid q1
      clear q1
      have b2 : (x.f2.toList == ([] : List UInt8)) = true := by rw [Lib.toList_data, Q1.out]; rfl
      cases q2 : (decide (0 ≤ x.f1) && decide (x.f1 ≤ free - 1)) with
      | true =>
        have E2 := Lib.hid q2
        clear q2
        go_wp2_with fail
        have hin := in_is x.f1 0 (free - 1)
        rw [E2.out] at hin
        refine (core_in.calls x.f1 0 (free - 1) _ _ hin).mono ?_
        rintro e w3 ⟨rfl, hd⟩
        have hb := hd.below
        clear hin hd
        have n0_ := Lib.hid (below_step HB.out hb); have n1_ := Lib.hid (Kd.C_below HC.out hb); have n2_ := Lib.hid (blk_below BK.out hb)
        clear HB HC BK hb y0 y1 y2 y3
        have HB := n0_; have HC := n1_; have BK := n2_
        clear n0_ n1_ n2_
        have y0 := blk_cell BK.out 0; have y1 := blk_cell BK.out 1; have y2 := blk_cell BK.out 2; have y3 := blk_cell BK.out 3
        simp only [List.getElem?_toArray, List.getElem?_cons_zero, List.getElem?_cons_succ] at y0 y1 y2 y3
        rw [HK.out] at y0
        go_wp2_with fail
        go_ret
        exact ⟨congrArg (fun t => Ending.returned (Value.bool t)) (show true = may x free by rw [ME.out]; simp only [decide_eq_true (show (x.f3.length = 0) from by have := Q0.out; omega), decide_eq_true Q1.out, E2.out, Bool.true_and, Bool.and_true, Bool.false_and, Bool.and_false]), HB.out⟩
      | false =>
        have E2 := Lib.hid q2
        clear q2
        go_wp2_with fail
        have hin := in_is x.f1 0 (free - 1)
        rw [E2.out] at hin
        refine (core_in.calls x.f1 0 (free - 1) _ _ hin).mono ?_
        rintro e w3 ⟨rfl, hd⟩
        have hb := hd.below
        clear hin hd
        have n0_ := Lib.hid (below_step HB.out hb); have n1_ := Lib.hid (Kd.C_below HC.out hb); have n2_ := Lib.hid (blk_below BK.out hb)
        clear HB HC BK hb y0 y1 y2 y3
        have HB := n0_; have HC := n1_; have BK := n2_
        clear n0_ n1_ n2_
        have y0 := blk_cell BK.out 0; have y1 := blk_cell BK.out 1; have y2 := blk_cell BK.out 2; have y3 := blk_cell BK.out 3
        simp only [List.getElem?_toArray, List.getElem?_cons_zero, List.getElem?_cons_succ] at y0 y1 y2 y3
        rw [HK.out] at y0
        go_wp2_with fail
        go_ret
        exact ⟨congrArg (fun t => Ending.returned (Value.bool t)) (show false = may x free by rw [ME.out]; simp only [decide_eq_true (show (x.f3.length = 0) from by have := Q0.out; omega), decide_eq_true Q1.out, E2.out, Bool.true_and, Bool.and_true, Bool.false_and, Bool.and_false]), HB.out⟩
    · have Q1 := Lib.hid q1
      clear q1
      have b2 : (x.f2.toList == ([] : List UInt8)) = false := by rw [Lib.toList_data]; exact beq_eq_false_iff_ne.2 Q1.out
      go_wp2_with fail
      go_ret
      exact ⟨congrArg (fun t => Ending.returned (Value.bool t)) (show false = may x free by rw [ME.out]; simp only [decide_eq_true (show (x.f3.length = 0) from by have := Q0.out; omega), decide_eq_false Q1.out, Bool.true_and, Bool.and_true, Bool.false_and, Bool.and_false]), HB.out⟩
  · have Q0 := Lib.hid q0
    clear q0
    have b1 : ((x.f3.length : Int) == 0) = false := beq_eq_false_iff_ne.2 (by have := Q0.out; omega)
    go_wp2_with fail
    go_ret
    exact ⟨congrArg (fun t => Ending.returned (Value.bool t)) (show false = may x free by rw [ME.out]; simp only [decide_eq_false (show ¬ (x.f3.length = 0) from by have := Q0.out; omega), Bool.true_and, Bool.and_true, Bool.false_and, Bool.and_false]), HB.out⟩
theorem eq_7 (x : T) (free : Int) (hk : x.f0 = 7) : may x free = (decide (x.f3.length = 0) && decide (x.f2.data.toList = []) && decide (0 ≤ free)) := by
  cases x; simp only at hk; subst hk; rfl
set_option maxRecDepth 100000 in
theorem may_7 (x : T) (free : Int) (hk : x.f0 = 7) (hw : wt x ≤ 1000000000) (hf0 : -1000000000 ≤ free) (hf1 : free ≤ 2000000000) (H : ∀ y ∈ x.f3, ∀ m : Int, 0 ≤ m → m ≤ 8 → MayC y (free + m)) : MayC x free := by
  intro w A c hc hlc
  have ME := Lib.hid (eq_7 x free hk)
  have hba := below_alloc (Below.refl w.heap.size w) (Obj.cells #[.int .i64 x.f0, .int .i64 x.f1, .string x.f2, .slice A x.f3.length c] 24)
  have hb0 := blk_new w (Obj.cells #[.int .i64 x.f0, .int .i64 x.f1, .string x.f2, .slice A x.f3.length c] 24)
  have hcc := Kd.C_below hc hba
  have HK := Lib.hid hk
  clear hk
  have hll := len_wt x
  go_enter Tryd.func10, Tryd.ntmps10
  go_upto_region 1 with (fail)
  generalize hwq : w.alloc (Obj.cells #[.int .i64 x.f0, .int .i64 x.f1, .string x.f2, .slice A x.f3.length c] 24) = wq at hb0 hba hcc ⊢
  clear hwq
  have hlt : w.heap.size < wq.heap.size := blk_lt hb0
  have HB := Lib.hid hba; have HC := Lib.hid hcc; have HH := Lib.hid H; have BK := Lib.hid hb0
  clear hba hcc hc H hb0
  have y0 := blk_cell BK.out 0; have y1 := blk_cell BK.out 1; have y2 := blk_cell BK.out 2; have y3 := blk_cell BK.out 3
  simp only [List.getElem?_toArray, List.getElem?_cons_zero, List.getElem?_cons_succ] at y0 y1 y2 y3
  rw [HK.out] at y0
  rcases Classical.em (x.f3.length = 0) with q0 | q0
  · have Q0 := Lib.hid q0
    clear q0
    have b1 : ((x.f3.length : Int) == 0) = true := by rw [Q0.out]; rfl
    rcases Classical.em (x.f2.data.toList = []) with q1 | q1
    · have Q1 := Lib.hid q1
      clear q1
      have b2 : (x.f2.toList == ([] : List UInt8)) = true := by rw [Lib.toList_data, Q1.out]; rfl
      rcases Classical.em (0 ≤ free) with q2 | q2
      · have Q2 := Lib.hid q2
        clear q2
        have b4 : decide (free ≥ 0) = true := decide_eq_true Q2.out
        go_wp2_with fail
        go_ret
        exact ⟨congrArg (fun t => Ending.returned (Value.bool t)) (show true = may x free by rw [ME.out]; simp only [decide_eq_true (show (x.f3.length = 0) from by have := Q0.out; omega), decide_eq_true Q1.out, decide_eq_true (show (0 ≤ free) from by have := Q2.out; omega), Bool.true_and, Bool.and_true, Bool.false_and, Bool.and_false]), HB.out⟩
      · have Q2 := Lib.hid q2
        clear q2
        have b4 : decide (free ≥ 0) = false := decide_eq_false Q2.out
        go_wp2_with fail
        go_ret
        exact ⟨congrArg (fun t => Ending.returned (Value.bool t)) (show false = may x free by rw [ME.out]; simp only [decide_eq_true (show (x.f3.length = 0) from by have := Q0.out; omega), decide_eq_true Q1.out, decide_eq_false (show ¬ (0 ≤ free) from by have := Q2.out; omega), Bool.true_and, Bool.and_true, Bool.false_and, Bool.and_false]), HB.out⟩
    · have Q1 := Lib.hid q1
      clear q1
      have b2 : (x.f2.toList == ([] : List UInt8)) = false := by rw [Lib.toList_data]; exact beq_eq_false_iff_ne.2 Q1.out
      go_wp2_with fail
      go_ret
      exact ⟨congrArg (fun t => Ending.returned (Value.bool t)) (show false = may x free by rw [ME.out]; simp only [decide_eq_true (show (x.f3.length = 0) from by have := Q0.out; omega), decide_eq_false Q1.out, Bool.true_and, Bool.and_true, Bool.false_and, Bool.and_false]), HB.out⟩
  · have Q0 := Lib.hid q0
    clear q0
    have b1 : ((x.f3.length : Int) == 0) = false := beq_eq_false_iff_ne.2 (by have := Q0.out; omega)
    go_wp2_with fail
    go_ret
    exact ⟨congrArg (fun t => Ending.returned (Value.bool t)) (show false = may x free by rw [ME.out]; simp only [decide_eq_false (show ¬ (x.f3.length = 0) from by have := Q0.out; omega), Bool.true_and, Bool.and_true, Bool.false_and, Bool.and_false]), HB.out⟩
theorem eq_9 (x : T) (free : Int) (hk : x.f0 = 9) : may x free = (decide (x.f3.length = 0) && bare x.f1 x.f2 && decide (0 ≤ free)) := by
  cases x; simp only at hk; subst hk; rfl
set_option maxRecDepth 100000 in
theorem may_9 (x : T) (free : Int) (hk : x.f0 = 9) (hw : wt x ≤ 1000000000) (hf0 : -1000000000 ≤ free) (hf1 : free ≤ 2000000000) (H : ∀ y ∈ x.f3, ∀ m : Int, 0 ≤ m → m ≤ 8 → MayC y (free + m)) : MayC x free := by
  intro w A c hc hlc
  have ME := Lib.hid (eq_9 x free hk)
  have hba := below_alloc (Below.refl w.heap.size w) (Obj.cells #[.int .i64 x.f0, .int .i64 x.f1, .string x.f2, .slice A x.f3.length c] 24)
  have hb0 := blk_new w (Obj.cells #[.int .i64 x.f0, .int .i64 x.f1, .string x.f2, .slice A x.f3.length c] 24)
  have hcc := Kd.C_below hc hba
  have HK := Lib.hid hk
  clear hk
  have hll := len_wt x
  go_enter Tryd.func10, Tryd.ntmps10
  go_upto_region 1 with (fail)
  generalize hwq : w.alloc (Obj.cells #[.int .i64 x.f0, .int .i64 x.f1, .string x.f2, .slice A x.f3.length c] 24) = wq at hb0 hba hcc ⊢
  clear hwq
  have hlt : w.heap.size < wq.heap.size := blk_lt hb0
  have HB := Lib.hid hba; have HC := Lib.hid hcc; have HH := Lib.hid H; have BK := Lib.hid hb0
  clear hba hcc hc H hb0
  have y0 := blk_cell BK.out 0; have y1 := blk_cell BK.out 1; have y2 := blk_cell BK.out 2; have y3 := blk_cell BK.out 3
  simp only [List.getElem?_toArray, List.getElem?_cons_zero, List.getElem?_cons_succ] at y0 y1 y2 y3
  rw [HK.out] at y0
  rcases Classical.em (x.f3.length = 0) with q0 | q0
  · have Q0 := Lib.hid q0
    clear q0
    have b1 : ((x.f3.length : Int) == 0) = true := by rw [Q0.out]; rfl
    cases q1 : bare x.f1 x.f2 with
    | true =>
      have E1 := Lib.hid q1
      clear q1
      go_wp2_with fail
      have hpl := plain_is x.f0 x.f1 x.f2 x.f3
      rw [E1.out] at hpl
      rw [HK.out] at hpl
      refine (core_plain.calls _ x.f1 x.f2 _ c x.f3 _ _ HC.out hlc hpl).mono ?_
      rintro e w3 ⟨rfl, hb⟩
      clear hpl
      have n0_ := Lib.hid (below_step HB.out hb); have n1_ := Lib.hid (Kd.C_below HC.out hb); have n2_ := Lib.hid (blk_below BK.out hb)
      clear HB HC BK hb y0 y1 y2 y3
      have HB := n0_; have HC := n1_; have BK := n2_
      clear n0_ n1_ n2_
      have y0 := blk_cell BK.out 0; have y1 := blk_cell BK.out 1; have y2 := blk_cell BK.out 2; have y3 := blk_cell BK.out 3
      simp only [List.getElem?_toArray, List.getElem?_cons_zero, List.getElem?_cons_succ] at y0 y1 y2 y3
      rw [HK.out] at y0
      rcases Classical.em (0 ≤ free) with q2 | q2
      · have Q2 := Lib.hid q2
        clear q2
        have b4 : decide (free ≥ 0) = true := decide_eq_true Q2.out
        go_wp2_with fail
        go_ret
        exact ⟨congrArg (fun t => Ending.returned (Value.bool t)) (show true = may x free by rw [ME.out]; simp only [decide_eq_true (show (x.f3.length = 0) from by have := Q0.out; omega), E1.out, decide_eq_true (show (0 ≤ free) from by have := Q2.out; omega), Bool.true_and, Bool.and_true, Bool.false_and, Bool.and_false]), HB.out⟩
      · have Q2 := Lib.hid q2
        clear q2
        have b4 : decide (free ≥ 0) = false := decide_eq_false Q2.out
        go_wp2_with fail
        go_ret
        exact ⟨congrArg (fun t => Ending.returned (Value.bool t)) (show false = may x free by rw [ME.out]; simp only [decide_eq_true (show (x.f3.length = 0) from by have := Q0.out; omega), E1.out, decide_eq_false (show ¬ (0 ≤ free) from by have := Q2.out; omega), Bool.true_and, Bool.and_true, Bool.false_and, Bool.and_false]), HB.out⟩
    | false =>
      have E1 := Lib.hid q1
      clear q1
      go_wp2_with fail
      have hpl := plain_is x.f0 x.f1 x.f2 x.f3
      rw [E1.out] at hpl
      rw [HK.out] at hpl
      refine (core_plain.calls _ x.f1 x.f2 _ c x.f3 _ _ HC.out hlc hpl).mono ?_
      rintro e w3 ⟨rfl, hb⟩
      clear hpl
      have n0_ := Lib.hid (below_step HB.out hb); have n1_ := Lib.hid (Kd.C_below HC.out hb); have n2_ := Lib.hid (blk_below BK.out hb)
      clear HB HC BK hb y0 y1 y2 y3
      have HB := n0_; have HC := n1_; have BK := n2_
      clear n0_ n1_ n2_
      have y0 := blk_cell BK.out 0; have y1 := blk_cell BK.out 1; have y2 := blk_cell BK.out 2; have y3 := blk_cell BK.out 3
      simp only [List.getElem?_toArray, List.getElem?_cons_zero, List.getElem?_cons_succ] at y0 y1 y2 y3
      rw [HK.out] at y0
      go_wp2_with fail
      go_ret
      exact ⟨congrArg (fun t => Ending.returned (Value.bool t)) (show false = may x free by rw [ME.out]; simp only [decide_eq_true (show (x.f3.length = 0) from by have := Q0.out; omega), E1.out, Bool.true_and, Bool.and_true, Bool.false_and, Bool.and_false]), HB.out⟩
  · have Q0 := Lib.hid q0
    clear q0
    have b1 : ((x.f3.length : Int) == 0) = false := beq_eq_false_iff_ne.2 (by have := Q0.out; omega)
    go_wp2_with fail
    go_ret
    exact ⟨congrArg (fun t => Ending.returned (Value.bool t)) (show false = may x free by rw [ME.out]; simp only [decide_eq_false (show ¬ (x.f3.length = 0) from by have := Q0.out; omega), Bool.true_and, Bool.and_true, Bool.false_and, Bool.and_false]), HB.out⟩
theorem eq_2 (x : T) (free : Int) (hk : x.f0 = 2) : may x free = (decide (x.f3.length = 1) && bare x.f1 x.f2 && decide (0 ≤ free) && each x.f3 (free + 1)) := by
  cases x; simp only at hk; subst hk; rfl
set_option maxRecDepth 100000 in
theorem may_2 (x : T) (free : Int) (hk : x.f0 = 2) (hw : wt x ≤ 1000000000) (hf0 : -1000000000 ≤ free) (hf1 : free ≤ 2000000000) (H : ∀ y ∈ x.f3, ∀ m : Int, 0 ≤ m → m ≤ 8 → MayC y (free + m)) : MayC x free := by
  intro w A c hc hlc
  have ME := Lib.hid (eq_2 x free hk)
  have hba := below_alloc (Below.refl w.heap.size w) (Obj.cells #[.int .i64 x.f0, .int .i64 x.f1, .string x.f2, .slice A x.f3.length c] 24)
  have hb0 := blk_new w (Obj.cells #[.int .i64 x.f0, .int .i64 x.f1, .string x.f2, .slice A x.f3.length c] 24)
  have hcc := Kd.C_below hc hba
  have HK := Lib.hid hk
  clear hk
  have hll := len_wt x
  go_enter Tryd.func10, Tryd.ntmps10
  go_upto_region 1 with (fail)
  generalize hwq : w.alloc (Obj.cells #[.int .i64 x.f0, .int .i64 x.f1, .string x.f2, .slice A x.f3.length c] 24) = wq at hb0 hba hcc ⊢
  clear hwq
  have hlt : w.heap.size < wq.heap.size := blk_lt hb0
  have HB := Lib.hid hba; have HC := Lib.hid hcc; have HH := Lib.hid H; have BK := Lib.hid hb0
  clear hba hcc hc H hb0
  have y0 := blk_cell BK.out 0; have y1 := blk_cell BK.out 1; have y2 := blk_cell BK.out 2; have y3 := blk_cell BK.out 3
  simp only [List.getElem?_toArray, List.getElem?_cons_zero, List.getElem?_cons_succ] at y0 y1 y2 y3
  rw [HK.out] at y0
  rcases Classical.em (x.f3.length = 1) with q0 | q0
  · have Q0 := Lib.hid q0
    clear q0
    have b1 : ((x.f3.length : Int) == 1) = true := by rw [Q0.out]; rfl
    cases q1 : bare x.f1 x.f2 with
    | true =>
      have E1 := Lib.hid q1
      clear q1
      go_wp2_with fail
      have hpl := plain_is x.f0 x.f1 x.f2 x.f3
      rw [E1.out] at hpl
      rw [HK.out] at hpl
      refine (core_plain.calls _ x.f1 x.f2 _ c x.f3 _ _ HC.out hlc hpl).mono ?_
      rintro e w3 ⟨rfl, hb⟩
      clear hpl
      have n0_ := Lib.hid (below_step HB.out hb); have n1_ := Lib.hid (Kd.C_below HC.out hb); have n2_ := Lib.hid (blk_below BK.out hb)
      clear HB HC BK hb y0 y1 y2 y3
      have HB := n0_; have HC := n1_; have BK := n2_
      clear n0_ n1_ n2_
      have y0 := blk_cell BK.out 0; have y1 := blk_cell BK.out 1; have y2 := blk_cell BK.out 2; have y3 := blk_cell BK.out 3
      simp only [List.getElem?_toArray, List.getElem?_cons_zero, List.getElem?_cons_succ] at y0 y1 y2 y3
      rw [HK.out] at y0
      rcases Classical.em (0 ≤ free) with q2 | q2
      · have Q2 := Lib.hid q2
        clear q2
        have b4 : decide (free ≥ 0) = true := decide_eq_true Q2.out
        cases q3 : each x.f3 (free + 1) with
        | true =>
          have E3 := Lib.hid q3
          clear q3
          go_wp2_with fail
          have hea := each_any x.f3 (free + 1) (by omega) (fun y hy => HH.out y hy 1 (by omega) (by omega)) _ _ c HC.out hlc
          rw [E3.out] at hea
          refine hea.mono ?_
          rintro e w3 ⟨rfl, hb⟩
          clear hea
          have n0_ := Lib.hid (below_step HB.out hb); have n1_ := Lib.hid (Kd.C_below HC.out hb); have n2_ := Lib.hid (blk_below BK.out hb)
          clear HB HC BK hb y0 y1 y2 y3
          have HB := n0_; have HC := n1_; have BK := n2_
          clear n0_ n1_ n2_
          have y0 := blk_cell BK.out 0; have y1 := blk_cell BK.out 1; have y2 := blk_cell BK.out 2; have y3 := blk_cell BK.out 3
          simp only [List.getElem?_toArray, List.getElem?_cons_zero, List.getElem?_cons_succ] at y0 y1 y2 y3
          rw [HK.out] at y0
          go_wp2_with fail
          go_ret
          exact ⟨congrArg (fun t => Ending.returned (Value.bool t)) (show true = may x free by rw [ME.out]; simp only [decide_eq_true (show (x.f3.length = 1) from by have := Q0.out; omega), E1.out, decide_eq_true (show (0 ≤ free) from by have := Q2.out; omega), E3.out, Bool.true_and, Bool.and_true, Bool.false_and, Bool.and_false]), HB.out⟩
        | false =>
          have E3 := Lib.hid q3
          clear q3
          go_wp2_with fail
          have hea := each_any x.f3 (free + 1) (by omega) (fun y hy => HH.out y hy 1 (by omega) (by omega)) _ _ c HC.out hlc
          rw [E3.out] at hea
          refine hea.mono ?_
          rintro e w3 ⟨rfl, hb⟩
          clear hea
          have n0_ := Lib.hid (below_step HB.out hb); have n1_ := Lib.hid (Kd.C_below HC.out hb); have n2_ := Lib.hid (blk_below BK.out hb)
          clear HB HC BK hb y0 y1 y2 y3
          have HB := n0_; have HC := n1_; have BK := n2_
          clear n0_ n1_ n2_
          have y0 := blk_cell BK.out 0; have y1 := blk_cell BK.out 1; have y2 := blk_cell BK.out 2; have y3 := blk_cell BK.out 3
          simp only [List.getElem?_toArray, List.getElem?_cons_zero, List.getElem?_cons_succ] at y0 y1 y2 y3
          rw [HK.out] at y0
          go_wp2_with fail
          go_ret
          exact ⟨congrArg (fun t => Ending.returned (Value.bool t)) (show false = may x free by rw [ME.out]; simp only [decide_eq_true (show (x.f3.length = 1) from by have := Q0.out; omega), E1.out, decide_eq_true (show (0 ≤ free) from by have := Q2.out; omega), E3.out, Bool.true_and, Bool.and_true, Bool.false_and, Bool.and_false]), HB.out⟩
      · have Q2 := Lib.hid q2
        clear q2
        have b4 : decide (free ≥ 0) = false := decide_eq_false Q2.out
        go_wp2_with fail
        go_ret
        exact ⟨congrArg (fun t => Ending.returned (Value.bool t)) (show false = may x free by rw [ME.out]; simp only [decide_eq_true (show (x.f3.length = 1) from by have := Q0.out; omega), E1.out, decide_eq_false (show ¬ (0 ≤ free) from by have := Q2.out; omega), Bool.true_and, Bool.and_true, Bool.false_and, Bool.and_false]), HB.out⟩
    | false =>
      have E1 := Lib.hid q1
      clear q1
      go_wp2_with fail
      have hpl := plain_is x.f0 x.f1 x.f2 x.f3
      rw [E1.out] at hpl
      rw [HK.out] at hpl
      refine (core_plain.calls _ x.f1 x.f2 _ c x.f3 _ _ HC.out hlc hpl).mono ?_
      rintro e w3 ⟨rfl, hb⟩
      clear hpl
      have n0_ := Lib.hid (below_step HB.out hb); have n1_ := Lib.hid (Kd.C_below HC.out hb); have n2_ := Lib.hid (blk_below BK.out hb)
      clear HB HC BK hb y0 y1 y2 y3
      have HB := n0_; have HC := n1_; have BK := n2_
      clear n0_ n1_ n2_
      have y0 := blk_cell BK.out 0; have y1 := blk_cell BK.out 1; have y2 := blk_cell BK.out 2; have y3 := blk_cell BK.out 3
      simp only [List.getElem?_toArray, List.getElem?_cons_zero, List.getElem?_cons_succ] at y0 y1 y2 y3
      rw [HK.out] at y0
      go_wp2_with fail
      go_ret
      exact ⟨congrArg (fun t => Ending.returned (Value.bool t)) (show false = may x free by rw [ME.out]; simp only [decide_eq_true (show (x.f3.length = 1) from by have := Q0.out; omega), E1.out, Bool.true_and, Bool.and_true, Bool.false_and, Bool.and_false]), HB.out⟩
  · have Q0 := Lib.hid q0
    clear q0
    have b1 : ((x.f3.length : Int) == 1) = false := beq_eq_false_iff_ne.2 (by have := Q0.out; omega)
    go_wp2_with fail
    go_ret
    exact ⟨congrArg (fun t => Ending.returned (Value.bool t)) (show false = may x free by rw [ME.out]; simp only [decide_eq_false (show ¬ (x.f3.length = 1) from by have := Q0.out; omega), Bool.true_and, Bool.and_true, Bool.false_and, Bool.and_false]), HB.out⟩
theorem eq_3 (x : T) (free : Int) (hk : x.f0 = 3) : may x free = (decide (x.f3.length = 2) && bare x.f1 x.f2 && each x.f3 free) := by
  cases x; simp only at hk; subst hk; rfl
set_option maxRecDepth 100000 in
theorem may_3 (x : T) (free : Int) (hk : x.f0 = 3) (hw : wt x ≤ 1000000000) (hf0 : -1000000000 ≤ free) (hf1 : free ≤ 2000000000) (H : ∀ y ∈ x.f3, ∀ m : Int, 0 ≤ m → m ≤ 8 → MayC y (free + m)) : MayC x free := by
  intro w A c hc hlc
  have ME := Lib.hid (eq_3 x free hk)
  have hba := below_alloc (Below.refl w.heap.size w) (Obj.cells #[.int .i64 x.f0, .int .i64 x.f1, .string x.f2, .slice A x.f3.length c] 24)
  have hb0 := blk_new w (Obj.cells #[.int .i64 x.f0, .int .i64 x.f1, .string x.f2, .slice A x.f3.length c] 24)
  have hcc := Kd.C_below hc hba
  have HK := Lib.hid hk
  clear hk
  have hll := len_wt x
  go_enter Tryd.func10, Tryd.ntmps10
  go_upto_region 1 with (fail)
  generalize hwq : w.alloc (Obj.cells #[.int .i64 x.f0, .int .i64 x.f1, .string x.f2, .slice A x.f3.length c] 24) = wq at hb0 hba hcc ⊢
  clear hwq
  have hlt : w.heap.size < wq.heap.size := blk_lt hb0
  have HB := Lib.hid hba; have HC := Lib.hid hcc; have HH := Lib.hid H; have BK := Lib.hid hb0
  clear hba hcc hc H hb0
  have y0 := blk_cell BK.out 0; have y1 := blk_cell BK.out 1; have y2 := blk_cell BK.out 2; have y3 := blk_cell BK.out 3
  simp only [List.getElem?_toArray, List.getElem?_cons_zero, List.getElem?_cons_succ] at y0 y1 y2 y3
  rw [HK.out] at y0
  rcases Classical.em (x.f3.length = 2) with q0 | q0
  · have Q0 := Lib.hid q0
    clear q0
    have b1 : ((x.f3.length : Int) == 2) = true := by rw [Q0.out]; rfl
    cases q1 : bare x.f1 x.f2 with
    | true =>
      have E1 := Lib.hid q1
      clear q1
      go_wp2_with fail
      have hpl := plain_is x.f0 x.f1 x.f2 x.f3
      rw [E1.out] at hpl
      rw [HK.out] at hpl
      refine (core_plain.calls _ x.f1 x.f2 _ c x.f3 _ _ HC.out hlc hpl).mono ?_
      rintro e w3 ⟨rfl, hb⟩
      clear hpl
      have n0_ := Lib.hid (below_step HB.out hb); have n1_ := Lib.hid (Kd.C_below HC.out hb); have n2_ := Lib.hid (blk_below BK.out hb)
      clear HB HC BK hb y0 y1 y2 y3
      have HB := n0_; have HC := n1_; have BK := n2_
      clear n0_ n1_ n2_
      have y0 := blk_cell BK.out 0; have y1 := blk_cell BK.out 1; have y2 := blk_cell BK.out 2; have y3 := blk_cell BK.out 3
      simp only [List.getElem?_toArray, List.getElem?_cons_zero, List.getElem?_cons_succ] at y0 y1 y2 y3
      rw [HK.out] at y0
      cases q2 : each x.f3 (free) with
      | true =>
        have E2 := Lib.hid q2
        clear q2
        go_wp2_with fail
        have hea := each_any x.f3 (free) (by omega) (fun y hy => by have := HH.out y hy 0 (by omega) (by omega); rwa [Int.add_zero] at this) _ _ c HC.out hlc
        rw [E2.out] at hea
        refine hea.mono ?_
        rintro e w3 ⟨rfl, hb⟩
        clear hea
        have n0_ := Lib.hid (below_step HB.out hb); have n1_ := Lib.hid (Kd.C_below HC.out hb); have n2_ := Lib.hid (blk_below BK.out hb)
        clear HB HC BK hb y0 y1 y2 y3
        have HB := n0_; have HC := n1_; have BK := n2_
        clear n0_ n1_ n2_
        have y0 := blk_cell BK.out 0; have y1 := blk_cell BK.out 1; have y2 := blk_cell BK.out 2; have y3 := blk_cell BK.out 3
        simp only [List.getElem?_toArray, List.getElem?_cons_zero, List.getElem?_cons_succ] at y0 y1 y2 y3
        rw [HK.out] at y0
        go_wp2_with fail
        go_ret
        exact ⟨congrArg (fun t => Ending.returned (Value.bool t)) (show true = may x free by rw [ME.out]; simp only [decide_eq_true (show (x.f3.length = 2) from by have := Q0.out; omega), E1.out, E2.out, Bool.true_and, Bool.and_true, Bool.false_and, Bool.and_false]), HB.out⟩
      | false =>
        have E2 := Lib.hid q2
        clear q2
        go_wp2_with fail
        have hea := each_any x.f3 (free) (by omega) (fun y hy => by have := HH.out y hy 0 (by omega) (by omega); rwa [Int.add_zero] at this) _ _ c HC.out hlc
        rw [E2.out] at hea
        refine hea.mono ?_
        rintro e w3 ⟨rfl, hb⟩
        clear hea
        have n0_ := Lib.hid (below_step HB.out hb); have n1_ := Lib.hid (Kd.C_below HC.out hb); have n2_ := Lib.hid (blk_below BK.out hb)
        clear HB HC BK hb y0 y1 y2 y3
        have HB := n0_; have HC := n1_; have BK := n2_
        clear n0_ n1_ n2_
        have y0 := blk_cell BK.out 0; have y1 := blk_cell BK.out 1; have y2 := blk_cell BK.out 2; have y3 := blk_cell BK.out 3
        simp only [List.getElem?_toArray, List.getElem?_cons_zero, List.getElem?_cons_succ] at y0 y1 y2 y3
        rw [HK.out] at y0
        go_wp2_with fail
        go_ret
        exact ⟨congrArg (fun t => Ending.returned (Value.bool t)) (show false = may x free by rw [ME.out]; simp only [decide_eq_true (show (x.f3.length = 2) from by have := Q0.out; omega), E1.out, E2.out, Bool.true_and, Bool.and_true, Bool.false_and, Bool.and_false]), HB.out⟩
    | false =>
      have E1 := Lib.hid q1
      clear q1
      go_wp2_with fail
      have hpl := plain_is x.f0 x.f1 x.f2 x.f3
      rw [E1.out] at hpl
      rw [HK.out] at hpl
      refine (core_plain.calls _ x.f1 x.f2 _ c x.f3 _ _ HC.out hlc hpl).mono ?_
      rintro e w3 ⟨rfl, hb⟩
      clear hpl
      have n0_ := Lib.hid (below_step HB.out hb); have n1_ := Lib.hid (Kd.C_below HC.out hb); have n2_ := Lib.hid (blk_below BK.out hb)
      clear HB HC BK hb y0 y1 y2 y3
      have HB := n0_; have HC := n1_; have BK := n2_
      clear n0_ n1_ n2_
      have y0 := blk_cell BK.out 0; have y1 := blk_cell BK.out 1; have y2 := blk_cell BK.out 2; have y3 := blk_cell BK.out 3
      simp only [List.getElem?_toArray, List.getElem?_cons_zero, List.getElem?_cons_succ] at y0 y1 y2 y3
      rw [HK.out] at y0
      go_wp2_with fail
      go_ret
      exact ⟨congrArg (fun t => Ending.returned (Value.bool t)) (show false = may x free by rw [ME.out]; simp only [decide_eq_true (show (x.f3.length = 2) from by have := Q0.out; omega), E1.out, Bool.true_and, Bool.and_true, Bool.false_and, Bool.and_false]), HB.out⟩
  · have Q0 := Lib.hid q0
    clear q0
    have b1 : ((x.f3.length : Int) == 2) = false := beq_eq_false_iff_ne.2 (by have := Q0.out; omega)
    go_wp2_with fail
    go_ret
    exact ⟨congrArg (fun t => Ending.returned (Value.bool t)) (show false = may x free by rw [ME.out]; simp only [decide_eq_false (show ¬ (x.f3.length = 2) from by have := Q0.out; omega), Bool.true_and, Bool.and_true, Bool.false_and, Bool.and_false]), HB.out⟩
theorem eq_8 (x : T) (free : Int) (hk : x.f0 = 8) : may x free = (decide (x.f3.length = 2) && decide (x.f1 = 0) && oper x.f2 && each x.f3 free) := by
  cases x; simp only at hk; subst hk; rfl
set_option maxRecDepth 100000 in
theorem may_8 (x : T) (free : Int) (hk : x.f0 = 8) (hw : wt x ≤ 1000000000) (hf0 : -1000000000 ≤ free) (hf1 : free ≤ 2000000000) (H : ∀ y ∈ x.f3, ∀ m : Int, 0 ≤ m → m ≤ 8 → MayC y (free + m)) : MayC x free := by
  intro w A c hc hlc
  have ME := Lib.hid (eq_8 x free hk)
  have hba := below_alloc (Below.refl w.heap.size w) (Obj.cells #[.int .i64 x.f0, .int .i64 x.f1, .string x.f2, .slice A x.f3.length c] 24)
  have hb0 := blk_new w (Obj.cells #[.int .i64 x.f0, .int .i64 x.f1, .string x.f2, .slice A x.f3.length c] 24)
  have hcc := Kd.C_below hc hba
  have HK := Lib.hid hk
  clear hk
  have hll := len_wt x
  go_enter Tryd.func10, Tryd.ntmps10
  go_upto_region 1 with (fail)
  generalize hwq : w.alloc (Obj.cells #[.int .i64 x.f0, .int .i64 x.f1, .string x.f2, .slice A x.f3.length c] 24) = wq at hb0 hba hcc ⊢
  clear hwq
  have hlt : w.heap.size < wq.heap.size := blk_lt hb0
  have HB := Lib.hid hba; have HC := Lib.hid hcc; have HH := Lib.hid H; have BK := Lib.hid hb0
  clear hba hcc hc H hb0
  have y0 := blk_cell BK.out 0; have y1 := blk_cell BK.out 1; have y2 := blk_cell BK.out 2; have y3 := blk_cell BK.out 3
  simp only [List.getElem?_toArray, List.getElem?_cons_zero, List.getElem?_cons_succ] at y0 y1 y2 y3
  rw [HK.out] at y0
  rcases Classical.em (x.f3.length = 2) with q0 | q0
  · have Q0 := Lib.hid q0
    clear q0
    have b1 : ((x.f3.length : Int) == 2) = true := by rw [Q0.out]; rfl
    rcases Classical.em (x.f1 = 0) with q1 | q1
    · have Q1 := Lib.hid q1
      clear q1
      have b3 : (x.f1 == 0) = true := by rw [Q1.out]; rfl
      cases q2 : oper x.f2 with
      | true =>
        have E2 := Lib.hid q2
        clear q2
        go_wp2_with fail
        have hop := oper_is x.f2
        rw [E2.out] at hop
        refine (core_operator.calls 9 x.f2 _ _ hop).mono ?_
        rintro e w3 ⟨rfl, hb⟩
        clear hop
        have n0_ := Lib.hid (below_step HB.out hb); have n1_ := Lib.hid (Kd.C_below HC.out hb); have n2_ := Lib.hid (blk_below BK.out hb)
        clear HB HC BK hb y0 y1 y2 y3
        have HB := n0_; have HC := n1_; have BK := n2_
        clear n0_ n1_ n2_
        have y0 := blk_cell BK.out 0; have y1 := blk_cell BK.out 1; have y2 := blk_cell BK.out 2; have y3 := blk_cell BK.out 3
        simp only [List.getElem?_toArray, List.getElem?_cons_zero, List.getElem?_cons_succ] at y0 y1 y2 y3
        rw [HK.out] at y0
        cases q3 : each x.f3 (free) with
        | true =>
          have E3 := Lib.hid q3
          clear q3
          go_wp2_with fail
          have hea := each_any x.f3 (free) (by omega) (fun y hy => by have := HH.out y hy 0 (by omega) (by omega); rwa [Int.add_zero] at this) _ _ c HC.out hlc
          rw [E3.out] at hea
          refine hea.mono ?_
          rintro e w3 ⟨rfl, hb⟩
          clear hea
          have n0_ := Lib.hid (below_step HB.out hb); have n1_ := Lib.hid (Kd.C_below HC.out hb); have n2_ := Lib.hid (blk_below BK.out hb)
          clear HB HC BK hb y0 y1 y2 y3
          have HB := n0_; have HC := n1_; have BK := n2_
          clear n0_ n1_ n2_
          have y0 := blk_cell BK.out 0; have y1 := blk_cell BK.out 1; have y2 := blk_cell BK.out 2; have y3 := blk_cell BK.out 3
          simp only [List.getElem?_toArray, List.getElem?_cons_zero, List.getElem?_cons_succ] at y0 y1 y2 y3
          rw [HK.out] at y0
          go_wp2_with fail
          go_ret
          exact ⟨congrArg (fun t => Ending.returned (Value.bool t)) (show true = may x free by rw [ME.out]; simp only [decide_eq_true (show (x.f3.length = 2) from by have := Q0.out; omega), decide_eq_true (show (x.f1 = 0) from by have := Q1.out; omega), E2.out, E3.out, Bool.true_and, Bool.and_true, Bool.false_and, Bool.and_false]), HB.out⟩
        | false =>
          have E3 := Lib.hid q3
          clear q3
          go_wp2_with fail
          have hea := each_any x.f3 (free) (by omega) (fun y hy => by have := HH.out y hy 0 (by omega) (by omega); rwa [Int.add_zero] at this) _ _ c HC.out hlc
          rw [E3.out] at hea
          refine hea.mono ?_
          rintro e w3 ⟨rfl, hb⟩
          clear hea
          have n0_ := Lib.hid (below_step HB.out hb); have n1_ := Lib.hid (Kd.C_below HC.out hb); have n2_ := Lib.hid (blk_below BK.out hb)
          clear HB HC BK hb y0 y1 y2 y3
          have HB := n0_; have HC := n1_; have BK := n2_
          clear n0_ n1_ n2_
          have y0 := blk_cell BK.out 0; have y1 := blk_cell BK.out 1; have y2 := blk_cell BK.out 2; have y3 := blk_cell BK.out 3
          simp only [List.getElem?_toArray, List.getElem?_cons_zero, List.getElem?_cons_succ] at y0 y1 y2 y3
          rw [HK.out] at y0
          go_wp2_with fail
          go_ret
          exact ⟨congrArg (fun t => Ending.returned (Value.bool t)) (show false = may x free by rw [ME.out]; simp only [decide_eq_true (show (x.f3.length = 2) from by have := Q0.out; omega), decide_eq_true (show (x.f1 = 0) from by have := Q1.out; omega), E2.out, E3.out, Bool.true_and, Bool.and_true, Bool.false_and, Bool.and_false]), HB.out⟩
      | false =>
        have E2 := Lib.hid q2
        clear q2
        go_wp2_with fail
        have hop := oper_is x.f2
        rw [E2.out] at hop
        refine (core_operator.calls 9 x.f2 _ _ hop).mono ?_
        rintro e w3 ⟨rfl, hb⟩
        clear hop
        have n0_ := Lib.hid (below_step HB.out hb); have n1_ := Lib.hid (Kd.C_below HC.out hb); have n2_ := Lib.hid (blk_below BK.out hb)
        clear HB HC BK hb y0 y1 y2 y3
        have HB := n0_; have HC := n1_; have BK := n2_
        clear n0_ n1_ n2_
        have y0 := blk_cell BK.out 0; have y1 := blk_cell BK.out 1; have y2 := blk_cell BK.out 2; have y3 := blk_cell BK.out 3
        simp only [List.getElem?_toArray, List.getElem?_cons_zero, List.getElem?_cons_succ] at y0 y1 y2 y3
        rw [HK.out] at y0
        go_wp2_with fail
        go_ret
        exact ⟨congrArg (fun t => Ending.returned (Value.bool t)) (show false = may x free by rw [ME.out]; simp only [decide_eq_true (show (x.f3.length = 2) from by have := Q0.out; omega), decide_eq_true (show (x.f1 = 0) from by have := Q1.out; omega), E2.out, Bool.true_and, Bool.and_true, Bool.false_and, Bool.and_false]), HB.out⟩
    · have Q1 := Lib.hid q1
      clear q1
      have b3 : (x.f1 == 0) = false := beq_eq_false_iff_ne.2 Q1.out
      go_wp2_with fail
      go_ret
      exact ⟨congrArg (fun t => Ending.returned (Value.bool t)) (show false = may x free by rw [ME.out]; simp only [decide_eq_true (show (x.f3.length = 2) from by have := Q0.out; omega), decide_eq_false (show ¬ (x.f1 = 0) from by have := Q1.out; omega), Bool.true_and, Bool.and_true, Bool.false_and, Bool.and_false]), HB.out⟩
  · have Q0 := Lib.hid q0
    clear q0
    have b1 : ((x.f3.length : Int) == 2) = false := beq_eq_false_iff_ne.2 (by have := Q0.out; omega)
    go_wp2_with fail
    go_ret
    exact ⟨congrArg (fun t => Ending.returned (Value.bool t)) (show false = may x free by rw [ME.out]; simp only [decide_eq_false (show ¬ (x.f3.length = 2) from by have := Q0.out; omega), Bool.true_and, Bool.and_true, Bool.false_and, Bool.and_false]), HB.out⟩
theorem eq_4 (x : T) (free : Int) (hk : x.f0 = 4) : may x free = (decide (x.f3.length ≤ 8) && decide (x.f1 = 0) && con x.f2 && decide (0 ≤ free) && each x.f3 free) := by
  cases x; simp only at hk; subst hk; rfl
set_option maxRecDepth 100000 in
theorem may_4 (x : T) (free : Int) (hk : x.f0 = 4) (hw : wt x ≤ 1000000000) (hf0 : -1000000000 ≤ free) (hf1 : free ≤ 2000000000) (H : ∀ y ∈ x.f3, ∀ m : Int, 0 ≤ m → m ≤ 8 → MayC y (free + m)) : MayC x free := by
  intro w A c hc hlc
  have ME := Lib.hid (eq_4 x free hk)
  have hba := below_alloc (Below.refl w.heap.size w) (Obj.cells #[.int .i64 x.f0, .int .i64 x.f1, .string x.f2, .slice A x.f3.length c] 24)
  have hb0 := blk_new w (Obj.cells #[.int .i64 x.f0, .int .i64 x.f1, .string x.f2, .slice A x.f3.length c] 24)
  have hcc := Kd.C_below hc hba
  have HK := Lib.hid hk
  clear hk
  have hll := len_wt x
  go_enter Tryd.func10, Tryd.ntmps10
  go_upto_region 1 with (fail)
  generalize hwq : w.alloc (Obj.cells #[.int .i64 x.f0, .int .i64 x.f1, .string x.f2, .slice A x.f3.length c] 24) = wq at hb0 hba hcc ⊢
  clear hwq
  have hlt : w.heap.size < wq.heap.size := blk_lt hb0
  have HB := Lib.hid hba; have HC := Lib.hid hcc; have HH := Lib.hid H; have BK := Lib.hid hb0
  clear hba hcc hc H hb0
  have y0 := blk_cell BK.out 0; have y1 := blk_cell BK.out 1; have y2 := blk_cell BK.out 2; have y3 := blk_cell BK.out 3
  simp only [List.getElem?_toArray, List.getElem?_cons_zero, List.getElem?_cons_succ] at y0 y1 y2 y3
  rw [HK.out] at y0
  rcases Classical.em (x.f3.length ≤ 8) with q0 | q0
  · have Q0 := Lib.hid q0
    clear q0
    have b1 : decide ((x.f3.length : Int) ≤ 8) = true := decide_eq_true (by have := Q0.out; omega)
    rcases Classical.em (x.f1 = 0) with q1 | q1
    · have Q1 := Lib.hid q1
      clear q1
      have b3 : (x.f1 == 0) = true := by rw [Q1.out]; rfl
      cases q2 : con x.f2 with
      | true =>
        have E2 := Lib.hid q2
        clear q2
        go_wp2_with fail
        have hop := con_is x.f2 (by have := wtn x; omega)
        rw [E2.out] at hop
        refine (core_con.calls x.f2 _ _ hop).mono ?_
        rintro e w3 ⟨rfl, hb⟩
        clear hop
        have n0_ := Lib.hid (below_step HB.out hb); have n1_ := Lib.hid (Kd.C_below HC.out hb); have n2_ := Lib.hid (blk_below BK.out hb)
        clear HB HC BK hb y0 y1 y2 y3
        have HB := n0_; have HC := n1_; have BK := n2_
        clear n0_ n1_ n2_
        have y0 := blk_cell BK.out 0; have y1 := blk_cell BK.out 1; have y2 := blk_cell BK.out 2; have y3 := blk_cell BK.out 3
        simp only [List.getElem?_toArray, List.getElem?_cons_zero, List.getElem?_cons_succ] at y0 y1 y2 y3
        rw [HK.out] at y0
        rcases Classical.em (0 ≤ free) with q3 | q3
        · have Q3 := Lib.hid q3
          clear q3
          have b4 : decide (free ≥ 0) = true := decide_eq_true Q3.out
          cases q4 : each x.f3 (free) with
          | true =>
            have E4 := Lib.hid q4
            clear q4
            go_wp2_with fail
            have hea := each_any x.f3 (free) (by omega) (fun y hy => by have := HH.out y hy 0 (by omega) (by omega); rwa [Int.add_zero] at this) _ _ c HC.out hlc
            rw [E4.out] at hea
            refine hea.mono ?_
            rintro e w3 ⟨rfl, hb⟩
            clear hea
            have n0_ := Lib.hid (below_step HB.out hb); have n1_ := Lib.hid (Kd.C_below HC.out hb); have n2_ := Lib.hid (blk_below BK.out hb)
            clear HB HC BK hb y0 y1 y2 y3
            have HB := n0_; have HC := n1_; have BK := n2_
            clear n0_ n1_ n2_
            have y0 := blk_cell BK.out 0; have y1 := blk_cell BK.out 1; have y2 := blk_cell BK.out 2; have y3 := blk_cell BK.out 3
            simp only [List.getElem?_toArray, List.getElem?_cons_zero, List.getElem?_cons_succ] at y0 y1 y2 y3
            rw [HK.out] at y0
            go_wp2_with fail
            go_ret
            exact ⟨congrArg (fun t => Ending.returned (Value.bool t)) (show true = may x free by rw [ME.out]; simp only [decide_eq_true (show (x.f3.length ≤ 8) from by have := Q0.out; omega), decide_eq_true (show (x.f1 = 0) from by have := Q1.out; omega), E2.out, decide_eq_true (show (0 ≤ free) from by have := Q3.out; omega), E4.out, Bool.true_and, Bool.and_true, Bool.false_and, Bool.and_false]), HB.out⟩
          | false =>
            have E4 := Lib.hid q4
            clear q4
            go_wp2_with fail
            have hea := each_any x.f3 (free) (by omega) (fun y hy => by have := HH.out y hy 0 (by omega) (by omega); rwa [Int.add_zero] at this) _ _ c HC.out hlc
            rw [E4.out] at hea
            refine hea.mono ?_
            rintro e w3 ⟨rfl, hb⟩
            clear hea
            have n0_ := Lib.hid (below_step HB.out hb); have n1_ := Lib.hid (Kd.C_below HC.out hb); have n2_ := Lib.hid (blk_below BK.out hb)
            clear HB HC BK hb y0 y1 y2 y3
            have HB := n0_; have HC := n1_; have BK := n2_
            clear n0_ n1_ n2_
            have y0 := blk_cell BK.out 0; have y1 := blk_cell BK.out 1; have y2 := blk_cell BK.out 2; have y3 := blk_cell BK.out 3
            simp only [List.getElem?_toArray, List.getElem?_cons_zero, List.getElem?_cons_succ] at y0 y1 y2 y3
            rw [HK.out] at y0
            go_wp2_with fail
            go_ret
            exact ⟨congrArg (fun t => Ending.returned (Value.bool t)) (show false = may x free by rw [ME.out]; simp only [decide_eq_true (show (x.f3.length ≤ 8) from by have := Q0.out; omega), decide_eq_true (show (x.f1 = 0) from by have := Q1.out; omega), E2.out, decide_eq_true (show (0 ≤ free) from by have := Q3.out; omega), E4.out, Bool.true_and, Bool.and_true, Bool.false_and, Bool.and_false]), HB.out⟩
        · have Q3 := Lib.hid q3
          clear q3
          have b4 : decide (free ≥ 0) = false := decide_eq_false Q3.out
          go_wp2_with fail
          go_ret
          exact ⟨congrArg (fun t => Ending.returned (Value.bool t)) (show false = may x free by rw [ME.out]; simp only [decide_eq_true (show (x.f3.length ≤ 8) from by have := Q0.out; omega), decide_eq_true (show (x.f1 = 0) from by have := Q1.out; omega), E2.out, decide_eq_false (show ¬ (0 ≤ free) from by have := Q3.out; omega), Bool.true_and, Bool.and_true, Bool.false_and, Bool.and_false]), HB.out⟩
      | false =>
        have E2 := Lib.hid q2
        clear q2
        go_wp2_with fail
        have hop := con_is x.f2 (by have := wtn x; omega)
        rw [E2.out] at hop
        refine (core_con.calls x.f2 _ _ hop).mono ?_
        rintro e w3 ⟨rfl, hb⟩
        clear hop
        have n0_ := Lib.hid (below_step HB.out hb); have n1_ := Lib.hid (Kd.C_below HC.out hb); have n2_ := Lib.hid (blk_below BK.out hb)
        clear HB HC BK hb y0 y1 y2 y3
        have HB := n0_; have HC := n1_; have BK := n2_
        clear n0_ n1_ n2_
        have y0 := blk_cell BK.out 0; have y1 := blk_cell BK.out 1; have y2 := blk_cell BK.out 2; have y3 := blk_cell BK.out 3
        simp only [List.getElem?_toArray, List.getElem?_cons_zero, List.getElem?_cons_succ] at y0 y1 y2 y3
        rw [HK.out] at y0
        go_wp2_with fail
        go_ret
        exact ⟨congrArg (fun t => Ending.returned (Value.bool t)) (show false = may x free by rw [ME.out]; simp only [decide_eq_true (show (x.f3.length ≤ 8) from by have := Q0.out; omega), decide_eq_true (show (x.f1 = 0) from by have := Q1.out; omega), E2.out, Bool.true_and, Bool.and_true, Bool.false_and, Bool.and_false]), HB.out⟩
    · have Q1 := Lib.hid q1
      clear q1
      have b3 : (x.f1 == 0) = false := beq_eq_false_iff_ne.2 Q1.out
      go_wp2_with fail
      go_ret
      exact ⟨congrArg (fun t => Ending.returned (Value.bool t)) (show false = may x free by rw [ME.out]; simp only [decide_eq_true (show (x.f3.length ≤ 8) from by have := Q0.out; omega), decide_eq_false (show ¬ (x.f1 = 0) from by have := Q1.out; omega), Bool.true_and, Bool.and_true, Bool.false_and, Bool.and_false]), HB.out⟩
  · have Q0 := Lib.hid q0
    clear q0
    have b1 : decide ((x.f3.length : Int) ≤ 8) = false := decide_eq_false (by have := Q0.out; omega)
    go_wp2_with fail
    go_ret
    exact ⟨congrArg (fun t => Ending.returned (Value.bool t)) (show false = may x free by rw [ME.out]; simp only [decide_eq_false (show ¬ (x.f3.length ≤ 8) from by have := Q0.out; omega), Bool.true_and, Bool.and_true, Bool.false_and, Bool.and_false]), HB.out⟩
end CoreMay
end Go.Proofs.YtlokmdjhpaimbaaDoor.Pure
