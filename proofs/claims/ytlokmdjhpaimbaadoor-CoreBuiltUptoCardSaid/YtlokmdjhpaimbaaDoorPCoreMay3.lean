-- Written for this claim.
import Derived.Test.YtlokmdjhpaimbaaDoorQx1
import Derived.Test.YtlokmdjhpaimbaaDoorQx2
import Derived.Test.YtlokmdjhpaimbaaDoorQx8
import Derived.Test.YtlokmdjhpaimbaaDoorQx10
import Derived.Test.YtlokmdjhpaimbaaDoorPCoreMay2
import Derived.Deep.RegionWith
namespace Go.Proofs.YtlokmdjhpaimbaaDoor.Pure
open Go Go.RowKit Go.Lib Go.Proofs Go.Proofs.YtlokmdjhpaimbaaDoor.Q Go.Proofs.YtlokmdjhpaimbaaDoorW.PrintWords Go.Proofs.YtlokmdjhpaimbaaDoorW.PrintLast Go.Proofs.YtlokmdjhpaimbaaDoorW.PrintMore
open HCoreC HCore
namespace CoreMay
set_option linter.unusedVariables false
set_option linter.unusedSimpArgs false
theorem eq_5 (x : T) (free : Int) (hk : x.f0 = 5) : may x free = (decide (2 ≤ x.f3.length) && bare x.f1 x.f2 && mayCase x.f3 free) := by
  cases x; simp only at hk; subst hk; rfl
set_option maxRecDepth 100000 in
theorem may_5 (x : T) (free : Int) (hk : x.f0 = 5) (hw : wt x ≤ 1000000000) (hf0 : -1000000000 ≤ free) (hf1 : free ≤ 2000000000) (H : ∀ y ∈ x.f3, ∀ m : Int, 0 ≤ m → m ≤ 8 → MayC y (free + m)) (H2 : ∀ a ∈ x.f3, ∀ z ∈ a.f3, ∀ m : Int, 0 ≤ m → m ≤ 8 → MayC z (free + m)) : MayC x free := by
  intro w A c hc hlc
  have ME := Lib.hid (eq_5 x free hk)
  have HH2 := Lib.hid H2
  clear H2
  have hba := below_alloc (Below.refl w.heap.size w) (Obj.cells #[.int .i64 x.f0, .int .i64 x.f1, .string x.f2, .slice A x.f3.length c] 24)
  have hb0 := blk_new w (Obj.cells #[.int .i64 x.f0, .int .i64 x.f1, .string x.f2, .slice A x.f3.length c] 24)
  have hcc := Kd.C_below hc hba
  have HK := Lib.hid hk
  clear hk
  have hll := len_wt x
  go_enter Tryd.func10, Tryd.ntmps10
  go_upto_region 1 with (fail)
  generalize hwq : w.alloc (Obj.cells #[.int .i64 x.f0, .int .i64 x.f1, .string x.f2, .slice A x.f3.length c] 24) = wq at hb0 hba hcc ⊢
  clear hwq
  have hlt : w.heap.size < wq.heap.size := blk_lt hb0
  have HB := Lib.hid hba; have HC := Lib.hid hcc; have HH := Lib.hid H; have BK := Lib.hid hb0
  clear hba hcc hc H hb0
  have y0 := blk_cell BK.out 0; have y1 := blk_cell BK.out 1; have y2 := blk_cell BK.out 2; have y3 := blk_cell BK.out 3
  simp only [List.getElem?_toArray, List.getElem?_cons_zero, List.getElem?_cons_succ] at y0 y1 y2 y3
  rw [HK.out] at y0
  rcases Classical.em (2 ≤ x.f3.length) with q0 | q0
  · have Q0 := Lib.hid q0
    clear q0
    have b1 : decide ((x.f3.length : Int) ≥ 2) = true := decide_eq_true (by have := Q0.out; omega)
    cases q1 : bare x.f1 x.f2 with
    | true =>
      have E1 := Lib.hid q1
      clear q1
      go_wp2_with fail
      have hpl := plain_is x.f0 x.f1 x.f2 x.f3
      rw [E1.out] at hpl
      rw [HK.out] at hpl
      refine (core_plain.calls _ x.f1 x.f2 _ c x.f3 _ _ HC.out hlc hpl).mono ?_
      rintro e w3 ⟨rfl, hb⟩
      clear hpl
      have n0_ := Lib.hid (below_step HB.out hb); have n1_ := Lib.hid (Kd.C_below HC.out hb); have n2_ := Lib.hid (blk_below BK.out hb)
      clear HB HC BK hb y0 y1 y2 y3
      have HB := n0_; have HC := n1_; have BK := n2_
      clear n0_ n1_ n2_
      have y0 := blk_cell BK.out 0; have y1 := blk_cell BK.out 1; have y2 := blk_cell BK.out 2; have y3 := blk_cell BK.out 3
      simp only [List.getElem?_toArray, List.getElem?_cons_zero, List.getElem?_cons_succ] at y0 y1 y2 y3
      rw [HK.out] at y0
      obtain ⟨y, r, hxs⟩ : ∃ y r, x.f3 = y :: r := by cases h : x.f3 with | nil => (have := Q0.out; rw [h] at this; simp at this) | cons y r => exact ⟨y, r, rfl⟩
      obtain ⟨ad5, A6, c6, hA, e0, e1, e2, e3, hl6, hc6⟩ := at_T24 HC.out (0 : Int) (by omega) (by have := Q0.out; omega)
      subst hA
      have hr0 : rd_T24 x.f3 0 = y := by rw [hxs]; rfl
      have had : ad5.add ((0 : Int).toNat * 4) = ad5 := by simp [Addr.add]
      rw [hr0] at e0 e1 e2 e3 hl6 hc6
      rw [had] at e0 e1 e2 e3
      have hwy : ∀ m : Int, 0 ≤ m → m ≤ 8 → MayC y (free + m) := HH.out y (by rw [hxs]; exact List.mem_cons_self ..)
      have hm0 := hwy 0 (by omega) (by omega)
      rw [Int.add_zero] at hm0
      have HM := Lib.hid (hm0 _ A6 c6 hc6 hl6)
      have HXS := Lib.hid hxs
      have HME : Hid (may x free = (may y free && alts r free [] && decide (1 ≤ r.length) && decide (r.length ≤ 8))) := Lib.hid (by rw [ME.out, decide_eq_true Q0.out, E1.out, hxs]; rfl)
      have hg2 := Q0.out
      clear hm0 hwy hxs hr0 had hc6 hl6
      go_wp2_with fail
      refine HM.out.mono ?_
      rintro e w5 ⟨rfl, hb⟩
      clear HM e0 e1 e2 e3
      have n0_ := Lib.hid (below_step HB.out hb); have n1_ := Lib.hid (Kd.C_below HC.out hb); have n2_ := Lib.hid (blk_below BK.out hb)
      clear HB HC BK hb y0 y1 y2 y3
      have HB := n0_; have HC := n1_; have BK := n2_
      clear n0_ n1_ n2_
      have y0 := blk_cell BK.out 0; have y1 := blk_cell BK.out 1; have y2 := blk_cell BK.out 2; have y3 := blk_cell BK.out 3
      simp only [List.getElem?_toArray, List.getElem?_cons_zero, List.getElem?_cons_succ] at y0 y1 y2 y3
      rw [HK.out] at y0
      cases hmy : may y free with
      | false =>
        have HMY := Lib.hid hmy
        clear hmy
        go_wp2_with fail
        go_ret
        exact ⟨congrArg (fun t => Ending.returned (Value.bool t)) (show false = may x free by rw [HME.out, HMY.out]; rfl), HB.out⟩
      | true =>
        have HMY := Lib.hid hmy
        clear hmy
        have i1 : (1 : Int) ≤ (x.f3.length : Int) := by omega
        have i2 : (x.f3.length : Int) ≤ (c : Int) := by omega
        have hrl : r.length = x.f3.length - 1 := by rw [HXS.out]; simp
        have hdr := Kd.C_drop HC.out (m := 1) (by omega) hlc
        rw [if_neg (by omega)] at hdr
        have hd1 : x.f3.drop 1 = r := by rw [HXS.out]; rfl
        have had4 : (some ad5).map (fun a => a.add (1 * k24.sz)) = some (⟨ad5.block, ad5.off + 4, none⟩ : Addr) := by rw [show k24.sz = 4 from rfl]; simp [Addr.add]
        rw [hd1, had4] at hdr
        have hal := alts_any r free (by omega) (by have := wts_wt x; rw [HXS.out] at this; simp only [wts] at this; omega) hf0 hf1 (fun a ha => HH2.out a (by rw [HXS.out]; exact List.mem_cons_of_mem _ ha)) _ _ (c - 1) hdr (by omega)
        rw [hrl] at hal
        have HAL := Lib.hid hal
        clear hal hdr hd1 had4
        go_wp2_with fail
        refine HAL.out.mono ?_
        rintro e w6 ⟨rfl, hb⟩
        clear HAL
        have HB6 := Lib.hid (below_step HB.out hb)
        clear hb
        have HQ : Hid ((alts r free [] && decide (1 ≤ x.f3.length - 1) && decide (x.f3.length ≤ 9)) = may x free) := Lib.hid (by have e9 : decide (x.f3.length ≤ 9) = decide (r.length ≤ 8) := decide_eq_decide.2 (by omega); rw [HME.out, HMY.out, e9, ← hrl, Bool.true_and])
        go_wp2_with fail
        go_ret
        exact ⟨congrArg (fun t => Ending.returned (Value.bool t)) HQ.out, HB6.out⟩
    | false =>
      have E1 := Lib.hid q1
      clear q1
      go_wp2_with fail
      have hpl := plain_is x.f0 x.f1 x.f2 x.f3
      rw [E1.out] at hpl
      rw [HK.out] at hpl
      refine (core_plain.calls _ x.f1 x.f2 _ c x.f3 _ _ HC.out hlc hpl).mono ?_
      rintro e w3 ⟨rfl, hb⟩
      clear hpl
      have n0_ := Lib.hid (below_step HB.out hb); have n1_ := Lib.hid (Kd.C_below HC.out hb); have n2_ := Lib.hid (blk_below BK.out hb)
      clear HB HC BK hb y0 y1 y2 y3
      have HB := n0_; have HC := n1_; have BK := n2_
      clear n0_ n1_ n2_
      have y0 := blk_cell BK.out 0; have y1 := blk_cell BK.out 1; have y2 := blk_cell BK.out 2; have y3 := blk_cell BK.out 3
      simp only [List.getElem?_toArray, List.getElem?_cons_zero, List.getElem?_cons_succ] at y0 y1 y2 y3
      rw [HK.out] at y0
      go_wp2_with fail
      go_ret
      exact ⟨congrArg (fun t => Ending.returned (Value.bool t)) (show false = may x free by rw [ME.out]; simp only [decide_eq_true (show (2 ≤ x.f3.length) from by have := Q0.out; omega), E1.out, Bool.true_and, Bool.and_true, Bool.false_and, Bool.and_false]), HB.out⟩
  · have Q0 := Lib.hid q0
    clear q0
    have b1 : decide ((x.f3.length : Int) ≥ 2) = false := decide_eq_false (by have := Q0.out; omega)
    go_wp2_with fail
    go_ret
    exact ⟨congrArg (fun t => Ending.returned (Value.bool t)) (show false = may x free by rw [ME.out]; simp only [decide_eq_false (show ¬ (2 ≤ x.f3.length) from by have := Q0.out; omega), Bool.true_and, Bool.and_true, Bool.false_and, Bool.and_false]), HB.out⟩
set_option maxRecDepth 100000 in
theorem may_else (x : T) (free : Int) (h1 : x.f0 ≠ 1) (h7 : x.f0 ≠ 7) (h9 : x.f0 ≠ 9) (h2 : x.f0 ≠ 2) (h3 : x.f0 ≠ 3) (h8 : x.f0 ≠ 8) (h4 : x.f0 ≠ 4) (h5 : x.f0 ≠ 5) : MayC x free := by
  intro w A c hc hlc
  have ME : Hid (may x free = false) := Lib.hid (by cases x; simp only at h1 h2 h3 h4 h5 h7 h8 h9; simp [may, h1, h2, h3, h4, h5, h7, h8, h9])
  have hba := below_alloc (Below.refl w.heap.size w) (Obj.cells #[.int .i64 x.f0, .int .i64 x.f1, .string x.f2, .slice A x.f3.length c] 24)
  have hb0 := blk_new w (Obj.cells #[.int .i64 x.f0, .int .i64 x.f1, .string x.f2, .slice A x.f3.length c] 24)
  have hcc := Kd.C_below hc hba
  go_enter Tryd.func10, Tryd.ntmps10
  go_upto_region 1 with (fail)
  generalize hwq : w.alloc (Obj.cells #[.int .i64 x.f0, .int .i64 x.f1, .string x.f2, .slice A x.f3.length c] 24) = wq at hb0 hba hcc ⊢
  clear hwq
  have hlt : w.heap.size < wq.heap.size := blk_lt hb0
  have HB := Lib.hid hba; have BK := Lib.hid hb0
  clear hba hcc hc hb0
  have y0 := blk_cell BK.out 0; have y1 := blk_cell BK.out 1; have y2 := blk_cell BK.out 2; have y3 := blk_cell BK.out 3
  simp only [List.getElem?_toArray, List.getElem?_cons_zero, List.getElem?_cons_succ] at y0 y1 y2 y3
  have b1 : (x.f0 == 1) = false := beq_eq_false_iff_ne.2 h1
  have b7 : (x.f0 == 7) = false := beq_eq_false_iff_ne.2 h7
  have b9 : (x.f0 == 9) = false := beq_eq_false_iff_ne.2 h9
  have b2 : (x.f0 == 2) = false := beq_eq_false_iff_ne.2 h2
  have b3 : (x.f0 == 3) = false := beq_eq_false_iff_ne.2 h3
  have b8 : (x.f0 == 8) = false := beq_eq_false_iff_ne.2 h8
  have b4 : (x.f0 == 4) = false := beq_eq_false_iff_ne.2 h4
  have b5 : (x.f0 == 5) = false := beq_eq_false_iff_ne.2 h5
  clear h1 h7 h9 h2 h3 h8 h4 h5
  go_wp2_with fail
  go_ret
  exact ⟨congrArg (fun t => Ending.returned (Value.bool t)) ME.out.symm, HB.out⟩
theorem heights_lt (x : T) : ∀ y ∈ x.f3, height y + 1 ≤ height x := by
  intro y hy
  have h1 := height_get hy
  have h2 : height x = heights x.f3 + 1 := by cases x; rfl
  omega
theorem wt_part (x : T) : ∀ y ∈ x.f3, wt y ≤ wt x := by
  intro y hy
  have := wt_get hy
  have := wts_wt x
  omega
/-- core.May, whatever term. -/
theorem may_any : ∀ (n : Nat) (x : T), height x ≤ n → wt x ≤ 1000000000 → ∀ free : Int, -1000000000 ≤ free → free + 9 * (height x : Int) ≤ 2000000000 → MayC x free
  | 0, x, hn, _, _, _, _ => by cases x; simp only [height] at hn; omega
  | n + 1, x, hn, hw, free, hf0, hf1 => by
    have H : ∀ y ∈ x.f3, ∀ m : Int, 0 ≤ m → m ≤ 8 → MayC y (free + m) := fun y hy m h0 h8 => by
      have h1 := heights_lt x y hy
      have h2 := wt_part x y hy
      exact may_any n y (by omega) (by omega) (free + m) (by omega) (by omega)
    have H2 : ∀ a ∈ x.f3, ∀ z ∈ a.f3, ∀ m : Int, 0 ≤ m → m ≤ 8 → MayC z (free + m) := fun a ha z hz m h0 h8 => by
      have h1 := heights_lt x a ha
      have h2 := wt_part x a ha
      have h3 := heights_lt a z hz
      have h4 := wt_part a z hz
      exact may_any n z (by omega) (by omega) (free + m) (by omega) (by omega)
    have hf : free ≤ 2000000000 := by omega
    by_cases h1 : x.f0 = 1
    · exact may_1 x free h1 hw hf0 hf H
    by_cases h7 : x.f0 = 7
    · exact may_7 x free h7 hw hf0 hf H
    by_cases h9 : x.f0 = 9
    · exact may_9 x free h9 hw hf0 hf H
    by_cases h2 : x.f0 = 2
    · exact may_2 x free h2 hw hf0 hf H
    by_cases h3 : x.f0 = 3
    · exact may_3 x free h3 hw hf0 hf H
    by_cases h8 : x.f0 = 8
    · exact may_8 x free h8 hw hf0 hf H
    by_cases h4 : x.f0 = 4
    · exact may_4 x free h4 hw hf0 hf H
    by_cases h5 : x.f0 = 5
    · exact may_5 x free h5 hw hf0 hf H H2
    exact may_else x free h1 h7 h9 h2 h3 h8 h4 h5
end CoreMay
end Go.Proofs.YtlokmdjhpaimbaaDoor.Pure
