-- Written for this claim: several texts in one.
import Derived.Test.YthdkjfhpbigdpaaGreatDoorKTreeTells0
import Derived.Test.YthdkjfhpbigdpaaGreatDoorKTreeTells2
import Derived.Test.YthdkjfhpbigdpaaGreatDoorKTreeTells1
namespace Go.Proofs.YthdkjfhpbigdpaaGreatDoor.Q
open Go.RowKit Go.Proofs.YthdkjfhpbigdpaaGreatDoorW.PrintWords Go.Proofs.YthdkjfhpbigdpaaGreatDoorW.PrintLast Go.Proofs.YthdkjfhpbigdpaaGreatDoorW.PrintMore
attribute [local go_sem] max2_int min2_int max_two min_two max_three min_three max_four min_four
set_option linter.unusedVariables false
set_option linter.unusedSimpArgs false

mutual
def gossamerref02_may.j0 : Nat → Bool → Int → ByteArray → Int → Int → List (S24) → Option (Bool)
 | 0, _, _, _, _, _, _ => none
 | k + 1, x25, x155000, x155001, x155002, x155003, x155004 => if x25 = true then (some false) else (gossamerref02_may.l0 k 0 x155000 x155001 x155002 x155003 x155004)
def gossamerref02_may.l0 : Nat → Int → Int → ByteArray → Int → Int → List (S24) → Option (Bool)
 | 0, _, _, _, _, _, _ => none
 | k + 1, x5, x155000, x155001, x155002, x155003, x155004 => if x5 < (x155004.length : Int) then (if x155000 = 8 then (if x5 < x155002 then (if 0 ≤ x5 then (gossamerref02_may.j2 k x5 (((rd_T24 x155004 x5).f0) != 1) x155000 x155001 x155002 x155003 x155004) else (none)) else (gossamerref02_may.j2 k x5 false x155000 x155001 x155002 x155003 x155004)) else (gossamerref02_may.j2 k x5 false x155000 x155001 x155002 x155003 x155004)) else (some true)
def gossamerref02_may.j2 : Nat → Int → Bool → Int → ByteArray → Int → Int → List (S24) → Option (Bool)
 | 0, _, _, _, _, _, _, _ => none
 | k + 1, x5, x50, x155000, x155001, x155002, x155003, x155004 => if x50 = true then (some false) else (if 0 ≤ x5 then (if x5 < (x155004.length : Int) then (if x155000 = 7 then ((gossamerref02_may.f k ((rd_T24 x155004 x5).f0) ((rd_T24 x155004 x5).f1) ((rd_T24 x155004 x5).f2) ((rd_T24 x155004 x5).f3) ((rd_T24 x155004 x5).f4) (decide (x5 > 0))).bind fun t159 => (if t159 = true then (gossamerref02_may.l0 k (wrap64 (x5 + 1)) x155000 x155001 x155002 x155003 x155004) else (some false))) else ((gossamerref02_may.f k ((rd_T24 x155004 x5).f0) ((rd_T24 x155004 x5).f1) ((rd_T24 x155004 x5).f2) ((rd_T24 x155004 x5).f3) ((rd_T24 x155004 x5).f4) false).bind fun t160 => (if t160 = true then (gossamerref02_may.l0 k (wrap64 (x5 + 1)) x155000 x155001 x155002 x155003 x155004) else (some false)))) else (none)) else (none))
def gossamerref02_may.f : Nat → Int → ByteArray → Int → Int → List (S24) → Bool → Option (Bool)
 | 0, _, _, _, _, _, _ => none
 | k + 1, a0_0, a0_1, a0_2, a0_3, l0_4, a1 => if ((a0_0 == 8) != a1) = true then (gossamerref02_may.j0 k true a0_0 a0_1 a0_2 a0_3 l0_4) else ((gossamerref02_name.f k a0_0 a0_1 a0_2 a0_3 l0_4).bind fun t155 => (if t155 = true then ((gossamerref02_parts.f k a0_0 a0_1 a0_2 a0_3 l0_4).bind fun t156 => (if t156 = true then (gossamerref02_may.j0 k (decide (a0_3 < 0)) a0_0 a0_1 a0_2 a0_3 l0_4) else (gossamerref02_may.j0 k true a0_0 a0_1 a0_2 a0_3 l0_4))) else (gossamerref02_may.j0 k true a0_0 a0_1 a0_2 a0_3 l0_4)))
end
theorem gossamerref02_may.mono_l : ∀ k, (∀ y0 y1 y2 y3 y4 y5, LeO (gossamerref02_may.f k y0 y1 y2 y3 y4 y5) (gossamerref02_may.f (k + 1) y0 y1 y2 y3 y4 y5)) ∧ (∀ y0 y1 y2 y3 y4 y5, LeO (gossamerref02_may.j0 k y0 y1 y2 y3 y4 y5) (gossamerref02_may.j0 (k + 1) y0 y1 y2 y3 y4 y5)) ∧ (∀ y0 y1 y2 y3 y4 y5, LeO (gossamerref02_may.l0 k y0 y1 y2 y3 y4 y5) (gossamerref02_may.l0 (k + 1) y0 y1 y2 y3 y4 y5)) ∧ (∀ y0 y1 y2 y3 y4 y5 y6, LeO (gossamerref02_may.j2 k y0 y1 y2 y3 y4 y5 y6) (gossamerref02_may.j2 (k + 1) y0 y1 y2 y3 y4 y5 y6))
 | 0 => ⟨fun _ _ _ _ _ _ r h => by simp [gossamerref02_may.f] at h, fun _ _ _ _ _ _ r h => by simp [gossamerref02_may.j0] at h, fun _ _ _ _ _ _ r h => by simp [gossamerref02_may.l0] at h, fun _ _ _ _ _ _ _ r h => by simp [gossamerref02_may.j2] at h⟩
 | k + 1 => by
  obtain ⟨ih0, ih1, ih2, ih3⟩ := gossamerref02_may.mono_l k
  refine ⟨?_, ?_, ?_, ?_⟩
  ·intro y0 y1 y2 y3 y4 y5
   unfold gossamerref02_may.f
   repeat' first
  |(with_reducible exact ih0 _ _ _ _ _ _)
  |(with_reducible exact ih1 _ _ _ _ _ _)
  |(with_reducible exact ih2 _ _ _ _ _ _)
  |(with_reducible exact ih3 _ _ _ _ _ _ _)
  |(with_reducible exact gossamerref02_name.mono _ _ _ _ _ _)
  |(with_reducible exact gossamerref02_parts.mono _ _ _ _ _ _)
  |(with_reducible exact LeO.refl _)
  |(with_reducible exact LeO.none _)
  |(with_reducible refine LeO.ite ?_ ?_)
  |(with_reducible refine LeO.bind ?_ (fun _ => ?_))
  |exact ih0 _ _ _ _ _ _
  |exact ih1 _ _ _ _ _ _
  |exact ih2 _ _ _ _ _ _
  |exact ih3 _ _ _ _ _ _ _
  |exact gossamerref02_name.mono _ _ _ _ _ _
  |exact gossamerref02_parts.mono _ _ _ _ _ _
  |exact LeO.none _
  |refine LeO.ite ?_ ?_
  |refine LeO.bind ?_ (fun _ => ?_)
  ·intro y0 y1 y2 y3 y4 y5
   unfold gossamerref02_may.j0
   repeat' first
  |(with_reducible exact ih0 _ _ _ _ _ _)
  |(with_reducible exact ih1 _ _ _ _ _ _)
  |(with_reducible exact ih2 _ _ _ _ _ _)
  |(with_reducible exact ih3 _ _ _ _ _ _ _)
  |(with_reducible exact gossamerref02_name.mono _ _ _ _ _ _)
  |(with_reducible exact gossamerref02_parts.mono _ _ _ _ _ _)
  |(with_reducible exact LeO.refl _)
  |(with_reducible exact LeO.none _)
  |(with_reducible refine LeO.ite ?_ ?_)
  |(with_reducible refine LeO.bind ?_ (fun _ => ?_))
  |exact ih0 _ _ _ _ _ _
  |exact ih1 _ _ _ _ _ _
  |exact ih2 _ _ _ _ _ _
  |exact ih3 _ _ _ _ _ _ _
  |exact gossamerref02_name.mono _ _ _ _ _ _
  |exact gossamerref02_parts.mono _ _ _ _ _ _
  |exact LeO.none _
  |refine LeO.ite ?_ ?_
  |refine LeO.bind ?_ (fun _ => ?_)
  ·intro y0 y1 y2 y3 y4 y5
   unfold gossamerref02_may.l0
   repeat' first
  |(with_reducible exact ih0 _ _ _ _ _ _)
  |(with_reducible exact ih1 _ _ _ _ _ _)
  |(with_reducible exact ih2 _ _ _ _ _ _)
  |(with_reducible exact ih3 _ _ _ _ _ _ _)
  |(with_reducible exact gossamerref02_name.mono _ _ _ _ _ _)
  |(with_reducible exact gossamerref02_parts.mono _ _ _ _ _ _)
  |(with_reducible exact LeO.refl _)
  |(with_reducible exact LeO.none _)
  |(with_reducible refine LeO.ite ?_ ?_)
  |(with_reducible refine LeO.bind ?_ (fun _ => ?_))
  |exact ih0 _ _ _ _ _ _
  |exact ih1 _ _ _ _ _ _
  |exact ih2 _ _ _ _ _ _
  |exact ih3 _ _ _ _ _ _ _
  |exact gossamerref02_name.mono _ _ _ _ _ _
  |exact gossamerref02_parts.mono _ _ _ _ _ _
  |exact LeO.none _
  |refine LeO.ite ?_ ?_
  |refine LeO.bind ?_ (fun _ => ?_)
  ·intro y0 y1 y2 y3 y4 y5 y6
   unfold gossamerref02_may.j2
   repeat' first
  |(with_reducible exact ih0 _ _ _ _ _ _)
  |(with_reducible exact ih1 _ _ _ _ _ _)
  |(with_reducible exact ih2 _ _ _ _ _ _)
  |(with_reducible exact ih3 _ _ _ _ _ _ _)
  |(with_reducible exact gossamerref02_name.mono _ _ _ _ _ _)
  |(with_reducible exact gossamerref02_parts.mono _ _ _ _ _ _)
  |(with_reducible exact LeO.refl _)
  |(with_reducible exact LeO.none _)
  |(with_reducible refine LeO.ite ?_ ?_)
  |(with_reducible refine LeO.bind ?_ (fun _ => ?_))
  |exact ih0 _ _ _ _ _ _
  |exact ih1 _ _ _ _ _ _
  |exact ih2 _ _ _ _ _ _
  |exact ih3 _ _ _ _ _ _ _
  |exact gossamerref02_name.mono _ _ _ _ _ _
  |exact gossamerref02_parts.mono _ _ _ _ _ _
  |exact LeO.none _
  |refine LeO.ite ?_ ?_
  |refine LeO.bind ?_ (fun _ => ?_)
theorem gossamerref02_may.mono : ∀ a0 a1 a2 a3 a4 a5 k, LeO (gossamerref02_may.f k a0 a1 a2 a3 a4 a5) (gossamerref02_may.f (k + 1) a0 a1 a2 a3 a4 a5) := by
 intro a0 a1 a2 a3 a4 a5 k
 obtain ⟨ih0, ih1, ih2, ih3⟩ := gossamerref02_may.mono_l k
 exact ih0 a0 a1 a2 a3 a4 a5
def gossamerref02_may.T8 : Bool × List (List Nat × List Nat) := (true, [([], []), ([0], [0]), ([], []), ([1, 2], [1, 2]), ([3], [3]), ([], []), ([5], [5]), ([6], [6]), ([7], [7]), ([8], [8]), ([9, 8], [8, 9]), ([8, 10], [8, 10]), ([4, 11, 8], [4, 11]), ([12], [12])])
def gossamerref02_may.B8 : List Nat := [0, 1, 0, 7, 15, 0, 32, 96, 224, 480, 992, 2016, 4095, 8191]
theorem gossamerref02_may.tab8 : rtab .any (opsOf Tryz.f19 8) = gossamerref02_may.T8 := by kernel_rfl
theorem gossamerref02_may.bits8 : waitsOk gossamerref02_may.T8.2 gossamerref02_may.B8 = true := by kernel_rfl
set_option maxHeartbeats 8000000 in
set_option maxRecDepth 100000 in
theorem gossamerref02_may.calls (k : Nat) : ∀ (a0_0 : Int) (a0_1 : ByteArray) (a0_2 : Int) (a0_3 : Int) (A0_4 : Option Addr) (c0_4 : Nat) (l0_4 : List (S24)) (a1 : Bool) (r : Bool) (w : World) (hr0_4 : Kd.C k24 w A0_4 l0_4.length l0_4) (hc0_4 : l0_4.length ≤ c0_4) (h : gossamerref02_may.f k a0_0 a0_1 a0_2 a0_3 l0_4 a1 = some r),
  Calls Tryz.prog 19 #[.agg #[.int .i64 a0_0, .string a0_1, .int .i64 a0_2, .int .i64 a0_3, .slice A0_4 l0_4.length c0_4], .bool a1] w fun e w' => e = .returned (.bool r) ∧ Below w.heap.size w w' := by
 induction k using Nat.strongRecOn with
 | _ k ih =>
 intro a0_0 a0_1 a0_2 a0_3 A0_4 c0_4 l0_4 a1 r w hr0_4 hc0_4 h
 cases k with
 | zero => exact absurd h (by simp [gossamerref02_may.f])
 | succ k =>
 simp only [gossamerref02_may.f] at h
 have hu24 := Tryz.underlying24
 have HR0_4 := Aside0.mk hr0_4
 have HC0_4 := Aside0.mk hc0_4
 clear hr0_4 hc0_4
 have HB := Aside0.mk (Below.refl w.heap.size w)
 have H : (if ((a0_0 == 8) != a1) = true then (gossamerref02_may.j0 k true a0_0 a0_1 a0_2 a0_3 l0_4) else ((gossamerref02_name.f k a0_0 a0_1 a0_2 a0_3 l0_4).bind fun t155 => (if t155 = true then ((gossamerref02_parts.f k a0_0 a0_1 a0_2 a0_3 l0_4).bind fun t156 => (if t156 = true then (gossamerref02_may.j0 k (decide (a0_3 < 0)) a0_0 a0_1 a0_2 a0_3 l0_4) else (gossamerref02_may.j0 k true a0_0 a0_1 a0_2 a0_3 l0_4))) else (gossamerref02_may.j0 k true a0_0 a0_1 a0_2 a0_3 l0_4)))) = some r := h
 clear h
 have HC3 := Aside0.mk H
 clear H
 go_enter Tryz.func19, Tryz.ntmps19
 go_upto_region 1 with (first|((with_reducible refine gate_dst (N := 2) rfl ?_); refine box_event ?hg (N := 2) ?hd (cs := #[.int .i64 a0_0, .string a0_1, .int .i64 a0_2, .int .i64 a0_3, .slice A0_4 l0_4.length c0_4]) (t := 24) ?hr ?_; (case hd => rfl); (case hg => rfl); (case hr => first|(go_simp; done)|(go_simp; rfl)); intro gb154 hg w4 hbox hb; have n0_ := Aside0.mk (below_step (by repeat (first|(with_reducible first|exact HB.out|apply below_alloc|apply pw_below_drewN|apply below_drew1)|exact HB.out)) hb); have n1_ := Aside0.mk (hbox); have n2_ := Aside0.mk ((by rw [hg]; exact (below_size (by repeat (first|(with_reducible first|exact HB.out|apply below_alloc|apply pw_below_drewN|apply below_drew1)|exact HB.out))) : w.heap.size ≤ gb154)); have n3_ := Aside0.mk ((by rw [hg]; exact (below_size (by repeat (first|(with_reducible first|exact HB.out|apply below_alloc|apply pw_below_drewN|apply below_drew1)|exact HB.out))) : w.heap.size ≤ gb154)); clear HB; have HB := n0_; have BK154 := n1_; have GW154 := n2_; have GE154 := n3_; clear n0_ n1_ n2_ n3_; clear hb hbox hg))
 (try simp only [Act.put, List.setIfInBounds_toArray, List.set_cons_zero, List.set_cons_succ])
 go_cut [25] (fun v25 wc => ∃ (kq : Nat) (x25_2 : Bool), v25 = .bool x25_2 ∧ Aside0 (gossamerref02_may.j0 kq x25_2 a0_0 a0_1 a0_2 a0_3 l0_4 = some r) ∧ Aside0 (kq ≤ k) ∧ Aside0 (wc.heap[gb154]? = some (.cells #[.int .i64 a0_0, .string a0_1, .int .i64 a0_2, .int .i64 a0_3, (.slice A0_4 l0_4.length c0_4)] 24 (0, 0))) ∧ Aside0 (Below w.heap.size w wc))
 case first =>
  have H := HC3.out
  clear HC3
  by_cases c5 : ((a0_0 == 8) != a1) = true
  ·rw [if_pos c5] at H
   have c5b0 : ((a0_0 == 8) != a1) = true := c5
   (try (have c5b1 : decide ((a0_0 == 8) = a1) = false := by simpa using c5))
   (try (have c5b2 : ((a0_0 == 8) == a1) = false := by simpa using c5))
   (try (have c5b3 : ¬ ((a0_0 == 8) = a1) := by simpa using c5))
   clear c5
   (first|rw [c5b0]|(simp only [i64_w, i32_w]; rw [c5b0]) | skip)
   have H' := Aside0.mk H
   clear H
   have hcz6_0 : w4.cell? ⟨gb154, 0, none⟩ = some (.int .i64 a0_0) := (blk_cell BK154.out 0).trans rfl
   have hcz6_1 : w4.cell? ⟨gb154, 1, none⟩ = some (.string a0_1) := (blk_cell BK154.out 1).trans rfl
   have hcz6_2 : w4.cell? ⟨gb154, 2, none⟩ = some (.int .i64 a0_2) := (blk_cell BK154.out 2).trans rfl
   have hcz6_3 : w4.cell? ⟨gb154, 3, none⟩ = some (.int .i64 a0_3) := (blk_cell BK154.out 3).trans rfl
   have hcz6_4 : w4.cell? ⟨gb154, 4, none⟩ = some (.slice A0_4 l0_4.length c0_4) := (blk_cell BK154.out 4).trans rfl
   have hfz6_0 := blk_frozen BK154.out 0
   have hfz6_1 := blk_frozen BK154.out 1
   have hfz6_2 := blk_frozen BK154.out 2
   have hfz6_3 := blk_frozen BK154.out 3
   have hfz6_4 := blk_frozen BK154.out 4
   go_wp2
   go_meet
   case rel => exact ⟨_, (true), (by first|rfl|(simp; done)|(simp [*]; done)), H', ⟨by first | omega|exact Nat.le_refl _⟩, ⟨by (with_reducible repeat (first|refine blk_drewN ?_ _|refine blk_drew ?_|refine blk_alloc ?_ _)); exact BK154.out⟩, ⟨by repeat (first|(with_reducible first|exact HB.out|apply below_alloc|apply pw_below_drewN|apply below_drew1|refine below_set ?_ GE154.out)|exact HB.out)⟩⟩
  ·rw [if_neg c5] at H
   have c5b0 : ((a0_0 == 8) != a1) = false := by simpa using c5
   (try (have c5b1 : decide ((a0_0 == 8) = a1) = true := by simpa using c5))
   (try (have c5b2 : ((a0_0 == 8) == a1) = true := by simpa using c5))
   clear c5
   (first|rw [c5b0]|(simp only [i64_w, i32_w]; rw [c5b0]) | skip)
   replace H := Option.bind_eq_some_iff.mp H
   obtain ⟨t155, A70, H⟩ := H
   replace H : (if t155 = true then ((gossamerref02_parts.f k a0_0 a0_1 a0_2 a0_3 l0_4).bind fun t156 => (if t156 = true then (gossamerref02_may.j0 k (decide (a0_3 < 0)) a0_0 a0_1 a0_2 a0_3 l0_4) else (gossamerref02_may.j0 k true a0_0 a0_1 a0_2 a0_3 l0_4))) else (gossamerref02_may.j0 k true a0_0 a0_1 a0_2 a0_3 l0_4)) = some r := H
   have A7 := Aside0.mk A70
   clear A70
   by_cases c8 : t155 = true
   ·subst c8
    have H1 : ((gossamerref02_parts.f k a0_0 a0_1 a0_2 a0_3 l0_4).bind fun t156 => (if t156 = true then (gossamerref02_may.j0 k (decide (a0_3 < 0)) a0_0 a0_1 a0_2 a0_3 l0_4) else (gossamerref02_may.j0 k true a0_0 a0_1 a0_2 a0_3 l0_4))) = some r := by rw [if_pos rfl] at H; exact H
    clear H
    have H := H1
    clear H1
    replace H := Option.bind_eq_some_iff.mp H
    obtain ⟨t156, A90, H⟩ := H
    replace H : (if t156 = true then (gossamerref02_may.j0 k (decide (a0_3 < 0)) a0_0 a0_1 a0_2 a0_3 l0_4) else (gossamerref02_may.j0 k true a0_0 a0_1 a0_2 a0_3 l0_4)) = some r := H
    have A9 := Aside0.mk A90
    clear A90
    by_cases c10 : t156 = true
    ·subst c10
     have H1 : (gossamerref02_may.j0 k (decide (a0_3 < 0)) a0_0 a0_1 a0_2 a0_3 l0_4) = some r := by rw [if_pos rfl] at H; exact H
     clear H
     have H := H1
     clear H1
     have H' := Aside0.mk H
     clear H
     have hcz11_0 : w4.cell? ⟨gb154, 0, none⟩ = some (.int .i64 a0_0) := (blk_cell BK154.out 0).trans rfl
     have hcz11_1 : w4.cell? ⟨gb154, 1, none⟩ = some (.string a0_1) := (blk_cell BK154.out 1).trans rfl
     have hcz11_2 : w4.cell? ⟨gb154, 2, none⟩ = some (.int .i64 a0_2) := (blk_cell BK154.out 2).trans rfl
     have hcz11_3 : w4.cell? ⟨gb154, 3, none⟩ = some (.int .i64 a0_3) := (blk_cell BK154.out 3).trans rfl
     have hcz11_4 : w4.cell? ⟨gb154, 4, none⟩ = some (.slice A0_4 l0_4.length c0_4) := (blk_cell BK154.out 4).trans rfl
     have hfz11_0 := blk_frozen BK154.out 0
     have hfz11_1 := blk_frozen BK154.out 1
     have hfz11_2 := blk_frozen BK154.out 2
     have hfz11_3 := blk_frozen BK154.out 3
     have hfz11_4 := blk_frozen BK154.out 4
     go_wp2_with (first|(go_at_call 25; (with_reducible refine (gossamerref02_name.calls k a0_0 a0_1 a0_2 a0_3 _ _ l0_4 true _ ?side1 ?side2 A7.out).mono ?_); (case side1 => repeat (first|exact (Kd.C_below HR0_4.out HB.out)|(with_reducible refine Kd.C_alloc ?_ _)|(with_reducible refine Kd.C_drewN ?_ _)|(with_reducible refine Kd.C_drew ?_))); (case side2 => exact HC0_4.out); rintro e w12 ⟨rfl, hb⟩; have n0_ := Aside0.mk (blk_below (g := gb154) (o := .cells #[.int .i64 a0_0, .string a0_1, .int .i64 a0_2, .int .i64 a0_3, .slice A0_4 l0_4.length c0_4] 24 (0, 0)) (by (with_reducible repeat (first|refine blk_drewN ?_ _|refine blk_drew ?_|refine blk_alloc ?_ _)); exact BK154.out) hb); have n1_ := Aside0.mk (below_step (by repeat (first|(with_reducible first|exact HB.out|apply below_alloc|apply pw_below_drewN|apply below_drew1|refine below_set ?_ GE154.out)|exact HB.out)) hb); clear BK154; clear HB; have BK154 := n0_; have HB := n1_; clear n0_ n1_; (try clear hb); (try clear hb2); (try clear hk); (try clear hi); have hcz13_0 : w12.cell? ⟨gb154, 0, none⟩ = some (.int .i64 a0_0) := (blk_cell BK154.out 0).trans rfl; have hcz13_1 : w12.cell? ⟨gb154, 1, none⟩ = some (.string a0_1) := (blk_cell BK154.out 1).trans rfl; have hcz13_2 : w12.cell? ⟨gb154, 2, none⟩ = some (.int .i64 a0_2) := (blk_cell BK154.out 2).trans rfl; have hcz13_3 : w12.cell? ⟨gb154, 3, none⟩ = some (.int .i64 a0_3) := (blk_cell BK154.out 3).trans rfl; have hcz13_4 : w12.cell? ⟨gb154, 4, none⟩ = some (.slice A0_4 l0_4.length c0_4) := (blk_cell BK154.out 4).trans rfl; have hfz13_0 := blk_frozen BK154.out 0; have hfz13_1 := blk_frozen BK154.out 1; have hfz13_2 := blk_frozen BK154.out 2; have hfz13_3 := blk_frozen BK154.out 3; have hfz13_4 := blk_frozen BK154.out 4) | (go_at_call 26; (with_reducible refine (gossamerref02_parts.calls k a0_0 a0_1 a0_2 a0_3 _ _ l0_4 true _ ?side1 ?side2 A9.out).mono ?_); (case side1 => repeat (first|exact (Kd.C_below HR0_4.out HB.out)|(with_reducible refine Kd.C_alloc ?_ _)|(with_reducible refine Kd.C_drewN ?_ _)|(with_reducible refine Kd.C_drew ?_))); (case side2 => exact HC0_4.out); rintro e w14 ⟨rfl, hb⟩; have n0_ := Aside0.mk (blk_below (g := gb154) (o := .cells #[.int .i64 a0_0, .string a0_1, .int .i64 a0_2, .int .i64 a0_3, .slice A0_4 l0_4.length c0_4] 24 (0, 0)) (by (with_reducible repeat (first|refine blk_drewN ?_ _|refine blk_drew ?_|refine blk_alloc ?_ _)); exact BK154.out) hb); have n1_ := Aside0.mk (below_step (by repeat (first|(with_reducible first|exact HB.out|apply below_alloc|apply pw_below_drewN|apply below_drew1|refine below_set ?_ GE154.out)|exact HB.out)) hb); clear BK154; clear HB; have BK154 := n0_; have HB := n1_; clear n0_ n1_; (try clear hb); (try clear hb2); (try clear hk); (try clear hi); have hcz15_0 : w14.cell? ⟨gb154, 0, none⟩ = some (.int .i64 a0_0) := (blk_cell BK154.out 0).trans rfl; have hcz15_1 : w14.cell? ⟨gb154, 1, none⟩ = some (.string a0_1) := (blk_cell BK154.out 1).trans rfl; have hcz15_2 : w14.cell? ⟨gb154, 2, none⟩ = some (.int .i64 a0_2) := (blk_cell BK154.out 2).trans rfl; have hcz15_3 : w14.cell? ⟨gb154, 3, none⟩ = some (.int .i64 a0_3) := (blk_cell BK154.out 3).trans rfl; have hcz15_4 : w14.cell? ⟨gb154, 4, none⟩ = some (.slice A0_4 l0_4.length c0_4) := (blk_cell BK154.out 4).trans rfl; have hfz15_0 := blk_frozen BK154.out 0; have hfz15_1 := blk_frozen BK154.out 1; have hfz15_2 := blk_frozen BK154.out 2; have hfz15_3 := blk_frozen BK154.out 3; have hfz15_4 := blk_frozen BK154.out 4))
     go_meet
     case rel => exact ⟨_, (decide (a0_3 < 0)), (by first|rfl|(simp; done)|(simp [*]; done)), H', ⟨by first | omega|exact Nat.le_refl _⟩, ⟨by (with_reducible repeat (first|refine blk_drewN ?_ _|refine blk_drew ?_|refine blk_alloc ?_ _)); exact BK154.out⟩, ⟨by repeat (first|(with_reducible first|exact HB.out|apply below_alloc|apply pw_below_drewN|apply below_drew1|refine below_set ?_ GE154.out)|exact HB.out)⟩⟩
    ·replace c10 := Bool.eq_false_iff.mpr c10
     subst c10
     have H1 : (gossamerref02_may.j0 k true a0_0 a0_1 a0_2 a0_3 l0_4) = some r := by rw [if_neg (show ¬ (false = true) by decide)] at H; exact H
     clear H
     have H := H1
     clear H1
     have H' := Aside0.mk H
     clear H
     have hcz16_0 : w4.cell? ⟨gb154, 0, none⟩ = some (.int .i64 a0_0) := (blk_cell BK154.out 0).trans rfl
     have hcz16_1 : w4.cell? ⟨gb154, 1, none⟩ = some (.string a0_1) := (blk_cell BK154.out 1).trans rfl
     have hcz16_2 : w4.cell? ⟨gb154, 2, none⟩ = some (.int .i64 a0_2) := (blk_cell BK154.out 2).trans rfl
     have hcz16_3 : w4.cell? ⟨gb154, 3, none⟩ = some (.int .i64 a0_3) := (blk_cell BK154.out 3).trans rfl
     have hcz16_4 : w4.cell? ⟨gb154, 4, none⟩ = some (.slice A0_4 l0_4.length c0_4) := (blk_cell BK154.out 4).trans rfl
     have hfz16_0 := blk_frozen BK154.out 0
     have hfz16_1 := blk_frozen BK154.out 1
     have hfz16_2 := blk_frozen BK154.out 2
     have hfz16_3 := blk_frozen BK154.out 3
     have hfz16_4 := blk_frozen BK154.out 4
     go_wp2_with (first|(go_at_call 25; (with_reducible refine (gossamerref02_name.calls k a0_0 a0_1 a0_2 a0_3 _ _ l0_4 true _ ?side1 ?side2 A7.out).mono ?_); (case side1 => repeat (first|exact (Kd.C_below HR0_4.out HB.out)|(with_reducible refine Kd.C_alloc ?_ _)|(with_reducible refine Kd.C_drewN ?_ _)|(with_reducible refine Kd.C_drew ?_))); (case side2 => exact HC0_4.out); rintro e w17 ⟨rfl, hb⟩; have n0_ := Aside0.mk (blk_below (g := gb154) (o := .cells #[.int .i64 a0_0, .string a0_1, .int .i64 a0_2, .int .i64 a0_3, .slice A0_4 l0_4.length c0_4] 24 (0, 0)) (by (with_reducible repeat (first|refine blk_drewN ?_ _|refine blk_drew ?_|refine blk_alloc ?_ _)); exact BK154.out) hb); have n1_ := Aside0.mk (below_step (by repeat (first|(with_reducible first|exact HB.out|apply below_alloc|apply pw_below_drewN|apply below_drew1|refine below_set ?_ GE154.out)|exact HB.out)) hb); clear BK154; clear HB; have BK154 := n0_; have HB := n1_; clear n0_ n1_; (try clear hb); (try clear hb2); (try clear hk); (try clear hi); have hcz18_0 : w17.cell? ⟨gb154, 0, none⟩ = some (.int .i64 a0_0) := (blk_cell BK154.out 0).trans rfl; have hcz18_1 : w17.cell? ⟨gb154, 1, none⟩ = some (.string a0_1) := (blk_cell BK154.out 1).trans rfl; have hcz18_2 : w17.cell? ⟨gb154, 2, none⟩ = some (.int .i64 a0_2) := (blk_cell BK154.out 2).trans rfl; have hcz18_3 : w17.cell? ⟨gb154, 3, none⟩ = some (.int .i64 a0_3) := (blk_cell BK154.out 3).trans rfl; have hcz18_4 : w17.cell? ⟨gb154, 4, none⟩ = some (.slice A0_4 l0_4.length c0_4) := (blk_cell BK154.out 4).trans rfl; have hfz18_0 := blk_frozen BK154.out 0; have hfz18_1 := blk_frozen BK154.out 1; have hfz18_2 := blk_frozen BK154.out 2; have hfz18_3 := blk_frozen BK154.out 3; have hfz18_4 := blk_frozen BK154.out 4) | (go_at_call 26; (with_reducible refine (gossamerref02_parts.calls k a0_0 a0_1 a0_2 a0_3 _ _ l0_4 false _ ?side1 ?side2 A9.out).mono ?_); (case side1 => repeat (first|exact (Kd.C_below HR0_4.out HB.out)|(with_reducible refine Kd.C_alloc ?_ _)|(with_reducible refine Kd.C_drewN ?_ _)|(with_reducible refine Kd.C_drew ?_))); (case side2 => exact HC0_4.out); rintro e w19 ⟨rfl, hb⟩; have n0_ := Aside0.mk (blk_below (g := gb154) (o := .cells #[.int .i64 a0_0, .string a0_1, .int .i64 a0_2, .int .i64 a0_3, .slice A0_4 l0_4.length c0_4] 24 (0, 0)) (by (with_reducible repeat (first|refine blk_drewN ?_ _|refine blk_drew ?_|refine blk_alloc ?_ _)); exact BK154.out) hb); have n1_ := Aside0.mk (below_step (by repeat (first|(with_reducible first|exact HB.out|apply below_alloc|apply pw_below_drewN|apply below_drew1|refine below_set ?_ GE154.out)|exact HB.out)) hb); clear BK154; clear HB; have BK154 := n0_; have HB := n1_; clear n0_ n1_; (try clear hb); (try clear hb2); (try clear hk); (try clear hi)))
     go_meet
     case rel => exact ⟨_, (true), (by first|rfl|(simp; done)|(simp [*]; done)), H', ⟨by first | omega|exact Nat.le_refl _⟩, ⟨by (with_reducible repeat (first|refine blk_drewN ?_ _|refine blk_drew ?_|refine blk_alloc ?_ _)); exact BK154.out⟩, ⟨by repeat (first|(with_reducible first|exact HB.out|apply below_alloc|apply pw_below_drewN|apply below_drew1|refine below_set ?_ GE154.out)|exact HB.out)⟩⟩
   ·replace c8 := Bool.eq_false_iff.mpr c8
    subst c8
    have H1 : (gossamerref02_may.j0 k true a0_0 a0_1 a0_2 a0_3 l0_4) = some r := by rw [if_neg (show ¬ (false = true) by decide)] at H; exact H
    clear H
    have H := H1
    clear H1
    have H' := Aside0.mk H
    clear H
    have hcz20_0 : w4.cell? ⟨gb154, 0, none⟩ = some (.int .i64 a0_0) := (blk_cell BK154.out 0).trans rfl
    have hcz20_1 : w4.cell? ⟨gb154, 1, none⟩ = some (.string a0_1) := (blk_cell BK154.out 1).trans rfl
    have hcz20_2 : w4.cell? ⟨gb154, 2, none⟩ = some (.int .i64 a0_2) := (blk_cell BK154.out 2).trans rfl
    have hcz20_3 : w4.cell? ⟨gb154, 3, none⟩ = some (.int .i64 a0_3) := (blk_cell BK154.out 3).trans rfl
    have hcz20_4 : w4.cell? ⟨gb154, 4, none⟩ = some (.slice A0_4 l0_4.length c0_4) := (blk_cell BK154.out 4).trans rfl
    have hfz20_0 := blk_frozen BK154.out 0
    have hfz20_1 := blk_frozen BK154.out 1
    have hfz20_2 := blk_frozen BK154.out 2
    have hfz20_3 := blk_frozen BK154.out 3
    have hfz20_4 := blk_frozen BK154.out 4
    go_wp2_with (first|(go_at_call 25; (with_reducible refine (gossamerref02_name.calls k a0_0 a0_1 a0_2 a0_3 _ _ l0_4 false _ ?side1 ?side2 A7.out).mono ?_); (case side1 => repeat (first|exact (Kd.C_below HR0_4.out HB.out)|(with_reducible refine Kd.C_alloc ?_ _)|(with_reducible refine Kd.C_drewN ?_ _)|(with_reducible refine Kd.C_drew ?_))); (case side2 => exact HC0_4.out); rintro e w21 ⟨rfl, hb⟩; have n0_ := Aside0.mk (blk_below (g := gb154) (o := .cells #[.int .i64 a0_0, .string a0_1, .int .i64 a0_2, .int .i64 a0_3, .slice A0_4 l0_4.length c0_4] 24 (0, 0)) (by (with_reducible repeat (first|refine blk_drewN ?_ _|refine blk_drew ?_|refine blk_alloc ?_ _)); exact BK154.out) hb); have n1_ := Aside0.mk (below_step (by repeat (first|(with_reducible first|exact HB.out|apply below_alloc|apply pw_below_drewN|apply below_drew1|refine below_set ?_ GE154.out)|exact HB.out)) hb); clear BK154; clear HB; have BK154 := n0_; have HB := n1_; clear n0_ n1_; (try clear hb); (try clear hb2); (try clear hk); (try clear hi)))
    go_meet
    case rel => exact ⟨_, (true), (by first|rfl|(simp; done)|(simp [*]; done)), H', ⟨by first | omega|exact Nat.le_refl _⟩, ⟨by (with_reducible repeat (first|refine blk_drewN ?_ _|refine blk_drew ?_|refine blk_alloc ?_ _)); exact BK154.out⟩, ⟨by repeat (first|(with_reducible first|exact HB.out|apply below_alloc|apply pw_below_drewN|apply below_drew1|refine below_set ?_ GE154.out)|exact HB.out)⟩⟩
 case rest =>
  clear HC3
  try clear c1
  try clear p2
  try clear c5
  try clear c5b0
  try clear c5b1
  try clear c5b2
  try clear c8
  try clear c10
  try clear c19
  try clear hcz11_0
  try clear hcz11_1
  try clear hcz11_2
  try clear hcz11_3
  try clear hcz11_4
  try clear hcz13_0
  try clear hcz13_1
  try clear hcz13_2
  try clear hcz13_3
  try clear hcz13_4
  try clear hcz15_0
  try clear hcz15_1
  try clear hcz15_2
  try clear hcz15_3
  try clear hcz15_4
  try clear hcz16_0
  try clear hcz16_1
  try clear hcz16_2
  try clear hcz16_3
  try clear hcz16_4
  try clear hcz18_0
  try clear hcz18_1
  try clear hcz18_2
  try clear hcz18_3
  try clear hcz18_4
  try clear hcz20_0
  try clear hcz20_1
  try clear hcz20_2
  try clear hcz20_3
  try clear hcz20_4
  try clear hcz6_0
  try clear hcz6_1
  try clear hcz6_2
  try clear hcz6_3
  try clear hcz6_4
  try clear hfz11_0
  try clear hfz11_1
  try clear hfz11_2
  try clear hfz11_3
  try clear hfz11_4
  try clear hfz13_0
  try clear hfz13_1
  try clear hfz13_2
  try clear hfz13_3
  try clear hfz13_4
  try clear hfz15_0
  try clear hfz15_1
  try clear hfz15_2
  try clear hfz15_3
  try clear hfz15_4
  try clear hfz16_0
  try clear hfz16_1
  try clear hfz16_2
  try clear hfz16_3
  try clear hfz16_4
  try clear hfz18_0
  try clear hfz18_1
  try clear hfz18_2
  try clear hfz18_3
  try clear hfz18_4
  try clear hfz20_0
  try clear hfz20_1
  try clear hfz20_2
  try clear hfz20_3
  try clear hfz20_4
  try clear hfz6_0
  try clear hfz6_1
  try clear hfz6_2
  try clear hfz6_3
  try clear hfz6_4
  obtain ⟨kq, x25_2, rfl, HA, HJ2, BK154, HB⟩ := hcut
  cases kq with
  | zero => exact absurd HA.out (by simp [gossamerref02_may.j0])
  | succ kj2 =>
   have H := HA.out
   clear HA
   simp only [gossamerref02_may.j0] at H
   by_cases c22 : x25_2 = true
   ·subst c22
    have H1 : (some false) = some r := by rw [if_pos rfl] at H; exact H
    clear H
    have H := H1
    clear H1
    obtain rfl := Option.some.inj H
    go_wp2
    go_ret
    exact ⟨by first|rfl|(simp [errW_none, errW_some] <;> rfl)|(simp [*, errW_none, errW_some] <;> rfl), by repeat (first|(with_reducible first|exact HB.out|apply below_alloc|apply pw_below_drewN|apply below_drew1|refine below_set ?_ GE154.out)|exact HB.out)⟩
   ·replace c22 := Bool.eq_false_iff.mpr c22
    subst c22
    have H1 : (gossamerref02_may.l0 kj2 0 a0_0 a0_1 a0_2 a0_3 l0_4) = some r := by rw [if_neg (show ¬ (false = true) by decide)] at H; exact H
    clear H
    have H := H1
    clear H1
    have H' := Aside0.mk H
    clear H
    go_wp2
    go_loopg [5] kj2 (fun kq v5 w' => ∃ (x5_2 : Int), v5 = .int .i64 x5_2 ∧ Aside0 (gossamerref02_may.l0 kq x5_2 a0_0 a0_1 a0_2 a0_3 l0_4 = some r) ∧ Aside0 (kq ≤ kj2) ∧ Aside0 (w'.heap[gb154]? = some (.cells #[.int .i64 a0_0, .string a0_1, .int .i64 a0_2, .int .i64 a0_3, (.slice A0_4 l0_4.length c0_4)] 24 (0, 0))) ∧ Aside0 (Below w.heap.size w w'))
    case atStart => exact ⟨(0), (by first|rfl|(simp; done)|(simp [*]; done)), H', ⟨Nat.le_refl _⟩, ⟨by (with_reducible repeat (first|refine blk_drewN ?_ _|refine blk_drew ?_|refine blk_alloc ?_ _)); exact BK154.out⟩, ⟨by repeat (first|(with_reducible first|exact HB.out|apply below_alloc|apply pw_below_drewN|apply below_drew1|refine below_set ?_ GE154.out)|exact HB.out)⟩⟩
    case round =>
     clear H'
     try clear c1
     try clear c2
     try clear p2
     try clear c5
     try clear c5b0
     try clear c5b1
     try clear c5b2
     try clear c8
     try clear c10
     try clear c19
     try clear c22
     try clear hcz11_0
     try clear hcz11_1
     try clear hcz11_2
     try clear hcz11_3
     try clear hcz11_4
     try clear hcz13_0
     try clear hcz13_1
     try clear hcz13_2
     try clear hcz13_3
     try clear hcz13_4
     try clear hcz15_0
     try clear hcz15_1
     try clear hcz15_2
     try clear hcz15_3
     try clear hcz15_4
     try clear hcz16_0
     try clear hcz16_1
     try clear hcz16_2
     try clear hcz16_3
     try clear hcz16_4
     try clear hcz18_0
     try clear hcz18_1
     try clear hcz18_2
     try clear hcz18_3
     try clear hcz18_4
     try clear hcz20_0
     try clear hcz20_1
     try clear hcz20_2
     try clear hcz20_3
     try clear hcz20_4
     try clear hcz6_0
     try clear hcz6_1
     try clear hcz6_2
     try clear hcz6_3
     try clear hcz6_4
     try clear hfz11_0
     try clear hfz11_1
     try clear hfz11_2
     try clear hfz11_3
     try clear hfz11_4
     try clear hfz13_0
     try clear hfz13_1
     try clear hfz13_2
     try clear hfz13_3
     try clear hfz13_4
     try clear hfz15_0
     try clear hfz15_1
     try clear hfz15_2
     try clear hfz15_3
     try clear hfz15_4
     try clear hfz16_0
     try clear hfz16_1
     try clear hfz16_2
     try clear hfz16_3
     try clear hfz16_4
     try clear hfz18_0
     try clear hfz18_1
     try clear hfz18_2
     try clear hfz18_3
     try clear hfz18_4
     try clear hfz20_0
     try clear hfz20_1
     try clear hfz20_2
     try clear hfz20_3
     try clear hfz20_4
     try clear hfz6_0
     try clear hfz6_1
     try clear hfz6_2
     try clear hfz6_3
     try clear hfz6_4
     try clear p2
     obtain ⟨x5_2, rfl, HA, HK2, BK154, HB⟩ := hrel
     cases gk with
     | zero => exact absurd HA.out (by simp [gossamerref02_may.l0])
     | succ k2 =>
      have H := HA.out
      clear HA
      simp only [gossamerref02_may.l0] at H
      by_cases c23 : x5_2 < (l0_4.length : Int)
      ·rw [if_pos c23] at H
       have c23b0 : decide (x5_2 < (l0_4.length : Int)) = true := decide_eq_true c23
       clear c23
       have HC24 := Aside0.mk H
       clear H
       have hcz25_0 : wr.cell? ⟨gb154, 0, none⟩ = some (.int .i64 a0_0) := (blk_cell BK154.out 0).trans rfl
       have hcz25_1 : wr.cell? ⟨gb154, 1, none⟩ = some (.string a0_1) := (blk_cell BK154.out 1).trans rfl
       have hcz25_2 : wr.cell? ⟨gb154, 2, none⟩ = some (.int .i64 a0_2) := (blk_cell BK154.out 2).trans rfl
       have hcz25_3 : wr.cell? ⟨gb154, 3, none⟩ = some (.int .i64 a0_3) := (blk_cell BK154.out 3).trans rfl
       have hcz25_4 : wr.cell? ⟨gb154, 4, none⟩ = some (.slice A0_4 l0_4.length c0_4) := (blk_cell BK154.out 4).trans rfl
       have hfz25_0 := blk_frozen BK154.out 0
       have hfz25_1 := blk_frozen BK154.out 1
       have hfz25_2 := blk_frozen BK154.out 2
       have hfz25_3 := blk_frozen BK154.out 3
       have hfz25_4 := blk_frozen BK154.out 4
       go_upto_region 6 with (fail)
       go_cut [50] (fun v50 wc => ∃ (kq : Nat) (x50_23 : Bool), v50 = .bool x50_23 ∧ Aside0 (gossamerref02_may.j2 kq x5_2 x50_23 a0_0 a0_1 a0_2 a0_3 l0_4 = some r) ∧ Aside0 (kq ≤ k2) ∧ Aside0 (wc.heap[gb154]? = some (.cells #[.int .i64 a0_0, .string a0_1, .int .i64 a0_2, .int .i64 a0_3, (.slice A0_4 l0_4.length c0_4)] 24 (0, 0))) ∧ Aside0 (Below w.heap.size w wc))
       case first =>
        have H := HC24.out
        clear HC24
        by_cases c26 : a0_0 = 8
        ·rw [if_pos c26] at H
         have c26b0 : (a0_0 == 8) = true := beq_iff_eq.mpr c26
         have c26b1 : (a0_0 != 8) = false := bne_eq_false_iff_eq.mpr c26
         clear c26
         (first|rw [c26b0]|(simp only [i64_w, i32_w]; rw [c26b0]) | skip)
         by_cases c27 : x5_2 < a0_2
         ·rw [if_pos c27] at H
          have c27b0 : decide (x5_2 < a0_2) = true := decide_eq_true c27
          clear c27
          by_cases c28 : 0 ≤ x5_2
          ·rw [if_pos c28] at H
           have c28b0 : decide (0 ≤ x5_2) = true := decide_eq_true c28
           clear c28
           have H' := Aside0.mk H
           clear H
           have hcz29_0 : wr.cell? ⟨gb154, 0, none⟩ = some (.int .i64 a0_0) := (blk_cell BK154.out 0).trans rfl
           have hcz29_1 : wr.cell? ⟨gb154, 1, none⟩ = some (.string a0_1) := (blk_cell BK154.out 1).trans rfl
           have hcz29_2 : wr.cell? ⟨gb154, 2, none⟩ = some (.int .i64 a0_2) := (blk_cell BK154.out 2).trans rfl
           have hcz29_3 : wr.cell? ⟨gb154, 3, none⟩ = some (.int .i64 a0_3) := (blk_cell BK154.out 3).trans rfl
           have hcz29_4 : wr.cell? ⟨gb154, 4, none⟩ = some (.slice A0_4 l0_4.length c0_4) := (blk_cell BK154.out 4).trans rfl
           have hfz29_0 := blk_frozen BK154.out 0
           have hfz29_1 := blk_frozen BK154.out 1
           have hfz29_2 := blk_frozen BK154.out 2
           have hfz29_3 := blk_frozen BK154.out 3
           have hfz29_4 := blk_frozen BK154.out 4
           have p157 : 0 ≤ (x5_2 : Int) := of_decide_eq_true (by first|(with_reducible assumption) | assumption)
           have q157 : x5_2 < (l0_4.length : Int) := of_decide_eq_true (by first|(with_reducible assumption) | assumption)
           obtain ⟨ad157, A157_4, c157_4, e157, hx157_0, hx157_1, hx157_2, hx157_3, hx157_4, hl157_4, hi157_4⟩ := at_T24 HR0_4.out x5_2 p157 q157
           cases e157
           replace hx157_0 := (HB.out.cell (World.block_lt_of_cell? w _ hx157_0)).trans hx157_0
           replace hx157_1 := (HB.out.cell (World.block_lt_of_cell? w _ hx157_1)).trans hx157_1
           replace hx157_2 := (HB.out.cell (World.block_lt_of_cell? w _ hx157_2)).trans hx157_2
           replace hx157_3 := (HB.out.cell (World.block_lt_of_cell? w _ hx157_3)).trans hx157_3
           replace hx157_4 := (HB.out.cell (World.block_lt_of_cell? w _ hx157_4)).trans hx157_4
           have HR157_4 := Aside0.mk hi157_4
           have HC157_4 := Aside0.mk hl157_4
           clear hi157_4 hl157_4
           replace p157 := eq_true p157
           replace q157 := eq_true q157
           go_wp2
           go_meet
           case rel => exact ⟨_, ((((rd_T24 l0_4 x5_2).f0) != 1)), (by first|rfl|(simp; done)|(simp [*]; done)), H', ⟨by have := HJ2.out; have := HK2.out; first | omega|exact Nat.le_refl _⟩, ⟨by (with_reducible repeat (first|refine blk_drewN ?_ _|refine blk_drew ?_|refine blk_alloc ?_ _)); exact BK154.out⟩, ⟨by repeat (first|(with_reducible first|exact HB.out|apply below_alloc|apply pw_below_drewN|apply below_drew1|refine below_set ?_ GE154.out)|exact HB.out)⟩⟩
          ·rw [if_neg c28] at H
           exact absurd H (by simp)
         ·rw [if_neg c27] at H
          have c27b0 : decide (x5_2 < a0_2) = false := decide_eq_false c27
          clear c27
          have H' := Aside0.mk H
          clear H
          have hcz30_0 : wr.cell? ⟨gb154, 0, none⟩ = some (.int .i64 a0_0) := (blk_cell BK154.out 0).trans rfl
          have hcz30_1 : wr.cell? ⟨gb154, 1, none⟩ = some (.string a0_1) := (blk_cell BK154.out 1).trans rfl
          have hcz30_2 : wr.cell? ⟨gb154, 2, none⟩ = some (.int .i64 a0_2) := (blk_cell BK154.out 2).trans rfl
          have hcz30_3 : wr.cell? ⟨gb154, 3, none⟩ = some (.int .i64 a0_3) := (blk_cell BK154.out 3).trans rfl
          have hcz30_4 : wr.cell? ⟨gb154, 4, none⟩ = some (.slice A0_4 l0_4.length c0_4) := (blk_cell BK154.out 4).trans rfl
          have hfz30_0 := blk_frozen BK154.out 0
          have hfz30_1 := blk_frozen BK154.out 1
          have hfz30_2 := blk_frozen BK154.out 2
          have hfz30_3 := blk_frozen BK154.out 3
          have hfz30_4 := blk_frozen BK154.out 4
          go_wp2
          go_meet
          case rel => exact ⟨_, (false), (by first|rfl|(simp; done)|(simp [*]; done)), H', ⟨by have := HJ2.out; have := HK2.out; first | omega|exact Nat.le_refl _⟩, ⟨by (with_reducible repeat (first|refine blk_drewN ?_ _|refine blk_drew ?_|refine blk_alloc ?_ _)); exact BK154.out⟩, ⟨by repeat (first|(with_reducible first|exact HB.out|apply below_alloc|apply pw_below_drewN|apply below_drew1|refine below_set ?_ GE154.out)|exact HB.out)⟩⟩
        ·rw [if_neg c26] at H
         have c26b0 : (a0_0 == 8) = false := beq_eq_false_iff_ne.mpr c26
         have c26b1 : (a0_0 != 8) = true := bne_iff_ne.mpr c26
         (first|rw [c26b0]|(simp only [i64_w, i32_w]; rw [c26b0]) | skip)
         have H' := Aside0.mk H
         clear H
         have hcz31_0 : wr.cell? ⟨gb154, 0, none⟩ = some (.int .i64 a0_0) := (blk_cell BK154.out 0).trans rfl
         have hcz31_1 : wr.cell? ⟨gb154, 1, none⟩ = some (.string a0_1) := (blk_cell BK154.out 1).trans rfl
         have hcz31_2 : wr.cell? ⟨gb154, 2, none⟩ = some (.int .i64 a0_2) := (blk_cell BK154.out 2).trans rfl
         have hcz31_3 : wr.cell? ⟨gb154, 3, none⟩ = some (.int .i64 a0_3) := (blk_cell BK154.out 3).trans rfl
         have hcz31_4 : wr.cell? ⟨gb154, 4, none⟩ = some (.slice A0_4 l0_4.length c0_4) := (blk_cell BK154.out 4).trans rfl
         have hfz31_0 := blk_frozen BK154.out 0
         have hfz31_1 := blk_frozen BK154.out 1
         have hfz31_2 := blk_frozen BK154.out 2
         have hfz31_3 := blk_frozen BK154.out 3
         have hfz31_4 := blk_frozen BK154.out 4
         go_wp2
         go_meet
         case rel => exact ⟨_, (false), (by first|rfl|(simp; done)|(simp [*]; done)), H', ⟨by have := HJ2.out; have := HK2.out; first | omega|exact Nat.le_refl _⟩, ⟨by (with_reducible repeat (first|refine blk_drewN ?_ _|refine blk_drew ?_|refine blk_alloc ?_ _)); exact BK154.out⟩, ⟨by repeat (first|(with_reducible first|exact HB.out|apply below_alloc|apply pw_below_drewN|apply below_drew1|refine below_set ?_ GE154.out)|exact HB.out)⟩⟩
       case rest =>
        clear HC24
        try clear c1
        try clear p1
        try clear q1
        try clear hx1
        try clear c2
        try clear p2
        try clear c5
        try clear c5b0
        try clear c5b1
        try clear c5b2
        try clear c8
        try clear c10
        try clear c15
        try clear p15
        try clear q15
        try clear hx15
        try clear c19
        try clear c22
        try clear c23
        try clear c23b0
        try clear c26
        try clear c26b0
        try clear c26b1
        try clear c27
        try clear c27b0
        try clear c28
        try clear c28b0
        try clear hcz11_0
        try clear hcz11_1
        try clear hcz11_2
        try clear hcz11_3
        try clear hcz11_4
        try clear hcz13_0
        try clear hcz13_1
        try clear hcz13_2
        try clear hcz13_3
        try clear hcz13_4
        try clear hcz15_0
        try clear hcz15_1
        try clear hcz15_2
        try clear hcz15_3
        try clear hcz15_4
        try clear hcz16_0
        try clear hcz16_1
        try clear hcz16_2
        try clear hcz16_3
        try clear hcz16_4
        try clear hcz18_0
        try clear hcz18_1
        try clear hcz18_2
        try clear hcz18_3
        try clear hcz18_4
        try clear hcz20_0
        try clear hcz20_1
        try clear hcz20_2
        try clear hcz20_3
        try clear hcz20_4
        try clear hcz25_0
        try clear hcz25_1
        try clear hcz25_2
        try clear hcz25_3
        try clear hcz25_4
        try clear hcz29_0
        try clear hcz29_1
        try clear hcz29_2
        try clear hcz29_3
        try clear hcz29_4
        try clear hcz30_0
        try clear hcz30_1
        try clear hcz30_2
        try clear hcz30_3
        try clear hcz30_4
        try clear hcz31_0
        try clear hcz31_1
        try clear hcz31_2
        try clear hcz31_3
        try clear hcz31_4
        try clear hcz6_0
        try clear hcz6_1
        try clear hcz6_2
        try clear hcz6_3
        try clear hcz6_4
        try clear hfz11_0
        try clear hfz11_1
        try clear hfz11_2
        try clear hfz11_3
        try clear hfz11_4
        try clear hfz13_0
        try clear hfz13_1
        try clear hfz13_2
        try clear hfz13_3
        try clear hfz13_4
        try clear hfz15_0
        try clear hfz15_1
        try clear hfz15_2
        try clear hfz15_3
        try clear hfz15_4
        try clear hfz16_0
        try clear hfz16_1
        try clear hfz16_2
        try clear hfz16_3
        try clear hfz16_4
        try clear hfz18_0
        try clear hfz18_1
        try clear hfz18_2
        try clear hfz18_3
        try clear hfz18_4
        try clear hfz20_0
        try clear hfz20_1
        try clear hfz20_2
        try clear hfz20_3
        try clear hfz20_4
        try clear hfz25_0
        try clear hfz25_1
        try clear hfz25_2
        try clear hfz25_3
        try clear hfz25_4
        try clear hfz29_0
        try clear hfz29_1
        try clear hfz29_2
        try clear hfz29_3
        try clear hfz29_4
        try clear hfz30_0
        try clear hfz30_1
        try clear hfz30_2
        try clear hfz30_3
        try clear hfz30_4
        try clear hfz31_0
        try clear hfz31_1
        try clear hfz31_2
        try clear hfz31_3
        try clear hfz31_4
        try clear hfz6_0
        try clear hfz6_1
        try clear hfz6_2
        try clear hfz6_3
        try clear hfz6_4
        try clear hx157_0
        try clear hx157_1
        try clear hx157_2
        try clear hx157_3
        try clear hx157_4
        try clear p157
        try clear p2
        try clear q157
        obtain ⟨kq, x50_23, rfl, HA, HJ23, BK154, HB⟩ := hcut
        cases kq with
        | zero => exact absurd HA.out (by simp [gossamerref02_may.j2])
        | succ kj23 =>
         have H := HA.out
         clear HA
         simp only [gossamerref02_may.j2] at H
         by_cases c32 : x50_23 = true
         ·subst c32
          have H1 : (some false) = some r := by rw [if_pos rfl] at H; exact H
          clear H
          have H := H1
          clear H1
          obtain rfl := Option.some.inj H
          go_wp2
          go_ret
          exact ⟨by first|rfl|(simp [errW_none, errW_some] <;> rfl)|(simp [*, errW_none, errW_some] <;> rfl), by repeat (first|(with_reducible first|exact HB.out|apply below_alloc|apply pw_below_drewN|apply below_drew1|refine below_set ?_ GE154.out)|exact HB.out)⟩
         ·replace c32 := Bool.eq_false_iff.mpr c32
          subst c32
          have H1 : (if 0 ≤ x5_2 then (if x5_2 < (l0_4.length : Int) then (if a0_0 = 7 then ((gossamerref02_may.f kj23 ((rd_T24 l0_4 x5_2).f0) ((rd_T24 l0_4 x5_2).f1) ((rd_T24 l0_4 x5_2).f2) ((rd_T24 l0_4 x5_2).f3) ((rd_T24 l0_4 x5_2).f4) (decide (x5_2 > 0))).bind fun t159 => (if t159 = true then (gossamerref02_may.l0 kj23 (wrap64 (x5_2 + 1)) a0_0 a0_1 a0_2 a0_3 l0_4) else (some false))) else ((gossamerref02_may.f kj23 ((rd_T24 l0_4 x5_2).f0) ((rd_T24 l0_4 x5_2).f1) ((rd_T24 l0_4 x5_2).f2) ((rd_T24 l0_4 x5_2).f3) ((rd_T24 l0_4 x5_2).f4) false).bind fun t160 => (if t160 = true then (gossamerref02_may.l0 kj23 (wrap64 (x5_2 + 1)) a0_0 a0_1 a0_2 a0_3 l0_4) else (some false)))) else (none)) else (none)) = some r := by rw [if_neg (show ¬ (false = true) by decide)] at H; exact H
          clear H
          have H := H1
          clear H1
          by_cases c33 : 0 ≤ x5_2
          ·rw [if_pos c33] at H
           have c33b0 : decide (0 ≤ x5_2) = true := decide_eq_true c33
           clear c33
           by_cases c34 : x5_2 < (l0_4.length : Int)
           ·rw [if_pos c34] at H
            have c34b0 : decide (x5_2 < (l0_4.length : Int)) = true := decide_eq_true c34
            clear c34
            by_cases c35 : a0_0 = 7
            ·rw [if_pos c35] at H
             have c35b0 : (a0_0 == 7) = true := beq_iff_eq.mpr c35
             have c35b1 : (a0_0 != 7) = false := bne_eq_false_iff_eq.mpr c35
             clear c35
             replace H := Option.bind_eq_some_iff.mp H
             obtain ⟨t159, A360, H⟩ := H
             replace H : (if t159 = true then (gossamerref02_may.l0 kj23 (wrap64 (x5_2 + 1)) a0_0 a0_1 a0_2 a0_3 l0_4) else (some false)) = some r := H
             have A36 := Aside0.mk A360
             clear A360
             by_cases c37 : t159 = true
             ·subst c37
              have H1 : (gossamerref02_may.l0 kj23 (wrap64 (x5_2 + 1)) a0_0 a0_1 a0_2 a0_3 l0_4) = some r := by rw [if_pos rfl] at H; exact H
              clear H
              have H := H1
              clear H1
              have H' := Aside0.mk H
              clear H
              try go_wp2
              have n0_ := Aside0.mk (blk_drew BK154.out)
              have n1_ := Aside0.mk (below_drew1 HB.out)
              clear BK154
              clear HB
              have BK154 := n0_
              have HB := n1_
              clear n0_ n1_
              have p158 : 0 ≤ (x5_2 : Int) := of_decide_eq_true (by first|(with_reducible assumption) | assumption)
              have q158 : x5_2 < (l0_4.length : Int) := of_decide_eq_true (by first|(with_reducible assumption) | assumption)
              obtain ⟨ad158, A158_4, c158_4, e158, hx158_0, hx158_1, hx158_2, hx158_3, hx158_4, hl158_4, hi158_4⟩ := at_T24 HR0_4.out x5_2 p158 q158
              have hw158_4 := hx158_4
              have hw158_3 := hx158_3
              have hw158_2 := hx158_2
              have hw158_1 := hx158_1
              have hw158_0 := hx158_0
              cases e158
              replace hx158_0 := (HB.out.cell (World.block_lt_of_cell? w _ hx158_0)).trans hx158_0
              replace hx158_1 := (HB.out.cell (World.block_lt_of_cell? w _ hx158_1)).trans hx158_1
              replace hx158_2 := (HB.out.cell (World.block_lt_of_cell? w _ hx158_2)).trans hx158_2
              replace hx158_3 := (HB.out.cell (World.block_lt_of_cell? w _ hx158_3)).trans hx158_3
              replace hx158_4 := (HB.out.cell (World.block_lt_of_cell? w _ hx158_4)).trans hx158_4
              have HR158_4 := Aside0.mk hi158_4
              have HC158_4 := Aside0.mk hl158_4
              clear hi158_4 hl158_4
              replace p158 := eq_true p158
              replace q158 := eq_true q158
              refine start_ (n := 14) (S := fun w' => w'.cell? ⟨gb154, 0, none⟩ = some (.int .i64 a0_0) ∧ w'.cell? ⟨gb154, 1, none⟩ = some (.string a0_1) ∧ w'.cell? ⟨gb154, 2, none⟩ = some (.int .i64 a0_2) ∧ w'.cell? ⟨gb154, 3, none⟩ = some (.int .i64 a0_3) ∧ w'.cell? ⟨gb154, 4, none⟩ = some (.slice (some ad158) l0_4.length c0_4) ∧ w'.cell? (ad158.add ((x5_2).toNat * 5)) = some (.int .i64 ((rd_T24 l0_4 x5_2).f0)) ∧ w'.cell? ⟨(ad158.add ((x5_2).toNat * 5)).block, (ad158.add ((x5_2).toNat * 5)).off + 1, none⟩ = some (.string ((rd_T24 l0_4 x5_2).f1)) ∧ w'.cell? ⟨(ad158.add ((x5_2).toNat * 5)).block, (ad158.add ((x5_2).toNat * 5)).off + 2, none⟩ = some (.int .i64 ((rd_T24 l0_4 x5_2).f2)) ∧ w'.cell? ⟨(ad158.add ((x5_2).toNat * 5)).block, (ad158.add ((x5_2).toNat * 5)).off + 3, none⟩ = some (.int .i64 ((rd_T24 l0_4 x5_2).f3)) ∧ w'.cell? ⟨(ad158.add ((x5_2).toNat * 5)).block, (ad158.add ((x5_2).toNat * 5)).off + 4, none⟩ = some (.slice A158_4 ((rd_T24 l0_4 x5_2).f4).length c158_4)) (ds := []) #[false, false, false, false, false, false, false, false, false, false, false, false, false, false] (by kernel_rfl) rfl rfl ⟨(blk_cell BK154.out 0).trans rfl, (blk_cell BK154.out 1).trans rfl, (blk_cell BK154.out 2).trans rfl, (blk_cell BK154.out 3).trans rfl, (blk_cell BK154.out 4).trans rfl, ((HB.out.cell (World.block_lt_of_cell? w _ hw158_0)).trans hw158_0), ((HB.out.cell (World.block_lt_of_cell? w _ hw158_1)).trans hw158_1), ((HB.out.cell (World.block_lt_of_cell? w _ hw158_2)).trans hw158_2), ((HB.out.cell (World.block_lt_of_cell? w _ hw158_3)).trans hw158_3), ((HB.out.cell (World.block_lt_of_cell? w _ hw158_4)).trans hw158_4)⟩ (fun hHeld => ?_); refine with_tabW gossamerref02_may.tab8 gossamerref02_may.bits8 (fun HT_ HW_ => ?_)
              generalize wc.drew = w38 at BK154 HB HR158_4 hx158_0 hx158_1 hx158_2 hx158_3 hx158_4 hHeld ⊢
              refine pure_ (i := 0) (N := some 51) (v := ?_) (a' := ?_) #[true, false, false, false, false, false, false, false, false, false, false, false, false, false] rfl rfl (any_of HT_.out (by kernel_rfl)) (fun _ _ _ h => h) (Or.inl ⟨by rfl, ?_⟩) ?_ ?_
              rotate_left
              ·intro w'
               go_simp
               with_reducible rfl
              rotate_left
              ·simp only [Act.put, List.setIfInBounds_toArray, List.set_cons_zero, List.set_cons_succ, i64_w, i32_w]
               rfl
              refine pure_ (i := 2) (N := some 53) (v := ?_) (a' := ?_) #[true, false, true, false, false, false, false, false, false, false, false, false, false, false] rfl rfl (any_of HT_.out (by kernel_rfl)) (fun _ _ _ h => h) (Or.inl ⟨by rfl, ?_⟩) ?_ ?_
              rotate_left
              ·intro w'
               go_simp
               with_reducible rfl
              rotate_left
              ·simp only [Act.put, List.setIfInBounds_toArray, List.set_cons_zero, List.set_cons_succ, i64_w, i32_w]
               rfl
              refine pure_ (i := 5) (N := some 56) (v := ?_) (a' := ?_) #[true, false, true, false, false, true, false, false, false, false, false, false, false, false] rfl rfl (any_of HT_.out (by kernel_rfl)) (fun _ _ _ h => h) (Or.inl ⟨by rfl, ?_⟩) ?_ ?_
              rotate_left
              ·intro w'
               go_simp
               with_reducible rfl
              rotate_left
              ·simp only [Act.put, List.setIfInBounds_toArray, List.set_cons_zero, List.set_cons_succ, i64_w, i32_w]
               rfl
              refine take_ (i := 1) (N := some 52) (v := ?_) (a' := ?_) #[true, true, true, false, false, true, false, false, false, false, false, false, false, false] rfl rfl (take_ofW HT_.out HW_.out (by kernel_rfl)) (fun _ _ _ h => h) (Or.inl ⟨by rfl, ?_⟩) hHeld ?_ ?_
              rotate_left
              ·rintro w' ⟨s0, s1, s2, s3, s4, s5, s6, s7, s8, s9⟩
               go_simp
               with_reducible rfl
              rotate_left
              ·simp only [Act.put, List.setIfInBounds_toArray, List.set_cons_zero, List.set_cons_succ, i64_w, i32_w]
               rfl
              refine pure_ (i := 3) (N := some 54) (v := ?_) (a' := ?_) #[true, true, true, true, false, true, false, false, false, false, false, false, false, false] rfl rfl (any_of HT_.out (by kernel_rfl)) (fun _ _ _ h => h) (Or.inl ⟨by rfl, ?_⟩) ?_ ?_
              rotate_left
              ·intro w'
               go_simp
               with_reducible rfl
              rotate_left
              ·simp only [Act.put, List.setIfInBounds_toArray, List.set_cons_zero, List.set_cons_succ, i64_w, i32_w]
               rfl
              refine take_ (i := 4) (N := some 55) (v := ?_) (a' := ?_) #[true, true, true, true, true, true, false, false, false, false, false, false, false, false] rfl rfl (take_ofW HT_.out HW_.out (by kernel_rfl)) (fun _ _ _ h => h) (Or.inl ⟨by rfl, ?_⟩) hHeld ?_ ?_
              rotate_left
              ·rintro w' ⟨s0, s1, s2, s3, s4, s5, s6, s7, s8, s9⟩
               go_simp
               with_reducible rfl
              rotate_left
              ·simp only [Act.put, List.setIfInBounds_toArray, List.set_cons_zero, List.set_cons_succ, i64_w, i32_w]
               rfl
              refine take_ (i := 6) (N := some 57) (v := ?_) (a' := ?_) #[true, true, true, true, true, true, true, false, false, false, false, false, false, false] rfl rfl (take_ofW HT_.out HW_.out (by kernel_rfl)) (fun _ _ _ h => h) (Or.inl ⟨by rfl, ?_⟩) hHeld ?_ ?_
              rotate_left
              ·rintro w' ⟨s0, s1, s2, s3, s4, s5, s6, s7, s8, s9⟩
               go_simp
               with_reducible rfl
              rotate_left
              ·simp only [Act.put, List.setIfInBounds_toArray, List.set_cons_zero, List.set_cons_succ, i64_w, i32_w]
               rfl
              refine pure_ (i := 7) (N := some 58) (v := ?_) (a' := ?_) #[true, true, true, true, true, true, true, true, false, false, false, false, false, false] rfl rfl (any_of HT_.out (by kernel_rfl)) (fun _ _ _ h => h) (Or.inl ⟨by rfl, ?_⟩) ?_ ?_
              rotate_left
              ·intro w'
               go_simp
               with_reducible rfl
              rotate_left
              ·simp only [Act.put, List.setIfInBounds_toArray, List.set_cons_zero, List.set_cons_succ, i64_w, i32_w]
               rfl
              refine pure_ (i := 8) (N := some 59) (v := ?_) (a' := ?_) #[true, true, true, true, true, true, true, true, true, false, false, false, false, false] rfl rfl (any_of HT_.out (by kernel_rfl)) (fun _ _ _ h => h) (Or.inl ⟨by rfl, ?_⟩) ?_ ?_
              rotate_left
              ·intro w'
               go_simp
               with_reducible rfl
              rotate_left
              ·simp only [Act.put, List.setIfInBounds_toArray, List.set_cons_zero, List.set_cons_succ, i64_w, i32_w]
               rfl
              refine pure_ (i := 9) (N := some 60) (v := ?_) (a' := ?_) #[true, true, true, true, true, true, true, true, true, true, false, false, false, false] rfl rfl (any_of HT_.out (by kernel_rfl)) (fun _ _ _ h => h) (Or.inl ⟨by rfl, ?_⟩) ?_ ?_
              rotate_left
              ·intro w'
               go_simp
               with_reducible rfl
              rotate_left
              ·simp only [Act.put, List.setIfInBounds_toArray, List.set_cons_zero, List.set_cons_succ, i64_w, i32_w]
               rfl
              refine pure_ (i := 10) (N := some 61) (v := ?_) (a' := ?_) #[true, true, true, true, true, true, true, true, true, true, true, false, false, false] rfl rfl (any_of HT_.out (by kernel_rfl)) (fun _ _ _ h => h) (Or.inl ⟨by rfl, ?_⟩) ?_ ?_
              rotate_left
              ·intro w'
               go_simp
               with_reducible rfl
              rotate_left
              ·simp only [Act.put, List.setIfInBounds_toArray, List.set_cons_zero, List.set_cons_succ, i64_w, i32_w]
               rfl
              refine pure_ (i := 11) (N := some 62) (v := ?_) (a' := ?_) #[true, true, true, true, true, true, true, true, true, true, true, true, false, false] rfl rfl (any_of HT_.out (by kernel_rfl)) (fun _ _ _ h => h) (Or.inl ⟨by rfl, ?_⟩) ?_ ?_
              rotate_left
              ·intro w'
               go_simp
               with_reducible rfl
              rotate_left
              ·simp only [Act.put, List.setIfInBounds_toArray, List.set_cons_zero, List.set_cons_succ, i64_w, i32_w]
               rfl
              refine one_ (i := 12) (N := some 63) #[true, true, true, true, true, true, true, true, true, true, true, true, true, false] rfl rfl (one_of HT_.out (by kernel_rfl)) (by decide) (fun K hK => ?_)
              refine goes_ Tryz.func19 (by kernel_rfl) rfl #[.agg #[.int .i64 ((rd_T24 l0_4 x5_2).f0), .string ((rd_T24 l0_4 x5_2).f1), .int .i64 ((rd_T24 l0_4 x5_2).f2), .int .i64 ((rd_T24 l0_4 x5_2).f3), .slice A158_4 ((rd_T24 l0_4 x5_2).f4).length c158_4], .bool (decide (x5_2 > 0))] (by rfl) rfl rfl (by (try simp only [List.map_toArray, List.map_cons, List.map_nil]); first|done|rfl|(simp only [List.length_drop, List.length_take]; rfl)) ?_
              with_reducible refine (ih kj23 (by have := HJ2.out; have := HK2.out; have := HJ23.out; omega) ((rd_T24 l0_4 x5_2).f0) ((rd_T24 l0_4 x5_2).f1) ((rd_T24 l0_4 x5_2).f2) ((rd_T24 l0_4 x5_2).f3) _ _ ((rd_T24 l0_4 x5_2).f4) (decide (x5_2 > 0)) true _ ?side1 ?side2 A36.out).mono ?_
              (case side1 => repeat (first|exact (Kd.C_below HR158_4.out HB.out)|(with_reducible refine Kd.C_alloc ?_ _)|(with_reducible refine Kd.C_drewN ?_ _)|(with_reducible refine Kd.C_drew ?_)))
              (case side2 => exact HC158_4.out)
              rintro e w39 ⟨rfl, hb⟩
              refine ⟨_, rfl, ?_⟩
              have n0_ := Aside0.mk (blk_below (g := gb154) (o := .cells #[.int .i64 a0_0, .string a0_1, .int .i64 a0_2, .int .i64 a0_3, .slice (some ad158) l0_4.length c0_4] 24 (0, 0)) (by (with_reducible repeat (first|refine blk_drewN ?_ _|refine blk_drew ?_|refine blk_alloc ?_ _)); exact BK154.out) hb)
              have n1_ := Aside0.mk (below_step (by repeat (first|(with_reducible first|exact HB.out|apply below_alloc|apply pw_below_drewN|apply below_drew1|refine below_set ?_ GE154.out)|exact HB.out)) hb)
              clear BK154
              clear HB
              have BK154 := n0_
              have HB := n1_
              clear n0_ n1_
              (try clear hb)
              (try clear hb2)
              (try clear hk)
              (try clear hi)
              refine hK.out _ _ ⟨(blk_cell BK154.out 0).trans rfl, (blk_cell BK154.out 1).trans rfl, (blk_cell BK154.out 2).trans rfl, (blk_cell BK154.out 3).trans rfl, (blk_cell BK154.out 4).trans rfl, ((HB.out.cell (World.block_lt_of_cell? w _ hw158_0)).trans hw158_0), ((HB.out.cell (World.block_lt_of_cell? w _ hw158_1)).trans hw158_1), ((HB.out.cell (World.block_lt_of_cell? w _ hw158_2)).trans hw158_2), ((HB.out.cell (World.block_lt_of_cell? w _ hw158_3)).trans hw158_3), ((HB.out.cell (World.block_lt_of_cell? w _ hw158_4)).trans hw158_4)⟩ (fun hHeld => ?_)
              clear hK K
              refine norm_ (a' := ?_) ?_ ?_
              rotate_left
              ·show Act.put _ (some 63) _ = _
               simp only [Act.put, List.setIfInBounds_toArray, List.set_cons_zero, List.set_cons_succ, i64_w, i32_w]
               rfl
              refine pure_ (i := 13) (N := some 64) (v := ?_) (a' := ?_) #[true, true, true, true, true, true, true, true, true, true, true, true, true, true] rfl rfl (any_of HT_.out (by kernel_rfl)) (fun _ _ _ h => h) (Or.inl ⟨by rfl, ?_⟩) ?_ ?_
              rotate_left
              ·intro w'
               go_simp
               with_reducible rfl
              rotate_left
              ·simp only [Act.put, List.setIfInBounds_toArray, List.set_cons_zero, List.set_cons_succ, i64_w, i32_w]
               rfl
              refine done_ (done_of HT_.out (by kernel_rfl)) ?_
              try go_wp2
              go_roundg kj23
              case measure => have := HJ2.out; have := HK2.out; have := HJ23.out; omega
              case rel => exact ⟨(wrap64 (x5_2 + 1)), (by first|rfl|(simp; done)|(simp [*]; done)), H', ⟨by have := HJ2.out; have := HK2.out; have := HJ23.out; omega⟩, ⟨by (with_reducible repeat (first|refine blk_drewN ?_ _|refine blk_drew ?_|refine blk_alloc ?_ _)); exact BK154.out⟩, ⟨by repeat (first|(with_reducible first|exact HB.out|apply below_alloc|apply pw_below_drewN|apply below_drew1|refine below_set ?_ GE154.out)|exact HB.out)⟩⟩
             ·replace c37 := Bool.eq_false_iff.mpr c37
              subst c37
              have H1 : (some false) = some r := by rw [if_neg (show ¬ (false = true) by decide)] at H; exact H
              clear H
              have H := H1
              clear H1
              obtain rfl := Option.some.inj H
              try go_wp2
              have n0_ := Aside0.mk (blk_drew BK154.out)
              have n1_ := Aside0.mk (below_drew1 HB.out)
              clear BK154
              clear HB
              have BK154 := n0_
              have HB := n1_
              clear n0_ n1_
              have p158 : 0 ≤ (x5_2 : Int) := of_decide_eq_true (by first|(with_reducible assumption) | assumption)
              have q158 : x5_2 < (l0_4.length : Int) := of_decide_eq_true (by first|(with_reducible assumption) | assumption)
              obtain ⟨ad158, A158_4, c158_4, e158, hx158_0, hx158_1, hx158_2, hx158_3, hx158_4, hl158_4, hi158_4⟩ := at_T24 HR0_4.out x5_2 p158 q158
              have hw158_4 := hx158_4
              have hw158_3 := hx158_3
              have hw158_2 := hx158_2
              have hw158_1 := hx158_1
              have hw158_0 := hx158_0
              cases e158
              replace hx158_0 := (HB.out.cell (World.block_lt_of_cell? w _ hx158_0)).trans hx158_0
              replace hx158_1 := (HB.out.cell (World.block_lt_of_cell? w _ hx158_1)).trans hx158_1
              replace hx158_2 := (HB.out.cell (World.block_lt_of_cell? w _ hx158_2)).trans hx158_2
              replace hx158_3 := (HB.out.cell (World.block_lt_of_cell? w _ hx158_3)).trans hx158_3
              replace hx158_4 := (HB.out.cell (World.block_lt_of_cell? w _ hx158_4)).trans hx158_4
              have HR158_4 := Aside0.mk hi158_4
              have HC158_4 := Aside0.mk hl158_4
              clear hi158_4 hl158_4
              replace p158 := eq_true p158
              replace q158 := eq_true q158
              refine start_ (n := 14) (S := fun w' => w'.cell? ⟨gb154, 0, none⟩ = some (.int .i64 a0_0) ∧ w'.cell? ⟨gb154, 1, none⟩ = some (.string a0_1) ∧ w'.cell? ⟨gb154, 2, none⟩ = some (.int .i64 a0_2) ∧ w'.cell? ⟨gb154, 3, none⟩ = some (.int .i64 a0_3) ∧ w'.cell? ⟨gb154, 4, none⟩ = some (.slice (some ad158) l0_4.length c0_4) ∧ w'.cell? (ad158.add ((x5_2).toNat * 5)) = some (.int .i64 ((rd_T24 l0_4 x5_2).f0)) ∧ w'.cell? ⟨(ad158.add ((x5_2).toNat * 5)).block, (ad158.add ((x5_2).toNat * 5)).off + 1, none⟩ = some (.string ((rd_T24 l0_4 x5_2).f1)) ∧ w'.cell? ⟨(ad158.add ((x5_2).toNat * 5)).block, (ad158.add ((x5_2).toNat * 5)).off + 2, none⟩ = some (.int .i64 ((rd_T24 l0_4 x5_2).f2)) ∧ w'.cell? ⟨(ad158.add ((x5_2).toNat * 5)).block, (ad158.add ((x5_2).toNat * 5)).off + 3, none⟩ = some (.int .i64 ((rd_T24 l0_4 x5_2).f3)) ∧ w'.cell? ⟨(ad158.add ((x5_2).toNat * 5)).block, (ad158.add ((x5_2).toNat * 5)).off + 4, none⟩ = some (.slice A158_4 ((rd_T24 l0_4 x5_2).f4).length c158_4)) (ds := []) #[false, false, false, false, false, false, false, false, false, false, false, false, false, false] (by kernel_rfl) rfl rfl ⟨(blk_cell BK154.out 0).trans rfl, (blk_cell BK154.out 1).trans rfl, (blk_cell BK154.out 2).trans rfl, (blk_cell BK154.out 3).trans rfl, (blk_cell BK154.out 4).trans rfl, ((HB.out.cell (World.block_lt_of_cell? w _ hw158_0)).trans hw158_0), ((HB.out.cell (World.block_lt_of_cell? w _ hw158_1)).trans hw158_1), ((HB.out.cell (World.block_lt_of_cell? w _ hw158_2)).trans hw158_2), ((HB.out.cell (World.block_lt_of_cell? w _ hw158_3)).trans hw158_3), ((HB.out.cell (World.block_lt_of_cell? w _ hw158_4)).trans hw158_4)⟩ (fun hHeld => ?_); refine with_tabW gossamerref02_may.tab8 gossamerref02_may.bits8 (fun HT_ HW_ => ?_)
              generalize wc.drew = w40 at BK154 HB HR158_4 hx158_0 hx158_1 hx158_2 hx158_3 hx158_4 hHeld ⊢
              refine pure_ (i := 0) (N := some 51) (v := ?_) (a' := ?_) #[true, false, false, false, false, false, false, false, false, false, false, false, false, false] rfl rfl (any_of HT_.out (by kernel_rfl)) (fun _ _ _ h => h) (Or.inl ⟨by rfl, ?_⟩) ?_ ?_
              rotate_left
              ·intro w'
               go_simp
               with_reducible rfl
              rotate_left
              ·simp only [Act.put, List.setIfInBounds_toArray, List.set_cons_zero, List.set_cons_succ, i64_w, i32_w]
               rfl
              refine pure_ (i := 2) (N := some 53) (v := ?_) (a' := ?_) #[true, false, true, false, false, false, false, false, false, false, false, false, false, false] rfl rfl (any_of HT_.out (by kernel_rfl)) (fun _ _ _ h => h) (Or.inl ⟨by rfl, ?_⟩) ?_ ?_
              rotate_left
              ·intro w'
               go_simp
               with_reducible rfl
              rotate_left
              ·simp only [Act.put, List.setIfInBounds_toArray, List.set_cons_zero, List.set_cons_succ, i64_w, i32_w]
               rfl
              refine pure_ (i := 5) (N := some 56) (v := ?_) (a' := ?_) #[true, false, true, false, false, true, false, false, false, false, false, false, false, false] rfl rfl (any_of HT_.out (by kernel_rfl)) (fun _ _ _ h => h) (Or.inl ⟨by rfl, ?_⟩) ?_ ?_
              rotate_left
              ·intro w'
               go_simp
               with_reducible rfl
              rotate_left
              ·simp only [Act.put, List.setIfInBounds_toArray, List.set_cons_zero, List.set_cons_succ, i64_w, i32_w]
               rfl
              refine take_ (i := 1) (N := some 52) (v := ?_) (a' := ?_) #[true, true, true, false, false, true, false, false, false, false, false, false, false, false] rfl rfl (take_ofW HT_.out HW_.out (by kernel_rfl)) (fun _ _ _ h => h) (Or.inl ⟨by rfl, ?_⟩) hHeld ?_ ?_
              rotate_left
              ·rintro w' ⟨s0, s1, s2, s3, s4, s5, s6, s7, s8, s9⟩
               go_simp
               with_reducible rfl
              rotate_left
              ·simp only [Act.put, List.setIfInBounds_toArray, List.set_cons_zero, List.set_cons_succ, i64_w, i32_w]
               rfl
              refine pure_ (i := 3) (N := some 54) (v := ?_) (a' := ?_) #[true, true, true, true, false, true, false, false, false, false, false, false, false, false] rfl rfl (any_of HT_.out (by kernel_rfl)) (fun _ _ _ h => h) (Or.inl ⟨by rfl, ?_⟩) ?_ ?_
              rotate_left
              ·intro w'
               go_simp
               with_reducible rfl
              rotate_left
              ·simp only [Act.put, List.setIfInBounds_toArray, List.set_cons_zero, List.set_cons_succ, i64_w, i32_w]
               rfl
              refine take_ (i := 4) (N := some 55) (v := ?_) (a' := ?_) #[true, true, true, true, true, true, false, false, false, false, false, false, false, false] rfl rfl (take_ofW HT_.out HW_.out (by kernel_rfl)) (fun _ _ _ h => h) (Or.inl ⟨by rfl, ?_⟩) hHeld ?_ ?_
              rotate_left
              ·rintro w' ⟨s0, s1, s2, s3, s4, s5, s6, s7, s8, s9⟩
               go_simp
               with_reducible rfl
              rotate_left
              ·simp only [Act.put, List.setIfInBounds_toArray, List.set_cons_zero, List.set_cons_succ, i64_w, i32_w]
               rfl
              refine take_ (i := 6) (N := some 57) (v := ?_) (a' := ?_) #[true, true, true, true, true, true, true, false, false, false, false, false, false, false] rfl rfl (take_ofW HT_.out HW_.out (by kernel_rfl)) (fun _ _ _ h => h) (Or.inl ⟨by rfl, ?_⟩) hHeld ?_ ?_
              rotate_left
              ·rintro w' ⟨s0, s1, s2, s3, s4, s5, s6, s7, s8, s9⟩
               go_simp
               with_reducible rfl
              rotate_left
              ·simp only [Act.put, List.setIfInBounds_toArray, List.set_cons_zero, List.set_cons_succ, i64_w, i32_w]
               rfl
              refine pure_ (i := 7) (N := some 58) (v := ?_) (a' := ?_) #[true, true, true, true, true, true, true, true, false, false, false, false, false, false] rfl rfl (any_of HT_.out (by kernel_rfl)) (fun _ _ _ h => h) (Or.inl ⟨by rfl, ?_⟩) ?_ ?_
              rotate_left
              ·intro w'
               go_simp
               with_reducible rfl
              rotate_left
              ·simp only [Act.put, List.setIfInBounds_toArray, List.set_cons_zero, List.set_cons_succ, i64_w, i32_w]
               rfl
              refine pure_ (i := 8) (N := some 59) (v := ?_) (a' := ?_) #[true, true, true, true, true, true, true, true, true, false, false, false, false, false] rfl rfl (any_of HT_.out (by kernel_rfl)) (fun _ _ _ h => h) (Or.inl ⟨by rfl, ?_⟩) ?_ ?_
              rotate_left
              ·intro w'
               go_simp
               with_reducible rfl
              rotate_left
              ·simp only [Act.put, List.setIfInBounds_toArray, List.set_cons_zero, List.set_cons_succ, i64_w, i32_w]
               rfl
              refine pure_ (i := 9) (N := some 60) (v := ?_) (a' := ?_) #[true, true, true, true, true, true, true, true, true, true, false, false, false, false] rfl rfl (any_of HT_.out (by kernel_rfl)) (fun _ _ _ h => h) (Or.inl ⟨by rfl, ?_⟩) ?_ ?_
              rotate_left
              ·intro w'
               go_simp
               with_reducible rfl
              rotate_left
              ·simp only [Act.put, List.setIfInBounds_toArray, List.set_cons_zero, List.set_cons_succ, i64_w, i32_w]
               rfl
              refine pure_ (i := 10) (N := some 61) (v := ?_) (a' := ?_) #[true, true, true, true, true, true, true, true, true, true, true, false, false, false] rfl rfl (any_of HT_.out (by kernel_rfl)) (fun _ _ _ h => h) (Or.inl ⟨by rfl, ?_⟩) ?_ ?_
              rotate_left
              ·intro w'
               go_simp
               with_reducible rfl
              rotate_left
              ·simp only [Act.put, List.setIfInBounds_toArray, List.set_cons_zero, List.set_cons_succ, i64_w, i32_w]
               rfl
              refine pure_ (i := 11) (N := some 62) (v := ?_) (a' := ?_) #[true, true, true, true, true, true, true, true, true, true, true, true, false, false] rfl rfl (any_of HT_.out (by kernel_rfl)) (fun _ _ _ h => h) (Or.inl ⟨by rfl, ?_⟩) ?_ ?_
              rotate_left
              ·intro w'
               go_simp
               with_reducible rfl
              rotate_left
              ·simp only [Act.put, List.setIfInBounds_toArray, List.set_cons_zero, List.set_cons_succ, i64_w, i32_w]
               rfl
              refine one_ (i := 12) (N := some 63) #[true, true, true, true, true, true, true, true, true, true, true, true, true, false] rfl rfl (one_of HT_.out (by kernel_rfl)) (by decide) (fun K hK => ?_)
              refine goes_ Tryz.func19 (by kernel_rfl) rfl #[.agg #[.int .i64 ((rd_T24 l0_4 x5_2).f0), .string ((rd_T24 l0_4 x5_2).f1), .int .i64 ((rd_T24 l0_4 x5_2).f2), .int .i64 ((rd_T24 l0_4 x5_2).f3), .slice A158_4 ((rd_T24 l0_4 x5_2).f4).length c158_4], .bool (decide (x5_2 > 0))] (by rfl) rfl rfl (by (try simp only [List.map_toArray, List.map_cons, List.map_nil]); first|done|rfl|(simp only [List.length_drop, List.length_take]; rfl)) ?_
              with_reducible refine (ih kj23 (by have := HJ2.out; have := HK2.out; have := HJ23.out; omega) ((rd_T24 l0_4 x5_2).f0) ((rd_T24 l0_4 x5_2).f1) ((rd_T24 l0_4 x5_2).f2) ((rd_T24 l0_4 x5_2).f3) _ _ ((rd_T24 l0_4 x5_2).f4) (decide (x5_2 > 0)) false _ ?side1 ?side2 A36.out).mono ?_
              (case side1 => repeat (first|exact (Kd.C_below HR158_4.out HB.out)|(with_reducible refine Kd.C_alloc ?_ _)|(with_reducible refine Kd.C_drewN ?_ _)|(with_reducible refine Kd.C_drew ?_)))
              (case side2 => exact HC158_4.out)
              rintro e w41 ⟨rfl, hb⟩
              refine ⟨_, rfl, ?_⟩
              have n0_ := Aside0.mk (blk_below (g := gb154) (o := .cells #[.int .i64 a0_0, .string a0_1, .int .i64 a0_2, .int .i64 a0_3, .slice (some ad158) l0_4.length c0_4] 24 (0, 0)) (by (with_reducible repeat (first|refine blk_drewN ?_ _|refine blk_drew ?_|refine blk_alloc ?_ _)); exact BK154.out) hb)
              have n1_ := Aside0.mk (below_step (by repeat (first|(with_reducible first|exact HB.out|apply below_alloc|apply pw_below_drewN|apply below_drew1|refine below_set ?_ GE154.out)|exact HB.out)) hb)
              clear BK154
              clear HB
              have BK154 := n0_
              have HB := n1_
              clear n0_ n1_
              (try clear hb)
              (try clear hb2)
              (try clear hk)
              (try clear hi)
              refine hK.out _ _ ⟨(blk_cell BK154.out 0).trans rfl, (blk_cell BK154.out 1).trans rfl, (blk_cell BK154.out 2).trans rfl, (blk_cell BK154.out 3).trans rfl, (blk_cell BK154.out 4).trans rfl, ((HB.out.cell (World.block_lt_of_cell? w _ hw158_0)).trans hw158_0), ((HB.out.cell (World.block_lt_of_cell? w _ hw158_1)).trans hw158_1), ((HB.out.cell (World.block_lt_of_cell? w _ hw158_2)).trans hw158_2), ((HB.out.cell (World.block_lt_of_cell? w _ hw158_3)).trans hw158_3), ((HB.out.cell (World.block_lt_of_cell? w _ hw158_4)).trans hw158_4)⟩ (fun hHeld => ?_)
              clear hK K
              refine norm_ (a' := ?_) ?_ ?_
              rotate_left
              ·show Act.put _ (some 63) _ = _
               simp only [Act.put, List.setIfInBounds_toArray, List.set_cons_zero, List.set_cons_succ, i64_w, i32_w]
               rfl
              refine pure_ (i := 13) (N := some 64) (v := ?_) (a' := ?_) #[true, true, true, true, true, true, true, true, true, true, true, true, true, true] rfl rfl (any_of HT_.out (by kernel_rfl)) (fun _ _ _ h => h) (Or.inl ⟨by rfl, ?_⟩) ?_ ?_
              rotate_left
              ·intro w'
               go_simp
               with_reducible rfl
              rotate_left
              ·simp only [Act.put, List.setIfInBounds_toArray, List.set_cons_zero, List.set_cons_succ, i64_w, i32_w]
               rfl
              refine done_ (done_of HT_.out (by kernel_rfl)) ?_
              try go_wp2
              go_ret
              exact ⟨by first|rfl|(simp [errW_none, errW_some] <;> rfl)|(simp [*, errW_none, errW_some] <;> rfl), by repeat (first|(with_reducible first|exact HB.out|apply below_alloc|apply pw_below_drewN|apply below_drew1|refine below_set ?_ GE154.out)|exact HB.out)⟩
            ·rw [if_neg c35] at H
             have c35b0 : (a0_0 == 7) = false := beq_eq_false_iff_ne.mpr c35
             have c35b1 : (a0_0 != 7) = true := bne_iff_ne.mpr c35
             replace H := Option.bind_eq_some_iff.mp H
             obtain ⟨t160, A420, H⟩ := H
             replace H : (if t160 = true then (gossamerref02_may.l0 kj23 (wrap64 (x5_2 + 1)) a0_0 a0_1 a0_2 a0_3 l0_4) else (some false)) = some r := H
             have A42 := Aside0.mk A420
             clear A420
             by_cases c43 : t160 = true
             ·subst c43
              have H1 : (gossamerref02_may.l0 kj23 (wrap64 (x5_2 + 1)) a0_0 a0_1 a0_2 a0_3 l0_4) = some r := by rw [if_pos rfl] at H; exact H
              clear H
              have H := H1
              clear H1
              have H' := Aside0.mk H
              clear H
              try go_wp2
              have n0_ := Aside0.mk (blk_drew BK154.out)
              have n1_ := Aside0.mk (below_drew1 HB.out)
              clear BK154
              clear HB
              have BK154 := n0_
              have HB := n1_
              clear n0_ n1_
              have p158 : 0 ≤ (x5_2 : Int) := of_decide_eq_true (by first|(with_reducible assumption) | assumption)
              have q158 : x5_2 < (l0_4.length : Int) := of_decide_eq_true (by first|(with_reducible assumption) | assumption)
              obtain ⟨ad158, A158_4, c158_4, e158, hx158_0, hx158_1, hx158_2, hx158_3, hx158_4, hl158_4, hi158_4⟩ := at_T24 HR0_4.out x5_2 p158 q158
              have hw158_4 := hx158_4
              have hw158_3 := hx158_3
              have hw158_2 := hx158_2
              have hw158_1 := hx158_1
              have hw158_0 := hx158_0
              cases e158
              replace hx158_0 := (HB.out.cell (World.block_lt_of_cell? w _ hx158_0)).trans hx158_0
              replace hx158_1 := (HB.out.cell (World.block_lt_of_cell? w _ hx158_1)).trans hx158_1
              replace hx158_2 := (HB.out.cell (World.block_lt_of_cell? w _ hx158_2)).trans hx158_2
              replace hx158_3 := (HB.out.cell (World.block_lt_of_cell? w _ hx158_3)).trans hx158_3
              replace hx158_4 := (HB.out.cell (World.block_lt_of_cell? w _ hx158_4)).trans hx158_4
              have HR158_4 := Aside0.mk hi158_4
              have HC158_4 := Aside0.mk hl158_4
              clear hi158_4 hl158_4
              replace p158 := eq_true p158
              replace q158 := eq_true q158
              refine start_ (n := 14) (S := fun w' => w'.cell? ⟨gb154, 0, none⟩ = some (.int .i64 a0_0) ∧ w'.cell? ⟨gb154, 1, none⟩ = some (.string a0_1) ∧ w'.cell? ⟨gb154, 2, none⟩ = some (.int .i64 a0_2) ∧ w'.cell? ⟨gb154, 3, none⟩ = some (.int .i64 a0_3) ∧ w'.cell? ⟨gb154, 4, none⟩ = some (.slice (some ad158) l0_4.length c0_4) ∧ w'.cell? (ad158.add ((x5_2).toNat * 5)) = some (.int .i64 ((rd_T24 l0_4 x5_2).f0)) ∧ w'.cell? ⟨(ad158.add ((x5_2).toNat * 5)).block, (ad158.add ((x5_2).toNat * 5)).off + 1, none⟩ = some (.string ((rd_T24 l0_4 x5_2).f1)) ∧ w'.cell? ⟨(ad158.add ((x5_2).toNat * 5)).block, (ad158.add ((x5_2).toNat * 5)).off + 2, none⟩ = some (.int .i64 ((rd_T24 l0_4 x5_2).f2)) ∧ w'.cell? ⟨(ad158.add ((x5_2).toNat * 5)).block, (ad158.add ((x5_2).toNat * 5)).off + 3, none⟩ = some (.int .i64 ((rd_T24 l0_4 x5_2).f3)) ∧ w'.cell? ⟨(ad158.add ((x5_2).toNat * 5)).block, (ad158.add ((x5_2).toNat * 5)).off + 4, none⟩ = some (.slice A158_4 ((rd_T24 l0_4 x5_2).f4).length c158_4)) (ds := []) #[false, false, false, false, false, false, false, false, false, false, false, false, false, false] (by kernel_rfl) rfl rfl ⟨(blk_cell BK154.out 0).trans rfl, (blk_cell BK154.out 1).trans rfl, (blk_cell BK154.out 2).trans rfl, (blk_cell BK154.out 3).trans rfl, (blk_cell BK154.out 4).trans rfl, ((HB.out.cell (World.block_lt_of_cell? w _ hw158_0)).trans hw158_0), ((HB.out.cell (World.block_lt_of_cell? w _ hw158_1)).trans hw158_1), ((HB.out.cell (World.block_lt_of_cell? w _ hw158_2)).trans hw158_2), ((HB.out.cell (World.block_lt_of_cell? w _ hw158_3)).trans hw158_3), ((HB.out.cell (World.block_lt_of_cell? w _ hw158_4)).trans hw158_4)⟩ (fun hHeld => ?_); refine with_tabW gossamerref02_may.tab8 gossamerref02_may.bits8 (fun HT_ HW_ => ?_)
              generalize wc.drew = w44 at BK154 HB HR158_4 hx158_0 hx158_1 hx158_2 hx158_3 hx158_4 hHeld ⊢
              refine pure_ (i := 0) (N := some 51) (v := ?_) (a' := ?_) #[true, false, false, false, false, false, false, false, false, false, false, false, false, false] rfl rfl (any_of HT_.out (by kernel_rfl)) (fun _ _ _ h => h) (Or.inl ⟨by rfl, ?_⟩) ?_ ?_
              rotate_left
              ·intro w'
               go_simp
               with_reducible rfl
              rotate_left
              ·simp only [Act.put, List.setIfInBounds_toArray, List.set_cons_zero, List.set_cons_succ, i64_w, i32_w]
               rfl
              refine pure_ (i := 2) (N := some 53) (v := ?_) (a' := ?_) #[true, false, true, false, false, false, false, false, false, false, false, false, false, false] rfl rfl (any_of HT_.out (by kernel_rfl)) (fun _ _ _ h => h) (Or.inl ⟨by rfl, ?_⟩) ?_ ?_
              rotate_left
              ·intro w'
               go_simp
               with_reducible rfl
              rotate_left
              ·simp only [Act.put, List.setIfInBounds_toArray, List.set_cons_zero, List.set_cons_succ, i64_w, i32_w]
               rfl
              refine pure_ (i := 5) (N := some 56) (v := ?_) (a' := ?_) #[true, false, true, false, false, true, false, false, false, false, false, false, false, false] rfl rfl (any_of HT_.out (by kernel_rfl)) (fun _ _ _ h => h) (Or.inl ⟨by rfl, ?_⟩) ?_ ?_
              rotate_left
              ·intro w'
               go_simp
               with_reducible rfl
              rotate_left
              ·simp only [Act.put, List.setIfInBounds_toArray, List.set_cons_zero, List.set_cons_succ, i64_w, i32_w]
               rfl
              refine take_ (i := 1) (N := some 52) (v := ?_) (a' := ?_) #[true, true, true, false, false, true, false, false, false, false, false, false, false, false] rfl rfl (take_ofW HT_.out HW_.out (by kernel_rfl)) (fun _ _ _ h => h) (Or.inl ⟨by rfl, ?_⟩) hHeld ?_ ?_
              rotate_left
              ·rintro w' ⟨s0, s1, s2, s3, s4, s5, s6, s7, s8, s9⟩
               go_simp
               with_reducible rfl
              rotate_left
              ·simp only [Act.put, List.setIfInBounds_toArray, List.set_cons_zero, List.set_cons_succ, i64_w, i32_w]
               rfl
              refine pure_ (i := 3) (N := some 54) (v := ?_) (a' := ?_) #[true, true, true, true, false, true, false, false, false, false, false, false, false, false] rfl rfl (any_of HT_.out (by kernel_rfl)) (fun _ _ _ h => h) (Or.inl ⟨by rfl, ?_⟩) ?_ ?_
              rotate_left
              ·intro w'
               go_simp
               with_reducible rfl
              rotate_left
              ·simp only [Act.put, List.setIfInBounds_toArray, List.set_cons_zero, List.set_cons_succ, i64_w, i32_w]
               rfl
              refine take_ (i := 4) (N := some 55) (v := ?_) (a' := ?_) #[true, true, true, true, true, true, false, false, false, false, false, false, false, false] rfl rfl (take_ofW HT_.out HW_.out (by kernel_rfl)) (fun _ _ _ h => h) (Or.inl ⟨by rfl, ?_⟩) hHeld ?_ ?_
              rotate_left
              ·rintro w' ⟨s0, s1, s2, s3, s4, s5, s6, s7, s8, s9⟩
               go_simp
               with_reducible rfl
              rotate_left
              ·simp only [Act.put, List.setIfInBounds_toArray, List.set_cons_zero, List.set_cons_succ, i64_w, i32_w]
               rfl
              refine take_ (i := 6) (N := some 57) (v := ?_) (a' := ?_) #[true, true, true, true, true, true, true, false, false, false, false, false, false, false] rfl rfl (take_ofW HT_.out HW_.out (by kernel_rfl)) (fun _ _ _ h => h) (Or.inl ⟨by rfl, ?_⟩) hHeld ?_ ?_
              rotate_left
              ·rintro w' ⟨s0, s1, s2, s3, s4, s5, s6, s7, s8, s9⟩
               go_simp
               with_reducible rfl
              rotate_left
              ·simp only [Act.put, List.setIfInBounds_toArray, List.set_cons_zero, List.set_cons_succ, i64_w, i32_w]
               rfl
              refine pure_ (i := 7) (N := some 58) (v := ?_) (a' := ?_) #[true, true, true, true, true, true, true, true, false, false, false, false, false, false] rfl rfl (any_of HT_.out (by kernel_rfl)) (fun _ _ _ h => h) (Or.inl ⟨by rfl, ?_⟩) ?_ ?_
              rotate_left
              ·intro w'
               go_simp
               with_reducible rfl
              rotate_left
              ·simp only [Act.put, List.setIfInBounds_toArray, List.set_cons_zero, List.set_cons_succ, i64_w, i32_w]
               rfl
              refine pure_ (i := 8) (N := some 59) (v := ?_) (a' := ?_) #[true, true, true, true, true, true, true, true, true, false, false, false, false, false] rfl rfl (any_of HT_.out (by kernel_rfl)) (fun _ _ _ h => h) (Or.inl ⟨by rfl, ?_⟩) ?_ ?_
              rotate_left
              ·intro w'
               go_simp
               with_reducible rfl
              rotate_left
              ·simp only [Act.put, List.setIfInBounds_toArray, List.set_cons_zero, List.set_cons_succ, i64_w, i32_w]
               rfl
              refine pure_ (i := 9) (N := some 60) (v := undef) (a' := ?_) #[true, true, true, true, true, true, true, true, true, true, false, false, false, false] rfl rfl (any_of HT_.out (by kernel_rfl)) (fun _ _ _ h => h) (Or.inr ⟨by rfl, rfl⟩) ?_ ?_
              rotate_left
              ·simp only [Act.put, List.setIfInBounds_toArray, List.set_cons_zero, List.set_cons_succ, i64_w, i32_w]
               rfl
              refine pure_ (i := 10) (N := some 61) (v := undef) (a' := ?_) #[true, true, true, true, true, true, true, true, true, true, true, false, false, false] rfl rfl (any_of HT_.out (by kernel_rfl)) (fun _ _ _ h => h) (Or.inr ⟨by rfl, rfl⟩) ?_ ?_
              rotate_left
              ·simp only [Act.put, List.setIfInBounds_toArray, List.set_cons_zero, List.set_cons_succ, i64_w, i32_w]
               rfl
              refine pure_ (i := 11) (N := some 62) (v := ?_) (a' := ?_) #[true, true, true, true, true, true, true, true, true, true, true, true, false, false] rfl rfl (any_of HT_.out (by kernel_rfl)) (fun _ _ _ h => h) (Or.inl ⟨by rfl, ?_⟩) ?_ ?_
              rotate_left
              ·intro w'
               go_simp
               with_reducible rfl
              rotate_left
              ·simp only [Act.put, List.setIfInBounds_toArray, List.set_cons_zero, List.set_cons_succ, i64_w, i32_w]
               rfl
              refine one_ (i := 12) (N := some 63) #[true, true, true, true, true, true, true, true, true, true, true, true, true, false] rfl rfl (one_of HT_.out (by kernel_rfl)) (by decide) (fun K hK => ?_)
              refine goes_ Tryz.func19 (by kernel_rfl) rfl #[.agg #[.int .i64 ((rd_T24 l0_4 x5_2).f0), .string ((rd_T24 l0_4 x5_2).f1), .int .i64 ((rd_T24 l0_4 x5_2).f2), .int .i64 ((rd_T24 l0_4 x5_2).f3), .slice A158_4 ((rd_T24 l0_4 x5_2).f4).length c158_4], .bool false] (by rfl) rfl rfl (by (try simp only [List.map_toArray, List.map_cons, List.map_nil]); first|done|rfl|(simp only [List.length_drop, List.length_take]; rfl)) ?_
              with_reducible refine (ih kj23 (by have := HJ2.out; have := HK2.out; have := HJ23.out; omega) ((rd_T24 l0_4 x5_2).f0) ((rd_T24 l0_4 x5_2).f1) ((rd_T24 l0_4 x5_2).f2) ((rd_T24 l0_4 x5_2).f3) _ _ ((rd_T24 l0_4 x5_2).f4) false true _ ?side1 ?side2 A42.out).mono ?_
              (case side1 => repeat (first|exact (Kd.C_below HR158_4.out HB.out)|(with_reducible refine Kd.C_alloc ?_ _)|(with_reducible refine Kd.C_drewN ?_ _)|(with_reducible refine Kd.C_drew ?_)))
              (case side2 => exact HC158_4.out)
              rintro e w45 ⟨rfl, hb⟩
              refine ⟨_, rfl, ?_⟩
              have n0_ := Aside0.mk (blk_below (g := gb154) (o := .cells #[.int .i64 a0_0, .string a0_1, .int .i64 a0_2, .int .i64 a0_3, .slice (some ad158) l0_4.length c0_4] 24 (0, 0)) (by (with_reducible repeat (first|refine blk_drewN ?_ _|refine blk_drew ?_|refine blk_alloc ?_ _)); exact BK154.out) hb)
              have n1_ := Aside0.mk (below_step (by repeat (first|(with_reducible first|exact HB.out|apply below_alloc|apply pw_below_drewN|apply below_drew1|refine below_set ?_ GE154.out)|exact HB.out)) hb)
              clear BK154
              clear HB
              have BK154 := n0_
              have HB := n1_
              clear n0_ n1_
              (try clear hb)
              (try clear hb2)
              (try clear hk)
              (try clear hi)
              refine hK.out _ _ ⟨(blk_cell BK154.out 0).trans rfl, (blk_cell BK154.out 1).trans rfl, (blk_cell BK154.out 2).trans rfl, (blk_cell BK154.out 3).trans rfl, (blk_cell BK154.out 4).trans rfl, ((HB.out.cell (World.block_lt_of_cell? w _ hw158_0)).trans hw158_0), ((HB.out.cell (World.block_lt_of_cell? w _ hw158_1)).trans hw158_1), ((HB.out.cell (World.block_lt_of_cell? w _ hw158_2)).trans hw158_2), ((HB.out.cell (World.block_lt_of_cell? w _ hw158_3)).trans hw158_3), ((HB.out.cell (World.block_lt_of_cell? w _ hw158_4)).trans hw158_4)⟩ (fun hHeld => ?_)
              clear hK K
              refine norm_ (a' := ?_) ?_ ?_
              rotate_left
              ·show Act.put _ (some 63) _ = _
               simp only [Act.put, List.setIfInBounds_toArray, List.set_cons_zero, List.set_cons_succ, i64_w, i32_w]
               rfl
              refine pure_ (i := 13) (N := some 64) (v := ?_) (a' := ?_) #[true, true, true, true, true, true, true, true, true, true, true, true, true, true] rfl rfl (any_of HT_.out (by kernel_rfl)) (fun _ _ _ h => h) (Or.inl ⟨by rfl, ?_⟩) ?_ ?_
              rotate_left
              ·intro w'
               go_simp
               with_reducible rfl
              rotate_left
              ·simp only [Act.put, List.setIfInBounds_toArray, List.set_cons_zero, List.set_cons_succ, i64_w, i32_w]
               rfl
              refine done_ (done_of HT_.out (by kernel_rfl)) ?_
              try go_wp2
              go_roundg kj23
              case measure => have := HJ2.out; have := HK2.out; have := HJ23.out; omega
              case rel => exact ⟨(wrap64 (x5_2 + 1)), (by first|rfl|(simp; done)|(simp [*]; done)), H', ⟨by have := HJ2.out; have := HK2.out; have := HJ23.out; omega⟩, ⟨by (with_reducible repeat (first|refine blk_drewN ?_ _|refine blk_drew ?_|refine blk_alloc ?_ _)); exact BK154.out⟩, ⟨by repeat (first|(with_reducible first|exact HB.out|apply below_alloc|apply pw_below_drewN|apply below_drew1|refine below_set ?_ GE154.out)|exact HB.out)⟩⟩
             ·replace c43 := Bool.eq_false_iff.mpr c43
              subst c43
              have H1 : (some false) = some r := by rw [if_neg (show ¬ (false = true) by decide)] at H; exact H
              clear H
              have H := H1
              clear H1
              obtain rfl := Option.some.inj H
              try go_wp2
              have n0_ := Aside0.mk (blk_drew BK154.out)
              have n1_ := Aside0.mk (below_drew1 HB.out)
              clear BK154
              clear HB
              have BK154 := n0_
              have HB := n1_
              clear n0_ n1_
              have p158 : 0 ≤ (x5_2 : Int) := of_decide_eq_true (by first|(with_reducible assumption) | assumption)
              have q158 : x5_2 < (l0_4.length : Int) := of_decide_eq_true (by first|(with_reducible assumption) | assumption)
              obtain ⟨ad158, A158_4, c158_4, e158, hx158_0, hx158_1, hx158_2, hx158_3, hx158_4, hl158_4, hi158_4⟩ := at_T24 HR0_4.out x5_2 p158 q158
              have hw158_4 := hx158_4
              have hw158_3 := hx158_3
              have hw158_2 := hx158_2
              have hw158_1 := hx158_1
              have hw158_0 := hx158_0
              cases e158
              replace hx158_0 := (HB.out.cell (World.block_lt_of_cell? w _ hx158_0)).trans hx158_0
              replace hx158_1 := (HB.out.cell (World.block_lt_of_cell? w _ hx158_1)).trans hx158_1
              replace hx158_2 := (HB.out.cell (World.block_lt_of_cell? w _ hx158_2)).trans hx158_2
              replace hx158_3 := (HB.out.cell (World.block_lt_of_cell? w _ hx158_3)).trans hx158_3
              replace hx158_4 := (HB.out.cell (World.block_lt_of_cell? w _ hx158_4)).trans hx158_4
              have HR158_4 := Aside0.mk hi158_4
              have HC158_4 := Aside0.mk hl158_4
              clear hi158_4 hl158_4
              replace p158 := eq_true p158
              replace q158 := eq_true q158
              refine start_ (n := 14) (S := fun w' => w'.cell? ⟨gb154, 0, none⟩ = some (.int .i64 a0_0) ∧ w'.cell? ⟨gb154, 1, none⟩ = some (.string a0_1) ∧ w'.cell? ⟨gb154, 2, none⟩ = some (.int .i64 a0_2) ∧ w'.cell? ⟨gb154, 3, none⟩ = some (.int .i64 a0_3) ∧ w'.cell? ⟨gb154, 4, none⟩ = some (.slice (some ad158) l0_4.length c0_4) ∧ w'.cell? (ad158.add ((x5_2).toNat * 5)) = some (.int .i64 ((rd_T24 l0_4 x5_2).f0)) ∧ w'.cell? ⟨(ad158.add ((x5_2).toNat * 5)).block, (ad158.add ((x5_2).toNat * 5)).off + 1, none⟩ = some (.string ((rd_T24 l0_4 x5_2).f1)) ∧ w'.cell? ⟨(ad158.add ((x5_2).toNat * 5)).block, (ad158.add ((x5_2).toNat * 5)).off + 2, none⟩ = some (.int .i64 ((rd_T24 l0_4 x5_2).f2)) ∧ w'.cell? ⟨(ad158.add ((x5_2).toNat * 5)).block, (ad158.add ((x5_2).toNat * 5)).off + 3, none⟩ = some (.int .i64 ((rd_T24 l0_4 x5_2).f3)) ∧ w'.cell? ⟨(ad158.add ((x5_2).toNat * 5)).block, (ad158.add ((x5_2).toNat * 5)).off + 4, none⟩ = some (.slice A158_4 ((rd_T24 l0_4 x5_2).f4).length c158_4)) (ds := []) #[false, false, false, false, false, false, false, false, false, false, false, false, false, false] (by kernel_rfl) rfl rfl ⟨(blk_cell BK154.out 0).trans rfl, (blk_cell BK154.out 1).trans rfl, (blk_cell BK154.out 2).trans rfl, (blk_cell BK154.out 3).trans rfl, (blk_cell BK154.out 4).trans rfl, ((HB.out.cell (World.block_lt_of_cell? w _ hw158_0)).trans hw158_0), ((HB.out.cell (World.block_lt_of_cell? w _ hw158_1)).trans hw158_1), ((HB.out.cell (World.block_lt_of_cell? w _ hw158_2)).trans hw158_2), ((HB.out.cell (World.block_lt_of_cell? w _ hw158_3)).trans hw158_3), ((HB.out.cell (World.block_lt_of_cell? w _ hw158_4)).trans hw158_4)⟩ (fun hHeld => ?_); refine with_tabW gossamerref02_may.tab8 gossamerref02_may.bits8 (fun HT_ HW_ => ?_)
              generalize wc.drew = w46 at BK154 HB HR158_4 hx158_0 hx158_1 hx158_2 hx158_3 hx158_4 hHeld ⊢
              refine pure_ (i := 0) (N := some 51) (v := ?_) (a' := ?_) #[true, false, false, false, false, false, false, false, false, false, false, false, false, false] rfl rfl (any_of HT_.out (by kernel_rfl)) (fun _ _ _ h => h) (Or.inl ⟨by rfl, ?_⟩) ?_ ?_
              rotate_left
              ·intro w'
               go_simp
               with_reducible rfl
              rotate_left
              ·simp only [Act.put, List.setIfInBounds_toArray, List.set_cons_zero, List.set_cons_succ, i64_w, i32_w]
               rfl
              refine pure_ (i := 2) (N := some 53) (v := ?_) (a' := ?_) #[true, false, true, false, false, false, false, false, false, false, false, false, false, false] rfl rfl (any_of HT_.out (by kernel_rfl)) (fun _ _ _ h => h) (Or.inl ⟨by rfl, ?_⟩) ?_ ?_
              rotate_left
              ·intro w'
               go_simp
               with_reducible rfl
              rotate_left
              ·simp only [Act.put, List.setIfInBounds_toArray, List.set_cons_zero, List.set_cons_succ, i64_w, i32_w]
               rfl
              refine pure_ (i := 5) (N := some 56) (v := ?_) (a' := ?_) #[true, false, true, false, false, true, false, false, false, false, false, false, false, false] rfl rfl (any_of HT_.out (by kernel_rfl)) (fun _ _ _ h => h) (Or.inl ⟨by rfl, ?_⟩) ?_ ?_
              rotate_left
              ·intro w'
               go_simp
               with_reducible rfl
              rotate_left
              ·simp only [Act.put, List.setIfInBounds_toArray, List.set_cons_zero, List.set_cons_succ, i64_w, i32_w]
               rfl
              refine take_ (i := 1) (N := some 52) (v := ?_) (a' := ?_) #[true, true, true, false, false, true, false, false, false, false, false, false, false, false] rfl rfl (take_ofW HT_.out HW_.out (by kernel_rfl)) (fun _ _ _ h => h) (Or.inl ⟨by rfl, ?_⟩) hHeld ?_ ?_
              rotate_left
              ·rintro w' ⟨s0, s1, s2, s3, s4, s5, s6, s7, s8, s9⟩
               go_simp
               with_reducible rfl
              rotate_left
              ·simp only [Act.put, List.setIfInBounds_toArray, List.set_cons_zero, List.set_cons_succ, i64_w, i32_w]
               rfl
              refine pure_ (i := 3) (N := some 54) (v := ?_) (a' := ?_) #[true, true, true, true, false, true, false, false, false, false, false, false, false, false] rfl rfl (any_of HT_.out (by kernel_rfl)) (fun _ _ _ h => h) (Or.inl ⟨by rfl, ?_⟩) ?_ ?_
              rotate_left
              ·intro w'
               go_simp
               with_reducible rfl
              rotate_left
              ·simp only [Act.put, List.setIfInBounds_toArray, List.set_cons_zero, List.set_cons_succ, i64_w, i32_w]
               rfl
              refine take_ (i := 4) (N := some 55) (v := ?_) (a' := ?_) #[true, true, true, true, true, true, false, false, false, false, false, false, false, false] rfl rfl (take_ofW HT_.out HW_.out (by kernel_rfl)) (fun _ _ _ h => h) (Or.inl ⟨by rfl, ?_⟩) hHeld ?_ ?_
              rotate_left
              ·rintro w' ⟨s0, s1, s2, s3, s4, s5, s6, s7, s8, s9⟩
               go_simp
               with_reducible rfl
              rotate_left
              ·simp only [Act.put, List.setIfInBounds_toArray, List.set_cons_zero, List.set_cons_succ, i64_w, i32_w]
               rfl
              refine take_ (i := 6) (N := some 57) (v := ?_) (a' := ?_) #[true, true, true, true, true, true, true, false, false, false, false, false, false, false] rfl rfl (take_ofW HT_.out HW_.out (by kernel_rfl)) (fun _ _ _ h => h) (Or.inl ⟨by rfl, ?_⟩) hHeld ?_ ?_
              rotate_left
              ·rintro w' ⟨s0, s1, s2, s3, s4, s5, s6, s7, s8, s9⟩
               go_simp
               with_reducible rfl
              rotate_left
              ·simp only [Act.put, List.setIfInBounds_toArray, List.set_cons_zero, List.set_cons_succ, i64_w, i32_w]
               rfl
              refine pure_ (i := 7) (N := some 58) (v := ?_) (a' := ?_) #[true, true, true, true, true, true, true, true, false, false, false, false, false, false] rfl rfl (any_of HT_.out (by kernel_rfl)) (fun _ _ _ h => h) (Or.inl ⟨by rfl, ?_⟩) ?_ ?_
              rotate_left
              ·intro w'
               go_simp
               with_reducible rfl
              rotate_left
              ·simp only [Act.put, List.setIfInBounds_toArray, List.set_cons_zero, List.set_cons_succ, i64_w, i32_w]
               rfl
              refine pure_ (i := 8) (N := some 59) (v := ?_) (a' := ?_) #[true, true, true, true, true, true, true, true, true, false, false, false, false, false] rfl rfl (any_of HT_.out (by kernel_rfl)) (fun _ _ _ h => h) (Or.inl ⟨by rfl, ?_⟩) ?_ ?_
              rotate_left
              ·intro w'
               go_simp
               with_reducible rfl
              rotate_left
              ·simp only [Act.put, List.setIfInBounds_toArray, List.set_cons_zero, List.set_cons_succ, i64_w, i32_w]
               rfl
              refine pure_ (i := 9) (N := some 60) (v := undef) (a' := ?_) #[true, true, true, true, true, true, true, true, true, true, false, false, false, false] rfl rfl (any_of HT_.out (by kernel_rfl)) (fun _ _ _ h => h) (Or.inr ⟨by rfl, rfl⟩) ?_ ?_
              rotate_left
              ·simp only [Act.put, List.setIfInBounds_toArray, List.set_cons_zero, List.set_cons_succ, i64_w, i32_w]
               rfl
              refine pure_ (i := 10) (N := some 61) (v := undef) (a' := ?_) #[true, true, true, true, true, true, true, true, true, true, true, false, false, false] rfl rfl (any_of HT_.out (by kernel_rfl)) (fun _ _ _ h => h) (Or.inr ⟨by rfl, rfl⟩) ?_ ?_
              rotate_left
              ·simp only [Act.put, List.setIfInBounds_toArray, List.set_cons_zero, List.set_cons_succ, i64_w, i32_w]
               rfl
              refine pure_ (i := 11) (N := some 62) (v := ?_) (a' := ?_) #[true, true, true, true, true, true, true, true, true, true, true, true, false, false] rfl rfl (any_of HT_.out (by kernel_rfl)) (fun _ _ _ h => h) (Or.inl ⟨by rfl, ?_⟩) ?_ ?_
              rotate_left
              ·intro w'
               go_simp
               with_reducible rfl
              rotate_left
              ·simp only [Act.put, List.setIfInBounds_toArray, List.set_cons_zero, List.set_cons_succ, i64_w, i32_w]
               rfl
              refine one_ (i := 12) (N := some 63) #[true, true, true, true, true, true, true, true, true, true, true, true, true, false] rfl rfl (one_of HT_.out (by kernel_rfl)) (by decide) (fun K hK => ?_)
              refine goes_ Tryz.func19 (by kernel_rfl) rfl #[.agg #[.int .i64 ((rd_T24 l0_4 x5_2).f0), .string ((rd_T24 l0_4 x5_2).f1), .int .i64 ((rd_T24 l0_4 x5_2).f2), .int .i64 ((rd_T24 l0_4 x5_2).f3), .slice A158_4 ((rd_T24 l0_4 x5_2).f4).length c158_4], .bool false] (by rfl) rfl rfl (by (try simp only [List.map_toArray, List.map_cons, List.map_nil]); first|done|rfl|(simp only [List.length_drop, List.length_take]; rfl)) ?_
              with_reducible refine (ih kj23 (by have := HJ2.out; have := HK2.out; have := HJ23.out; omega) ((rd_T24 l0_4 x5_2).f0) ((rd_T24 l0_4 x5_2).f1) ((rd_T24 l0_4 x5_2).f2) ((rd_T24 l0_4 x5_2).f3) _ _ ((rd_T24 l0_4 x5_2).f4) false false _ ?side1 ?side2 A42.out).mono ?_
              (case side1 => repeat (first|exact (Kd.C_below HR158_4.out HB.out)|(with_reducible refine Kd.C_alloc ?_ _)|(with_reducible refine Kd.C_drewN ?_ _)|(with_reducible refine Kd.C_drew ?_)))
              (case side2 => exact HC158_4.out)
              rintro e w47 ⟨rfl, hb⟩
              refine ⟨_, rfl, ?_⟩
              have n0_ := Aside0.mk (blk_below (g := gb154) (o := .cells #[.int .i64 a0_0, .string a0_1, .int .i64 a0_2, .int .i64 a0_3, .slice (some ad158) l0_4.length c0_4] 24 (0, 0)) (by (with_reducible repeat (first|refine blk_drewN ?_ _|refine blk_drew ?_|refine blk_alloc ?_ _)); exact BK154.out) hb)
              have n1_ := Aside0.mk (below_step (by repeat (first|(with_reducible first|exact HB.out|apply below_alloc|apply pw_below_drewN|apply below_drew1|refine below_set ?_ GE154.out)|exact HB.out)) hb)
              clear BK154
              clear HB
              have BK154 := n0_
              have HB := n1_
              clear n0_ n1_
              (try clear hb)
              (try clear hb2)
              (try clear hk)
              (try clear hi)
              refine hK.out _ _ ⟨(blk_cell BK154.out 0).trans rfl, (blk_cell BK154.out 1).trans rfl, (blk_cell BK154.out 2).trans rfl, (blk_cell BK154.out 3).trans rfl, (blk_cell BK154.out 4).trans rfl, ((HB.out.cell (World.block_lt_of_cell? w _ hw158_0)).trans hw158_0), ((HB.out.cell (World.block_lt_of_cell? w _ hw158_1)).trans hw158_1), ((HB.out.cell (World.block_lt_of_cell? w _ hw158_2)).trans hw158_2), ((HB.out.cell (World.block_lt_of_cell? w _ hw158_3)).trans hw158_3), ((HB.out.cell (World.block_lt_of_cell? w _ hw158_4)).trans hw158_4)⟩ (fun hHeld => ?_)
              clear hK K
              refine norm_ (a' := ?_) ?_ ?_
              rotate_left
              ·show Act.put _ (some 63) _ = _
               simp only [Act.put, List.setIfInBounds_toArray, List.set_cons_zero, List.set_cons_succ, i64_w, i32_w]
               rfl
              refine pure_ (i := 13) (N := some 64) (v := ?_) (a' := ?_) #[true, true, true, true, true, true, true, true, true, true, true, true, true, true] rfl rfl (any_of HT_.out (by kernel_rfl)) (fun _ _ _ h => h) (Or.inl ⟨by rfl, ?_⟩) ?_ ?_
              rotate_left
              ·intro w'
               go_simp
               with_reducible rfl
              rotate_left
              ·simp only [Act.put, List.setIfInBounds_toArray, List.set_cons_zero, List.set_cons_succ, i64_w, i32_w]
               rfl
              refine done_ (done_of HT_.out (by kernel_rfl)) ?_
              try go_wp2
              go_ret
              exact ⟨by first|rfl|(simp [errW_none, errW_some] <;> rfl)|(simp [*, errW_none, errW_some] <;> rfl), by repeat (first|(with_reducible first|exact HB.out|apply below_alloc|apply pw_below_drewN|apply below_drew1|refine below_set ?_ GE154.out)|exact HB.out)⟩
           ·rw [if_neg c34] at H
            exact absurd H (by simp)
          ·rw [if_neg c33] at H
           exact absurd H (by simp)
      ·rw [if_neg c23] at H
       have c23b0 : decide (x5_2 < (l0_4.length : Int)) = false := decide_eq_false c23
       clear c23
       obtain rfl := Option.some.inj H
       have hcz48_0 : wr.cell? ⟨gb154, 0, none⟩ = some (.int .i64 a0_0) := (blk_cell BK154.out 0).trans rfl
       have hcz48_1 : wr.cell? ⟨gb154, 1, none⟩ = some (.string a0_1) := (blk_cell BK154.out 1).trans rfl
       have hcz48_2 : wr.cell? ⟨gb154, 2, none⟩ = some (.int .i64 a0_2) := (blk_cell BK154.out 2).trans rfl
       have hcz48_3 : wr.cell? ⟨gb154, 3, none⟩ = some (.int .i64 a0_3) := (blk_cell BK154.out 3).trans rfl
       have hcz48_4 : wr.cell? ⟨gb154, 4, none⟩ = some (.slice A0_4 l0_4.length c0_4) := (blk_cell BK154.out 4).trans rfl
       have hfz48_0 := blk_frozen BK154.out 0
       have hfz48_1 := blk_frozen BK154.out 1
       have hfz48_2 := blk_frozen BK154.out 2
       have hfz48_3 := blk_frozen BK154.out 3
       have hfz48_4 := blk_frozen BK154.out 4
       go_wp2
       go_ret
       exact ⟨by first|rfl|(simp [errW_none, errW_some] <;> rfl)|(simp [*, errW_none, errW_some] <;> rfl), by repeat (first|(with_reducible first|exact HB.out|apply below_alloc|apply pw_below_drewN|apply below_drew1|refine below_set ?_ GE154.out)|exact HB.out)⟩

end Go.Proofs.YthdkjfhpbigdpaaGreatDoor.Q

namespace Go.Proofs.YthdkjfhpbigdpaaGreatDoor.Q
open Go.RowKit Go.Proofs.YthdkjfhpbigdpaaGreatDoorW.PrintWords Go.Proofs.YthdkjfhpbigdpaaGreatDoorW.PrintLast Go.Proofs.YthdkjfhpbigdpaaGreatDoorW.PrintMore
attribute [local go_sem] max2_int min2_int max_two min_two max_three min_three max_four min_four
set_option linter.unusedVariables false
set_option linter.unusedSimpArgs false

def gossamerref02_May.f (k : Nat) (a0_0 : Int) (a0_1 : ByteArray) (a0_2 : Int) (a0_3 : Int) (l0_4 : List (S24)) : Option (Bool) := (gossamerref02_may.f k a0_0 a0_1 a0_2 a0_3 l0_4 false).bind fun t162 => (some t162)
theorem gossamerref02_May.mono : ∀ a0 a1 a2 a3 a4 k, LeO (gossamerref02_May.f k a0 a1 a2 a3 a4) (gossamerref02_May.f (k + 1) a0 a1 a2 a3 a4) := by
 intro a0 a1 a2 a3 a4 k
 unfold gossamerref02_May.f
 repeat' first
  |(with_reducible exact gossamerref02_may.mono _ _ _ _ _ _ _)
  |(with_reducible exact LeO.refl _)
  |(with_reducible exact LeO.none _)
  |(with_reducible refine LeO.ite ?_ ?_)
  |(with_reducible refine LeO.bind ?_ (fun _ => ?_))
  |exact gossamerref02_may.mono _ _ _ _ _ _ _
  |exact LeO.none _
  |refine LeO.ite ?_ ?_
  |refine LeO.bind ?_ (fun _ => ?_)
set_option maxHeartbeats 8000000 in
set_option maxRecDepth 100000 in
theorem gossamerref02_May.calls (k : Nat) (a0_0 : Int) (a0_1 : ByteArray) (a0_2 : Int) (a0_3 : Int) (A0_4 : Option Addr) (c0_4 : Nat) (l0_4 : List (S24)) (r : Bool) (w : World) (hr0_4 : Kd.C k24 w A0_4 l0_4.length l0_4) (hc0_4 : l0_4.length ≤ c0_4) (h : gossamerref02_May.f k a0_0 a0_1 a0_2 a0_3 l0_4 = some r) :
  Calls Tryz.prog 7 #[.agg #[.int .i64 a0_0, .string a0_1, .int .i64 a0_2, .int .i64 a0_3, .slice A0_4 l0_4.length c0_4]] w fun e w' => e = .returned (.bool r) ∧ Below w.heap.size w w' := by
 have hu24 := Tryz.underlying24
 have HR0_4 := Aside0.mk hr0_4
 have HC0_4 := Aside0.mk hc0_4
 clear hr0_4 hc0_4
 have HB := Aside0.mk (Below.refl w.heap.size w)
 have H : ((gossamerref02_may.f k a0_0 a0_1 a0_2 a0_3 l0_4 false).bind fun t162 => (some t162)) = some r := h
 clear h
 replace H := Option.bind_eq_some_iff.mp H
 obtain ⟨t162, A20, H⟩ := H
 replace H : (some t162) = some r := H
 have A2 := Aside0.mk A20
 clear A20
 obtain rfl := Option.some.inj H
 go_enter Tryz.func7, Tryz.ntmps7
 go_wp2_with (first|((with_reducible refine gate_dst (N := 1) rfl ?_); refine box_event ?hg (N := 1) ?hd (cs := #[.int .i64 a0_0, .string a0_1, .int .i64 a0_2, .int .i64 a0_3, .slice A0_4 l0_4.length c0_4]) (t := 24) ?hr ?_; (case hd => rfl); (case hg => rfl); (case hr => first|(go_simp; done)|(go_simp; rfl)); intro gb161 hg w3 hbox hb; have n0_ := Aside0.mk (below_step (by repeat (first|(with_reducible first|exact HB.out|apply below_alloc|apply pw_below_drewN|apply below_drew1)|exact HB.out)) hb); have n1_ := Aside0.mk (hbox); have n2_ := Aside0.mk ((by rw [hg]; exact (below_size (by repeat (first|(with_reducible first|exact HB.out|apply below_alloc|apply pw_below_drewN|apply below_drew1)|exact HB.out))) : w.heap.size ≤ gb161)); have n3_ := Aside0.mk ((by rw [hg]; exact (below_size (by repeat (first|(with_reducible first|exact HB.out|apply below_alloc|apply pw_below_drewN|apply below_drew1)|exact HB.out))) : w.heap.size ≤ gb161)); clear HB; have HB := n0_; have BK161 := n1_; have GW161 := n2_; have GE161 := n3_; clear n0_ n1_ n2_ n3_; clear hb hbox hg; have hcz4_0 : w3.cell? ⟨gb161, 0, none⟩ = some (.int .i64 a0_0) := (blk_cell BK161.out 0).trans rfl; have hcz4_1 : w3.cell? ⟨gb161, 1, none⟩ = some (.string a0_1) := (blk_cell BK161.out 1).trans rfl; have hcz4_2 : w3.cell? ⟨gb161, 2, none⟩ = some (.int .i64 a0_2) := (blk_cell BK161.out 2).trans rfl; have hcz4_3 : w3.cell? ⟨gb161, 3, none⟩ = some (.int .i64 a0_3) := (blk_cell BK161.out 3).trans rfl; have hcz4_4 : w3.cell? ⟨gb161, 4, none⟩ = some (.slice A0_4 l0_4.length c0_4) := (blk_cell BK161.out 4).trans rfl; have hfz4_0 := blk_frozen BK161.out 0; have hfz4_1 := blk_frozen BK161.out 1; have hfz4_2 := blk_frozen BK161.out 2; have hfz4_3 := blk_frozen BK161.out 3; have hfz4_4 := blk_frozen BK161.out 4) | ((with_reducible refine gate_callee (f := 19) rfl ?_); refine goesL_ (some 4) rfl rfl Tryz.func19 (by kernel_rfl) rfl #[.agg #[.int .i64 a0_0, .string a0_1, .int .i64 a0_2, .int .i64 a0_3, .slice A0_4 l0_4.length c0_4], .bool false] rfl (by (try simp only [List.map_toArray, List.map_cons, List.map_nil]); first|done|rfl|(simp only [List.length_drop, List.length_take]; rfl)) ?_; (with_reducible refine (gossamerref02_may.calls k a0_0 a0_1 a0_2 a0_3 _ _ l0_4 false t162 _ ?side1 ?side2 A2.out).mono ?_); (case side1 => repeat (first|exact (Kd.C_below HR0_4.out HB.out)|(with_reducible refine Kd.C_alloc ?_ _)|(with_reducible refine Kd.C_drewN ?_ _)|(with_reducible refine Kd.C_drew ?_))); (case side2 => exact HC0_4.out); rintro e w5 ⟨rfl, hb⟩; refine ⟨_, rfl, ?_⟩; have n0_ := Aside0.mk (blk_below (g := gb161) (o := .cells #[.int .i64 a0_0, .string a0_1, .int .i64 a0_2, .int .i64 a0_3, .slice A0_4 l0_4.length c0_4] 24 (0, 0)) (by (with_reducible repeat (first|refine blk_drewN ?_ _|refine blk_drew ?_|refine blk_alloc ?_ _)); exact BK161.out) hb); have n1_ := Aside0.mk (below_step (by repeat (first|(with_reducible first|exact HB.out|apply below_alloc|apply pw_below_drewN|apply below_drew1|refine below_set ?_ GE161.out)|exact HB.out)) hb); clear BK161; clear HB; have BK161 := n0_; have HB := n1_; clear n0_ n1_; (try clear hb); (try clear hb2); (try clear hk); (try clear hi)))
 go_ret
 exact ⟨by first|rfl|(simp [errW_none, errW_some] <;> rfl)|(simp [*, errW_none, errW_some] <;> rfl), by repeat (first|(with_reducible first|exact HB.out|apply below_alloc|apply pw_below_drewN|apply below_drew1|refine below_set ?_ GE161.out)|exact HB.out)⟩

end Go.Proofs.YthdkjfhpbigdpaaGreatDoor.Q

namespace Go.Proofs.YthdkjfhpbigdpaaGreatDoor.Q
open Go.RowKit Go.Proofs.YthdkjfhpbigdpaaGreatDoorW.PrintWords Go.Proofs.YthdkjfhpbigdpaaGreatDoorW.PrintLast Go.Proofs.YthdkjfhpbigdpaaGreatDoorW.PrintMore
attribute [local go_sem] max2_int min2_int max_two min_two max_three min_three max_four min_four
set_option linter.unusedVariables false
set_option linter.unusedSimpArgs false

mutual
def gossamerref02_One.j0 : Nat → Bool → Int → ByteArray → Int → Int → List (S24) → Int → ByteArray → Int → Int → List (S24) → Option (Bool)
 | 0, _, _, _, _, _, _, _, _, _, _, _ => none
 | k + 1, x40, x170000, x170001, x170002, x170003, x170004, x171000, x171001, x171002, x171003, x171004 => if x40 = true then (some false) else (gossamerref02_One.l0 k 0 x170000 x170001 x170002 x170003 x170004 x171000 x171001 x171002 x171003 x171004)
def gossamerref02_One.l0 : Nat → Int → Int → ByteArray → Int → Int → List (S24) → Int → ByteArray → Int → Int → List (S24) → Option (Bool)
 | 0, _, _, _, _, _, _, _, _, _, _, _ => none
 | k + 1, x5, x170000, x170001, x170002, x170003, x170004, x171000, x171001, x171002, x171003, x171004 => if x5 < (x170004.length : Int) then (if 0 ≤ x5 then (if x5 < (x171004.length : Int) then ((gossamerref02_One.f k ((rd_T24 x170004 x5).f0) ((rd_T24 x170004 x5).f1) ((rd_T24 x170004 x5).f2) ((rd_T24 x170004 x5).f3) ((rd_T24 x170004 x5).f4) ((rd_T24 x171004 x5).f0) ((rd_T24 x171004 x5).f1) ((rd_T24 x171004 x5).f2) ((rd_T24 x171004 x5).f3) ((rd_T24 x171004 x5).f4)).bind fun t173 => (if t173 = true then (gossamerref02_One.l0 k (wrap64 (x5 + 1)) x170000 x170001 x170002 x170003 x170004 x171000 x171001 x171002 x171003 x171004) else (some false))) else (none)) else (none)) else (some true)
def gossamerref02_One.f : Nat → Int → ByteArray → Int → Int → List (S24) → Int → ByteArray → Int → Int → List (S24) → Option (Bool)
 | 0, _, _, _, _, _, _, _, _, _, _ => none
 | k + 1, a0_0, a0_1, a0_2, a0_3, l0_4, a1_0, a1_1, a1_2, a1_3, l1_4 => if a0_0 = a1_0 then (if a0_1.toList = a1_1.toList then (if a0_2 = a1_2 then (if a0_3 = a1_3 then (gossamerref02_One.j0 k ((l0_4.length : Int) != (l1_4.length : Int)) a0_0 a0_1 a0_2 a0_3 l0_4 a1_0 a1_1 a1_2 a1_3 l1_4) else (gossamerref02_One.j0 k true a0_0 a0_1 a0_2 a0_3 l0_4 a1_0 a1_1 a1_2 a1_3 l1_4)) else (gossamerref02_One.j0 k true a0_0 a0_1 a0_2 a0_3 l0_4 a1_0 a1_1 a1_2 a1_3 l1_4)) else (gossamerref02_One.j0 k true a0_0 a0_1 a0_2 a0_3 l0_4 a1_0 a1_1 a1_2 a1_3 l1_4)) else (gossamerref02_One.j0 k true a0_0 a0_1 a0_2 a0_3 l0_4 a1_0 a1_1 a1_2 a1_3 l1_4)
end
theorem gossamerref02_One.mono_l : ∀ k, (∀ y0 y1 y2 y3 y4 y5 y6 y7 y8 y9, LeO (gossamerref02_One.f k y0 y1 y2 y3 y4 y5 y6 y7 y8 y9) (gossamerref02_One.f (k + 1) y0 y1 y2 y3 y4 y5 y6 y7 y8 y9)) ∧ (∀ y0 y1 y2 y3 y4 y5 y6 y7 y8 y9 y10, LeO (gossamerref02_One.j0 k y0 y1 y2 y3 y4 y5 y6 y7 y8 y9 y10) (gossamerref02_One.j0 (k + 1) y0 y1 y2 y3 y4 y5 y6 y7 y8 y9 y10)) ∧ (∀ y0 y1 y2 y3 y4 y5 y6 y7 y8 y9 y10, LeO (gossamerref02_One.l0 k y0 y1 y2 y3 y4 y5 y6 y7 y8 y9 y10) (gossamerref02_One.l0 (k + 1) y0 y1 y2 y3 y4 y5 y6 y7 y8 y9 y10))
 | 0 => ⟨fun _ _ _ _ _ _ _ _ _ _ r h => by simp [gossamerref02_One.f] at h, fun _ _ _ _ _ _ _ _ _ _ _ r h => by simp [gossamerref02_One.j0] at h, fun _ _ _ _ _ _ _ _ _ _ _ r h => by simp [gossamerref02_One.l0] at h⟩
 | k + 1 => by
  obtain ⟨ih0, ih1, ih2⟩ := gossamerref02_One.mono_l k
  refine ⟨?_, ?_, ?_⟩
  ·intro y0 y1 y2 y3 y4 y5 y6 y7 y8 y9
   unfold gossamerref02_One.f
   repeat' first
  |(with_reducible exact ih0 _ _ _ _ _ _ _ _ _ _)
  |(with_reducible exact ih1 _ _ _ _ _ _ _ _ _ _ _)
  |(with_reducible exact ih2 _ _ _ _ _ _ _ _ _ _ _)
  |(with_reducible exact LeO.refl _)
  |(with_reducible exact LeO.none _)
  |(with_reducible refine LeO.ite ?_ ?_)
  |(with_reducible refine LeO.bind ?_ (fun _ => ?_))
  |exact ih0 _ _ _ _ _ _ _ _ _ _
  |exact ih1 _ _ _ _ _ _ _ _ _ _ _
  |exact ih2 _ _ _ _ _ _ _ _ _ _ _
  |exact LeO.none _
  |refine LeO.ite ?_ ?_
  |refine LeO.bind ?_ (fun _ => ?_)
  ·intro y0 y1 y2 y3 y4 y5 y6 y7 y8 y9 y10
   unfold gossamerref02_One.j0
   repeat' first
  |(with_reducible exact ih0 _ _ _ _ _ _ _ _ _ _)
  |(with_reducible exact ih1 _ _ _ _ _ _ _ _ _ _ _)
  |(with_reducible exact ih2 _ _ _ _ _ _ _ _ _ _ _)
  |(with_reducible exact LeO.refl _)
  |(with_reducible exact LeO.none _)
  |(with_reducible refine LeO.ite ?_ ?_)
  |(with_reducible refine LeO.bind ?_ (fun _ => ?_))
  |exact ih0 _ _ _ _ _ _ _ _ _ _
  |exact ih1 _ _ _ _ _ _ _ _ _ _ _
  |exact ih2 _ _ _ _ _ _ _ _ _ _ _
  |exact LeO.none _
  |refine LeO.ite ?_ ?_
  |refine LeO.bind ?_ (fun _ => ?_)
  ·intro y0 y1 y2 y3 y4 y5 y6 y7 y8 y9 y10
   unfold gossamerref02_One.l0
   repeat' first
  |(with_reducible exact ih0 _ _ _ _ _ _ _ _ _ _)
  |(with_reducible exact ih1 _ _ _ _ _ _ _ _ _ _ _)
  |(with_reducible exact ih2 _ _ _ _ _ _ _ _ _ _ _)
  |(with_reducible exact LeO.refl _)
  |(with_reducible exact LeO.none _)
  |(with_reducible refine LeO.ite ?_ ?_)
  |(with_reducible refine LeO.bind ?_ (fun _ => ?_))
  |exact ih0 _ _ _ _ _ _ _ _ _ _
  |exact ih1 _ _ _ _ _ _ _ _ _ _ _
  |exact ih2 _ _ _ _ _ _ _ _ _ _ _
  |exact LeO.none _
  |refine LeO.ite ?_ ?_
  |refine LeO.bind ?_ (fun _ => ?_)
theorem gossamerref02_One.mono : ∀ a0 a1 a2 a3 a4 a5 a6 a7 a8 a9 k, LeO (gossamerref02_One.f k a0 a1 a2 a3 a4 a5 a6 a7 a8 a9) (gossamerref02_One.f (k + 1) a0 a1 a2 a3 a4 a5 a6 a7 a8 a9) := by
 intro a0 a1 a2 a3 a4 a5 a6 a7 a8 a9 k
 obtain ⟨ih0, ih1, ih2⟩ := gossamerref02_One.mono_l k
 exact ih0 a0 a1 a2 a3 a4 a5 a6 a7 a8 a9
def gossamerref02_One.T6 : Bool × List (List Nat × List Nat) := (true, [([], []), ([0], [0]), ([], []), ([1, 2], [1, 2]), ([3], [3]), ([], []), ([5], [5]), ([], []), ([6, 7], [6, 7]), ([8], [8]), ([4, 9], [4, 9]), ([10], [10])])
def gossamerref02_One.B6 : List Nat := [0, 1, 0, 7, 15, 0, 32, 0, 224, 480, 1023, 2047]
theorem gossamerref02_One.tab6 : rtab .any (opsOf Tryz.f12 6) = gossamerref02_One.T6 := by kernel_rfl
theorem gossamerref02_One.bits6 : waitsOk gossamerref02_One.T6.2 gossamerref02_One.B6 = true := by kernel_rfl
set_option maxHeartbeats 8000000 in
set_option maxRecDepth 100000 in
theorem gossamerref02_One.calls (k : Nat) : ∀ (a0_0 : Int) (a0_1 : ByteArray) (a0_2 : Int) (a0_3 : Int) (A0_4 : Option Addr) (c0_4 : Nat) (l0_4 : List (S24)) (a1_0 : Int) (a1_1 : ByteArray) (a1_2 : Int) (a1_3 : Int) (A1_4 : Option Addr) (c1_4 : Nat) (l1_4 : List (S24)) (r : Bool) (w : World) (hr0_4 : Kd.C k24 w A0_4 l0_4.length l0_4) (hc0_4 : l0_4.length ≤ c0_4) (hr1_4 : Kd.C k24 w A1_4 l1_4.length l1_4) (hc1_4 : l1_4.length ≤ c1_4) (h : gossamerref02_One.f k a0_0 a0_1 a0_2 a0_3 l0_4 a1_0 a1_1 a1_2 a1_3 l1_4 = some r),
  Calls Tryz.prog 12 #[.agg #[.int .i64 a0_0, .string a0_1, .int .i64 a0_2, .int .i64 a0_3, .slice A0_4 l0_4.length c0_4], .agg #[.int .i64 a1_0, .string a1_1, .int .i64 a1_2, .int .i64 a1_3, .slice A1_4 l1_4.length c1_4]] w fun e w' => e = .returned (.bool r) ∧ Below w.heap.size w w' := by
 induction k using Nat.strongRecOn with
 | _ k ih =>
 intro a0_0 a0_1 a0_2 a0_3 A0_4 c0_4 l0_4 a1_0 a1_1 a1_2 a1_3 A1_4 c1_4 l1_4 r w hr0_4 hc0_4 hr1_4 hc1_4 h
 cases k with
 | zero => exact absurd h (by simp [gossamerref02_One.f])
 | succ k =>
 simp only [gossamerref02_One.f] at h
 have hu24 := Tryz.underlying24
 have HR0_4 := Aside0.mk hr0_4
 have HC0_4 := Aside0.mk hc0_4
 clear hr0_4 hc0_4
 have HR1_4 := Aside0.mk hr1_4
 have HC1_4 := Aside0.mk hc1_4
 clear hr1_4 hc1_4
 have HB := Aside0.mk (Below.refl w.heap.size w)
 have H : (if a0_0 = a1_0 then (if a0_1.toList = a1_1.toList then (if a0_2 = a1_2 then (if a0_3 = a1_3 then (gossamerref02_One.j0 k ((l0_4.length : Int) != (l1_4.length : Int)) a0_0 a0_1 a0_2 a0_3 l0_4 a1_0 a1_1 a1_2 a1_3 l1_4) else (gossamerref02_One.j0 k true a0_0 a0_1 a0_2 a0_3 l0_4 a1_0 a1_1 a1_2 a1_3 l1_4)) else (gossamerref02_One.j0 k true a0_0 a0_1 a0_2 a0_3 l0_4 a1_0 a1_1 a1_2 a1_3 l1_4)) else (gossamerref02_One.j0 k true a0_0 a0_1 a0_2 a0_3 l0_4 a1_0 a1_1 a1_2 a1_3 l1_4)) else (gossamerref02_One.j0 k true a0_0 a0_1 a0_2 a0_3 l0_4 a1_0 a1_1 a1_2 a1_3 l1_4)) = some r := h
 clear h
 have HC3 := Aside0.mk H
 clear H
 go_enter Tryz.func12, Tryz.ntmps12
 go_upto_region 1 with (first|((with_reducible refine gate_dst (N := 2) rfl ?_); (try (refine gate_guard (by rfl) ?_; dsimp only)); refine box_event ?hg (N := 2) ?hd (cs := #[.int .i64 a0_0, .string a0_1, .int .i64 a0_2, .int .i64 a0_3, .slice A0_4 l0_4.length c0_4]) (t := 24) ?hr ?_; (case hd => rfl); (case hg => rfl); (case hr => first|(go_simp; done)|(go_simp; rfl)); intro gb169 hg w4 hbox hb; have n0_ := Aside0.mk (below_step (by repeat (first|(with_reducible first|exact HB.out|apply below_alloc|apply pw_below_drewN|apply below_drew1)|exact HB.out)) hb); have n1_ := Aside0.mk (hbox); have n2_ := Aside0.mk ((by rw [hg]; exact (below_size (by repeat (first|(with_reducible first|exact HB.out|apply below_alloc|apply pw_below_drewN|apply below_drew1)|exact HB.out))) : w.heap.size ≤ gb169)); have n3_ := Aside0.mk ((by rw [hg]; exact (below_size (by repeat (first|(with_reducible first|exact HB.out|apply below_alloc|apply pw_below_drewN|apply below_drew1)|exact HB.out))) : w.heap.size ≤ gb169)); clear HB; have HB := n0_; have BK169 := n1_; have GW169 := n2_; have GE169 := n3_; clear n0_ n1_ n2_ n3_; clear hb hbox hg) | ((with_reducible refine gate_dst (N := 3) rfl ?_); (try (refine gate_guard (by rfl) ?_; dsimp only)); refine box_event ?hg (N := 3) ?hd (cs := #[.int .i64 a1_0, .string a1_1, .int .i64 a1_2, .int .i64 a1_3, .slice A1_4 l1_4.length c1_4]) (t := 24) ?hr ?_; (case hd => rfl); (case hg => rfl); (case hr => first|(go_simp; done)|(go_simp; rfl)); intro gb170 hg w5 hbox hb; have n0_ := Aside0.mk (blk_below (g := gb169) (o := .cells #[.int .i64 a0_0, .string a0_1, .int .i64 a0_2, .int .i64 a0_3, .slice A0_4 l0_4.length c0_4] 24 (0, 0)) (by (with_reducible repeat (first|refine blk_drewN ?_ _|refine blk_drew ?_|refine blk_alloc ?_ _)); exact BK169.out) hb); have n1_ := Aside0.mk (below_step (by repeat (first|(with_reducible first|exact HB.out|apply below_alloc|apply pw_below_drewN|apply below_drew1|refine below_set ?_ GE169.out)|exact HB.out)) hb); have n2_ := Aside0.mk (hbox); have n3_ := Aside0.mk ((by rw [hg]; exact (below_size (by repeat (first|(with_reducible first|exact HB.out|apply below_alloc|apply pw_below_drewN|apply below_drew1|refine below_set ?_ GE169.out)|exact HB.out))) : w.heap.size ≤ gb170)); have n4_ := Aside0.mk ((by rw [hg]; exact (below_size (by repeat (first|(with_reducible first|exact HB.out|apply below_alloc|apply pw_below_drewN|apply below_drew1|refine below_set ?_ GE169.out)|exact HB.out))) : w.heap.size ≤ gb170)); have n5_ := Aside0.mk ((by rw [hg]; exact Nat.ne_of_lt (blk_lt (g := gb169) (o := .cells #[.int .i64 a0_0, .string a0_1, .int .i64 a0_2, .int .i64 a0_3, .slice A0_4 l0_4.length c0_4] 24 (0, 0)) (by (with_reducible repeat (first|refine blk_drewN ?_ _|refine blk_drew ?_|refine blk_alloc ?_ _)); exact BK169.out)) : gb169 ≠ gb170)); have n6_ := Aside0.mk ((by rw [hg]; exact Nat.ne_of_gt (blk_lt (g := gb169) (o := .cells #[.int .i64 a0_0, .string a0_1, .int .i64 a0_2, .int .i64 a0_3, .slice A0_4 l0_4.length c0_4] 24 (0, 0)) (by (with_reducible repeat (first|refine blk_drewN ?_ _|refine blk_drew ?_|refine blk_alloc ?_ _)); exact BK169.out)) : gb170 ≠ gb169)); clear BK169; clear HB; have BK169 := n0_; have HB := n1_; have BK170 := n2_; have GW170 := n3_; have GE170 := n4_; have NB169_170 := n5_; have NB170_169 := n6_; clear n0_ n1_ n2_ n3_ n4_ n5_ n6_; clear hb hbox hg))
 (try simp only [Act.put, List.setIfInBounds_toArray, List.set_cons_zero, List.set_cons_succ])
 go_cut [40] (fun v40 wc => ∃ (kq : Nat) (x40_2 : Bool), v40 = .bool x40_2 ∧ Aside0 (gossamerref02_One.j0 kq x40_2 a0_0 a0_1 a0_2 a0_3 l0_4 a1_0 a1_1 a1_2 a1_3 l1_4 = some r) ∧ Aside0 (kq ≤ k) ∧ Aside0 (wc.heap[gb169]? = some (.cells #[.int .i64 a0_0, .string a0_1, .int .i64 a0_2, .int .i64 a0_3, (.slice A0_4 l0_4.length c0_4)] 24 (0, 0))) ∧ Aside0 (wc.heap[gb170]? = some (.cells #[.int .i64 a1_0, .string a1_1, .int .i64 a1_2, .int .i64 a1_3, (.slice A1_4 l1_4.length c1_4)] 24 (0, 0))) ∧ Aside0 (Below w.heap.size w wc))
 case first =>
  have H := HC3.out
  clear HC3
  by_cases c6 : a0_0 = a1_0
  ·rw [if_pos c6] at H
   have c6b0 : (a0_0 == a1_0) = true := beq_iff_eq.mpr c6
   have c6b1 : (a0_0 != a1_0) = false := bne_eq_false_iff_eq.mpr c6
   clear c6
   (first|rw [c6b0]|(simp only [i64_w, i32_w]; rw [c6b0]) | skip)
   by_cases c7 : a0_1.toList = a1_1.toList
   ·rw [if_pos c7] at H
    have c7b0 : (a0_1.toList == a1_1.toList) = true := beq_iff_eq.mpr c7
    have c7b1 : (a0_1.toList != a1_1.toList) = false := bne_eq_false_iff_eq.mpr c7
    clear c7
    by_cases c8 : a0_2 = a1_2
    ·rw [if_pos c8] at H
     have c8b0 : (a0_2 == a1_2) = true := beq_iff_eq.mpr c8
     have c8b1 : (a0_2 != a1_2) = false := bne_eq_false_iff_eq.mpr c8
     clear c8
     by_cases c9 : a0_3 = a1_3
     ·rw [if_pos c9] at H
      have c9b0 : (a0_3 == a1_3) = true := beq_iff_eq.mpr c9
      have c9b1 : (a0_3 != a1_3) = false := bne_eq_false_iff_eq.mpr c9
      clear c9
      have H' := Aside0.mk H
      clear H
      have hnb10 := NB169_170.out
      have hnc10 := NB170_169.out
      have hcz11_0 : w5.cell? ⟨gb169, 0, none⟩ = some (.int .i64 a0_0) := (blk_cell BK169.out 0).trans rfl
      have hcz11_1 : w5.cell? ⟨gb169, 1, none⟩ = some (.string a0_1) := (blk_cell BK169.out 1).trans rfl
      have hcz11_2 : w5.cell? ⟨gb169, 2, none⟩ = some (.int .i64 a0_2) := (blk_cell BK169.out 2).trans rfl
      have hcz11_3 : w5.cell? ⟨gb169, 3, none⟩ = some (.int .i64 a0_3) := (blk_cell BK169.out 3).trans rfl
      have hcz11_4 : w5.cell? ⟨gb169, 4, none⟩ = some (.slice A0_4 l0_4.length c0_4) := (blk_cell BK169.out 4).trans rfl
      have hfz11_0 := blk_frozen BK169.out 0
      have hfz11_1 := blk_frozen BK169.out 1
      have hfz11_2 := blk_frozen BK169.out 2
      have hfz11_3 := blk_frozen BK169.out 3
      have hfz11_4 := blk_frozen BK169.out 4
      have hcz12_0 : w5.cell? ⟨gb170, 0, none⟩ = some (.int .i64 a1_0) := (blk_cell BK170.out 0).trans rfl
      have hcz12_1 : w5.cell? ⟨gb170, 1, none⟩ = some (.string a1_1) := (blk_cell BK170.out 1).trans rfl
      have hcz12_2 : w5.cell? ⟨gb170, 2, none⟩ = some (.int .i64 a1_2) := (blk_cell BK170.out 2).trans rfl
      have hcz12_3 : w5.cell? ⟨gb170, 3, none⟩ = some (.int .i64 a1_3) := (blk_cell BK170.out 3).trans rfl
      have hcz12_4 : w5.cell? ⟨gb170, 4, none⟩ = some (.slice A1_4 l1_4.length c1_4) := (blk_cell BK170.out 4).trans rfl
      have hfz12_0 := blk_frozen BK170.out 0
      have hfz12_1 := blk_frozen BK170.out 1
      have hfz12_2 := blk_frozen BK170.out 2
      have hfz12_3 := blk_frozen BK170.out 3
      have hfz12_4 := blk_frozen BK170.out 4
      go_wp2
      go_meet
      case rel => exact ⟨_, (((l0_4.length : Int) != (l1_4.length : Int))), (by first|rfl|(simp; done)|(simp [*]; done)), H', ⟨by first | omega|exact Nat.le_refl _⟩, ⟨by (with_reducible repeat (first|refine blk_drewN ?_ _|refine blk_drew ?_|refine blk_alloc ?_ _)); exact BK169.out⟩, ⟨by (with_reducible repeat (first|refine blk_drewN ?_ _|refine blk_drew ?_|refine blk_alloc ?_ _)); exact BK170.out⟩, ⟨by repeat (first|(with_reducible first|exact HB.out|apply below_alloc|apply pw_below_drewN|apply below_drew1|refine below_set ?_ GE169.out|refine below_set ?_ GE170.out)|exact HB.out)⟩⟩
     ·rw [if_neg c9] at H
      have c9b0 : (a0_3 == a1_3) = false := beq_eq_false_iff_ne.mpr c9
      have c9b1 : (a0_3 != a1_3) = true := bne_iff_ne.mpr c9
      have H' := Aside0.mk H
      clear H
      have hnb13 := NB169_170.out
      have hnc13 := NB170_169.out
      have hcz14_0 : w5.cell? ⟨gb169, 0, none⟩ = some (.int .i64 a0_0) := (blk_cell BK169.out 0).trans rfl
      have hcz14_1 : w5.cell? ⟨gb169, 1, none⟩ = some (.string a0_1) := (blk_cell BK169.out 1).trans rfl
      have hcz14_2 : w5.cell? ⟨gb169, 2, none⟩ = some (.int .i64 a0_2) := (blk_cell BK169.out 2).trans rfl
      have hcz14_3 : w5.cell? ⟨gb169, 3, none⟩ = some (.int .i64 a0_3) := (blk_cell BK169.out 3).trans rfl
      have hcz14_4 : w5.cell? ⟨gb169, 4, none⟩ = some (.slice A0_4 l0_4.length c0_4) := (blk_cell BK169.out 4).trans rfl
      have hfz14_0 := blk_frozen BK169.out 0
      have hfz14_1 := blk_frozen BK169.out 1
      have hfz14_2 := blk_frozen BK169.out 2
      have hfz14_3 := blk_frozen BK169.out 3
      have hfz14_4 := blk_frozen BK169.out 4
      have hcz15_0 : w5.cell? ⟨gb170, 0, none⟩ = some (.int .i64 a1_0) := (blk_cell BK170.out 0).trans rfl
      have hcz15_1 : w5.cell? ⟨gb170, 1, none⟩ = some (.string a1_1) := (blk_cell BK170.out 1).trans rfl
      have hcz15_2 : w5.cell? ⟨gb170, 2, none⟩ = some (.int .i64 a1_2) := (blk_cell BK170.out 2).trans rfl
      have hcz15_3 : w5.cell? ⟨gb170, 3, none⟩ = some (.int .i64 a1_3) := (blk_cell BK170.out 3).trans rfl
      have hcz15_4 : w5.cell? ⟨gb170, 4, none⟩ = some (.slice A1_4 l1_4.length c1_4) := (blk_cell BK170.out 4).trans rfl
      have hfz15_0 := blk_frozen BK170.out 0
      have hfz15_1 := blk_frozen BK170.out 1
      have hfz15_2 := blk_frozen BK170.out 2
      have hfz15_3 := blk_frozen BK170.out 3
      have hfz15_4 := blk_frozen BK170.out 4
      go_wp2
      go_meet
      case rel => exact ⟨_, (true), (by first|rfl|(simp; done)|(simp [*]; done)), H', ⟨by first | omega|exact Nat.le_refl _⟩, ⟨by (with_reducible repeat (first|refine blk_drewN ?_ _|refine blk_drew ?_|refine blk_alloc ?_ _)); exact BK169.out⟩, ⟨by (with_reducible repeat (first|refine blk_drewN ?_ _|refine blk_drew ?_|refine blk_alloc ?_ _)); exact BK170.out⟩, ⟨by repeat (first|(with_reducible first|exact HB.out|apply below_alloc|apply pw_below_drewN|apply below_drew1|refine below_set ?_ GE169.out|refine below_set ?_ GE170.out)|exact HB.out)⟩⟩
    ·rw [if_neg c8] at H
     have c8b0 : (a0_2 == a1_2) = false := beq_eq_false_iff_ne.mpr c8
     have c8b1 : (a0_2 != a1_2) = true := bne_iff_ne.mpr c8
     have H' := Aside0.mk H
     clear H
     have hnb16 := NB169_170.out
     have hnc16 := NB170_169.out
     have hcz17_0 : w5.cell? ⟨gb169, 0, none⟩ = some (.int .i64 a0_0) := (blk_cell BK169.out 0).trans rfl
     have hcz17_1 : w5.cell? ⟨gb169, 1, none⟩ = some (.string a0_1) := (blk_cell BK169.out 1).trans rfl
     have hcz17_2 : w5.cell? ⟨gb169, 2, none⟩ = some (.int .i64 a0_2) := (blk_cell BK169.out 2).trans rfl
     have hcz17_3 : w5.cell? ⟨gb169, 3, none⟩ = some (.int .i64 a0_3) := (blk_cell BK169.out 3).trans rfl
     have hcz17_4 : w5.cell? ⟨gb169, 4, none⟩ = some (.slice A0_4 l0_4.length c0_4) := (blk_cell BK169.out 4).trans rfl
     have hfz17_0 := blk_frozen BK169.out 0
     have hfz17_1 := blk_frozen BK169.out 1
     have hfz17_2 := blk_frozen BK169.out 2
     have hfz17_3 := blk_frozen BK169.out 3
     have hfz17_4 := blk_frozen BK169.out 4
     have hcz18_0 : w5.cell? ⟨gb170, 0, none⟩ = some (.int .i64 a1_0) := (blk_cell BK170.out 0).trans rfl
     have hcz18_1 : w5.cell? ⟨gb170, 1, none⟩ = some (.string a1_1) := (blk_cell BK170.out 1).trans rfl
     have hcz18_2 : w5.cell? ⟨gb170, 2, none⟩ = some (.int .i64 a1_2) := (blk_cell BK170.out 2).trans rfl
     have hcz18_3 : w5.cell? ⟨gb170, 3, none⟩ = some (.int .i64 a1_3) := (blk_cell BK170.out 3).trans rfl
     have hcz18_4 : w5.cell? ⟨gb170, 4, none⟩ = some (.slice A1_4 l1_4.length c1_4) := (blk_cell BK170.out 4).trans rfl
     have hfz18_0 := blk_frozen BK170.out 0
     have hfz18_1 := blk_frozen BK170.out 1
     have hfz18_2 := blk_frozen BK170.out 2
     have hfz18_3 := blk_frozen BK170.out 3
     have hfz18_4 := blk_frozen BK170.out 4
     go_wp2
     go_meet
     case rel => exact ⟨_, (true), (by first|rfl|(simp; done)|(simp [*]; done)), H', ⟨by first | omega|exact Nat.le_refl _⟩, ⟨by (with_reducible repeat (first|refine blk_drewN ?_ _|refine blk_drew ?_|refine blk_alloc ?_ _)); exact BK169.out⟩, ⟨by (with_reducible repeat (first|refine blk_drewN ?_ _|refine blk_drew ?_|refine blk_alloc ?_ _)); exact BK170.out⟩, ⟨by repeat (first|(with_reducible first|exact HB.out|apply below_alloc|apply pw_below_drewN|apply below_drew1|refine below_set ?_ GE169.out|refine below_set ?_ GE170.out)|exact HB.out)⟩⟩
   ·rw [if_neg c7] at H
    have c7b0 : (a0_1.toList == a1_1.toList) = false := beq_eq_false_iff_ne.mpr c7
    have c7b1 : (a0_1.toList != a1_1.toList) = true := bne_iff_ne.mpr c7
    have H' := Aside0.mk H
    clear H
    have hnb19 := NB169_170.out
    have hnc19 := NB170_169.out
    have hcz20_0 : w5.cell? ⟨gb169, 0, none⟩ = some (.int .i64 a0_0) := (blk_cell BK169.out 0).trans rfl
    have hcz20_1 : w5.cell? ⟨gb169, 1, none⟩ = some (.string a0_1) := (blk_cell BK169.out 1).trans rfl
    have hcz20_2 : w5.cell? ⟨gb169, 2, none⟩ = some (.int .i64 a0_2) := (blk_cell BK169.out 2).trans rfl
    have hcz20_3 : w5.cell? ⟨gb169, 3, none⟩ = some (.int .i64 a0_3) := (blk_cell BK169.out 3).trans rfl
    have hcz20_4 : w5.cell? ⟨gb169, 4, none⟩ = some (.slice A0_4 l0_4.length c0_4) := (blk_cell BK169.out 4).trans rfl
    have hfz20_0 := blk_frozen BK169.out 0
    have hfz20_1 := blk_frozen BK169.out 1
    have hfz20_2 := blk_frozen BK169.out 2
    have hfz20_3 := blk_frozen BK169.out 3
    have hfz20_4 := blk_frozen BK169.out 4
    have hcz21_0 : w5.cell? ⟨gb170, 0, none⟩ = some (.int .i64 a1_0) := (blk_cell BK170.out 0).trans rfl
    have hcz21_1 : w5.cell? ⟨gb170, 1, none⟩ = some (.string a1_1) := (blk_cell BK170.out 1).trans rfl
    have hcz21_2 : w5.cell? ⟨gb170, 2, none⟩ = some (.int .i64 a1_2) := (blk_cell BK170.out 2).trans rfl
    have hcz21_3 : w5.cell? ⟨gb170, 3, none⟩ = some (.int .i64 a1_3) := (blk_cell BK170.out 3).trans rfl
    have hcz21_4 : w5.cell? ⟨gb170, 4, none⟩ = some (.slice A1_4 l1_4.length c1_4) := (blk_cell BK170.out 4).trans rfl
    have hfz21_0 := blk_frozen BK170.out 0
    have hfz21_1 := blk_frozen BK170.out 1
    have hfz21_2 := blk_frozen BK170.out 2
    have hfz21_3 := blk_frozen BK170.out 3
    have hfz21_4 := blk_frozen BK170.out 4
    go_wp2
    go_meet
    case rel => exact ⟨_, (true), (by first|rfl|(simp; done)|(simp [*]; done)), H', ⟨by first | omega|exact Nat.le_refl _⟩, ⟨by (with_reducible repeat (first|refine blk_drewN ?_ _|refine blk_drew ?_|refine blk_alloc ?_ _)); exact BK169.out⟩, ⟨by (with_reducible repeat (first|refine blk_drewN ?_ _|refine blk_drew ?_|refine blk_alloc ?_ _)); exact BK170.out⟩, ⟨by repeat (first|(with_reducible first|exact HB.out|apply below_alloc|apply pw_below_drewN|apply below_drew1|refine below_set ?_ GE169.out|refine below_set ?_ GE170.out)|exact HB.out)⟩⟩
  ·rw [if_neg c6] at H
   have c6b0 : (a0_0 == a1_0) = false := beq_eq_false_iff_ne.mpr c6
   have c6b1 : (a0_0 != a1_0) = true := bne_iff_ne.mpr c6
   (first|rw [c6b0]|(simp only [i64_w, i32_w]; rw [c6b0]) | skip)
   have H' := Aside0.mk H
   clear H
   have hnb22 := NB169_170.out
   have hnc22 := NB170_169.out
   have hcz23_0 : w5.cell? ⟨gb169, 0, none⟩ = some (.int .i64 a0_0) := (blk_cell BK169.out 0).trans rfl
   have hcz23_1 : w5.cell? ⟨gb169, 1, none⟩ = some (.string a0_1) := (blk_cell BK169.out 1).trans rfl
   have hcz23_2 : w5.cell? ⟨gb169, 2, none⟩ = some (.int .i64 a0_2) := (blk_cell BK169.out 2).trans rfl
   have hcz23_3 : w5.cell? ⟨gb169, 3, none⟩ = some (.int .i64 a0_3) := (blk_cell BK169.out 3).trans rfl
   have hcz23_4 : w5.cell? ⟨gb169, 4, none⟩ = some (.slice A0_4 l0_4.length c0_4) := (blk_cell BK169.out 4).trans rfl
   have hfz23_0 := blk_frozen BK169.out 0
   have hfz23_1 := blk_frozen BK169.out 1
   have hfz23_2 := blk_frozen BK169.out 2
   have hfz23_3 := blk_frozen BK169.out 3
   have hfz23_4 := blk_frozen BK169.out 4
   have hcz24_0 : w5.cell? ⟨gb170, 0, none⟩ = some (.int .i64 a1_0) := (blk_cell BK170.out 0).trans rfl
   have hcz24_1 : w5.cell? ⟨gb170, 1, none⟩ = some (.string a1_1) := (blk_cell BK170.out 1).trans rfl
   have hcz24_2 : w5.cell? ⟨gb170, 2, none⟩ = some (.int .i64 a1_2) := (blk_cell BK170.out 2).trans rfl
   have hcz24_3 : w5.cell? ⟨gb170, 3, none⟩ = some (.int .i64 a1_3) := (blk_cell BK170.out 3).trans rfl
   have hcz24_4 : w5.cell? ⟨gb170, 4, none⟩ = some (.slice A1_4 l1_4.length c1_4) := (blk_cell BK170.out 4).trans rfl
   have hfz24_0 := blk_frozen BK170.out 0
   have hfz24_1 := blk_frozen BK170.out 1
   have hfz24_2 := blk_frozen BK170.out 2
   have hfz24_3 := blk_frozen BK170.out 3
   have hfz24_4 := blk_frozen BK170.out 4
   go_wp2
   go_meet
   case rel => exact ⟨_, (true), (by first|rfl|(simp; done)|(simp [*]; done)), H', ⟨by first | omega|exact Nat.le_refl _⟩, ⟨by (with_reducible repeat (first|refine blk_drewN ?_ _|refine blk_drew ?_|refine blk_alloc ?_ _)); exact BK169.out⟩, ⟨by (with_reducible repeat (first|refine blk_drewN ?_ _|refine blk_drew ?_|refine blk_alloc ?_ _)); exact BK170.out⟩, ⟨by repeat (first|(with_reducible first|exact HB.out|apply below_alloc|apply pw_below_drewN|apply below_drew1|refine below_set ?_ GE169.out|refine below_set ?_ GE170.out)|exact HB.out)⟩⟩
 case rest =>
  clear HC3
  try clear c1
  try clear c2
  try clear p2
  try clear c6
  try clear c6b0
  try clear c6b1
  try clear c7
  try clear c7b0
  try clear c7b1
  try clear c8
  try clear c8b0
  try clear c8b1
  try clear c9
  try clear c9b0
  try clear c9b1
  try clear c10
  try clear c12
  try clear c13
  try clear c16
  try clear c19
  try clear c22
  try clear hcz11_0
  try clear hcz11_1
  try clear hcz11_2
  try clear hcz11_3
  try clear hcz11_4
  try clear hcz12_0
  try clear hcz12_1
  try clear hcz12_2
  try clear hcz12_3
  try clear hcz12_4
  try clear hcz14_0
  try clear hcz14_1
  try clear hcz14_2
  try clear hcz14_3
  try clear hcz14_4
  try clear hcz15_0
  try clear hcz15_1
  try clear hcz15_2
  try clear hcz15_3
  try clear hcz15_4
  try clear hcz17_0
  try clear hcz17_1
  try clear hcz17_2
  try clear hcz17_3
  try clear hcz17_4
  try clear hcz18_0
  try clear hcz18_1
  try clear hcz18_2
  try clear hcz18_3
  try clear hcz18_4
  try clear hcz20_0
  try clear hcz20_1
  try clear hcz20_2
  try clear hcz20_3
  try clear hcz20_4
  try clear hcz21_0
  try clear hcz21_1
  try clear hcz21_2
  try clear hcz21_3
  try clear hcz21_4
  try clear hcz23_0
  try clear hcz23_1
  try clear hcz23_2
  try clear hcz23_3
  try clear hcz23_4
  try clear hcz24_0
  try clear hcz24_1
  try clear hcz24_2
  try clear hcz24_3
  try clear hcz24_4
  try clear hfz11_0
  try clear hfz11_1
  try clear hfz11_2
  try clear hfz11_3
  try clear hfz11_4
  try clear hfz12_0
  try clear hfz12_1
  try clear hfz12_2
  try clear hfz12_3
  try clear hfz12_4
  try clear hfz14_0
  try clear hfz14_1
  try clear hfz14_2
  try clear hfz14_3
  try clear hfz14_4
  try clear hfz15_0
  try clear hfz15_1
  try clear hfz15_2
  try clear hfz15_3
  try clear hfz15_4
  try clear hfz17_0
  try clear hfz17_1
  try clear hfz17_2
  try clear hfz17_3
  try clear hfz17_4
  try clear hfz18_0
  try clear hfz18_1
  try clear hfz18_2
  try clear hfz18_3
  try clear hfz18_4
  try clear hfz20_0
  try clear hfz20_1
  try clear hfz20_2
  try clear hfz20_3
  try clear hfz20_4
  try clear hfz21_0
  try clear hfz21_1
  try clear hfz21_2
  try clear hfz21_3
  try clear hfz21_4
  try clear hfz23_0
  try clear hfz23_1
  try clear hfz23_2
  try clear hfz23_3
  try clear hfz23_4
  try clear hfz24_0
  try clear hfz24_1
  try clear hfz24_2
  try clear hfz24_3
  try clear hfz24_4
  obtain ⟨kq, x40_2, rfl, HA, HJ2, BK169, BK170, HB⟩ := hcut
  cases kq with
  | zero => exact absurd HA.out (by simp [gossamerref02_One.j0])
  | succ kj2 =>
   have H := HA.out
   clear HA
   simp only [gossamerref02_One.j0] at H
   by_cases c25 : x40_2 = true
   ·subst c25
    have H1 : (some false) = some r := by rw [if_pos rfl] at H; exact H
    clear H
    have H := H1
    clear H1
    obtain rfl := Option.some.inj H
    go_wp2
    go_ret
    exact ⟨by first|rfl|(simp [errW_none, errW_some] <;> rfl)|(simp [*, errW_none, errW_some] <;> rfl), by repeat (first|(with_reducible first|exact HB.out|apply below_alloc|apply pw_below_drewN|apply below_drew1|refine below_set ?_ GE169.out|refine below_set ?_ GE170.out)|exact HB.out)⟩
   ·replace c25 := Bool.eq_false_iff.mpr c25
    subst c25
    have H1 : (gossamerref02_One.l0 kj2 0 a0_0 a0_1 a0_2 a0_3 l0_4 a1_0 a1_1 a1_2 a1_3 l1_4) = some r := by rw [if_neg (show ¬ (false = true) by decide)] at H; exact H
    clear H
    have H := H1
    clear H1
    have H' := Aside0.mk H
    clear H
    go_wp2
    go_loopg [5] kj2 (fun kq v5 w' => ∃ (x5_2 : Int), v5 = .int .i64 x5_2 ∧ Aside0 (gossamerref02_One.l0 kq x5_2 a0_0 a0_1 a0_2 a0_3 l0_4 a1_0 a1_1 a1_2 a1_3 l1_4 = some r) ∧ Aside0 (kq ≤ kj2) ∧ Aside0 (w'.heap[gb169]? = some (.cells #[.int .i64 a0_0, .string a0_1, .int .i64 a0_2, .int .i64 a0_3, (.slice A0_4 l0_4.length c0_4)] 24 (0, 0))) ∧ Aside0 (w'.heap[gb170]? = some (.cells #[.int .i64 a1_0, .string a1_1, .int .i64 a1_2, .int .i64 a1_3, (.slice A1_4 l1_4.length c1_4)] 24 (0, 0))) ∧ Aside0 (Below w.heap.size w w'))
    case atStart => exact ⟨(0), (by first|rfl|(simp; done)|(simp [*]; done)), H', ⟨Nat.le_refl _⟩, ⟨by (with_reducible repeat (first|refine blk_drewN ?_ _|refine blk_drew ?_|refine blk_alloc ?_ _)); exact BK169.out⟩, ⟨by (with_reducible repeat (first|refine blk_drewN ?_ _|refine blk_drew ?_|refine blk_alloc ?_ _)); exact BK170.out⟩, ⟨by repeat (first|(with_reducible first|exact HB.out|apply below_alloc|apply pw_below_drewN|apply below_drew1|refine below_set ?_ GE169.out|refine below_set ?_ GE170.out)|exact HB.out)⟩⟩
    case round =>
     clear H'
     try clear c1
     try clear c2
     try clear p2
     try clear c6
     try clear c6b0
     try clear c6b1
     try clear c7
     try clear c7b0
     try clear c7b1
     try clear c8
     try clear c8b0
     try clear c8b1
     try clear c9
     try clear c9b0
     try clear c9b1
     try clear c10
     try clear c12
     try clear c13
     try clear c16
     try clear c19
     try clear c22
     try clear c25
     try clear hcz11_0
     try clear hcz11_1
     try clear hcz11_2
     try clear hcz11_3
     try clear hcz11_4
     try clear hcz12_0
     try clear hcz12_1
     try clear hcz12_2
     try clear hcz12_3
     try clear hcz12_4
     try clear hcz14_0
     try clear hcz14_1
     try clear hcz14_2
     try clear hcz14_3
     try clear hcz14_4
     try clear hcz15_0
     try clear hcz15_1
     try clear hcz15_2
     try clear hcz15_3
     try clear hcz15_4
     try clear hcz17_0
     try clear hcz17_1
     try clear hcz17_2
     try clear hcz17_3
     try clear hcz17_4
     try clear hcz18_0
     try clear hcz18_1
     try clear hcz18_2
     try clear hcz18_3
     try clear hcz18_4
     try clear hcz20_0
     try clear hcz20_1
     try clear hcz20_2
     try clear hcz20_3
     try clear hcz20_4
     try clear hcz21_0
     try clear hcz21_1
     try clear hcz21_2
     try clear hcz21_3
     try clear hcz21_4
     try clear hcz23_0
     try clear hcz23_1
     try clear hcz23_2
     try clear hcz23_3
     try clear hcz23_4
     try clear hcz24_0
     try clear hcz24_1
     try clear hcz24_2
     try clear hcz24_3
     try clear hcz24_4
     try clear hfz11_0
     try clear hfz11_1
     try clear hfz11_2
     try clear hfz11_3
     try clear hfz11_4
     try clear hfz12_0
     try clear hfz12_1
     try clear hfz12_2
     try clear hfz12_3
     try clear hfz12_4
     try clear hfz14_0
     try clear hfz14_1
     try clear hfz14_2
     try clear hfz14_3
     try clear hfz14_4
     try clear hfz15_0
     try clear hfz15_1
     try clear hfz15_2
     try clear hfz15_3
     try clear hfz15_4
     try clear hfz17_0
     try clear hfz17_1
     try clear hfz17_2
     try clear hfz17_3
     try clear hfz17_4
     try clear hfz18_0
     try clear hfz18_1
     try clear hfz18_2
     try clear hfz18_3
     try clear hfz18_4
     try clear hfz20_0
     try clear hfz20_1
     try clear hfz20_2
     try clear hfz20_3
     try clear hfz20_4
     try clear hfz21_0
     try clear hfz21_1
     try clear hfz21_2
     try clear hfz21_3
     try clear hfz21_4
     try clear hfz23_0
     try clear hfz23_1
     try clear hfz23_2
     try clear hfz23_3
     try clear hfz23_4
     try clear hfz24_0
     try clear hfz24_1
     try clear hfz24_2
     try clear hfz24_3
     try clear hfz24_4
     try clear p2
     obtain ⟨x5_2, rfl, HA, HK2, BK169, BK170, HB⟩ := hrel
     cases gk with
     | zero => exact absurd HA.out (by simp [gossamerref02_One.l0])
     | succ k2 =>
      have H := HA.out
      clear HA
      simp only [gossamerref02_One.l0] at H
      by_cases c26 : x5_2 < (l0_4.length : Int)
      ·rw [if_pos c26] at H
       have c26b0 : decide (x5_2 < (l0_4.length : Int)) = true := decide_eq_true c26
       clear c26
       by_cases c27 : 0 ≤ x5_2
       ·rw [if_pos c27] at H
        have c27b0 : decide (0 ≤ x5_2) = true := decide_eq_true c27
        clear c27
        by_cases c28 : x5_2 < (l1_4.length : Int)
        ·rw [if_pos c28] at H
         have c28b0 : decide (x5_2 < (l1_4.length : Int)) = true := decide_eq_true c28
         clear c28
         replace H := Option.bind_eq_some_iff.mp H
         obtain ⟨t173, A290, H⟩ := H
         replace H : (if t173 = true then (gossamerref02_One.l0 k2 (wrap64 (x5_2 + 1)) a0_0 a0_1 a0_2 a0_3 l0_4 a1_0 a1_1 a1_2 a1_3 l1_4) else (some false)) = some r := H
         have A29 := Aside0.mk A290
         clear A290
         by_cases c30 : t173 = true
         ·subst c30
          have H1 : (gossamerref02_One.l0 k2 (wrap64 (x5_2 + 1)) a0_0 a0_1 a0_2 a0_3 l0_4 a1_0 a1_1 a1_2 a1_3 l1_4) = some r := by rw [if_pos rfl] at H; exact H
          clear H
          have H := H1
          clear H1
          have H' := Aside0.mk H
          clear H
          have hnb31 := NB169_170.out
          have hnc31 := NB170_169.out
          have hcz32_0 : wr.cell? ⟨gb169, 0, none⟩ = some (.int .i64 a0_0) := (blk_cell BK169.out 0).trans rfl
          have hcz32_1 : wr.cell? ⟨gb169, 1, none⟩ = some (.string a0_1) := (blk_cell BK169.out 1).trans rfl
          have hcz32_2 : wr.cell? ⟨gb169, 2, none⟩ = some (.int .i64 a0_2) := (blk_cell BK169.out 2).trans rfl
          have hcz32_3 : wr.cell? ⟨gb169, 3, none⟩ = some (.int .i64 a0_3) := (blk_cell BK169.out 3).trans rfl
          have hcz32_4 : wr.cell? ⟨gb169, 4, none⟩ = some (.slice A0_4 l0_4.length c0_4) := (blk_cell BK169.out 4).trans rfl
          have hfz32_0 := blk_frozen BK169.out 0
          have hfz32_1 := blk_frozen BK169.out 1
          have hfz32_2 := blk_frozen BK169.out 2
          have hfz32_3 := blk_frozen BK169.out 3
          have hfz32_4 := blk_frozen BK169.out 4
          try go_wp2
          have n0_ := Aside0.mk (blk_drew BK169.out)
          have n1_ := Aside0.mk (blk_drew BK170.out)
          have n2_ := Aside0.mk (below_drew1 HB.out)
          clear BK169
          clear BK170
          clear HB
          have BK169 := n0_
          have BK170 := n1_
          have HB := n2_
          clear n0_ n1_ n2_
          have p171 : 0 ≤ (x5_2 : Int) := of_decide_eq_true (by first|(with_reducible assumption) | assumption)
          have q171 : x5_2 < (l0_4.length : Int) := of_decide_eq_true (by first|(with_reducible assumption) | assumption)
          obtain ⟨ad171, A171_4, c171_4, e171, hx171_0, hx171_1, hx171_2, hx171_3, hx171_4, hl171_4, hi171_4⟩ := at_T24 HR0_4.out x5_2 p171 q171
          have hw171_4 := hx171_4
          have hw171_3 := hx171_3
          have hw171_2 := hx171_2
          have hw171_1 := hx171_1
          have hw171_0 := hx171_0
          cases e171
          replace hx171_0 := (HB.out.cell (World.block_lt_of_cell? w _ hx171_0)).trans hx171_0
          replace hx171_1 := (HB.out.cell (World.block_lt_of_cell? w _ hx171_1)).trans hx171_1
          replace hx171_2 := (HB.out.cell (World.block_lt_of_cell? w _ hx171_2)).trans hx171_2
          replace hx171_3 := (HB.out.cell (World.block_lt_of_cell? w _ hx171_3)).trans hx171_3
          replace hx171_4 := (HB.out.cell (World.block_lt_of_cell? w _ hx171_4)).trans hx171_4
          have HR171_4 := Aside0.mk hi171_4
          have HC171_4 := Aside0.mk hl171_4
          clear hi171_4 hl171_4
          replace p171 := eq_true p171
          replace q171 := eq_true q171
          have p172 : 0 ≤ (x5_2 : Int) := of_decide_eq_true (by first|(with_reducible assumption) | assumption)
          have q172 : x5_2 < (l1_4.length : Int) := of_decide_eq_true (by first|(with_reducible assumption) | assumption)
          obtain ⟨ad172, A172_4, c172_4, e172, hx172_0, hx172_1, hx172_2, hx172_3, hx172_4, hl172_4, hi172_4⟩ := at_T24 HR1_4.out x5_2 p172 q172
          have hw172_4 := hx172_4
          have hw172_3 := hx172_3
          have hw172_2 := hx172_2
          have hw172_1 := hx172_1
          have hw172_0 := hx172_0
          cases e172
          replace hx172_0 := (HB.out.cell (World.block_lt_of_cell? w _ hx172_0)).trans hx172_0
          replace hx172_1 := (HB.out.cell (World.block_lt_of_cell? w _ hx172_1)).trans hx172_1
          replace hx172_2 := (HB.out.cell (World.block_lt_of_cell? w _ hx172_2)).trans hx172_2
          replace hx172_3 := (HB.out.cell (World.block_lt_of_cell? w _ hx172_3)).trans hx172_3
          replace hx172_4 := (HB.out.cell (World.block_lt_of_cell? w _ hx172_4)).trans hx172_4
          have HR172_4 := Aside0.mk hi172_4
          have HC172_4 := Aside0.mk hl172_4
          clear hi172_4 hl172_4
          replace p172 := eq_true p172
          replace q172 := eq_true q172
          refine start_ (n := 12) (S := fun w' => w'.cell? ⟨gb169, 0, none⟩ = some (.int .i64 a0_0) ∧ w'.cell? ⟨gb169, 1, none⟩ = some (.string a0_1) ∧ w'.cell? ⟨gb169, 2, none⟩ = some (.int .i64 a0_2) ∧ w'.cell? ⟨gb169, 3, none⟩ = some (.int .i64 a0_3) ∧ w'.cell? ⟨gb169, 4, none⟩ = some (.slice (some ad171) l0_4.length c0_4) ∧ w'.cell? ⟨gb170, 0, none⟩ = some (.int .i64 a1_0) ∧ w'.cell? ⟨gb170, 1, none⟩ = some (.string a1_1) ∧ w'.cell? ⟨gb170, 2, none⟩ = some (.int .i64 a1_2) ∧ w'.cell? ⟨gb170, 3, none⟩ = some (.int .i64 a1_3) ∧ w'.cell? ⟨gb170, 4, none⟩ = some (.slice (some ad172) l1_4.length c1_4) ∧ w'.cell? (ad171.add ((x5_2).toNat * 5)) = some (.int .i64 ((rd_T24 l0_4 x5_2).f0)) ∧ w'.cell? ⟨(ad171.add ((x5_2).toNat * 5)).block, (ad171.add ((x5_2).toNat * 5)).off + 1, none⟩ = some (.string ((rd_T24 l0_4 x5_2).f1)) ∧ w'.cell? ⟨(ad171.add ((x5_2).toNat * 5)).block, (ad171.add ((x5_2).toNat * 5)).off + 2, none⟩ = some (.int .i64 ((rd_T24 l0_4 x5_2).f2)) ∧ w'.cell? ⟨(ad171.add ((x5_2).toNat * 5)).block, (ad171.add ((x5_2).toNat * 5)).off + 3, none⟩ = some (.int .i64 ((rd_T24 l0_4 x5_2).f3)) ∧ w'.cell? ⟨(ad171.add ((x5_2).toNat * 5)).block, (ad171.add ((x5_2).toNat * 5)).off + 4, none⟩ = some (.slice A171_4 ((rd_T24 l0_4 x5_2).f4).length c171_4) ∧ w'.cell? (ad172.add ((x5_2).toNat * 5)) = some (.int .i64 ((rd_T24 l1_4 x5_2).f0)) ∧ w'.cell? ⟨(ad172.add ((x5_2).toNat * 5)).block, (ad172.add ((x5_2).toNat * 5)).off + 1, none⟩ = some (.string ((rd_T24 l1_4 x5_2).f1)) ∧ w'.cell? ⟨(ad172.add ((x5_2).toNat * 5)).block, (ad172.add ((x5_2).toNat * 5)).off + 2, none⟩ = some (.int .i64 ((rd_T24 l1_4 x5_2).f2)) ∧ w'.cell? ⟨(ad172.add ((x5_2).toNat * 5)).block, (ad172.add ((x5_2).toNat * 5)).off + 3, none⟩ = some (.int .i64 ((rd_T24 l1_4 x5_2).f3)) ∧ w'.cell? ⟨(ad172.add ((x5_2).toNat * 5)).block, (ad172.add ((x5_2).toNat * 5)).off + 4, none⟩ = some (.slice A172_4 ((rd_T24 l1_4 x5_2).f4).length c172_4)) (ds := []) #[false, false, false, false, false, false, false, false, false, false, false, false] (by kernel_rfl) rfl rfl ⟨(blk_cell BK169.out 0).trans rfl, (blk_cell BK169.out 1).trans rfl, (blk_cell BK169.out 2).trans rfl, (blk_cell BK169.out 3).trans rfl, (blk_cell BK169.out 4).trans rfl, (blk_cell BK170.out 0).trans rfl, (blk_cell BK170.out 1).trans rfl, (blk_cell BK170.out 2).trans rfl, (blk_cell BK170.out 3).trans rfl, (blk_cell BK170.out 4).trans rfl, ((HB.out.cell (World.block_lt_of_cell? w _ hw171_0)).trans hw171_0), ((HB.out.cell (World.block_lt_of_cell? w _ hw171_1)).trans hw171_1), ((HB.out.cell (World.block_lt_of_cell? w _ hw171_2)).trans hw171_2), ((HB.out.cell (World.block_lt_of_cell? w _ hw171_3)).trans hw171_3), ((HB.out.cell (World.block_lt_of_cell? w _ hw171_4)).trans hw171_4), ((HB.out.cell (World.block_lt_of_cell? w _ hw172_0)).trans hw172_0), ((HB.out.cell (World.block_lt_of_cell? w _ hw172_1)).trans hw172_1), ((HB.out.cell (World.block_lt_of_cell? w _ hw172_2)).trans hw172_2), ((HB.out.cell (World.block_lt_of_cell? w _ hw172_3)).trans hw172_3), ((HB.out.cell (World.block_lt_of_cell? w _ hw172_4)).trans hw172_4)⟩ (fun hHeld => ?_); refine with_tabW gossamerref02_One.tab6 gossamerref02_One.bits6 (fun HT_ HW_ => ?_)
          generalize wr.drew = w33 at BK169 BK170 HB HR171_4 HR172_4 hx171_0 hx171_1 hx171_2 hx171_3 hx171_4 hx172_0 hx172_1 hx172_2 hx172_3 hx172_4 hHeld ⊢
          refine pure_ (i := 0) (N := some 48) (v := ?_) (a' := ?_) #[true, false, false, false, false, false, false, false, false, false, false, false] rfl rfl (any_of HT_.out (by kernel_rfl)) (fun _ _ _ h => h) (Or.inl ⟨by rfl, ?_⟩) ?_ ?_
          rotate_left
          ·intro w'
           go_simp
           with_reducible rfl
          rotate_left
          ·simp only [Act.put, List.setIfInBounds_toArray, List.set_cons_zero, List.set_cons_succ, i64_w, i32_w]
           rfl
          refine pure_ (i := 2) (N := some 50) (v := ?_) (a' := ?_) #[true, false, true, false, false, false, false, false, false, false, false, false] rfl rfl (any_of HT_.out (by kernel_rfl)) (fun _ _ _ h => h) (Or.inl ⟨by rfl, ?_⟩) ?_ ?_
          rotate_left
          ·intro w'
           go_simp
           with_reducible rfl
          rotate_left
          ·simp only [Act.put, List.setIfInBounds_toArray, List.set_cons_zero, List.set_cons_succ, i64_w, i32_w]
           rfl
          refine pure_ (i := 5) (N := some 53) (v := ?_) (a' := ?_) #[true, false, true, false, false, true, false, false, false, false, false, false] rfl rfl (any_of HT_.out (by kernel_rfl)) (fun _ _ _ h => h) (Or.inl ⟨by rfl, ?_⟩) ?_ ?_
          rotate_left
          ·intro w'
           go_simp
           with_reducible rfl
          rotate_left
          ·simp only [Act.put, List.setIfInBounds_toArray, List.set_cons_zero, List.set_cons_succ, i64_w, i32_w]
           rfl
          refine pure_ (i := 7) (N := some 55) (v := ?_) (a' := ?_) #[true, false, true, false, false, true, false, true, false, false, false, false] rfl rfl (any_of HT_.out (by kernel_rfl)) (fun _ _ _ h => h) (Or.inl ⟨by rfl, ?_⟩) ?_ ?_
          rotate_left
          ·intro w'
           go_simp
           with_reducible rfl
          rotate_left
          ·simp only [Act.put, List.setIfInBounds_toArray, List.set_cons_zero, List.set_cons_succ, i64_w, i32_w]
           rfl
          refine take_ (i := 1) (N := some 49) (v := ?_) (a' := ?_) #[true, true, true, false, false, true, false, true, false, false, false, false] rfl rfl (take_ofW HT_.out HW_.out (by kernel_rfl)) (fun _ _ _ h => h) (Or.inl ⟨by rfl, ?_⟩) hHeld ?_ ?_
          rotate_left
          ·rintro w' ⟨s0, s1, s2, s3, s4, s5, s6, s7, s8, s9, s10, s11, s12, s13, s14, s15, s16, s17, s18, s19⟩
           go_simp
           with_reducible rfl
          rotate_left
          ·simp only [Act.put, List.setIfInBounds_toArray, List.set_cons_zero, List.set_cons_succ, i64_w, i32_w]
           rfl
          refine pure_ (i := 3) (N := some 51) (v := ?_) (a' := ?_) #[true, true, true, true, false, true, false, true, false, false, false, false] rfl rfl (any_of HT_.out (by kernel_rfl)) (fun _ _ _ h => h) (Or.inl ⟨by rfl, ?_⟩) ?_ ?_
          rotate_left
          ·intro w'
           go_simp
           with_reducible rfl
          rotate_left
          ·simp only [Act.put, List.setIfInBounds_toArray, List.set_cons_zero, List.set_cons_succ, i64_w, i32_w]
           rfl
          refine take_ (i := 4) (N := some 52) (v := ?_) (a' := ?_) #[true, true, true, true, true, true, false, true, false, false, false, false] rfl rfl (take_ofW HT_.out HW_.out (by kernel_rfl)) (fun _ _ _ h => h) (Or.inl ⟨by rfl, ?_⟩) hHeld ?_ ?_
          rotate_left
          ·rintro w' ⟨s0, s1, s2, s3, s4, s5, s6, s7, s8, s9, s10, s11, s12, s13, s14, s15, s16, s17, s18, s19⟩
           go_simp
           with_reducible rfl
          rotate_left
          ·simp only [Act.put, List.setIfInBounds_toArray, List.set_cons_zero, List.set_cons_succ, i64_w, i32_w]
           rfl
          refine take_ (i := 6) (N := some 54) (v := ?_) (a' := ?_) #[true, true, true, true, true, true, true, true, false, false, false, false] rfl rfl (take_ofW HT_.out HW_.out (by kernel_rfl)) (fun _ _ _ h => h) (Or.inl ⟨by rfl, ?_⟩) hHeld ?_ ?_
          rotate_left
          ·rintro w' ⟨s0, s1, s2, s3, s4, s5, s6, s7, s8, s9, s10, s11, s12, s13, s14, s15, s16, s17, s18, s19⟩
           go_simp
           with_reducible rfl
          rotate_left
          ·simp only [Act.put, List.setIfInBounds_toArray, List.set_cons_zero, List.set_cons_succ, i64_w, i32_w]
           rfl
          refine pure_ (i := 8) (N := some 56) (v := ?_) (a' := ?_) #[true, true, true, true, true, true, true, true, true, false, false, false] rfl rfl (any_of HT_.out (by kernel_rfl)) (fun _ _ _ h => h) (Or.inl ⟨by rfl, ?_⟩) ?_ ?_
          rotate_left
          ·intro w'
           go_simp
           with_reducible rfl
          rotate_left
          ·simp only [Act.put, List.setIfInBounds_toArray, List.set_cons_zero, List.set_cons_succ, i64_w, i32_w]
           rfl
          refine take_ (i := 9) (N := some 57) (v := ?_) (a' := ?_) #[true, true, true, true, true, true, true, true, true, true, false, false] rfl rfl (take_ofW HT_.out HW_.out (by kernel_rfl)) (fun _ _ _ h => h) (Or.inl ⟨by rfl, ?_⟩) hHeld ?_ ?_
          rotate_left
          ·rintro w' ⟨s0, s1, s2, s3, s4, s5, s6, s7, s8, s9, s10, s11, s12, s13, s14, s15, s16, s17, s18, s19⟩
           go_simp
           with_reducible rfl
          rotate_left
          ·simp only [Act.put, List.setIfInBounds_toArray, List.set_cons_zero, List.set_cons_succ, i64_w, i32_w]
           rfl
          refine one_ (i := 10) (N := some 58) #[true, true, true, true, true, true, true, true, true, true, true, false] rfl rfl (one_of HT_.out (by kernel_rfl)) (by decide) (fun K hK => ?_)
          refine goes_ Tryz.func12 (by kernel_rfl) rfl #[.agg #[.int .i64 ((rd_T24 l0_4 x5_2).f0), .string ((rd_T24 l0_4 x5_2).f1), .int .i64 ((rd_T24 l0_4 x5_2).f2), .int .i64 ((rd_T24 l0_4 x5_2).f3), .slice A171_4 ((rd_T24 l0_4 x5_2).f4).length c171_4], .agg #[.int .i64 ((rd_T24 l1_4 x5_2).f0), .string ((rd_T24 l1_4 x5_2).f1), .int .i64 ((rd_T24 l1_4 x5_2).f2), .int .i64 ((rd_T24 l1_4 x5_2).f3), .slice A172_4 ((rd_T24 l1_4 x5_2).f4).length c172_4]] (by rfl) rfl rfl (by (try simp only [List.map_toArray, List.map_cons, List.map_nil]); first|done|rfl|(simp only [List.length_drop, List.length_take]; rfl)) ?_
          with_reducible refine (ih k2 (by have := HJ2.out; have := HK2.out; omega) ((rd_T24 l0_4 x5_2).f0) ((rd_T24 l0_4 x5_2).f1) ((rd_T24 l0_4 x5_2).f2) ((rd_T24 l0_4 x5_2).f3) _ _ ((rd_T24 l0_4 x5_2).f4) ((rd_T24 l1_4 x5_2).f0) ((rd_T24 l1_4 x5_2).f1) ((rd_T24 l1_4 x5_2).f2) ((rd_T24 l1_4 x5_2).f3) _ _ ((rd_T24 l1_4 x5_2).f4) true _ ?side1 ?side2 ?side3 ?side4 A29.out).mono ?_
          (case side1 => repeat (first|exact (Kd.C_below HR171_4.out HB.out)|(with_reducible refine Kd.C_alloc ?_ _)|(with_reducible refine Kd.C_drewN ?_ _)|(with_reducible refine Kd.C_drew ?_)))
          (case side2 => exact HC171_4.out)
          (case side3 => repeat (first|exact (Kd.C_below HR172_4.out HB.out)|(with_reducible refine Kd.C_alloc ?_ _)|(with_reducible refine Kd.C_drewN ?_ _)|(with_reducible refine Kd.C_drew ?_)))
          (case side4 => exact HC172_4.out)
          rintro e w34 ⟨rfl, hb⟩
          refine ⟨_, rfl, ?_⟩
          have n0_ := Aside0.mk (blk_below (g := gb169) (o := .cells #[.int .i64 a0_0, .string a0_1, .int .i64 a0_2, .int .i64 a0_3, .slice (some ad171) l0_4.length c0_4] 24 (0, 0)) (by (with_reducible repeat (first|refine blk_drewN ?_ _|refine blk_drew ?_|refine blk_alloc ?_ _)); exact BK169.out) hb)
          have n1_ := Aside0.mk (blk_below (g := gb170) (o := .cells #[.int .i64 a1_0, .string a1_1, .int .i64 a1_2, .int .i64 a1_3, .slice (some ad172) l1_4.length c1_4] 24 (0, 0)) (by (with_reducible repeat (first|refine blk_drewN ?_ _|refine blk_drew ?_|refine blk_alloc ?_ _)); exact BK170.out) hb)
          have n2_ := Aside0.mk (below_step (by repeat (first|(with_reducible first|exact HB.out|apply below_alloc|apply pw_below_drewN|apply below_drew1|refine below_set ?_ GE169.out|refine below_set ?_ GE170.out)|exact HB.out)) hb)
          clear BK169
          clear BK170
          clear HB
          have BK169 := n0_
          have BK170 := n1_
          have HB := n2_
          clear n0_ n1_ n2_
          (try clear hb)
          (try clear hb2)
          (try clear hk)
          (try clear hi)
          refine hK.out _ _ ⟨(blk_cell BK169.out 0).trans rfl, (blk_cell BK169.out 1).trans rfl, (blk_cell BK169.out 2).trans rfl, (blk_cell BK169.out 3).trans rfl, (blk_cell BK169.out 4).trans rfl, (blk_cell BK170.out 0).trans rfl, (blk_cell BK170.out 1).trans rfl, (blk_cell BK170.out 2).trans rfl, (blk_cell BK170.out 3).trans rfl, (blk_cell BK170.out 4).trans rfl, ((HB.out.cell (World.block_lt_of_cell? w _ hw171_0)).trans hw171_0), ((HB.out.cell (World.block_lt_of_cell? w _ hw171_1)).trans hw171_1), ((HB.out.cell (World.block_lt_of_cell? w _ hw171_2)).trans hw171_2), ((HB.out.cell (World.block_lt_of_cell? w _ hw171_3)).trans hw171_3), ((HB.out.cell (World.block_lt_of_cell? w _ hw171_4)).trans hw171_4), ((HB.out.cell (World.block_lt_of_cell? w _ hw172_0)).trans hw172_0), ((HB.out.cell (World.block_lt_of_cell? w _ hw172_1)).trans hw172_1), ((HB.out.cell (World.block_lt_of_cell? w _ hw172_2)).trans hw172_2), ((HB.out.cell (World.block_lt_of_cell? w _ hw172_3)).trans hw172_3), ((HB.out.cell (World.block_lt_of_cell? w _ hw172_4)).trans hw172_4)⟩ (fun hHeld => ?_)
          clear hK K
          refine norm_ (a' := ?_) ?_ ?_
          rotate_left
          ·show Act.put _ (some 58) _ = _
           simp only [Act.put, List.setIfInBounds_toArray, List.set_cons_zero, List.set_cons_succ, i64_w, i32_w]
           rfl
          refine pure_ (i := 11) (N := some 59) (v := ?_) (a' := ?_) #[true, true, true, true, true, true, true, true, true, true, true, true] rfl rfl (any_of HT_.out (by kernel_rfl)) (fun _ _ _ h => h) (Or.inl ⟨by rfl, ?_⟩) ?_ ?_
          rotate_left
          ·intro w'
           go_simp
           with_reducible rfl
          rotate_left
          ·simp only [Act.put, List.setIfInBounds_toArray, List.set_cons_zero, List.set_cons_succ, i64_w, i32_w]
           rfl
          refine done_ (done_of HT_.out (by kernel_rfl)) ?_
          try go_wp2
          go_roundg k2
          case measure => have := HJ2.out; have := HK2.out; omega
          case rel => exact ⟨(wrap64 (x5_2 + 1)), (by first|rfl|(simp; done)|(simp [*]; done)), H', ⟨by have := HJ2.out; have := HK2.out; omega⟩, ⟨by (with_reducible repeat (first|refine blk_drewN ?_ _|refine blk_drew ?_|refine blk_alloc ?_ _)); exact BK169.out⟩, ⟨by (with_reducible repeat (first|refine blk_drewN ?_ _|refine blk_drew ?_|refine blk_alloc ?_ _)); exact BK170.out⟩, ⟨by repeat (first|(with_reducible first|exact HB.out|apply below_alloc|apply pw_below_drewN|apply below_drew1|refine below_set ?_ GE169.out|refine below_set ?_ GE170.out)|exact HB.out)⟩⟩
         ·replace c30 := Bool.eq_false_iff.mpr c30
          subst c30
          have H1 : (some false) = some r := by rw [if_neg (show ¬ (false = true) by decide)] at H; exact H
          clear H
          have H := H1
          clear H1
          obtain rfl := Option.some.inj H
          have hnb35 := NB169_170.out
          have hnc35 := NB170_169.out
          have hcz36_0 : wr.cell? ⟨gb169, 0, none⟩ = some (.int .i64 a0_0) := (blk_cell BK169.out 0).trans rfl
          have hcz36_1 : wr.cell? ⟨gb169, 1, none⟩ = some (.string a0_1) := (blk_cell BK169.out 1).trans rfl
          have hcz36_2 : wr.cell? ⟨gb169, 2, none⟩ = some (.int .i64 a0_2) := (blk_cell BK169.out 2).trans rfl
          have hcz36_3 : wr.cell? ⟨gb169, 3, none⟩ = some (.int .i64 a0_3) := (blk_cell BK169.out 3).trans rfl
          have hcz36_4 : wr.cell? ⟨gb169, 4, none⟩ = some (.slice A0_4 l0_4.length c0_4) := (blk_cell BK169.out 4).trans rfl
          have hfz36_0 := blk_frozen BK169.out 0
          have hfz36_1 := blk_frozen BK169.out 1
          have hfz36_2 := blk_frozen BK169.out 2
          have hfz36_3 := blk_frozen BK169.out 3
          have hfz36_4 := blk_frozen BK169.out 4
          try go_wp2
          have n0_ := Aside0.mk (blk_drew BK169.out)
          have n1_ := Aside0.mk (blk_drew BK170.out)
          have n2_ := Aside0.mk (below_drew1 HB.out)
          clear BK169
          clear BK170
          clear HB
          have BK169 := n0_
          have BK170 := n1_
          have HB := n2_
          clear n0_ n1_ n2_
          have p171 : 0 ≤ (x5_2 : Int) := of_decide_eq_true (by first|(with_reducible assumption) | assumption)
          have q171 : x5_2 < (l0_4.length : Int) := of_decide_eq_true (by first|(with_reducible assumption) | assumption)
          obtain ⟨ad171, A171_4, c171_4, e171, hx171_0, hx171_1, hx171_2, hx171_3, hx171_4, hl171_4, hi171_4⟩ := at_T24 HR0_4.out x5_2 p171 q171
          have hw171_4 := hx171_4
          have hw171_3 := hx171_3
          have hw171_2 := hx171_2
          have hw171_1 := hx171_1
          have hw171_0 := hx171_0
          cases e171
          replace hx171_0 := (HB.out.cell (World.block_lt_of_cell? w _ hx171_0)).trans hx171_0
          replace hx171_1 := (HB.out.cell (World.block_lt_of_cell? w _ hx171_1)).trans hx171_1
          replace hx171_2 := (HB.out.cell (World.block_lt_of_cell? w _ hx171_2)).trans hx171_2
          replace hx171_3 := (HB.out.cell (World.block_lt_of_cell? w _ hx171_3)).trans hx171_3
          replace hx171_4 := (HB.out.cell (World.block_lt_of_cell? w _ hx171_4)).trans hx171_4
          have HR171_4 := Aside0.mk hi171_4
          have HC171_4 := Aside0.mk hl171_4
          clear hi171_4 hl171_4
          replace p171 := eq_true p171
          replace q171 := eq_true q171
          have p172 : 0 ≤ (x5_2 : Int) := of_decide_eq_true (by first|(with_reducible assumption) | assumption)
          have q172 : x5_2 < (l1_4.length : Int) := of_decide_eq_true (by first|(with_reducible assumption) | assumption)
          obtain ⟨ad172, A172_4, c172_4, e172, hx172_0, hx172_1, hx172_2, hx172_3, hx172_4, hl172_4, hi172_4⟩ := at_T24 HR1_4.out x5_2 p172 q172
          have hw172_4 := hx172_4
          have hw172_3 := hx172_3
          have hw172_2 := hx172_2
          have hw172_1 := hx172_1
          have hw172_0 := hx172_0
          cases e172
          replace hx172_0 := (HB.out.cell (World.block_lt_of_cell? w _ hx172_0)).trans hx172_0
          replace hx172_1 := (HB.out.cell (World.block_lt_of_cell? w _ hx172_1)).trans hx172_1
          replace hx172_2 := (HB.out.cell (World.block_lt_of_cell? w _ hx172_2)).trans hx172_2
          replace hx172_3 := (HB.out.cell (World.block_lt_of_cell? w _ hx172_3)).trans hx172_3
          replace hx172_4 := (HB.out.cell (World.block_lt_of_cell? w _ hx172_4)).trans hx172_4
          have HR172_4 := Aside0.mk hi172_4
          have HC172_4 := Aside0.mk hl172_4
          clear hi172_4 hl172_4
          replace p172 := eq_true p172
          replace q172 := eq_true q172
          refine start_ (n := 12) (S := fun w' => w'.cell? ⟨gb169, 0, none⟩ = some (.int .i64 a0_0) ∧ w'.cell? ⟨gb169, 1, none⟩ = some (.string a0_1) ∧ w'.cell? ⟨gb169, 2, none⟩ = some (.int .i64 a0_2) ∧ w'.cell? ⟨gb169, 3, none⟩ = some (.int .i64 a0_3) ∧ w'.cell? ⟨gb169, 4, none⟩ = some (.slice (some ad171) l0_4.length c0_4) ∧ w'.cell? ⟨gb170, 0, none⟩ = some (.int .i64 a1_0) ∧ w'.cell? ⟨gb170, 1, none⟩ = some (.string a1_1) ∧ w'.cell? ⟨gb170, 2, none⟩ = some (.int .i64 a1_2) ∧ w'.cell? ⟨gb170, 3, none⟩ = some (.int .i64 a1_3) ∧ w'.cell? ⟨gb170, 4, none⟩ = some (.slice (some ad172) l1_4.length c1_4) ∧ w'.cell? (ad171.add ((x5_2).toNat * 5)) = some (.int .i64 ((rd_T24 l0_4 x5_2).f0)) ∧ w'.cell? ⟨(ad171.add ((x5_2).toNat * 5)).block, (ad171.add ((x5_2).toNat * 5)).off + 1, none⟩ = some (.string ((rd_T24 l0_4 x5_2).f1)) ∧ w'.cell? ⟨(ad171.add ((x5_2).toNat * 5)).block, (ad171.add ((x5_2).toNat * 5)).off + 2, none⟩ = some (.int .i64 ((rd_T24 l0_4 x5_2).f2)) ∧ w'.cell? ⟨(ad171.add ((x5_2).toNat * 5)).block, (ad171.add ((x5_2).toNat * 5)).off + 3, none⟩ = some (.int .i64 ((rd_T24 l0_4 x5_2).f3)) ∧ w'.cell? ⟨(ad171.add ((x5_2).toNat * 5)).block, (ad171.add ((x5_2).toNat * 5)).off + 4, none⟩ = some (.slice A171_4 ((rd_T24 l0_4 x5_2).f4).length c171_4) ∧ w'.cell? (ad172.add ((x5_2).toNat * 5)) = some (.int .i64 ((rd_T24 l1_4 x5_2).f0)) ∧ w'.cell? ⟨(ad172.add ((x5_2).toNat * 5)).block, (ad172.add ((x5_2).toNat * 5)).off + 1, none⟩ = some (.string ((rd_T24 l1_4 x5_2).f1)) ∧ w'.cell? ⟨(ad172.add ((x5_2).toNat * 5)).block, (ad172.add ((x5_2).toNat * 5)).off + 2, none⟩ = some (.int .i64 ((rd_T24 l1_4 x5_2).f2)) ∧ w'.cell? ⟨(ad172.add ((x5_2).toNat * 5)).block, (ad172.add ((x5_2).toNat * 5)).off + 3, none⟩ = some (.int .i64 ((rd_T24 l1_4 x5_2).f3)) ∧ w'.cell? ⟨(ad172.add ((x5_2).toNat * 5)).block, (ad172.add ((x5_2).toNat * 5)).off + 4, none⟩ = some (.slice A172_4 ((rd_T24 l1_4 x5_2).f4).length c172_4)) (ds := []) #[false, false, false, false, false, false, false, false, false, false, false, false] (by kernel_rfl) rfl rfl ⟨(blk_cell BK169.out 0).trans rfl, (blk_cell BK169.out 1).trans rfl, (blk_cell BK169.out 2).trans rfl, (blk_cell BK169.out 3).trans rfl, (blk_cell BK169.out 4).trans rfl, (blk_cell BK170.out 0).trans rfl, (blk_cell BK170.out 1).trans rfl, (blk_cell BK170.out 2).trans rfl, (blk_cell BK170.out 3).trans rfl, (blk_cell BK170.out 4).trans rfl, ((HB.out.cell (World.block_lt_of_cell? w _ hw171_0)).trans hw171_0), ((HB.out.cell (World.block_lt_of_cell? w _ hw171_1)).trans hw171_1), ((HB.out.cell (World.block_lt_of_cell? w _ hw171_2)).trans hw171_2), ((HB.out.cell (World.block_lt_of_cell? w _ hw171_3)).trans hw171_3), ((HB.out.cell (World.block_lt_of_cell? w _ hw171_4)).trans hw171_4), ((HB.out.cell (World.block_lt_of_cell? w _ hw172_0)).trans hw172_0), ((HB.out.cell (World.block_lt_of_cell? w _ hw172_1)).trans hw172_1), ((HB.out.cell (World.block_lt_of_cell? w _ hw172_2)).trans hw172_2), ((HB.out.cell (World.block_lt_of_cell? w _ hw172_3)).trans hw172_3), ((HB.out.cell (World.block_lt_of_cell? w _ hw172_4)).trans hw172_4)⟩ (fun hHeld => ?_); refine with_tabW gossamerref02_One.tab6 gossamerref02_One.bits6 (fun HT_ HW_ => ?_)
          generalize wr.drew = w37 at BK169 BK170 HB HR171_4 HR172_4 hx171_0 hx171_1 hx171_2 hx171_3 hx171_4 hx172_0 hx172_1 hx172_2 hx172_3 hx172_4 hHeld ⊢
          refine pure_ (i := 0) (N := some 48) (v := ?_) (a' := ?_) #[true, false, false, false, false, false, false, false, false, false, false, false] rfl rfl (any_of HT_.out (by kernel_rfl)) (fun _ _ _ h => h) (Or.inl ⟨by rfl, ?_⟩) ?_ ?_
          rotate_left
          ·intro w'
           go_simp
           with_reducible rfl
          rotate_left
          ·simp only [Act.put, List.setIfInBounds_toArray, List.set_cons_zero, List.set_cons_succ, i64_w, i32_w]
           rfl
          refine pure_ (i := 2) (N := some 50) (v := ?_) (a' := ?_) #[true, false, true, false, false, false, false, false, false, false, false, false] rfl rfl (any_of HT_.out (by kernel_rfl)) (fun _ _ _ h => h) (Or.inl ⟨by rfl, ?_⟩) ?_ ?_
          rotate_left
          ·intro w'
           go_simp
           with_reducible rfl
          rotate_left
          ·simp only [Act.put, List.setIfInBounds_toArray, List.set_cons_zero, List.set_cons_succ, i64_w, i32_w]
           rfl
          refine pure_ (i := 5) (N := some 53) (v := ?_) (a' := ?_) #[true, false, true, false, false, true, false, false, false, false, false, false] rfl rfl (any_of HT_.out (by kernel_rfl)) (fun _ _ _ h => h) (Or.inl ⟨by rfl, ?_⟩) ?_ ?_
          rotate_left
          ·intro w'
           go_simp
           with_reducible rfl
          rotate_left
          ·simp only [Act.put, List.setIfInBounds_toArray, List.set_cons_zero, List.set_cons_succ, i64_w, i32_w]
           rfl
          refine pure_ (i := 7) (N := some 55) (v := ?_) (a' := ?_) #[true, false, true, false, false, true, false, true, false, false, false, false] rfl rfl (any_of HT_.out (by kernel_rfl)) (fun _ _ _ h => h) (Or.inl ⟨by rfl, ?_⟩) ?_ ?_
          rotate_left
          ·intro w'
           go_simp
           with_reducible rfl
          rotate_left
          ·simp only [Act.put, List.setIfInBounds_toArray, List.set_cons_zero, List.set_cons_succ, i64_w, i32_w]
           rfl
          refine take_ (i := 1) (N := some 49) (v := ?_) (a' := ?_) #[true, true, true, false, false, true, false, true, false, false, false, false] rfl rfl (take_ofW HT_.out HW_.out (by kernel_rfl)) (fun _ _ _ h => h) (Or.inl ⟨by rfl, ?_⟩) hHeld ?_ ?_
          rotate_left
          ·rintro w' ⟨s0, s1, s2, s3, s4, s5, s6, s7, s8, s9, s10, s11, s12, s13, s14, s15, s16, s17, s18, s19⟩
           go_simp
           with_reducible rfl
          rotate_left
          ·simp only [Act.put, List.setIfInBounds_toArray, List.set_cons_zero, List.set_cons_succ, i64_w, i32_w]
           rfl
          refine pure_ (i := 3) (N := some 51) (v := ?_) (a' := ?_) #[true, true, true, true, false, true, false, true, false, false, false, false] rfl rfl (any_of HT_.out (by kernel_rfl)) (fun _ _ _ h => h) (Or.inl ⟨by rfl, ?_⟩) ?_ ?_
          rotate_left
          ·intro w'
           go_simp
           with_reducible rfl
          rotate_left
          ·simp only [Act.put, List.setIfInBounds_toArray, List.set_cons_zero, List.set_cons_succ, i64_w, i32_w]
           rfl
          refine take_ (i := 4) (N := some 52) (v := ?_) (a' := ?_) #[true, true, true, true, true, true, false, true, false, false, false, false] rfl rfl (take_ofW HT_.out HW_.out (by kernel_rfl)) (fun _ _ _ h => h) (Or.inl ⟨by rfl, ?_⟩) hHeld ?_ ?_
          rotate_left
          ·rintro w' ⟨s0, s1, s2, s3, s4, s5, s6, s7, s8, s9, s10, s11, s12, s13, s14, s15, s16, s17, s18, s19⟩
           go_simp
           with_reducible rfl
          rotate_left
          ·simp only [Act.put, List.setIfInBounds_toArray, List.set_cons_zero, List.set_cons_succ, i64_w, i32_w]
           rfl
          refine take_ (i := 6) (N := some 54) (v := ?_) (a' := ?_) #[true, true, true, true, true, true, true, true, false, false, false, false] rfl rfl (take_ofW HT_.out HW_.out (by kernel_rfl)) (fun _ _ _ h => h) (Or.inl ⟨by rfl, ?_⟩) hHeld ?_ ?_
          rotate_left
          ·rintro w' ⟨s0, s1, s2, s3, s4, s5, s6, s7, s8, s9, s10, s11, s12, s13, s14, s15, s16, s17, s18, s19⟩
           go_simp
           with_reducible rfl
          rotate_left
          ·simp only [Act.put, List.setIfInBounds_toArray, List.set_cons_zero, List.set_cons_succ, i64_w, i32_w]
           rfl
          refine pure_ (i := 8) (N := some 56) (v := ?_) (a' := ?_) #[true, true, true, true, true, true, true, true, true, false, false, false] rfl rfl (any_of HT_.out (by kernel_rfl)) (fun _ _ _ h => h) (Or.inl ⟨by rfl, ?_⟩) ?_ ?_
          rotate_left
          ·intro w'
           go_simp
           with_reducible rfl
          rotate_left
          ·simp only [Act.put, List.setIfInBounds_toArray, List.set_cons_zero, List.set_cons_succ, i64_w, i32_w]
           rfl
          refine take_ (i := 9) (N := some 57) (v := ?_) (a' := ?_) #[true, true, true, true, true, true, true, true, true, true, false, false] rfl rfl (take_ofW HT_.out HW_.out (by kernel_rfl)) (fun _ _ _ h => h) (Or.inl ⟨by rfl, ?_⟩) hHeld ?_ ?_
          rotate_left
          ·rintro w' ⟨s0, s1, s2, s3, s4, s5, s6, s7, s8, s9, s10, s11, s12, s13, s14, s15, s16, s17, s18, s19⟩
           go_simp
           with_reducible rfl
          rotate_left
          ·simp only [Act.put, List.setIfInBounds_toArray, List.set_cons_zero, List.set_cons_succ, i64_w, i32_w]
           rfl
          refine one_ (i := 10) (N := some 58) #[true, true, true, true, true, true, true, true, true, true, true, false] rfl rfl (one_of HT_.out (by kernel_rfl)) (by decide) (fun K hK => ?_)
          refine goes_ Tryz.func12 (by kernel_rfl) rfl #[.agg #[.int .i64 ((rd_T24 l0_4 x5_2).f0), .string ((rd_T24 l0_4 x5_2).f1), .int .i64 ((rd_T24 l0_4 x5_2).f2), .int .i64 ((rd_T24 l0_4 x5_2).f3), .slice A171_4 ((rd_T24 l0_4 x5_2).f4).length c171_4], .agg #[.int .i64 ((rd_T24 l1_4 x5_2).f0), .string ((rd_T24 l1_4 x5_2).f1), .int .i64 ((rd_T24 l1_4 x5_2).f2), .int .i64 ((rd_T24 l1_4 x5_2).f3), .slice A172_4 ((rd_T24 l1_4 x5_2).f4).length c172_4]] (by rfl) rfl rfl (by (try simp only [List.map_toArray, List.map_cons, List.map_nil]); first|done|rfl|(simp only [List.length_drop, List.length_take]; rfl)) ?_
          with_reducible refine (ih k2 (by have := HJ2.out; have := HK2.out; omega) ((rd_T24 l0_4 x5_2).f0) ((rd_T24 l0_4 x5_2).f1) ((rd_T24 l0_4 x5_2).f2) ((rd_T24 l0_4 x5_2).f3) _ _ ((rd_T24 l0_4 x5_2).f4) ((rd_T24 l1_4 x5_2).f0) ((rd_T24 l1_4 x5_2).f1) ((rd_T24 l1_4 x5_2).f2) ((rd_T24 l1_4 x5_2).f3) _ _ ((rd_T24 l1_4 x5_2).f4) false _ ?side1 ?side2 ?side3 ?side4 A29.out).mono ?_
          (case side1 => repeat (first|exact (Kd.C_below HR171_4.out HB.out)|(with_reducible refine Kd.C_alloc ?_ _)|(with_reducible refine Kd.C_drewN ?_ _)|(with_reducible refine Kd.C_drew ?_)))
          (case side2 => exact HC171_4.out)
          (case side3 => repeat (first|exact (Kd.C_below HR172_4.out HB.out)|(with_reducible refine Kd.C_alloc ?_ _)|(with_reducible refine Kd.C_drewN ?_ _)|(with_reducible refine Kd.C_drew ?_)))
          (case side4 => exact HC172_4.out)
          rintro e w38 ⟨rfl, hb⟩
          refine ⟨_, rfl, ?_⟩
          have n0_ := Aside0.mk (blk_below (g := gb169) (o := .cells #[.int .i64 a0_0, .string a0_1, .int .i64 a0_2, .int .i64 a0_3, .slice (some ad171) l0_4.length c0_4] 24 (0, 0)) (by (with_reducible repeat (first|refine blk_drewN ?_ _|refine blk_drew ?_|refine blk_alloc ?_ _)); exact BK169.out) hb)
          have n1_ := Aside0.mk (blk_below (g := gb170) (o := .cells #[.int .i64 a1_0, .string a1_1, .int .i64 a1_2, .int .i64 a1_3, .slice (some ad172) l1_4.length c1_4] 24 (0, 0)) (by (with_reducible repeat (first|refine blk_drewN ?_ _|refine blk_drew ?_|refine blk_alloc ?_ _)); exact BK170.out) hb)
          have n2_ := Aside0.mk (below_step (by repeat (first|(with_reducible first|exact HB.out|apply below_alloc|apply pw_below_drewN|apply below_drew1|refine below_set ?_ GE169.out|refine below_set ?_ GE170.out)|exact HB.out)) hb)
          clear BK169
          clear BK170
          clear HB
          have BK169 := n0_
          have BK170 := n1_
          have HB := n2_
          clear n0_ n1_ n2_
          (try clear hb)
          (try clear hb2)
          (try clear hk)
          (try clear hi)
          refine hK.out _ _ ⟨(blk_cell BK169.out 0).trans rfl, (blk_cell BK169.out 1).trans rfl, (blk_cell BK169.out 2).trans rfl, (blk_cell BK169.out 3).trans rfl, (blk_cell BK169.out 4).trans rfl, (blk_cell BK170.out 0).trans rfl, (blk_cell BK170.out 1).trans rfl, (blk_cell BK170.out 2).trans rfl, (blk_cell BK170.out 3).trans rfl, (blk_cell BK170.out 4).trans rfl, ((HB.out.cell (World.block_lt_of_cell? w _ hw171_0)).trans hw171_0), ((HB.out.cell (World.block_lt_of_cell? w _ hw171_1)).trans hw171_1), ((HB.out.cell (World.block_lt_of_cell? w _ hw171_2)).trans hw171_2), ((HB.out.cell (World.block_lt_of_cell? w _ hw171_3)).trans hw171_3), ((HB.out.cell (World.block_lt_of_cell? w _ hw171_4)).trans hw171_4), ((HB.out.cell (World.block_lt_of_cell? w _ hw172_0)).trans hw172_0), ((HB.out.cell (World.block_lt_of_cell? w _ hw172_1)).trans hw172_1), ((HB.out.cell (World.block_lt_of_cell? w _ hw172_2)).trans hw172_2), ((HB.out.cell (World.block_lt_of_cell? w _ hw172_3)).trans hw172_3), ((HB.out.cell (World.block_lt_of_cell? w _ hw172_4)).trans hw172_4)⟩ (fun hHeld => ?_)
          clear hK K
          refine norm_ (a' := ?_) ?_ ?_
          rotate_left
          ·show Act.put _ (some 58) _ = _
           simp only [Act.put, List.setIfInBounds_toArray, List.set_cons_zero, List.set_cons_succ, i64_w, i32_w]
           rfl
          refine pure_ (i := 11) (N := some 59) (v := ?_) (a' := ?_) #[true, true, true, true, true, true, true, true, true, true, true, true] rfl rfl (any_of HT_.out (by kernel_rfl)) (fun _ _ _ h => h) (Or.inl ⟨by rfl, ?_⟩) ?_ ?_
          rotate_left
          ·intro w'
           go_simp
           with_reducible rfl
          rotate_left
          ·simp only [Act.put, List.setIfInBounds_toArray, List.set_cons_zero, List.set_cons_succ, i64_w, i32_w]
           rfl
          refine done_ (done_of HT_.out (by kernel_rfl)) ?_
          try go_wp2
          go_ret
          exact ⟨by first|rfl|(simp [errW_none, errW_some] <;> rfl)|(simp [*, errW_none, errW_some] <;> rfl), by repeat (first|(with_reducible first|exact HB.out|apply below_alloc|apply pw_below_drewN|apply below_drew1|refine below_set ?_ GE169.out|refine below_set ?_ GE170.out)|exact HB.out)⟩
        ·rw [if_neg c28] at H
         exact absurd H (by simp)
       ·rw [if_neg c27] at H
        exact absurd H (by simp)
      ·rw [if_neg c26] at H
       have c26b0 : decide (x5_2 < (l0_4.length : Int)) = false := decide_eq_false c26
       clear c26
       obtain rfl := Option.some.inj H
       have hnb39 := NB169_170.out
       have hnc39 := NB170_169.out
       have hcz40_0 : wr.cell? ⟨gb169, 0, none⟩ = some (.int .i64 a0_0) := (blk_cell BK169.out 0).trans rfl
       have hcz40_1 : wr.cell? ⟨gb169, 1, none⟩ = some (.string a0_1) := (blk_cell BK169.out 1).trans rfl
       have hcz40_2 : wr.cell? ⟨gb169, 2, none⟩ = some (.int .i64 a0_2) := (blk_cell BK169.out 2).trans rfl
       have hcz40_3 : wr.cell? ⟨gb169, 3, none⟩ = some (.int .i64 a0_3) := (blk_cell BK169.out 3).trans rfl
       have hcz40_4 : wr.cell? ⟨gb169, 4, none⟩ = some (.slice A0_4 l0_4.length c0_4) := (blk_cell BK169.out 4).trans rfl
       have hfz40_0 := blk_frozen BK169.out 0
       have hfz40_1 := blk_frozen BK169.out 1
       have hfz40_2 := blk_frozen BK169.out 2
       have hfz40_3 := blk_frozen BK169.out 3
       have hfz40_4 := blk_frozen BK169.out 4
       go_wp2
       go_ret
       exact ⟨by first|rfl|(simp [errW_none, errW_some] <;> rfl)|(simp [*, errW_none, errW_some] <;> rfl), by repeat (first|(with_reducible first|exact HB.out|apply below_alloc|apply pw_below_drewN|apply below_drew1|refine below_set ?_ GE169.out|refine below_set ?_ GE170.out)|exact HB.out)⟩

end Go.Proofs.YthdkjfhpbigdpaaGreatDoor.Q

namespace Go.Proofs.YthdkjfhpbigdpaaGreatDoor.Q
open Go.RowKit Go.Proofs.YthdkjfhpbigdpaaGreatDoorW.PrintWords Go.Proofs.YthdkjfhpbigdpaaGreatDoorW.PrintLast Go.Proofs.YthdkjfhpbigdpaaGreatDoorW.PrintMore
attribute [local go_sem] max2_int min2_int max_two min_two max_three min_three max_four min_four
set_option linter.unusedVariables false
set_option linter.unusedSimpArgs false

def gossamerlaw02_TreeTells.f (k : Nat) (a0_0 : Int) (a0_1 : ByteArray) (a0_2 : Int) (a0_3 : Int) (l0_4 : List (S24)) : Option (Bool) := (gossamerref02_Small.f k a0_0 a0_1 a0_2 a0_3 l0_4 500).bind fun t189 => (if t189 = true then ((gossamerlaw02_fixed.f).bind fun t191 => (if t191 = true then ((tree_May.f a0_0 a0_1 a0_2 a0_3 l0_4).bind fun t192 => ((gossamerref02_May.f k a0_0 a0_1 a0_2 a0_3 l0_4).bind fun t193 => (if (t192 == t193) = true then ((tree_Depth.f k a0_0 a0_1 a0_2 a0_3 l0_4).bind fun t194 => ((gossamerref02_Depth.f k a0_0 a0_1 a0_2 a0_3 l0_4).bind fun t195 => (if t194 = t195 then ((tree_Size.f k a0_0 a0_1 a0_2 a0_3 l0_4).bind fun t196 => ((gossamerref02_Size.f k a0_0 a0_1 a0_2 a0_3 l0_4).bind fun t197 => (if t196 = t197 then ((tree_Bare.f k a0_0 a0_1 a0_2 a0_3 l0_4).bind fun bt198 => ((gossamerref02_Bare.f k a0_0 a0_1 a0_2 a0_3 l0_4).bind fun bt205 => ((gossamerref02_One.f k bt198.1 bt198.2.1 bt198.2.2.1 bt198.2.2.2.1 bt198.2.2.2.2 bt205.1 bt205.2.1 bt205.2.2.1 bt205.2.2.2.1 bt205.2.2.2.2).bind fun t212 => (some t212)))) else (none)))) else (none)))) else (none)))) else (none))) else ((gossamerlaw02_fixed.f).bind fun t190 => (some t190)))
theorem gossamerlaw02_TreeTells.mono : ∀ a0 a1 a2 a3 a4 k, LeO (gossamerlaw02_TreeTells.f k a0 a1 a2 a3 a4) (gossamerlaw02_TreeTells.f (k + 1) a0 a1 a2 a3 a4) := by
 intro a0 a1 a2 a3 a4 k
 unfold gossamerlaw02_TreeTells.f
 repeat' first
  |(with_reducible exact gossamerref02_Bare.mono _ _ _ _ _ _)
  |(with_reducible exact gossamerref02_Depth.mono _ _ _ _ _ _)
  |(with_reducible exact gossamerref02_May.mono _ _ _ _ _ _)
  |(with_reducible exact gossamerref02_One.mono _ _ _ _ _ _ _ _ _ _ _)
  |(with_reducible exact gossamerref02_Size.mono _ _ _ _ _ _)
  |(with_reducible exact gossamerref02_Small.mono _ _ _ _ _ _ _)
  |(with_reducible exact tree_Bare.mono _ _ _ _ _ _)
  |(with_reducible exact tree_Depth.mono _ _ _ _ _ _)
  |(with_reducible exact tree_Size.mono _ _ _ _ _ _)
  |(with_reducible exact LeO.refl _)
  |(with_reducible exact LeO.none _)
  |(with_reducible refine LeO.ite ?_ ?_)
  |(with_reducible refine LeO.bind ?_ (fun _ => ?_))
  |exact gossamerref02_Bare.mono _ _ _ _ _ _
  |exact gossamerref02_Depth.mono _ _ _ _ _ _
  |exact gossamerref02_May.mono _ _ _ _ _ _
  |exact gossamerref02_One.mono _ _ _ _ _ _ _ _ _ _ _
  |exact gossamerref02_Size.mono _ _ _ _ _ _
  |exact gossamerref02_Small.mono _ _ _ _ _ _ _
  |exact tree_Bare.mono _ _ _ _ _ _
  |exact tree_Depth.mono _ _ _ _ _ _
  |exact tree_Size.mono _ _ _ _ _ _
  |exact LeO.none _
  |refine LeO.ite ?_ ?_
  |refine LeO.bind ?_ (fun _ => ?_)
def gossamerlaw02_TreeTells.T3 : Bool × List (List Nat × List Nat) := (true, [([], []), ([0, 0], [0]), ([1], [1]), ([2, 1, 1], [1, 2]), ([1], [1]), ([4, 3, 1], [1, 4]), ([3, 5, 1], [1, 3, 5]), ([1, 6], [1, 6]), ([7, 5], [7]), ([8], [8]), ([9, 8, 8], [8, 9]), ([8], [8]), ([11, 10, 8], [8, 11]), ([10, 12, 8], [8, 10, 12]), ([8, 13], [8, 13]), ([14, 12], [14]), ([15], [15]), ([16, 15, 15], [15, 16]), ([15], [15]), ([18, 17, 15], [15, 18]), ([17, 19, 15], [15, 17, 19]), ([15, 20], [15, 20]), ([21, 19], [21]), ([22], [22]), ([23, 22, 22], [22, 23]), ([22], [22]), ([25, 24, 22], [22, 25]), ([24, 26, 26, 22], [22, 24, 26]), ([22, 27], [22, 27]), ([28, 27, 0, 1, 2, 3, 4, 5, 6, 7, 8, 9, 10, 11, 12, 13, 14, 15, 16, 17, 18, 19, 20, 21, 22, 23, 24, 25, 26, 27, 28], [28])])
def gossamerlaw02_TreeTells.B3 : List Nat := [0, 1, 3, 7, 3, 31, 63, 127, 255, 511, 1023, 511, 4095, 8191, 16383, 32767, 65535, 131071, 65535, 524287, 1048575, 2097151, 4194303, 8388607, 16777215, 8388607, 67108863, 134217727, 268435455, 536870911]
theorem gossamerlaw02_TreeTells.tab3 : rtab .any (opsOf Tryz.f3 3) = gossamerlaw02_TreeTells.T3 := by kernel_rfl
theorem gossamerlaw02_TreeTells.bits3 : waitsOk gossamerlaw02_TreeTells.T3.2 gossamerlaw02_TreeTells.B3 = true := by kernel_rfl
set_option maxHeartbeats 8000000 in
set_option maxRecDepth 100000 in
theorem gossamerlaw02_TreeTells.calls (k : Nat) (a0_0 : Int) (a0_1 : ByteArray) (a0_2 : Int) (a0_3 : Int) (A0_4 : Option Addr) (c0_4 : Nat) (l0_4 : List (S24)) (r : Bool) (w : World) (hlaid : LaidW w) (hr0_4 : Kd.C k24 w A0_4 l0_4.length l0_4) (hc0_4 : l0_4.length ≤ c0_4) (h : gossamerlaw02_TreeTells.f k a0_0 a0_1 a0_2 a0_3 l0_4 = some r) :
  Calls Tryz.prog 3 #[.agg #[.int .i64 a0_0, .string a0_1, .int .i64 a0_2, .int .i64 a0_3, .slice A0_4 l0_4.length c0_4]] w fun e w' => e = .returned (.bool r) ∧ Below w.heap.size w w' := by
 have HT := Aside0.mk hlaid
 clear hlaid
 have hu24 := Tryz.underlying24
 have HR0_4 := Aside0.mk hr0_4
 have HC0_4 := Aside0.mk hc0_4
 clear hr0_4 hc0_4
 have HB := Aside0.mk (Below.refl w.heap.size w)
 have H : ((gossamerref02_Small.f k a0_0 a0_1 a0_2 a0_3 l0_4 500).bind fun t189 => (if t189 = true then ((gossamerlaw02_fixed.f).bind fun t191 => (if t191 = true then ((tree_May.f a0_0 a0_1 a0_2 a0_3 l0_4).bind fun t192 => ((gossamerref02_May.f k a0_0 a0_1 a0_2 a0_3 l0_4).bind fun t193 => (if (t192 == t193) = true then ((tree_Depth.f k a0_0 a0_1 a0_2 a0_3 l0_4).bind fun t194 => ((gossamerref02_Depth.f k a0_0 a0_1 a0_2 a0_3 l0_4).bind fun t195 => (if t194 = t195 then ((tree_Size.f k a0_0 a0_1 a0_2 a0_3 l0_4).bind fun t196 => ((gossamerref02_Size.f k a0_0 a0_1 a0_2 a0_3 l0_4).bind fun t197 => (if t196 = t197 then ((tree_Bare.f k a0_0 a0_1 a0_2 a0_3 l0_4).bind fun bt198 => ((gossamerref02_Bare.f k a0_0 a0_1 a0_2 a0_3 l0_4).bind fun bt205 => ((gossamerref02_One.f k bt198.1 bt198.2.1 bt198.2.2.1 bt198.2.2.2.1 bt198.2.2.2.2 bt205.1 bt205.2.1 bt205.2.2.1 bt205.2.2.2.1 bt205.2.2.2.2).bind fun t212 => (some t212)))) else (none)))) else (none)))) else (none)))) else (none))) else ((gossamerlaw02_fixed.f).bind fun t190 => (some t190)))) = some r := h
 clear h
 replace H := Option.bind_eq_some_iff.mp H
 obtain ⟨t189, A20, H⟩ := H
 replace H : (if t189 = true then ((gossamerlaw02_fixed.f).bind fun t191 => (if t191 = true then ((tree_May.f a0_0 a0_1 a0_2 a0_3 l0_4).bind fun t192 => ((gossamerref02_May.f k a0_0 a0_1 a0_2 a0_3 l0_4).bind fun t193 => (if (t192 == t193) = true then ((tree_Depth.f k a0_0 a0_1 a0_2 a0_3 l0_4).bind fun t194 => ((gossamerref02_Depth.f k a0_0 a0_1 a0_2 a0_3 l0_4).bind fun t195 => (if t194 = t195 then ((tree_Size.f k a0_0 a0_1 a0_2 a0_3 l0_4).bind fun t196 => ((gossamerref02_Size.f k a0_0 a0_1 a0_2 a0_3 l0_4).bind fun t197 => (if t196 = t197 then ((tree_Bare.f k a0_0 a0_1 a0_2 a0_3 l0_4).bind fun bt198 => ((gossamerref02_Bare.f k a0_0 a0_1 a0_2 a0_3 l0_4).bind fun bt205 => ((gossamerref02_One.f k bt198.1 bt198.2.1 bt198.2.2.1 bt198.2.2.2.1 bt198.2.2.2.2 bt205.1 bt205.2.1 bt205.2.2.1 bt205.2.2.2.1 bt205.2.2.2.2).bind fun t212 => (some t212)))) else (none)))) else (none)))) else (none)))) else (none))) else ((gossamerlaw02_fixed.f).bind fun t190 => (some t190))) = some r := H
 have A2 := Aside0.mk A20
 clear A20
 by_cases c3 : t189 = true
 ·subst c3
  have H1 : ((gossamerlaw02_fixed.f).bind fun t191 => (if t191 = true then ((tree_May.f a0_0 a0_1 a0_2 a0_3 l0_4).bind fun t192 => ((gossamerref02_May.f k a0_0 a0_1 a0_2 a0_3 l0_4).bind fun t193 => (if (t192 == t193) = true then ((tree_Depth.f k a0_0 a0_1 a0_2 a0_3 l0_4).bind fun t194 => ((gossamerref02_Depth.f k a0_0 a0_1 a0_2 a0_3 l0_4).bind fun t195 => (if t194 = t195 then ((tree_Size.f k a0_0 a0_1 a0_2 a0_3 l0_4).bind fun t196 => ((gossamerref02_Size.f k a0_0 a0_1 a0_2 a0_3 l0_4).bind fun t197 => (if t196 = t197 then ((tree_Bare.f k a0_0 a0_1 a0_2 a0_3 l0_4).bind fun bt198 => ((gossamerref02_Bare.f k a0_0 a0_1 a0_2 a0_3 l0_4).bind fun bt205 => ((gossamerref02_One.f k bt198.1 bt198.2.1 bt198.2.2.1 bt198.2.2.2.1 bt198.2.2.2.2 bt205.1 bt205.2.1 bt205.2.2.1 bt205.2.2.2.1 bt205.2.2.2.2).bind fun t212 => (some t212)))) else (none)))) else (none)))) else (none)))) else (none))) = some r := by rw [if_pos rfl] at H; exact H
  clear H
  have H := H1
  clear H1
  replace H := Option.bind_eq_some_iff.mp H
  obtain ⟨t191, A40, H⟩ := H
  replace H : (if t191 = true then ((tree_May.f a0_0 a0_1 a0_2 a0_3 l0_4).bind fun t192 => ((gossamerref02_May.f k a0_0 a0_1 a0_2 a0_3 l0_4).bind fun t193 => (if (t192 == t193) = true then ((tree_Depth.f k a0_0 a0_1 a0_2 a0_3 l0_4).bind fun t194 => ((gossamerref02_Depth.f k a0_0 a0_1 a0_2 a0_3 l0_4).bind fun t195 => (if t194 = t195 then ((tree_Size.f k a0_0 a0_1 a0_2 a0_3 l0_4).bind fun t196 => ((gossamerref02_Size.f k a0_0 a0_1 a0_2 a0_3 l0_4).bind fun t197 => (if t196 = t197 then ((tree_Bare.f k a0_0 a0_1 a0_2 a0_3 l0_4).bind fun bt198 => ((gossamerref02_Bare.f k a0_0 a0_1 a0_2 a0_3 l0_4).bind fun bt205 => ((gossamerref02_One.f k bt198.1 bt198.2.1 bt198.2.2.1 bt198.2.2.2.1 bt198.2.2.2.2 bt205.1 bt205.2.1 bt205.2.2.1 bt205.2.2.2.1 bt205.2.2.2.2).bind fun t212 => (some t212)))) else (none)))) else (none)))) else (none)))) else (none)) = some r := H
  have A4 := Aside0.mk A40
  clear A40
  by_cases c5 : t191 = true
  ·subst c5
   have H1 : ((tree_May.f a0_0 a0_1 a0_2 a0_3 l0_4).bind fun t192 => ((gossamerref02_May.f k a0_0 a0_1 a0_2 a0_3 l0_4).bind fun t193 => (if (t192 == t193) = true then ((tree_Depth.f k a0_0 a0_1 a0_2 a0_3 l0_4).bind fun t194 => ((gossamerref02_Depth.f k a0_0 a0_1 a0_2 a0_3 l0_4).bind fun t195 => (if t194 = t195 then ((tree_Size.f k a0_0 a0_1 a0_2 a0_3 l0_4).bind fun t196 => ((gossamerref02_Size.f k a0_0 a0_1 a0_2 a0_3 l0_4).bind fun t197 => (if t196 = t197 then ((tree_Bare.f k a0_0 a0_1 a0_2 a0_3 l0_4).bind fun bt198 => ((gossamerref02_Bare.f k a0_0 a0_1 a0_2 a0_3 l0_4).bind fun bt205 => ((gossamerref02_One.f k bt198.1 bt198.2.1 bt198.2.2.1 bt198.2.2.2.1 bt198.2.2.2.2 bt205.1 bt205.2.1 bt205.2.2.1 bt205.2.2.2.1 bt205.2.2.2.2).bind fun t212 => (some t212)))) else (none)))) else (none)))) else (none)))) = some r := by rw [if_pos rfl] at H; exact H
   clear H
   have H := H1
   clear H1
   replace H := Option.bind_eq_some_iff.mp H
   obtain ⟨t192, A60, H⟩ := H
   replace H : ((gossamerref02_May.f k a0_0 a0_1 a0_2 a0_3 l0_4).bind fun t193 => (if (t192 == t193) = true then ((tree_Depth.f k a0_0 a0_1 a0_2 a0_3 l0_4).bind fun t194 => ((gossamerref02_Depth.f k a0_0 a0_1 a0_2 a0_3 l0_4).bind fun t195 => (if t194 = t195 then ((tree_Size.f k a0_0 a0_1 a0_2 a0_3 l0_4).bind fun t196 => ((gossamerref02_Size.f k a0_0 a0_1 a0_2 a0_3 l0_4).bind fun t197 => (if t196 = t197 then ((tree_Bare.f k a0_0 a0_1 a0_2 a0_3 l0_4).bind fun bt198 => ((gossamerref02_Bare.f k a0_0 a0_1 a0_2 a0_3 l0_4).bind fun bt205 => ((gossamerref02_One.f k bt198.1 bt198.2.1 bt198.2.2.1 bt198.2.2.2.1 bt198.2.2.2.2 bt205.1 bt205.2.1 bt205.2.2.1 bt205.2.2.2.1 bt205.2.2.2.2).bind fun t212 => (some t212)))) else (none)))) else (none)))) else (none))) = some r := H
   have A6 := Aside0.mk A60
   clear A60
   replace H := Option.bind_eq_some_iff.mp H
   obtain ⟨t193, A70, H⟩ := H
   replace H : (if (t192 == t193) = true then ((tree_Depth.f k a0_0 a0_1 a0_2 a0_3 l0_4).bind fun t194 => ((gossamerref02_Depth.f k a0_0 a0_1 a0_2 a0_3 l0_4).bind fun t195 => (if t194 = t195 then ((tree_Size.f k a0_0 a0_1 a0_2 a0_3 l0_4).bind fun t196 => ((gossamerref02_Size.f k a0_0 a0_1 a0_2 a0_3 l0_4).bind fun t197 => (if t196 = t197 then ((tree_Bare.f k a0_0 a0_1 a0_2 a0_3 l0_4).bind fun bt198 => ((gossamerref02_Bare.f k a0_0 a0_1 a0_2 a0_3 l0_4).bind fun bt205 => ((gossamerref02_One.f k bt198.1 bt198.2.1 bt198.2.2.1 bt198.2.2.2.1 bt198.2.2.2.2 bt205.1 bt205.2.1 bt205.2.2.1 bt205.2.2.2.1 bt205.2.2.2.2).bind fun t212 => (some t212)))) else (none)))) else (none)))) else (none)) = some r := H
   have A7 := Aside0.mk A70
   clear A70
   by_cases c8 : (t192 == t193) = true
   ·rw [if_pos c8] at H
    have c8b0 : (t192 == t193) = true := c8
    (try (have c8b1 : decide (t192 = t193) = true := by simpa using c8))
    (try (have c8b2 : (t192 == t193) = true := by simpa using c8))
    clear c8
    replace H := Option.bind_eq_some_iff.mp H
    obtain ⟨t194, A90, H⟩ := H
    replace H : ((gossamerref02_Depth.f k a0_0 a0_1 a0_2 a0_3 l0_4).bind fun t195 => (if t194 = t195 then ((tree_Size.f k a0_0 a0_1 a0_2 a0_3 l0_4).bind fun t196 => ((gossamerref02_Size.f k a0_0 a0_1 a0_2 a0_3 l0_4).bind fun t197 => (if t196 = t197 then ((tree_Bare.f k a0_0 a0_1 a0_2 a0_3 l0_4).bind fun bt198 => ((gossamerref02_Bare.f k a0_0 a0_1 a0_2 a0_3 l0_4).bind fun bt205 => ((gossamerref02_One.f k bt198.1 bt198.2.1 bt198.2.2.1 bt198.2.2.2.1 bt198.2.2.2.2 bt205.1 bt205.2.1 bt205.2.2.1 bt205.2.2.2.1 bt205.2.2.2.2).bind fun t212 => (some t212)))) else (none)))) else (none))) = some r := H
    have A9 := Aside0.mk A90
    clear A90
    replace H := Option.bind_eq_some_iff.mp H
    obtain ⟨t195, A100, H⟩ := H
    replace H : (if t194 = t195 then ((tree_Size.f k a0_0 a0_1 a0_2 a0_3 l0_4).bind fun t196 => ((gossamerref02_Size.f k a0_0 a0_1 a0_2 a0_3 l0_4).bind fun t197 => (if t196 = t197 then ((tree_Bare.f k a0_0 a0_1 a0_2 a0_3 l0_4).bind fun bt198 => ((gossamerref02_Bare.f k a0_0 a0_1 a0_2 a0_3 l0_4).bind fun bt205 => ((gossamerref02_One.f k bt198.1 bt198.2.1 bt198.2.2.1 bt198.2.2.2.1 bt198.2.2.2.2 bt205.1 bt205.2.1 bt205.2.2.1 bt205.2.2.2.1 bt205.2.2.2.2).bind fun t212 => (some t212)))) else (none)))) else (none)) = some r := H
    have A10 := Aside0.mk A100
    clear A100
    by_cases c11 : t194 = t195
    ·rw [if_pos c11] at H
     have c11b0 : (t194 == t195) = true := beq_iff_eq.mpr c11
     have c11b1 : (t194 != t195) = false := bne_eq_false_iff_eq.mpr c11
     clear c11
     replace H := Option.bind_eq_some_iff.mp H
     obtain ⟨t196, A120, H⟩ := H
     replace H : ((gossamerref02_Size.f k a0_0 a0_1 a0_2 a0_3 l0_4).bind fun t197 => (if t196 = t197 then ((tree_Bare.f k a0_0 a0_1 a0_2 a0_3 l0_4).bind fun bt198 => ((gossamerref02_Bare.f k a0_0 a0_1 a0_2 a0_3 l0_4).bind fun bt205 => ((gossamerref02_One.f k bt198.1 bt198.2.1 bt198.2.2.1 bt198.2.2.2.1 bt198.2.2.2.2 bt205.1 bt205.2.1 bt205.2.2.1 bt205.2.2.2.1 bt205.2.2.2.2).bind fun t212 => (some t212)))) else (none))) = some r := H
     have A12 := Aside0.mk A120
     clear A120
     replace H := Option.bind_eq_some_iff.mp H
     obtain ⟨t197, A130, H⟩ := H
     replace H : (if t196 = t197 then ((tree_Bare.f k a0_0 a0_1 a0_2 a0_3 l0_4).bind fun bt198 => ((gossamerref02_Bare.f k a0_0 a0_1 a0_2 a0_3 l0_4).bind fun bt205 => ((gossamerref02_One.f k bt198.1 bt198.2.1 bt198.2.2.1 bt198.2.2.2.1 bt198.2.2.2.2 bt205.1 bt205.2.1 bt205.2.2.1 bt205.2.2.2.1 bt205.2.2.2.2).bind fun t212 => (some t212)))) else (none)) = some r := H
     have A13 := Aside0.mk A130
     clear A130
     by_cases c14 : t196 = t197
     ·rw [if_pos c14] at H
      have c14b0 : (t196 == t197) = true := beq_iff_eq.mpr c14
      have c14b1 : (t196 != t197) = false := bne_eq_false_iff_eq.mpr c14
      clear c14
      replace H := Option.bind_eq_some_iff.mp H
      obtain ⟨⟨t198, t199, t200, t201, t202⟩, A150, H⟩ := H
      replace H : ((gossamerref02_Bare.f k a0_0 a0_1 a0_2 a0_3 l0_4).bind fun bt205 => ((gossamerref02_One.f k t198 t199 t200 t201 t202 bt205.1 bt205.2.1 bt205.2.2.1 bt205.2.2.2.1 bt205.2.2.2.2).bind fun t212 => (some t212))) = some r := H
      have A15 := Aside0.mk A150
      clear A150
      replace H := Option.bind_eq_some_iff.mp H
      obtain ⟨⟨t205, t206, t207, t208, t209⟩, A160, H⟩ := H
      replace H : ((gossamerref02_One.f k t198 t199 t200 t201 t202 t205 t206 t207 t208 t209).bind fun t212 => (some t212)) = some r := H
      have A16 := Aside0.mk A160
      clear A160
      replace H := Option.bind_eq_some_iff.mp H
      obtain ⟨t212, A170, H⟩ := H
      replace H : (some t212) = some r := H
      have A17 := Aside0.mk A170
      clear A170
      obtain rfl := Option.some.inj H
      go_enter Tryz.func3, Tryz.ntmps3
      try go_wp2_with (first|((with_reducible refine gate_dst (N := 1) rfl ?_); refine box_event ?hg (N := 1) ?hd (cs := #[.int .i64 a0_0, .string a0_1, .int .i64 a0_2, .int .i64 a0_3, .slice A0_4 l0_4.length c0_4]) (t := 24) ?hr ?_; (case hd => rfl); (case hg => rfl); (case hr => first|(go_simp; done)|(go_simp; rfl)); intro gb188 hg w18 hbox hb; have n0_ := Aside0.mk (below_step (by repeat (first|(with_reducible first|exact HB.out|apply below_alloc|apply pw_below_drewN|apply below_drew1)|exact HB.out)) hb); have n1_ := Aside0.mk (hbox); have n2_ := Aside0.mk ((by rw [hg]; exact (below_size (by repeat (first|(with_reducible first|exact HB.out|apply below_alloc|apply pw_below_drewN|apply below_drew1)|exact HB.out))) : w.heap.size ≤ gb188)); have n3_ := Aside0.mk ((by rw [hg]; exact (below_size (by repeat (first|(with_reducible first|exact HB.out|apply below_alloc|apply pw_below_drewN|apply below_drew1)|exact HB.out))) : w.heap.size ≤ gb188)); clear HB; have HB := n0_; have BK188 := n1_; have GW188 := n2_; have GE188 := n3_; clear n0_ n1_ n2_ n3_; clear hb hbox hg; have hcz19_0 : w18.cell? ⟨gb188, 0, none⟩ = some (.int .i64 a0_0) := (blk_cell BK188.out 0).trans rfl; have hcz19_1 : w18.cell? ⟨gb188, 1, none⟩ = some (.string a0_1) := (blk_cell BK188.out 1).trans rfl; have hcz19_2 : w18.cell? ⟨gb188, 2, none⟩ = some (.int .i64 a0_2) := (blk_cell BK188.out 2).trans rfl; have hcz19_3 : w18.cell? ⟨gb188, 3, none⟩ = some (.int .i64 a0_3) := (blk_cell BK188.out 3).trans rfl; have hcz19_4 : w18.cell? ⟨gb188, 4, none⟩ = some (.slice A0_4 l0_4.length c0_4) := (blk_cell BK188.out 4).trans rfl; have hfz19_0 := blk_frozen BK188.out 0; have hfz19_1 := blk_frozen BK188.out 1; have hfz19_2 := blk_frozen BK188.out 2; have hfz19_3 := blk_frozen BK188.out 3; have hfz19_4 := blk_frozen BK188.out 4) | ((with_reducible refine gate_callee (f := 4) rfl ?_); refine goesL_ (some 4) rfl rfl Tryz.func4 (by kernel_rfl) rfl #[.agg #[.int .i64 a0_0, .string a0_1, .int .i64 a0_2, .int .i64 a0_3, .slice A0_4 l0_4.length c0_4], .int .i64 500] rfl (by (try simp only [List.map_toArray, List.map_cons, List.map_nil]); first|done|rfl|(simp only [List.length_drop, List.length_take]; rfl)) ?_; (with_reducible refine (gossamerref02_Small.calls k a0_0 a0_1 a0_2 a0_3 _ _ l0_4 500 true _ ?side1 ?side2 A2.out).mono ?_); (case side1 => repeat (first|exact (Kd.C_below HR0_4.out HB.out)|(with_reducible refine Kd.C_alloc ?_ _)|(with_reducible refine Kd.C_drewN ?_ _)|(with_reducible refine Kd.C_drew ?_))); (case side2 => exact HC0_4.out); rintro e w20 ⟨rfl, hb⟩; refine ⟨_, rfl, ?_⟩; have n0_ := Aside0.mk (blk_below (g := gb188) (o := .cells #[.int .i64 a0_0, .string a0_1, .int .i64 a0_2, .int .i64 a0_3, .slice A0_4 l0_4.length c0_4] 24 (0, 0)) (by (with_reducible repeat (first|refine blk_drewN ?_ _|refine blk_drew ?_|refine blk_alloc ?_ _)); exact BK188.out) hb); have n1_ := Aside0.mk (below_step (by repeat (first|(with_reducible first|exact HB.out|apply below_alloc|apply pw_below_drewN|apply below_drew1|refine below_set ?_ GE188.out)|exact HB.out)) hb); clear BK188; clear HB; have BK188 := n0_; have HB := n1_; clear n0_ n1_; (try clear hb); (try clear hb2); (try clear hk); (try clear hi)))
      have n0_ := Aside0.mk (blk_drew BK188.out)
      have n1_ := Aside0.mk (below_drew1 HB.out)
      clear BK188
      clear HB
      have BK188 := n0_
      have HB := n1_
      clear n0_ n1_
      refine start_ (n := 30) (S := fun w' => w'.cell? ⟨gb188, 0, none⟩ = some (.int .i64 a0_0) ∧ w'.cell? ⟨gb188, 1, none⟩ = some (.string a0_1) ∧ w'.cell? ⟨gb188, 2, none⟩ = some (.int .i64 a0_2) ∧ w'.cell? ⟨gb188, 3, none⟩ = some (.int .i64 a0_3) ∧ w'.cell? ⟨gb188, 4, none⟩ = some (.slice A0_4 l0_4.length c0_4)) (ds := []) #[false, false, false, false, false, false, false, false, false, false, false, false, false, false, false, false, false, false, false, false, false, false, false, false, false, false, false, false, false, false] (by kernel_rfl) rfl rfl ⟨(blk_cell BK188.out 0).trans rfl, (blk_cell BK188.out 1).trans rfl, (blk_cell BK188.out 2).trans rfl, (blk_cell BK188.out 3).trans rfl, (blk_cell BK188.out 4).trans rfl⟩ (fun hHeld => ?_); refine with_tabW gossamerlaw02_TreeTells.tab3 gossamerlaw02_TreeTells.bits3 (fun HT_ HW_ => ?_)
      generalize w20.drew = w21 at BK188 HB hHeld ⊢
      refine one_ (i := 0) (N := some 7) #[true, false, false, false, false, false, false, false, false, false, false, false, false, false, false, false, false, false, false, false, false, false, false, false, false, false, false, false, false, false] rfl rfl (one_of HT_.out (by kernel_rfl)) (by decide) (fun K hK => ?_)
      refine goes_ Tryz.func5 (by kernel_rfl) rfl #[] (by rfl) rfl rfl (by (try simp only [List.map_toArray, List.map_cons, List.map_nil]); first|done|rfl|(simp only [List.length_drop, List.length_take]; rfl)) ?_
      with_reducible refine (gossamerlaw02_fixed.calls  true _ (LaidW.below HT.out (by repeat (first|(with_reducible first|exact HB.out|apply below_alloc|apply pw_below_drewN|apply below_drew1|refine below_set ?_ GE188.out)|exact HB.out))) A4.out).mono ?_
      rintro e w22 ⟨rfl, hb⟩
      refine ⟨_, rfl, ?_⟩
      have n0_ := Aside0.mk (blk_below (g := gb188) (o := .cells #[.int .i64 a0_0, .string a0_1, .int .i64 a0_2, .int .i64 a0_3, .slice A0_4 l0_4.length c0_4] 24 (0, 0)) (by (with_reducible repeat (first|refine blk_drewN ?_ _|refine blk_drew ?_|refine blk_alloc ?_ _)); exact BK188.out) hb)
      have n1_ := Aside0.mk (below_step (by repeat (first|(with_reducible first|exact HB.out|apply below_alloc|apply pw_below_drewN|apply below_drew1|refine below_set ?_ GE188.out)|exact HB.out)) hb)
      clear BK188
      clear HB
      have BK188 := n0_
      have HB := n1_
      clear n0_ n1_
      (try clear hb)
      (try clear hb2)
      (try clear hk)
      (try clear hi)
      refine hK.out _ _ ⟨(blk_cell BK188.out 0).trans rfl, (blk_cell BK188.out 1).trans rfl, (blk_cell BK188.out 2).trans rfl, (blk_cell BK188.out 3).trans rfl, (blk_cell BK188.out 4).trans rfl⟩ (fun hHeld => ?_)
      clear hK K
      refine norm_ (a' := ?_) ?_ ?_
      rotate_left
      ·show Act.put _ (some 7) _ = _
       simp only [Act.put, List.setIfInBounds_toArray, List.set_cons_zero, List.set_cons_succ, i64_w, i32_w]
       rfl
      refine pure_ (i := 1) (N := some 8) (v := ?_) (a' := ?_) #[true, true, false, false, false, false, false, false, false, false, false, false, false, false, false, false, false, false, false, false, false, false, false, false, false, false, false, false, false, false] rfl rfl (any_of HT_.out (by kernel_rfl)) (fun _ _ _ h => h) (Or.inl ⟨by rfl, ?_⟩) ?_ ?_
      rotate_left
      ·intro w'
       go_simp
       with_reducible rfl
      rotate_left
      ·simp only [Act.put, List.setIfInBounds_toArray, List.set_cons_zero, List.set_cons_succ, i64_w, i32_w]
       rfl
      refine take_ (i := 2) (N := some 9) (v := ?_) (a' := ?_) #[true, true, true, false, false, false, false, false, false, false, false, false, false, false, false, false, false, false, false, false, false, false, false, false, false, false, false, false, false, false] rfl rfl (take_ofW HT_.out HW_.out (by kernel_rfl)) (fun _ _ _ h => h) (Or.inl ⟨by rfl, ?_⟩) hHeld ?_ ?_
      rotate_left
      ·rintro w' ⟨s0, s1, s2, s3, s4⟩
       go_simp
       with_reducible rfl
      rotate_left
      ·simp only [Act.put, List.setIfInBounds_toArray, List.set_cons_zero, List.set_cons_succ, i64_w, i32_w]
       rfl
      refine take_ (i := 4) (N := some 11) (v := ?_) (a' := ?_) #[true, true, true, false, true, false, false, false, false, false, false, false, false, false, false, false, false, false, false, false, false, false, false, false, false, false, false, false, false, false] rfl rfl (take_ofW HT_.out HW_.out (by kernel_rfl)) (fun _ _ _ h => h) (Or.inl ⟨by rfl, ?_⟩) hHeld ?_ ?_
      rotate_left
      ·rintro w' ⟨s0, s1, s2, s3, s4⟩
       go_simp
       with_reducible rfl
      rotate_left
      ·simp only [Act.put, List.setIfInBounds_toArray, List.set_cons_zero, List.set_cons_succ, i64_w, i32_w]
       rfl
      refine one_ (i := 3) (N := some 10) #[true, true, true, true, true, false, false, false, false, false, false, false, false, false, false, false, false, false, false, false, false, false, false, false, false, false, false, false, false, false] rfl rfl (one_of HT_.out (by kernel_rfl)) (by decide) (fun K hK => ?_)
      refine goes_ Tryz.func6 (by kernel_rfl) rfl #[.agg #[.int .i64 a0_0, .string a0_1, .int .i64 a0_2, .int .i64 a0_3, .slice A0_4 l0_4.length c0_4]] (by rfl) rfl rfl (by (try simp only [List.map_toArray, List.map_cons, List.map_nil]); first|done|rfl|(simp only [List.length_drop, List.length_take]; rfl)) ?_
      with_reducible refine (tree_May.calls a0_0 a0_1 a0_2 a0_3 _ _ l0_4 t192 _ (LaidW.below HT.out (by repeat (first|(with_reducible first|exact HB.out|apply below_alloc|apply pw_below_drewN|apply below_drew1|refine below_set ?_ GE188.out)|exact HB.out))) ?side1 ?side2 A6.out).mono ?_
      (case side1 => repeat (first|exact (Kd.C_below HR0_4.out HB.out)|(with_reducible refine Kd.C_alloc ?_ _)|(with_reducible refine Kd.C_drewN ?_ _)|(with_reducible refine Kd.C_drew ?_)))
      (case side2 => exact HC0_4.out)
      rintro e w23 ⟨rfl, hb⟩
      refine ⟨_, rfl, ?_⟩
      have n0_ := Aside0.mk (blk_below (g := gb188) (o := .cells #[.int .i64 a0_0, .string a0_1, .int .i64 a0_2, .int .i64 a0_3, .slice A0_4 l0_4.length c0_4] 24 (0, 0)) (by (with_reducible repeat (first|refine blk_drewN ?_ _|refine blk_drew ?_|refine blk_alloc ?_ _)); exact BK188.out) hb)
      have n1_ := Aside0.mk (below_step (by repeat (first|(with_reducible first|exact HB.out|apply below_alloc|apply pw_below_drewN|apply below_drew1|refine below_set ?_ GE188.out)|exact HB.out)) hb)
      clear BK188
      clear HB
      have BK188 := n0_
      have HB := n1_
      clear n0_ n1_
      (try clear hb)
      (try clear hb2)
      (try clear hk)
      (try clear hi)
      refine hK.out _ _ ⟨(blk_cell BK188.out 0).trans rfl, (blk_cell BK188.out 1).trans rfl, (blk_cell BK188.out 2).trans rfl, (blk_cell BK188.out 3).trans rfl, (blk_cell BK188.out 4).trans rfl⟩ (fun hHeld => ?_)
      clear hK K
      refine norm_ (a' := ?_) ?_ ?_
      rotate_left
      ·show Act.put _ (some 10) _ = _
       simp only [Act.put, List.setIfInBounds_toArray, List.set_cons_zero, List.set_cons_succ, i64_w, i32_w]
       rfl
      refine one_ (i := 5) (N := some 12) #[true, true, true, true, true, true, false, false, false, false, false, false, false, false, false, false, false, false, false, false, false, false, false, false, false, false, false, false, false, false] rfl rfl (one_of HT_.out (by kernel_rfl)) (by decide) (fun K hK => ?_)
      refine goes_ Tryz.func7 (by kernel_rfl) rfl #[.agg #[.int .i64 a0_0, .string a0_1, .int .i64 a0_2, .int .i64 a0_3, .slice A0_4 l0_4.length c0_4]] (by rfl) rfl rfl (by (try simp only [List.map_toArray, List.map_cons, List.map_nil]); first|done|rfl|(simp only [List.length_drop, List.length_take]; rfl)) ?_
      with_reducible refine (gossamerref02_May.calls k a0_0 a0_1 a0_2 a0_3 _ _ l0_4 t193 _ ?side1 ?side2 A7.out).mono ?_
      (case side1 => repeat (first|exact (Kd.C_below HR0_4.out HB.out)|(with_reducible refine Kd.C_alloc ?_ _)|(with_reducible refine Kd.C_drewN ?_ _)|(with_reducible refine Kd.C_drew ?_)))
      (case side2 => exact HC0_4.out)
      rintro e w24 ⟨rfl, hb⟩
      refine ⟨_, rfl, ?_⟩
      have n0_ := Aside0.mk (blk_below (g := gb188) (o := .cells #[.int .i64 a0_0, .string a0_1, .int .i64 a0_2, .int .i64 a0_3, .slice A0_4 l0_4.length c0_4] 24 (0, 0)) (by (with_reducible repeat (first|refine blk_drewN ?_ _|refine blk_drew ?_|refine blk_alloc ?_ _)); exact BK188.out) hb)
      have n1_ := Aside0.mk (below_step (by repeat (first|(with_reducible first|exact HB.out|apply below_alloc|apply pw_below_drewN|apply below_drew1|refine below_set ?_ GE188.out)|exact HB.out)) hb)
      clear BK188
      clear HB
      have BK188 := n0_
      have HB := n1_
      clear n0_ n1_
      (try clear hb)
      (try clear hb2)
      (try clear hk)
      (try clear hi)
      refine hK.out _ _ ⟨(blk_cell BK188.out 0).trans rfl, (blk_cell BK188.out 1).trans rfl, (blk_cell BK188.out 2).trans rfl, (blk_cell BK188.out 3).trans rfl, (blk_cell BK188.out 4).trans rfl⟩ (fun hHeld => ?_)
      clear hK K
      refine norm_ (a' := ?_) ?_ ?_
      rotate_left
      ·show Act.put _ (some 12) _ = _
       simp only [Act.put, List.setIfInBounds_toArray, List.set_cons_zero, List.set_cons_succ, i64_w, i32_w]
       rfl
      refine pure_ (i := 6) (N := some 13) (v := ?_) (a' := ?_) #[true, true, true, true, true, true, true, false, false, false, false, false, false, false, false, false, false, false, false, false, false, false, false, false, false, false, false, false, false, false] rfl rfl (any_of HT_.out (by kernel_rfl)) (fun _ _ _ h => h) (Or.inl ⟨by rfl, ?_⟩) ?_ ?_
      rotate_left
      ·intro w'
       go_simp
       with_reducible rfl
      rotate_left
      ·simp only [Act.put, List.setIfInBounds_toArray, List.set_cons_zero, List.set_cons_succ, i64_w, i32_w]
       rfl
      refine pure_ (i := 7) (N := some 14) (v := ?_) (a' := ?_) #[true, true, true, true, true, true, true, true, false, false, false, false, false, false, false, false, false, false, false, false, false, false, false, false, false, false, false, false, false, false] rfl rfl (any_of HT_.out (by kernel_rfl)) (fun _ _ _ h => h) (Or.inl ⟨by rfl, ?_⟩) ?_ ?_
      rotate_left
      ·intro w'
       go_simp
       with_reducible rfl
      rotate_left
      ·simp only [Act.put, List.setIfInBounds_toArray, List.set_cons_zero, List.set_cons_succ, i64_w, i32_w]
       rfl
      refine pure_ (i := 8) (N := some 15) (v := ?_) (a' := ?_) #[true, true, true, true, true, true, true, true, true, false, false, false, false, false, false, false, false, false, false, false, false, false, false, false, false, false, false, false, false, false] rfl rfl (any_of HT_.out (by kernel_rfl)) (fun _ _ _ h => h) (Or.inl ⟨by rfl, ?_⟩) ?_ ?_
      rotate_left
      ·intro w'
       go_simp
       with_reducible rfl
      rotate_left
      ·simp only [Act.put, List.setIfInBounds_toArray, List.set_cons_zero, List.set_cons_succ, i64_w, i32_w]
       rfl
      refine take_ (i := 9) (N := some 16) (v := ?_) (a' := ?_) #[true, true, true, true, true, true, true, true, true, true, false, false, false, false, false, false, false, false, false, false, false, false, false, false, false, false, false, false, false, false] rfl rfl (take_ofW HT_.out HW_.out (by kernel_rfl)) (fun _ _ _ h => h) (Or.inl ⟨by rfl, ?_⟩) hHeld ?_ ?_
      rotate_left
      ·rintro w' ⟨s0, s1, s2, s3, s4⟩
       go_simp
       with_reducible rfl
      rotate_left
      ·simp only [Act.put, List.setIfInBounds_toArray, List.set_cons_zero, List.set_cons_succ, i64_w, i32_w]
       rfl
      refine take_ (i := 11) (N := some 18) (v := ?_) (a' := ?_) #[true, true, true, true, true, true, true, true, true, true, false, true, false, false, false, false, false, false, false, false, false, false, false, false, false, false, false, false, false, false] rfl rfl (take_ofW HT_.out HW_.out (by kernel_rfl)) (fun _ _ _ h => h) (Or.inl ⟨by rfl, ?_⟩) hHeld ?_ ?_
      rotate_left
      ·rintro w' ⟨s0, s1, s2, s3, s4⟩
       go_simp
       with_reducible rfl
      rotate_left
      ·simp only [Act.put, List.setIfInBounds_toArray, List.set_cons_zero, List.set_cons_succ, i64_w, i32_w]
       rfl
      refine one_ (i := 10) (N := some 17) #[true, true, true, true, true, true, true, true, true, true, true, true, false, false, false, false, false, false, false, false, false, false, false, false, false, false, false, false, false, false] rfl rfl (one_of HT_.out (by kernel_rfl)) (by decide) (fun K hK => ?_)
      refine goes_ Tryz.func8 (by kernel_rfl) rfl #[.agg #[.int .i64 a0_0, .string a0_1, .int .i64 a0_2, .int .i64 a0_3, .slice A0_4 l0_4.length c0_4]] (by rfl) rfl rfl (by (try simp only [List.map_toArray, List.map_cons, List.map_nil]); first|done|rfl|(simp only [List.length_drop, List.length_take]; rfl)) ?_
      with_reducible refine (tree_Depth.calls k a0_0 a0_1 a0_2 a0_3 _ _ l0_4 t194 _ ?side1 ?side2 A9.out).mono ?_
      (case side1 => repeat (first|exact (Kd.C_below HR0_4.out HB.out)|(with_reducible refine Kd.C_alloc ?_ _)|(with_reducible refine Kd.C_drewN ?_ _)|(with_reducible refine Kd.C_drew ?_)))
      (case side2 => exact HC0_4.out)
      rintro e w25 ⟨rfl, hb⟩
      refine ⟨_, rfl, ?_⟩
      have n0_ := Aside0.mk (blk_below (g := gb188) (o := .cells #[.int .i64 a0_0, .string a0_1, .int .i64 a0_2, .int .i64 a0_3, .slice A0_4 l0_4.length c0_4] 24 (0, 0)) (by (with_reducible repeat (first|refine blk_drewN ?_ _|refine blk_drew ?_|refine blk_alloc ?_ _)); exact BK188.out) hb)
      have n1_ := Aside0.mk (below_step (by repeat (first|(with_reducible first|exact HB.out|apply below_alloc|apply pw_below_drewN|apply below_drew1|refine below_set ?_ GE188.out)|exact HB.out)) hb)
      clear BK188
      clear HB
      have BK188 := n0_
      have HB := n1_
      clear n0_ n1_
      (try clear hb)
      (try clear hb2)
      (try clear hk)
      (try clear hi)
      refine hK.out _ _ ⟨(blk_cell BK188.out 0).trans rfl, (blk_cell BK188.out 1).trans rfl, (blk_cell BK188.out 2).trans rfl, (blk_cell BK188.out 3).trans rfl, (blk_cell BK188.out 4).trans rfl⟩ (fun hHeld => ?_)
      clear hK K
      refine norm_ (a' := ?_) ?_ ?_
      rotate_left
      ·show Act.put _ (some 17) _ = _
       simp only [Act.put, List.setIfInBounds_toArray, List.set_cons_zero, List.set_cons_succ, i64_w, i32_w]
       rfl
      refine one_ (i := 12) (N := some 19) #[true, true, true, true, true, true, true, true, true, true, true, true, true, false, false, false, false, false, false, false, false, false, false, false, false, false, false, false, false, false] rfl rfl (one_of HT_.out (by kernel_rfl)) (by decide) (fun K hK => ?_)
      refine goes_ Tryz.func9 (by kernel_rfl) rfl #[.agg #[.int .i64 a0_0, .string a0_1, .int .i64 a0_2, .int .i64 a0_3, .slice A0_4 l0_4.length c0_4]] (by rfl) rfl rfl (by (try simp only [List.map_toArray, List.map_cons, List.map_nil]); first|done|rfl|(simp only [List.length_drop, List.length_take]; rfl)) ?_
      with_reducible refine (gossamerref02_Depth.calls k a0_0 a0_1 a0_2 a0_3 _ _ l0_4 t195 _ ?side1 ?side2 A10.out).mono ?_
      (case side1 => repeat (first|exact (Kd.C_below HR0_4.out HB.out)|(with_reducible refine Kd.C_alloc ?_ _)|(with_reducible refine Kd.C_drewN ?_ _)|(with_reducible refine Kd.C_drew ?_)))
      (case side2 => exact HC0_4.out)
      rintro e w26 ⟨rfl, hb⟩
      refine ⟨_, rfl, ?_⟩
      have n0_ := Aside0.mk (blk_below (g := gb188) (o := .cells #[.int .i64 a0_0, .string a0_1, .int .i64 a0_2, .int .i64 a0_3, .slice A0_4 l0_4.length c0_4] 24 (0, 0)) (by (with_reducible repeat (first|refine blk_drewN ?_ _|refine blk_drew ?_|refine blk_alloc ?_ _)); exact BK188.out) hb)
      have n1_ := Aside0.mk (below_step (by repeat (first|(with_reducible first|exact HB.out|apply below_alloc|apply pw_below_drewN|apply below_drew1|refine below_set ?_ GE188.out)|exact HB.out)) hb)
      clear BK188
      clear HB
      have BK188 := n0_
      have HB := n1_
      clear n0_ n1_
      (try clear hb)
      (try clear hb2)
      (try clear hk)
      (try clear hi)
      refine hK.out _ _ ⟨(blk_cell BK188.out 0).trans rfl, (blk_cell BK188.out 1).trans rfl, (blk_cell BK188.out 2).trans rfl, (blk_cell BK188.out 3).trans rfl, (blk_cell BK188.out 4).trans rfl⟩ (fun hHeld => ?_)
      clear hK K
      refine norm_ (a' := ?_) ?_ ?_
      rotate_left
      ·show Act.put _ (some 19) _ = _
       simp only [Act.put, List.setIfInBounds_toArray, List.set_cons_zero, List.set_cons_succ, i64_w, i32_w]
       rfl
      refine pure_ (i := 13) (N := some 20) (v := ?_) (a' := ?_) #[true, true, true, true, true, true, true, true, true, true, true, true, true, true, false, false, false, false, false, false, false, false, false, false, false, false, false, false, false, false] rfl rfl (any_of HT_.out (by kernel_rfl)) (fun _ _ _ h => h) (Or.inl ⟨by rfl, ?_⟩) ?_ ?_
      rotate_left
      ·intro w'
       go_simp
       with_reducible rfl
      rotate_left
      ·simp only [Act.put, List.setIfInBounds_toArray, List.set_cons_zero, List.set_cons_succ, i64_w, i32_w]
       rfl
      refine pure_ (i := 14) (N := some 21) (v := ?_) (a' := ?_) #[true, true, true, true, true, true, true, true, true, true, true, true, true, true, true, false, false, false, false, false, false, false, false, false, false, false, false, false, false, false] rfl rfl (any_of HT_.out (by kernel_rfl)) (fun _ _ _ h => h) (Or.inl ⟨by rfl, ?_⟩) ?_ ?_
      rotate_left
      ·intro w'
       go_simp
       with_reducible rfl
      rotate_left
      ·simp only [Act.put, List.setIfInBounds_toArray, List.set_cons_zero, List.set_cons_succ, i64_w, i32_w]
       rfl
      refine pure_ (i := 15) (N := some 22) (v := ?_) (a' := ?_) #[true, true, true, true, true, true, true, true, true, true, true, true, true, true, true, true, false, false, false, false, false, false, false, false, false, false, false, false, false, false] rfl rfl (any_of HT_.out (by kernel_rfl)) (fun _ _ _ h => h) (Or.inl ⟨by rfl, ?_⟩) ?_ ?_
      rotate_left
      ·intro w'
       go_simp
       with_reducible rfl
      rotate_left
      ·simp only [Act.put, List.setIfInBounds_toArray, List.set_cons_zero, List.set_cons_succ, i64_w, i32_w]
       rfl
      refine take_ (i := 16) (N := some 23) (v := ?_) (a' := ?_) #[true, true, true, true, true, true, true, true, true, true, true, true, true, true, true, true, true, false, false, false, false, false, false, false, false, false, false, false, false, false] rfl rfl (take_ofW HT_.out HW_.out (by kernel_rfl)) (fun _ _ _ h => h) (Or.inl ⟨by rfl, ?_⟩) hHeld ?_ ?_
      rotate_left
      ·rintro w' ⟨s0, s1, s2, s3, s4⟩
       go_simp
       with_reducible rfl
      rotate_left
      ·simp only [Act.put, List.setIfInBounds_toArray, List.set_cons_zero, List.set_cons_succ, i64_w, i32_w]
       rfl
      refine take_ (i := 18) (N := some 25) (v := ?_) (a' := ?_) #[true, true, true, true, true, true, true, true, true, true, true, true, true, true, true, true, true, false, true, false, false, false, false, false, false, false, false, false, false, false] rfl rfl (take_ofW HT_.out HW_.out (by kernel_rfl)) (fun _ _ _ h => h) (Or.inl ⟨by rfl, ?_⟩) hHeld ?_ ?_
      rotate_left
      ·rintro w' ⟨s0, s1, s2, s3, s4⟩
       go_simp
       with_reducible rfl
      rotate_left
      ·simp only [Act.put, List.setIfInBounds_toArray, List.set_cons_zero, List.set_cons_succ, i64_w, i32_w]
       rfl
      refine one_ (i := 17) (N := some 24) #[true, true, true, true, true, true, true, true, true, true, true, true, true, true, true, true, true, true, true, false, false, false, false, false, false, false, false, false, false, false] rfl rfl (one_of HT_.out (by kernel_rfl)) (by decide) (fun K hK => ?_)
      refine goes_ Tryz.func10 (by kernel_rfl) rfl #[.agg #[.int .i64 a0_0, .string a0_1, .int .i64 a0_2, .int .i64 a0_3, .slice A0_4 l0_4.length c0_4]] (by rfl) rfl rfl (by (try simp only [List.map_toArray, List.map_cons, List.map_nil]); first|done|rfl|(simp only [List.length_drop, List.length_take]; rfl)) ?_
      with_reducible refine (tree_Size.calls k a0_0 a0_1 a0_2 a0_3 _ _ l0_4 t196 _ ?side1 ?side2 A12.out).mono ?_
      (case side1 => repeat (first|exact (Kd.C_below HR0_4.out HB.out)|(with_reducible refine Kd.C_alloc ?_ _)|(with_reducible refine Kd.C_drewN ?_ _)|(with_reducible refine Kd.C_drew ?_)))
      (case side2 => exact HC0_4.out)
      rintro e w27 ⟨rfl, hb⟩
      refine ⟨_, rfl, ?_⟩
      have n0_ := Aside0.mk (blk_below (g := gb188) (o := .cells #[.int .i64 a0_0, .string a0_1, .int .i64 a0_2, .int .i64 a0_3, .slice A0_4 l0_4.length c0_4] 24 (0, 0)) (by (with_reducible repeat (first|refine blk_drewN ?_ _|refine blk_drew ?_|refine blk_alloc ?_ _)); exact BK188.out) hb)
      have n1_ := Aside0.mk (below_step (by repeat (first|(with_reducible first|exact HB.out|apply below_alloc|apply pw_below_drewN|apply below_drew1|refine below_set ?_ GE188.out)|exact HB.out)) hb)
      clear BK188
      clear HB
      have BK188 := n0_
      have HB := n1_
      clear n0_ n1_
      (try clear hb)
      (try clear hb2)
      (try clear hk)
      (try clear hi)
      refine hK.out _ _ ⟨(blk_cell BK188.out 0).trans rfl, (blk_cell BK188.out 1).trans rfl, (blk_cell BK188.out 2).trans rfl, (blk_cell BK188.out 3).trans rfl, (blk_cell BK188.out 4).trans rfl⟩ (fun hHeld => ?_)
      clear hK K
      refine norm_ (a' := ?_) ?_ ?_
      rotate_left
      ·show Act.put _ (some 24) _ = _
       simp only [Act.put, List.setIfInBounds_toArray, List.set_cons_zero, List.set_cons_succ, i64_w, i32_w]
       rfl
      refine one_ (i := 19) (N := some 26) #[true, true, true, true, true, true, true, true, true, true, true, true, true, true, true, true, true, true, true, true, false, false, false, false, false, false, false, false, false, false] rfl rfl (one_of HT_.out (by kernel_rfl)) (by decide) (fun K hK => ?_)
      refine goes_ Tryz.func11 (by kernel_rfl) rfl #[.agg #[.int .i64 a0_0, .string a0_1, .int .i64 a0_2, .int .i64 a0_3, .slice A0_4 l0_4.length c0_4]] (by rfl) rfl rfl (by (try simp only [List.map_toArray, List.map_cons, List.map_nil]); first|done|rfl|(simp only [List.length_drop, List.length_take]; rfl)) ?_
      with_reducible refine (gossamerref02_Size.calls k a0_0 a0_1 a0_2 a0_3 _ _ l0_4 t197 _ ?side1 ?side2 A13.out).mono ?_
      (case side1 => repeat (first|exact (Kd.C_below HR0_4.out HB.out)|(with_reducible refine Kd.C_alloc ?_ _)|(with_reducible refine Kd.C_drewN ?_ _)|(with_reducible refine Kd.C_drew ?_)))
      (case side2 => exact HC0_4.out)
      rintro e w28 ⟨rfl, hb⟩
      refine ⟨_, rfl, ?_⟩
      have n0_ := Aside0.mk (blk_below (g := gb188) (o := .cells #[.int .i64 a0_0, .string a0_1, .int .i64 a0_2, .int .i64 a0_3, .slice A0_4 l0_4.length c0_4] 24 (0, 0)) (by (with_reducible repeat (first|refine blk_drewN ?_ _|refine blk_drew ?_|refine blk_alloc ?_ _)); exact BK188.out) hb)
      have n1_ := Aside0.mk (below_step (by repeat (first|(with_reducible first|exact HB.out|apply below_alloc|apply pw_below_drewN|apply below_drew1|refine below_set ?_ GE188.out)|exact HB.out)) hb)
      clear BK188
      clear HB
      have BK188 := n0_
      have HB := n1_
      clear n0_ n1_
      (try clear hb)
      (try clear hb2)
      (try clear hk)
      (try clear hi)
      refine hK.out _ _ ⟨(blk_cell BK188.out 0).trans rfl, (blk_cell BK188.out 1).trans rfl, (blk_cell BK188.out 2).trans rfl, (blk_cell BK188.out 3).trans rfl, (blk_cell BK188.out 4).trans rfl⟩ (fun hHeld => ?_)
      clear hK K
      refine norm_ (a' := ?_) ?_ ?_
      rotate_left
      ·show Act.put _ (some 26) _ = _
       simp only [Act.put, List.setIfInBounds_toArray, List.set_cons_zero, List.set_cons_succ, i64_w, i32_w]
       rfl
      refine pure_ (i := 20) (N := some 27) (v := ?_) (a' := ?_) #[true, true, true, true, true, true, true, true, true, true, true, true, true, true, true, true, true, true, true, true, true, false, false, false, false, false, false, false, false, false] rfl rfl (any_of HT_.out (by kernel_rfl)) (fun _ _ _ h => h) (Or.inl ⟨by rfl, ?_⟩) ?_ ?_
      rotate_left
      ·intro w'
       go_simp
       with_reducible rfl
      rotate_left
      ·simp only [Act.put, List.setIfInBounds_toArray, List.set_cons_zero, List.set_cons_succ, i64_w, i32_w]
       rfl
      refine pure_ (i := 21) (N := some 28) (v := ?_) (a' := ?_) #[true, true, true, true, true, true, true, true, true, true, true, true, true, true, true, true, true, true, true, true, true, true, false, false, false, false, false, false, false, false] rfl rfl (any_of HT_.out (by kernel_rfl)) (fun _ _ _ h => h) (Or.inl ⟨by rfl, ?_⟩) ?_ ?_
      rotate_left
      ·intro w'
       go_simp
       with_reducible rfl
      rotate_left
      ·simp only [Act.put, List.setIfInBounds_toArray, List.set_cons_zero, List.set_cons_succ, i64_w, i32_w]
       rfl
      refine pure_ (i := 22) (N := some 29) (v := ?_) (a' := ?_) #[true, true, true, true, true, true, true, true, true, true, true, true, true, true, true, true, true, true, true, true, true, true, true, false, false, false, false, false, false, false] rfl rfl (any_of HT_.out (by kernel_rfl)) (fun _ _ _ h => h) (Or.inl ⟨by rfl, ?_⟩) ?_ ?_
      rotate_left
      ·intro w'
       go_simp
       with_reducible rfl
      rotate_left
      ·simp only [Act.put, List.setIfInBounds_toArray, List.set_cons_zero, List.set_cons_succ, i64_w, i32_w]
       rfl
      refine take_ (i := 23) (N := some 30) (v := ?_) (a' := ?_) #[true, true, true, true, true, true, true, true, true, true, true, true, true, true, true, true, true, true, true, true, true, true, true, true, false, false, false, false, false, false] rfl rfl (take_ofW HT_.out HW_.out (by kernel_rfl)) (fun _ _ _ h => h) (Or.inl ⟨by rfl, ?_⟩) hHeld ?_ ?_
      rotate_left
      ·rintro w' ⟨s0, s1, s2, s3, s4⟩
       go_simp
       with_reducible rfl
      rotate_left
      ·simp only [Act.put, List.setIfInBounds_toArray, List.set_cons_zero, List.set_cons_succ, i64_w, i32_w]
       rfl
      refine take_ (i := 25) (N := some 32) (v := ?_) (a' := ?_) #[true, true, true, true, true, true, true, true, true, true, true, true, true, true, true, true, true, true, true, true, true, true, true, true, false, true, false, false, false, false] rfl rfl (take_ofW HT_.out HW_.out (by kernel_rfl)) (fun _ _ _ h => h) (Or.inl ⟨by rfl, ?_⟩) hHeld ?_ ?_
      rotate_left
      ·rintro w' ⟨s0, s1, s2, s3, s4⟩
       go_simp
       with_reducible rfl
      rotate_left
      ·simp only [Act.put, List.setIfInBounds_toArray, List.set_cons_zero, List.set_cons_succ, i64_w, i32_w]
       rfl
      refine one_ (i := 24) (N := some 31) #[true, true, true, true, true, true, true, true, true, true, true, true, true, true, true, true, true, true, true, true, true, true, true, true, true, true, false, false, false, false] rfl rfl (one_of HT_.out (by kernel_rfl)) (by decide) (fun K hK => ?_)
      refine goes_ Tryz.func13 (by kernel_rfl) rfl #[.agg #[.int .i64 a0_0, .string a0_1, .int .i64 a0_2, .int .i64 a0_3, .slice A0_4 l0_4.length c0_4]] (by rfl) rfl rfl (by (try simp only [List.map_toArray, List.map_cons, List.map_nil]); first|done|rfl|(simp only [List.length_drop, List.length_take]; rfl)) ?_
      with_reducible refine (tree_Bare.calls k a0_0 a0_1 a0_2 a0_3 _ _ l0_4 t198 t199 t200 t201 t202 _ ?side1 ?side2 A15.out).mono ?_
      (case side1 => repeat (first|exact (Kd.C_below HR0_4.out HB.out)|(with_reducible refine Kd.C_alloc ?_ _)|(with_reducible refine Kd.C_drewN ?_ _)|(with_reducible refine Kd.C_drew ?_)))
      (case side2 => exact HC0_4.out)
      rintro e w29 ⟨v203, rfl, ho0, hb⟩
      refine ⟨_, rfl, ?_⟩
      have n0_ := Aside0.mk (Kd.R_lower (Kd.R_newB ho0 (g := gb188) (o := .cells #[.int .i64 a0_0, .string a0_1, .int .i64 a0_2, .int .i64 a0_3, .slice A0_4 l0_4.length c0_4] 24 (0, 0)) (by (with_reducible repeat (first|refine blk_drewN ?_ _|refine blk_drew ?_|refine blk_alloc ?_ _)); exact BK188.out)) (below_size (by repeat (first|(with_reducible first|exact HB.out|apply below_alloc|apply pw_below_drewN|apply below_drew1|refine below_set ?_ GE188.out)|exact HB.out))))
      have n1_ := Aside0.mk (blk_below (g := gb188) (o := .cells #[.int .i64 a0_0, .string a0_1, .int .i64 a0_2, .int .i64 a0_3, .slice A0_4 l0_4.length c0_4] 24 (0, 0)) (by (with_reducible repeat (first|refine blk_drewN ?_ _|refine blk_drew ?_|refine blk_alloc ?_ _)); exact BK188.out) hb)
      have n2_ := Aside0.mk (below_step (by repeat (first|(with_reducible first|exact HB.out|apply below_alloc|apply pw_below_drewN|apply below_drew1|refine below_set ?_ GE188.out)|exact HB.out)) hb)
      clear BK188
      clear HB
      have HO204 := n0_
      have BK188 := n1_
      have HB := n2_
      clear n0_ n1_ n2_
      (try clear hb)
      (try clear hb2)
      (try clear hk)
      (try clear hi)
      (try clear ho0)
      refine hK.out _ _ ⟨(blk_cell BK188.out 0).trans rfl, (blk_cell BK188.out 1).trans rfl, (blk_cell BK188.out 2).trans rfl, (blk_cell BK188.out 3).trans rfl, (blk_cell BK188.out 4).trans rfl⟩ (fun hHeld => ?_)
      clear hK K
      refine norm_ (a' := ?_) ?_ ?_
      rotate_left
      ·show Act.put _ (some 31) _ = _
       simp only [Act.put, List.setIfInBounds_toArray, List.set_cons_zero, List.set_cons_succ, i64_w, i32_w]
       rfl
      refine one_ (i := 26) (N := some 33) #[true, true, true, true, true, true, true, true, true, true, true, true, true, true, true, true, true, true, true, true, true, true, true, true, true, true, true, false, false, false] rfl rfl (one_of HT_.out (by kernel_rfl)) (by decide) (fun K hK => ?_)
      refine goes_ Tryz.func14 (by kernel_rfl) rfl #[.agg #[.int .i64 a0_0, .string a0_1, .int .i64 a0_2, .int .i64 a0_3, .slice A0_4 l0_4.length c0_4]] (by rfl) rfl rfl (by (try simp only [List.map_toArray, List.map_cons, List.map_nil]); first|done|rfl|(simp only [List.length_drop, List.length_take]; rfl)) ?_
      with_reducible refine (gossamerref02_Bare.calls k a0_0 a0_1 a0_2 a0_3 _ _ l0_4 t205 t206 t207 t208 t209 _ ?side1 ?side2 A16.out).mono ?_
      (case side1 => repeat (first|exact (Kd.C_below HR0_4.out HB.out)|(with_reducible refine Kd.C_alloc ?_ _)|(with_reducible refine Kd.C_drewN ?_ _)|(with_reducible refine Kd.C_drew ?_)))
      (case side2 => exact HC0_4.out)
      rintro e w30 ⟨v210, rfl, ho0, hb⟩
      refine ⟨_, rfl, ?_⟩
      have n0_ := Aside0.mk (Kd.R_elder' (by (with_reducible repeat (first|apply Kd.R_alloc|apply Kd.R_drewN|apply Kd.R_drew)); exact HO204.out) (Kd.R_base ho0) hb)
      have n1_ := Aside0.mk (Kd.R_lower (Kd.R_newB (Kd.R_new' ho0 (Kd.R_lt (by (with_reducible repeat (first|apply Kd.R_alloc|apply Kd.R_drewN|apply Kd.R_drew)); exact HO204.out))) (g := gb188) (o := .cells #[.int .i64 a0_0, .string a0_1, .int .i64 a0_2, .int .i64 a0_3, .slice A0_4 l0_4.length c0_4] 24 (0, 0)) (by (with_reducible repeat (first|refine blk_drewN ?_ _|refine blk_drew ?_|refine blk_alloc ?_ _)); exact BK188.out)) (below_size (by repeat (first|(with_reducible first|exact HB.out|apply below_alloc|apply pw_below_drewN|apply below_drew1|refine below_set ?_ GE188.out)|exact HB.out))))
      have n2_ := Aside0.mk (blk_below (g := gb188) (o := .cells #[.int .i64 a0_0, .string a0_1, .int .i64 a0_2, .int .i64 a0_3, .slice A0_4 l0_4.length c0_4] 24 (0, 0)) (by (with_reducible repeat (first|refine blk_drewN ?_ _|refine blk_drew ?_|refine blk_alloc ?_ _)); exact BK188.out) hb)
      have n3_ := Aside0.mk (below_step (by repeat (first|(with_reducible first|exact HB.out|apply below_alloc|apply pw_below_drewN|apply below_drew1|refine below_set ?_ GE188.out)|exact HB.out)) hb)
      clear HO204
      clear BK188
      clear HB
      have HO204 := n0_
      have HO211 := n1_
      have BK188 := n2_
      have HB := n3_
      clear n0_ n1_ n2_ n3_
      (try clear hb)
      (try clear hb2)
      (try clear hk)
      (try clear hi)
      (try clear ho0)
      obtain ⟨Ao31, co31, eo31⟩ := Kd.R_slice HO204.out
      (first|subst eo31 | (injection eo31 with f1_ f2_ f3_; have f4_ := f1_.symm; have f5_ := f3_.symm; clear f1_ f2_ f3_; subst f4_; subst f5_))
      obtain ⟨Ao32, co32, eo32⟩ := Kd.R_slice HO211.out
      (first|subst eo32 | (injection eo32 with f1_ f2_ f3_; have f4_ := f1_.symm; have f5_ := f3_.symm; clear f1_ f2_ f3_; subst f4_; subst f5_))
      refine hK.out _ _ ⟨(blk_cell BK188.out 0).trans rfl, (blk_cell BK188.out 1).trans rfl, (blk_cell BK188.out 2).trans rfl, (blk_cell BK188.out 3).trans rfl, (blk_cell BK188.out 4).trans rfl⟩ (fun hHeld => ?_)
      clear hK K
      refine norm_ (a' := ?_) ?_ ?_
      rotate_left
      ·show Act.put _ (some 33) _ = _
       simp only [Act.put, List.setIfInBounds_toArray, List.set_cons_zero, List.set_cons_succ, i64_w, i32_w]
       rfl
      refine one_ (i := 27) (N := some 34) #[true, true, true, true, true, true, true, true, true, true, true, true, true, true, true, true, true, true, true, true, true, true, true, true, true, true, true, true, false, false] rfl rfl (one_of HT_.out (by kernel_rfl)) (by decide) (fun K hK => ?_)
      refine goes_ Tryz.func12 (by kernel_rfl) rfl #[.agg #[.int .i64 t198, .string t199, .int .i64 t200, .int .i64 t201, .slice Ao31 t202.length co31], .agg #[.int .i64 t205, .string t206, .int .i64 t207, .int .i64 t208, .slice Ao32 t209.length co32]] (by rfl) rfl rfl (by (try simp only [List.map_toArray, List.map_cons, List.map_nil]); first|done|rfl|(simp only [List.length_drop, List.length_take]; rfl)) ?_
      with_reducible refine (gossamerref02_One.calls k t198 t199 t200 t201 _ _ t202 t205 t206 t207 t208 _ _ t209 t212 _ ?side1 ?side2 ?side3 ?side4 A17.out).mono ?_
      (case side1 => repeat (first|exact (Kd.R_reads' HO204.out).2.2|(with_reducible refine Kd.C_alloc ?_ _)|(with_reducible refine Kd.C_drewN ?_ _)|(with_reducible refine Kd.C_drew ?_)))
      (case side2 => exact (Kd.R_reads' HO204.out).2.1)
      (case side3 => repeat (first|exact (Kd.R_reads' HO211.out).2.2|(with_reducible refine Kd.C_alloc ?_ _)|(with_reducible refine Kd.C_drewN ?_ _)|(with_reducible refine Kd.C_drew ?_)))
      (case side4 => exact (Kd.R_reads' HO211.out).2.1)
      rintro e w33 ⟨rfl, hb⟩
      refine ⟨_, rfl, ?_⟩
      have n0_ := Aside0.mk (Kd.R_below (by (with_reducible repeat (first|apply Kd.R_alloc|apply Kd.R_drewN|apply Kd.R_drew)); exact HO204.out) hb)
      have n1_ := Aside0.mk (Kd.R_below (by (with_reducible repeat (first|apply Kd.R_alloc|apply Kd.R_drewN|apply Kd.R_drew)); exact HO211.out) hb)
      have n2_ := Aside0.mk (blk_below (g := gb188) (o := .cells #[.int .i64 a0_0, .string a0_1, .int .i64 a0_2, .int .i64 a0_3, .slice A0_4 l0_4.length c0_4] 24 (0, 0)) (by (with_reducible repeat (first|refine blk_drewN ?_ _|refine blk_drew ?_|refine blk_alloc ?_ _)); exact BK188.out) hb)
      have n3_ := Aside0.mk (below_step (by repeat (first|(with_reducible first|exact HB.out|apply below_alloc|apply pw_below_drewN|apply below_drew1|refine below_set ?_ GE188.out)|exact HB.out)) hb)
      clear HO204
      clear HO211
      clear BK188
      clear HB
      have HO204 := n0_
      have HO211 := n1_
      have BK188 := n2_
      have HB := n3_
      clear n0_ n1_ n2_ n3_
      (try clear hb)
      (try clear hb2)
      (try clear hk)
      (try clear hi)
      refine hK.out _ _ ⟨(blk_cell BK188.out 0).trans rfl, (blk_cell BK188.out 1).trans rfl, (blk_cell BK188.out 2).trans rfl, (blk_cell BK188.out 3).trans rfl, (blk_cell BK188.out 4).trans rfl⟩ (fun hHeld => ?_)
      clear hK K
      refine norm_ (a' := ?_) ?_ ?_
      rotate_left
      ·show Act.put _ (some 34) _ = _
       simp only [Act.put, List.setIfInBounds_toArray, List.set_cons_zero, List.set_cons_succ, i64_w, i32_w]
       rfl
      refine pure_ (i := 28) (N := some 35) (v := ?_) (a' := ?_) #[true, true, true, true, true, true, true, true, true, true, true, true, true, true, true, true, true, true, true, true, true, true, true, true, true, true, true, true, true, false] rfl rfl (any_of HT_.out (by kernel_rfl)) (fun _ _ _ h => h) (Or.inl ⟨by rfl, ?_⟩) ?_ ?_
      rotate_left
      ·intro w'
       go_simp
       with_reducible rfl
      rotate_left
      ·simp only [Act.put, List.setIfInBounds_toArray, List.set_cons_zero, List.set_cons_succ, i64_w, i32_w]
       rfl
      refine pure_ (i := 29) (N := some 2) (v := ?_) (a' := ?_) #[true, true, true, true, true, true, true, true, true, true, true, true, true, true, true, true, true, true, true, true, true, true, true, true, true, true, true, true, true, true] rfl rfl (any_of HT_.out (by kernel_rfl)) (fun _ _ _ h => h) (Or.inl ⟨by rfl, ?_⟩) ?_ ?_
      rotate_left
      ·intro w'
       go_simp
       with_reducible rfl
      rotate_left
      ·simp only [Act.put, List.setIfInBounds_toArray, List.set_cons_zero, List.set_cons_succ, i64_w, i32_w]
       rfl
      refine done_ (done_of HT_.out (by kernel_rfl)) ?_
      try go_wp2
      go_ret
      exact ⟨by first|rfl|(simp [errW_none, errW_some] <;> rfl)|(simp [*, errW_none, errW_some] <;> rfl), by repeat (first|(with_reducible first|exact HB.out|apply below_alloc|apply pw_below_drewN|apply below_drew1|refine below_set ?_ GE188.out)|exact HB.out)⟩
     ·rw [if_neg c14] at H
      exact absurd H (by simp)
    ·rw [if_neg c11] at H
     exact absurd H (by simp)
   ·rw [if_neg c8] at H
    exact absurd H (by simp)
  ·replace c5 := Bool.eq_false_iff.mpr c5
   subst c5
   have H1 : (none) = some r := by rw [if_neg (show ¬ (false = true) by decide)] at H; exact H
   clear H
   have H := H1
   clear H1
   exact absurd H (by simp)
 ·replace c3 := Bool.eq_false_iff.mpr c3
  subst c3
  have H1 : ((gossamerlaw02_fixed.f).bind fun t190 => (some t190)) = some r := by rw [if_neg (show ¬ (false = true) by decide)] at H; exact H
  clear H
  have H := H1
  clear H1
  replace H := Option.bind_eq_some_iff.mp H
  obtain ⟨t190, A340, H⟩ := H
  replace H : (some t190) = some r := H
  have A34 := Aside0.mk A340
  clear A340
  obtain rfl := Option.some.inj H
  go_enter Tryz.func3, Tryz.ntmps3
  go_wp2_with (first|((with_reducible refine gate_dst (N := 1) rfl ?_); refine box_event ?hg (N := 1) ?hd (cs := #[.int .i64 a0_0, .string a0_1, .int .i64 a0_2, .int .i64 a0_3, .slice A0_4 l0_4.length c0_4]) (t := 24) ?hr ?_; (case hd => rfl); (case hg => rfl); (case hr => first|(go_simp; done)|(go_simp; rfl)); intro gb188 hg w35 hbox hb; have n0_ := Aside0.mk (below_step (by repeat (first|(with_reducible first|exact HB.out|apply below_alloc|apply pw_below_drewN|apply below_drew1)|exact HB.out)) hb); have n1_ := Aside0.mk (hbox); have n2_ := Aside0.mk ((by rw [hg]; exact (below_size (by repeat (first|(with_reducible first|exact HB.out|apply below_alloc|apply pw_below_drewN|apply below_drew1)|exact HB.out))) : w.heap.size ≤ gb188)); have n3_ := Aside0.mk ((by rw [hg]; exact (below_size (by repeat (first|(with_reducible first|exact HB.out|apply below_alloc|apply pw_below_drewN|apply below_drew1)|exact HB.out))) : w.heap.size ≤ gb188)); clear HB; have HB := n0_; have BK188 := n1_; have GW188 := n2_; have GE188 := n3_; clear n0_ n1_ n2_ n3_; clear hb hbox hg; have hcz36_0 : w35.cell? ⟨gb188, 0, none⟩ = some (.int .i64 a0_0) := (blk_cell BK188.out 0).trans rfl; have hcz36_1 : w35.cell? ⟨gb188, 1, none⟩ = some (.string a0_1) := (blk_cell BK188.out 1).trans rfl; have hcz36_2 : w35.cell? ⟨gb188, 2, none⟩ = some (.int .i64 a0_2) := (blk_cell BK188.out 2).trans rfl; have hcz36_3 : w35.cell? ⟨gb188, 3, none⟩ = some (.int .i64 a0_3) := (blk_cell BK188.out 3).trans rfl; have hcz36_4 : w35.cell? ⟨gb188, 4, none⟩ = some (.slice A0_4 l0_4.length c0_4) := (blk_cell BK188.out 4).trans rfl; have hfz36_0 := blk_frozen BK188.out 0; have hfz36_1 := blk_frozen BK188.out 1; have hfz36_2 := blk_frozen BK188.out 2; have hfz36_3 := blk_frozen BK188.out 3; have hfz36_4 := blk_frozen BK188.out 4) | ((with_reducible refine gate_callee (f := 4) rfl ?_); refine goesL_ (some 4) rfl rfl Tryz.func4 (by kernel_rfl) rfl #[.agg #[.int .i64 a0_0, .string a0_1, .int .i64 a0_2, .int .i64 a0_3, .slice A0_4 l0_4.length c0_4], .int .i64 500] rfl (by (try simp only [List.map_toArray, List.map_cons, List.map_nil]); first|done|rfl|(simp only [List.length_drop, List.length_take]; rfl)) ?_; (with_reducible refine (gossamerref02_Small.calls k a0_0 a0_1 a0_2 a0_3 _ _ l0_4 500 false _ ?side1 ?side2 A2.out).mono ?_); (case side1 => repeat (first|exact (Kd.C_below HR0_4.out HB.out)|(with_reducible refine Kd.C_alloc ?_ _)|(with_reducible refine Kd.C_drewN ?_ _)|(with_reducible refine Kd.C_drew ?_))); (case side2 => exact HC0_4.out); rintro e w37 ⟨rfl, hb⟩; refine ⟨_, rfl, ?_⟩; have n0_ := Aside0.mk (blk_below (g := gb188) (o := .cells #[.int .i64 a0_0, .string a0_1, .int .i64 a0_2, .int .i64 a0_3, .slice A0_4 l0_4.length c0_4] 24 (0, 0)) (by (with_reducible repeat (first|refine blk_drewN ?_ _|refine blk_drew ?_|refine blk_alloc ?_ _)); exact BK188.out) hb); have n1_ := Aside0.mk (below_step (by repeat (first|(with_reducible first|exact HB.out|apply below_alloc|apply pw_below_drewN|apply below_drew1|refine below_set ?_ GE188.out)|exact HB.out)) hb); clear BK188; clear HB; have BK188 := n0_; have HB := n1_; clear n0_ n1_; (try clear hb); (try clear hb2); (try clear hk); (try clear hi)) | ((with_reducible refine gate_callee (f := 5) rfl ?_); refine goesL_ (some 6) rfl rfl Tryz.func5 (by kernel_rfl) rfl #[] rfl (by (try simp only [List.map_toArray, List.map_cons, List.map_nil]); first|done|rfl|(simp only [List.length_drop, List.length_take]; rfl)) ?_; (with_reducible refine (gossamerlaw02_fixed.calls  t190 _ (LaidW.below HT.out (by repeat (first|(with_reducible first|exact HB.out|apply below_alloc|apply pw_below_drewN|apply below_drew1|refine below_set ?_ GE188.out)|exact HB.out))) A34.out).mono ?_); rintro e w38 ⟨rfl, hb⟩; refine ⟨_, rfl, ?_⟩; have n0_ := Aside0.mk (blk_below (g := gb188) (o := .cells #[.int .i64 a0_0, .string a0_1, .int .i64 a0_2, .int .i64 a0_3, .slice A0_4 l0_4.length c0_4] 24 (0, 0)) (by (with_reducible repeat (first|refine blk_drewN ?_ _|refine blk_drew ?_|refine blk_alloc ?_ _)); exact BK188.out) hb); have n1_ := Aside0.mk (below_step (by repeat (first|(with_reducible first|exact HB.out|apply below_alloc|apply pw_below_drewN|apply below_drew1|refine below_set ?_ GE188.out)|exact HB.out)) hb); clear BK188; clear HB; have BK188 := n0_; have HB := n1_; clear n0_ n1_; (try clear hb); (try clear hb2); (try clear hk); (try clear hi)))
  go_ret
  exact ⟨by first|rfl|(simp [errW_none, errW_some] <;> rfl)|(simp [*, errW_none, errW_some] <;> rfl), by repeat (first|(with_reducible first|exact HB.out|apply below_alloc|apply pw_below_drewN|apply below_drew1|refine below_set ?_ GE188.out)|exact HB.out)⟩

end Go.Proofs.YthdkjfhpbigdpaaGreatDoor.Q
