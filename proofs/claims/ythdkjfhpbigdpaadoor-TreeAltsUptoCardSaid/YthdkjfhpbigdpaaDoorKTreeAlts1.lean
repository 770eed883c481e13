-- Written for this claim: several texts in one.
import Derived.Test.YthdkjfhpbigdpaaDoorKTreeAlts0
import Derived.Laws.OwnMore
import Derived.Below
import Derived.Orders
import Derived.Laws.Tables
import Derived.Great.BuildSlice
import Derived.Laws.BytesString
import Derived.Laws.Slices
import Derived.Laws.Strings
set_option linter.unusedSimpArgs false
set_option linter.unusedVariables false
namespace Go.Proofs.YthdkjfhpbigdpaaDoor.Q
open Go.RowKit Go.Proofs.YthdkjfhpbigdpaaDoorW.PrintWords Go.Proofs.YthdkjfhpbigdpaaDoorW.PrintLast Go.Proofs.YthdkjfhpbigdpaaDoorW.PrintMore
attribute [local go_sem] max2_int min2_int max_two min_two max_three min_three max_four min_four
set_option linter.unusedVariables false
set_option linter.unusedSimpArgs false

def gossamerref02_token.f (k : Nat) (a0 : ByteArray) (a1 : Int) : Option (Bool) := if a0.toList = ([] : List UInt8) then (some false) else ((gossamerref01_One.f k a0 0).bind fun bt144 => (if bt144.2.2.2.2 = 0 then (if bt144.1 = a1 then (some (bt144.2.1.toList == a0.toList)) else (some false)) else (some false)))
theorem gossamerref02_token.mono : ∀ a0 a1 k, LeO (gossamerref02_token.f k a0 a1) (gossamerref02_token.f (k + 1) a0 a1) := by
 intro a0 a1 k
 unfold gossamerref02_token.f
 repeat' first
  |(with_reducible exact gossamerref01_One.mono _ _ _)
  |(with_reducible exact LeO.refl _)
  |(with_reducible exact LeO.none _)
  |(with_reducible refine LeO.ite ?_ ?_)
  |(with_reducible refine LeO.bind ?_ (fun _ => ?_))
  |exact gossamerref01_One.mono _ _ _
  |exact LeO.none _
  |refine LeO.ite ?_ ?_
  |refine LeO.bind ?_ (fun _ => ?_)
set_option maxHeartbeats 8000000 in
set_option maxRecDepth 100000 in
theorem gossamerref02_token.calls (k : Nat) (a0 : ByteArray) (a1 : Int) (r : Bool) (w : World) (h : gossamerref02_token.f k a0 a1 = some r) :
  Calls Tryd.prog 37 #[.string a0, .int .i64 a1] w fun e w' => e = .returned (.bool r) ∧ Below w.heap.size w w' := by
 have hu33 := Tryd.underlying33
 have HB := Aside0.mk (Below.refl w.heap.size w)
 have H : (if a0.toList = ([] : List UInt8) then (some false) else ((gossamerref01_One.f k a0 0).bind fun bt144 => (if bt144.2.2.2.2 = 0 then (if bt144.1 = a1 then (some (bt144.2.1.toList == a0.toList)) else (some false)) else (some false)))) = some r := h
 clear h
 by_cases c3 : a0.toList = ([] : List UInt8)
 ·rw [if_pos c3] at H
  have c3b0 : (a0.toList == ([] : List UInt8)) = true := beq_iff_eq.mpr c3
  have c3b1 : (a0.toList != ([] : List UInt8)) = false := bne_eq_false_iff_eq.mpr c3
  clear c3
  obtain rfl := Option.some.inj H
  go_enter Tryd.func37, Tryd.ntmps37
  go_wp2
  go_ret
  exact ⟨by first|rfl|(simp [errW_none, errW_some] <;> rfl)|(simp [*, errW_none, errW_some] <;> rfl), by repeat (first|(with_reducible first|exact HB.out|apply below_alloc|apply pw_below_drewN|apply below_drew1)|exact HB.out)⟩
 ·rw [if_neg c3] at H
  have c3b0 : (a0.toList == ([] : List UInt8)) = false := beq_eq_false_iff_ne.mpr c3
  have c3b1 : (a0.toList != ([] : List UInt8)) = true := bne_iff_ne.mpr c3
  replace H := Option.bind_eq_some_iff.mp H
  obtain ⟨⟨t144, t145, t146, t147, t148⟩, A40, H⟩ := H
  replace H : (if t148 = 0 then (if t144 = a1 then (some (t145.toList == a0.toList)) else (some false)) else (some false)) = some r := H
  have A4 := Aside0.mk A40
  clear A40
  by_cases c5 : t148 = 0
  ·rw [if_pos c5] at H
   have c5b0 : (t148 == 0) = true := beq_iff_eq.mpr c5
   have c5b1 : (t148 != 0) = false := bne_eq_false_iff_eq.mpr c5
   clear c5
   by_cases c6 : t144 = a1
   ·rw [if_pos c6] at H
    have c6b0 : (t144 == a1) = true := beq_iff_eq.mpr c6
    have c6b1 : (t144 != a1) = false := bne_eq_false_iff_eq.mpr c6
    clear c6
    obtain rfl := Option.some.inj H
    go_enter Tryd.func37, Tryd.ntmps37
    go_wp2_with (first|((with_reducible refine gate_callee (f := 16) rfl ?_); refine goesL_ (some 11) rfl rfl Tryd.func16 (by kernel_rfl) rfl #[.string a0, .int .i64 0] rfl (by (try simp only [List.map_toArray, List.map_cons, List.map_nil]); first|done|rfl|(simp only [List.length_drop, List.length_take]; rfl)) ?_; (with_reducible refine (gossamerref01_One.calls k a0 0 t144 t145 t146 t147 t148 _ A4.out).mono ?_); rintro e w7 ⟨rfl, hb⟩; refine ⟨_, rfl, ?_⟩; have n0_ := Aside0.mk (below_step (by repeat (first|(with_reducible first|exact HB.out|apply below_alloc|apply pw_below_drewN|apply below_drew1)|exact HB.out)) hb); clear HB; have HB := n0_; clear n0_; (try clear hb); (try clear hb2); (try clear hk); (try clear hi)) | ((with_reducible refine gate_dst (N := 5) rfl ?_); refine box_event ?hg (N := 5) ?hd (cs := #[.int .i64 0, .string (⟨#[]⟩ : ByteArray), .int .i64 0, .int .i64 0]) (t := 33) ?hr ?_; (case hd => rfl); (case hg => rfl); (case hr => first|(go_simp; done)|(go_simp; rfl)); intro gb149 hg w8 hbox hb; have n0_ := Aside0.mk (below_step (by repeat (first|(with_reducible first|exact HB.out|apply below_alloc|apply pw_below_drewN|apply below_drew1)|exact HB.out)) hb); have n1_ := Aside0.mk (hbox); have n2_ := Aside0.mk ((by rw [hg]; exact (below_size (by repeat (first|(with_reducible first|exact HB.out|apply below_alloc|apply pw_below_drewN|apply below_drew1)|exact HB.out))) : w.heap.size ≤ gb149)); have n3_ := Aside0.mk ((by rw [hg]; exact (below_size (by repeat (first|(with_reducible first|exact HB.out|apply below_alloc|apply pw_below_drewN|apply below_drew1)|exact HB.out))) : w.heap.size ≤ gb149)); clear HB; have HB := n0_; have BK149 := n1_; have GW149 := n2_; have GE149 := n3_; clear n0_ n1_ n2_ n3_; clear hb hbox hg; have hcz9_0 : w8.cell? ⟨gb149, 0, none⟩ = some (.int .i64 0) := (blk_cell BK149.out 0).trans rfl; have hcz9_1 : w8.cell? ⟨gb149, 1, none⟩ = some (.string (⟨#[]⟩ : ByteArray)) := (blk_cell BK149.out 1).trans rfl; have hcz9_2 : w8.cell? ⟨gb149, 2, none⟩ = some (.int .i64 0) := (blk_cell BK149.out 2).trans rfl; have hcz9_3 : w8.cell? ⟨gb149, 3, none⟩ = some (.int .i64 0) := (blk_cell BK149.out 3).trans rfl; have hfz9_0 := blk_frozen BK149.out 0; have hfz9_1 := blk_frozen BK149.out 1; have hfz9_2 := blk_frozen BK149.out 2; have hfz9_3 := blk_frozen BK149.out 3))
    go_ret
    exact ⟨by first|rfl|(simp [errW_none, errW_some] <;> rfl)|(simp [*, errW_none, errW_some] <;> rfl), by repeat (first|(with_reducible first|exact HB.out|apply below_alloc|apply pw_below_drewN|apply below_drew1|refine below_set ?_ GE149.out)|exact HB.out)⟩
   ·rw [if_neg c6] at H
    have c6b0 : (t144 == a1) = false := beq_eq_false_iff_ne.mpr c6
    have c6b1 : (t144 != a1) = true := bne_iff_ne.mpr c6
    obtain rfl := Option.some.inj H
    go_enter Tryd.func37, Tryd.ntmps37
    go_wp2_with (first|((with_reducible refine gate_callee (f := 16) rfl ?_); refine goesL_ (some 11) rfl rfl Tryd.func16 (by kernel_rfl) rfl #[.string a0, .int .i64 0] rfl (by (try simp only [List.map_toArray, List.map_cons, List.map_nil]); first|done|rfl|(simp only [List.length_drop, List.length_take]; rfl)) ?_; (with_reducible refine (gossamerref01_One.calls k a0 0 t144 t145 t146 t147 t148 _ A4.out).mono ?_); rintro e w10 ⟨rfl, hb⟩; refine ⟨_, rfl, ?_⟩; have n0_ := Aside0.mk (below_step (by repeat (first|(with_reducible first|exact HB.out|apply below_alloc|apply pw_below_drewN|apply below_drew1)|exact HB.out)) hb); clear HB; have HB := n0_; clear n0_; (try clear hb); (try clear hb2); (try clear hk); (try clear hi)) | ((with_reducible refine gate_dst (N := 5) rfl ?_); refine box_event ?hg (N := 5) ?hd (cs := #[.int .i64 0, .string (⟨#[]⟩ : ByteArray), .int .i64 0, .int .i64 0]) (t := 33) ?hr ?_; (case hd => rfl); (case hg => rfl); (case hr => first|(go_simp; done)|(go_simp; rfl)); intro gb149 hg w11 hbox hb; have n0_ := Aside0.mk (below_step (by repeat (first|(with_reducible first|exact HB.out|apply below_alloc|apply pw_below_drewN|apply below_drew1)|exact HB.out)) hb); have n1_ := Aside0.mk (hbox); have n2_ := Aside0.mk ((by rw [hg]; exact (below_size (by repeat (first|(with_reducible first|exact HB.out|apply below_alloc|apply pw_below_drewN|apply below_drew1)|exact HB.out))) : w.heap.size ≤ gb149)); have n3_ := Aside0.mk ((by rw [hg]; exact (below_size (by repeat (first|(with_reducible first|exact HB.out|apply below_alloc|apply pw_below_drewN|apply below_drew1)|exact HB.out))) : w.heap.size ≤ gb149)); clear HB; have HB := n0_; have BK149 := n1_; have GW149 := n2_; have GE149 := n3_; clear n0_ n1_ n2_ n3_; clear hb hbox hg; have hcz12_0 : w11.cell? ⟨gb149, 0, none⟩ = some (.int .i64 0) := (blk_cell BK149.out 0).trans rfl; have hcz12_1 : w11.cell? ⟨gb149, 1, none⟩ = some (.string (⟨#[]⟩ : ByteArray)) := (blk_cell BK149.out 1).trans rfl; have hcz12_2 : w11.cell? ⟨gb149, 2, none⟩ = some (.int .i64 0) := (blk_cell BK149.out 2).trans rfl; have hcz12_3 : w11.cell? ⟨gb149, 3, none⟩ = some (.int .i64 0) := (blk_cell BK149.out 3).trans rfl; have hfz12_0 := blk_frozen BK149.out 0; have hfz12_1 := blk_frozen BK149.out 1; have hfz12_2 := blk_frozen BK149.out 2; have hfz12_3 := blk_frozen BK149.out 3))
    go_ret
    exact ⟨by first|rfl|(simp [errW_none, errW_some] <;> rfl)|(simp [*, errW_none, errW_some] <;> rfl), by repeat (first|(with_reducible first|exact HB.out|apply below_alloc|apply pw_below_drewN|apply below_drew1|refine below_set ?_ GE149.out)|exact HB.out)⟩
  ·rw [if_neg c5] at H
   have c5b0 : (t148 == 0) = false := beq_eq_false_iff_ne.mpr c5
   have c5b1 : (t148 != 0) = true := bne_iff_ne.mpr c5
   obtain rfl := Option.some.inj H
   go_enter Tryd.func37, Tryd.ntmps37
   go_wp2_with (first|((with_reducible refine gate_callee (f := 16) rfl ?_); refine goesL_ (some 11) rfl rfl Tryd.func16 (by kernel_rfl) rfl #[.string a0, .int .i64 0] rfl (by (try simp only [List.map_toArray, List.map_cons, List.map_nil]); first|done|rfl|(simp only [List.length_drop, List.length_take]; rfl)) ?_; (with_reducible refine (gossamerref01_One.calls k a0 0 t144 t145 t146 t147 t148 _ A4.out).mono ?_); rintro e w13 ⟨rfl, hb⟩; refine ⟨_, rfl, ?_⟩; have n0_ := Aside0.mk (below_step (by repeat (first|(with_reducible first|exact HB.out|apply below_alloc|apply pw_below_drewN|apply below_drew1)|exact HB.out)) hb); clear HB; have HB := n0_; clear n0_; (try clear hb); (try clear hb2); (try clear hk); (try clear hi)) | ((with_reducible refine gate_dst (N := 5) rfl ?_); refine box_event ?hg (N := 5) ?hd (cs := #[.int .i64 0, .string (⟨#[]⟩ : ByteArray), .int .i64 0, .int .i64 0]) (t := 33) ?hr ?_; (case hd => rfl); (case hg => rfl); (case hr => first|(go_simp; done)|(go_simp; rfl)); intro gb149 hg w14 hbox hb; have n0_ := Aside0.mk (below_step (by repeat (first|(with_reducible first|exact HB.out|apply below_alloc|apply pw_below_drewN|apply below_drew1)|exact HB.out)) hb); have n1_ := Aside0.mk (hbox); have n2_ := Aside0.mk ((by rw [hg]; exact (below_size (by repeat (first|(with_reducible first|exact HB.out|apply below_alloc|apply pw_below_drewN|apply below_drew1)|exact HB.out))) : w.heap.size ≤ gb149)); have n3_ := Aside0.mk ((by rw [hg]; exact (below_size (by repeat (first|(with_reducible first|exact HB.out|apply below_alloc|apply pw_below_drewN|apply below_drew1)|exact HB.out))) : w.heap.size ≤ gb149)); clear HB; have HB := n0_; have BK149 := n1_; have GW149 := n2_; have GE149 := n3_; clear n0_ n1_ n2_ n3_; clear hb hbox hg; have hcz15_0 : w14.cell? ⟨gb149, 0, none⟩ = some (.int .i64 0) := (blk_cell BK149.out 0).trans rfl; have hcz15_1 : w14.cell? ⟨gb149, 1, none⟩ = some (.string (⟨#[]⟩ : ByteArray)) := (blk_cell BK149.out 1).trans rfl; have hcz15_2 : w14.cell? ⟨gb149, 2, none⟩ = some (.int .i64 0) := (blk_cell BK149.out 2).trans rfl; have hcz15_3 : w14.cell? ⟨gb149, 3, none⟩ = some (.int .i64 0) := (blk_cell BK149.out 3).trans rfl; have hfz15_0 := blk_frozen BK149.out 0; have hfz15_1 := blk_frozen BK149.out 1; have hfz15_2 := blk_frozen BK149.out 2; have hfz15_3 := blk_frozen BK149.out 3))
   go_ret
   exact ⟨by first|rfl|(simp [errW_none, errW_some] <;> rfl)|(simp [*, errW_none, errW_some] <;> rfl), by repeat (first|(with_reducible first|exact HB.out|apply below_alloc|apply pw_below_drewN|apply below_drew1|refine below_set ?_ GE149.out)|exact HB.out)⟩

end Go.Proofs.YthdkjfhpbigdpaaDoor.Q

namespace Go.Proofs.YthdkjfhpbigdpaaDoor.Q
open Go.RowKit Go.Proofs.YthdkjfhpbigdpaaDoorW.PrintWords Go.Proofs.YthdkjfhpbigdpaaDoorW.PrintLast Go.Proofs.YthdkjfhpbigdpaaDoorW.PrintMore
attribute [local go_sem] max2_int min2_int max_two min_two max_three min_three max_four min_four
set_option linter.unusedVariables false
set_option linter.unusedSimpArgs false

mutual
def gossamerref02_name.j0 : Nat → Int → Bool → Int → ByteArray → Int → Int → List (S24) → Option (Bool)
 | 0, _, _, _, _, _, _, _ => none
 | k + 1, x4, x5, x151000, x151001, x151002, x151003, x151004 => if x5 = true then ((gossamerref02_token.f k x151001 1).bind fun t151 => (some t151)) else (if x4 = 6 then (gossamerref02_name.j1 k x4 (x4 == 6) x151000 x151001 x151002 x151003 x151004) else (gossamerref02_name.j1 k x4 (x4 == 8) x151000 x151001 x151002 x151003 x151004))
def gossamerref02_name.j1 : Nat → Int → Bool → Int → ByteArray → Int → Int → List (S24) → Option (Bool)
 | 0, _, _, _, _, _, _, _ => none
 | k + 1, x4, x13, x151000, x151001, x151002, x151003, x151004 => if x13 = true then ((gossamerref02_token.f k x151001 2).bind fun t152 => (some t152)) else (if x4 = 10 then (if x151001.toList = ([43] : List UInt8) then (some true) else (if x151001.toList = ([45] : List UInt8) then (some true) else (if x151001.toList = ([42] : List UInt8) then (some true) else (if x151001.toList = ([47] : List UInt8) then (some true) else (if x151001.toList = ([60] : List UInt8) then (some true) else (some (x151001.toList == ([61, 61] : List UInt8)))))))) else (some (x151001.toList == ([] : List UInt8))))
end
def gossamerref02_name.f (k : Nat) (a0_0 : Int) (a0_1 : ByteArray) (a0_2 : Int) (a0_3 : Int) (l0_4 : List (S24)) : Option (Bool) := if a0_0 = 1 then (gossamerref02_name.j0 k a0_0 (a0_0 == 1) a0_0 a0_1 a0_2 a0_3 l0_4) else (if a0_0 = 2 then (gossamerref02_name.j0 k a0_0 (a0_0 == 2) a0_0 a0_1 a0_2 a0_3 l0_4) else (if a0_0 = 4 then (gossamerref02_name.j0 k a0_0 (a0_0 == 4) a0_0 a0_1 a0_2 a0_3 l0_4) else (gossamerref02_name.j0 k a0_0 (a0_0 == 5) a0_0 a0_1 a0_2 a0_3 l0_4)))
theorem gossamerref02_name.mono_l : ∀ k, (∀ y0 y1 y2 y3 y4 y5 y6, LeO (gossamerref02_name.j0 k y0 y1 y2 y3 y4 y5 y6) (gossamerref02_name.j0 (k + 1) y0 y1 y2 y3 y4 y5 y6)) ∧ (∀ y0 y1 y2 y3 y4 y5 y6, LeO (gossamerref02_name.j1 k y0 y1 y2 y3 y4 y5 y6) (gossamerref02_name.j1 (k + 1) y0 y1 y2 y3 y4 y5 y6))
 | 0 => ⟨fun _ _ _ _ _ _ _ r h => by simp [gossamerref02_name.j0] at h, fun _ _ _ _ _ _ _ r h => by simp [gossamerref02_name.j1] at h⟩
 | k + 1 => by
  obtain ⟨ih0, ih1⟩ := gossamerref02_name.mono_l k
  refine ⟨?_, ?_⟩
  ·intro y0 y1 y2 y3 y4 y5 y6
   unfold gossamerref02_name.j0
   repeat' first
  |(with_reducible exact ih0 _ _ _ _ _ _ _)
  |(with_reducible exact ih1 _ _ _ _ _ _ _)
  |(with_reducible exact gossamerref02_token.mono _ _ _)
  |(with_reducible exact LeO.refl _)
  |(with_reducible exact LeO.none _)
  |(with_reducible refine LeO.ite ?_ ?_)
  |(with_reducible refine LeO.bind ?_ (fun _ => ?_))
  |exact ih0 _ _ _ _ _ _ _
  |exact ih1 _ _ _ _ _ _ _
  |exact gossamerref02_token.mono _ _ _
  |exact LeO.none _
  |refine LeO.ite ?_ ?_
  |refine LeO.bind ?_ (fun _ => ?_)
  ·intro y0 y1 y2 y3 y4 y5 y6
   unfold gossamerref02_name.j1
   repeat' first
  |(with_reducible exact ih0 _ _ _ _ _ _ _)
  |(with_reducible exact ih1 _ _ _ _ _ _ _)
  |(with_reducible exact gossamerref02_token.mono _ _ _)
  |(with_reducible exact LeO.refl _)
  |(with_reducible exact LeO.none _)
  |(with_reducible refine LeO.ite ?_ ?_)
  |(with_reducible refine LeO.bind ?_ (fun _ => ?_))
  |exact ih0 _ _ _ _ _ _ _
  |exact ih1 _ _ _ _ _ _ _
  |exact gossamerref02_token.mono _ _ _
  |exact LeO.none _
  |refine LeO.ite ?_ ?_
  |refine LeO.bind ?_ (fun _ => ?_)
theorem gossamerref02_name.mono : ∀ a0 a1 a2 a3 a4 k, LeO (gossamerref02_name.f k a0 a1 a2 a3 a4) (gossamerref02_name.f (k + 1) a0 a1 a2 a3 a4) := by
 intro a0 a1 a2 a3 a4 k
 obtain ⟨ih0, ih1⟩ := gossamerref02_name.mono_l k
 unfold gossamerref02_name.f
 repeat' first
  |(with_reducible exact ih0 _ _ _ _ _ _ _)
  |(with_reducible exact ih1 _ _ _ _ _ _ _)
  |(with_reducible exact gossamerref02_token.mono _ _ _)
  |(with_reducible exact LeO.refl _)
  |(with_reducible exact LeO.none _)
  |(with_reducible refine LeO.ite ?_ ?_)
  |(with_reducible refine LeO.bind ?_ (fun _ => ?_))
  |exact ih0 _ _ _ _ _ _ _
  |exact ih1 _ _ _ _ _ _ _
  |exact gossamerref02_token.mono _ _ _
  |exact LeO.none _
  |refine LeO.ite ?_ ?_
  |refine LeO.bind ?_ (fun _ => ?_)
set_option maxHeartbeats 8000000 in
set_option maxRecDepth 100000 in
theorem gossamerref02_name.calls (k : Nat) (a0_0 : Int) (a0_1 : ByteArray) (a0_2 : Int) (a0_3 : Int) (A0_4 : Option Addr) (c0_4 : Nat) (l0_4 : List (S24)) (r : Bool) (w : World) (hr0_4 : Kd.C k24 w A0_4 l0_4.length l0_4) (hc0_4 : l0_4.length ≤ c0_4) (h : gossamerref02_name.f k a0_0 a0_1 a0_2 a0_3 l0_4 = some r) :
  Calls Tryd.prog 32 #[.agg #[.int .i64 a0_0, .string a0_1, .int .i64 a0_2, .int .i64 a0_3, .slice A0_4 l0_4.length c0_4]] w fun e w' => e = .returned (.bool r) ∧ Below w.heap.size w w' := by
 have hu24 := Tryd.underlying24
 have HR0_4 := Aside0.mk hr0_4
 have HC0_4 := Aside0.mk hc0_4
 clear hr0_4 hc0_4
 have HB := Aside0.mk (Below.refl w.heap.size w)
 have H : (if a0_0 = 1 then (gossamerref02_name.j0 k a0_0 (a0_0 == 1) a0_0 a0_1 a0_2 a0_3 l0_4) else (if a0_0 = 2 then (gossamerref02_name.j0 k a0_0 (a0_0 == 2) a0_0 a0_1 a0_2 a0_3 l0_4) else (if a0_0 = 4 then (gossamerref02_name.j0 k a0_0 (a0_0 == 4) a0_0 a0_1 a0_2 a0_3 l0_4) else (gossamerref02_name.j0 k a0_0 (a0_0 == 5) a0_0 a0_1 a0_2 a0_3 l0_4)))) = some r := h
 clear h
 have HC2 := Aside0.mk H
 clear H
 go_enter Tryd.func32, Tryd.ntmps32
 go_upto_if 5 with (first|((with_reducible refine gate_dst (N := 1) rfl ?_); refine box_event ?hg (N := 1) ?hd (cs := #[.int .i64 a0_0, .string a0_1, .int .i64 a0_2, .int .i64 a0_3, .slice A0_4 l0_4.length c0_4]) (t := 24) ?hr ?_; (case hd => rfl); (case hg => rfl); (case hr => first|(go_simp; done)|(go_simp; rfl)); intro gb150 hg w3 hbox hb; have n0_ := Aside0.mk (below_step (by repeat (first|(with_reducible first|exact HB.out|apply below_alloc|apply pw_below_drewN|apply below_drew1)|exact HB.out)) hb); have n1_ := Aside0.mk (hbox); have n2_ := Aside0.mk ((by rw [hg]; exact (below_size (by repeat (first|(with_reducible first|exact HB.out|apply below_alloc|apply pw_below_drewN|apply below_drew1)|exact HB.out))) : w.heap.size ≤ gb150)); have n3_ := Aside0.mk ((by rw [hg]; exact (below_size (by repeat (first|(with_reducible first|exact HB.out|apply below_alloc|apply pw_below_drewN|apply below_drew1)|exact HB.out))) : w.heap.size ≤ gb150)); clear HB; have HB := n0_; have BK150 := n1_; have GW150 := n2_; have GE150 := n3_; clear n0_ n1_ n2_ n3_; clear hb hbox hg; have hcz4_0 : w3.cell? ⟨gb150, 0, none⟩ = some (.int .i64 a0_0) := (blk_cell BK150.out 0).trans rfl; have hcz4_1 : w3.cell? ⟨gb150, 1, none⟩ = some (.string a0_1) := (blk_cell BK150.out 1).trans rfl; have hcz4_2 : w3.cell? ⟨gb150, 2, none⟩ = some (.int .i64 a0_2) := (blk_cell BK150.out 2).trans rfl; have hcz4_3 : w3.cell? ⟨gb150, 3, none⟩ = some (.int .i64 a0_3) := (blk_cell BK150.out 3).trans rfl; have hcz4_4 : w3.cell? ⟨gb150, 4, none⟩ = some (.slice A0_4 l0_4.length c0_4) := (blk_cell BK150.out 4).trans rfl; have hfz4_0 := blk_frozen BK150.out 0; have hfz4_1 := blk_frozen BK150.out 1; have hfz4_2 := blk_frozen BK150.out 2; have hfz4_3 := blk_frozen BK150.out 3; have hfz4_4 := blk_frozen BK150.out 4))
 (try simp only [Act.put, List.setIfInBounds_toArray, List.set_cons_zero, List.set_cons_succ])
 go_cut [5] (fun v5 wc => ∃ (kq : Nat) (x5_1 : Bool), v5 = .bool x5_1 ∧ Aside0 (gossamerref02_name.j0 kq a0_0 x5_1 a0_0 a0_1 a0_2 a0_3 l0_4 = some r) ∧ Aside0 (kq ≤ k) ∧ Aside0 (wc.heap[gb150]? = some (.cells #[.int .i64 a0_0, .string a0_1, .int .i64 a0_2, .int .i64 a0_3, (.slice A0_4 l0_4.length c0_4)] 24 (0, 0))) ∧ Aside0 (Below w.heap.size w wc))
 case first =>
  have H := HC2.out
  clear HC2
  by_cases c5 : a0_0 = 1
  ·rw [if_pos c5] at H
   have c5b0 : (a0_0 == 1) = true := beq_iff_eq.mpr c5
   have c5b1 : (a0_0 != 1) = false := bne_eq_false_iff_eq.mpr c5
   clear c5
   (first|rw [c5b0]|(simp only [i64_w, i32_w]; rw [c5b0]) | skip)
   have H' := Aside0.mk H
   clear H
   go_wp2
   go_meet
   case rel => exact ⟨_, ((a0_0 == 1)), (by first|rfl|(simp; done)|(simp [*]; done)), H', ⟨by first | omega|exact Nat.le_refl _⟩, ⟨by (with_reducible repeat (first|refine blk_drewN ?_ _|refine blk_drew ?_|refine blk_alloc ?_ _)); exact BK150.out⟩, ⟨by repeat (first|(with_reducible first|exact HB.out|apply below_alloc|apply pw_below_drewN|apply below_drew1|refine below_set ?_ GE150.out)|exact HB.out)⟩⟩
  ·rw [if_neg c5] at H
   have c5b0 : (a0_0 == 1) = false := beq_eq_false_iff_ne.mpr c5
   have c5b1 : (a0_0 != 1) = true := bne_iff_ne.mpr c5
   (first|rw [c5b0]|(simp only [i64_w, i32_w]; rw [c5b0]) | skip)
   by_cases c6 : a0_0 = 2
   ·rw [if_pos c6] at H
    have c6b0 : (a0_0 == 2) = true := beq_iff_eq.mpr c6
    have c6b1 : (a0_0 != 2) = false := bne_eq_false_iff_eq.mpr c6
    clear c6
    have H' := Aside0.mk H
    clear H
    go_wp2
    go_meet
    case rel => exact ⟨_, ((a0_0 == 2)), (by first|rfl|(simp; done)|(simp [*]; done)), H', ⟨by first | omega|exact Nat.le_refl _⟩, ⟨by (with_reducible repeat (first|refine blk_drewN ?_ _|refine blk_drew ?_|refine blk_alloc ?_ _)); exact BK150.out⟩, ⟨by repeat (first|(with_reducible first|exact HB.out|apply below_alloc|apply pw_below_drewN|apply below_drew1|refine below_set ?_ GE150.out)|exact HB.out)⟩⟩
   ·rw [if_neg c6] at H
    have c6b0 : (a0_0 == 2) = false := beq_eq_false_iff_ne.mpr c6
    have c6b1 : (a0_0 != 2) = true := bne_iff_ne.mpr c6
    by_cases c7 : a0_0 = 4
    ·rw [if_pos c7] at H
     have c7b0 : (a0_0 == 4) = true := beq_iff_eq.mpr c7
     have c7b1 : (a0_0 != 4) = false := bne_eq_false_iff_eq.mpr c7
     clear c7
     have H' := Aside0.mk H
     clear H
     go_wp2
     go_meet
     case rel => exact ⟨_, ((a0_0 == 4)), (by first|rfl|(simp; done)|(simp [*]; done)), H', ⟨by first | omega|exact Nat.le_refl _⟩, ⟨by (with_reducible repeat (first|refine blk_drewN ?_ _|refine blk_drew ?_|refine blk_alloc ?_ _)); exact BK150.out⟩, ⟨by repeat (first|(with_reducible first|exact HB.out|apply below_alloc|apply pw_below_drewN|apply below_drew1|refine below_set ?_ GE150.out)|exact HB.out)⟩⟩
    ·rw [if_neg c7] at H
     have c7b0 : (a0_0 == 4) = false := beq_eq_false_iff_ne.mpr c7
     have c7b1 : (a0_0 != 4) = true := bne_iff_ne.mpr c7
     have H' := Aside0.mk H
     clear H
     go_wp2
     go_meet
     case rel => exact ⟨_, ((a0_0 == 5)), (by first|rfl|(simp; done)|(simp [*]; done)), H', ⟨by first | omega|exact Nat.le_refl _⟩, ⟨by (with_reducible repeat (first|refine blk_drewN ?_ _|refine blk_drew ?_|refine blk_alloc ?_ _)); exact BK150.out⟩, ⟨by repeat (first|(with_reducible first|exact HB.out|apply below_alloc|apply pw_below_drewN|apply below_drew1|refine below_set ?_ GE150.out)|exact HB.out)⟩⟩
 case rest =>
  clear HC2
  try clear p2
  try clear c3
  try clear c5
  try clear c5b0
  try clear c5b1
  try clear c6
  try clear c6b0
  try clear c6b1
  try clear c7
  try clear c7b0
  try clear c7b1
  try clear hcz4_0
  try clear hcz4_1
  try clear hcz4_2
  try clear hcz4_3
  try clear hcz4_4
  try clear hfz4_0
  try clear hfz4_1
  try clear hfz4_2
  try clear hfz4_3
  try clear hfz4_4
  obtain ⟨kq, x5_1, rfl, HA, HJ1, BK150, HB⟩ := hcut
  cases kq with
  | zero => exact absurd HA.out (by simp [gossamerref02_name.j0])
  | succ kj1 =>
   have H := HA.out
   clear HA
   simp only [gossamerref02_name.j0] at H
   by_cases c8 : x5_1 = true
   ·subst c8
    have H1 : ((gossamerref02_token.f kj1 a0_1 1).bind fun t151 => (some t151)) = some r := by rw [if_pos rfl] at H; exact H
    clear H
    have H := H1
    clear H1
    replace H := Option.bind_eq_some_iff.mp H
    obtain ⟨t151, A90, H⟩ := H
    replace H : (some t151) = some r := H
    have A9 := Aside0.mk A90
    clear A90
    obtain rfl := Option.some.inj H
    have hcz10_0 : wc.cell? ⟨gb150, 0, none⟩ = some (.int .i64 a0_0) := (blk_cell BK150.out 0).trans rfl
    have hcz10_1 : wc.cell? ⟨gb150, 1, none⟩ = some (.string a0_1) := (blk_cell BK150.out 1).trans rfl
    have hcz10_2 : wc.cell? ⟨gb150, 2, none⟩ = some (.int .i64 a0_2) := (blk_cell BK150.out 2).trans rfl
    have hcz10_3 : wc.cell? ⟨gb150, 3, none⟩ = some (.int .i64 a0_3) := (blk_cell BK150.out 3).trans rfl
    have hcz10_4 : wc.cell? ⟨gb150, 4, none⟩ = some (.slice A0_4 l0_4.length c0_4) := (blk_cell BK150.out 4).trans rfl
    have hfz10_0 := blk_frozen BK150.out 0
    have hfz10_1 := blk_frozen BK150.out 1
    have hfz10_2 := blk_frozen BK150.out 2
    have hfz10_3 := blk_frozen BK150.out 3
    have hfz10_4 := blk_frozen BK150.out 4
    go_wp2_with (first|((with_reducible refine gate_callee (f := 37) rfl ?_); refine goesL_ (some 12) rfl rfl Tryd.func37 (by kernel_rfl) rfl #[.string a0_1, .int .i64 1] rfl (by (try simp only [List.map_toArray, List.map_cons, List.map_nil]); first|done|rfl|(simp only [List.length_drop, List.length_take]; rfl)) ?_; (with_reducible refine (gossamerref02_token.calls kj1 a0_1 1 t151 _ A9.out).mono ?_); rintro e w11 ⟨rfl, hb⟩; refine ⟨_, rfl, ?_⟩; have n0_ := Aside0.mk (blk_below (g := gb150) (o := .cells #[.int .i64 a0_0, .string a0_1, .int .i64 a0_2, .int .i64 a0_3, .slice A0_4 l0_4.length c0_4] 24 (0, 0)) (by (with_reducible repeat (first|refine blk_drewN ?_ _|refine blk_drew ?_|refine blk_alloc ?_ _)); exact BK150.out) hb); have n1_ := Aside0.mk (below_step (by repeat (first|(with_reducible first|exact HB.out|apply below_alloc|apply pw_below_drewN|apply below_drew1|refine below_set ?_ GE150.out)|exact HB.out)) hb); clear BK150; clear HB; have BK150 := n0_; have HB := n1_; clear n0_ n1_; (try clear hb); (try clear hb2); (try clear hk); (try clear hi)))
    go_ret
    exact ⟨by first|rfl|(simp [errW_none, errW_some] <;> rfl)|(simp [*, errW_none, errW_some] <;> rfl), by repeat (first|(with_reducible first|exact HB.out|apply below_alloc|apply pw_below_drewN|apply below_drew1|refine below_set ?_ GE150.out)|exact HB.out)⟩
   ·replace c8 := Bool.eq_false_iff.mpr c8
    subst c8
    have H1 : (if a0_0 = 6 then (gossamerref02_name.j1 kj1 a0_0 (a0_0 == 6) a0_0 a0_1 a0_2 a0_3 l0_4) else (gossamerref02_name.j1 kj1 a0_0 (a0_0 == 8) a0_0 a0_1 a0_2 a0_3 l0_4)) = some r := by rw [if_neg (show ¬ (false = true) by decide)] at H; exact H
    clear H
    have H := H1
    clear H1
    have HC12 := Aside0.mk H
    clear H
    go_upto_if 13 with (fail)
    go_cut [13] (fun v13 wc => ∃ (kq : Nat) (x13_11 : Bool), v13 = .bool x13_11 ∧ Aside0 (gossamerref02_name.j1 kq a0_0 x13_11 a0_0 a0_1 a0_2 a0_3 l0_4 = some r) ∧ Aside0 (kq ≤ kj1) ∧ Aside0 (wc.heap[gb150]? = some (.cells #[.int .i64 a0_0, .string a0_1, .int .i64 a0_2, .int .i64 a0_3, (.slice A0_4 l0_4.length c0_4)] 24 (0, 0))) ∧ Aside0 (Below w.heap.size w wc))
    case first =>
     have H := HC12.out
     clear HC12
     by_cases c13 : a0_0 = 6
     ·rw [if_pos c13] at H
      have c13b0 : (a0_0 == 6) = true := beq_iff_eq.mpr c13
      have c13b1 : (a0_0 != 6) = false := bne_eq_false_iff_eq.mpr c13
      clear c13
      (first|rw [c13b0]|(simp only [i64_w, i32_w]; rw [c13b0]) | skip)
      have H' := Aside0.mk H
      clear H
      go_wp2
      go_meet
      case rel => exact ⟨_, ((a0_0 == 6)), (by first|rfl|(simp; done)|(simp [*]; done)), H', ⟨by have := HJ1.out; first | omega|exact Nat.le_refl _⟩, ⟨by (with_reducible repeat (first|refine blk_drewN ?_ _|refine blk_drew ?_|refine blk_alloc ?_ _)); exact BK150.out⟩, ⟨by repeat (first|(with_reducible first|exact HB.out|apply below_alloc|apply pw_below_drewN|apply below_drew1|refine below_set ?_ GE150.out)|exact HB.out)⟩⟩
     ·rw [if_neg c13] at H
      have c13b0 : (a0_0 == 6) = false := beq_eq_false_iff_ne.mpr c13
      have c13b1 : (a0_0 != 6) = true := bne_iff_ne.mpr c13
      (first|rw [c13b0]|(simp only [i64_w, i32_w]; rw [c13b0]) | skip)
      have H' := Aside0.mk H
      clear H
      go_wp2
      go_meet
      case rel => exact ⟨_, ((a0_0 == 8)), (by first|rfl|(simp; done)|(simp [*]; done)), H', ⟨by have := HJ1.out; first | omega|exact Nat.le_refl _⟩, ⟨by (with_reducible repeat (first|refine blk_drewN ?_ _|refine blk_drew ?_|refine blk_alloc ?_ _)); exact BK150.out⟩, ⟨by repeat (first|(with_reducible first|exact HB.out|apply below_alloc|apply pw_below_drewN|apply below_drew1|refine below_set ?_ GE150.out)|exact HB.out)⟩⟩
    case rest =>
     clear HC12
     try clear c1
     try clear p2
     try clear c3
     try clear c5
     try clear c5b0
     try clear c5b1
     try clear c6
     try clear c6b0
     try clear c6b1
     try clear c7
     try clear c7b0
     try clear c7b1
     try clear c8
     try clear c13
     try clear c13b0
     try clear c13b1
     try clear hcz10_0
     try clear hcz10_1
     try clear hcz10_2
     try clear hcz10_3
     try clear hcz10_4
     try clear hcz4_0
     try clear hcz4_1
     try clear hcz4_2
     try clear hcz4_3
     try clear hcz4_4
     try clear hfz10_0
     try clear hfz10_1
     try clear hfz10_2
     try clear hfz10_3
     try clear hfz10_4
     try clear hfz4_0
     try clear hfz4_1
     try clear hfz4_2
     try clear hfz4_3
     try clear hfz4_4
     try clear p2
     obtain ⟨kq, x13_11, rfl, HA, HJ11, BK150, HB⟩ := hcut
     cases kq with
     | zero => exact absurd HA.out (by simp [gossamerref02_name.j1])
     | succ kj11 =>
      have H := HA.out
      clear HA
      simp only [gossamerref02_name.j1] at H
      by_cases c14 : x13_11 = true
      ·subst c14
       have H1 : ((gossamerref02_token.f kj11 a0_1 2).bind fun t152 => (some t152)) = some r := by rw [if_pos rfl] at H; exact H
       clear H
       have H := H1
       clear H1
       replace H := Option.bind_eq_some_iff.mp H
       obtain ⟨t152, A150, H⟩ := H
       replace H : (some t152) = some r := H
       have A15 := Aside0.mk A150
       clear A150
       obtain rfl := Option.some.inj H
       have hcz16_0 : wc.cell? ⟨gb150, 0, none⟩ = some (.int .i64 a0_0) := (blk_cell BK150.out 0).trans rfl
       have hcz16_1 : wc.cell? ⟨gb150, 1, none⟩ = some (.string a0_1) := (blk_cell BK150.out 1).trans rfl
       have hcz16_2 : wc.cell? ⟨gb150, 2, none⟩ = some (.int .i64 a0_2) := (blk_cell BK150.out 2).trans rfl
       have hcz16_3 : wc.cell? ⟨gb150, 3, none⟩ = some (.int .i64 a0_3) := (blk_cell BK150.out 3).trans rfl
       have hcz16_4 : wc.cell? ⟨gb150, 4, none⟩ = some (.slice A0_4 l0_4.length c0_4) := (blk_cell BK150.out 4).trans rfl
       have hfz16_0 := blk_frozen BK150.out 0
       have hfz16_1 := blk_frozen BK150.out 1
       have hfz16_2 := blk_frozen BK150.out 2
       have hfz16_3 := blk_frozen BK150.out 3
       have hfz16_4 := blk_frozen BK150.out 4
       go_wp2_with (first|((with_reducible refine gate_callee (f := 37) rfl ?_); refine goesL_ (some 18) rfl rfl Tryd.func37 (by kernel_rfl) rfl #[.string a0_1, .int .i64 2] rfl (by (try simp only [List.map_toArray, List.map_cons, List.map_nil]); first|done|rfl|(simp only [List.length_drop, List.length_take]; rfl)) ?_; (with_reducible refine (gossamerref02_token.calls kj11 a0_1 2 t152 _ A15.out).mono ?_); rintro e w17 ⟨rfl, hb⟩; refine ⟨_, rfl, ?_⟩; have n0_ := Aside0.mk (blk_below (g := gb150) (o := .cells #[.int .i64 a0_0, .string a0_1, .int .i64 a0_2, .int .i64 a0_3, .slice A0_4 l0_4.length c0_4] 24 (0, 0)) (by (with_reducible repeat (first|refine blk_drewN ?_ _|refine blk_drew ?_|refine blk_alloc ?_ _)); exact BK150.out) hb); have n1_ := Aside0.mk (below_step (by repeat (first|(with_reducible first|exact HB.out|apply below_alloc|apply pw_below_drewN|apply below_drew1|refine below_set ?_ GE150.out)|exact HB.out)) hb); clear BK150; clear HB; have BK150 := n0_; have HB := n1_; clear n0_ n1_; (try clear hb); (try clear hb2); (try clear hk); (try clear hi)))
       go_ret
       exact ⟨by first|rfl|(simp [errW_none, errW_some] <;> rfl)|(simp [*, errW_none, errW_some] <;> rfl), by repeat (first|(with_reducible first|exact HB.out|apply below_alloc|apply pw_below_drewN|apply below_drew1|refine below_set ?_ GE150.out)|exact HB.out)⟩
      ·replace c14 := Bool.eq_false_iff.mpr c14
       subst c14
       have H1 : (if a0_0 = 10 then (if a0_1.toList = ([43] : List UInt8) then (some true) else (if a0_1.toList = ([45] : List UInt8) then (some true) else (if a0_1.toList = ([42] : List UInt8) then (some true) else (if a0_1.toList = ([47] : List UInt8) then (some true) else (if a0_1.toList = ([60] : List UInt8) then (some true) else (some (a0_1.toList == ([61, 61] : List UInt8)))))))) else (some (a0_1.toList == ([] : List UInt8)))) = some r := by rw [if_neg (show ¬ (false = true) by decide)] at H; exact H
       clear H
       have H := H1
       clear H1
       by_cases c18 : a0_0 = 10
       ·rw [if_pos c18] at H
        have c18b0 : (a0_0 == 10) = true := beq_iff_eq.mpr c18
        have c18b1 : (a0_0 != 10) = false := bne_eq_false_iff_eq.mpr c18
        clear c18
        by_cases c19 : a0_1.toList = ([43] : List UInt8)
        ·rw [if_pos c19] at H
         have c19b0 : (a0_1.toList == ([43] : List UInt8)) = true := beq_iff_eq.mpr c19
         have c19b1 : (a0_1.toList != ([43] : List UInt8)) = false := bne_eq_false_iff_eq.mpr c19
         clear c19
         obtain rfl := Option.some.inj H
         have hcz20_0 : wc.cell? ⟨gb150, 0, none⟩ = some (.int .i64 a0_0) := (blk_cell BK150.out 0).trans rfl
         have hcz20_1 : wc.cell? ⟨gb150, 1, none⟩ = some (.string a0_1) := (blk_cell BK150.out 1).trans rfl
         have hcz20_2 : wc.cell? ⟨gb150, 2, none⟩ = some (.int .i64 a0_2) := (blk_cell BK150.out 2).trans rfl
         have hcz20_3 : wc.cell? ⟨gb150, 3, none⟩ = some (.int .i64 a0_3) := (blk_cell BK150.out 3).trans rfl
         have hcz20_4 : wc.cell? ⟨gb150, 4, none⟩ = some (.slice A0_4 l0_4.length c0_4) := (blk_cell BK150.out 4).trans rfl
         have hfz20_0 := blk_frozen BK150.out 0
         have hfz20_1 := blk_frozen BK150.out 1
         have hfz20_2 := blk_frozen BK150.out 2
         have hfz20_3 := blk_frozen BK150.out 3
         have hfz20_4 := blk_frozen BK150.out 4
         go_wp2
         go_ret
         exact ⟨by first|rfl|(simp [errW_none, errW_some] <;> rfl)|(simp [*, errW_none, errW_some] <;> rfl), by repeat (first|(with_reducible first|exact HB.out|apply below_alloc|apply pw_below_drewN|apply below_drew1|refine below_set ?_ GE150.out)|exact HB.out)⟩
        ·rw [if_neg c19] at H
         have c19b0 : (a0_1.toList == ([43] : List UInt8)) = false := beq_eq_false_iff_ne.mpr c19
         have c19b1 : (a0_1.toList != ([43] : List UInt8)) = true := bne_iff_ne.mpr c19
         by_cases c21 : a0_1.toList = ([45] : List UInt8)
         ·rw [if_pos c21] at H
          have c21b0 : (a0_1.toList == ([45] : List UInt8)) = true := beq_iff_eq.mpr c21
          have c21b1 : (a0_1.toList != ([45] : List UInt8)) = false := bne_eq_false_iff_eq.mpr c21
          clear c21
          obtain rfl := Option.some.inj H
          have hcz22_0 : wc.cell? ⟨gb150, 0, none⟩ = some (.int .i64 a0_0) := (blk_cell BK150.out 0).trans rfl
          have hcz22_1 : wc.cell? ⟨gb150, 1, none⟩ = some (.string a0_1) := (blk_cell BK150.out 1).trans rfl
          have hcz22_2 : wc.cell? ⟨gb150, 2, none⟩ = some (.int .i64 a0_2) := (blk_cell BK150.out 2).trans rfl
          have hcz22_3 : wc.cell? ⟨gb150, 3, none⟩ = some (.int .i64 a0_3) := (blk_cell BK150.out 3).trans rfl
          have hcz22_4 : wc.cell? ⟨gb150, 4, none⟩ = some (.slice A0_4 l0_4.length c0_4) := (blk_cell BK150.out 4).trans rfl
          have hfz22_0 := blk_frozen BK150.out 0
          have hfz22_1 := blk_frozen BK150.out 1
          have hfz22_2 := blk_frozen BK150.out 2
          have hfz22_3 := blk_frozen BK150.out 3
          have hfz22_4 := blk_frozen BK150.out 4
          go_wp2
          go_ret
          exact ⟨by first|rfl|(simp [errW_none, errW_some] <;> rfl)|(simp [*, errW_none, errW_some] <;> rfl), by repeat (first|(with_reducible first|exact HB.out|apply below_alloc|apply pw_below_drewN|apply below_drew1|refine below_set ?_ GE150.out)|exact HB.out)⟩
         ·rw [if_neg c21] at H
          have c21b0 : (a0_1.toList == ([45] : List UInt8)) = false := beq_eq_false_iff_ne.mpr c21
          have c21b1 : (a0_1.toList != ([45] : List UInt8)) = true := bne_iff_ne.mpr c21
          by_cases c23 : a0_1.toList = ([42] : List UInt8)
          ·rw [if_pos c23] at H
           have c23b0 : (a0_1.toList == ([42] : List UInt8)) = true := beq_iff_eq.mpr c23
           have c23b1 : (a0_1.toList != ([42] : List UInt8)) = false := bne_eq_false_iff_eq.mpr c23
           clear c23
           obtain rfl := Option.some.inj H
           have hcz24_0 : wc.cell? ⟨gb150, 0, none⟩ = some (.int .i64 a0_0) := (blk_cell BK150.out 0).trans rfl
           have hcz24_1 : wc.cell? ⟨gb150, 1, none⟩ = some (.string a0_1) := (blk_cell BK150.out 1).trans rfl
           have hcz24_2 : wc.cell? ⟨gb150, 2, none⟩ = some (.int .i64 a0_2) := (blk_cell BK150.out 2).trans rfl
           have hcz24_3 : wc.cell? ⟨gb150, 3, none⟩ = some (.int .i64 a0_3) := (blk_cell BK150.out 3).trans rfl
           have hcz24_4 : wc.cell? ⟨gb150, 4, none⟩ = some (.slice A0_4 l0_4.length c0_4) := (blk_cell BK150.out 4).trans rfl
           have hfz24_0 := blk_frozen BK150.out 0
           have hfz24_1 := blk_frozen BK150.out 1
           have hfz24_2 := blk_frozen BK150.out 2
           have hfz24_3 := blk_frozen BK150.out 3
           have hfz24_4 := blk_frozen BK150.out 4
           go_wp2
           go_ret
           exact ⟨by first|rfl|(simp [errW_none, errW_some] <;> rfl)|(simp [*, errW_none, errW_some] <;> rfl), by repeat (first|(with_reducible first|exact HB.out|apply below_alloc|apply pw_below_drewN|apply below_drew1|refine below_set ?_ GE150.out)|exact HB.out)⟩
          ·rw [if_neg c23] at H
           have c23b0 : (a0_1.toList == ([42] : List UInt8)) = false := beq_eq_false_iff_ne.mpr c23
           have c23b1 : (a0_1.toList != ([42] : List UInt8)) = true := bne_iff_ne.mpr c23
           by_cases c25 : a0_1.toList = ([47] : List UInt8)
           ·rw [if_pos c25] at H
            have c25b0 : (a0_1.toList == ([47] : List UInt8)) = true := beq_iff_eq.mpr c25
            have c25b1 : (a0_1.toList != ([47] : List UInt8)) = false := bne_eq_false_iff_eq.mpr c25
            clear c25
            obtain rfl := Option.some.inj H
            have hcz26_0 : wc.cell? ⟨gb150, 0, none⟩ = some (.int .i64 a0_0) := (blk_cell BK150.out 0).trans rfl
            have hcz26_1 : wc.cell? ⟨gb150, 1, none⟩ = some (.string a0_1) := (blk_cell BK150.out 1).trans rfl
            have hcz26_2 : wc.cell? ⟨gb150, 2, none⟩ = some (.int .i64 a0_2) := (blk_cell BK150.out 2).trans rfl
            have hcz26_3 : wc.cell? ⟨gb150, 3, none⟩ = some (.int .i64 a0_3) := (blk_cell BK150.out 3).trans rfl
            have hcz26_4 : wc.cell? ⟨gb150, 4, none⟩ = some (.slice A0_4 l0_4.length c0_4) := (blk_cell BK150.out 4).trans rfl
            have hfz26_0 := blk_frozen BK150.out 0
            have hfz26_1 := blk_frozen BK150.out 1
            have hfz26_2 := blk_frozen BK150.out 2
            have hfz26_3 := blk_frozen BK150.out 3
            have hfz26_4 := blk_frozen BK150.out 4
            go_wp2
            go_ret
            exact ⟨by first|rfl|(simp [errW_none, errW_some] <;> rfl)|(simp [*, errW_none, errW_some] <;> rfl), by repeat (first|(with_reducible first|exact HB.out|apply below_alloc|apply pw_below_drewN|apply below_drew1|refine below_set ?_ GE150.out)|exact HB.out)⟩
           ·rw [if_neg c25] at H
            have c25b0 : (a0_1.toList == ([47] : List UInt8)) = false := beq_eq_false_iff_ne.mpr c25
            have c25b1 : (a0_1.toList != ([47] : List UInt8)) = true := bne_iff_ne.mpr c25
            by_cases c27 : a0_1.toList = ([60] : List UInt8)
            ·rw [if_pos c27] at H
             have c27b0 : (a0_1.toList == ([60] : List UInt8)) = true := beq_iff_eq.mpr c27
             have c27b1 : (a0_1.toList != ([60] : List UInt8)) = false := bne_eq_false_iff_eq.mpr c27
             clear c27
             obtain rfl := Option.some.inj H
             have hcz28_0 : wc.cell? ⟨gb150, 0, none⟩ = some (.int .i64 a0_0) := (blk_cell BK150.out 0).trans rfl
             have hcz28_1 : wc.cell? ⟨gb150, 1, none⟩ = some (.string a0_1) := (blk_cell BK150.out 1).trans rfl
             have hcz28_2 : wc.cell? ⟨gb150, 2, none⟩ = some (.int .i64 a0_2) := (blk_cell BK150.out 2).trans rfl
             have hcz28_3 : wc.cell? ⟨gb150, 3, none⟩ = some (.int .i64 a0_3) := (blk_cell BK150.out 3).trans rfl
             have hcz28_4 : wc.cell? ⟨gb150, 4, none⟩ = some (.slice A0_4 l0_4.length c0_4) := (blk_cell BK150.out 4).trans rfl
             have hfz28_0 := blk_frozen BK150.out 0
             have hfz28_1 := blk_frozen BK150.out 1
             have hfz28_2 := blk_frozen BK150.out 2
             have hfz28_3 := blk_frozen BK150.out 3
             have hfz28_4 := blk_frozen BK150.out 4
             go_wp2
             go_ret
             exact ⟨by first|rfl|(simp [errW_none, errW_some] <;> rfl)|(simp [*, errW_none, errW_some] <;> rfl), by repeat (first|(with_reducible first|exact HB.out|apply below_alloc|apply pw_below_drewN|apply below_drew1|refine below_set ?_ GE150.out)|exact HB.out)⟩
            ·rw [if_neg c27] at H
             have c27b0 : (a0_1.toList == ([60] : List UInt8)) = false := beq_eq_false_iff_ne.mpr c27
             have c27b1 : (a0_1.toList != ([60] : List UInt8)) = true := bne_iff_ne.mpr c27
             obtain rfl := Option.some.inj H
             have hcz29_0 : wc.cell? ⟨gb150, 0, none⟩ = some (.int .i64 a0_0) := (blk_cell BK150.out 0).trans rfl
             have hcz29_1 : wc.cell? ⟨gb150, 1, none⟩ = some (.string a0_1) := (blk_cell BK150.out 1).trans rfl
             have hcz29_2 : wc.cell? ⟨gb150, 2, none⟩ = some (.int .i64 a0_2) := (blk_cell BK150.out 2).trans rfl
             have hcz29_3 : wc.cell? ⟨gb150, 3, none⟩ = some (.int .i64 a0_3) := (blk_cell BK150.out 3).trans rfl
             have hcz29_4 : wc.cell? ⟨gb150, 4, none⟩ = some (.slice A0_4 l0_4.length c0_4) := (blk_cell BK150.out 4).trans rfl
             have hfz29_0 := blk_frozen BK150.out 0
             have hfz29_1 := blk_frozen BK150.out 1
             have hfz29_2 := blk_frozen BK150.out 2
             have hfz29_3 := blk_frozen BK150.out 3
             have hfz29_4 := blk_frozen BK150.out 4
             go_wp2
             go_ret
             exact ⟨by first|rfl|(simp [errW_none, errW_some] <;> rfl)|(simp [*, errW_none, errW_some] <;> rfl), by repeat (first|(with_reducible first|exact HB.out|apply below_alloc|apply pw_below_drewN|apply below_drew1|refine below_set ?_ GE150.out)|exact HB.out)⟩
       ·rw [if_neg c18] at H
        have c18b0 : (a0_0 == 10) = false := beq_eq_false_iff_ne.mpr c18
        have c18b1 : (a0_0 != 10) = true := bne_iff_ne.mpr c18
        obtain rfl := Option.some.inj H
        have hcz30_0 : wc.cell? ⟨gb150, 0, none⟩ = some (.int .i64 a0_0) := (blk_cell BK150.out 0).trans rfl
        have hcz30_1 : wc.cell? ⟨gb150, 1, none⟩ = some (.string a0_1) := (blk_cell BK150.out 1).trans rfl
        have hcz30_2 : wc.cell? ⟨gb150, 2, none⟩ = some (.int .i64 a0_2) := (blk_cell BK150.out 2).trans rfl
        have hcz30_3 : wc.cell? ⟨gb150, 3, none⟩ = some (.int .i64 a0_3) := (blk_cell BK150.out 3).trans rfl
        have hcz30_4 : wc.cell? ⟨gb150, 4, none⟩ = some (.slice A0_4 l0_4.length c0_4) := (blk_cell BK150.out 4).trans rfl
        have hfz30_0 := blk_frozen BK150.out 0
        have hfz30_1 := blk_frozen BK150.out 1
        have hfz30_2 := blk_frozen BK150.out 2
        have hfz30_3 := blk_frozen BK150.out 3
        have hfz30_4 := blk_frozen BK150.out 4
        go_wp2
        go_ret
        exact ⟨by first|rfl|(simp [errW_none, errW_some] <;> rfl)|(simp [*, errW_none, errW_some] <;> rfl), by repeat (first|(with_reducible first|exact HB.out|apply below_alloc|apply pw_below_drewN|apply below_drew1|refine below_set ?_ GE150.out)|exact HB.out)⟩

end Go.Proofs.YthdkjfhpbigdpaaDoor.Q

namespace Go.Proofs.YthdkjfhpbigdpaaDoor.Q
open Go.RowKit Go.Proofs.YthdkjfhpbigdpaaDoorW.PrintWords Go.Proofs.YthdkjfhpbigdpaaDoorW.PrintLast Go.Proofs.YthdkjfhpbigdpaaDoorW.PrintMore
attribute [local go_sem] max2_int min2_int max_two min_two max_three min_three max_four min_four
set_option linter.unusedVariables false
set_option linter.unusedSimpArgs false

def gossamerref02_parts.j0 : Nat → Int → Int → Bool → Int → ByteArray → Int → Int → List (S24) → Option (Bool)
 | 0, _, _, _, _, _, _, _, _ => none
 | k + 1, x3, x8, x27, x154000, x154001, x154002, x154003, x154004 => if x27 = true then (if x3 = 2 then (some (x154002 == 0)) else (some false)) else (if x8 = 6 then (if x3 ≤ 8 then (some (x154002 == 0)) else (some false)) else (if x8 = 7 then (if x3 ≥ 2 then (if x3 ≤ 9 then (some (x154002 == 0)) else (some false)) else (some false)) else (if x8 = 8 then (if x154002 ≥ 0 then (if x154002 ≤ 8 then (some (x3 == (wrap64 (x154002 + 1)))) else (some false)) else (some false)) else (if x8 = 9 then (if x3 = 0 then (if x154002 ≥ 0 then (some (decide (x154002 < 1000000000000000000))) else (some false)) else (some false)) else (some false)))))
def gossamerref02_parts.f (k : Nat) (a0_0 : Int) (a0_1 : ByteArray) (a0_2 : Int) (a0_3 : Int) (l0_4 : List (S24)) : Option (Bool) := if a0_0 = 1 then (if (l0_4.length : Int) = 0 then (some (a0_2 == 0)) else (some false)) else (if a0_0 = 2 then (if (l0_4.length : Int) = 1 then (some (a0_2 == 0)) else (some false)) else (if a0_0 = 3 then (gossamerref02_parts.j0 k (l0_4.length : Int) a0_0 (a0_0 == 3) a0_0 a0_1 a0_2 a0_3 l0_4) else (if a0_0 = 4 then (gossamerref02_parts.j0 k (l0_4.length : Int) a0_0 (a0_0 == 4) a0_0 a0_1 a0_2 a0_3 l0_4) else (if a0_0 = 5 then (gossamerref02_parts.j0 k (l0_4.length : Int) a0_0 (a0_0 == 5) a0_0 a0_1 a0_2 a0_3 l0_4) else (gossamerref02_parts.j0 k (l0_4.length : Int) a0_0 (a0_0 == 10) a0_0 a0_1 a0_2 a0_3 l0_4)))))
theorem gossamerref02_parts.mono_l : ∀ k, (∀ y0 y1 y2 y3 y4 y5 y6 y7, LeO (gossamerref02_parts.j0 k y0 y1 y2 y3 y4 y5 y6 y7) (gossamerref02_parts.j0 (k + 1) y0 y1 y2 y3 y4 y5 y6 y7))
 | 0 => fun _ _ _ _ _ _ _ _ r h => by simp [gossamerref02_parts.j0] at h
 | k + 1 => by
  have ih0 := gossamerref02_parts.mono_l k
  ·intro y0 y1 y2 y3 y4 y5 y6 y7
   unfold gossamerref02_parts.j0
   repeat' first
  |(with_reducible exact ih0 _ _ _ _ _ _ _ _)
  |(with_reducible exact LeO.refl _)
  |(with_reducible exact LeO.none _)
  |(with_reducible refine LeO.ite ?_ ?_)
  |(with_reducible refine LeO.bind ?_ (fun _ => ?_))
  |exact ih0 _ _ _ _ _ _ _ _
  |exact LeO.none _
  |refine LeO.ite ?_ ?_
  |refine LeO.bind ?_ (fun _ => ?_)
theorem gossamerref02_parts.mono : ∀ a0 a1 a2 a3 a4 k, LeO (gossamerref02_parts.f k a0 a1 a2 a3 a4) (gossamerref02_parts.f (k + 1) a0 a1 a2 a3 a4) := by
 intro a0 a1 a2 a3 a4 k
 have ih0 := gossamerref02_parts.mono_l k
 unfold gossamerref02_parts.f
 repeat' first
  |(with_reducible exact ih0 _ _ _ _ _ _ _ _)
  |(with_reducible exact LeO.refl _)
  |(with_reducible exact LeO.none _)
  |(with_reducible refine LeO.ite ?_ ?_)
  |(with_reducible refine LeO.bind ?_ (fun _ => ?_))
  |exact ih0 _ _ _ _ _ _ _ _
  |exact LeO.none _
  |refine LeO.ite ?_ ?_
  |refine LeO.bind ?_ (fun _ => ?_)
set_option maxHeartbeats 8000000 in
set_option maxRecDepth 100000 in
theorem gossamerref02_parts.calls (k : Nat) (a0_0 : Int) (a0_1 : ByteArray) (a0_2 : Int) (a0_3 : Int) (A0_4 : Option Addr) (c0_4 : Nat) (l0_4 : List (S24)) (r : Bool) (w : World) (hr0_4 : Kd.C k24 w A0_4 l0_4.length l0_4) (hc0_4 : l0_4.length ≤ c0_4) (h : gossamerref02_parts.f k a0_0 a0_1 a0_2 a0_3 l0_4 = some r) :
  Calls Tryd.prog 33 #[.agg #[.int .i64 a0_0, .string a0_1, .int .i64 a0_2, .int .i64 a0_3, .slice A0_4 l0_4.length c0_4]] w fun e w' => e = .returned (.bool r) ∧ Below w.heap.size w w' := by
 have hu24 := Tryd.underlying24
 have HR0_4 := Aside0.mk hr0_4
 have HC0_4 := Aside0.mk hc0_4
 clear hr0_4 hc0_4
 have HB := Aside0.mk (Below.refl w.heap.size w)
 have H : (if a0_0 = 1 then (if (l0_4.length : Int) = 0 then (some (a0_2 == 0)) else (some false)) else (if a0_0 = 2 then (if (l0_4.length : Int) = 1 then (some (a0_2 == 0)) else (some false)) else (if a0_0 = 3 then (gossamerref02_parts.j0 k (l0_4.length : Int) a0_0 (a0_0 == 3) a0_0 a0_1 a0_2 a0_3 l0_4) else (if a0_0 = 4 then (gossamerref02_parts.j0 k (l0_4.length : Int) a0_0 (a0_0 == 4) a0_0 a0_1 a0_2 a0_3 l0_4) else (if a0_0 = 5 then (gossamerref02_parts.j0 k (l0_4.length : Int) a0_0 (a0_0 == 5) a0_0 a0_1 a0_2 a0_3 l0_4) else (gossamerref02_parts.j0 k (l0_4.length : Int) a0_0 (a0_0 == 10) a0_0 a0_1 a0_2 a0_3 l0_4)))))) = some r := h
 clear h
 by_cases c2 : a0_0 = 1
 ·rw [if_pos c2] at H
  have c2b0 : (a0_0 == 1) = true := beq_iff_eq.mpr c2
  have c2b1 : (a0_0 != 1) = false := bne_eq_false_iff_eq.mpr c2
  clear c2
  by_cases c3 : (l0_4.length : Int) = 0
  ·rw [if_pos c3] at H
   have c3b0 : ((l0_4.length : Int) == 0) = true := beq_iff_eq.mpr c3
   have c3b1 : ((l0_4.length : Int) != 0) = false := bne_eq_false_iff_eq.mpr c3
   clear c3
   obtain rfl := Option.some.inj H
   go_enter Tryd.func33, Tryd.ntmps33
   go_wp2_with (first|((with_reducible refine gate_dst (N := 1) rfl ?_); refine box_event ?hg (N := 1) ?hd (cs := #[.int .i64 a0_0, .string a0_1, .int .i64 a0_2, .int .i64 a0_3, .slice A0_4 l0_4.length c0_4]) (t := 24) ?hr ?_; (case hd => rfl); (case hg => rfl); (case hr => first|(go_simp; done)|(go_simp; rfl)); intro gb153 hg w4 hbox hb; have n0_ := Aside0.mk (below_step (by repeat (first|(with_reducible first|exact HB.out|apply below_alloc|apply pw_below_drewN|apply below_drew1)|exact HB.out)) hb); have n1_ := Aside0.mk (hbox); have n2_ := Aside0.mk ((by rw [hg]; exact (below_size (by repeat (first|(with_reducible first|exact HB.out|apply below_alloc|apply pw_below_drewN|apply below_drew1)|exact HB.out))) : w.heap.size ≤ gb153)); have n3_ := Aside0.mk ((by rw [hg]; exact (below_size (by repeat (first|(with_reducible first|exact HB.out|apply below_alloc|apply pw_below_drewN|apply below_drew1)|exact HB.out))) : w.heap.size ≤ gb153)); clear HB; have HB := n0_; have BK153 := n1_; have GW153 := n2_; have GE153 := n3_; clear n0_ n1_ n2_ n3_; clear hb hbox hg; have hcz5_0 : w4.cell? ⟨gb153, 0, none⟩ = some (.int .i64 a0_0) := (blk_cell BK153.out 0).trans rfl; have hcz5_1 : w4.cell? ⟨gb153, 1, none⟩ = some (.string a0_1) := (blk_cell BK153.out 1).trans rfl; have hcz5_2 : w4.cell? ⟨gb153, 2, none⟩ = some (.int .i64 a0_2) := (blk_cell BK153.out 2).trans rfl; have hcz5_3 : w4.cell? ⟨gb153, 3, none⟩ = some (.int .i64 a0_3) := (blk_cell BK153.out 3).trans rfl; have hcz5_4 : w4.cell? ⟨gb153, 4, none⟩ = some (.slice A0_4 l0_4.length c0_4) := (blk_cell BK153.out 4).trans rfl; have hfz5_0 := blk_frozen BK153.out 0; have hfz5_1 := blk_frozen BK153.out 1; have hfz5_2 := blk_frozen BK153.out 2; have hfz5_3 := blk_frozen BK153.out 3; have hfz5_4 := blk_frozen BK153.out 4))
   go_ret
   exact ⟨by first|rfl|(simp [errW_none, errW_some] <;> rfl)|(simp [*, errW_none, errW_some] <;> rfl), by repeat (first|(with_reducible first|exact HB.out|apply below_alloc|apply pw_below_drewN|apply below_drew1|refine below_set ?_ GE153.out)|exact HB.out)⟩
  ·rw [if_neg c3] at H
   have c3b0 : ((l0_4.length : Int) == 0) = false := beq_eq_false_iff_ne.mpr c3
   have c3b1 : ((l0_4.length : Int) != 0) = true := bne_iff_ne.mpr c3
   have c3b2 : ¬ (l0_4 = []) := fun h_ => c3 (by rw [h_]; rfl)
   obtain rfl := Option.some.inj H
   go_enter Tryd.func33, Tryd.ntmps33
   go_wp2_with (first|((with_reducible refine gate_dst (N := 1) rfl ?_); refine box_event ?hg (N := 1) ?hd (cs := #[.int .i64 a0_0, .string a0_1, .int .i64 a0_2, .int .i64 a0_3, .slice A0_4 l0_4.length c0_4]) (t := 24) ?hr ?_; (case hd => rfl); (case hg => rfl); (case hr => first|(go_simp; done)|(go_simp; rfl)); intro gb153 hg w6 hbox hb; have n0_ := Aside0.mk (below_step (by repeat (first|(with_reducible first|exact HB.out|apply below_alloc|apply pw_below_drewN|apply below_drew1)|exact HB.out)) hb); have n1_ := Aside0.mk (hbox); have n2_ := Aside0.mk ((by rw [hg]; exact (below_size (by repeat (first|(with_reducible first|exact HB.out|apply below_alloc|apply pw_below_drewN|apply below_drew1)|exact HB.out))) : w.heap.size ≤ gb153)); have n3_ := Aside0.mk ((by rw [hg]; exact (below_size (by repeat (first|(with_reducible first|exact HB.out|apply below_alloc|apply pw_below_drewN|apply below_drew1)|exact HB.out))) : w.heap.size ≤ gb153)); clear HB; have HB := n0_; have BK153 := n1_; have GW153 := n2_; have GE153 := n3_; clear n0_ n1_ n2_ n3_; clear hb hbox hg; have hcz7_0 : w6.cell? ⟨gb153, 0, none⟩ = some (.int .i64 a0_0) := (blk_cell BK153.out 0).trans rfl; have hcz7_1 : w6.cell? ⟨gb153, 1, none⟩ = some (.string a0_1) := (blk_cell BK153.out 1).trans rfl; have hcz7_2 : w6.cell? ⟨gb153, 2, none⟩ = some (.int .i64 a0_2) := (blk_cell BK153.out 2).trans rfl; have hcz7_3 : w6.cell? ⟨gb153, 3, none⟩ = some (.int .i64 a0_3) := (blk_cell BK153.out 3).trans rfl; have hcz7_4 : w6.cell? ⟨gb153, 4, none⟩ = some (.slice A0_4 l0_4.length c0_4) := (blk_cell BK153.out 4).trans rfl; have hfz7_0 := blk_frozen BK153.out 0; have hfz7_1 := blk_frozen BK153.out 1; have hfz7_2 := blk_frozen BK153.out 2; have hfz7_3 := blk_frozen BK153.out 3; have hfz7_4 := blk_frozen BK153.out 4))
   go_ret
   exact ⟨by first|rfl|(simp [errW_none, errW_some] <;> rfl)|(simp [*, errW_none, errW_some] <;> rfl), by repeat (first|(with_reducible first|exact HB.out|apply below_alloc|apply pw_below_drewN|apply below_drew1|refine below_set ?_ GE153.out)|exact HB.out)⟩
 ·rw [if_neg c2] at H
  have c2b0 : (a0_0 == 1) = false := beq_eq_false_iff_ne.mpr c2
  have c2b1 : (a0_0 != 1) = true := bne_iff_ne.mpr c2
  by_cases c8 : a0_0 = 2
  ·rw [if_pos c8] at H
   have c8b0 : (a0_0 == 2) = true := beq_iff_eq.mpr c8
   have c8b1 : (a0_0 != 2) = false := bne_eq_false_iff_eq.mpr c8
   clear c8
   by_cases c9 : (l0_4.length : Int) = 1
   ·rw [if_pos c9] at H
    have c9b0 : ((l0_4.length : Int) == 1) = true := beq_iff_eq.mpr c9
    have c9b1 : ((l0_4.length : Int) != 1) = false := bne_eq_false_iff_eq.mpr c9
    clear c9
    obtain rfl := Option.some.inj H
    go_enter Tryd.func33, Tryd.ntmps33
    go_wp2_with (first|((with_reducible refine gate_dst (N := 1) rfl ?_); refine box_event ?hg (N := 1) ?hd (cs := #[.int .i64 a0_0, .string a0_1, .int .i64 a0_2, .int .i64 a0_3, .slice A0_4 l0_4.length c0_4]) (t := 24) ?hr ?_; (case hd => rfl); (case hg => rfl); (case hr => first|(go_simp; done)|(go_simp; rfl)); intro gb153 hg w10 hbox hb; have n0_ := Aside0.mk (below_step (by repeat (first|(with_reducible first|exact HB.out|apply below_alloc|apply pw_below_drewN|apply below_drew1)|exact HB.out)) hb); have n1_ := Aside0.mk (hbox); have n2_ := Aside0.mk ((by rw [hg]; exact (below_size (by repeat (first|(with_reducible first|exact HB.out|apply below_alloc|apply pw_below_drewN|apply below_drew1)|exact HB.out))) : w.heap.size ≤ gb153)); have n3_ := Aside0.mk ((by rw [hg]; exact (below_size (by repeat (first|(with_reducible first|exact HB.out|apply below_alloc|apply pw_below_drewN|apply below_drew1)|exact HB.out))) : w.heap.size ≤ gb153)); clear HB; have HB := n0_; have BK153 := n1_; have GW153 := n2_; have GE153 := n3_; clear n0_ n1_ n2_ n3_; clear hb hbox hg; have hcz11_0 : w10.cell? ⟨gb153, 0, none⟩ = some (.int .i64 a0_0) := (blk_cell BK153.out 0).trans rfl; have hcz11_1 : w10.cell? ⟨gb153, 1, none⟩ = some (.string a0_1) := (blk_cell BK153.out 1).trans rfl; have hcz11_2 : w10.cell? ⟨gb153, 2, none⟩ = some (.int .i64 a0_2) := (blk_cell BK153.out 2).trans rfl; have hcz11_3 : w10.cell? ⟨gb153, 3, none⟩ = some (.int .i64 a0_3) := (blk_cell BK153.out 3).trans rfl; have hcz11_4 : w10.cell? ⟨gb153, 4, none⟩ = some (.slice A0_4 l0_4.length c0_4) := (blk_cell BK153.out 4).trans rfl; have hfz11_0 := blk_frozen BK153.out 0; have hfz11_1 := blk_frozen BK153.out 1; have hfz11_2 := blk_frozen BK153.out 2; have hfz11_3 := blk_frozen BK153.out 3; have hfz11_4 := blk_frozen BK153.out 4))
    go_ret
    exact ⟨by first|rfl|(simp [errW_none, errW_some] <;> rfl)|(simp [*, errW_none, errW_some] <;> rfl), by repeat (first|(with_reducible first|exact HB.out|apply below_alloc|apply pw_below_drewN|apply below_drew1|refine below_set ?_ GE153.out)|exact HB.out)⟩
   ·rw [if_neg c9] at H
    have c9b0 : ((l0_4.length : Int) == 1) = false := beq_eq_false_iff_ne.mpr c9
    have c9b1 : ((l0_4.length : Int) != 1) = true := bne_iff_ne.mpr c9
    obtain rfl := Option.some.inj H
    go_enter Tryd.func33, Tryd.ntmps33
    go_wp2_with (first|((with_reducible refine gate_dst (N := 1) rfl ?_); refine box_event ?hg (N := 1) ?hd (cs := #[.int .i64 a0_0, .string a0_1, .int .i64 a0_2, .int .i64 a0_3, .slice A0_4 l0_4.length c0_4]) (t := 24) ?hr ?_; (case hd => rfl); (case hg => rfl); (case hr => first|(go_simp; done)|(go_simp; rfl)); intro gb153 hg w12 hbox hb; have n0_ := Aside0.mk (below_step (by repeat (first|(with_reducible first|exact HB.out|apply below_alloc|apply pw_below_drewN|apply below_drew1)|exact HB.out)) hb); have n1_ := Aside0.mk (hbox); have n2_ := Aside0.mk ((by rw [hg]; exact (below_size (by repeat (first|(with_reducible first|exact HB.out|apply below_alloc|apply pw_below_drewN|apply below_drew1)|exact HB.out))) : w.heap.size ≤ gb153)); have n3_ := Aside0.mk ((by rw [hg]; exact (below_size (by repeat (first|(with_reducible first|exact HB.out|apply below_alloc|apply pw_below_drewN|apply below_drew1)|exact HB.out))) : w.heap.size ≤ gb153)); clear HB; have HB := n0_; have BK153 := n1_; have GW153 := n2_; have GE153 := n3_; clear n0_ n1_ n2_ n3_; clear hb hbox hg; have hcz13_0 : w12.cell? ⟨gb153, 0, none⟩ = some (.int .i64 a0_0) := (blk_cell BK153.out 0).trans rfl; have hcz13_1 : w12.cell? ⟨gb153, 1, none⟩ = some (.string a0_1) := (blk_cell BK153.out 1).trans rfl; have hcz13_2 : w12.cell? ⟨gb153, 2, none⟩ = some (.int .i64 a0_2) := (blk_cell BK153.out 2).trans rfl; have hcz13_3 : w12.cell? ⟨gb153, 3, none⟩ = some (.int .i64 a0_3) := (blk_cell BK153.out 3).trans rfl; have hcz13_4 : w12.cell? ⟨gb153, 4, none⟩ = some (.slice A0_4 l0_4.length c0_4) := (blk_cell BK153.out 4).trans rfl; have hfz13_0 := blk_frozen BK153.out 0; have hfz13_1 := blk_frozen BK153.out 1; have hfz13_2 := blk_frozen BK153.out 2; have hfz13_3 := blk_frozen BK153.out 3; have hfz13_4 := blk_frozen BK153.out 4))
    go_ret
    exact ⟨by first|rfl|(simp [errW_none, errW_some] <;> rfl)|(simp [*, errW_none, errW_some] <;> rfl), by repeat (first|(with_reducible first|exact HB.out|apply below_alloc|apply pw_below_drewN|apply below_drew1|refine below_set ?_ GE153.out)|exact HB.out)⟩
  ·rw [if_neg c8] at H
   have c8b0 : (a0_0 == 2) = false := beq_eq_false_iff_ne.mpr c8
   have c8b1 : (a0_0 != 2) = true := bne_iff_ne.mpr c8
   have HC14 := Aside0.mk H
   clear H
   go_enter Tryd.func33, Tryd.ntmps33
   go_upto_if 27 with (first|((with_reducible refine gate_dst (N := 1) rfl ?_); refine box_event ?hg (N := 1) ?hd (cs := #[.int .i64 a0_0, .string a0_1, .int .i64 a0_2, .int .i64 a0_3, .slice A0_4 l0_4.length c0_4]) (t := 24) ?hr ?_; (case hd => rfl); (case hg => rfl); (case hr => first|(go_simp; done)|(go_simp; rfl)); intro gb153 hg w15 hbox hb; have n0_ := Aside0.mk (below_step (by repeat (first|(with_reducible first|exact HB.out|apply below_alloc|apply pw_below_drewN|apply below_drew1)|exact HB.out)) hb); have n1_ := Aside0.mk (hbox); have n2_ := Aside0.mk ((by rw [hg]; exact (below_size (by repeat (first|(with_reducible first|exact HB.out|apply below_alloc|apply pw_below_drewN|apply below_drew1)|exact HB.out))) : w.heap.size ≤ gb153)); have n3_ := Aside0.mk ((by rw [hg]; exact (below_size (by repeat (first|(with_reducible first|exact HB.out|apply below_alloc|apply pw_below_drewN|apply below_drew1)|exact HB.out))) : w.heap.size ≤ gb153)); clear HB; have HB := n0_; have BK153 := n1_; have GW153 := n2_; have GE153 := n3_; clear n0_ n1_ n2_ n3_; clear hb hbox hg; have hcz16_0 : w15.cell? ⟨gb153, 0, none⟩ = some (.int .i64 a0_0) := (blk_cell BK153.out 0).trans rfl; have hcz16_1 : w15.cell? ⟨gb153, 1, none⟩ = some (.string a0_1) := (blk_cell BK153.out 1).trans rfl; have hcz16_2 : w15.cell? ⟨gb153, 2, none⟩ = some (.int .i64 a0_2) := (blk_cell BK153.out 2).trans rfl; have hcz16_3 : w15.cell? ⟨gb153, 3, none⟩ = some (.int .i64 a0_3) := (blk_cell BK153.out 3).trans rfl; have hcz16_4 : w15.cell? ⟨gb153, 4, none⟩ = some (.slice A0_4 l0_4.length c0_4) := (blk_cell BK153.out 4).trans rfl; have hfz16_0 := blk_frozen BK153.out 0; have hfz16_1 := blk_frozen BK153.out 1; have hfz16_2 := blk_frozen BK153.out 2; have hfz16_3 := blk_frozen BK153.out 3; have hfz16_4 := blk_frozen BK153.out 4))
   (try simp only [Act.put, List.setIfInBounds_toArray, List.set_cons_zero, List.set_cons_succ])
   go_cut [27] (fun v27 wc => ∃ (kq : Nat) (x27_13 : Bool), v27 = .bool x27_13 ∧ Aside0 (gossamerref02_parts.j0 kq (l0_4.length : Int) a0_0 x27_13 a0_0 a0_1 a0_2 a0_3 l0_4 = some r) ∧ Aside0 (kq ≤ k) ∧ Aside0 (wc.heap[gb153]? = some (.cells #[.int .i64 a0_0, .string a0_1, .int .i64 a0_2, .int .i64 a0_3, (.slice A0_4 l0_4.length c0_4)] 24 (0, 0))) ∧ Aside0 (Below w.heap.size w wc))
   case first =>
    have H := HC14.out
    clear HC14
    by_cases c17 : a0_0 = 3
    ·rw [if_pos c17] at H
     have c17b0 : (a0_0 == 3) = true := beq_iff_eq.mpr c17
     have c17b1 : (a0_0 != 3) = false := bne_eq_false_iff_eq.mpr c17
     clear c17
     (first|rw [c17b0]|(simp only [i64_w, i32_w]; rw [c17b0]) | skip)
     have H' := Aside0.mk H
     clear H
     go_wp2
     go_meet
     case rel => exact ⟨_, ((a0_0 == 3)), (by first|rfl|(simp; done)|(simp [*]; done)), H', ⟨by first | omega|exact Nat.le_refl _⟩, ⟨by (with_reducible repeat (first|refine blk_drewN ?_ _|refine blk_drew ?_|refine blk_alloc ?_ _)); exact BK153.out⟩, ⟨by repeat (first|(with_reducible first|exact HB.out|apply below_alloc|apply pw_below_drewN|apply below_drew1|refine below_set ?_ GE153.out)|exact HB.out)⟩⟩
    ·rw [if_neg c17] at H
     have c17b0 : (a0_0 == 3) = false := beq_eq_false_iff_ne.mpr c17
     have c17b1 : (a0_0 != 3) = true := bne_iff_ne.mpr c17
     (first|rw [c17b0]|(simp only [i64_w, i32_w]; rw [c17b0]) | skip)
     by_cases c18 : a0_0 = 4
     ·rw [if_pos c18] at H
      have c18b0 : (a0_0 == 4) = true := beq_iff_eq.mpr c18
      have c18b1 : (a0_0 != 4) = false := bne_eq_false_iff_eq.mpr c18
      clear c18
      have H' := Aside0.mk H
      clear H
      go_wp2
      go_meet
      case rel => exact ⟨_, ((a0_0 == 4)), (by first|rfl|(simp; done)|(simp [*]; done)), H', ⟨by first | omega|exact Nat.le_refl _⟩, ⟨by (with_reducible repeat (first|refine blk_drewN ?_ _|refine blk_drew ?_|refine blk_alloc ?_ _)); exact BK153.out⟩, ⟨by repeat (first|(with_reducible first|exact HB.out|apply below_alloc|apply pw_below_drewN|apply below_drew1|refine below_set ?_ GE153.out)|exact HB.out)⟩⟩
     ·rw [if_neg c18] at H
      have c18b0 : (a0_0 == 4) = false := beq_eq_false_iff_ne.mpr c18
      have c18b1 : (a0_0 != 4) = true := bne_iff_ne.mpr c18
      by_cases c19 : a0_0 = 5
      ·rw [if_pos c19] at H
       have c19b0 : (a0_0 == 5) = true := beq_iff_eq.mpr c19
       have c19b1 : (a0_0 != 5) = false := bne_eq_false_iff_eq.mpr c19
       clear c19
       have H' := Aside0.mk H
       clear H
       go_wp2
       go_meet
       case rel => exact ⟨_, ((a0_0 == 5)), (by first|rfl|(simp; done)|(simp [*]; done)), H', ⟨by first | omega|exact Nat.le_refl _⟩, ⟨by (with_reducible repeat (first|refine blk_drewN ?_ _|refine blk_drew ?_|refine blk_alloc ?_ _)); exact BK153.out⟩, ⟨by repeat (first|(with_reducible first|exact HB.out|apply below_alloc|apply pw_below_drewN|apply below_drew1|refine below_set ?_ GE153.out)|exact HB.out)⟩⟩
      ·rw [if_neg c19] at H
       have c19b0 : (a0_0 == 5) = false := beq_eq_false_iff_ne.mpr c19
       have c19b1 : (a0_0 != 5) = true := bne_iff_ne.mpr c19
       have H' := Aside0.mk H
       clear H
       go_wp2
       go_meet
       case rel => exact ⟨_, ((a0_0 == 10)), (by first|rfl|(simp; done)|(simp [*]; done)), H', ⟨by first | omega|exact Nat.le_refl _⟩, ⟨by (with_reducible repeat (first|refine blk_drewN ?_ _|refine blk_drew ?_|refine blk_alloc ?_ _)); exact BK153.out⟩, ⟨by repeat (first|(with_reducible first|exact HB.out|apply below_alloc|apply pw_below_drewN|apply below_drew1|refine below_set ?_ GE153.out)|exact HB.out)⟩⟩
   case rest =>
    clear HC14
    try clear c1
    try clear c2
    try clear c2b0
    try clear c2b1
    try clear p2
    try clear c3
    try clear c3b0
    try clear c3b1
    try clear c3b2
    try clear c8
    try clear c8b0
    try clear c8b1
    try clear c9
    try clear c9b0
    try clear c9b1
    try clear c17
    try clear c17b0
    try clear c17b1
    try clear c18
    try clear c18b0
    try clear c18b1
    try clear c19
    try clear c19b0
    try clear c19b1
    try clear hcz11_0
    try clear hcz11_1
    try clear hcz11_2
    try clear hcz11_3
    try clear hcz11_4
    try clear hcz13_0
    try clear hcz13_1
    try clear hcz13_2
    try clear hcz13_3
    try clear hcz13_4
    try clear hcz16_0
    try clear hcz16_1
    try clear hcz16_2
    try clear hcz16_3
    try clear hcz16_4
    try clear hcz5_0
    try clear hcz5_1
    try clear hcz5_2
    try clear hcz5_3
    try clear hcz5_4
    try clear hcz7_0
    try clear hcz7_1
    try clear hcz7_2
    try clear hcz7_3
    try clear hcz7_4
    try clear hfz11_0
    try clear hfz11_1
    try clear hfz11_2
    try clear hfz11_3
    try clear hfz11_4
    try clear hfz13_0
    try clear hfz13_1
    try clear hfz13_2
    try clear hfz13_3
    try clear hfz13_4
    try clear hfz16_0
    try clear hfz16_1
    try clear hfz16_2
    try clear hfz16_3
    try clear hfz16_4
    try clear hfz5_0
    try clear hfz5_1
    try clear hfz5_2
    try clear hfz5_3
    try clear hfz5_4
    try clear hfz7_0
    try clear hfz7_1
    try clear hfz7_2
    try clear hfz7_3
    try clear hfz7_4
    obtain ⟨kq, x27_13, rfl, HA, HJ13, BK153, HB⟩ := hcut
    cases kq with
    | zero => exact absurd HA.out (by simp [gossamerref02_parts.j0])
    | succ kj13 =>
     have H := HA.out
     clear HA
     simp only [gossamerref02_parts.j0] at H
     by_cases c20 : x27_13 = true
     ·subst c20
      have H1 : (if (l0_4.length : Int) = 2 then (some (a0_2 == 0)) else (some false)) = some r := by rw [if_pos rfl] at H; exact H
      clear H
      have H := H1
      clear H1
      by_cases c21 : (l0_4.length : Int) = 2
      ·rw [if_pos c21] at H
       have c21b0 : ((l0_4.length : Int) == 2) = true := beq_iff_eq.mpr c21
       have c21b1 : ((l0_4.length : Int) != 2) = false := bne_eq_false_iff_eq.mpr c21
       clear c21
       obtain rfl := Option.some.inj H
       have hcz22_0 : wc.cell? ⟨gb153, 0, none⟩ = some (.int .i64 a0_0) := (blk_cell BK153.out 0).trans rfl
       have hcz22_1 : wc.cell? ⟨gb153, 1, none⟩ = some (.string a0_1) := (blk_cell BK153.out 1).trans rfl
       have hcz22_2 : wc.cell? ⟨gb153, 2, none⟩ = some (.int .i64 a0_2) := (blk_cell BK153.out 2).trans rfl
       have hcz22_3 : wc.cell? ⟨gb153, 3, none⟩ = some (.int .i64 a0_3) := (blk_cell BK153.out 3).trans rfl
       have hcz22_4 : wc.cell? ⟨gb153, 4, none⟩ = some (.slice A0_4 l0_4.length c0_4) := (blk_cell BK153.out 4).trans rfl
       have hfz22_0 := blk_frozen BK153.out 0
       have hfz22_1 := blk_frozen BK153.out 1
       have hfz22_2 := blk_frozen BK153.out 2
       have hfz22_3 := blk_frozen BK153.out 3
       have hfz22_4 := blk_frozen BK153.out 4
       go_wp2
       go_ret
       exact ⟨by first|rfl|(simp [errW_none, errW_some] <;> rfl)|(simp [*, errW_none, errW_some] <;> rfl), by repeat (first|(with_reducible first|exact HB.out|apply below_alloc|apply pw_below_drewN|apply below_drew1|refine below_set ?_ GE153.out)|exact HB.out)⟩
      ·rw [if_neg c21] at H
       have c21b0 : ((l0_4.length : Int) == 2) = false := beq_eq_false_iff_ne.mpr c21
       have c21b1 : ((l0_4.length : Int) != 2) = true := bne_iff_ne.mpr c21
       obtain rfl := Option.some.inj H
       go_wp2
       go_ret
       exact ⟨by first|rfl|(simp [errW_none, errW_some] <;> rfl)|(simp [*, errW_none, errW_some] <;> rfl), by repeat (first|(with_reducible first|exact HB.out|apply below_alloc|apply pw_below_drewN|apply below_drew1|refine below_set ?_ GE153.out)|exact HB.out)⟩
     ·replace c20 := Bool.eq_false_iff.mpr c20
      subst c20
      have H1 : (if a0_0 = 6 then (if (l0_4.length : Int) ≤ 8 then (some (a0_2 == 0)) else (some false)) else (if a0_0 = 7 then (if (l0_4.length : Int) ≥ 2 then (if (l0_4.length : Int) ≤ 9 then (some (a0_2 == 0)) else (some false)) else (some false)) else (if a0_0 = 8 then (if a0_2 ≥ 0 then (if a0_2 ≤ 8 then (some ((l0_4.length : Int) == (wrap64 (a0_2 + 1)))) else (some false)) else (some false)) else (if a0_0 = 9 then (if (l0_4.length : Int) = 0 then (if a0_2 ≥ 0 then (some (decide (a0_2 < 1000000000000000000))) else (some false)) else (some false)) else (some false))))) = some r := by rw [if_neg (show ¬ (false = true) by decide)] at H; exact H
      clear H
      have H := H1
      clear H1
      by_cases c23 : a0_0 = 6
      ·rw [if_pos c23] at H
       have c23b0 : (a0_0 == 6) = true := beq_iff_eq.mpr c23
       have c23b1 : (a0_0 != 6) = false := bne_eq_false_iff_eq.mpr c23
       clear c23
       by_cases c24 : (l0_4.length : Int) ≤ 8
       ·rw [if_pos c24] at H
        have c24b0 : decide ((l0_4.length : Int) ≤ 8) = true := decide_eq_true c24
        have c24b1 : decide (l0_4.length ≤ 8) = true := decide_eq_true (by omega)
        clear c24
        obtain rfl := Option.some.inj H
        have hcz25_0 : wc.cell? ⟨gb153, 0, none⟩ = some (.int .i64 a0_0) := (blk_cell BK153.out 0).trans rfl
        have hcz25_1 : wc.cell? ⟨gb153, 1, none⟩ = some (.string a0_1) := (blk_cell BK153.out 1).trans rfl
        have hcz25_2 : wc.cell? ⟨gb153, 2, none⟩ = some (.int .i64 a0_2) := (blk_cell BK153.out 2).trans rfl
        have hcz25_3 : wc.cell? ⟨gb153, 3, none⟩ = some (.int .i64 a0_3) := (blk_cell BK153.out 3).trans rfl
        have hcz25_4 : wc.cell? ⟨gb153, 4, none⟩ = some (.slice A0_4 l0_4.length c0_4) := (blk_cell BK153.out 4).trans rfl
        have hfz25_0 := blk_frozen BK153.out 0
        have hfz25_1 := blk_frozen BK153.out 1
        have hfz25_2 := blk_frozen BK153.out 2
        have hfz25_3 := blk_frozen BK153.out 3
        have hfz25_4 := blk_frozen BK153.out 4
        go_wp2
        go_ret
        exact ⟨by first|rfl|(simp [errW_none, errW_some] <;> rfl)|(simp [*, errW_none, errW_some] <;> rfl), by repeat (first|(with_reducible first|exact HB.out|apply below_alloc|apply pw_below_drewN|apply below_drew1|refine below_set ?_ GE153.out)|exact HB.out)⟩
       ·rw [if_neg c24] at H
        have c24b0 : decide ((l0_4.length : Int) ≤ 8) = false := decide_eq_false c24
        have c24b1 : decide (l0_4.length ≤ 8) = false := decide_eq_false (by omega)
        clear c24
        obtain rfl := Option.some.inj H
        go_wp2
        go_ret
        exact ⟨by first|rfl|(simp [errW_none, errW_some] <;> rfl)|(simp [*, errW_none, errW_some] <;> rfl), by repeat (first|(with_reducible first|exact HB.out|apply below_alloc|apply pw_below_drewN|apply below_drew1|refine below_set ?_ GE153.out)|exact HB.out)⟩
      ·rw [if_neg c23] at H
       have c23b0 : (a0_0 == 6) = false := beq_eq_false_iff_ne.mpr c23
       have c23b1 : (a0_0 != 6) = true := bne_iff_ne.mpr c23
       by_cases c26 : a0_0 = 7
       ·rw [if_pos c26] at H
        have c26b0 : (a0_0 == 7) = true := beq_iff_eq.mpr c26
        have c26b1 : (a0_0 != 7) = false := bne_eq_false_iff_eq.mpr c26
        clear c26
        by_cases c27 : (l0_4.length : Int) ≥ 2
        ·rw [if_pos c27] at H
         have c27b0 : decide (2 ≤ (l0_4.length : Int)) = true := decide_eq_true c27
         have c27b1 : decide (2 ≤ l0_4.length) = true := decide_eq_true (by omega)
         clear c27
         by_cases c28 : (l0_4.length : Int) ≤ 9
         ·rw [if_pos c28] at H
          have c28b0 : decide ((l0_4.length : Int) ≤ 9) = true := decide_eq_true c28
          have c28b1 : decide (l0_4.length ≤ 9) = true := decide_eq_true (by omega)
          clear c28
          obtain rfl := Option.some.inj H
          have hcz29_0 : wc.cell? ⟨gb153, 0, none⟩ = some (.int .i64 a0_0) := (blk_cell BK153.out 0).trans rfl
          have hcz29_1 : wc.cell? ⟨gb153, 1, none⟩ = some (.string a0_1) := (blk_cell BK153.out 1).trans rfl
          have hcz29_2 : wc.cell? ⟨gb153, 2, none⟩ = some (.int .i64 a0_2) := (blk_cell BK153.out 2).trans rfl
          have hcz29_3 : wc.cell? ⟨gb153, 3, none⟩ = some (.int .i64 a0_3) := (blk_cell BK153.out 3).trans rfl
          have hcz29_4 : wc.cell? ⟨gb153, 4, none⟩ = some (.slice A0_4 l0_4.length c0_4) := (blk_cell BK153.out 4).trans rfl
          have hfz29_0 := blk_frozen BK153.out 0
          have hfz29_1 := blk_frozen BK153.out 1
          have hfz29_2 := blk_frozen BK153.out 2
          have hfz29_3 := blk_frozen BK153.out 3
          have hfz29_4 := blk_frozen BK153.out 4
          go_wp2
          go_ret
          exact ⟨by first|rfl|(simp [errW_none, errW_some] <;> rfl)|(simp [*, errW_none, errW_some] <;> rfl), by repeat (first|(with_reducible first|exact HB.out|apply below_alloc|apply pw_below_drewN|apply below_drew1|refine below_set ?_ GE153.out)|exact HB.out)⟩
         ·rw [if_neg c28] at H
          have c28b0 : decide ((l0_4.length : Int) ≤ 9) = false := decide_eq_false c28
          have c28b1 : decide (l0_4.length ≤ 9) = false := decide_eq_false (by omega)
          clear c28
          obtain rfl := Option.some.inj H
          go_wp2
          go_ret
          exact ⟨by first|rfl|(simp [errW_none, errW_some] <;> rfl)|(simp [*, errW_none, errW_some] <;> rfl), by repeat (first|(with_reducible first|exact HB.out|apply below_alloc|apply pw_below_drewN|apply below_drew1|refine below_set ?_ GE153.out)|exact HB.out)⟩
        ·rw [if_neg c27] at H
         have c27b0 : decide (2 ≤ (l0_4.length : Int)) = false := decide_eq_false c27
         have c27b1 : decide (2 ≤ l0_4.length) = false := decide_eq_false (by omega)
         clear c27
         obtain rfl := Option.some.inj H
         go_wp2
         go_ret
         exact ⟨by first|rfl|(simp [errW_none, errW_some] <;> rfl)|(simp [*, errW_none, errW_some] <;> rfl), by repeat (first|(with_reducible first|exact HB.out|apply below_alloc|apply pw_below_drewN|apply below_drew1|refine below_set ?_ GE153.out)|exact HB.out)⟩
       ·rw [if_neg c26] at H
        have c26b0 : (a0_0 == 7) = false := beq_eq_false_iff_ne.mpr c26
        have c26b1 : (a0_0 != 7) = true := bne_iff_ne.mpr c26
        by_cases c30 : a0_0 = 8
        ·rw [if_pos c30] at H
         have c30b0 : (a0_0 == 8) = true := beq_iff_eq.mpr c30
         have c30b1 : (a0_0 != 8) = false := bne_eq_false_iff_eq.mpr c30
         clear c30
         by_cases c31 : a0_2 ≥ 0
         ·rw [if_pos c31] at H
          have c31b0 : decide (0 ≤ a0_2) = true := decide_eq_true c31
          clear c31
          by_cases c32 : a0_2 ≤ 8
          ·rw [if_pos c32] at H
           have c32b0 : decide (a0_2 ≤ 8) = true := decide_eq_true c32
           clear c32
           obtain rfl := Option.some.inj H
           have hcz33_0 : wc.cell? ⟨gb153, 0, none⟩ = some (.int .i64 a0_0) := (blk_cell BK153.out 0).trans rfl
           have hcz33_1 : wc.cell? ⟨gb153, 1, none⟩ = some (.string a0_1) := (blk_cell BK153.out 1).trans rfl
           have hcz33_2 : wc.cell? ⟨gb153, 2, none⟩ = some (.int .i64 a0_2) := (blk_cell BK153.out 2).trans rfl
           have hcz33_3 : wc.cell? ⟨gb153, 3, none⟩ = some (.int .i64 a0_3) := (blk_cell BK153.out 3).trans rfl
           have hcz33_4 : wc.cell? ⟨gb153, 4, none⟩ = some (.slice A0_4 l0_4.length c0_4) := (blk_cell BK153.out 4).trans rfl
           have hfz33_0 := blk_frozen BK153.out 0
           have hfz33_1 := blk_frozen BK153.out 1
           have hfz33_2 := blk_frozen BK153.out 2
           have hfz33_3 := blk_frozen BK153.out 3
           have hfz33_4 := blk_frozen BK153.out 4
           go_wp2
           go_ret
           exact ⟨by first|rfl|(simp [errW_none, errW_some] <;> rfl)|(simp [*, errW_none, errW_some] <;> rfl), by repeat (first|(with_reducible first|exact HB.out|apply below_alloc|apply pw_below_drewN|apply below_drew1|refine below_set ?_ GE153.out)|exact HB.out)⟩
          ·rw [if_neg c32] at H
           have c32b0 : decide (a0_2 ≤ 8) = false := decide_eq_false c32
           clear c32
           obtain rfl := Option.some.inj H
           have hcz34_0 : wc.cell? ⟨gb153, 0, none⟩ = some (.int .i64 a0_0) := (blk_cell BK153.out 0).trans rfl
           have hcz34_1 : wc.cell? ⟨gb153, 1, none⟩ = some (.string a0_1) := (blk_cell BK153.out 1).trans rfl
           have hcz34_2 : wc.cell? ⟨gb153, 2, none⟩ = some (.int .i64 a0_2) := (blk_cell BK153.out 2).trans rfl
           have hcz34_3 : wc.cell? ⟨gb153, 3, none⟩ = some (.int .i64 a0_3) := (blk_cell BK153.out 3).trans rfl
           have hcz34_4 : wc.cell? ⟨gb153, 4, none⟩ = some (.slice A0_4 l0_4.length c0_4) := (blk_cell BK153.out 4).trans rfl
           have hfz34_0 := blk_frozen BK153.out 0
           have hfz34_1 := blk_frozen BK153.out 1
           have hfz34_2 := blk_frozen BK153.out 2
           have hfz34_3 := blk_frozen BK153.out 3
           have hfz34_4 := blk_frozen BK153.out 4
           go_wp2
           go_ret
           exact ⟨by first|rfl|(simp [errW_none, errW_some] <;> rfl)|(simp [*, errW_none, errW_some] <;> rfl), by repeat (first|(with_reducible first|exact HB.out|apply below_alloc|apply pw_below_drewN|apply below_drew1|refine below_set ?_ GE153.out)|exact HB.out)⟩
         ·rw [if_neg c31] at H
          have c31b0 : decide (0 ≤ a0_2) = false := decide_eq_false c31
          clear c31
          obtain rfl := Option.some.inj H
          have hcz35_0 : wc.cell? ⟨gb153, 0, none⟩ = some (.int .i64 a0_0) := (blk_cell BK153.out 0).trans rfl
          have hcz35_1 : wc.cell? ⟨gb153, 1, none⟩ = some (.string a0_1) := (blk_cell BK153.out 1).trans rfl
          have hcz35_2 : wc.cell? ⟨gb153, 2, none⟩ = some (.int .i64 a0_2) := (blk_cell BK153.out 2).trans rfl
          have hcz35_3 : wc.cell? ⟨gb153, 3, none⟩ = some (.int .i64 a0_3) := (blk_cell BK153.out 3).trans rfl
          have hcz35_4 : wc.cell? ⟨gb153, 4, none⟩ = some (.slice A0_4 l0_4.length c0_4) := (blk_cell BK153.out 4).trans rfl
          have hfz35_0 := blk_frozen BK153.out 0
          have hfz35_1 := blk_frozen BK153.out 1
          have hfz35_2 := blk_frozen BK153.out 2
          have hfz35_3 := blk_frozen BK153.out 3
          have hfz35_4 := blk_frozen BK153.out 4
          go_wp2
          go_ret
          exact ⟨by first|rfl|(simp [errW_none, errW_some] <;> rfl)|(simp [*, errW_none, errW_some] <;> rfl), by repeat (first|(with_reducible first|exact HB.out|apply below_alloc|apply pw_below_drewN|apply below_drew1|refine below_set ?_ GE153.out)|exact HB.out)⟩
        ·rw [if_neg c30] at H
         have c30b0 : (a0_0 == 8) = false := beq_eq_false_iff_ne.mpr c30
         have c30b1 : (a0_0 != 8) = true := bne_iff_ne.mpr c30
         by_cases c36 : a0_0 = 9
         ·rw [if_pos c36] at H
          have c36b0 : (a0_0 == 9) = true := beq_iff_eq.mpr c36
          have c36b1 : (a0_0 != 9) = false := bne_eq_false_iff_eq.mpr c36
          clear c36
          by_cases c37 : (l0_4.length : Int) = 0
          ·rw [if_pos c37] at H
           have c37b0 : ((l0_4.length : Int) == 0) = true := beq_iff_eq.mpr c37
           have c37b1 : ((l0_4.length : Int) != 0) = false := bne_eq_false_iff_eq.mpr c37
           clear c37
           by_cases c38 : a0_2 ≥ 0
           ·rw [if_pos c38] at H
            have c38b0 : decide (0 ≤ a0_2) = true := decide_eq_true c38
            clear c38
            obtain rfl := Option.some.inj H
            have hcz39_0 : wc.cell? ⟨gb153, 0, none⟩ = some (.int .i64 a0_0) := (blk_cell BK153.out 0).trans rfl
            have hcz39_1 : wc.cell? ⟨gb153, 1, none⟩ = some (.string a0_1) := (blk_cell BK153.out 1).trans rfl
            have hcz39_2 : wc.cell? ⟨gb153, 2, none⟩ = some (.int .i64 a0_2) := (blk_cell BK153.out 2).trans rfl
            have hcz39_3 : wc.cell? ⟨gb153, 3, none⟩ = some (.int .i64 a0_3) := (blk_cell BK153.out 3).trans rfl
            have hcz39_4 : wc.cell? ⟨gb153, 4, none⟩ = some (.slice A0_4 l0_4.length c0_4) := (blk_cell BK153.out 4).trans rfl
            have hfz39_0 := blk_frozen BK153.out 0
            have hfz39_1 := blk_frozen BK153.out 1
            have hfz39_2 := blk_frozen BK153.out 2
            have hfz39_3 := blk_frozen BK153.out 3
            have hfz39_4 := blk_frozen BK153.out 4
            go_wp2
            go_ret
            exact ⟨by first|rfl|(simp [errW_none, errW_some] <;> rfl)|(simp [*, errW_none, errW_some] <;> rfl), by repeat (first|(with_reducible first|exact HB.out|apply below_alloc|apply pw_below_drewN|apply below_drew1|refine below_set ?_ GE153.out)|exact HB.out)⟩
           ·rw [if_neg c38] at H
            have c38b0 : decide (0 ≤ a0_2) = false := decide_eq_false c38
            clear c38
            obtain rfl := Option.some.inj H
            have hcz40_0 : wc.cell? ⟨gb153, 0, none⟩ = some (.int .i64 a0_0) := (blk_cell BK153.out 0).trans rfl
            have hcz40_1 : wc.cell? ⟨gb153, 1, none⟩ = some (.string a0_1) := (blk_cell BK153.out 1).trans rfl
            have hcz40_2 : wc.cell? ⟨gb153, 2, none⟩ = some (.int .i64 a0_2) := (blk_cell BK153.out 2).trans rfl
            have hcz40_3 : wc.cell? ⟨gb153, 3, none⟩ = some (.int .i64 a0_3) := (blk_cell BK153.out 3).trans rfl
            have hcz40_4 : wc.cell? ⟨gb153, 4, none⟩ = some (.slice A0_4 l0_4.length c0_4) := (blk_cell BK153.out 4).trans rfl
            have hfz40_0 := blk_frozen BK153.out 0
            have hfz40_1 := blk_frozen BK153.out 1
            have hfz40_2 := blk_frozen BK153.out 2
            have hfz40_3 := blk_frozen BK153.out 3
            have hfz40_4 := blk_frozen BK153.out 4
            go_wp2
            go_ret
            exact ⟨by first|rfl|(simp [errW_none, errW_some] <;> rfl)|(simp [*, errW_none, errW_some] <;> rfl), by repeat (first|(with_reducible first|exact HB.out|apply below_alloc|apply pw_below_drewN|apply below_drew1|refine below_set ?_ GE153.out)|exact HB.out)⟩
          ·rw [if_neg c37] at H
           have c37b0 : ((l0_4.length : Int) == 0) = false := beq_eq_false_iff_ne.mpr c37
           have c37b1 : ((l0_4.length : Int) != 0) = true := bne_iff_ne.mpr c37
           have c37b2 : ¬ (l0_4 = []) := fun h_ => c37 (by rw [h_]; rfl)
           obtain rfl := Option.some.inj H
           go_wp2
           go_ret
           exact ⟨by first|rfl|(simp [errW_none, errW_some] <;> rfl)|(simp [*, errW_none, errW_some] <;> rfl), by repeat (first|(with_reducible first|exact HB.out|apply below_alloc|apply pw_below_drewN|apply below_drew1|refine below_set ?_ GE153.out)|exact HB.out)⟩
         ·rw [if_neg c36] at H
          have c36b0 : (a0_0 == 9) = false := beq_eq_false_iff_ne.mpr c36
          have c36b1 : (a0_0 != 9) = true := bne_iff_ne.mpr c36
          obtain rfl := Option.some.inj H
          go_wp2
          go_ret
          exact ⟨by first|rfl|(simp [errW_none, errW_some] <;> rfl)|(simp [*, errW_none, errW_some] <;> rfl), by repeat (first|(with_reducible first|exact HB.out|apply below_alloc|apply pw_below_drewN|apply below_drew1|refine below_set ?_ GE153.out)|exact HB.out)⟩

end Go.Proofs.YthdkjfhpbigdpaaDoor.Q

namespace Go.Proofs.YthdkjfhpbigdpaaDoor.Q
open Go.RowKit Go.Proofs.YthdkjfhpbigdpaaDoorW.PrintWords Go.Proofs.YthdkjfhpbigdpaaDoorW.PrintLast Go.Proofs.YthdkjfhpbigdpaaDoorW.PrintMore
attribute [local go_sem] max2_int min2_int max_two min_two max_three min_three max_four min_four
set_option linter.unusedVariables false
set_option linter.unusedSimpArgs false

mutual
def gossamerref02_may.j0 : Nat → Bool → Int → ByteArray → Int → Int → List (S24) → Option (Bool)
 | 0, _, _, _, _, _, _ => none
 | k + 1, x25, x155000, x155001, x155002, x155003, x155004 => if x25 = true then (some false) else (gossamerref02_may.l0 k 0 x155000 x155001 x155002 x155003 x155004)
def gossamerref02_may.l0 : Nat → Int → Int → ByteArray → Int → Int → List (S24) → Option (Bool)
 | 0, _, _, _, _, _, _ => none
 | k + 1, x5, x155000, x155001, x155002, x155003, x155004 => if x5 < (x155004.length : Int) then (if x155000 = 8 then (if x5 < x155002 then (if 0 ≤ x5 then (gossamerref02_may.j2 k x5 (((rd_T24 x155004 x5).f0) != 1) x155000 x155001 x155002 x155003 x155004) else (none)) else (gossamerref02_may.j2 k x5 false x155000 x155001 x155002 x155003 x155004)) else (gossamerref02_may.j2 k x5 false x155000 x155001 x155002 x155003 x155004)) else (some true)
def gossamerref02_may.j2 : Nat → Int → Bool → Int → ByteArray → Int → Int → List (S24) → Option (Bool)
 | 0, _, _, _, _, _, _, _ => none
 | k + 1, x5, x50, x155000, x155001, x155002, x155003, x155004 => if x50 = true then (some false) else (if 0 ≤ x5 then (if x5 < (x155004.length : Int) then (if x155000 = 7 then ((gossamerref02_may.f k ((rd_T24 x155004 x5).f0) ((rd_T24 x155004 x5).f1) ((rd_T24 x155004 x5).f2) ((rd_T24 x155004 x5).f3) ((rd_T24 x155004 x5).f4) (decide (x5 > 0))).bind fun t159 => (if t159 = true then (gossamerref02_may.l0 k (wrap64 (x5 + 1)) x155000 x155001 x155002 x155003 x155004) else (some false))) else ((gossamerref02_may.f k ((rd_T24 x155004 x5).f0) ((rd_T24 x155004 x5).f1) ((rd_T24 x155004 x5).f2) ((rd_T24 x155004 x5).f3) ((rd_T24 x155004 x5).f4) false).bind fun t160 => (if t160 = true then (gossamerref02_may.l0 k (wrap64 (x5 + 1)) x155000 x155001 x155002 x155003 x155004) else (some false)))) else (none)) else (none))
def gossamerref02_may.f : Nat → Int → ByteArray → Int → Int → List (S24) → Bool → Option (Bool)
 | 0, _, _, _, _, _, _ => none
 | k + 1, a0_0, a0_1, a0_2, a0_3, l0_4, a1 => if ((a0_0 == 8) != a1) = true then (gossamerref02_may.j0 k true a0_0 a0_1 a0_2 a0_3 l0_4) else ((gossamerref02_name.f k a0_0 a0_1 a0_2 a0_3 l0_4).bind fun t155 => (if t155 = true then ((gossamerref02_parts.f k a0_0 a0_1 a0_2 a0_3 l0_4).bind fun t156 => (if t156 = true then (gossamerref02_may.j0 k (decide (a0_3 < 0)) a0_0 a0_1 a0_2 a0_3 l0_4) else (gossamerref02_may.j0 k true a0_0 a0_1 a0_2 a0_3 l0_4))) else (gossamerref02_may.j0 k true a0_0 a0_1 a0_2 a0_3 l0_4)))
end
theorem gossamerref02_may.mono_l : ∀ k, (∀ y0 y1 y2 y3 y4 y5, LeO (gossamerref02_may.f k y0 y1 y2 y3 y4 y5) (gossamerref02_may.f (k + 1) y0 y1 y2 y3 y4 y5)) ∧ (∀ y0 y1 y2 y3 y4 y5, LeO (gossamerref02_may.j0 k y0 y1 y2 y3 y4 y5) (gossamerref02_may.j0 (k + 1) y0 y1 y2 y3 y4 y5)) ∧ (∀ y0 y1 y2 y3 y4 y5, LeO (gossamerref02_may.l0 k y0 y1 y2 y3 y4 y5) (gossamerref02_may.l0 (k + 1) y0 y1 y2 y3 y4 y5)) ∧ (∀ y0 y1 y2 y3 y4 y5 y6, LeO (gossamerref02_may.j2 k y0 y1 y2 y3 y4 y5 y6) (gossamerref02_may.j2 (k + 1) y0 y1 y2 y3 y4 y5 y6))
 | 0 => ⟨fun _ _ _ _ _ _ r h => by simp [gossamerref02_may.f] at h, fun _ _ _ _ _ _ r h => by simp [gossamerref02_may.j0] at h, fun _ _ _ _ _ _ r h => by simp [gossamerref02_may.l0] at h, fun _ _ _ _ _ _ _ r h => by simp [gossamerref02_may.j2] at h⟩
 | k + 1 => by
  obtain ⟨ih0, ih1, ih2, ih3⟩ := gossamerref02_may.mono_l k
  refine ⟨?_, ?_, ?_, ?_⟩
  ·intro y0 y1 y2 y3 y4 y5
   unfold gossamerref02_may.f
   repeat' first
  |(with_reducible exact ih0 _ _ _ _ _ _)
  |(with_reducible exact ih1 _ _ _ _ _ _)
  |(with_reducible exact ih2 _ _ _ _ _ _)
  |(with_reducible exact ih3 _ _ _ _ _ _ _)
  |(with_reducible exact gossamerref02_name.mono _ _ _ _ _ _)
  |(with_reducible exact gossamerref02_parts.mono _ _ _ _ _ _)
  |(with_reducible exact LeO.refl _)
  |(with_reducible exact LeO.none _)
  |(with_reducible refine LeO.ite ?_ ?_)
  |(with_reducible refine LeO.bind ?_ (fun _ => ?_))
  |exact ih0 _ _ _ _ _ _
  |exact ih1 _ _ _ _ _ _
  |exact ih2 _ _ _ _ _ _
  |exact ih3 _ _ _ _ _ _ _
  |exact gossamerref02_name.mono _ _ _ _ _ _
  |exact gossamerref02_parts.mono _ _ _ _ _ _
  |exact LeO.none _
  |refine LeO.ite ?_ ?_
  |refine LeO.bind ?_ (fun _ => ?_)
  ·intro y0 y1 y2 y3 y4 y5
   unfold gossamerref02_may.j0
   repeat' first
  |(with_reducible exact ih0 _ _ _ _ _ _)
  |(with_reducible exact ih1 _ _ _ _ _ _)
  |(with_reducible exact ih2 _ _ _ _ _ _)
  |(with_reducible exact ih3 _ _ _ _ _ _ _)
  |(with_reducible exact gossamerref02_name.mono _ _ _ _ _ _)
  |(with_reducible exact gossamerref02_parts.mono _ _ _ _ _ _)
  |(with_reducible exact LeO.refl _)
  |(with_reducible exact LeO.none _)
  |(with_reducible refine LeO.ite ?_ ?_)
  |(with_reducible refine LeO.bind ?_ (fun _ => ?_))
  |exact ih0 _ _ _ _ _ _
  |exact ih1 _ _ _ _ _ _
  |exact ih2 _ _ _ _ _ _
  |exact ih3 _ _ _ _ _ _ _
  |exact gossamerref02_name.mono _ _ _ _ _ _
  |exact gossamerref02_parts.mono _ _ _ _ _ _
  |exact LeO.none _
  |refine LeO.ite ?_ ?_
  |refine LeO.bind ?_ (fun _ => ?_)
  ·intro y0 y1 y2 y3 y4 y5
   unfold gossamerref02_may.l0
   repeat' first
  |(with_reducible exact ih0 _ _ _ _ _ _)
  |(with_reducible exact ih1 _ _ _ _ _ _)
  |(with_reducible exact ih2 _ _ _ _ _ _)
  |(with_reducible exact ih3 _ _ _ _ _ _ _)
  |(with_reducible exact gossamerref02_name.mono _ _ _ _ _ _)
  |(with_reducible exact gossamerref02_parts.mono _ _ _ _ _ _)
  |(with_reducible exact LeO.refl _)
  |(with_reducible exact LeO.none _)
  |(with_reducible refine LeO.ite ?_ ?_)
  |(with_reducible refine LeO.bind ?_ (fun _ => ?_))
  |exact ih0 _ _ _ _ _ _
  |exact ih1 _ _ _ _ _ _
  |exact ih2 _ _ _ _ _ _
  |exact ih3 _ _ _ _ _ _ _
  |exact gossamerref02_name.mono _ _ _ _ _ _
  |exact gossamerref02_parts.mono _ _ _ _ _ _
  |exact LeO.none _
  |refine LeO.ite ?_ ?_
  |refine LeO.bind ?_ (fun _ => ?_)
  ·intro y0 y1 y2 y3 y4 y5 y6
   unfold gossamerref02_may.j2
   repeat' first
  |(with_reducible exact ih0 _ _ _ _ _ _)
  |(with_reducible exact ih1 _ _ _ _ _ _)
  |(with_reducible exact ih2 _ _ _ _ _ _)
  |(with_reducible exact ih3 _ _ _ _ _ _ _)
  |(with_reducible exact gossamerref02_name.mono _ _ _ _ _ _)
  |(with_reducible exact gossamerref02_parts.mono _ _ _ _ _ _)
  |(with_reducible exact LeO.refl _)
  |(with_reducible exact LeO.none _)
  |(with_reducible refine LeO.ite ?_ ?_)
  |(with_reducible refine LeO.bind ?_ (fun _ => ?_))
  |exact ih0 _ _ _ _ _ _
  |exact ih1 _ _ _ _ _ _
  |exact ih2 _ _ _ _ _ _
  |exact ih3 _ _ _ _ _ _ _
  |exact gossamerref02_name.mono _ _ _ _ _ _
  |exact gossamerref02_parts.mono _ _ _ _ _ _
  |exact LeO.none _
  |refine LeO.ite ?_ ?_
  |refine LeO.bind ?_ (fun _ => ?_)
theorem gossamerref02_may.mono : ∀ a0 a1 a2 a3 a4 a5 k, LeO (gossamerref02_may.f k a0 a1 a2 a3 a4 a5) (gossamerref02_may.f (k + 1) a0 a1 a2 a3 a4 a5) := by
 intro a0 a1 a2 a3 a4 a5 k
 obtain ⟨ih0, ih1, ih2, ih3⟩ := gossamerref02_may.mono_l k
 exact ih0 a0 a1 a2 a3 a4 a5
def gossamerref02_may.T8 : Bool × List (List Nat × List Nat) := (true, [([], []), ([0], [0]), ([], []), ([1, 2], [1, 2]), ([3], [3]), ([], []), ([5], [5]), ([6], [6]), ([7], [7]), ([8], [8]), ([9, 8], [8, 9]), ([8, 10], [8, 10]), ([4, 11, 8], [4, 11]), ([12], [12])])
def gossamerref02_may.B8 : List Nat := [0, 1, 0, 7, 15, 0, 32, 96, 224, 480, 992, 2016, 4095, 8191]
theorem gossamerref02_may.tab8 : rtab .any (opsOf Tryd.f27 8) = gossamerref02_may.T8 := by kernel_rfl
theorem gossamerref02_may.bits8 : waitsOk gossamerref02_may.T8.2 gossamerref02_may.B8 = true := by kernel_rfl
set_option maxHeartbeats 8000000 in
set_option maxRecDepth 100000 in
theorem gossamerref02_may.calls (k : Nat) : ∀ (a0_0 : Int) (a0_1 : ByteArray) (a0_2 : Int) (a0_3 : Int) (A0_4 : Option Addr) (c0_4 : Nat) (l0_4 : List (S24)) (a1 : Bool) (r : Bool) (w : World) (hr0_4 : Kd.C k24 w A0_4 l0_4.length l0_4) (hc0_4 : l0_4.length ≤ c0_4) (h : gossamerref02_may.f k a0_0 a0_1 a0_2 a0_3 l0_4 a1 = some r),
  Calls Tryd.prog 27 #[.agg #[.int .i64 a0_0, .string a0_1, .int .i64 a0_2, .int .i64 a0_3, .slice A0_4 l0_4.length c0_4], .bool a1] w fun e w' => e = .returned (.bool r) ∧ Below w.heap.size w w' := by
 induction k using Nat.strongRecOn with
 | _ k ih =>
 intro a0_0 a0_1 a0_2 a0_3 A0_4 c0_4 l0_4 a1 r w hr0_4 hc0_4 h
 cases k with
 | zero => exact absurd h (by simp [gossamerref02_may.f])
 | succ k =>
 simp only [gossamerref02_may.f] at h
 have hu24 := Tryd.underlying24
 have HR0_4 := Aside0.mk hr0_4
 have HC0_4 := Aside0.mk hc0_4
 clear hr0_4 hc0_4
 have HB := Aside0.mk (Below.refl w.heap.size w)
 have H : (if ((a0_0 == 8) != a1) = true then (gossamerref02_may.j0 k true a0_0 a0_1 a0_2 a0_3 l0_4) else ((gossamerref02_name.f k a0_0 a0_1 a0_2 a0_3 l0_4).bind fun t155 => (if t155 = true then ((gossamerref02_parts.f k a0_0 a0_1 a0_2 a0_3 l0_4).bind fun t156 => (if t156 = true then (gossamerref02_may.j0 k (decide (a0_3 < 0)) a0_0 a0_1 a0_2 a0_3 l0_4) else (gossamerref02_may.j0 k true a0_0 a0_1 a0_2 a0_3 l0_4))) else (gossamerref02_may.j0 k true a0_0 a0_1 a0_2 a0_3 l0_4)))) = some r := h
 clear h
 have HC3 := Aside0.mk H
 clear H
 go_enter Tryd.func27, Tryd.ntmps27
 go_upto_region 1 with (first|((with_reducible refine gate_dst (N := 2) rfl ?_); refine box_event ?hg (N := 2) ?hd (cs := #[.int .i64 a0_0, .string a0_1, .int .i64 a0_2, .int .i64 a0_3, .slice A0_4 l0_4.length c0_4]) (t := 24) ?hr ?_; (case hd => rfl); (case hg => rfl); (case hr => first|(go_simp; done)|(go_simp; rfl)); intro gb154 hg w4 hbox hb; have n0_ := Aside0.mk (below_step (by repeat (first|(with_reducible first|exact HB.out|apply below_alloc|apply pw_below_drewN|apply below_drew1)|exact HB.out)) hb); have n1_ := Aside0.mk (hbox); have n2_ := Aside0.mk ((by rw [hg]; exact (below_size (by repeat (first|(with_reducible first|exact HB.out|apply below_alloc|apply pw_below_drewN|apply below_drew1)|exact HB.out))) : w.heap.size ≤ gb154)); have n3_ := Aside0.mk ((by rw [hg]; exact (below_size (by repeat (first|(with_reducible first|exact HB.out|apply below_alloc|apply pw_below_drewN|apply below_drew1)|exact HB.out))) : w.heap.size ≤ gb154)); clear HB; have HB := n0_; have BK154 := n1_; have GW154 := n2_; have GE154 := n3_; clear n0_ n1_ n2_ n3_; clear hb hbox hg))
 (try simp only [Act.put, List.setIfInBounds_toArray, List.set_cons_zero, List.set_cons_succ])
 go_cut [25] (fun v25 wc => ∃ (kq : Nat) (x25_2 : Bool), v25 = .bool x25_2 ∧ Aside0 (gossamerref02_may.j0 kq x25_2 a0_0 a0_1 a0_2 a0_3 l0_4 = some r) ∧ Aside0 (kq ≤ k) ∧ Aside0 (wc.heap[gb154]? = some (.cells #[.int .i64 a0_0, .string a0_1, .int .i64 a0_2, .int .i64 a0_3, (.slice A0_4 l0_4.length c0_4)] 24 (0, 0))) ∧ Aside0 (Below w.heap.size w wc))
 case first =>
  have H := HC3.out
  clear HC3
  by_cases c5 : ((a0_0 == 8) != a1) = true
  ·rw [if_pos c5] at H
   have c5b0 : ((a0_0 == 8) != a1) = true := c5
   (try (have c5b1 : decide ((a0_0 == 8) = a1) = false := by simpa using c5))
   (try (have c5b2 : ((a0_0 == 8) == a1) = false := by simpa using c5))
   (try (have c5b3 : ¬ ((a0_0 == 8) = a1) := by simpa using c5))
   clear c5
   (first|rw [c5b0]|(simp only [i64_w, i32_w]; rw [c5b0]) | skip)
   have H' := Aside0.mk H
   clear H
   have hcz6_0 : w4.cell? ⟨gb154, 0, none⟩ = some (.int .i64 a0_0) := (blk_cell BK154.out 0).trans rfl
   have hcz6_1 : w4.cell? ⟨gb154, 1, none⟩ = some (.string a0_1) := (blk_cell BK154.out 1).trans rfl
   have hcz6_2 : w4.cell? ⟨gb154, 2, none⟩ = some (.int .i64 a0_2) := (blk_cell BK154.out 2).trans rfl
   have hcz6_3 : w4.cell? ⟨gb154, 3, none⟩ = some (.int .i64 a0_3) := (blk_cell BK154.out 3).trans rfl
   have hcz6_4 : w4.cell? ⟨gb154, 4, none⟩ = some (.slice A0_4 l0_4.length c0_4) := (blk_cell BK154.out 4).trans rfl
   have hfz6_0 := blk_frozen BK154.out 0
   have hfz6_1 := blk_frozen BK154.out 1
   have hfz6_2 := blk_frozen BK154.out 2
   have hfz6_3 := blk_frozen BK154.out 3
   have hfz6_4 := blk_frozen BK154.out 4
   go_wp2
   go_meet
   case rel => exact ⟨_, (true), (by first|rfl|(simp; done)|(simp [*]; done)), H', ⟨by first | omega|exact Nat.le_refl _⟩, ⟨by (with_reducible repeat (first|refine blk_drewN ?_ _|refine blk_drew ?_|refine blk_alloc ?_ _)); exact BK154.out⟩, ⟨by repeat (first|(with_reducible first|exact HB.out|apply below_alloc|apply pw_below_drewN|apply below_drew1|refine below_set ?_ GE154.out)|exact HB.out)⟩⟩
  ·rw [if_neg c5] at H
   have c5b0 : ((a0_0 == 8) != a1) = false := by simpa using c5
   (try (have c5b1 : decide ((a0_0 == 8) = a1) = true := by simpa using c5))
   (try (have c5b2 : ((a0_0 == 8) == a1) = true := by simpa using c5))
   clear c5
   (first|rw [c5b0]|(simp only [i64_w, i32_w]; rw [c5b0]) | skip)
   replace H := Option.bind_eq_some_iff.mp H
   obtain ⟨t155, A70, H⟩ := H
   replace H : (if t155 = true then ((gossamerref02_parts.f k a0_0 a0_1 a0_2 a0_3 l0_4).bind fun t156 => (if t156 = true then (gossamerref02_may.j0 k (decide (a0_3 < 0)) a0_0 a0_1 a0_2 a0_3 l0_4) else (gossamerref02_may.j0 k true a0_0 a0_1 a0_2 a0_3 l0_4))) else (gossamerref02_may.j0 k true a0_0 a0_1 a0_2 a0_3 l0_4)) = some r := H
   have A7 := Aside0.mk A70
   clear A70
   by_cases c8 : t155 = true
   ·subst c8
    have H1 : ((gossamerref02_parts.f k a0_0 a0_1 a0_2 a0_3 l0_4).bind fun t156 => (if t156 = true then (gossamerref02_may.j0 k (decide (a0_3 < 0)) a0_0 a0_1 a0_2 a0_3 l0_4) else (gossamerref02_may.j0 k true a0_0 a0_1 a0_2 a0_3 l0_4))) = some r := by rw [if_pos rfl] at H; exact H
    clear H
    have H := H1
    clear H1
    replace H := Option.bind_eq_some_iff.mp H
    obtain ⟨t156, A90, H⟩ := H
    replace H : (if t156 = true then (gossamerref02_may.j0 k (decide (a0_3 < 0)) a0_0 a0_1 a0_2 a0_3 l0_4) else (gossamerref02_may.j0 k true a0_0 a0_1 a0_2 a0_3 l0_4)) = some r := H
    have A9 := Aside0.mk A90
    clear A90
    by_cases c10 : t156 = true
    ·subst c10
     have H1 : (gossamerref02_may.j0 k (decide (a0_3 < 0)) a0_0 a0_1 a0_2 a0_3 l0_4) = some r := by rw [if_pos rfl] at H; exact H
     clear H
     have H := H1
     clear H1
     have H' := Aside0.mk H
     clear H
     have hcz11_0 : w4.cell? ⟨gb154, 0, none⟩ = some (.int .i64 a0_0) := (blk_cell BK154.out 0).trans rfl
     have hcz11_1 : w4.cell? ⟨gb154, 1, none⟩ = some (.string a0_1) := (blk_cell BK154.out 1).trans rfl
     have hcz11_2 : w4.cell? ⟨gb154, 2, none⟩ = some (.int .i64 a0_2) := (blk_cell BK154.out 2).trans rfl
     have hcz11_3 : w4.cell? ⟨gb154, 3, none⟩ = some (.int .i64 a0_3) := (blk_cell BK154.out 3).trans rfl
     have hcz11_4 : w4.cell? ⟨gb154, 4, none⟩ = some (.slice A0_4 l0_4.length c0_4) := (blk_cell BK154.out 4).trans rfl
     have hfz11_0 := blk_frozen BK154.out 0
     have hfz11_1 := blk_frozen BK154.out 1
     have hfz11_2 := blk_frozen BK154.out 2
     have hfz11_3 := blk_frozen BK154.out 3
     have hfz11_4 := blk_frozen BK154.out 4
     go_wp2_with (first|(go_at_call 32; (with_reducible refine (gossamerref02_name.calls k a0_0 a0_1 a0_2 a0_3 _ _ l0_4 true _ ?side1 ?side2 A7.out).mono ?_); (case side1 => repeat (first|exact (Kd.C_below HR0_4.out HB.out)|(with_reducible refine Kd.C_alloc ?_ _)|(with_reducible refine Kd.C_drewN ?_ _)|(with_reducible refine Kd.C_drew ?_))); (case side2 => exact HC0_4.out); rintro e w12 ⟨rfl, hb⟩; have n0_ := Aside0.mk (blk_below (g := gb154) (o := .cells #[.int .i64 a0_0, .string a0_1, .int .i64 a0_2, .int .i64 a0_3, .slice A0_4 l0_4.length c0_4] 24 (0, 0)) (by (with_reducible repeat (first|refine blk_drewN ?_ _|refine blk_drew ?_|refine blk_alloc ?_ _)); exact BK154.out) hb); have n1_ := Aside0.mk (below_step (by repeat (first|(with_reducible first|exact HB.out|apply below_alloc|apply pw_below_drewN|apply below_drew1|refine below_set ?_ GE154.out)|exact HB.out)) hb); clear BK154; clear HB; have BK154 := n0_; have HB := n1_; clear n0_ n1_; (try clear hb); (try clear hb2); (try clear hk); (try clear hi); have hcz13_0 : w12.cell? ⟨gb154, 0, none⟩ = some (.int .i64 a0_0) := (blk_cell BK154.out 0).trans rfl; have hcz13_1 : w12.cell? ⟨gb154, 1, none⟩ = some (.string a0_1) := (blk_cell BK154.out 1).trans rfl; have hcz13_2 : w12.cell? ⟨gb154, 2, none⟩ = some (.int .i64 a0_2) := (blk_cell BK154.out 2).trans rfl; have hcz13_3 : w12.cell? ⟨gb154, 3, none⟩ = some (.int .i64 a0_3) := (blk_cell BK154.out 3).trans rfl; have hcz13_4 : w12.cell? ⟨gb154, 4, none⟩ = some (.slice A0_4 l0_4.length c0_4) := (blk_cell BK154.out 4).trans rfl; have hfz13_0 := blk_frozen BK154.out 0; have hfz13_1 := blk_frozen BK154.out 1; have hfz13_2 := blk_frozen BK154.out 2; have hfz13_3 := blk_frozen BK154.out 3; have hfz13_4 := blk_frozen BK154.out 4) | (go_at_call 33; (with_reducible refine (gossamerref02_parts.calls k a0_0 a0_1 a0_2 a0_3 _ _ l0_4 true _ ?side1 ?side2 A9.out).mono ?_); (case side1 => repeat (first|exact (Kd.C_below HR0_4.out HB.out)|(with_reducible refine Kd.C_alloc ?_ _)|(with_reducible refine Kd.C_drewN ?_ _)|(with_reducible refine Kd.C_drew ?_))); (case side2 => exact HC0_4.out); rintro e w14 ⟨rfl, hb⟩; have n0_ := Aside0.mk (blk_below (g := gb154) (o := .cells #[.int .i64 a0_0, .string a0_1, .int .i64 a0_2, .int .i64 a0_3, .slice A0_4 l0_4.length c0_4] 24 (0, 0)) (by (with_reducible repeat (first|refine blk_drewN ?_ _|refine blk_drew ?_|refine blk_alloc ?_ _)); exact BK154.out) hb); have n1_ := Aside0.mk (below_step (by repeat (first|(with_reducible first|exact HB.out|apply below_alloc|apply pw_below_drewN|apply below_drew1|refine below_set ?_ GE154.out)|exact HB.out)) hb); clear BK154; clear HB; have BK154 := n0_; have HB := n1_; clear n0_ n1_; (try clear hb); (try clear hb2); (try clear hk); (try clear hi); have hcz15_0 : w14.cell? ⟨gb154, 0, none⟩ = some (.int .i64 a0_0) := (blk_cell BK154.out 0).trans rfl; have hcz15_1 : w14.cell? ⟨gb154, 1, none⟩ = some (.string a0_1) := (blk_cell BK154.out 1).trans rfl; have hcz15_2 : w14.cell? ⟨gb154, 2, none⟩ = some (.int .i64 a0_2) := (blk_cell BK154.out 2).trans rfl; have hcz15_3 : w14.cell? ⟨gb154, 3, none⟩ = some (.int .i64 a0_3) := (blk_cell BK154.out 3).trans rfl; have hcz15_4 : w14.cell? ⟨gb154, 4, none⟩ = some (.slice A0_4 l0_4.length c0_4) := (blk_cell BK154.out 4).trans rfl; have hfz15_0 := blk_frozen BK154.out 0; have hfz15_1 := blk_frozen BK154.out 1; have hfz15_2 := blk_frozen BK154.out 2; have hfz15_3 := blk_frozen BK154.out 3; have hfz15_4 := blk_frozen BK154.out 4))
     go_meet
     case rel => exact ⟨_, (decide (a0_3 < 0)), (by first|rfl|(simp; done)|(simp [*]; done)), H', ⟨by first | omega|exact Nat.le_refl _⟩, ⟨by (with_reducible repeat (first|refine blk_drewN ?_ _|refine blk_drew ?_|refine blk_alloc ?_ _)); exact BK154.out⟩, ⟨by repeat (first|(with_reducible first|exact HB.out|apply below_alloc|apply pw_below_drewN|apply below_drew1|refine below_set ?_ GE154.out)|exact HB.out)⟩⟩
    ·replace c10 := Bool.eq_false_iff.mpr c10
     subst c10
     have H1 : (gossamerref02_may.j0 k true a0_0 a0_1 a0_2 a0_3 l0_4) = some r := by rw [if_neg (show ¬ (false = true) by decide)] at H; exact H
     clear H
     have H := H1
     clear H1
     have H' := Aside0.mk H
     clear H
     have hcz16_0 : w4.cell? ⟨gb154, 0, none⟩ = some (.int .i64 a0_0) := (blk_cell BK154.out 0).trans rfl
     have hcz16_1 : w4.cell? ⟨gb154, 1, none⟩ = some (.string a0_1) := (blk_cell BK154.out 1).trans rfl
     have hcz16_2 : w4.cell? ⟨gb154, 2, none⟩ = some (.int .i64 a0_2) := (blk_cell BK154.out 2).trans rfl
     have hcz16_3 : w4.cell? ⟨gb154, 3, none⟩ = some (.int .i64 a0_3) := (blk_cell BK154.out 3).trans rfl
     have hcz16_4 : w4.cell? ⟨gb154, 4, none⟩ = some (.slice A0_4 l0_4.length c0_4) := (blk_cell BK154.out 4).trans rfl
     have hfz16_0 := blk_frozen BK154.out 0
     have hfz16_1 := blk_frozen BK154.out 1
     have hfz16_2 := blk_frozen BK154.out 2
     have hfz16_3 := blk_frozen BK154.out 3
     have hfz16_4 := blk_frozen BK154.out 4
     go_wp2_with (first|(go_at_call 32; (with_reducible refine (gossamerref02_name.calls k a0_0 a0_1 a0_2 a0_3 _ _ l0_4 true _ ?side1 ?side2 A7.out).mono ?_); (case side1 => repeat (first|exact (Kd.C_below HR0_4.out HB.out)|(with_reducible refine Kd.C_alloc ?_ _)|(with_reducible refine Kd.C_drewN ?_ _)|(with_reducible refine Kd.C_drew ?_))); (case side2 => exact HC0_4.out); rintro e w17 ⟨rfl, hb⟩; have n0_ := Aside0.mk (blk_below (g := gb154) (o := .cells #[.int .i64 a0_0, .string a0_1, .int .i64 a0_2, .int .i64 a0_3, .slice A0_4 l0_4.length c0_4] 24 (0, 0)) (by (with_reducible repeat (first|refine blk_drewN ?_ _|refine blk_drew ?_|refine blk_alloc ?_ _)); exact BK154.out) hb); have n1_ := Aside0.mk (below_step (by repeat (first|(with_reducible first|exact HB.out|apply below_alloc|apply pw_below_drewN|apply below_drew1|refine below_set ?_ GE154.out)|exact HB.out)) hb); clear BK154; clear HB; have BK154 := n0_; have HB := n1_; clear n0_ n1_; (try clear hb); (try clear hb2); (try clear hk); (try clear hi); have hcz18_0 : w17.cell? ⟨gb154, 0, none⟩ = some (.int .i64 a0_0) := (blk_cell BK154.out 0).trans rfl; have hcz18_1 : w17.cell? ⟨gb154, 1, none⟩ = some (.string a0_1) := (blk_cell BK154.out 1).trans rfl; have hcz18_2 : w17.cell? ⟨gb154, 2, none⟩ = some (.int .i64 a0_2) := (blk_cell BK154.out 2).trans rfl; have hcz18_3 : w17.cell? ⟨gb154, 3, none⟩ = some (.int .i64 a0_3) := (blk_cell BK154.out 3).trans rfl; have hcz18_4 : w17.cell? ⟨gb154, 4, none⟩ = some (.slice A0_4 l0_4.length c0_4) := (blk_cell BK154.out 4).trans rfl; have hfz18_0 := blk_frozen BK154.out 0; have hfz18_1 := blk_frozen BK154.out 1; have hfz18_2 := blk_frozen BK154.out 2; have hfz18_3 := blk_frozen BK154.out 3; have hfz18_4 := blk_frozen BK154.out 4) | (go_at_call 33; (with_reducible refine (gossamerref02_parts.calls k a0_0 a0_1 a0_2 a0_3 _ _ l0_4 false _ ?side1 ?side2 A9.out).mono ?_); (case side1 => repeat (first|exact (Kd.C_below HR0_4.out HB.out)|(with_reducible refine Kd.C_alloc ?_ _)|(with_reducible refine Kd.C_drewN ?_ _)|(with_reducible refine Kd.C_drew ?_))); (case side2 => exact HC0_4.out); rintro e w19 ⟨rfl, hb⟩; have n0_ := Aside0.mk (blk_below (g := gb154) (o := .cells #[.int .i64 a0_0, .string a0_1, .int .i64 a0_2, .int .i64 a0_3, .slice A0_4 l0_4.length c0_4] 24 (0, 0)) (by (with_reducible repeat (first|refine blk_drewN ?_ _|refine blk_drew ?_|refine blk_alloc ?_ _)); exact BK154.out) hb); have n1_ := Aside0.mk (below_step (by repeat (first|(with_reducible first|exact HB.out|apply below_alloc|apply pw_below_drewN|apply below_drew1|refine below_set ?_ GE154.out)|exact HB.out)) hb); clear BK154; clear HB; have BK154 := n0_; have HB := n1_; clear n0_ n1_; (try clear hb); (try clear hb2); (try clear hk); (try clear hi)))
     go_meet
     case rel => exact ⟨_, (true), (by first|rfl|(simp; done)|(simp [*]; done)), H', ⟨by first | omega|exact Nat.le_refl _⟩, ⟨by (with_reducible repeat (first|refine blk_drewN ?_ _|refine blk_drew ?_|refine blk_alloc ?_ _)); exact BK154.out⟩, ⟨by repeat (first|(with_reducible first|exact HB.out|apply below_alloc|apply pw_below_drewN|apply below_drew1|refine below_set ?_ GE154.out)|exact HB.out)⟩⟩
   ·replace c8 := Bool.eq_false_iff.mpr c8
    subst c8
    have H1 : (gossamerref02_may.j0 k true a0_0 a0_1 a0_2 a0_3 l0_4) = some r := by rw [if_neg (show ¬ (false = true) by decide)] at H; exact H
    clear H
    have H := H1
    clear H1
    have H' := Aside0.mk H
    clear H
    have hcz20_0 : w4.cell? ⟨gb154, 0, none⟩ = some (.int .i64 a0_0) := (blk_cell BK154.out 0).trans rfl
    have hcz20_1 : w4.cell? ⟨gb154, 1, none⟩ = some (.string a0_1) := (blk_cell BK154.out 1).trans rfl
    have hcz20_2 : w4.cell? ⟨gb154, 2, none⟩ = some (.int .i64 a0_2) := (blk_cell BK154.out 2).trans rfl
    have hcz20_3 : w4.cell? ⟨gb154, 3, none⟩ = some (.int .i64 a0_3) := (blk_cell BK154.out 3).trans rfl
    have hcz20_4 : w4.cell? ⟨gb154, 4, none⟩ = some (.slice A0_4 l0_4.length c0_4) := (blk_cell BK154.out 4).trans rfl
    have hfz20_0 := blk_frozen BK154.out 0
    have hfz20_1 := blk_frozen BK154.out 1
    have hfz20_2 := blk_frozen BK154.out 2
    have hfz20_3 := blk_frozen BK154.out 3
    have hfz20_4 := blk_frozen BK154.out 4
    go_wp2_with (first|(go_at_call 32; (with_reducible refine (gossamerref02_name.calls k a0_0 a0_1 a0_2 a0_3 _ _ l0_4 false _ ?side1 ?side2 A7.out).mono ?_); (case side1 => repeat (first|exact (Kd.C_below HR0_4.out HB.out)|(with_reducible refine Kd.C_alloc ?_ _)|(with_reducible refine Kd.C_drewN ?_ _)|(with_reducible refine Kd.C_drew ?_))); (case side2 => exact HC0_4.out); rintro e w21 ⟨rfl, hb⟩; have n0_ := Aside0.mk (blk_below (g := gb154) (o := .cells #[.int .i64 a0_0, .string a0_1, .int .i64 a0_2, .int .i64 a0_3, .slice A0_4 l0_4.length c0_4] 24 (0, 0)) (by (with_reducible repeat (first|refine blk_drewN ?_ _|refine blk_drew ?_|refine blk_alloc ?_ _)); exact BK154.out) hb); have n1_ := Aside0.mk (below_step (by repeat (first|(with_reducible first|exact HB.out|apply below_alloc|apply pw_below_drewN|apply below_drew1|refine below_set ?_ GE154.out)|exact HB.out)) hb); clear BK154; clear HB; have BK154 := n0_; have HB := n1_; clear n0_ n1_; (try clear hb); (try clear hb2); (try clear hk); (try clear hi)))
    go_meet
    case rel => exact ⟨_, (true), (by first|rfl|(simp; done)|(simp [*]; done)), H', ⟨by first | omega|exact Nat.le_refl _⟩, ⟨by (with_reducible repeat (first|refine blk_drewN ?_ _|refine blk_drew ?_|refine blk_alloc ?_ _)); exact BK154.out⟩, ⟨by repeat (first|(with_reducible first|exact HB.out|apply below_alloc|apply pw_below_drewN|apply below_drew1|refine below_set ?_ GE154.out)|exact HB.out)⟩⟩
 case rest =>
  clear HC3
  try clear c1
  try clear c2
  try clear p2
  try clear c5
  try clear c5b0
  try clear c5b1
  try clear c5b2
  try clear c8
  try clear c10
  try clear hcz11_0
  try clear hcz11_1
  try clear hcz11_2
  try clear hcz11_3
  try clear hcz11_4
  try clear hcz13_0
  try clear hcz13_1
  try clear hcz13_2
  try clear hcz13_3
  try clear hcz13_4
  try clear hcz15_0
  try clear hcz15_1
  try clear hcz15_2
  try clear hcz15_3
  try clear hcz15_4
  try clear hcz16_0
  try clear hcz16_1
  try clear hcz16_2
  try clear hcz16_3
  try clear hcz16_4
  try clear hcz18_0
  try clear hcz18_1
  try clear hcz18_2
  try clear hcz18_3
  try clear hcz18_4
  try clear hcz20_0
  try clear hcz20_1
  try clear hcz20_2
  try clear hcz20_3
  try clear hcz20_4
  try clear hcz6_0
  try clear hcz6_1
  try clear hcz6_2
  try clear hcz6_3
  try clear hcz6_4
  try clear hfz11_0
  try clear hfz11_1
  try clear hfz11_2
  try clear hfz11_3
  try clear hfz11_4
  try clear hfz13_0
  try clear hfz13_1
  try clear hfz13_2
  try clear hfz13_3
  try clear hfz13_4
  try clear hfz15_0
  try clear hfz15_1
  try clear hfz15_2
  try clear hfz15_3
  try clear hfz15_4
  try clear hfz16_0
  try clear hfz16_1
  try clear hfz16_2
  try clear hfz16_3
  try clear hfz16_4
  try clear hfz18_0
  try clear hfz18_1
  try clear hfz18_2
  try clear hfz18_3
  try clear hfz18_4
  try clear hfz20_0
  try clear hfz20_1
  try clear hfz20_2
  try clear hfz20_3
  try clear hfz20_4
  try clear hfz6_0
  try clear hfz6_1
  try clear hfz6_2
  try clear hfz6_3
  try clear hfz6_4
  obtain ⟨kq, x25_2, rfl, HA, HJ2, BK154, HB⟩ := hcut
  cases kq with
  | zero => exact absurd HA.out (by simp [gossamerref02_may.j0])
  | succ kj2 =>
   have H := HA.out
   clear HA
   simp only [gossamerref02_may.j0] at H
   by_cases c22 : x25_2 = true
   ·subst c22
    have H1 : (some false) = some r := by rw [if_pos rfl] at H; exact H
    clear H
    have H := H1
    clear H1
    obtain rfl := Option.some.inj H
    go_wp2
    go_ret
    exact ⟨by first|rfl|(simp [errW_none, errW_some] <;> rfl)|(simp [*, errW_none, errW_some] <;> rfl), by repeat (first|(with_reducible first|exact HB.out|apply below_alloc|apply pw_below_drewN|apply below_drew1|refine below_set ?_ GE154.out)|exact HB.out)⟩
   ·replace c22 := Bool.eq_false_iff.mpr c22
    subst c22
    have H1 : (gossamerref02_may.l0 kj2 0 a0_0 a0_1 a0_2 a0_3 l0_4) = some r := by rw [if_neg (show ¬ (false = true) by decide)] at H; exact H
    clear H
    have H := H1
    clear H1
    have H' := Aside0.mk H
    clear H
    go_wp2
    go_loopg [5] kj2 (fun kq v5 w' => ∃ (x5_2 : Int), v5 = .int .i64 x5_2 ∧ Aside0 (gossamerref02_may.l0 kq x5_2 a0_0 a0_1 a0_2 a0_3 l0_4 = some r) ∧ Aside0 (kq ≤ kj2) ∧ Aside0 (w'.heap[gb154]? = some (.cells #[.int .i64 a0_0, .string a0_1, .int .i64 a0_2, .int .i64 a0_3, (.slice A0_4 l0_4.length c0_4)] 24 (0, 0))) ∧ Aside0 (Below w.heap.size w w'))
    case atStart => exact ⟨(0), (by first|rfl|(simp; done)|(simp [*]; done)), H', ⟨Nat.le_refl _⟩, ⟨by (with_reducible repeat (first|refine blk_drewN ?_ _|refine blk_drew ?_|refine blk_alloc ?_ _)); exact BK154.out⟩, ⟨by repeat (first|(with_reducible first|exact HB.out|apply below_alloc|apply pw_below_drewN|apply below_drew1|refine below_set ?_ GE154.out)|exact HB.out)⟩⟩
    case round =>
     clear H'
     try clear c1
     try clear c2
     try clear p2
     try clear c5
     try clear c5b0
     try clear c5b1
     try clear c5b2
     try clear c8
     try clear c10
     try clear c22
     try clear hcz11_0
     try clear hcz11_1
     try clear hcz11_2
     try clear hcz11_3
     try clear hcz11_4
     try clear hcz13_0
     try clear hcz13_1
     try clear hcz13_2
     try clear hcz13_3
     try clear hcz13_4
     try clear hcz15_0
     try clear hcz15_1
     try clear hcz15_2
     try clear hcz15_3
     try clear hcz15_4
     try clear hcz16_0
     try clear hcz16_1
     try clear hcz16_2
     try clear hcz16_3
     try clear hcz16_4
     try clear hcz18_0
     try clear hcz18_1
     try clear hcz18_2
     try clear hcz18_3
     try clear hcz18_4
     try clear hcz20_0
     try clear hcz20_1
     try clear hcz20_2
     try clear hcz20_3
     try clear hcz20_4
     try clear hcz6_0
     try clear hcz6_1
     try clear hcz6_2
     try clear hcz6_3
     try clear hcz6_4
     try clear hfz11_0
     try clear hfz11_1
     try clear hfz11_2
     try clear hfz11_3
     try clear hfz11_4
     try clear hfz13_0
     try clear hfz13_1
     try clear hfz13_2
     try clear hfz13_3
     try clear hfz13_4
     try clear hfz15_0
     try clear hfz15_1
     try clear hfz15_2
     try clear hfz15_3
     try clear hfz15_4
     try clear hfz16_0
     try clear hfz16_1
     try clear hfz16_2
     try clear hfz16_3
     try clear hfz16_4
     try clear hfz18_0
     try clear hfz18_1
     try clear hfz18_2
     try clear hfz18_3
     try clear hfz18_4
     try clear hfz20_0
     try clear hfz20_1
     try clear hfz20_2
     try clear hfz20_3
     try clear hfz20_4
     try clear hfz6_0
     try clear hfz6_1
     try clear hfz6_2
     try clear hfz6_3
     try clear hfz6_4
     try clear p2
     obtain ⟨x5_2, rfl, HA, HK2, BK154, HB⟩ := hrel
     cases gk with
     | zero => exact absurd HA.out (by simp [gossamerref02_may.l0])
     | succ k2 =>
      have H := HA.out
      clear HA
      simp only [gossamerref02_may.l0] at H
      by_cases c23 : x5_2 < (l0_4.length : Int)
      ·rw [if_pos c23] at H
       have c23b0 : decide (x5_2 < (l0_4.length : Int)) = true := decide_eq_true c23
       clear c23
       have HC24 := Aside0.mk H
       clear H
       have hcz25_0 : wr.cell? ⟨gb154, 0, none⟩ = some (.int .i64 a0_0) := (blk_cell BK154.out 0).trans rfl
       have hcz25_1 : wr.cell? ⟨gb154, 1, none⟩ = some (.string a0_1) := (blk_cell BK154.out 1).trans rfl
       have hcz25_2 : wr.cell? ⟨gb154, 2, none⟩ = some (.int .i64 a0_2) := (blk_cell BK154.out 2).trans rfl
       have hcz25_3 : wr.cell? ⟨gb154, 3, none⟩ = some (.int .i64 a0_3) := (blk_cell BK154.out 3).trans rfl
       have hcz25_4 : wr.cell? ⟨gb154, 4, none⟩ = some (.slice A0_4 l0_4.length c0_4) := (blk_cell BK154.out 4).trans rfl
       have hfz25_0 := blk_frozen BK154.out 0
       have hfz25_1 := blk_frozen BK154.out 1
       have hfz25_2 := blk_frozen BK154.out 2
       have hfz25_3 := blk_frozen BK154.out 3
       have hfz25_4 := blk_frozen BK154.out 4
       go_upto_region 6 with (fail)
       go_cut [50] (fun v50 wc => ∃ (kq : Nat) (x50_23 : Bool), v50 = .bool x50_23 ∧ Aside0 (gossamerref02_may.j2 kq x5_2 x50_23 a0_0 a0_1 a0_2 a0_3 l0_4 = some r) ∧ Aside0 (kq ≤ k2) ∧ Aside0 (wc.heap[gb154]? = some (.cells #[.int .i64 a0_0, .string a0_1, .int .i64 a0_2, .int .i64 a0_3, (.slice A0_4 l0_4.length c0_4)] 24 (0, 0))) ∧ Aside0 (Below w.heap.size w wc))
       case first =>
        have H := HC24.out
        clear HC24
        by_cases c26 : a0_0 = 8
        ·rw [if_pos c26] at H
         have c26b0 : (a0_0 == 8) = true := beq_iff_eq.mpr c26
         have c26b1 : (a0_0 != 8) = false := bne_eq_false_iff_eq.mpr c26
         clear c26
         (first|rw [c26b0]|(simp only [i64_w, i32_w]; rw [c26b0]) | skip)
         by_cases c27 : x5_2 < a0_2
         ·rw [if_pos c27] at H
          have c27b0 : decide (x5_2 < a0_2) = true := decide_eq_true c27
          clear c27
          by_cases c28 : 0 ≤ x5_2
          ·rw [if_pos c28] at H
           have c28b0 : decide (0 ≤ x5_2) = true := decide_eq_true c28
           clear c28
           have H' := Aside0.mk H
           clear H
           have hcz29_0 : wr.cell? ⟨gb154, 0, none⟩ = some (.int .i64 a0_0) := (blk_cell BK154.out 0).trans rfl
           have hcz29_1 : wr.cell? ⟨gb154, 1, none⟩ = some (.string a0_1) := (blk_cell BK154.out 1).trans rfl
           have hcz29_2 : wr.cell? ⟨gb154, 2, none⟩ = some (.int .i64 a0_2) := (blk_cell BK154.out 2).trans rfl
           have hcz29_3 : wr.cell? ⟨gb154, 3, none⟩ = some (.int .i64 a0_3) := (blk_cell BK154.out 3).trans rfl
           have hcz29_4 : wr.cell? ⟨gb154, 4, none⟩ = some (.slice A0_4 l0_4.length c0_4) := (blk_cell BK154.out 4).trans rfl
           have hfz29_0 := blk_frozen BK154.out 0
           have hfz29_1 := blk_frozen BK154.out 1
           have hfz29_2 := blk_frozen BK154.out 2
           have hfz29_3 := blk_frozen BK154.out 3
           have hfz29_4 := blk_frozen BK154.out 4
           have p157 : 0 ≤ (x5_2 : Int) := of_decide_eq_true (by first|(with_reducible assumption) | assumption)
           have q157 : x5_2 < (l0_4.length : Int) := of_decide_eq_true (by first|(with_reducible assumption) | assumption)
           obtain ⟨ad157, A157_4, c157_4, e157, hx157_0, hx157_1, hx157_2, hx157_3, hx157_4, hl157_4, hi157_4⟩ := at_T24 HR0_4.out x5_2 p157 q157
           cases e157
           replace hx157_0 := (HB.out.cell (World.block_lt_of_cell? w _ hx157_0)).trans hx157_0
           replace hx157_1 := (HB.out.cell (World.block_lt_of_cell? w _ hx157_1)).trans hx157_1
           replace hx157_2 := (HB.out.cell (World.block_lt_of_cell? w _ hx157_2)).trans hx157_2
           replace hx157_3 := (HB.out.cell (World.block_lt_of_cell? w _ hx157_3)).trans hx157_3
           replace hx157_4 := (HB.out.cell (World.block_lt_of_cell? w _ hx157_4)).trans hx157_4
           have HR157_4 := Aside0.mk hi157_4
           have HC157_4 := Aside0.mk hl157_4
           clear hi157_4 hl157_4
           replace p157 := eq_true p157
           replace q157 := eq_true q157
           go_wp2
           go_meet
           case rel => exact ⟨_, ((((rd_T24 l0_4 x5_2).f0) != 1)), (by first|rfl|(simp; done)|(simp [*]; done)), H', ⟨by have := HJ2.out; have := HK2.out; first | omega|exact Nat.le_refl _⟩, ⟨by (with_reducible repeat (first|refine blk_drewN ?_ _|refine blk_drew ?_|refine blk_alloc ?_ _)); exact BK154.out⟩, ⟨by repeat (first|(with_reducible first|exact HB.out|apply below_alloc|apply pw_below_drewN|apply below_drew1|refine below_set ?_ GE154.out)|exact HB.out)⟩⟩
          ·rw [if_neg c28] at H
           exact absurd H (by simp)
         ·rw [if_neg c27] at H
          have c27b0 : decide (x5_2 < a0_2) = false := decide_eq_false c27
          clear c27
          have H' := Aside0.mk H
          clear H
          have hcz30_0 : wr.cell? ⟨gb154, 0, none⟩ = some (.int .i64 a0_0) := (blk_cell BK154.out 0).trans rfl
          have hcz30_1 : wr.cell? ⟨gb154, 1, none⟩ = some (.string a0_1) := (blk_cell BK154.out 1).trans rfl
          have hcz30_2 : wr.cell? ⟨gb154, 2, none⟩ = some (.int .i64 a0_2) := (blk_cell BK154.out 2).trans rfl
          have hcz30_3 : wr.cell? ⟨gb154, 3, none⟩ = some (.int .i64 a0_3) := (blk_cell BK154.out 3).trans rfl
          have hcz30_4 : wr.cell? ⟨gb154, 4, none⟩ = some (.slice A0_4 l0_4.length c0_4) := (blk_cell BK154.out 4).trans rfl
          have hfz30_0 := blk_frozen BK154.out 0
          have hfz30_1 := blk_frozen BK154.out 1
          have hfz30_2 := blk_frozen BK154.out 2
          have hfz30_3 := blk_frozen BK154.out 3
          have hfz30_4 := blk_frozen BK154.out 4
          go_wp2
          go_meet
          case rel => exact ⟨_, (false), (by first|rfl|(simp; done)|(simp [*]; done)), H', ⟨by have := HJ2.out; have := HK2.out; first | omega|exact Nat.le_refl _⟩, ⟨by (with_reducible repeat (first|refine blk_drewN ?_ _|refine blk_drew ?_|refine blk_alloc ?_ _)); exact BK154.out⟩, ⟨by repeat (first|(with_reducible first|exact HB.out|apply below_alloc|apply pw_below_drewN|apply below_drew1|refine below_set ?_ GE154.out)|exact HB.out)⟩⟩
        ·rw [if_neg c26] at H
         have c26b0 : (a0_0 == 8) = false := beq_eq_false_iff_ne.mpr c26
         have c26b1 : (a0_0 != 8) = true := bne_iff_ne.mpr c26
         (first|rw [c26b0]|(simp only [i64_w, i32_w]; rw [c26b0]) | skip)
         have H' := Aside0.mk H
         clear H
         have hcz31_0 : wr.cell? ⟨gb154, 0, none⟩ = some (.int .i64 a0_0) := (blk_cell BK154.out 0).trans rfl
         have hcz31_1 : wr.cell? ⟨gb154, 1, none⟩ = some (.string a0_1) := (blk_cell BK154.out 1).trans rfl
         have hcz31_2 : wr.cell? ⟨gb154, 2, none⟩ = some (.int .i64 a0_2) := (blk_cell BK154.out 2).trans rfl
         have hcz31_3 : wr.cell? ⟨gb154, 3, none⟩ = some (.int .i64 a0_3) := (blk_cell BK154.out 3).trans rfl
         have hcz31_4 : wr.cell? ⟨gb154, 4, none⟩ = some (.slice A0_4 l0_4.length c0_4) := (blk_cell BK154.out 4).trans rfl
         have hfz31_0 := blk_frozen BK154.out 0
         have hfz31_1 := blk_frozen BK154.out 1
         have hfz31_2 := blk_frozen BK154.out 2
         have hfz31_3 := blk_frozen BK154.out 3
         have hfz31_4 := blk_frozen BK154.out 4
         go_wp2
         go_meet
         case rel => exact ⟨_, (false), (by first|rfl|(simp; done)|(simp [*]; done)), H', ⟨by have := HJ2.out; have := HK2.out; first | omega|exact Nat.le_refl _⟩, ⟨by (with_reducible repeat (first|refine blk_drewN ?_ _|refine blk_drew ?_|refine blk_alloc ?_ _)); exact BK154.out⟩, ⟨by repeat (first|(with_reducible first|exact HB.out|apply below_alloc|apply pw_below_drewN|apply below_drew1|refine below_set ?_ GE154.out)|exact HB.out)⟩⟩
       case rest =>
        clear HC24
        try clear c1
        try clear p1
        try clear q1
        try clear hx1
        try clear c2
        try clear p2
        try clear c5
        try clear c5b0
        try clear c5b1
        try clear c5b2
        try clear c8
        try clear c10
        try clear c15
        try clear p15
        try clear q15
        try clear hx15
        try clear c22
        try clear c23
        try clear c23b0
        try clear c26
        try clear c26b0
        try clear c26b1
        try clear c27
        try clear c27b0
        try clear c28
        try clear c28b0
        try clear hcz11_0
        try clear hcz11_1
        try clear hcz11_2
        try clear hcz11_3
        try clear hcz11_4
        try clear hcz13_0
        try clear hcz13_1
        try clear hcz13_2
        try clear hcz13_3
        try clear hcz13_4
        try clear hcz15_0
        try clear hcz15_1
        try clear hcz15_2
        try clear hcz15_3
        try clear hcz15_4
        try clear hcz16_0
        try clear hcz16_1
        try clear hcz16_2
        try clear hcz16_3
        try clear hcz16_4
        try clear hcz18_0
        try clear hcz18_1
        try clear hcz18_2
        try clear hcz18_3
        try clear hcz18_4
        try clear hcz20_0
        try clear hcz20_1
        try clear hcz20_2
        try clear hcz20_3
        try clear hcz20_4
        try clear hcz25_0
        try clear hcz25_1
        try clear hcz25_2
        try clear hcz25_3
        try clear hcz25_4
        try clear hcz29_0
        try clear hcz29_1
        try clear hcz29_2
        try clear hcz29_3
        try clear hcz29_4
        try clear hcz30_0
        try clear hcz30_1
        try clear hcz30_2
        try clear hcz30_3
        try clear hcz30_4
        try clear hcz31_0
        try clear hcz31_1
        try clear hcz31_2
        try clear hcz31_3
        try clear hcz31_4
        try clear hcz6_0
        try clear hcz6_1
        try clear hcz6_2
        try clear hcz6_3
        try clear hcz6_4
        try clear hfz11_0
        try clear hfz11_1
        try clear hfz11_2
        try clear hfz11_3
        try clear hfz11_4
        try clear hfz13_0
        try clear hfz13_1
        try clear hfz13_2
        try clear hfz13_3
        try clear hfz13_4
        try clear hfz15_0
        try clear hfz15_1
        try clear hfz15_2
        try clear hfz15_3
        try clear hfz15_4
        try clear hfz16_0
        try clear hfz16_1
        try clear hfz16_2
        try clear hfz16_3
        try clear hfz16_4
        try clear hfz18_0
        try clear hfz18_1
        try clear hfz18_2
        try clear hfz18_3
        try clear hfz18_4
        try clear hfz20_0
        try clear hfz20_1
        try clear hfz20_2
        try clear hfz20_3
        try clear hfz20_4
        try clear hfz25_0
        try clear hfz25_1
        try clear hfz25_2
        try clear hfz25_3
        try clear hfz25_4
        try clear hfz29_0
        try clear hfz29_1
        try clear hfz29_2
        try clear hfz29_3
        try clear hfz29_4
        try clear hfz30_0
        try clear hfz30_1
        try clear hfz30_2
        try clear hfz30_3
        try clear hfz30_4
        try clear hfz31_0
        try clear hfz31_1
        try clear hfz31_2
        try clear hfz31_3
        try clear hfz31_4
        try clear hfz6_0
        try clear hfz6_1
        try clear hfz6_2
        try clear hfz6_3
        try clear hfz6_4
        try clear hx157_0
        try clear hx157_1
        try clear hx157_2
        try clear hx157_3
        try clear hx157_4
        try clear p157
        try clear p2
        try clear q157
        obtain ⟨kq, x50_23, rfl, HA, HJ23, BK154, HB⟩ := hcut
        cases kq with
        | zero => exact absurd HA.out (by simp [gossamerref02_may.j2])
        | succ kj23 =>
         have H := HA.out
         clear HA
         simp only [gossamerref02_may.j2] at H
         by_cases c32 : x50_23 = true
         ·subst c32
          have H1 : (some false) = some r := by rw [if_pos rfl] at H; exact H
          clear H
          have H := H1
          clear H1
          obtain rfl := Option.some.inj H
          go_wp2
          go_ret
          exact ⟨by first|rfl|(simp [errW_none, errW_some] <;> rfl)|(simp [*, errW_none, errW_some] <;> rfl), by repeat (first|(with_reducible first|exact HB.out|apply below_alloc|apply pw_below_drewN|apply below_drew1|refine below_set ?_ GE154.out)|exact HB.out)⟩
         ·replace c32 := Bool.eq_false_iff.mpr c32
          subst c32
          have H1 : (if 0 ≤ x5_2 then (if x5_2 < (l0_4.length : Int) then (if a0_0 = 7 then ((gossamerref02_may.f kj23 ((rd_T24 l0_4 x5_2).f0) ((rd_T24 l0_4 x5_2).f1) ((rd_T24 l0_4 x5_2).f2) ((rd_T24 l0_4 x5_2).f3) ((rd_T24 l0_4 x5_2).f4) (decide (x5_2 > 0))).bind fun t159 => (if t159 = true then (gossamerref02_may.l0 kj23 (wrap64 (x5_2 + 1)) a0_0 a0_1 a0_2 a0_3 l0_4) else (some false))) else ((gossamerref02_may.f kj23 ((rd_T24 l0_4 x5_2).f0) ((rd_T24 l0_4 x5_2).f1) ((rd_T24 l0_4 x5_2).f2) ((rd_T24 l0_4 x5_2).f3) ((rd_T24 l0_4 x5_2).f4) false).bind fun t160 => (if t160 = true then (gossamerref02_may.l0 kj23 (wrap64 (x5_2 + 1)) a0_0 a0_1 a0_2 a0_3 l0_4) else (some false)))) else (none)) else (none)) = some r := by rw [if_neg (show ¬ (false = true) by decide)] at H; exact H
          clear H
          have H := H1
          clear H1
          by_cases c33 : 0 ≤ x5_2
          ·rw [if_pos c33] at H
           have c33b0 : decide (0 ≤ x5_2) = true := decide_eq_true c33
           clear c33
           by_cases c34 : x5_2 < (l0_4.length : Int)
           ·rw [if_pos c34] at H
            have c34b0 : decide (x5_2 < (l0_4.length : Int)) = true := decide_eq_true c34
            clear c34
            by_cases c35 : a0_0 = 7
            ·rw [if_pos c35] at H
             have c35b0 : (a0_0 == 7) = true := beq_iff_eq.mpr c35
             have c35b1 : (a0_0 != 7) = false := bne_eq_false_iff_eq.mpr c35
             clear c35
             replace H := Option.bind_eq_some_iff.mp H
             obtain ⟨t159, A360, H⟩ := H
             replace H : (if t159 = true then (gossamerref02_may.l0 kj23 (wrap64 (x5_2 + 1)) a0_0 a0_1 a0_2 a0_3 l0_4) else (some false)) = some r := H
             have A36 := Aside0.mk A360
             clear A360
             by_cases c37 : t159 = true
             ·subst c37
              have H1 : (gossamerref02_may.l0 kj23 (wrap64 (x5_2 + 1)) a0_0 a0_1 a0_2 a0_3 l0_4) = some r := by rw [if_pos rfl] at H; exact H
              clear H
              have H := H1
              clear H1
              have H' := Aside0.mk H
              clear H
              try go_wp2
              have n0_ := Aside0.mk (blk_drew BK154.out)
              have n1_ := Aside0.mk (below_drew1 HB.out)
              clear BK154
              clear HB
              have BK154 := n0_
              have HB := n1_
              clear n0_ n1_
              have p158 : 0 ≤ (x5_2 : Int) := of_decide_eq_true (by first|(with_reducible assumption) | assumption)
              have q158 : x5_2 < (l0_4.length : Int) := of_decide_eq_true (by first|(with_reducible assumption) | assumption)
              obtain ⟨ad158, A158_4, c158_4, e158, hx158_0, hx158_1, hx158_2, hx158_3, hx158_4, hl158_4, hi158_4⟩ := at_T24 HR0_4.out x5_2 p158 q158
              have hw158_4 := hx158_4
              have hw158_3 := hx158_3
              have hw158_2 := hx158_2
              have hw158_1 := hx158_1
              have hw158_0 := hx158_0
              cases e158
              replace hx158_0 := (HB.out.cell (World.block_lt_of_cell? w _ hx158_0)).trans hx158_0
              replace hx158_1 := (HB.out.cell (World.block_lt_of_cell? w _ hx158_1)).trans hx158_1
              replace hx158_2 := (HB.out.cell (World.block_lt_of_cell? w _ hx158_2)).trans hx158_2
              replace hx158_3 := (HB.out.cell (World.block_lt_of_cell? w _ hx158_3)).trans hx158_3
              replace hx158_4 := (HB.out.cell (World.block_lt_of_cell? w _ hx158_4)).trans hx158_4
              have HR158_4 := Aside0.mk hi158_4
              have HC158_4 := Aside0.mk hl158_4
              clear hi158_4 hl158_4
              replace p158 := eq_true p158
              replace q158 := eq_true q158
              refine start_ (n := 14) (S := fun w' => w'.cell? ⟨gb154, 0, none⟩ = some (.int .i64 a0_0) ∧ w'.cell? ⟨gb154, 1, none⟩ = some (.string a0_1) ∧ w'.cell? ⟨gb154, 2, none⟩ = some (.int .i64 a0_2) ∧ w'.cell? ⟨gb154, 3, none⟩ = some (.int .i64 a0_3) ∧ w'.cell? ⟨gb154, 4, none⟩ = some (.slice (some ad158) l0_4.length c0_4) ∧ w'.cell? (ad158.add ((x5_2).toNat * 5)) = some (.int .i64 ((rd_T24 l0_4 x5_2).f0)) ∧ w'.cell? ⟨(ad158.add ((x5_2).toNat * 5)).block, (ad158.add ((x5_2).toNat * 5)).off + 1, none⟩ = some (.string ((rd_T24 l0_4 x5_2).f1)) ∧ w'.cell? ⟨(ad158.add ((x5_2).toNat * 5)).block, (ad158.add ((x5_2).toNat * 5)).off + 2, none⟩ = some (.int .i64 ((rd_T24 l0_4 x5_2).f2)) ∧ w'.cell? ⟨(ad158.add ((x5_2).toNat * 5)).block, (ad158.add ((x5_2).toNat * 5)).off + 3, none⟩ = some (.int .i64 ((rd_T24 l0_4 x5_2).f3)) ∧ w'.cell? ⟨(ad158.add ((x5_2).toNat * 5)).block, (ad158.add ((x5_2).toNat * 5)).off + 4, none⟩ = some (.slice A158_4 ((rd_T24 l0_4 x5_2).f4).length c158_4)) (ds := []) #[false, false, false, false, false, false, false, false, false, false, false, false, false, false] (by kernel_rfl) rfl rfl ⟨(blk_cell BK154.out 0).trans rfl, (blk_cell BK154.out 1).trans rfl, (blk_cell BK154.out 2).trans rfl, (blk_cell BK154.out 3).trans rfl, (blk_cell BK154.out 4).trans rfl, ((HB.out.cell (World.block_lt_of_cell? w _ hw158_0)).trans hw158_0), ((HB.out.cell (World.block_lt_of_cell? w _ hw158_1)).trans hw158_1), ((HB.out.cell (World.block_lt_of_cell? w _ hw158_2)).trans hw158_2), ((HB.out.cell (World.block_lt_of_cell? w _ hw158_3)).trans hw158_3), ((HB.out.cell (World.block_lt_of_cell? w _ hw158_4)).trans hw158_4)⟩ (fun hHeld => ?_); refine with_tabW gossamerref02_may.tab8 gossamerref02_may.bits8 (fun HT_ HW_ => ?_)
              generalize wc.drew = w38 at BK154 HB HR158_4 hx158_0 hx158_1 hx158_2 hx158_3 hx158_4 hHeld ⊢
              refine pure_ (i := 0) (N := some 51) (v := ?_) (a' := ?_) #[true, false, false, false, false, false, false, false, false, false, false, false, false, false] rfl rfl (any_of HT_.out (by kernel_rfl)) (fun _ _ _ h => h) (Or.inl ⟨by rfl, ?_⟩) ?_ ?_
              rotate_left
              ·intro w'
               go_simp
               with_reducible rfl
              rotate_left
              ·simp only [Act.put, List.setIfInBounds_toArray, List.set_cons_zero, List.set_cons_succ, i64_w, i32_w]
               rfl
              refine pure_ (i := 2) (N := some 53) (v := ?_) (a' := ?_) #[true, false, true, false, false, false, false, false, false, false, false, false, false, false] rfl rfl (any_of HT_.out (by kernel_rfl)) (fun _ _ _ h => h) (Or.inl ⟨by rfl, ?_⟩) ?_ ?_
              rotate_left
              ·intro w'
               go_simp
               with_reducible rfl
              rotate_left
              ·simp only [Act.put, List.setIfInBounds_toArray, List.set_cons_zero, List.set_cons_succ, i64_w, i32_w]
               rfl
              refine pure_ (i := 5) (N := some 56) (v := ?_) (a' := ?_) #[true, false, true, false, false, true, false, false, false, false, false, false, false, false] rfl rfl (any_of HT_.out (by kernel_rfl)) (fun _ _ _ h => h) (Or.inl ⟨by rfl, ?_⟩) ?_ ?_
              rotate_left
              ·intro w'
               go_simp
               with_reducible rfl
              rotate_left
              ·simp only [Act.put, List.setIfInBounds_toArray, List.set_cons_zero, List.set_cons_succ, i64_w, i32_w]
               rfl
              refine take_ (i := 1) (N := some 52) (v := ?_) (a' := ?_) #[true, true, true, false, false, true, false, false, false, false, false, false, false, false] rfl rfl (take_ofW HT_.out HW_.out (by kernel_rfl)) (fun _ _ _ h => h) (Or.inl ⟨by rfl, ?_⟩) hHeld ?_ ?_
              rotate_left
              ·rintro w' ⟨s0, s1, s2, s3, s4, s5, s6, s7, s8, s9⟩
               go_simp
               with_reducible rfl
              rotate_left
              ·simp only [Act.put, List.setIfInBounds_toArray, List.set_cons_zero, List.set_cons_succ, i64_w, i32_w]
               rfl
              refine pure_ (i := 3) (N := some 54) (v := ?_) (a' := ?_) #[true, true, true, true, false, true, false, false, false, false, false, false, false, false] rfl rfl (any_of HT_.out (by kernel_rfl)) (fun _ _ _ h => h) (Or.inl ⟨by rfl, ?_⟩) ?_ ?_
              rotate_left
              ·intro w'
               go_simp
               with_reducible rfl
              rotate_left
              ·simp only [Act.put, List.setIfInBounds_toArray, List.set_cons_zero, List.set_cons_succ, i64_w, i32_w]
               rfl
              refine take_ (i := 4) (N := some 55) (v := ?_) (a' := ?_) #[true, true, true, true, true, true, false, false, false, false, false, false, false, false] rfl rfl (take_ofW HT_.out HW_.out (by kernel_rfl)) (fun _ _ _ h => h) (Or.inl ⟨by rfl, ?_⟩) hHeld ?_ ?_
              rotate_left
              ·rintro w' ⟨s0, s1, s2, s3, s4, s5, s6, s7, s8, s9⟩
               go_simp
               with_reducible rfl
              rotate_left
              ·simp only [Act.put, List.setIfInBounds_toArray, List.set_cons_zero, List.set_cons_succ, i64_w, i32_w]
               rfl
              refine take_ (i := 6) (N := some 57) (v := ?_) (a' := ?_) #[true, true, true, true, true, true, true, false, false, false, false, false, false, false] rfl rfl (take_ofW HT_.out HW_.out (by kernel_rfl)) (fun _ _ _ h => h) (Or.inl ⟨by rfl, ?_⟩) hHeld ?_ ?_
              rotate_left
              ·rintro w' ⟨s0, s1, s2, s3, s4, s5, s6, s7, s8, s9⟩
               go_simp
               with_reducible rfl
              rotate_left
              ·simp only [Act.put, List.setIfInBounds_toArray, List.set_cons_zero, List.set_cons_succ, i64_w, i32_w]
               rfl
              refine pure_ (i := 7) (N := some 58) (v := ?_) (a' := ?_) #[true, true, true, true, true, true, true, true, false, false, false, false, false, false] rfl rfl (any_of HT_.out (by kernel_rfl)) (fun _ _ _ h => h) (Or.inl ⟨by rfl, ?_⟩) ?_ ?_
              rotate_left
              ·intro w'
               go_simp
               with_reducible rfl
              rotate_left
              ·simp only [Act.put, List.setIfInBounds_toArray, List.set_cons_zero, List.set_cons_succ, i64_w, i32_w]
               rfl
              refine pure_ (i := 8) (N := some 59) (v := ?_) (a' := ?_) #[true, true, true, true, true, true, true, true, true, false, false, false, false, false] rfl rfl (any_of HT_.out (by kernel_rfl)) (fun _ _ _ h => h) (Or.inl ⟨by rfl, ?_⟩) ?_ ?_
              rotate_left
              ·intro w'
               go_simp
               with_reducible rfl
              rotate_left
              ·simp only [Act.put, List.setIfInBounds_toArray, List.set_cons_zero, List.set_cons_succ, i64_w, i32_w]
               rfl
              refine pure_ (i := 9) (N := some 60) (v := ?_) (a' := ?_) #[true, true, true, true, true, true, true, true, true, true, false, false, false, false] rfl rfl (any_of HT_.out (by kernel_rfl)) (fun _ _ _ h => h) (Or.inl ⟨by rfl, ?_⟩) ?_ ?_
              rotate_left
              ·intro w'
               go_simp
               with_reducible rfl
              rotate_left
              ·simp only [Act.put, List.setIfInBounds_toArray, List.set_cons_zero, List.set_cons_succ, i64_w, i32_w]
               rfl
              refine pure_ (i := 10) (N := some 61) (v := ?_) (a' := ?_) #[true, true, true, true, true, true, true, true, true, true, true, false, false, false] rfl rfl (any_of HT_.out (by kernel_rfl)) (fun _ _ _ h => h) (Or.inl ⟨by rfl, ?_⟩) ?_ ?_
              rotate_left
              ·intro w'
               go_simp
               with_reducible rfl
              rotate_left
              ·simp only [Act.put, List.setIfInBounds_toArray, List.set_cons_zero, List.set_cons_succ, i64_w, i32_w]
               rfl
              refine pure_ (i := 11) (N := some 62) (v := ?_) (a' := ?_) #[true, true, true, true, true, true, true, true, true, true, true, true, false, false] rfl rfl (any_of HT_.out (by kernel_rfl)) (fun _ _ _ h => h) (Or.inl ⟨by rfl, ?_⟩) ?_ ?_
              rotate_left
              ·intro w'
               go_simp
               with_reducible rfl
              rotate_left
              ·simp only [Act.put, List.setIfInBounds_toArray, List.set_cons_zero, List.set_cons_succ, i64_w, i32_w]
               rfl
              refine one_ (i := 12) (N := some 63) #[true, true, true, true, true, true, true, true, true, true, true, true, true, false] rfl rfl (one_of HT_.out (by kernel_rfl)) (by decide) (fun K hK => ?_)
              refine goes_ Tryd.func27 (by kernel_rfl) rfl #[.agg #[.int .i64 ((rd_T24 l0_4 x5_2).f0), .string ((rd_T24 l0_4 x5_2).f1), .int .i64 ((rd_T24 l0_4 x5_2).f2), .int .i64 ((rd_T24 l0_4 x5_2).f3), .slice A158_4 ((rd_T24 l0_4 x5_2).f4).length c158_4], .bool (decide (x5_2 > 0))] (by rfl) rfl rfl (by (try simp only [List.map_toArray, List.map_cons, List.map_nil]); first|done|rfl|(simp only [List.length_drop, List.length_take]; rfl)) ?_
              with_reducible refine (ih kj23 (by have := HJ2.out; have := HK2.out; have := HJ23.out; omega) ((rd_T24 l0_4 x5_2).f0) ((rd_T24 l0_4 x5_2).f1) ((rd_T24 l0_4 x5_2).f2) ((rd_T24 l0_4 x5_2).f3) _ _ ((rd_T24 l0_4 x5_2).f4) (decide (x5_2 > 0)) true _ ?side1 ?side2 A36.out).mono ?_
              (case side1 => repeat (first|exact (Kd.C_below HR158_4.out HB.out)|(with_reducible refine Kd.C_alloc ?_ _)|(with_reducible refine Kd.C_drewN ?_ _)|(with_reducible refine Kd.C_drew ?_)))
              (case side2 => exact HC158_4.out)
              rintro e w39 ⟨rfl, hb⟩
              refine ⟨_, rfl, ?_⟩
              have n0_ := Aside0.mk (blk_below (g := gb154) (o := .cells #[.int .i64 a0_0, .string a0_1, .int .i64 a0_2, .int .i64 a0_3, .slice (some ad158) l0_4.length c0_4] 24 (0, 0)) (by (with_reducible repeat (first|refine blk_drewN ?_ _|refine blk_drew ?_|refine blk_alloc ?_ _)); exact BK154.out) hb)
              have n1_ := Aside0.mk (below_step (by repeat (first|(with_reducible first|exact HB.out|apply below_alloc|apply pw_below_drewN|apply below_drew1|refine below_set ?_ GE154.out)|exact HB.out)) hb)
              clear BK154
              clear HB
              have BK154 := n0_
              have HB := n1_
              clear n0_ n1_
              (try clear hb)
              (try clear hb2)
              (try clear hk)
              (try clear hi)
              refine hK.out _ _ ⟨(blk_cell BK154.out 0).trans rfl, (blk_cell BK154.out 1).trans rfl, (blk_cell BK154.out 2).trans rfl, (blk_cell BK154.out 3).trans rfl, (blk_cell BK154.out 4).trans rfl, ((HB.out.cell (World.block_lt_of_cell? w _ hw158_0)).trans hw158_0), ((HB.out.cell (World.block_lt_of_cell? w _ hw158_1)).trans hw158_1), ((HB.out.cell (World.block_lt_of_cell? w _ hw158_2)).trans hw158_2), ((HB.out.cell (World.block_lt_of_cell? w _ hw158_3)).trans hw158_3), ((HB.out.cell (World.block_lt_of_cell? w _ hw158_4)).trans hw158_4)⟩ (fun hHeld => ?_)
              clear hK K
              refine norm_ (a' := ?_) ?_ ?_
              rotate_left
              ·show Act.put _ (some 63) _ = _
               simp only [Act.put, List.setIfInBounds_toArray, List.set_cons_zero, List.set_cons_succ, i64_w, i32_w]
               rfl
              refine pure_ (i := 13) (N := some 64) (v := ?_) (a' := ?_) #[true, true, true, true, true, true, true, true, true, true, true, true, true, true] rfl rfl (any_of HT_.out (by kernel_rfl)) (fun _ _ _ h => h) (Or.inl ⟨by rfl, ?_⟩) ?_ ?_
              rotate_left
              ·intro w'
               go_simp
               with_reducible rfl
              rotate_left
              ·simp only [Act.put, List.setIfInBounds_toArray, List.set_cons_zero, List.set_cons_succ, i64_w, i32_w]
               rfl
              refine done_ (done_of HT_.out (by kernel_rfl)) ?_
              try go_wp2
              go_roundg kj23
              case measure => have := HJ2.out; have := HK2.out; have := HJ23.out; omega
              case rel => exact ⟨(wrap64 (x5_2 + 1)), (by first|rfl|(simp; done)|(simp [*]; done)), H', ⟨by have := HJ2.out; have := HK2.out; have := HJ23.out; omega⟩, ⟨by (with_reducible repeat (first|refine blk_drewN ?_ _|refine blk_drew ?_|refine blk_alloc ?_ _)); exact BK154.out⟩, ⟨by repeat (first|(with_reducible first|exact HB.out|apply below_alloc|apply pw_below_drewN|apply below_drew1|refine below_set ?_ GE154.out)|exact HB.out)⟩⟩
             ·replace c37 := Bool.eq_false_iff.mpr c37
              subst c37
              have H1 : (some false) = some r := by rw [if_neg (show ¬ (false = true) by decide)] at H; exact H
              clear H
              have H := H1
              clear H1
              obtain rfl := Option.some.inj H
              try go_wp2
              have n0_ := Aside0.mk (blk_drew BK154.out)
              have n1_ := Aside0.mk (below_drew1 HB.out)
              clear BK154
              clear HB
              have BK154 := n0_
              have HB := n1_
              clear n0_ n1_
              have p158 : 0 ≤ (x5_2 : Int) := of_decide_eq_true (by first|(with_reducible assumption) | assumption)
              have q158 : x5_2 < (l0_4.length : Int) := of_decide_eq_true (by first|(with_reducible assumption) | assumption)
              obtain ⟨ad158, A158_4, c158_4, e158, hx158_0, hx158_1, hx158_2, hx158_3, hx158_4, hl158_4, hi158_4⟩ := at_T24 HR0_4.out x5_2 p158 q158
              have hw158_4 := hx158_4
              have hw158_3 := hx158_3
              have hw158_2 := hx158_2
              have hw158_1 := hx158_1
              have hw158_0 := hx158_0
              cases e158
              replace hx158_0 := (HB.out.cell (World.block_lt_of_cell? w _ hx158_0)).trans hx158_0
              replace hx158_1 := (HB.out.cell (World.block_lt_of_cell? w _ hx158_1)).trans hx158_1
              replace hx158_2 := (HB.out.cell (World.block_lt_of_cell? w _ hx158_2)).trans hx158_2
              replace hx158_3 := (HB.out.cell (World.block_lt_of_cell? w _ hx158_3)).trans hx158_3
              replace hx158_4 := (HB.out.cell (World.block_lt_of_cell? w _ hx158_4)).trans hx158_4
              have HR158_4 := Aside0.mk hi158_4
              have HC158_4 := Aside0.mk hl158_4
              clear hi158_4 hl158_4
              replace p158 := eq_true p158
              replace q158 := eq_true q158
              refine start_ (n := 14) (S := fun w' => w'.cell? ⟨gb154, 0, none⟩ = some (.int .i64 a0_0) ∧ w'.cell? ⟨gb154, 1, none⟩ = some (.string a0_1) ∧ w'.cell? ⟨gb154, 2, none⟩ = some (.int .i64 a0_2) ∧ w'.cell? ⟨gb154, 3, none⟩ = some (.int .i64 a0_3) ∧ w'.cell? ⟨gb154, 4, none⟩ = some (.slice (some ad158) l0_4.length c0_4) ∧ w'.cell? (ad158.add ((x5_2).toNat * 5)) = some (.int .i64 ((rd_T24 l0_4 x5_2).f0)) ∧ w'.cell? ⟨(ad158.add ((x5_2).toNat * 5)).block, (ad158.add ((x5_2).toNat * 5)).off + 1, none⟩ = some (.string ((rd_T24 l0_4 x5_2).f1)) ∧ w'.cell? ⟨(ad158.add ((x5_2).toNat * 5)).block, (ad158.add ((x5_2).toNat * 5)).off + 2, none⟩ = some (.int .i64 ((rd_T24 l0_4 x5_2).f2)) ∧ w'.cell? ⟨(ad158.add ((x5_2).toNat * 5)).block, (ad158.add ((x5_2).toNat * 5)).off + 3, none⟩ = some (.int .i64 ((rd_T24 l0_4 x5_2).f3)) ∧ w'.cell? ⟨(ad158.add ((x5_2).toNat * 5)).block, (ad158.add ((x5_2).toNat * 5)).off + 4, none⟩ = some (.slice A158_4 ((rd_T24 l0_4 x5_2).f4).length c158_4)) (ds := []) #[false, false, false, false, false, false, false, false, false, false, false, false, false, false] (by kernel_rfl) rfl rfl ⟨(blk_cell BK154.out 0).trans rfl, (blk_cell BK154.out 1).trans rfl, (blk_cell BK154.out 2).trans rfl, (blk_cell BK154.out 3).trans rfl, (blk_cell BK154.out 4).trans rfl, ((HB.out.cell (World.block_lt_of_cell? w _ hw158_0)).trans hw158_0), ((HB.out.cell (World.block_lt_of_cell? w _ hw158_1)).trans hw158_1), ((HB.out.cell (World.block_lt_of_cell? w _ hw158_2)).trans hw158_2), ((HB.out.cell (World.block_lt_of_cell? w _ hw158_3)).trans hw158_3), ((HB.out.cell (World.block_lt_of_cell? w _ hw158_4)).trans hw158_4)⟩ (fun hHeld => ?_); refine with_tabW gossamerref02_may.tab8 gossamerref02_may.bits8 (fun HT_ HW_ => ?_)
              generalize wc.drew = w40 at BK154 HB HR158_4 hx158_0 hx158_1 hx158_2 hx158_3 hx158_4 hHeld ⊢
              refine pure_ (i := 0) (N := some 51) (v := ?_) (a' := ?_) #[true, false, false, false, false, false, false, false, false, false, false, false, false, false] rfl rfl (any_of HT_.out (by kernel_rfl)) (fun _ _ _ h => h) (Or.inl ⟨by rfl, ?_⟩) ?_ ?_
              rotate_left
              ·intro w'
               go_simp
               with_reducible rfl
              rotate_left
              ·simp only [Act.put, List.setIfInBounds_toArray, List.set_cons_zero, List.set_cons_succ, i64_w, i32_w]
               rfl
              refine pure_ (i := 2) (N := some 53) (v := ?_) (a' := ?_) #[true, false, true, false, false, false, false, false, false, false, false, false, false, false] rfl rfl (any_of HT_.out (by kernel_rfl)) (fun _ _ _ h => h) (Or.inl ⟨by rfl, ?_⟩) ?_ ?_
              rotate_left
              ·intro w'
               go_simp
               with_reducible rfl
              rotate_left
              ·simp only [Act.put, List.setIfInBounds_toArray, List.set_cons_zero, List.set_cons_succ, i64_w, i32_w]
               rfl
              refine pure_ (i := 5) (N := some 56) (v := ?_) (a' := ?_) #[true, false, true, false, false, true, false, false, false, false, false, false, false, false] rfl rfl (any_of HT_.out (by kernel_rfl)) (fun _ _ _ h => h) (Or.inl ⟨by rfl, ?_⟩) ?_ ?_
              rotate_left
              ·intro w'
               go_simp
               with_reducible rfl
              rotate_left
              ·simp only [Act.put, List.setIfInBounds_toArray, List.set_cons_zero, List.set_cons_succ, i64_w, i32_w]
               rfl
              refine take_ (i := 1) (N := some 52) (v := ?_) (a' := ?_) #[true, true, true, false, false, true, false, false, false, false, false, false, false, false] rfl rfl (take_ofW HT_.out HW_.out (by kernel_rfl)) (fun _ _ _ h => h) (Or.inl ⟨by rfl, ?_⟩) hHeld ?_ ?_
              rotate_left
              ·rintro w' ⟨s0, s1, s2, s3, s4, s5, s6, s7, s8, s9⟩
               go_simp
               with_reducible rfl
              rotate_left
              ·simp only [Act.put, List.setIfInBounds_toArray, List.set_cons_zero, List.set_cons_succ, i64_w, i32_w]
               rfl
              refine pure_ (i := 3) (N := some 54) (v := ?_) (a' := ?_) #[true, true, true, true, false, true, false, false, false, false, false, false, false, false] rfl rfl (any_of HT_.out (by kernel_rfl)) (fun _ _ _ h => h) (Or.inl ⟨by rfl, ?_⟩) ?_ ?_
              rotate_left
              ·intro w'
               go_simp
               with_reducible rfl
              rotate_left
              ·simp only [Act.put, List.setIfInBounds_toArray, List.set_cons_zero, List.set_cons_succ, i64_w, i32_w]
               rfl
              refine take_ (i := 4) (N := some 55) (v := ?_) (a' := ?_) #[true, true, true, true, true, true, false, false, false, false, false, false, false, false] rfl rfl (take_ofW HT_.out HW_.out (by kernel_rfl)) (fun _ _ _ h => h) (Or.inl ⟨by rfl, ?_⟩) hHeld ?_ ?_
              rotate_left
              ·rintro w' ⟨s0, s1, s2, s3, s4, s5, s6, s7, s8, s9⟩
               go_simp
               with_reducible rfl
              rotate_left
              ·simp only [Act.put, List.setIfInBounds_toArray, List.set_cons_zero, List.set_cons_succ, i64_w, i32_w]
               rfl
              refine take_ (i := 6) (N := some 57) (v := ?_) (a' := ?_) #[true, true, true, true, true, true, true, false, false, false, false, false, false, false] rfl rfl (take_ofW HT_.out HW_.out (by kernel_rfl)) (fun _ _ _ h => h) (Or.inl ⟨by rfl, ?_⟩) hHeld ?_ ?_
              rotate_left
              ·rintro w' ⟨s0, s1, s2, s3, s4, s5, s6, s7, s8, s9⟩
               go_simp
               with_reducible rfl
              rotate_left
              ·simp only [Act.put, List.setIfInBounds_toArray, List.set_cons_zero, List.set_cons_succ, i64_w, i32_w]
               rfl
              refine pure_ (i := 7) (N := some 58) (v := ?_) (a' := ?_) #[true, true, true, true, true, true, true, true, false, false, false, false, false, false] rfl rfl (any_of HT_.out (by kernel_rfl)) (fun _ _ _ h => h) (Or.inl ⟨by rfl, ?_⟩) ?_ ?_
              rotate_left
              ·intro w'
               go_simp
               with_reducible rfl
              rotate_left
              ·simp only [Act.put, List.setIfInBounds_toArray, List.set_cons_zero, List.set_cons_succ, i64_w, i32_w]
               rfl
              refine pure_ (i := 8) (N := some 59) (v := ?_) (a' := ?_) #[true, true, true, true, true, true, true, true, true, false, false, false, false, false] rfl rfl (any_of HT_.out (by kernel_rfl)) (fun _ _ _ h => h) (Or.inl ⟨by rfl, ?_⟩) ?_ ?_
              rotate_left
              ·intro w'
               go_simp
               with_reducible rfl
              rotate_left
              ·simp only [Act.put, List.setIfInBounds_toArray, List.set_cons_zero, List.set_cons_succ, i64_w, i32_w]
               rfl
              refine pure_ (i := 9) (N := some 60) (v := ?_) (a' := ?_) #[true, true, true, true, true, true, true, true, true, true, false, false, false, false] rfl rfl (any_of HT_.out (by kernel_rfl)) (fun _ _ _ h => h) (Or.inl ⟨by rfl, ?_⟩) ?_ ?_
              rotate_left
              ·intro w'
               go_simp
               with_reducible rfl
              rotate_left
              ·simp only [Act.put, List.setIfInBounds_toArray, List.set_cons_zero, List.set_cons_succ, i64_w, i32_w]
               rfl
              refine pure_ (i := 10) (N := some 61) (v := ?_) (a' := ?_) #[true, true, true, true, true, true, true, true, true, true, true, false, false, false] rfl rfl (any_of HT_.out (by kernel_rfl)) (fun _ _ _ h => h) (Or.inl ⟨by rfl, ?_⟩) ?_ ?_
              rotate_left
              ·intro w'
               go_simp
               with_reducible rfl
              rotate_left
              ·simp only [Act.put, List.setIfInBounds_toArray, List.set_cons_zero, List.set_cons_succ, i64_w, i32_w]
               rfl
              refine pure_ (i := 11) (N := some 62) (v := ?_) (a' := ?_) #[true, true, true, true, true, true, true, true, true, true, true, true, false, false] rfl rfl (any_of HT_.out (by kernel_rfl)) (fun _ _ _ h => h) (Or.inl ⟨by rfl, ?_⟩) ?_ ?_
              rotate_left
              ·intro w'
               go_simp
               with_reducible rfl
              rotate_left
              ·simp only [Act.put, List.setIfInBounds_toArray, List.set_cons_zero, List.set_cons_succ, i64_w, i32_w]
               rfl
              refine one_ (i := 12) (N := some 63) #[true, true, true, true, true, true, true, true, true, true, true, true, true, false] rfl rfl (one_of HT_.out (by kernel_rfl)) (by decide) (fun K hK => ?_)
              refine goes_ Tryd.func27 (by kernel_rfl) rfl #[.agg #[.int .i64 ((rd_T24 l0_4 x5_2).f0), .string ((rd_T24 l0_4 x5_2).f1), .int .i64 ((rd_T24 l0_4 x5_2).f2), .int .i64 ((rd_T24 l0_4 x5_2).f3), .slice A158_4 ((rd_T24 l0_4 x5_2).f4).length c158_4], .bool (decide (x5_2 > 0))] (by rfl) rfl rfl (by (try simp only [List.map_toArray, List.map_cons, List.map_nil]); first|done|rfl|(simp only [List.length_drop, List.length_take]; rfl)) ?_
              with_reducible refine (ih kj23 (by have := HJ2.out; have := HK2.out; have := HJ23.out; omega) ((rd_T24 l0_4 x5_2).f0) ((rd_T24 l0_4 x5_2).f1) ((rd_T24 l0_4 x5_2).f2) ((rd_T24 l0_4 x5_2).f3) _ _ ((rd_T24 l0_4 x5_2).f4) (decide (x5_2 > 0)) false _ ?side1 ?side2 A36.out).mono ?_
              (case side1 => repeat (first|exact (Kd.C_below HR158_4.out HB.out)|(with_reducible refine Kd.C_alloc ?_ _)|(with_reducible refine Kd.C_drewN ?_ _)|(with_reducible refine Kd.C_drew ?_)))
              (case side2 => exact HC158_4.out)
              rintro e w41 ⟨rfl, hb⟩
              refine ⟨_, rfl, ?_⟩
              have n0_ := Aside0.mk (blk_below (g := gb154) (o := .cells #[.int .i64 a0_0, .string a0_1, .int .i64 a0_2, .int .i64 a0_3, .slice (some ad158) l0_4.length c0_4] 24 (0, 0)) (by (with_reducible repeat (first|refine blk_drewN ?_ _|refine blk_drew ?_|refine blk_alloc ?_ _)); exact BK154.out) hb)
              have n1_ := Aside0.mk (below_step (by repeat (first|(with_reducible first|exact HB.out|apply below_alloc|apply pw_below_drewN|apply below_drew1|refine below_set ?_ GE154.out)|exact HB.out)) hb)
              clear BK154
              clear HB
              have BK154 := n0_
              have HB := n1_
              clear n0_ n1_
              (try clear hb)
              (try clear hb2)
              (try clear hk)
              (try clear hi)
              refine hK.out _ _ ⟨(blk_cell BK154.out 0).trans rfl, (blk_cell BK154.out 1).trans rfl, (blk_cell BK154.out 2).trans rfl, (blk_cell BK154.out 3).trans rfl, (blk_cell BK154.out 4).trans rfl, ((HB.out.cell (World.block_lt_of_cell? w _ hw158_0)).trans hw158_0), ((HB.out.cell (World.block_lt_of_cell? w _ hw158_1)).trans hw158_1), ((HB.out.cell (World.block_lt_of_cell? w _ hw158_2)).trans hw158_2), ((HB.out.cell (World.block_lt_of_cell? w _ hw158_3)).trans hw158_3), ((HB.out.cell (World.block_lt_of_cell? w _ hw158_4)).trans hw158_4)⟩ (fun hHeld => ?_)
              clear hK K
              refine norm_ (a' := ?_) ?_ ?_
              rotate_left
              ·show Act.put _ (some 63) _ = _
               simp only [Act.put, List.setIfInBounds_toArray, List.set_cons_zero, List.set_cons_succ, i64_w, i32_w]
               rfl
              refine pure_ (i := 13) (N := some 64) (v := ?_) (a' := ?_) #[true, true, true, true, true, true, true, true, true, true, true, true, true, true] rfl rfl (any_of HT_.out (by kernel_rfl)) (fun _ _ _ h => h) (Or.inl ⟨by rfl, ?_⟩) ?_ ?_
              rotate_left
              ·intro w'
               go_simp
               with_reducible rfl
              rotate_left
              ·simp only [Act.put, List.setIfInBounds_toArray, List.set_cons_zero, List.set_cons_succ, i64_w, i32_w]
               rfl
              refine done_ (done_of HT_.out (by kernel_rfl)) ?_
              try go_wp2
              go_ret
              exact ⟨by first|rfl|(simp [errW_none, errW_some] <;> rfl)|(simp [*, errW_none, errW_some] <;> rfl), by repeat (first|(with_reducible first|exact HB.out|apply below_alloc|apply pw_below_drewN|apply below_drew1|refine below_set ?_ GE154.out)|exact HB.out)⟩
            ·rw [if_neg c35] at H
             have c35b0 : (a0_0 == 7) = false := beq_eq_false_iff_ne.mpr c35
             have c35b1 : (a0_0 != 7) = true := bne_iff_ne.mpr c35
             replace H := Option.bind_eq_some_iff.mp H
             obtain ⟨t160, A420, H⟩ := H
             replace H : (if t160 = true then (gossamerref02_may.l0 kj23 (wrap64 (x5_2 + 1)) a0_0 a0_1 a0_2 a0_3 l0_4) else (some false)) = some r := H
             have A42 := Aside0.mk A420
             clear A420
             by_cases c43 : t160 = true
             ·subst c43
              have H1 : (gossamerref02_may.l0 kj23 (wrap64 (x5_2 + 1)) a0_0 a0_1 a0_2 a0_3 l0_4) = some r := by rw [if_pos rfl] at H; exact H
              clear H
              have H := H1
              clear H1
              have H' := Aside0.mk H
              clear H
              try go_wp2
              have n0_ := Aside0.mk (blk_drew BK154.out)
              have n1_ := Aside0.mk (below_drew1 HB.out)
              clear BK154
              clear HB
              have BK154 := n0_
              have HB := n1_
              clear n0_ n1_
              have p158 : 0 ≤ (x5_2 : Int) := of_decide_eq_true (by first|(with_reducible assumption) | assumption)
              have q158 : x5_2 < (l0_4.length : Int) := of_decide_eq_true (by first|(with_reducible assumption) | assumption)
              obtain ⟨ad158, A158_4, c158_4, e158, hx158_0, hx158_1, hx158_2, hx158_3, hx158_4, hl158_4, hi158_4⟩ := at_T24 HR0_4.out x5_2 p158 q158
              have hw158_4 := hx158_4
              have hw158_3 := hx158_3
              have hw158_2 := hx158_2
              have hw158_1 := hx158_1
              have hw158_0 := hx158_0
              cases e158
              replace hx158_0 := (HB.out.cell (World.block_lt_of_cell? w _ hx158_0)).trans hx158_0
              replace hx158_1 := (HB.out.cell (World.block_lt_of_cell? w _ hx158_1)).trans hx158_1
              replace hx158_2 := (HB.out.cell (World.block_lt_of_cell? w _ hx158_2)).trans hx158_2
              replace hx158_3 := (HB.out.cell (World.block_lt_of_cell? w _ hx158_3)).trans hx158_3
              replace hx158_4 := (HB.out.cell (World.block_lt_of_cell? w _ hx158_4)).trans hx158_4
              have HR158_4 := Aside0.mk hi158_4
              have HC158_4 := Aside0.mk hl158_4
              clear hi158_4 hl158_4
              replace p158 := eq_true p158
              replace q158 := eq_true q158
              refine start_ (n := 14) (S := fun w' => w'.cell? ⟨gb154, 0, none⟩ = some (.int .i64 a0_0) ∧ w'.cell? ⟨gb154, 1, none⟩ = some (.string a0_1) ∧ w'.cell? ⟨gb154, 2, none⟩ = some (.int .i64 a0_2) ∧ w'.cell? ⟨gb154, 3, none⟩ = some (.int .i64 a0_3) ∧ w'.cell? ⟨gb154, 4, none⟩ = some (.slice (some ad158) l0_4.length c0_4) ∧ w'.cell? (ad158.add ((x5_2).toNat * 5)) = some (.int .i64 ((rd_T24 l0_4 x5_2).f0)) ∧ w'.cell? ⟨(ad158.add ((x5_2).toNat * 5)).block, (ad158.add ((x5_2).toNat * 5)).off + 1, none⟩ = some (.string ((rd_T24 l0_4 x5_2).f1)) ∧ w'.cell? ⟨(ad158.add ((x5_2).toNat * 5)).block, (ad158.add ((x5_2).toNat * 5)).off + 2, none⟩ = some (.int .i64 ((rd_T24 l0_4 x5_2).f2)) ∧ w'.cell? ⟨(ad158.add ((x5_2).toNat * 5)).block, (ad158.add ((x5_2).toNat * 5)).off + 3, none⟩ = some (.int .i64 ((rd_T24 l0_4 x5_2).f3)) ∧ w'.cell? ⟨(ad158.add ((x5_2).toNat * 5)).block, (ad158.add ((x5_2).toNat * 5)).off + 4, none⟩ = some (.slice A158_4 ((rd_T24 l0_4 x5_2).f4).length c158_4)) (ds := []) #[false, false, false, false, false, false, false, false, false, false, false, false, false, false] (by kernel_rfl) rfl rfl ⟨(blk_cell BK154.out 0).trans rfl, (blk_cell BK154.out 1).trans rfl, (blk_cell BK154.out 2).trans rfl, (blk_cell BK154.out 3).trans rfl, (blk_cell BK154.out 4).trans rfl, ((HB.out.cell (World.block_lt_of_cell? w _ hw158_0)).trans hw158_0), ((HB.out.cell (World.block_lt_of_cell? w _ hw158_1)).trans hw158_1), ((HB.out.cell (World.block_lt_of_cell? w _ hw158_2)).trans hw158_2), ((HB.out.cell (World.block_lt_of_cell? w _ hw158_3)).trans hw158_3), ((HB.out.cell (World.block_lt_of_cell? w _ hw158_4)).trans hw158_4)⟩ (fun hHeld => ?_); refine with_tabW gossamerref02_may.tab8 gossamerref02_may.bits8 (fun HT_ HW_ => ?_)
              generalize wc.drew = w44 at BK154 HB HR158_4 hx158_0 hx158_1 hx158_2 hx158_3 hx158_4 hHeld ⊢
              refine pure_ (i := 0) (N := some 51) (v := ?_) (a' := ?_) #[true, false, false, false, false, false, false, false, false, false, false, false, false, false] rfl rfl (any_of HT_.out (by kernel_rfl)) (fun _ _ _ h => h) (Or.inl ⟨by rfl, ?_⟩) ?_ ?_
              rotate_left
              ·intro w'
               go_simp
               with_reducible rfl
              rotate_left
              ·simp only [Act.put, List.setIfInBounds_toArray, List.set_cons_zero, List.set_cons_succ, i64_w, i32_w]
               rfl
              refine pure_ (i := 2) (N := some 53) (v := ?_) (a' := ?_) #[true, false, true, false, false, false, false, false, false, false, false, false, false, false] rfl rfl (any_of HT_.out (by kernel_rfl)) (fun _ _ _ h => h) (Or.inl ⟨by rfl, ?_⟩) ?_ ?_
              rotate_left
              ·intro w'
               go_simp
               with_reducible rfl
              rotate_left
              ·simp only [Act.put, List.setIfInBounds_toArray, List.set_cons_zero, List.set_cons_succ, i64_w, i32_w]
               rfl
              refine pure_ (i := 5) (N := some 56) (v := ?_) (a' := ?_) #[true, false, true, false, false, true, false, false, false, false, false, false, false, false] rfl rfl (any_of HT_.out (by kernel_rfl)) (fun _ _ _ h => h) (Or.inl ⟨by rfl, ?_⟩) ?_ ?_
              rotate_left
              ·intro w'
               go_simp
               with_reducible rfl
              rotate_left
              ·simp only [Act.put, List.setIfInBounds_toArray, List.set_cons_zero, List.set_cons_succ, i64_w, i32_w]
               rfl
              refine take_ (i := 1) (N := some 52) (v := ?_) (a' := ?_) #[true, true, true, false, false, true, false, false, false, false, false, false, false, false] rfl rfl (take_ofW HT_.out HW_.out (by kernel_rfl)) (fun _ _ _ h => h) (Or.inl ⟨by rfl, ?_⟩) hHeld ?_ ?_
              rotate_left
              ·rintro w' ⟨s0, s1, s2, s3, s4, s5, s6, s7, s8, s9⟩
               go_simp
               with_reducible rfl
              rotate_left
              ·simp only [Act.put, List.setIfInBounds_toArray, List.set_cons_zero, List.set_cons_succ, i64_w, i32_w]
               rfl
              refine pure_ (i := 3) (N := some 54) (v := ?_) (a' := ?_) #[true, true, true, true, false, true, false, false, false, false, false, false, false, false] rfl rfl (any_of HT_.out (by kernel_rfl)) (fun _ _ _ h => h) (Or.inl ⟨by rfl, ?_⟩) ?_ ?_
              rotate_left
              ·intro w'
               go_simp
               with_reducible rfl
              rotate_left
              ·simp only [Act.put, List.setIfInBounds_toArray, List.set_cons_zero, List.set_cons_succ, i64_w, i32_w]
               rfl
              refine take_ (i := 4) (N := some 55) (v := ?_) (a' := ?_) #[true, true, true, true, true, true, false, false, false, false, false, false, false, false] rfl rfl (take_ofW HT_.out HW_.out (by kernel_rfl)) (fun _ _ _ h => h) (Or.inl ⟨by rfl, ?_⟩) hHeld ?_ ?_
              rotate_left
              ·rintro w' ⟨s0, s1, s2, s3, s4, s5, s6, s7, s8, s9⟩
               go_simp
               with_reducible rfl
              rotate_left
              ·simp only [Act.put, List.setIfInBounds_toArray, List.set_cons_zero, List.set_cons_succ, i64_w, i32_w]
               rfl
              refine take_ (i := 6) (N := some 57) (v := ?_) (a' := ?_) #[true, true, true, true, true, true, true, false, false, false, false, false, false, false] rfl rfl (take_ofW HT_.out HW_.out (by kernel_rfl)) (fun _ _ _ h => h) (Or.inl ⟨by rfl, ?_⟩) hHeld ?_ ?_
              rotate_left
              ·rintro w' ⟨s0, s1, s2, s3, s4, s5, s6, s7, s8, s9⟩
               go_simp
               with_reducible rfl
              rotate_left
              ·simp only [Act.put, List.setIfInBounds_toArray, List.set_cons_zero, List.set_cons_succ, i64_w, i32_w]
               rfl
              refine pure_ (i := 7) (N := some 58) (v := ?_) (a' := ?_) #[true, true, true, true, true, true, true, true, false, false, false, false, false, false] rfl rfl (any_of HT_.out (by kernel_rfl)) (fun _ _ _ h => h) (Or.inl ⟨by rfl, ?_⟩) ?_ ?_
              rotate_left
              ·intro w'
               go_simp
               with_reducible rfl
              rotate_left
              ·simp only [Act.put, List.setIfInBounds_toArray, List.set_cons_zero, List.set_cons_succ, i64_w, i32_w]
               rfl
              refine pure_ (i := 8) (N := some 59) (v := ?_) (a' := ?_) #[true, true, true, true, true, true, true, true, true, false, false, false, false, false] rfl rfl (any_of HT_.out (by kernel_rfl)) (fun _ _ _ h => h) (Or.inl ⟨by rfl, ?_⟩) ?_ ?_
              rotate_left
              ·intro w'
               go_simp
               with_reducible rfl
              rotate_left
              ·simp only [Act.put, List.setIfInBounds_toArray, List.set_cons_zero, List.set_cons_succ, i64_w, i32_w]
               rfl
              refine pure_ (i := 9) (N := some 60) (v := undef) (a' := ?_) #[true, true, true, true, true, true, true, true, true, true, false, false, false, false] rfl rfl (any_of HT_.out (by kernel_rfl)) (fun _ _ _ h => h) (Or.inr ⟨by rfl, rfl⟩) ?_ ?_
              rotate_left
              ·simp only [Act.put, List.setIfInBounds_toArray, List.set_cons_zero, List.set_cons_succ, i64_w, i32_w]
               rfl
              refine pure_ (i := 10) (N := some 61) (v := undef) (a' := ?_) #[true, true, true, true, true, true, true, true, true, true, true, false, false, false] rfl rfl (any_of HT_.out (by kernel_rfl)) (fun _ _ _ h => h) (Or.inr ⟨by rfl, rfl⟩) ?_ ?_
              rotate_left
              ·simp only [Act.put, List.setIfInBounds_toArray, List.set_cons_zero, List.set_cons_succ, i64_w, i32_w]
               rfl
              refine pure_ (i := 11) (N := some 62) (v := ?_) (a' := ?_) #[true, true, true, true, true, true, true, true, true, true, true, true, false, false] rfl rfl (any_of HT_.out (by kernel_rfl)) (fun _ _ _ h => h) (Or.inl ⟨by rfl, ?_⟩) ?_ ?_
              rotate_left
              ·intro w'
               go_simp
               with_reducible rfl
              rotate_left
              ·simp only [Act.put, List.setIfInBounds_toArray, List.set_cons_zero, List.set_cons_succ, i64_w, i32_w]
               rfl
              refine one_ (i := 12) (N := some 63) #[true, true, true, true, true, true, true, true, true, true, true, true, true, false] rfl rfl (one_of HT_.out (by kernel_rfl)) (by decide) (fun K hK => ?_)
              refine goes_ Tryd.func27 (by kernel_rfl) rfl #[.agg #[.int .i64 ((rd_T24 l0_4 x5_2).f0), .string ((rd_T24 l0_4 x5_2).f1), .int .i64 ((rd_T24 l0_4 x5_2).f2), .int .i64 ((rd_T24 l0_4 x5_2).f3), .slice A158_4 ((rd_T24 l0_4 x5_2).f4).length c158_4], .bool false] (by rfl) rfl rfl (by (try simp only [List.map_toArray, List.map_cons, List.map_nil]); first|done|rfl|(simp only [List.length_drop, List.length_take]; rfl)) ?_
              with_reducible refine (ih kj23 (by have := HJ2.out; have := HK2.out; have := HJ23.out; omega) ((rd_T24 l0_4 x5_2).f0) ((rd_T24 l0_4 x5_2).f1) ((rd_T24 l0_4 x5_2).f2) ((rd_T24 l0_4 x5_2).f3) _ _ ((rd_T24 l0_4 x5_2).f4) false true _ ?side1 ?side2 A42.out).mono ?_
              (case side1 => repeat (first|exact (Kd.C_below HR158_4.out HB.out)|(with_reducible refine Kd.C_alloc ?_ _)|(with_reducible refine Kd.C_drewN ?_ _)|(with_reducible refine Kd.C_drew ?_)))
              (case side2 => exact HC158_4.out)
              rintro e w45 ⟨rfl, hb⟩
              refine ⟨_, rfl, ?_⟩
              have n0_ := Aside0.mk (blk_below (g := gb154) (o := .cells #[.int .i64 a0_0, .string a0_1, .int .i64 a0_2, .int .i64 a0_3, .slice (some ad158) l0_4.length c0_4] 24 (0, 0)) (by (with_reducible repeat (first|refine blk_drewN ?_ _|refine blk_drew ?_|refine blk_alloc ?_ _)); exact BK154.out) hb)
              have n1_ := Aside0.mk (below_step (by repeat (first|(with_reducible first|exact HB.out|apply below_alloc|apply pw_below_drewN|apply below_drew1|refine below_set ?_ GE154.out)|exact HB.out)) hb)
              clear BK154
              clear HB
              have BK154 := n0_
              have HB := n1_
              clear n0_ n1_
              (try clear hb)
              (try clear hb2)
              (try clear hk)
              (try clear hi)
              refine hK.out _ _ ⟨(blk_cell BK154.out 0).trans rfl, (blk_cell BK154.out 1).trans rfl, (blk_cell BK154.out 2).trans rfl, (blk_cell BK154.out 3).trans rfl, (blk_cell BK154.out 4).trans rfl, ((HB.out.cell (World.block_lt_of_cell? w _ hw158_0)).trans hw158_0), ((HB.out.cell (World.block_lt_of_cell? w _ hw158_1)).trans hw158_1), ((HB.out.cell (World.block_lt_of_cell? w _ hw158_2)).trans hw158_2), ((HB.out.cell (World.block_lt_of_cell? w _ hw158_3)).trans hw158_3), ((HB.out.cell (World.block_lt_of_cell? w _ hw158_4)).trans hw158_4)⟩ (fun hHeld => ?_)
              clear hK K
              refine norm_ (a' := ?_) ?_ ?_
              rotate_left
              ·show Act.put _ (some 63) _ = _
               simp only [Act.put, List.setIfInBounds_toArray, List.set_cons_zero, List.set_cons_succ, i64_w, i32_w]
               rfl
              refine pure_ (i := 13) (N := some 64) (v := ?_) (a' := ?_) #[true, true, true, true, true, true, true, true, true, true, true, true, true, true] rfl rfl (any_of HT_.out (by kernel_rfl)) (fun _ _ _ h => h) (Or.inl ⟨by rfl, ?_⟩) ?_ ?_
              rotate_left
              ·intro w'
               go_simp
               with_reducible rfl
              rotate_left
              ·simp only [Act.put, List.setIfInBounds_toArray, List.set_cons_zero, List.set_cons_succ, i64_w, i32_w]
               rfl
              refine done_ (done_of HT_.out (by kernel_rfl)) ?_
              try go_wp2
              go_roundg kj23
              case measure => have := HJ2.out; have := HK2.out; have := HJ23.out; omega
              case rel => exact ⟨(wrap64 (x5_2 + 1)), (by first|rfl|(simp; done)|(simp [*]; done)), H', ⟨by have := HJ2.out; have := HK2.out; have := HJ23.out; omega⟩, ⟨by (with_reducible repeat (first|refine blk_drewN ?_ _|refine blk_drew ?_|refine blk_alloc ?_ _)); exact BK154.out⟩, ⟨by repeat (first|(with_reducible first|exact HB.out|apply below_alloc|apply pw_below_drewN|apply below_drew1|refine below_set ?_ GE154.out)|exact HB.out)⟩⟩
             ·replace c43 := Bool.eq_false_iff.mpr c43
              subst c43
              have H1 : (some false) = some r := by rw [if_neg (show ¬ (false = true) by decide)] at H; exact H
              clear H
              have H := H1
              clear H1
              obtain rfl := Option.some.inj H
              try go_wp2
              have n0_ := Aside0.mk (blk_drew BK154.out)
              have n1_ := Aside0.mk (below_drew1 HB.out)
              clear BK154
              clear HB
              have BK154 := n0_
              have HB := n1_
              clear n0_ n1_
              have p158 : 0 ≤ (x5_2 : Int) := of_decide_eq_true (by first|(with_reducible assumption) | assumption)
              have q158 : x5_2 < (l0_4.length : Int) := of_decide_eq_true (by first|(with_reducible assumption) | assumption)
              obtain ⟨ad158, A158_4, c158_4, e158, hx158_0, hx158_1, hx158_2, hx158_3, hx158_4, hl158_4, hi158_4⟩ := at_T24 HR0_4.out x5_2 p158 q158
              have hw158_4 := hx158_4
              have hw158_3 := hx158_3
              have hw158_2 := hx158_2
              have hw158_1 := hx158_1
              have hw158_0 := hx158_0
              cases e158
              replace hx158_0 := (HB.out.cell (World.block_lt_of_cell? w _ hx158_0)).trans hx158_0
              replace hx158_1 := (HB.out.cell (World.block_lt_of_cell? w _ hx158_1)).trans hx158_1
              replace hx158_2 := (HB.out.cell (World.block_lt_of_cell? w _ hx158_2)).trans hx158_2
              replace hx158_3 := (HB.out.cell (World.block_lt_of_cell? w _ hx158_3)).trans hx158_3
              replace hx158_4 := (HB.out.cell (World.block_lt_of_cell? w _ hx158_4)).trans hx158_4
              have HR158_4 := Aside0.mk hi158_4
              have HC158_4 := Aside0.mk hl158_4
              clear hi158_4 hl158_4
              replace p158 := eq_true p158
              replace q158 := eq_true q158
              refine start_ (n := 14) (S := fun w' => w'.cell? ⟨gb154, 0, none⟩ = some (.int .i64 a0_0) ∧ w'.cell? ⟨gb154, 1, none⟩ = some (.string a0_1) ∧ w'.cell? ⟨gb154, 2, none⟩ = some (.int .i64 a0_2) ∧ w'.cell? ⟨gb154, 3, none⟩ = some (.int .i64 a0_3) ∧ w'.cell? ⟨gb154, 4, none⟩ = some (.slice (some ad158) l0_4.length c0_4) ∧ w'.cell? (ad158.add ((x5_2).toNat * 5)) = some (.int .i64 ((rd_T24 l0_4 x5_2).f0)) ∧ w'.cell? ⟨(ad158.add ((x5_2).toNat * 5)).block, (ad158.add ((x5_2).toNat * 5)).off + 1, none⟩ = some (.string ((rd_T24 l0_4 x5_2).f1)) ∧ w'.cell? ⟨(ad158.add ((x5_2).toNat * 5)).block, (ad158.add ((x5_2).toNat * 5)).off + 2, none⟩ = some (.int .i64 ((rd_T24 l0_4 x5_2).f2)) ∧ w'.cell? ⟨(ad158.add ((x5_2).toNat * 5)).block, (ad158.add ((x5_2).toNat * 5)).off + 3, none⟩ = some (.int .i64 ((rd_T24 l0_4 x5_2).f3)) ∧ w'.cell? ⟨(ad158.add ((x5_2).toNat * 5)).block, (ad158.add ((x5_2).toNat * 5)).off + 4, none⟩ = some (.slice A158_4 ((rd_T24 l0_4 x5_2).f4).length c158_4)) (ds := []) #[false, false, false, false, false, false, false, false, false, false, false, false, false, false] (by kernel_rfl) rfl rfl ⟨(blk_cell BK154.out 0).trans rfl, (blk_cell BK154.out 1).trans rfl, (blk_cell BK154.out 2).trans rfl, (blk_cell BK154.out 3).trans rfl, (blk_cell BK154.out 4).trans rfl, ((HB.out.cell (World.block_lt_of_cell? w _ hw158_0)).trans hw158_0), ((HB.out.cell (World.block_lt_of_cell? w _ hw158_1)).trans hw158_1), ((HB.out.cell (World.block_lt_of_cell? w _ hw158_2)).trans hw158_2), ((HB.out.cell (World.block_lt_of_cell? w _ hw158_3)).trans hw158_3), ((HB.out.cell (World.block_lt_of_cell? w _ hw158_4)).trans hw158_4)⟩ (fun hHeld => ?_); refine with_tabW gossamerref02_may.tab8 gossamerref02_may.bits8 (fun HT_ HW_ => ?_)
              generalize wc.drew = w46 at BK154 HB HR158_4 hx158_0 hx158_1 hx158_2 hx158_3 hx158_4 hHeld ⊢
              refine pure_ (i := 0) (N := some 51) (v := ?_) (a' := ?_) #[true, false, false, false, false, false, false, false, false, false, false, false, false, false] rfl rfl (any_of HT_.out (by kernel_rfl)) (fun _ _ _ h => h) (Or.inl ⟨by rfl, ?_⟩) ?_ ?_
              rotate_left
              ·intro w'
               go_simp
               with_reducible rfl
              rotate_left
              ·simp only [Act.put, List.setIfInBounds_toArray, List.set_cons_zero, List.set_cons_succ, i64_w, i32_w]
               rfl
              refine pure_ (i := 2) (N := some 53) (v := ?_) (a' := ?_) #[true, false, true, false, false, false, false, false, false, false, false, false, false, false] rfl rfl (any_of HT_.out (by kernel_rfl)) (fun _ _ _ h => h) (Or.inl ⟨by rfl, ?_⟩) ?_ ?_
              rotate_left
              ·intro w'
               go_simp
               with_reducible rfl
              rotate_left
              ·simp only [Act.put, List.setIfInBounds_toArray, List.set_cons_zero, List.set_cons_succ, i64_w, i32_w]
               rfl
              refine pure_ (i := 5) (N := some 56) (v := ?_) (a' := ?_) #[true, false, true, false, false, true, false, false, false, false, false, false, false, false] rfl rfl (any_of HT_.out (by kernel_rfl)) (fun _ _ _ h => h) (Or.inl ⟨by rfl, ?_⟩) ?_ ?_
              rotate_left
              ·intro w'
               go_simp
               with_reducible rfl
              rotate_left
              ·simp only [Act.put, List.setIfInBounds_toArray, List.set_cons_zero, List.set_cons_succ, i64_w, i32_w]
               rfl
              refine take_ (i := 1) (N := some 52) (v := ?_) (a' := ?_) #[true, true, true, false, false, true, false, false, false, false, false, false, false, false] rfl rfl (take_ofW HT_.out HW_.out (by kernel_rfl)) (fun _ _ _ h => h) (Or.inl ⟨by rfl, ?_⟩) hHeld ?_ ?_
              rotate_left
              ·rintro w' ⟨s0, s1, s2, s3, s4, s5, s6, s7, s8, s9⟩
               go_simp
               with_reducible rfl
              rotate_left
              ·simp only [Act.put, List.setIfInBounds_toArray, List.set_cons_zero, List.set_cons_succ, i64_w, i32_w]
               rfl
              refine pure_ (i := 3) (N := some 54) (v := ?_) (a' := ?_) #[true, true, true, true, false, true, false, false, false, false, false, false, false, false] rfl rfl (any_of HT_.out (by kernel_rfl)) (fun _ _ _ h => h) (Or.inl ⟨by rfl, ?_⟩) ?_ ?_
              rotate_left
              ·intro w'
               go_simp
               with_reducible rfl
              rotate_left
              ·simp only [Act.put, List.setIfInBounds_toArray, List.set_cons_zero, List.set_cons_succ, i64_w, i32_w]
               rfl
              refine take_ (i := 4) (N := some 55) (v := ?_) (a' := ?_) #[true, true, true, true, true, true, false, false, false, false, false, false, false, false] rfl rfl (take_ofW HT_.out HW_.out (by kernel_rfl)) (fun _ _ _ h => h) (Or.inl ⟨by rfl, ?_⟩) hHeld ?_ ?_
              rotate_left
              ·rintro w' ⟨s0, s1, s2, s3, s4, s5, s6, s7, s8, s9⟩
               go_simp
               with_reducible rfl
              rotate_left
              ·simp only [Act.put, List.setIfInBounds_toArray, List.set_cons_zero, List.set_cons_succ, i64_w, i32_w]
               rfl
              refine take_ (i := 6) (N := some 57) (v := ?_) (a' := ?_) #[true, true, true, true, true, true, true, false, false, false, false, false, false, false] rfl rfl (take_ofW HT_.out HW_.out (by kernel_rfl)) (fun _ _ _ h => h) (Or.inl ⟨by rfl, ?_⟩) hHeld ?_ ?_
              rotate_left
              ·rintro w' ⟨s0, s1, s2, s3, s4, s5, s6, s7, s8, s9⟩
               go_simp
               with_reducible rfl
              rotate_left
              ·simp only [Act.put, List.setIfInBounds_toArray, List.set_cons_zero, List.set_cons_succ, i64_w, i32_w]
               rfl
              refine pure_ (i := 7) (N := some 58) (v := ?_) (a' := ?_) #[true, true, true, true, true, true, true, true, false, false, false, false, false, false] rfl rfl (any_of HT_.out (by kernel_rfl)) (fun _ _ _ h => h) (Or.inl ⟨by rfl, ?_⟩) ?_ ?_
              rotate_left
              ·intro w'
               go_simp
               with_reducible rfl
              rotate_left
              ·simp only [Act.put, List.setIfInBounds_toArray, List.set_cons_zero, List.set_cons_succ, i64_w, i32_w]
               rfl
              refine pure_ (i := 8) (N := some 59) (v := ?_) (a' := ?_) #[true, true, true, true, true, true, true, true, true, false, false, false, false, false] rfl rfl (any_of HT_.out (by kernel_rfl)) (fun _ _ _ h => h) (Or.inl ⟨by rfl, ?_⟩) ?_ ?_
              rotate_left
              ·intro w'
               go_simp
               with_reducible rfl
              rotate_left
              ·simp only [Act.put, List.setIfInBounds_toArray, List.set_cons_zero, List.set_cons_succ, i64_w, i32_w]
               rfl
              refine pure_ (i := 9) (N := some 60) (v := undef) (a' := ?_) #[true, true, true, true, true, true, true, true, true, true, false, false, false, false] rfl rfl (any_of HT_.out (by kernel_rfl)) (fun _ _ _ h => h) (Or.inr ⟨by rfl, rfl⟩) ?_ ?_
              rotate_left
              ·simp only [Act.put, List.setIfInBounds_toArray, List.set_cons_zero, List.set_cons_succ, i64_w, i32_w]
               rfl
              refine pure_ (i := 10) (N := some 61) (v := undef) (a' := ?_) #[true, true, true, true, true, true, true, true, true, true, true, false, false, false] rfl rfl (any_of HT_.out (by kernel_rfl)) (fun _ _ _ h => h) (Or.inr ⟨by rfl, rfl⟩) ?_ ?_
              rotate_left
              ·simp only [Act.put, List.setIfInBounds_toArray, List.set_cons_zero, List.set_cons_succ, i64_w, i32_w]
               rfl
              refine pure_ (i := 11) (N := some 62) (v := ?_) (a' := ?_) #[true, true, true, true, true, true, true, true, true, true, true, true, false, false] rfl rfl (any_of HT_.out (by kernel_rfl)) (fun _ _ _ h => h) (Or.inl ⟨by rfl, ?_⟩) ?_ ?_
              rotate_left
              ·intro w'
               go_simp
               with_reducible rfl
              rotate_left
              ·simp only [Act.put, List.setIfInBounds_toArray, List.set_cons_zero, List.set_cons_succ, i64_w, i32_w]
               rfl
              refine one_ (i := 12) (N := some 63) #[true, true, true, true, true, true, true, true, true, true, true, true, true, false] rfl rfl (one_of HT_.out (by kernel_rfl)) (by decide) (fun K hK => ?_)
              refine goes_ Tryd.func27 (by kernel_rfl) rfl #[.agg #[.int .i64 ((rd_T24 l0_4 x5_2).f0), .string ((rd_T24 l0_4 x5_2).f1), .int .i64 ((rd_T24 l0_4 x5_2).f2), .int .i64 ((rd_T24 l0_4 x5_2).f3), .slice A158_4 ((rd_T24 l0_4 x5_2).f4).length c158_4], .bool false] (by rfl) rfl rfl (by (try simp only [List.map_toArray, List.map_cons, List.map_nil]); first|done|rfl|(simp only [List.length_drop, List.length_take]; rfl)) ?_
              with_reducible refine (ih kj23 (by have := HJ2.out; have := HK2.out; have := HJ23.out; omega) ((rd_T24 l0_4 x5_2).f0) ((rd_T24 l0_4 x5_2).f1) ((rd_T24 l0_4 x5_2).f2) ((rd_T24 l0_4 x5_2).f3) _ _ ((rd_T24 l0_4 x5_2).f4) false false _ ?side1 ?side2 A42.out).mono ?_
              (case side1 => repeat (first|exact (Kd.C_below HR158_4.out HB.out)|(with_reducible refine Kd.C_alloc ?_ _)|(with_reducible refine Kd.C_drewN ?_ _)|(with_reducible refine Kd.C_drew ?_)))
              (case side2 => exact HC158_4.out)
              rintro e w47 ⟨rfl, hb⟩
              refine ⟨_, rfl, ?_⟩
              have n0_ := Aside0.mk (blk_below (g := gb154) (o := .cells #[.int .i64 a0_0, .string a0_1, .int .i64 a0_2, .int .i64 a0_3, .slice (some ad158) l0_4.length c0_4] 24 (0, 0)) (by (with_reducible repeat (first|refine blk_drewN ?_ _|refine blk_drew ?_|refine blk_alloc ?_ _)); exact BK154.out) hb)
              have n1_ := Aside0.mk (below_step (by repeat (first|(with_reducible first|exact HB.out|apply below_alloc|apply pw_below_drewN|apply below_drew1|refine below_set ?_ GE154.out)|exact HB.out)) hb)
              clear BK154
              clear HB
              have BK154 := n0_
              have HB := n1_
              clear n0_ n1_
              (try clear hb)
              (try clear hb2)
              (try clear hk)
              (try clear hi)
              refine hK.out _ _ ⟨(blk_cell BK154.out 0).trans rfl, (blk_cell BK154.out 1).trans rfl, (blk_cell BK154.out 2).trans rfl, (blk_cell BK154.out 3).trans rfl, (blk_cell BK154.out 4).trans rfl, ((HB.out.cell (World.block_lt_of_cell? w _ hw158_0)).trans hw158_0), ((HB.out.cell (World.block_lt_of_cell? w _ hw158_1)).trans hw158_1), ((HB.out.cell (World.block_lt_of_cell? w _ hw158_2)).trans hw158_2), ((HB.out.cell (World.block_lt_of_cell? w _ hw158_3)).trans hw158_3), ((HB.out.cell (World.block_lt_of_cell? w _ hw158_4)).trans hw158_4)⟩ (fun hHeld => ?_)
              clear hK K
              refine norm_ (a' := ?_) ?_ ?_
              rotate_left
              ·show Act.put _ (some 63) _ = _
               simp only [Act.put, List.setIfInBounds_toArray, List.set_cons_zero, List.set_cons_succ, i64_w, i32_w]
               rfl
              refine pure_ (i := 13) (N := some 64) (v := ?_) (a' := ?_) #[true, true, true, true, true, true, true, true, true, true, true, true, true, true] rfl rfl (any_of HT_.out (by kernel_rfl)) (fun _ _ _ h => h) (Or.inl ⟨by rfl, ?_⟩) ?_ ?_
              rotate_left
              ·intro w'
               go_simp
               with_reducible rfl
              rotate_left
              ·simp only [Act.put, List.setIfInBounds_toArray, List.set_cons_zero, List.set_cons_succ, i64_w, i32_w]
               rfl
              refine done_ (done_of HT_.out (by kernel_rfl)) ?_
              try go_wp2
              go_ret
              exact ⟨by first|rfl|(simp [errW_none, errW_some] <;> rfl)|(simp [*, errW_none, errW_some] <;> rfl), by repeat (first|(with_reducible first|exact HB.out|apply below_alloc|apply pw_below_drewN|apply below_drew1|refine below_set ?_ GE154.out)|exact HB.out)⟩
           ·rw [if_neg c34] at H
            exact absurd H (by simp)
          ·rw [if_neg c33] at H
           exact absurd H (by simp)
      ·rw [if_neg c23] at H
       have c23b0 : decide (x5_2 < (l0_4.length : Int)) = false := decide_eq_false c23
       clear c23
       obtain rfl := Option.some.inj H
       have hcz48_0 : wr.cell? ⟨gb154, 0, none⟩ = some (.int .i64 a0_0) := (blk_cell BK154.out 0).trans rfl
       have hcz48_1 : wr.cell? ⟨gb154, 1, none⟩ = some (.string a0_1) := (blk_cell BK154.out 1).trans rfl
       have hcz48_2 : wr.cell? ⟨gb154, 2, none⟩ = some (.int .i64 a0_2) := (blk_cell BK154.out 2).trans rfl
       have hcz48_3 : wr.cell? ⟨gb154, 3, none⟩ = some (.int .i64 a0_3) := (blk_cell BK154.out 3).trans rfl
       have hcz48_4 : wr.cell? ⟨gb154, 4, none⟩ = some (.slice A0_4 l0_4.length c0_4) := (blk_cell BK154.out 4).trans rfl
       have hfz48_0 := blk_frozen BK154.out 0
       have hfz48_1 := blk_frozen BK154.out 1
       have hfz48_2 := blk_frozen BK154.out 2
       have hfz48_3 := blk_frozen BK154.out 3
       have hfz48_4 := blk_frozen BK154.out 4
       go_wp2
       go_ret
       exact ⟨by first|rfl|(simp [errW_none, errW_some] <;> rfl)|(simp [*, errW_none, errW_some] <;> rfl), by repeat (first|(with_reducible first|exact HB.out|apply below_alloc|apply pw_below_drewN|apply below_drew1|refine below_set ?_ GE154.out)|exact HB.out)⟩

end Go.Proofs.YthdkjfhpbigdpaaDoor.Q

namespace Go.Proofs.YthdkjfhpbigdpaaDoor.Q
open Go.RowKit Go.Proofs.YthdkjfhpbigdpaaDoorW.PrintWords Go.Proofs.YthdkjfhpbigdpaaDoorW.PrintLast Go.Proofs.YthdkjfhpbigdpaaDoorW.PrintMore
attribute [local go_sem] max2_int min2_int max_two min_two max_three min_three max_four min_four
set_option linter.unusedVariables false
set_option linter.unusedSimpArgs false

def gossamerref02_May.f (k : Nat) (a0_0 : Int) (a0_1 : ByteArray) (a0_2 : Int) (a0_3 : Int) (l0_4 : List (S24)) : Option (Bool) := (gossamerref02_may.f k a0_0 a0_1 a0_2 a0_3 l0_4 false).bind fun t162 => (some t162)
theorem gossamerref02_May.mono : ∀ a0 a1 a2 a3 a4 k, LeO (gossamerref02_May.f k a0 a1 a2 a3 a4) (gossamerref02_May.f (k + 1) a0 a1 a2 a3 a4) := by
 intro a0 a1 a2 a3 a4 k
 unfold gossamerref02_May.f
 repeat' first
  |(with_reducible exact gossamerref02_may.mono _ _ _ _ _ _ _)
  |(with_reducible exact LeO.refl _)
  |(with_reducible exact LeO.none _)
  |(with_reducible refine LeO.ite ?_ ?_)
  |(with_reducible refine LeO.bind ?_ (fun _ => ?_))
  |exact gossamerref02_may.mono _ _ _ _ _ _ _
  |exact LeO.none _
  |refine LeO.ite ?_ ?_
  |refine LeO.bind ?_ (fun _ => ?_)
set_option maxHeartbeats 8000000 in
set_option maxRecDepth 100000 in
theorem gossamerref02_May.calls (k : Nat) (a0_0 : Int) (a0_1 : ByteArray) (a0_2 : Int) (a0_3 : Int) (A0_4 : Option Addr) (c0_4 : Nat) (l0_4 : List (S24)) (r : Bool) (w : World) (hr0_4 : Kd.C k24 w A0_4 l0_4.length l0_4) (hc0_4 : l0_4.length ≤ c0_4) (h : gossamerref02_May.f k a0_0 a0_1 a0_2 a0_3 l0_4 = some r) :
  Calls Tryd.prog 17 #[.agg #[.int .i64 a0_0, .string a0_1, .int .i64 a0_2, .int .i64 a0_3, .slice A0_4 l0_4.length c0_4]] w fun e w' => e = .returned (.bool r) ∧ Below w.heap.size w w' := by
 have hu24 := Tryd.underlying24
 have HR0_4 := Aside0.mk hr0_4
 have HC0_4 := Aside0.mk hc0_4
 clear hr0_4 hc0_4
 have HB := Aside0.mk (Below.refl w.heap.size w)
 have H : ((gossamerref02_may.f k a0_0 a0_1 a0_2 a0_3 l0_4 false).bind fun t162 => (some t162)) = some r := h
 clear h
 replace H := Option.bind_eq_some_iff.mp H
 obtain ⟨t162, A20, H⟩ := H
 replace H : (some t162) = some r := H
 have A2 := Aside0.mk A20
 clear A20
 obtain rfl := Option.some.inj H
 go_enter Tryd.func17, Tryd.ntmps17
 go_wp2_with (first|((with_reducible refine gate_dst (N := 1) rfl ?_); refine box_event ?hg (N := 1) ?hd (cs := #[.int .i64 a0_0, .string a0_1, .int .i64 a0_2, .int .i64 a0_3, .slice A0_4 l0_4.length c0_4]) (t := 24) ?hr ?_; (case hd => rfl); (case hg => rfl); (case hr => first|(go_simp; done)|(go_simp; rfl)); intro gb161 hg w3 hbox hb; have n0_ := Aside0.mk (below_step (by repeat (first|(with_reducible first|exact HB.out|apply below_alloc|apply pw_below_drewN|apply below_drew1)|exact HB.out)) hb); have n1_ := Aside0.mk (hbox); have n2_ := Aside0.mk ((by rw [hg]; exact (below_size (by repeat (first|(with_reducible first|exact HB.out|apply below_alloc|apply pw_below_drewN|apply below_drew1)|exact HB.out))) : w.heap.size ≤ gb161)); have n3_ := Aside0.mk ((by rw [hg]; exact (below_size (by repeat (first|(with_reducible first|exact HB.out|apply below_alloc|apply pw_below_drewN|apply below_drew1)|exact HB.out))) : w.heap.size ≤ gb161)); clear HB; have HB := n0_; have BK161 := n1_; have GW161 := n2_; have GE161 := n3_; clear n0_ n1_ n2_ n3_; clear hb hbox hg; have hcz4_0 : w3.cell? ⟨gb161, 0, none⟩ = some (.int .i64 a0_0) := (blk_cell BK161.out 0).trans rfl; have hcz4_1 : w3.cell? ⟨gb161, 1, none⟩ = some (.string a0_1) := (blk_cell BK161.out 1).trans rfl; have hcz4_2 : w3.cell? ⟨gb161, 2, none⟩ = some (.int .i64 a0_2) := (blk_cell BK161.out 2).trans rfl; have hcz4_3 : w3.cell? ⟨gb161, 3, none⟩ = some (.int .i64 a0_3) := (blk_cell BK161.out 3).trans rfl; have hcz4_4 : w3.cell? ⟨gb161, 4, none⟩ = some (.slice A0_4 l0_4.length c0_4) := (blk_cell BK161.out 4).trans rfl; have hfz4_0 := blk_frozen BK161.out 0; have hfz4_1 := blk_frozen BK161.out 1; have hfz4_2 := blk_frozen BK161.out 2; have hfz4_3 := blk_frozen BK161.out 3; have hfz4_4 := blk_frozen BK161.out 4) | ((with_reducible refine gate_callee (f := 27) rfl ?_); refine goesL_ (some 4) rfl rfl Tryd.func27 (by kernel_rfl) rfl #[.agg #[.int .i64 a0_0, .string a0_1, .int .i64 a0_2, .int .i64 a0_3, .slice A0_4 l0_4.length c0_4], .bool false] rfl (by (try simp only [List.map_toArray, List.map_cons, List.map_nil]); first|done|rfl|(simp only [List.length_drop, List.length_take]; rfl)) ?_; (with_reducible refine (gossamerref02_may.calls k a0_0 a0_1 a0_2 a0_3 _ _ l0_4 false t162 _ ?side1 ?side2 A2.out).mono ?_); (case side1 => repeat (first|exact (Kd.C_below HR0_4.out HB.out)|(with_reducible refine Kd.C_alloc ?_ _)|(with_reducible refine Kd.C_drewN ?_ _)|(with_reducible refine Kd.C_drew ?_))); (case side2 => exact HC0_4.out); rintro e w5 ⟨rfl, hb⟩; refine ⟨_, rfl, ?_⟩; have n0_ := Aside0.mk (blk_below (g := gb161) (o := .cells #[.int .i64 a0_0, .string a0_1, .int .i64 a0_2, .int .i64 a0_3, .slice A0_4 l0_4.length c0_4] 24 (0, 0)) (by (with_reducible repeat (first|refine blk_drewN ?_ _|refine blk_drew ?_|refine blk_alloc ?_ _)); exact BK161.out) hb); have n1_ := Aside0.mk (below_step (by repeat (first|(with_reducible first|exact HB.out|apply below_alloc|apply pw_below_drewN|apply below_drew1|refine below_set ?_ GE161.out)|exact HB.out)) hb); clear BK161; clear HB; have BK161 := n0_; have HB := n1_; clear n0_ n1_; (try clear hb); (try clear hb2); (try clear hk); (try clear hi)))
 go_ret
 exact ⟨by first|rfl|(simp [errW_none, errW_some] <;> rfl)|(simp [*, errW_none, errW_some] <;> rfl), by repeat (first|(with_reducible first|exact HB.out|apply below_alloc|apply pw_below_drewN|apply below_drew1|refine below_set ?_ GE161.out)|exact HB.out)⟩

end Go.Proofs.YthdkjfhpbigdpaaDoor.Q

namespace Go.Proofs.YthdkjfhpbigdpaaDoor.Q
open Go.RowKit Go.Proofs.YthdkjfhpbigdpaaDoorW.PrintWords Go.Proofs.YthdkjfhpbigdpaaDoorW.PrintLast Go.Proofs.YthdkjfhpbigdpaaDoorW.PrintMore
attribute [local go_sem] max2_int min2_int max_two min_two max_three min_three max_four min_four
set_option linter.unusedVariables false
set_option linter.unusedSimpArgs false

mutual
def tree_Size.l0 : Nat → Int → List (S24) → Int → Int → Option (Int)
 | 0, _, _, _, _ => none
 | k + 1, x3, x7, x8, x9 => if x9 < x8 then (if 0 ≤ x9 then (if x9 < (x7.length : Int) then ((tree_Size.f k ((rd_T24 x7 x9).f0) ((rd_T24 x7 x9).f1) ((rd_T24 x7 x9).f2) ((rd_T24 x7 x9).f3) ((rd_T24 x7 x9).f4)).bind fun t122 => (tree_Size.l0 k (wrap64 (x3 + t122)) x7 x8 (wrap64 (x9 + 1)))) else (none)) else (none)) else (some x3)
def tree_Size.f : Nat → Int → ByteArray → Int → Int → List (S24) → Option (Int)
 | 0, _, _, _, _, _ => none
 | k + 1, a0_0, a0_1, a0_2, a0_3, l0_4 => tree_Size.l0 k 1 l0_4 (l0_4.length : Int) 0
end
theorem tree_Size.mono_l : ∀ k, (∀ y0 y1 y2 y3 y4, LeO (tree_Size.f k y0 y1 y2 y3 y4) (tree_Size.f (k + 1) y0 y1 y2 y3 y4)) ∧ (∀ y0 y1 y2 y3, LeO (tree_Size.l0 k y0 y1 y2 y3) (tree_Size.l0 (k + 1) y0 y1 y2 y3))
 | 0 => ⟨fun _ _ _ _ _ r h => by simp [tree_Size.f] at h, fun _ _ _ _ r h => by simp [tree_Size.l0] at h⟩
 | k + 1 => by
  obtain ⟨ih0, ih1⟩ := tree_Size.mono_l k
  refine ⟨?_, ?_⟩
  ·intro y0 y1 y2 y3 y4
   unfold tree_Size.f
   repeat' first
  |(with_reducible exact ih0 _ _ _ _ _)
  |(with_reducible exact ih1 _ _ _ _)
  |(with_reducible exact LeO.refl _)
  |(with_reducible exact LeO.none _)
  |(with_reducible refine LeO.ite ?_ ?_)
  |(with_reducible refine LeO.bind ?_ (fun _ => ?_))
  |exact ih0 _ _ _ _ _
  |exact ih1 _ _ _ _
  |exact LeO.none _
  |refine LeO.ite ?_ ?_
  |refine LeO.bind ?_ (fun _ => ?_)
  ·intro y0 y1 y2 y3
   unfold tree_Size.l0
   repeat' first
  |(with_reducible exact ih0 _ _ _ _ _)
  |(with_reducible exact ih1 _ _ _ _)
  |(with_reducible exact LeO.refl _)
  |(with_reducible exact LeO.none _)
  |(with_reducible refine LeO.ite ?_ ?_)
  |(with_reducible refine LeO.bind ?_ (fun _ => ?_))
  |exact ih0 _ _ _ _ _
  |exact ih1 _ _ _ _
  |exact LeO.none _
  |refine LeO.ite ?_ ?_
  |refine LeO.bind ?_ (fun _ => ?_)
theorem tree_Size.mono : ∀ a0 a1 a2 a3 a4 k, LeO (tree_Size.f k a0 a1 a2 a3 a4) (tree_Size.f (k + 1) a0 a1 a2 a3 a4) := by
 intro a0 a1 a2 a3 a4 k
 obtain ⟨ih0, ih1⟩ := tree_Size.mono_l k
 exact ih0 a0 a1 a2 a3 a4
set_option maxHeartbeats 8000000 in
set_option maxRecDepth 100000 in
theorem tree_Size.calls (k : Nat) : ∀ (a0_0 : Int) (a0_1 : ByteArray) (a0_2 : Int) (a0_3 : Int) (A0_4 : Option Addr) (c0_4 : Nat) (l0_4 : List (S24)) (r : Int) (w : World) (hr0_4 : Kd.C k24 w A0_4 l0_4.length l0_4) (hc0_4 : l0_4.length ≤ c0_4) (h : tree_Size.f k a0_0 a0_1 a0_2 a0_3 l0_4 = some r),
  Calls Tryd.prog 14 #[.agg #[.int .i64 a0_0, .string a0_1, .int .i64 a0_2, .int .i64 a0_3, .slice A0_4 l0_4.length c0_4]] w fun e w' => e = .returned (.int .i64 r) ∧ Below w.heap.size w w' := by
 induction k using Nat.strongRecOn with
 | _ k ih =>
 intro a0_0 a0_1 a0_2 a0_3 A0_4 c0_4 l0_4 r w hr0_4 hc0_4 h
 cases k with
 | zero => exact absurd h (by simp [tree_Size.f])
 | succ k =>
 simp only [tree_Size.f] at h
 have hu24 := Tryd.underlying24
 have HR0_4 := Aside0.mk hr0_4
 have HC0_4 := Aside0.mk hc0_4
 clear hr0_4 hc0_4
 have HB := Aside0.mk (Below.refl w.heap.size w)
 have H : (tree_Size.l0 k 1 l0_4 (l0_4.length : Int) 0) = some r := h
 clear h
 have H' := Aside0.mk H
 clear H
 go_enter Tryd.func14, Tryd.ntmps14
 go_wp2_with (first|((with_reducible refine gate_dst (N := 1) rfl ?_); refine box_event ?hg (N := 1) ?hd (cs := #[.int .i64 a0_0, .string a0_1, .int .i64 a0_2, .int .i64 a0_3, .slice A0_4 l0_4.length c0_4]) (t := 24) ?hr ?_; (case hd => rfl); (case hg => rfl); (case hr => first|(go_simp; done)|(go_simp; rfl)); intro gb119 hg w2 hbox hb; have n0_ := Aside0.mk (below_step (by repeat (first|(with_reducible first|exact HB.out|apply below_alloc|apply pw_below_drewN|apply below_drew1)|exact HB.out)) hb); have n1_ := Aside0.mk (hbox); have n2_ := Aside0.mk ((by rw [hg]; exact (below_size (by repeat (first|(with_reducible first|exact HB.out|apply below_alloc|apply pw_below_drewN|apply below_drew1)|exact HB.out))) : w.heap.size ≤ gb119)); have n3_ := Aside0.mk ((by rw [hg]; exact (below_size (by repeat (first|(with_reducible first|exact HB.out|apply below_alloc|apply pw_below_drewN|apply below_drew1)|exact HB.out))) : w.heap.size ≤ gb119)); clear HB; have HB := n0_; have BK119 := n1_; have GW119 := n2_; have GE119 := n3_; clear n0_ n1_ n2_ n3_; clear hb hbox hg; have hcz3_0 : w2.cell? ⟨gb119, 0, none⟩ = some (.int .i64 a0_0) := (blk_cell BK119.out 0).trans rfl; have hcz3_1 : w2.cell? ⟨gb119, 1, none⟩ = some (.string a0_1) := (blk_cell BK119.out 1).trans rfl; have hcz3_2 : w2.cell? ⟨gb119, 2, none⟩ = some (.int .i64 a0_2) := (blk_cell BK119.out 2).trans rfl; have hcz3_3 : w2.cell? ⟨gb119, 3, none⟩ = some (.int .i64 a0_3) := (blk_cell BK119.out 3).trans rfl; have hcz3_4 : w2.cell? ⟨gb119, 4, none⟩ = some (.slice A0_4 l0_4.length c0_4) := (blk_cell BK119.out 4).trans rfl; have hfz3_0 := blk_frozen BK119.out 0; have hfz3_1 := blk_frozen BK119.out 1; have hfz3_2 := blk_frozen BK119.out 2; have hfz3_3 := blk_frozen BK119.out 3; have hfz3_4 := blk_frozen BK119.out 4))
 go_loopg [3, 9] k (fun kq v3 v9 w' => ∃ (x3_1 : Int) (x9_1 : Int), v3 = .int .i64 x3_1 ∧ v9 = .int .i64 x9_1 ∧ Aside0 (tree_Size.l0 kq x3_1 l0_4 (l0_4.length : Int) x9_1 = some r) ∧ Aside0 (kq ≤ k) ∧ Aside0 (w'.heap[gb119]? = some (.cells #[.int .i64 a0_0, .string a0_1, .int .i64 a0_2, .int .i64 a0_3, (.slice A0_4 l0_4.length c0_4)] 24 (0, 0))) ∧ Aside0 (Below w.heap.size w w'))
 case atStart => exact ⟨(1), (0), (by first|rfl|(simp; done)|(simp [*]; done)), (by first|rfl|(simp; done)|(simp [*]; done)), H', ⟨Nat.le_refl _⟩, ⟨by (with_reducible repeat (first|refine blk_drewN ?_ _|refine blk_drew ?_|refine blk_alloc ?_ _)); exact BK119.out⟩, ⟨by repeat (first|(with_reducible first|exact HB.out|apply below_alloc|apply pw_below_drewN|apply below_drew1|refine below_set ?_ GE119.out)|exact HB.out)⟩⟩
 case round =>
  clear H'
  try clear c1
  try clear p2
  try clear hcz3_0
  try clear hcz3_1
  try clear hcz3_2
  try clear hcz3_3
  try clear hcz3_4
  try clear hfz3_0
  try clear hfz3_1
  try clear hfz3_2
  try clear hfz3_3
  try clear hfz3_4
  obtain ⟨x3_1, x9_1, rfl, rfl, HA, HK1, BK119, HB⟩ := hrel
  cases gk with
  | zero => exact absurd HA.out (by simp [tree_Size.l0])
  | succ k1 =>
   have H := HA.out
   clear HA
   simp only [tree_Size.l0] at H
   by_cases c4 : x9_1 < (l0_4.length : Int)
   ·rw [if_pos c4] at H
    have c4b0 : decide (x9_1 < (l0_4.length : Int)) = true := decide_eq_true c4
    clear c4
    by_cases c5 : 0 ≤ x9_1
    ·rw [if_pos c5] at H
     have c5b0 : decide (0 ≤ x9_1) = true := decide_eq_true c5
     clear c5
     by_cases c6 : x9_1 < (l0_4.length : Int)
     ·rw [if_pos c6] at H
      have c6b0 : decide (x9_1 < (l0_4.length : Int)) = true := decide_eq_true c6
      clear c6
      replace H := Option.bind_eq_some_iff.mp H
      obtain ⟨t122, A70, H⟩ := H
      replace H : (tree_Size.l0 k1 (wrap64 (x3_1 + t122)) l0_4 (l0_4.length : Int) (wrap64 (x9_1 + 1))) = some r := H
      have A7 := Aside0.mk A70
      clear A70
      have H' := Aside0.mk H
      clear H
      have p120 : 0 ≤ (x9_1 : Int) := of_decide_eq_true (by first|(with_reducible assumption) | assumption)
      have q120 : x9_1 < (l0_4.length : Int) := of_decide_eq_true (by first|(with_reducible assumption) | assumption)
      obtain ⟨ad120, A120_4, c120_4, e120, hx120_0, hx120_1, hx120_2, hx120_3, hx120_4, hl120_4, hi120_4⟩ := at_T24 HR0_4.out x9_1 p120 q120
      cases e120
      replace hx120_0 := (HB.out.cell (World.block_lt_of_cell? w _ hx120_0)).trans hx120_0
      replace hx120_1 := (HB.out.cell (World.block_lt_of_cell? w _ hx120_1)).trans hx120_1
      replace hx120_2 := (HB.out.cell (World.block_lt_of_cell? w _ hx120_2)).trans hx120_2
      replace hx120_3 := (HB.out.cell (World.block_lt_of_cell? w _ hx120_3)).trans hx120_3
      replace hx120_4 := (HB.out.cell (World.block_lt_of_cell? w _ hx120_4)).trans hx120_4
      have HR120_4 := Aside0.mk hi120_4
      have HC120_4 := Aside0.mk hl120_4
      clear hi120_4 hl120_4
      replace p120 := eq_true p120
      replace q120 := eq_true q120
      go_wp2_with (first|((with_reducible refine gate_dst (N := 5) rfl ?_); refine box_event ?hg (N := 5) ?hd (cs := #[.int .i64 0, .string (⟨#[]⟩ : ByteArray), .int .i64 0, .int .i64 0, .slice none 0 0]) (t := 24) ?hr ?_; (case hd => rfl); (case hg => rfl); (case hr => first|(go_simp; done)|(go_simp; rfl)); intro gb121 hg w8 hbox hb; have n0_ := Aside0.mk (blk_below (g := gb119) (o := .cells #[.int .i64 a0_0, .string a0_1, .int .i64 a0_2, .int .i64 a0_3, .slice (some ad120) l0_4.length c0_4] 24 (0, 0)) (by (with_reducible repeat (first|refine blk_drewN ?_ _|refine blk_drew ?_|refine blk_alloc ?_ _)); exact BK119.out) hb); have n1_ := Aside0.mk (below_step (by repeat (first|(with_reducible first|exact HB.out|apply below_alloc|apply pw_below_drewN|apply below_drew1|refine below_set ?_ GE119.out)|exact HB.out)) hb); have n2_ := Aside0.mk (hbox); have n3_ := Aside0.mk ((by rw [hg]; exact (below_size (by repeat (first|(with_reducible first|exact HB.out|apply below_alloc|apply pw_below_drewN|apply below_drew1|refine below_set ?_ GE119.out)|exact HB.out))) : w.heap.size ≤ gb121)); have n4_ := Aside0.mk ((by rw [hg]; exact (below_size (by repeat (first|(with_reducible first|exact HB.out|apply below_alloc|apply pw_below_drewN|apply below_drew1|refine below_set ?_ GE119.out)|exact HB.out))) : w.heap.size ≤ gb121)); have n5_ := Aside0.mk ((by rw [hg]; exact Nat.ne_of_lt (blk_lt (g := gb119) (o := .cells #[.int .i64 a0_0, .string a0_1, .int .i64 a0_2, .int .i64 a0_3, .slice (some ad120) l0_4.length c0_4] 24 (0, 0)) (by (with_reducible repeat (first|refine blk_drewN ?_ _|refine blk_drew ?_|refine blk_alloc ?_ _)); exact BK119.out)) : gb119 ≠ gb121)); have n6_ := Aside0.mk ((by rw [hg]; exact Nat.ne_of_gt (blk_lt (g := gb119) (o := .cells #[.int .i64 a0_0, .string a0_1, .int .i64 a0_2, .int .i64 a0_3, .slice (some ad120) l0_4.length c0_4] 24 (0, 0)) (by (with_reducible repeat (first|refine blk_drewN ?_ _|refine blk_drew ?_|refine blk_alloc ?_ _)); exact BK119.out)) : gb121 ≠ gb119)); clear BK119; clear HB; have BK119 := n0_; have HB := n1_; have BK121 := n2_; have GW121 := n3_; have GE121 := n4_; have NB119_121 := n5_; have NB121_119 := n6_; clear n0_ n1_ n2_ n3_ n4_ n5_ n6_; clear hb hbox hg; have hnb9 := NB121_119.out; have hnc9 := NB119_121.out; have hcz10_0 : w8.cell? ⟨gb121, 0, none⟩ = some (.int .i64 0) := (blk_cell BK121.out 0).trans rfl; have hcz10_1 : w8.cell? ⟨gb121, 1, none⟩ = some (.string (⟨#[]⟩ : ByteArray)) := (blk_cell BK121.out 1).trans rfl; have hcz10_2 : w8.cell? ⟨gb121, 2, none⟩ = some (.int .i64 0) := (blk_cell BK121.out 2).trans rfl; have hcz10_3 : w8.cell? ⟨gb121, 3, none⟩ = some (.int .i64 0) := (blk_cell BK121.out 3).trans rfl; have hcz10_4 : w8.cell? ⟨gb121, 4, none⟩ = some (.slice none 0 0) := (blk_cell BK121.out 4).trans rfl; have hfz10_0 := blk_frozen BK121.out 0; have hfz10_1 := blk_frozen BK121.out 1; have hfz10_2 := blk_frozen BK121.out 2; have hfz10_3 := blk_frozen BK121.out 3; have hfz10_4 := blk_frozen BK121.out 4) | ((with_reducible refine gate_callee (f := 14) rfl ?_); refine goesL_ (some 15) rfl rfl Tryd.func14 (by kernel_rfl) rfl #[.agg #[.int .i64 ((rd_T24 l0_4 x9_1).f0), .string ((rd_T24 l0_4 x9_1).f1), .int .i64 ((rd_T24 l0_4 x9_1).f2), .int .i64 ((rd_T24 l0_4 x9_1).f3), .slice A120_4 ((rd_T24 l0_4 x9_1).f4).length c120_4]] rfl (by (try simp only [List.map_toArray, List.map_cons, List.map_nil]); first|done|rfl|(simp only [List.length_drop, List.length_take]; rfl)) ?_; (with_reducible refine (ih k1 (by have := HK1.out; omega) ((rd_T24 l0_4 x9_1).f0) ((rd_T24 l0_4 x9_1).f1) ((rd_T24 l0_4 x9_1).f2) ((rd_T24 l0_4 x9_1).f3) _ _ ((rd_T24 l0_4 x9_1).f4) t122 _ ?side1 ?side2 A7.out).mono ?_); (case side1 => exact Kd.C_below HR120_4.out (by repeat (first|(with_reducible first|exact HB.out|apply below_alloc|apply pw_below_drewN|apply below_drew1|refine below_set ?_ GE119.out|refine below_set ?_ GE121.out)|exact HB.out))); (case side2 => exact HC120_4.out); rintro e w11 ⟨rfl, hb⟩; refine ⟨_, rfl, ?_⟩; have n0_ := Aside0.mk (blk_below (g := gb119) (o := .cells #[.int .i64 a0_0, .string a0_1, .int .i64 a0_2, .int .i64 a0_3, .slice (some ad120) l0_4.length c0_4] 24 (0, 0)) (by (with_reducible repeat (first|refine blk_drewN ?_ _|refine blk_drew ?_|refine blk_alloc ?_ _)); refine blk_far ?_ NB119_121.out _; (with_reducible repeat (first|refine blk_drewN ?_ _|refine blk_drew ?_|refine blk_alloc ?_ _)); refine blk_far ?_ NB119_121.out _; (with_reducible repeat (first|refine blk_drewN ?_ _|refine blk_drew ?_|refine blk_alloc ?_ _)); refine blk_far ?_ NB119_121.out _; (with_reducible repeat (first|refine blk_drewN ?_ _|refine blk_drew ?_|refine blk_alloc ?_ _)); refine blk_far ?_ NB119_121.out _; (with_reducible repeat (first|refine blk_drewN ?_ _|refine blk_drew ?_|refine blk_alloc ?_ _)); refine blk_far ?_ NB119_121.out _; (with_reducible repeat (first|refine blk_drewN ?_ _|refine blk_drew ?_|refine blk_alloc ?_ _)); exact BK119.out) hb); have n1_ := Aside0.mk (blk_below (g := gb121) (o := .cells #[.int .i64 ((rd_T24 l0_4 x9_1).f0), .string ((rd_T24 l0_4 x9_1).f1), .int .i64 ((rd_T24 l0_4 x9_1).f2), .int .i64 ((rd_T24 l0_4 x9_1).f3), .slice A120_4 ((rd_T24 l0_4 x9_1).f4).length c120_4] 24 (0, 0)) (by (with_reducible repeat (first|refine blk_drewN ?_ _|refine blk_drew ?_|refine blk_alloc ?_ _)); refine blk_put (cs := #[.int .i64 ((rd_T24 l0_4 x9_1).f0), .string ((rd_T24 l0_4 x9_1).f1), .int .i64 ((rd_T24 l0_4 x9_1).f2), .int .i64 ((rd_T24 l0_4 x9_1).f3), .slice none 0 0]) ?_ 4 _ rfl; (with_reducible repeat (first|refine blk_drewN ?_ _|refine blk_drew ?_|refine blk_alloc ?_ _)); refine blk_put (cs := #[.int .i64 ((rd_T24 l0_4 x9_1).f0), .string ((rd_T24 l0_4 x9_1).f1), .int .i64 ((rd_T24 l0_4 x9_1).f2), .int .i64 0, .slice none 0 0]) ?_ 3 _ rfl; (with_reducible repeat (first|refine blk_drewN ?_ _|refine blk_drew ?_|refine blk_alloc ?_ _)); refine blk_put (cs := #[.int .i64 ((rd_T24 l0_4 x9_1).f0), .string ((rd_T24 l0_4 x9_1).f1), .int .i64 0, .int .i64 0, .slice none 0 0]) ?_ 2 _ rfl; (with_reducible repeat (first|refine blk_drewN ?_ _|refine blk_drew ?_|refine blk_alloc ?_ _)); refine blk_put (cs := #[.int .i64 ((rd_T24 l0_4 x9_1).f0), .string (⟨#[]⟩ : ByteArray), .int .i64 0, .int .i64 0, .slice none 0 0]) ?_ 1 _ rfl; (with_reducible repeat (first|refine blk_drewN ?_ _|refine blk_drew ?_|refine blk_alloc ?_ _)); refine blk_put (cs := #[.int .i64 0, .string (⟨#[]⟩ : ByteArray), .int .i64 0, .int .i64 0, .slice none 0 0]) ?_ 0 _ rfl; (with_reducible repeat (first|refine blk_drewN ?_ _|refine blk_drew ?_|refine blk_alloc ?_ _)); exact BK121.out) hb); have n2_ := Aside0.mk (below_step (by repeat (first|(with_reducible first|exact HB.out|apply below_alloc|apply pw_below_drewN|apply below_drew1|refine below_set ?_ GE119.out|refine below_set ?_ GE121.out)|exact HB.out)) hb); clear BK119; clear BK121; clear HB; have BK119 := n0_; have BK121 := n1_; have HB := n2_; clear n0_ n1_ n2_; (try clear hb); (try clear hb2); (try clear hk); (try clear hi)))
      go_roundg k1
      case measure => have := HK1.out; omega
      case rel => exact ⟨(wrap64 (x3_1 + t122)), (wrap64 (x9_1 + 1)), (by first|rfl|(simp; done)|(simp [*]; done)), (by first|rfl|(simp; done)|(simp [*]; done)), H', ⟨by have := HK1.out; omega⟩, ⟨by (with_reducible repeat (first|refine blk_drewN ?_ _|refine blk_drew ?_|refine blk_alloc ?_ _)); exact BK119.out⟩, ⟨by repeat (first|(with_reducible first|exact HB.out|apply below_alloc|apply pw_below_drewN|apply below_drew1|refine below_set ?_ GE119.out|refine below_set ?_ GE121.out)|exact HB.out)⟩⟩
     ·rw [if_neg c6] at H
      exact absurd H (by simp)
    ·rw [if_neg c5] at H
     exact absurd H (by simp)
   ·rw [if_neg c4] at H
    have c4b0 : decide (x9_1 < (l0_4.length : Int)) = false := decide_eq_false c4
    clear c4
    obtain rfl := Option.some.inj H
    go_wp2
    go_ret
    exact ⟨by first|rfl|(simp [errW_none, errW_some] <;> rfl)|(simp [*, errW_none, errW_some] <;> rfl), by repeat (first|(with_reducible first|exact HB.out|apply below_alloc|apply pw_below_drewN|apply below_drew1|refine below_set ?_ GE119.out)|exact HB.out)⟩

end Go.Proofs.YthdkjfhpbigdpaaDoor.Q

namespace Go.Proofs.YthdkjfhpbigdpaaDoor.Ev
open Go Go.RowKit

inductive AV where
 | any
 | s (x : Value)
 | agg (cs : List AV)
 | tup (vs : List AV)
 | row (xs : List (List AV))
 | ref (k : Nat)
 | rptr (k sz i off : Nat)
 | ptr (b : Nat) (off : Nat)
 | elt (cs : List AV) (off : Nat)

instance : Inhabited AV := ⟨.any⟩
abbrev Snap := Nat → Nat → Option Value

mutual
inductive Pur (S : Snap) : AV → Value → Prop
 | s {x : Value} : x.oneCell' = true → Pur S (.s x) x
 | row {b o : Nat} {xs : List (List AV)} {len cap : Nat} (sz : Nat) : (∀ c ∈ xs, c.length = sz) → Rows S b o xs → xs.length = len → len ≤ cap → Pur S (.row xs) (.slice (some ⟨b, o, none⟩) len cap)
 | nil {A : Option Addr} {cap : Nat} : Pur S (.row []) (.slice A 0 cap)
 | any {v : Value} : v.oneCell' = true → Pur S .any v
inductive Cells (S : Snap) : Nat → Nat → List AV → Prop
 | nil {b o : Nat} : Cells S b o []
 | cons {b o : Nat} {v : Value} {c : AV} {cs : List AV} : S b o = some v → Pur S c v → Cells S b (o + 1) cs → Cells S b o (c :: cs)
inductive Rows (S : Snap) : Nat → Nat → List (List AV) → Prop
 | nil {b o : Nat} : Rows S b o []
 | cons {b o : Nat} {c : List AV} {xs : List (List AV)} : Cells S b o c → Rows S b (o + c.length) xs → Rows S b o (c :: xs)
end

def SLe (S S' : Snap) : Prop := ∀ b o v, S b o = some v → S' b o = some v
theorem SLe.refl (S : Snap) : SLe S S := fun _ _ _ h => h
theorem SLe.trans {A B C : Snap} (h : SLe A B) (k : SLe B C) : SLe A C := fun b o v x => k b o v (h b o v x)

mutual
theorem Pur.mono {S S' : Snap} (h : SLe S S') : ∀ {a : AV} {v : Value}, Pur S a v → Pur S' a v
 | _, _, .s k => .s k
 | _, _, .row sz k r l m => .row sz k (r.mono h) l m
 | _, _, .nil => .nil
 | _, _, .any k => .any k
theorem Cells.mono {S S' : Snap} (h : SLe S S') : ∀ {b o : Nat} {cs : List AV}, Cells S b o cs → Cells S' b o cs
 | _, _, _, .nil => .nil
 | _, _, _, .cons x p r => .cons (h _ _ _ x) (p.mono h) (r.mono h)
theorem Rows.mono {S S' : Snap} (h : SLe S S') : ∀ {b o : Nat} {xs : List (List AV)}, Rows S b o xs → Rows S' b o xs
 | _, _, _, .nil => .nil
 | _, _, _, .cons c r => .cons (c.mono h) (r.mono h)
end

theorem Pur.one {S : Snap} {a : AV} {v : Value} (h : Pur S a v) : v.oneCell' = true := by cases h <;> first | assumption|rfl

theorem Cells.get {S : Snap} : ∀ {cs : List AV} {b o : Nat}, Cells S b o cs → ∀ {i : Nat} {c : AV}, cs[i]? = some c → ∃ v, S b (o + i) = some v ∧ Pur S c v
 | _ :: cs, b, o, .cons x p r, 0, c, h => by cases h; exact ⟨_, x, p⟩
 | _ :: cs, b, o, .cons x p r, i + 1, c, h => by
  obtain ⟨v, hv, hp⟩ := r.get (i := i) (by simpa using h)
  exact ⟨v, by rw [show o + (i + 1) = o + 1 + i by omega]; exact hv, hp⟩
theorem Cells.vals {S : Snap} : ∀ {cs : List AV} {b o : Nat}, Cells S b o cs → ∃ vs : List Value, vs.length = cs.length ∧ (∀ (j : Nat) (v : Value), vs[j]? = some v → S b (o + j) = some v) ∧ ∀ (j : Nat) (c : AV), cs[j]? = some c → ∃ v, vs[j]? = some v ∧ Pur S c v
 | [], _, _, _ => ⟨[], rfl, by simp, by simp⟩
 | _ :: cs, b, o, .cons (v := v) x p r => by
  obtain ⟨vs, h1, h2, h3⟩ := r.vals
  refine ⟨v :: vs, by simp [h1], fun j u hu => ?_, fun j c hc => ?_⟩
  ·cases j with
   | zero => simp at hu; subst hu; exact x
   | succ j => rw [show o + (j + 1) = o + 1 + j by omega]; exact h2 j u (by simpa using hu)
  ·cases j with
   | zero => simp at hc; subst hc; exact ⟨v, rfl, p⟩
   | succ j => simpa using h3 j c (by simpa using hc)
theorem Cells.drop {S : Snap} : ∀ {cs : List AV} {b o : Nat}, Cells S b o cs → ∀ n, Cells S b (o + n) (cs.drop n)
 | [], _, _, _, n => by simpa using Cells.nil
 | _ :: cs, b, o, h, 0 => by simpa using h
 | _ :: cs, b, o, .cons x p r, n + 1 => by rw [show o + (n + 1) = o + 1 + n by omega]; simpa using r.drop n
theorem Cells.take {S : Snap} : ∀ {cs : List AV} {b o : Nat}, Cells S b o cs → ∀ n, Cells S b o (cs.take n)
 | [], _, _, _, n => by simpa using Cells.nil
 | _ :: cs, b, o, _, 0 => by simpa using Cells.nil
 | _ :: cs, b, o, .cons x p r, n + 1 => by simpa using Cells.cons x p (r.take n)
theorem Rows.get {S : Snap} {sz : Nat} : ∀ {xs : List (List AV)} {b o : Nat}, (∀ c ∈ xs, c.length = sz) → Rows S b o xs → ∀ {i : Nat} {c : List AV}, xs[i]? = some c → Cells S b (o + i * sz) c
 | _ :: xs, b, o, _, .cons x r, 0, c, h => by cases h; simpa using x
 | c0 :: xs, b, o, hk, .cons x r, i + 1, c, h => by
  have := r.get (sz := sz) (fun c hc => hk c (List.mem_cons_of_mem _ hc)) (i := i) (by simpa using h)
  have h0 := hk c0 (List.mem_cons_self ..)
  rwa [h0, show o + sz + i * sz = o + (i + 1) * sz by rw [Nat.add_mul]; omega] at this
theorem Rows.drop {S : Snap} {sz : Nat} : ∀ {xs : List (List AV)} {b o : Nat}, (∀ c ∈ xs, c.length = sz) → Rows S b o xs → ∀ n, n ≤ xs.length → Rows S b (o + n * sz) (xs.drop n)
 | [], _, _, _, _, n, h => by simpa using Rows.nil
 | _ :: xs, b, o, _, h, 0, _ => by simpa using h
 | c0 :: xs, b, o, hk, .cons x r, n + 1, hn => by
  have := r.drop (sz := sz) (fun c hc => hk c (List.mem_cons_of_mem _ hc)) n (by simpa using hn)
  have h0 := hk c0 (List.mem_cons_self ..)
  rw [h0, show o + sz + n * sz = o + (n + 1) * sz by rw [Nat.add_mul]; omega] at this
  simpa using this
theorem Rows.take {S : Snap} : ∀ {xs : List (List AV)} {b o : Nat}, Rows S b o xs → ∀ n, Rows S b o (xs.take n)
 | [], _, _, _, n => by simpa using Rows.nil
 | _ :: xs, b, o, _, 0 => by simpa using Rows.nil
 | _ :: xs, b, o, .cons x r, n + 1 => by simpa using Rows.cons x (r.take n)
theorem Cells.append {S : Snap} : ∀ {c d : List AV} {b o : Nat}, Cells S b o c → Cells S b (o + c.length) d → Cells S b o (c ++ d)
 | [], _, _, _, _, y => by simpa using y
 | _ :: c, d, b, o, .cons hs p r, y => .cons hs p (r.append (by rwa [List.length_cons, show o + (c.length + 1) = o + 1 + c.length by omega] at y))
theorem Rows.flat {S : Snap} : ∀ {xs : List (List AV)} {b o : Nat}, Rows S b o xs → Cells S b o xs.flatten
 | [], _, _, _ => .nil
 | _ :: _, _, _, .cons x r => x.append r.flat
theorem Rows.of_flat {S : Snap} : ∀ {xs : List (List AV)} {b o : Nat}, Cells S b o xs.flatten → Rows S b o xs
 | [], _, _, _ => .nil
 | c :: xs, b, o, h => by
  have h1 := h.take c.length
  have h2 := h.drop c.length
  simp only [List.flatten_cons, List.take_left', List.drop_left'] at h1 h2
  exact .cons h1 (Rows.of_flat h2)
end Go.Proofs.YthdkjfhpbigdpaaDoor.Ev

namespace Go.Proofs.YthdkjfhpbigdpaaDoor.Ev
open Go Go.RowKit

inductive All2 {α β : Type} (R : α → β → Prop) : List α → List β → Prop
 | nil : All2 R [] []
 | cons {a : α} {b : β} {la : List α} {bs : List β} : R a b → All2 R la bs → All2 R (a :: la) (b :: bs)
theorem All2.imp {α β : Type} {R T : α → β → Prop} (f : ∀ a b, R a b → T a b) : ∀ {la : List α} {bs : List β}, All2 R la bs → All2 T la bs
 | _, _, .nil => .nil
 | _, _, .cons h k => .cons (f _ _ h) (k.imp f)
theorem All2.length {α β : Type} {R : α → β → Prop} : ∀ {la : List α} {bs : List β}, All2 R la bs → la.length = bs.length
 | _, _, .nil => rfl
 | _, _, .cons _ k => by simp [k.length]
theorem All2.get {α β : Type} {R : α → β → Prop} : ∀ {la : List α} {bs : List β}, All2 R la bs → ∀ {i : Nat} {a : α}, la[i]? = some a → ∃ b, bs[i]? = some b ∧ R a b
 | _, _, .cons h k, 0, a, e => by cases e; exact ⟨_, rfl, h⟩
 | _, _, .cons h k, i + 1, a, e => by simpa using k.get (i := i) (by simpa using e)
theorem All2.append {α β : Type} {R : α → β → Prop} : ∀ {la : List α} {bs : List β} {la' : List α} {bs' : List β}, All2 R la bs → All2 R la' bs' → All2 R (la ++ la') (bs ++ bs')
 | _, _, _, _, .nil, k => k
 | _, _, _, _, .cons h r, k => .cons h (r.append k)
theorem All2.take {α β : Type} {R : α → β → Prop} : ∀ {la : List α} {bs : List β}, All2 R la bs → ∀ n, All2 R (la.take n) (bs.take n)
 | _, _, .nil, n => by simpa using All2.nil
 | _, _, .cons _ _, 0 => by simpa using All2.nil
 | _, _, .cons h k, n + 1 => by simpa using All2.cons h (k.take n)
theorem All2.drop {α β : Type} {R : α → β → Prop} : ∀ {la : List α} {bs : List β}, All2 R la bs → ∀ n, All2 R (la.drop n) (bs.drop n)
 | _, _, .nil, n => by simpa using All2.nil
 | _, _, h, 0 => by simpa using h
 | _, _, .cons h k, n + 1 => by simpa using k.drop n
theorem All2.map {α β γ δ : Type} {R : α → β → Prop} {T : γ → δ → Prop} (f : α → γ) (g : β → δ) (h : ∀ a b, R a b → T (f a) (g b)) : ∀ {la : List α} {bs : List β}, All2 R la bs → All2 T (la.map f) (bs.map g)
 | _, _, .nil => .nil
 | _, _, .cons x k => .cons (h _ _ x) (k.map f g h)

structure Gh where
 S : Snap
 ι : Nat → Option Nat
 τ : Nat → Option Value

inductive Cel (g : Gh) : AV → Value → Prop
 | pur {a : AV} {v : Value} : Pur g.S a v → Cel g a v
 | ref {k : Nat} {v : Value} : g.τ k = some v → v.oneCell' = true → Cel g (.ref k) v
 | rptr {k sz i off b n cap : Nat} : g.τ k = some (.slice (some ⟨b, 0, none⟩) n cap) → Cel g (.rptr k sz i off) (.pointer (some ⟨b, i * sz + off, none⟩))
 | ptr {b off h : Nat} : g.ι b = some h → Cel g (.ptr b off) (.pointer (some ⟨h, off, none⟩))
 | elt {b o off : Nat} {cs : List AV} : Cells g.S b o cs → Cel g (.elt cs off) (.pointer (some ⟨b, o + off, none⟩))
inductive Com (g : Gh) : AV → Value → Prop
 | cel {a : AV} {v : Value} : Cel g a v → Com g a v
 | agg {cs : List AV} {vs : List Value} : All2 (Cel g) cs vs → Com g (.agg cs) (.agg vs.toArray)
inductive Rep (g : Gh) : AV → Value → Prop
 | com {a : AV} {v : Value} : Com g a v → Rep g a v
 | tup {cs : List AV} {vs : List Value} : All2 (Com g) cs vs → Rep g (.tup cs) (.tuple vs.toArray)
 | any {v : Value} : Rep g .any v

structure Gh.Le (g g' : Gh) : Prop where
 S : SLe g.S g'.S
 ι : ∀ b h, g.ι b = some h → g'.ι b = some h
 τ : ∀ k x, g.τ k = some x → g'.τ k = some x
theorem Gh.Le.refl (g : Gh) : g.Le g := ⟨SLe.refl _, fun _ _ h => h, fun _ _ h => h⟩
theorem Cel.mono {g g' : Gh} (h : g.Le g') {a : AV} {v : Value} : Cel g a v → Cel g' a v
 | .pur p => .pur (p.mono h.S)
 | .ref k o => .ref (h.τ _ _ k) o
 | .rptr k => .rptr (h.τ _ _ k)
 | .ptr k => .ptr (h.ι _ _ k)
 | .elt c => .elt (c.mono h.S)
theorem Com.mono {g g' : Gh} (h : g.Le g') {a : AV} {v : Value} : Com g a v → Com g' a v
 | .cel c => .cel (c.mono h)
 | .agg cs => .agg (cs.imp fun _ _ c => c.mono h)
theorem Rep.mono {g g' : Gh} (h : g.Le g') {a : AV} {v : Value} : Rep g a v → Rep g' a v
 | .com c => .com (c.mono h)
 | .tup cs => .tup (cs.imp fun _ _ c => c.mono h)
 | .any => .any
theorem Cel.one {g : Gh} {a : AV} {v : Value} (h : Cel g a v) : v.oneCell' = true := by
 cases h with
 | pur p => exact p.one
 | ref k o => exact o
 | rptr => rfl
 | ptr => rfl
 | elt => rfl

structure GR where
 e : TypeId
 sz : Nat
 xs : List (List AV)
 live : Bool
structure AS where
 t : Nat → AV
 bx : Nat → Option (List AV)
 gr : Nat → Option GR
 nx : Nat

structure Keep (B : Nat) (gs : List Nat) (w w' : World) : Prop where
 os : w'.os = w.os
 tape : w'.tape = w.tape
 output : w'.output = w.output
 size : w.heap.size ≤ w'.heap.size
 block : ∀ k, k < B → k ∉ gs → w'.heap[k]? = w.heap[k]?
theorem Keep.refl (B : Nat) (gs : List Nat) (w : World) : Keep B gs w w := ⟨rfl, rfl, rfl, Nat.le_refl _, fun _ _ _ => rfl⟩
theorem Keep.trans {B : Nat} {gs : List Nat} {a b c : World} (h : Keep B gs a b) (k : Keep B gs b c) : Keep B gs a c :=
 ⟨k.os.trans h.os, k.tape.trans h.tape, k.output.trans h.output, Nat.le_trans h.size k.size, fun i hi hn => (k.block i hi hn).trans (h.block i hi hn)⟩
theorem Keep.below {B : Nat} {w w' : World} (h : Keep B [] w w') : Below B w w' := ⟨h.os, h.tape, h.output, h.size, fun k hk => h.block k hk (by simp)⟩
theorem Keep.of_below {B : Nat} {gs : List Nat} {w w' : World} (h : Below B w w') : Keep B gs w w' := ⟨h.os, h.tape, h.output, h.size, fun k hk _ => h.block k hk⟩

def Agr (S : Snap) (w : World) : Prop := (∀ b o v, S b o = some v → w.cell? ⟨b, o, none⟩ = some v) ∧ ∀ b o v o' v', S b o = some v → w.cell? ⟨b, o', none⟩ = some v' → S b o' = some v'
theorem Agr.lt {S : Snap} {w : World} (h : Agr S w) {b o : Nat} {v : Value} (k : S b o = some v) : b < w.heap.size := World.block_lt_of_cell? w _ (h.1 b o v k)

structure Cx where
 w0 : World
 S0 : Snap
 n : Nat
 gs : List Nat

def Base0 (v : Value) : Prop := v = .slice none 0 0 ∨ ∃ b n cap, v = .slice (some ⟨b, 0, none⟩) n cap
def Owns (st : AS) (g : Gh) : Bool × Nat → Nat → Prop
 | (true, b), h => st.bx b ≠ none ∧ g.ι b = some h
 | (false, k), h => (∃ r, st.gr k = some r ∧ r.live = true) ∧ ∃ v, g.τ k = some v ∧ v.ownBlock = some h

structure Rel (c : Cx) (fr : Nat → Prop) (g : Gh) (st : AS) (a : Act) (w : World) : Prop where
 size : a.tmps.size = c.n
 defers : a.defers = []
 keep : Keep c.w0.heap.size c.gs c.w0 w
 sle : SLe c.S0 g.S
 old : ∀ b o, b < c.w0.heap.size → g.S b o = c.S0 b o
 agr : Agr g.S w
 tmp : ∀ i, Rep g (st.t i) (a.tmps.getD i undef)
 box : ∀ b cs, st.bx b = some cs → ∃ h vs T, g.ι b = some h ∧ (c.w0.heap.size ≤ h ∨ h ∈ c.gs) ∧ w.heap[h]? = some (.cells vs T (0, 0)) ∧ All2 (Cel g) cs vs.toList ∧ ∀ o, g.S h o = none
 row : ∀ k r, st.gr k = some r → ∃ v, g.τ k = some v ∧ ((∀ c ∈ r.xs, c.length = r.sz) ∧ Base0 v) ∧
  (r.live = true → ∃ vs, w.ownsRow c.w0.heap.size r.e r.sz v r.xs.length vs ∧ All2 (Pur g.S) r.xs.flatten vs ∧ ∀ h, v.ownBlock = some h → ∀ o, g.S h o = none) ∧ (r.live = false → Pur g.S (.row r.xs) v)
 inj : ∀ x y h, Owns st g x h → Owns st g y h → x = y
 free : ∀ i, fr i → g.ι i = none ∧ g.τ i = none

def ofV : Value → AV
 | .agg cs => .agg (cs.toList.map .s)
 | .tuple vs => .tup (vs.toList.map .s)
 | v => .s v
def cOk : Value → Bool
 | .agg cs => cs.toList.all Value.oneCell'
 | .tuple vs => vs.toList.all Value.oneCell'
 | _ => true
theorem all2_s {g : Gh} : ∀ (l : List Value), l.all Value.oneCell' = true → All2 (Cel g) (l.map .s) l
 | [], _ => .nil
 | v :: l, h => by
  simp only [List.all_cons, Bool.and_eq_true] at h
  exact .cons (.pur (.s h.1)) (all2_s l h.2)
theorem rep_ofV {g : Gh} (v : Value) (h : cOk v = true) : Rep g (ofV v) v := by
 cases v <;> first
 |exact .com (.cel (.pur (.s rfl)))
  | (exact .com (.agg (all2_s _ h)))
  | (exact .tup ((all2_s _ h).imp fun _ _ c => .cel c))
def AS.ev (st : AS) : Operand → AV
 | .tmp t => st.t t
 | .const v => ofV v
 | .global g => .s (.pointer (some ⟨g, 0, none⟩))
 | .func f => .s (.func (.func f) #[] #[])
def oOk : Operand → Bool
 | .const v => cOk v
 | _ => true
theorem Rel.ev {c : Cx} {fr : Nat → Prop} {g : Gh} {st : AS} {a : Act} {w : World} (R : Rel c fr g st a w) (x : Operand) (h : oOk x = true) : Rep g (st.ev x) (a.eval x) := by
 cases x with
 | tmp t => exact R.tmp t
 | const v => exact rep_ofV v h
 | global b => exact .com (.cel (.pur (.s rfl)))
 | func f => exact .com (.cel (.pur (.s rfl)))

def pureRun {α : Type} (P : Program) : Sem α → Option α
 | .pure a => some a
 | .program k => pureRun P (k P)
 | .mark _ k => pureRun P k
 | _ => none
theorem pureRun_run {α : Type} {P : Program} {s : Sem α} {v : α} (h : pureRun P s = some v) (w : World) : s.run P w = .ok v w := by
 induction s with
 | pure a => simp only [pureRun, Option.some.injEq] at h; subst h; rfl
 | program k ih => exact ih _ (by simpa [pureRun] using h)
 | mark m k ih => exact ih (by simpa [pureRun] using h)
 | _ => simp [pureRun] at h

def cs1 : List AV → Option (List Value)
 | [] => some []
 | .s x :: r => (cs1 r).map (x :: ·)
 | _ => none
theorem cs1_rep {g : Gh} : ∀ {cs : List AV} {vs : List Value} {l : List Value}, All2 (Cel g) cs vs → cs1 cs = some l → l = vs
 | [], _, l, .nil, h => by simpa [cs1] using h.symm
 | a :: cs, _, l, .cons x r, h => by
  cases a <;> simp only [cs1, Option.map_eq_some_iff, reduceCtorEq] at h
  obtain ⟨l', h', rfl⟩ := h
  rw [cs1_rep r h']
  cases x with
  | pur p => cases p; rfl
def sc : AV → Option Value
 | .s x => some x
 | .agg cs => (cs1 cs).map fun l => .agg l.toArray
 | _ => none
theorem sc_rep {g : Gh} {a : AV} {v u : Value} (h : Rep g a v) (k : sc a = some u) : v = u := by
 cases a <;> simp only [sc, Option.map_eq_some_iff, Option.some.injEq, reduceCtorEq] at k
 ·subst k
  cases h with
  | com c => cases c with
   | cel c => cases c with
    | pur p => cases p; rfl
 ·obtain ⟨l, hl, rfl⟩ := k
  cases h with
  | com c => cases c with
   | cel c => cases c with
    | pur p => cases p
   | agg cs => rw [cs1_rep cs hl]
end Go.Proofs.YthdkjfhpbigdpaaDoor.Ev

namespace Go.Proofs.YthdkjfhpbigdpaaDoor.Ev
open Go Go.RowKit

inductive Sc where
 | bin (op : BinOp) (t : TypeId)
 | un (op : UnOp)
 | cv (s d : TypeId)
 | ix (t : TypeId)
 | sl (t : TypeId) (lo hi : Bool)
 | mi (t : TypeId)
 | bi (b : Builtin) (ts : List TypeId) (t : TypeId)

inductive AOp where
 | mv (x : Operand)
 | pick (c a b : Operand)
 | sc (k : Sc) (xs : List Operand)
 | bld (z : List Value) (ps : List (Nat × Nat × Operand))
 | nc (x : Operand)
 | fa (off : Nat) (x : Operand)
 | fd (ag : Bool) (off n : Nat) (x : Operand)
 | ia (sz : Nat) (x i : Operand)
 | rs (sz : Nat) (x : Operand) (lo hi : Option Operand)
 | ex (x : Operand) (i : Nat)
 | ln (x : Operand)
 | bts (x : Operand)
 | ld (ag : Bool) (n : Nat) (x : Operand)
 | box (x : Operand)
 | alloc (z : List Value)
 | st (n : Nat) (p x : Operand)
 | bs (e sz : Nat) (ps : List Operand)
 | ap (e sz bytes : Nat) (x y : Operand)
 | call (f : FuncId) (xs : List Operand)
 | pan (x : Operand)

def Sc.sem (P : Program) : Sc → List Operand → List Value → Sem Value
 | .bin op t, [x, y], [u, v] => do eqGuard op t x y u v; binOp op t u v
 | .un op, _, [u] => Op.unary op u
 | .cv s d, _, [u] => convert s d u
 | .ix t, _, [u, i] => Instr.index t u i
 | .sl t true true, _, [u, l, h] => Instr.sliceAt t u (some l) (some h) none
 | .sl t true false, _, [u, l] => Instr.sliceAt t u (some l) none none
 | .sl t false true, _, [u, h] => Instr.sliceAt t u none (some h) none
 | .sl t false false, _, [u] => Instr.sliceAt t u none none none
 | .mi t, _, [u] => Instr.makeInterface t u
 | .bi .len ts t, _, us => Builtin.len_ ts.toArray t us.toArray
 | .bi .min ts t, _, us => Builtin.min_ ts.toArray t us.toArray
 | .bi .max ts t, _, us => Builtin.max_ ts.toArray t us.toArray
 | _, _, _ => stuck ""
def scv (P : Program) (k : Sc) (xs : List Operand) (vs : List Value) : Option AV :=
 match pureRun P (k.sem P xs vs) with
 | some r => if r.oneCell' then some (.s r) else none
 | none => none
def scs : List AV → Option (List Value)
 | [] => some []
 | a :: r => match sc a, scs r with | some x, some l => some (x :: l) | _, _ => none

def cellsA : AV → Option (List AV)
 | .agg cs => some cs
 | .tup _ => none
 | .any => none
 | v => some [v]
def put1 (cs : List AV) (off : Nat) (new : List AV) : List AV := cs.take off ++ new ++ cs.drop (off + new.length)
def fillA : List AV → List (Nat × Nat × AV) → Option (List AV)
 | cs, [] => some cs
 | cs, (off, sz, v) :: r =>
  match cellsA v with
  | some new => if new.length = sz ∧ off + sz ≤ cs.length then fillA (put1 cs off new) r else none
  | none => none
def cut (ag : Bool) (off n : Nat) (cs : List AV) : Option AV :=
 if ag then (if off + n ≤ cs.length then some (.agg ((cs.drop off).take n)) else none) else cs[off]?
abbrev Gr := Nat → Option GR
def rowOf (gr : Gr) : AV → Option (List (List AV))
 | .row xs => some xs
 | .ref k => match gr k with | some r => some r.xs | none => none
 | .s (.slice none 0 0) => some []
 | _ => none
def roOf : AV → Option (List (List AV))
 | .row xs => some xs
 | .s (.slice none 0 0) => some []
 | _ => none
def idxOf : AV → Option Nat
 | .s (.int _ n) => if 0 ≤ n then some n.toNat else none
 | _ => none
def byteList : List (List AV) → Option (List UInt8)
 | [] => some []
 | [.s (.int .u8 n)] :: r => (byteList r).map (UInt8.ofNat n.toNat :: ·)
 | _ => none
def pv (P : Program) (ev : Operand → AV) (bx : Nat → Option (List AV)) (gr : Gr) : AOp → Option AV
 | .mv x => some (ev x)
 | .pick c a b => match ev c with | .s (.bool t) => some (if t then ev a else ev b) | _ => none
 | .sc k xs => match scs (xs.map ev) with | some vs => scv P k xs vs | none => none
 | .bld z ps => (fillA (z.map .s) (ps.map fun p => (p.1, p.2.1, ev p.2.2))).map .agg
 | .nc x => match ev x with | .ptr b o => some (.ptr b o) | .elt cs o => some (.elt cs o) | .rptr k sz i o => some (.rptr k sz i o) | _ => none
 | .fa off x => match ev x with | .ptr b o => some (.ptr b (o + off)) | .elt cs o => some (.elt cs (o + off)) | .rptr k sz i o => some (.rptr k sz i (o + off)) | _ => none
 | .fd ag off n x => match ev x with | .agg cs => cut ag off n cs | _ => none
 | .ia sz x i => match ev x with
  | .ref k => match gr k, idxOf (ev i) with
   | some r, some j => if j < r.xs.length ∧ r.sz = sz then some (.rptr k sz j 0) else none
   | _, _ => none
  | .row xs => match idxOf (ev i) with
   | some j => match xs[j]? with | some c => if c.length = sz then some (.elt c 0) else none | none => none
   | none => none
  | _ => none
 | .rs sz x lo hi => match roOf (ev x) with
  | some xs => match (match lo with | some l => idxOf (ev l) | none => some 0), (match hi with | some h => idxOf (ev h) | none => some xs.length) with
   | some l, some h => if l ≤ h ∧ h ≤ xs.length ∧ (xs.all fun c => c.length == sz) then some (.row ((xs.take h).drop l)) else none
   | _, _ => none
  | none => none
 | .ex x i => match ev x with | .tup vs => vs[i]? | _ => none
 | .ln x => match rowOf gr (ev x) with | some xs => some (.s (.int .i64 xs.length)) | none => none
 | .bts x => match rowOf gr (ev x) with | some xs => (byteList xs).map fun l => .s (.string ⟨l.toArray⟩) | none => none
 | .ld ag n x => match ev x with
  | .ptr b o => match bx b with | some cs => cut ag o n cs | none => none
  | .elt cs o => cut ag o n cs
  | .rptr k sz i o => match gr k with
   | some r => match r.xs[i]? with | some cs => if r.sz = sz then cut ag o n cs else none | none => none
   | none => none
  | _ => none
 | _ => none

def upd {α : Type} (f : Nat → Option α) (i : Nat) (v : Option α) : Nat → Option α := fun j => if j = i then v else f j
def AS.put (st : AS) (d : Option Nat) (v : AV) : AS := match d with | some d => { st with t := fun i => if i = d then v else st.t i } | none => st

def pcell (gr : Gr) : AV → AV
 | .s (.slice none 0 0) => .row []
 | .s x => .s x
 | .row xs => .row xs
 | .ref k => match gr k with | some r => .row r.xs | none => .any
 | _ => .any
def strip (gr : Gr) : AV → AV
 | .agg cs => .agg (cs.map (pcell gr))
 | .tup _ => .any
 | a => pcell gr a
def refC : AV → List Nat
 | .ref k => [k]
 | _ => []
def refs : AV → List Nat
 | .agg cs => cs.flatMap refC
 | a => refC a
def GR.shut (r : GR) : GR := { r with live := false }
def shut (gr : Gr) (ks : List Nat) : Gr := fun k => if k ∈ ks then (gr k).map GR.shut else gr k
def here (gr : Gr) (ks : List Nat) : Bool := ks.all fun k => (gr k).isSome
def elemsOf (gr : Gr) (sz : Nat) : List AV → Option (List (List AV))
 | [] => some []
 | v :: r => match cellsA (strip gr v), elemsOf gr sz r with
  | some c, some l => if c.length = sz then some (c :: l) else none
  | _, _ => none
inductive AOut where
 | ret (v : AV)
 | pan (v : AV)
def AOut.on (K X : AV → Prop) : AOut → Prop
 | .ret v => K v
 | .pan v => X v
abbrev Env := FuncId → List AV → AOut → Prop
def growOf (e sz : Nat) (gr : Gr) : AV → Option (Option Nat × List (List AV))
 | .s (.slice none 0 0) => some (none, [])
 | .ref k => match gr k with | some r => if r.e = e ∧ r.sz = sz ∧ r.live = true then some (some k, r.xs) else none | none => none
 | _ => none
def killT (gr : Gr) : Option Nat → Gr
 | some k => upd gr k none
 | none => gr
def Room (n bytes : Nat) : Prop := n ≤ 4611686018427387904 ∧ n * bytes ≤ 140737488355328

def stp (P : Program) (E : Env) (id : Nat) (st : AS) (d : Option Nat) (K : AS → Prop) (X : AV → Prop) : AOp → Prop
 | .box x => ∃ cs, cellsA (st.ev x) = some cs ∧ K ({ st with bx := upd st.bx id (some cs) }.put d (.ptr id 0))
 | .alloc z => K ({ st with bx := upd st.bx id (some (z.map .s)) }.put d (.ptr id 0))
 | .st n p x => match st.ev p with
  | .ptr b o => ∃ cs new, st.bx b = some cs ∧ cellsA (st.ev x) = some new ∧ new.length = n ∧ o + n ≤ cs.length ∧ K ({ st with bx := upd st.bx b (some (put1 cs o new)) }.put d (.tup []))
  | .rptr k sz i o => ∃ r cs new, st.gr k = some r ∧ r.live = true ∧ r.sz = sz ∧ r.xs[i]? = some cs ∧ cellsA (strip st.gr (st.ev x)) = some new ∧ refs (st.ev x) = [] ∧ new.length = n ∧ o + n ≤ cs.length ∧
    K ({ st with gr := upd st.gr k (some { r with xs := r.xs.set i (put1 cs o new) }) }.put d (.tup []))
  | _ => False
 | .bs e sz ps => ∃ xs, elemsOf st.gr sz (ps.map st.ev) = some xs ∧ here st.gr ((ps.map st.ev).flatMap refs) = true ∧ K ({ st with gr := upd (shut st.gr ((ps.map st.ev).flatMap refs)) id (some ⟨e, sz, xs, true⟩) }.put d (.ref id))
 | .ap e sz bytes x y => ∃ k xs ys, growOf e sz st.gr (st.ev x) = some (k, xs) ∧ rowOf st.gr (st.ev y) = some ys ∧ (ys.all fun c => c.length == sz) = true ∧ Room (xs.length + ys.length) bytes ∧
   K ({ st with gr := upd (killT st.gr k) id (some ⟨e, sz, xs ++ ys, true⟩) }.put d (.ref id))
 | .call f xs => ∃ out, E f (xs.map fun x => strip st.gr (st.ev x)) out ∧ here st.gr ((xs.map st.ev).flatMap refs) = true ∧ out.on (fun v => K ({ st with gr := shut st.gr ((xs.map st.ev).flatMap refs) }.put d v)) X
 | .pan x => ∃ t v, st.ev x = .s (.iface t v) ∧ X (.s (.iface t v))
 | o => ∃ v, pv P st.ev st.bx st.gr o = some v ∧ K (st.put d v)

def want (st : AS) : Option (Nat × Bool) → Option Bool
 | none => some true
 | some (t, b) => match st.t t with | .s (.bool c) => some (c == b) | .s _ => some false | .tup _ => some false | _ => none
structure AOper where
 d : Option Nat
 g : Option (Nat × Bool)
 op : AOp
def stpG (P : Program) (E : Env) (id : Nat) (st : AS) (K : AS → Prop) (X : AV → Prop) (o : AOper) : Prop :=
 ∃ b, want st o.g = some b ∧ (if b then stp P E id st o.d K X o.op else K (st.put o.d (.tup [])))

inductive ACode where
 | skip
 | reg (ops : List (AOper × Bool))
 | seq (a b : ACode)
 | cond (c : Operand) (x y : ACode)
 | block (id : Nat) (c : ACode)
 | loop (c : ACode)
 | exit (id : Nat)
 | ret
inductive AEx where
 | normal
 | exit (id : Nat)
 | ret
 | pan (v : AV)
def runOps (P : Program) (E : Env) (K : AS → Prop) (X : AV → Prop) : Nat → List (AOper × Bool) → AS → Prop
 | _, [], st => K st
 | id, (o, z) :: l, st => stpG P E id st (runOps P E K X (id + 1) l) (fun v => z = true ∧ X v) o
end Go.Proofs.YthdkjfhpbigdpaaDoor.Ev

namespace Go.Proofs.YthdkjfhpbigdpaaDoor.Ev
open Go Go.RowKit

def aggOf (P : Program) (t : TypeId) : Option Bool :=
  match P.underlying t with
  | some (.struct _) | some (.array _ _) => some true
  | some _ => some false
  | none => none
def szOf (P : Program) (t : TypeId) : Option Nat := (P.info? t).map (·.size)
theorem run_isAgg {P : Program} {t : TypeId} {b : Bool} (h : aggOf P t = some b) (w : World) : (isAgg t).run P w = .ok b w := by
  unfold aggOf at h
  cases hu : P.underlying t with
  | none => simp [hu] at h
  | some d =>
    have hr := run_underlying hu w
    cases d <;> simp [hu] at h <;> subst h <;> simp [isAgg, hr]
theorem run_sizeOf {P : Program} {t : TypeId} {n : Nat} (h : szOf P t = some n) (w : World) : (sizeOf t).run P w = .ok n w := by
  unfold szOf at h
  cases hi : P.info? t with
  | none => simp [hi] at h
  | some i => simp [hi] at h; subst h; simp [sizeOf, typeInfo, hi]
def zeroOf (P : Program) (t : TypeId) : Option (List Value) :=
  match P.info? t with
  | some i => match i.zero with | some v => if v.cells.toList.all Value.oneCell' then some v.cells.toList else none | none => none
  | none => none
theorem run_zero {P : Program} {t : TypeId} {z : List Value} (h : zeroOf P t = some z) (w : World) : ∃ v : Value, (zeroValue t).run P w = .ok v w ∧ v.cells.toList = z ∧ z.all Value.oneCell' = true := by
  unfold zeroOf at h
  cases hi : P.info? t with
  | none => simp [hi] at h
  | some i =>
    simp only [hi] at h
    cases hz : i.zero with
    | none => simp [hz] at h
    | some v =>
      simp only [hz] at h
      split at h
      · rename_i hall
        cases h
        exact ⟨v, by simp [zeroValue, typeInfo, hi, hz], rfl, hall⟩
      · cases h
def fieldOf (P : Program) (t : TypeId) (f : Nat) : Option (Bool × Nat × Nat) :=
  match P.underlying t with
  | some (.struct fs) => match fs[f]? with
    | some fd => match aggOf P fd.type, szOf P fd.type with | some ag, some n => some (ag, fd.offset, n) | _, _ => none
    | none => none
  | _ => none
def elemOf' (P : Program) (t : TypeId) : Option TypeId := match P.underlying t with | some (.slice e) => some e | _ => none
def isStr (P : Program) (t : TypeId) : Bool := match P.underlying t with | some .string => true | _ => false
def isPtr (P : Program) (t : TypeId) : Bool := match P.underlying t with | some (.pointer _) => true | _ => false
def isByteRow (P : Program) (t : TypeId) : Bool := match P.underlying t with
  | some (.slice e) => match P.underlying e with | some (.int .u8) => true | _ => false
  | _ => false
def oAll (l : List Operand) : Bool := l.all oOk
def bldParts (P : Program) (t : TypeId) : List (Nat × Operand) → Option (List (Nat × Nat × Operand))
  | [] => some []
  | (i, x) :: r => match fieldOf P t i, bldParts P t r with
    | some (_, off, n), some l => some ((off, n, x) :: l)
    | _, _ => none
def rowParts : Nat → List (Nat × Operand) → Option (List Operand)
  | _, [] => some []
  | k, (i, x) :: r => if i = k then (rowParts (k + 1) r).map (x :: ·) else none
def fieldsOk (P : Program) (t : TypeId) : Bool := match P.underlying t with
  | some (.struct fs) => fs.toList.all fun f => (szOf P f.type).isSome
  | _ => false

def cop (P : Program) (o : Oper) : Option AOp :=
  match o.op with
  | .move x | .assign x => if oOk x then some (.mv x) else none
  | .pick c a b => if oAll [c, a, b] then some (.pick c a b) else none
  | .alloc t => (zeroOf P t).map .alloc
  | .box _ x => if oOk x then some (.box x) else none
  | .build t ps => match zeroOf P t, bldParts P t ps.toList with
    | some z, some l => if oAll (ps.toList.map (·.2)) && fieldsOk P t then some (.bld z l) else none
    | _, _ => none
  | .buildSlice t n ps => match elemOf' P t with
    | some e => match szOf P e, rowParts 0 ps.toList, zeroOf P e with
      | some sz, some l, some z => if oAll l && l.length == n && z.length == sz && decide (0 < sz) && decide (n * sz ≤ 2 ^ 24) then some (.bs e sz l) else none
      | _, _, _ => none
    | none => none
  | .load t x => match aggOf P t, szOf P t with
    | some ag, some n => if oOk x then some (.ld ag n x) else none
    | _, _ => none
  | .store t p x => match szOf P t with
    | some n => if oAll [p, x] then some (.st n p x) else none
    | none => none
  | .binOp op t x y _ => if oAll [x, y] then some (.sc (.bin op t) [x, y]) else none
  | .unOp op _ x => if oOk x then some (.sc (.un op) [x]) else none
  | .convert s d x => if oOk x then (if isByteRow P s && isStr P d then some (.bts x) else some (.sc (.cv s d) [x])) else none
  | .makeInterface t x => if oOk x then some (.sc (.mi t) [x]) else none
  | .slice t x lo hi none => if oAll ([x] ++ lo.toList ++ hi.toList) then
      (if isStr P t then some (.sc (.sl t lo.isSome hi.isSome) ([x] ++ lo.toList ++ hi.toList))
       else match elemOf' P t with
        | some e => (szOf P e).map fun sz => .rs sz x lo hi
        | none => none) else none
  | .nilCheck x => if oOk x then some (.nc x) else none
  | .fieldAddr t x f => match fieldOf P t f with
    | some (_, off, n) => if oOk x && n != 0 then some (.fa off x) else none
    | none => none
  | .field t x f => match fieldOf P t f with
    | some (ag, off, n) => if oOk x then some (.fd ag off n x) else none
    | none => none
  | .indexAddr t x i => match elemOf' P t with
    | some e => match szOf P e with | some sz => if oAll [x, i] then some (.ia sz x i) else none | none => none
    | none => none
  | .index t x i => if oAll [x, i] && isStr P t then some (.sc (.ix t) [x, i]) else none
  | .extract x i => if oOk x then some (.ex x i) else none
  | .call { callee := .builtin .append, args, argTypes } => match args.toList, argTypes.toList with
    | [x, y], [t, u] => match elemOf' P t with
      | some e => match P.info? e, zeroOf P e with
        | some i, some z => if t == u && oAll [x, y] && z.length == i.size && decide (0 < i.size) then some (.ap e i.size i.bytes x y) else none
        | _, _ => none
      | none => none
    | _, _ => none
  | .call { callee := .builtin .len, args, argTypes } => match args.toList, argTypes.toList with
    | [x], [t] => if oOk x then (if (elemOf' P t).isSome then some (.ln x) else some (.sc (.bi .len [t] o.type) [x])) else none
    | _, _ => none
  | .call { callee := .builtin .min, args, argTypes } => if oAll args.toList then some (.sc (.bi .min argTypes.toList o.type) args.toList) else none
  | .call { callee := .builtin .max, args, argTypes } => if oAll args.toList then some (.sc (.bi .max argTypes.toList o.type) args.toList) else none
  | .call { callee := .value (.func f), args, argTypes } => if oAll args.toList && argTypes.toList.all (fun t => !isPtr P t) && ((P.funcs[f]?).map (fun fn => fn.body.isSome && fn.name != "runtime.NumGoroutine")).getD false then some (.call f args.toList) else none
  | .panic x => if oOk x then some (.pan x) else none
  | _ => none
end Go.Proofs.YthdkjfhpbigdpaaDoor.Ev
