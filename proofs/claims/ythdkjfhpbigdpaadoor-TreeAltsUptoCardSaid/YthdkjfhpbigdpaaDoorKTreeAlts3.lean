-- Written for this claim: several texts in one.
import Derived.Test.YthdkjfhpbigdpaaDoorKTreeAlts0
import Derived.Test.YthdkjfhpbigdpaaDoorYTreeAltsWords
import Derived.Test.YthdkjfhpbigdpaaDoorKTreeAlts2
import Derived.Deep.DeepCutAuto
import Derived.Deep.CutBlock
import Derived.MapKept
import Derived.Deep.RegionWith
import Derived.Lib.AppendIntMem
import Derived.Test.YthdkjfhpbigdpaaDoorKTreeAlts1
import Derived.Test.YthdkjfhpbigdpaaDoorProg
import Derived.Test.YthdkjfhpbigdpaaDoorYTreeAltsMore
import Derived.Shelf.Strings.Fields
set_option linter.unusedSimpArgs false
set_option linter.unusedVariables false
namespace Go.Proofs.YthdkjfhpbigdpaaDoor.Q
open Go.RowKit Go.Proofs.YthdkjfhpbigdpaaDoorW.PrintWords Go.Proofs.YthdkjfhpbigdpaaDoorW.PrintLast Go.Proofs.YthdkjfhpbigdpaaDoorW.PrintMore
attribute [local go_sem] max2_int min2_int max_two min_two max_three min_three max_four min_four
set_option linter.unusedVariables false
set_option linter.unusedSimpArgs false

def gossamerlaw02_same.f  : Option (Int × ByteArray × Int × Int × (List (S24))) := some (3, (⟨#[]⟩ : ByteArray), 0, 0, (([(⟨2, (⟨#[120]⟩ : ByteArray), 0, 1, (([(⟨1, (⟨#[120]⟩ : ByteArray), 0, 3, ([] : List (S24))⟩ : S24)] : List (S24)))⟩ : S24), (⟨9, (⟨#[]⟩ : ByteArray), 7, 6, ([] : List (S24))⟩ : S24)] : List (S24))))
set_option maxHeartbeats 8000000 in
set_option maxRecDepth 100000 in
theorem gossamerlaw02_same.calls  (r1 : Int) (r2 : ByteArray) (r3 : Int) (r4 : Int) (r5 : List (S24)) (w : World) (h : gossamerlaw02_same.f  = some (r1, r2, r3, r4, r5)) :
  Calls Tryd.prog 18 #[] w fun e w' => ∃ v4_ : Value, e = .returned (.agg #[.int .i64 r1, .string r2, .int .i64 r3, .int .i64 r4, v4_]) ∧ Kd.N k24 24 w' w.heap.size (fun k_ => (w.heap.size ≤ k_)) v4_ r5 ∧ Below w.heap.size w w' := by
 have hu24 := Tryd.underlying24
 have HB := Aside0.mk (Below.refl w.heap.size w)
 have H : (some (3, (⟨#[]⟩ : ByteArray), 0, 0, (([(⟨2, (⟨#[120]⟩ : ByteArray), 0, 1, (([(⟨1, (⟨#[120]⟩ : ByteArray), 0, 3, ([] : List (S24))⟩ : S24)] : List (S24)))⟩ : S24), (⟨9, (⟨#[]⟩ : ByteArray), 7, 6, ([] : List (S24))⟩ : S24)] : List (S24))))) = some (r1, r2, r3, r4, r5) := h
 clear h
 obtain ⟨y124, hy124⟩ : ∃ y_ : List (S24), y_ = (([(⟨1, (⟨#[120]⟩ : ByteArray), 0, 3, ([] : List (S24))⟩ : S24)] : List (S24))) := ⟨_, rfl⟩
 replace H : (some (3, (⟨#[]⟩ : ByteArray), 0, 0, (([(⟨2, (⟨#[120]⟩ : ByteArray), 0, 1, y124⟩ : S24), (⟨9, (⟨#[]⟩ : ByteArray), 7, 6, ([] : List (S24))⟩ : S24)] : List (S24))))) = some (r1, r2, r3, r4, r5) := by first | (rw [hy124]; with_reducible exact H) | (have H2_ := (Option.bind_some _ _).symm.trans H; rw [hy124]; with_reducible exact H2_) | (have H2_ := (Option.bind_some _ _).symm.trans H; with_reducible exact H2_) | with_reducible exact H | (rw [hy124]; exact H)|exact H
 have Ny124 := Aside0.mk hy124
 clear hy124
 obtain ⟨y127, hy127⟩ : ∃ y_ : List (S24), y_ = (([(⟨2, (⟨#[120]⟩ : ByteArray), 0, 1, y124⟩ : S24), (⟨9, (⟨#[]⟩ : ByteArray), 7, 6, ([] : List (S24))⟩ : S24)] : List (S24))) := ⟨_, rfl⟩
 replace H : (some (3, (⟨#[]⟩ : ByteArray), 0, 0, y127)) = some (r1, r2, r3, r4, r5) := by first | (rw [hy127]; with_reducible exact H) | (have H2_ := (Option.bind_some _ _).symm.trans H; rw [hy127]; with_reducible exact H2_) | (have H2_ := (Option.bind_some _ _).symm.trans H; with_reducible exact H2_) | with_reducible exact H | (rw [hy127]; exact H)|exact H
 have Ny127 := Aside0.mk hy127
 clear hy127
 simp only [Option.some.injEq, Prod.mk.injEq] at H
 obtain ⟨rfl, rfl, rfl, rfl, rfl⟩ := H
 go_enter Tryd.func18, Tryd.ntmps18
 go_wp2_with (first|((with_reducible refine gate_dst (N := 0) rfl ?_); refine box_event ?hg (N := 0) ?hd (cs := #[.int .i64 0, .string (⟨#[]⟩ : ByteArray), .int .i64 0, .int .i64 0, .slice none 0 0]) (t := 24) ?hr ?_; (case hd => rfl); (case hg => rfl); (case hr => first|(go_simp; done)|(go_simp; rfl)); intro gb123 hg w1 hbox hb; have n0_ := Aside0.mk (below_step (by repeat (first|(with_reducible first|exact HB.out|apply below_alloc|apply pw_below_drewN|apply below_drew1)|exact HB.out)) hb); have n1_ := Aside0.mk (hbox); have n2_ := Aside0.mk ((by rw [hg]; exact (below_size (by repeat (first|(with_reducible first|exact HB.out|apply below_alloc|apply pw_below_drewN|apply below_drew1)|exact HB.out))) : w.heap.size ≤ gb123)); have n3_ := Aside0.mk ((by rw [hg]; exact (below_size (by repeat (first|(with_reducible first|exact HB.out|apply below_alloc|apply pw_below_drewN|apply below_drew1)|exact HB.out))) : w.heap.size ≤ gb123)); clear HB; have HB := n0_; have BK123 := n1_; have GW123 := n2_; have GE123 := n3_; clear n0_ n1_ n2_ n3_; clear hb hbox hg) | ((with_reducible refine gate_dst (N := 2) rfl ?_); refine Kd.N_lit k24 _ 24 ?hg (N' := 2) ?hd (xs := ([(⟨1, (⟨#[120]⟩ : ByteArray), 0, 3, ([] : List (S24))⟩ : S24)] : List (S24))) (inner := [.int .i64 1, .string (⟨#[120]⟩ : ByteArray), .int .i64 0, .int .i64 3, .slice none 0 0]) (ok := (fun k_ => (w.heap.size ≤ k_) ∧ k_ ≠ gb123)) (okp := (fun k_ => (w.heap.size ≤ k_) ∧ k_ ≠ gb123)) ?hr ?hp (fun _ hk => hk) ((show ∀ k_, w1.heap.size ≤ k_ → (fun k_ => (w.heap.size ≤ k_) ∧ k_ ≠ gb123) k_ from fun k_ hk => ⟨(Nat.le_trans (below_size (by repeat (first|(with_reducible first|exact HB.out|apply below_alloc|apply pw_below_drewN|apply below_drew1|refine below_set ?_ GE123.out)|exact HB.out))) hk), Kd.freshB (g := gb123) (o := .cells #[.int .i64 0, .string (⟨#[]⟩ : ByteArray), .int .i64 0, .int .i64 0, .slice none 0 0] 24 (0, 0)) (by (with_reducible repeat (first|refine blk_drewN ?_ _|refine blk_drew ?_|refine blk_alloc ?_ _)); exact BK123.out) k_ hk⟩) _ (Nat.le_refl _)) (Below.refl _ _) (Nat.le_refl _) (by simp) ?_; (case hd => rfl); (case hg => rfl); (case hr => first|(go_simp; done)|(go_simp; rfl)); (case hp => exact (Reps.c5 (show Kd.FK k24 _ _ (⟨1, (⟨#[120]⟩ : ByteArray), 0, 3, ([] : List (S24))⟩ : S24) [.int .i64 1, .string (⟨#[120]⟩ : ByteArray), .int .i64 0, .int .i64 3, .slice none 0 0] from (k24_mkF _ _ (⟨1, (⟨#[120]⟩ : ByteArray), 0, 3, ([] : List (S24))⟩ : S24) (Nat.le_refl _) (Kd.F_nil _ _ _))) (Reps.none _ _))); intro v125 w2 ho3 hb hg_ hnew_; clear hg_ hnew_; (first|rw [← Ny124.out] at ho3|(simp only [Int.reduceToNat] at ho3; rw [← Ny124.out] at ho3)); have n0_ := Aside0.mk (Kd.N_lower ho3 (below_size (by repeat (first|(with_reducible first|exact HB.out|apply below_alloc|apply pw_below_drewN|apply below_drew1|refine below_set ?_ GE123.out)|exact HB.out)))); have n1_ := Aside0.mk (blk_below (g := gb123) (o := .cells #[.int .i64 0, .string (⟨#[]⟩ : ByteArray), .int .i64 0, .int .i64 0, .slice none 0 0] 24 (0, 0)) (by (with_reducible repeat (first|refine blk_drewN ?_ _|refine blk_drew ?_|refine blk_alloc ?_ _)); exact BK123.out) hb); have n2_ := Aside0.mk (below_step (by repeat (first|(with_reducible first|exact HB.out|apply below_alloc|apply pw_below_drewN|apply below_drew1|refine below_set ?_ GE123.out)|exact HB.out)) hb); clear BK123; clear HB; have HO126 := n0_; have BK123 := n1_; have HB := n2_; clear n0_ n1_ n2_; clear hb ho3; obtain ⟨Ao4, co4, eo4⟩ := Kd.N_slice HO126.out; subst eo4) | ((with_reducible refine gate_dst (N := 5) rfl ?_); refine Kd.N_lit k24 _ 24 ?hg (N' := 5) ?hd (xs := ([(⟨2, (⟨#[120]⟩ : ByteArray), 0, 1, y124⟩ : S24), (⟨9, (⟨#[]⟩ : ByteArray), 7, 6, ([] : List (S24))⟩ : S24)] : List (S24))) (inner := [.int .i64 2, .string (⟨#[120]⟩ : ByteArray), .int .i64 0, .int .i64 1, .slice Ao4 y124.length co4, .int .i64 9, .string (⟨#[]⟩ : ByteArray), .int .i64 7, .int .i64 6, .slice none 0 0]) (ok := (fun k_ => (w.heap.size ≤ k_) ∧ k_ ≠ gb123)) (okp := (fun k_ => (w.heap.size ≤ k_) ∧ k_ ≠ gb123)) ?hr ?hp (fun _ hk => hk) ((show ∀ k_, w2.heap.size ≤ k_ → (fun k_ => (w.heap.size ≤ k_) ∧ k_ ≠ gb123) k_ from fun k_ hk => ⟨(Nat.le_trans (below_size (by repeat (first|(with_reducible first|exact HB.out|apply below_alloc|apply pw_below_drewN|apply below_drew1|refine below_set ?_ GE123.out)|exact HB.out))) hk), Kd.freshB (g := gb123) (o := .cells #[.int .i64 0, .string (⟨#[]⟩ : ByteArray), .int .i64 0, .int .i64 0, .slice none 0 0] 24 (0, 0)) (by (with_reducible repeat (first|refine blk_drewN ?_ _|refine blk_drew ?_|refine blk_alloc ?_ _)); exact BK123.out) k_ hk⟩) _ (Nat.le_refl _)) (Below.refl _ _) (Nat.le_refl _) (by simp) ?_; (case hd => rfl); (case hg => rfl); (case hr => first|(go_simp; done)|(go_simp; rfl)); (case hp => exact (Reps.c5 (show Kd.FK k24 _ _ (⟨2, (⟨#[120]⟩ : ByteArray), 0, 1, y124⟩ : S24) [.int .i64 2, .string (⟨#[120]⟩ : ByteArray), .int .i64 0, .int .i64 1, .slice Ao4 y124.length co4] from (k24_mkF _ _ (⟨2, (⟨#[120]⟩ : ByteArray), 0, 1, y124⟩ : S24) (Kd.N_reads' (Kd.N_mono (ok' := (fun k_ => (w.heap.size ≤ k_) ∧ k_ ≠ gb123)) (HO126.out) (fun k_ hk => ⟨hk.1, hk.2⟩))).2.1 (Kd.N_F (Kd.N_mono (ok' := (fun k_ => (w.heap.size ≤ k_) ∧ k_ ≠ gb123)) (HO126.out) (fun k_ hk => ⟨hk.1, hk.2⟩))))) (Reps.c5 (show Kd.FK k24 _ _ (⟨9, (⟨#[]⟩ : ByteArray), 7, 6, ([] : List (S24))⟩ : S24) [.int .i64 9, .string (⟨#[]⟩ : ByteArray), .int .i64 7, .int .i64 6, .slice none 0 0] from (k24_mkF _ _ (⟨9, (⟨#[]⟩ : ByteArray), 7, 6, ([] : List (S24))⟩ : S24) (Nat.le_refl _) (Kd.F_nil _ _ _))) (Reps.none _ _)))); intro v128 w5 ho6 hb hg_ hnew_; clear hg_ hnew_; (first|rw [← Ny127.out] at ho6|(simp only [Int.reduceToNat] at ho6; rw [← Ny127.out] at ho6)); have n0_ := Aside0.mk (Kd.N_lower ho6 (below_size (by repeat (first|(with_reducible first|exact HB.out|apply below_alloc|apply pw_below_drewN|apply below_drew1|refine below_set ?_ GE123.out)|exact HB.out)))); have n1_ := Aside0.mk (blk_below (g := gb123) (o := .cells #[.int .i64 0, .string (⟨#[]⟩ : ByteArray), .int .i64 0, .int .i64 0, .slice none 0 0] 24 (0, 0)) (by (with_reducible repeat (first|refine blk_drewN ?_ _|refine blk_drew ?_|refine blk_alloc ?_ _)); exact BK123.out) hb); have n2_ := Aside0.mk (below_step (by repeat (first|(with_reducible first|exact HB.out|apply below_alloc|apply pw_below_drewN|apply below_drew1|refine below_set ?_ GE123.out)|exact HB.out)) hb); clear BK123; clear HB; clear HO126; have HO129 := n0_; have BK123 := n1_; have HB := n2_; clear n0_ n1_ n2_; clear hb ho6; obtain ⟨Ao7, co7, eo7⟩ := Kd.N_slice HO129.out; subst eo7; have hcz8_0 : w5.cell? ⟨gb123, 0, none⟩ = some (.int .i64 0) := (blk_cell BK123.out 0).trans rfl; have hcz8_1 : w5.cell? ⟨gb123, 1, none⟩ = some (.string (⟨#[]⟩ : ByteArray)) := (blk_cell BK123.out 1).trans rfl; have hcz8_2 : w5.cell? ⟨gb123, 2, none⟩ = some (.int .i64 0) := (blk_cell BK123.out 2).trans rfl; have hcz8_3 : w5.cell? ⟨gb123, 3, none⟩ = some (.int .i64 0) := (blk_cell BK123.out 3).trans rfl; have hcz8_4 : w5.cell? ⟨gb123, 4, none⟩ = some (.slice none 0 0) := (blk_cell BK123.out 4).trans rfl; have hfz8_0 := blk_frozen BK123.out 0; have hfz8_1 := blk_frozen BK123.out 1; have hfz8_2 := blk_frozen BK123.out 2; have hfz8_3 := blk_frozen BK123.out 3; have hfz8_4 := blk_frozen BK123.out 4))
 refine bodyPost_ret (results_cell_row rfl _ _ gb123 24 #[.int .i64 3, .string (⟨#[]⟩ : ByteArray), .int .i64 0, .int .i64 0, .slice Ao7 y127.length co7] (0, 0) _ rfl (by (with_reducible repeat (first|refine blk_drewN ?_ _|refine blk_drew ?_|refine blk_alloc ?_ _)); refine blk_put (cs := #[.int .i64 3, .string (⟨#[]⟩ : ByteArray), .int .i64 0, .int .i64 0, .slice none 0 0]) ?_ 4 _ rfl; (with_reducible repeat (first|refine blk_drewN ?_ _|refine blk_drew ?_|refine blk_alloc ?_ _)); refine blk_put (cs := #[.int .i64 3, .string (⟨#[]⟩ : ByteArray), .int .i64 0, .int .i64 0, .slice none 0 0]) ?_ 3 _ rfl; (with_reducible repeat (first|refine blk_drewN ?_ _|refine blk_drew ?_|refine blk_alloc ?_ _)); refine blk_put (cs := #[.int .i64 3, .string (⟨#[]⟩ : ByteArray), .int .i64 0, .int .i64 0, .slice none 0 0]) ?_ 2 _ rfl; (with_reducible repeat (first|refine blk_drewN ?_ _|refine blk_drew ?_|refine blk_alloc ?_ _)); refine blk_put (cs := #[.int .i64 3, .string (⟨#[]⟩ : ByteArray), .int .i64 0, .int .i64 0, .slice none 0 0]) ?_ 1 _ rfl; (with_reducible repeat (first|refine blk_drewN ?_ _|refine blk_drew ?_|refine blk_alloc ?_ _)); refine blk_put (cs := #[.int .i64 0, .string (⟨#[]⟩ : ByteArray), .int .i64 0, .int .i64 0, .slice none 0 0]) ?_ 0 _ rfl; (with_reducible repeat (first|refine blk_drewN ?_ _|refine blk_drew ?_|refine blk_alloc ?_ _)); exact BK123.out) Tryd.underlying24 rfl (by kernel_rfl)) rfl ?_
 exact ⟨_, by first|rfl|(simp [errW_none, errW_some] <;> rfl)|(simp [*, errW_none, errW_some] <;> rfl), by (with_reducible repeat (first|apply Kd.N_alloc|apply Kd.N_drewN|apply Kd.N_drew)); exact Kd.N_mono (Kd.N_far (p := ⟨gb123, 4, none⟩) (Kd.N_far (p := ⟨gb123, 3, none⟩) (Kd.N_far (p := ⟨gb123, 2, none⟩) (Kd.N_far (p := ⟨gb123, 1, none⟩) (Kd.N_far (p := ⟨gb123, 0, none⟩) (Kd.N_mono HO129.out (fun k_ hk => (⟨hk, hk.2⟩ : _ ∧ k_ ≠ gb123))) (fun _ hk => hk.2) (.int .i64 3)) (fun _ hk => hk.2) (.string (⟨#[]⟩ : ByteArray))) (fun _ hk => hk.2) (.int .i64 0)) (fun _ hk => hk.2) (.int .i64 0)) (fun _ hk => hk.2) (.slice Ao7 y127.length co7)) (fun _ hk => hk.1.1), by repeat (first|(with_reducible first|exact HB.out|apply below_alloc|apply pw_below_drewN|apply below_drew1|refine below_set ?_ GE123.out)|exact HB.out)⟩

end Go.Proofs.YthdkjfhpbigdpaaDoor.Q

namespace Go.Proofs.YthdkjfhpbigdpaaDoor.Q
open Go.RowKit Go.Proofs.YthdkjfhpbigdpaaDoorW.PrintWords Go.Proofs.YthdkjfhpbigdpaaDoorW.PrintLast Go.Proofs.YthdkjfhpbigdpaaDoorW.PrintMore
attribute [local go_sem] max2_int min2_int max_two min_two max_three min_three max_four min_four
set_option linter.unusedVariables false
set_option linter.unusedSimpArgs false

mutual
def tree_Bare.l0 : Nat → List (S24) → List (S24) → Int → Int → Int → ByteArray → Int → Int → List (S24) → Option (Int × ByteArray × Int × Int × (List (S24)))
 | 0, _, _, _, _, _, _, _, _, _ => none
 | k + 1, x3, x7, x8, x9, x102000, x102001, x102002, x102003, x102004 => if x9 < x8 then (if 0 ≤ x9 then (if x9 < (x7.length : Int) then ((tree_Bare.f k ((rd_T24 x7 x9).f0) ((rd_T24 x7 x9).f1) ((rd_T24 x7 x9).f2) ((rd_T24 x7 x9).f3) ((rd_T24 x7 x9).f4)).bind fun bt105 => (if x3.length < 2199023255552 then (tree_Bare.l0 k (x3 ++ [(⟨bt105.1, bt105.2.1, bt105.2.2.1, bt105.2.2.2.1, bt105.2.2.2.2⟩ : S24)]) x7 x8 (wrap64 (x9 + 1)) x102000 x102001 x102002 x102003 x102004) else (none))) else (none)) else (none)) else (some (x102000, x102001, x102002, 0, x3))
def tree_Bare.f : Nat → Int → ByteArray → Int → Int → List (S24) → Option (Int × ByteArray × Int × Int × (List (S24)))
 | 0, _, _, _, _, _ => none
 | k + 1, a0_0, a0_1, a0_2, a0_3, l0_4 => tree_Bare.l0 k ([] : List (S24)) l0_4 (l0_4.length : Int) 0 a0_0 a0_1 a0_2 a0_3 l0_4
end
theorem tree_Bare.mono_l : ∀ k, (∀ y0 y1 y2 y3 y4, LeO (tree_Bare.f k y0 y1 y2 y3 y4) (tree_Bare.f (k + 1) y0 y1 y2 y3 y4)) ∧ (∀ y0 y1 y2 y3 y4 y5 y6 y7 y8, LeO (tree_Bare.l0 k y0 y1 y2 y3 y4 y5 y6 y7 y8) (tree_Bare.l0 (k + 1) y0 y1 y2 y3 y4 y5 y6 y7 y8))
 | 0 => ⟨fun _ _ _ _ _ r h => by simp [tree_Bare.f] at h, fun _ _ _ _ _ _ _ _ _ r h => by simp [tree_Bare.l0] at h⟩
 | k + 1 => by
  obtain ⟨ih0, ih1⟩ := tree_Bare.mono_l k
  refine ⟨?_, ?_⟩
  ·intro y0 y1 y2 y3 y4
   unfold tree_Bare.f
   repeat' first
  |(with_reducible exact ih0 _ _ _ _ _)
  |(with_reducible exact ih1 _ _ _ _ _ _ _ _ _)
  |(with_reducible exact LeO.refl _)
  |(with_reducible exact LeO.none _)
  |(with_reducible refine LeO.ite ?_ ?_)
  |(with_reducible refine LeO.bind ?_ (fun _ => ?_))
  |exact ih0 _ _ _ _ _
  |exact ih1 _ _ _ _ _ _ _ _ _
  |exact LeO.none _
  |refine LeO.ite ?_ ?_
  |refine LeO.bind ?_ (fun _ => ?_)
  ·intro y0 y1 y2 y3 y4 y5 y6 y7 y8
   unfold tree_Bare.l0
   repeat' first
  |(with_reducible exact ih0 _ _ _ _ _)
  |(with_reducible exact ih1 _ _ _ _ _ _ _ _ _)
  |(with_reducible exact LeO.refl _)
  |(with_reducible exact LeO.none _)
  |(with_reducible refine LeO.ite ?_ ?_)
  |(with_reducible refine LeO.bind ?_ (fun _ => ?_))
  |exact ih0 _ _ _ _ _
  |exact ih1 _ _ _ _ _ _ _ _ _
  |exact LeO.none _
  |refine LeO.ite ?_ ?_
  |refine LeO.bind ?_ (fun _ => ?_)
theorem tree_Bare.mono : ∀ a0 a1 a2 a3 a4 k, LeO (tree_Bare.f k a0 a1 a2 a3 a4) (tree_Bare.f (k + 1) a0 a1 a2 a3 a4) := by
 intro a0 a1 a2 a3 a4 k
 obtain ⟨ih0, ih1⟩ := tree_Bare.mono_l k
 exact ih0 a0 a1 a2 a3 a4
set_option maxHeartbeats 8000000 in
set_option maxRecDepth 100000 in
theorem tree_Bare.calls (k : Nat) : ∀ (a0_0 : Int) (a0_1 : ByteArray) (a0_2 : Int) (a0_3 : Int) (A0_4 : Option Addr) (c0_4 : Nat) (l0_4 : List (S24)) (r1 : Int) (r2 : ByteArray) (r3 : Int) (r4 : Int) (r5 : List (S24)) (w : World) (hr0_4 : Kd.C k24 w A0_4 l0_4.length l0_4) (hc0_4 : l0_4.length ≤ c0_4) (h : tree_Bare.f k a0_0 a0_1 a0_2 a0_3 l0_4 = some (r1, r2, r3, r4, r5)),
  Calls Tryd.prog 10 #[.agg #[.int .i64 a0_0, .string a0_1, .int .i64 a0_2, .int .i64 a0_3, .slice A0_4 l0_4.length c0_4]] w fun e w' => ∃ v4_ : Value, e = .returned (.agg #[.int .i64 r1, .string r2, .int .i64 r3, .int .i64 r4, v4_]) ∧ Kd.R k24 24 w' w.heap.size (fun _ => True) v4_ r5 ∧ Below w.heap.size w w' := by
 induction k using Nat.strongRecOn with
 | _ k ih =>
 intro a0_0 a0_1 a0_2 a0_3 A0_4 c0_4 l0_4 r1 r2 r3 r4 r5 w hr0_4 hc0_4 h
 cases k with
 | zero => exact absurd h (by simp [tree_Bare.f])
 | succ k =>
 simp only [tree_Bare.f] at h
 have hu24 := Tryd.underlying24
 have HR0_4 := Aside0.mk hr0_4
 have HC0_4 := Aside0.mk hc0_4
 clear hr0_4 hc0_4
 have HB := Aside0.mk (Below.refl w.heap.size w)
 have H : (tree_Bare.l0 k ([] : List (S24)) l0_4 (l0_4.length : Int) 0 a0_0 a0_1 a0_2 a0_3 l0_4) = some (r1, r2, r3, r4, r5) := h
 clear h
 have H' := Aside0.mk H
 clear H
 go_enter Tryd.func10, Tryd.ntmps10
 go_wp2_with (first|((with_reducible refine gate_dst (N := 1) rfl ?_); refine box_event ?hg (N := 1) ?hd (cs := #[.int .i64 a0_0, .string a0_1, .int .i64 a0_2, .int .i64 a0_3, .slice A0_4 l0_4.length c0_4]) (t := 24) ?hr ?_; (case hd => rfl); (case hg => rfl); (case hr => first|(go_simp; done)|(go_simp; rfl)); intro gb101 hg w2 hbox hb; have n0_ := Aside0.mk (below_step (by repeat (first|(with_reducible first|exact HB.out|apply below_alloc|apply pw_below_drewN|apply below_drew1)|exact HB.out)) hb); have n1_ := Aside0.mk (hbox); have n2_ := Aside0.mk ((by rw [hg]; exact (below_size (by repeat (first|(with_reducible first|exact HB.out|apply below_alloc|apply pw_below_drewN|apply below_drew1)|exact HB.out))) : w.heap.size ≤ gb101)); have n3_ := Aside0.mk ((by rw [hg]; exact (below_size (by repeat (first|(with_reducible first|exact HB.out|apply below_alloc|apply pw_below_drewN|apply below_drew1)|exact HB.out))) : w.heap.size ≤ gb101)); clear HB; have HB := n0_; have BK101 := n1_; have GW101 := n2_; have GE101 := n3_; clear n0_ n1_ n2_ n3_; clear hb hbox hg) | ((with_reducible refine gate_dst (N := 2) rfl ?_); refine box_event ?hg (N := 2) ?hd (cs := #[.int .i64 0, .string (⟨#[]⟩ : ByteArray), .int .i64 0, .int .i64 0, .slice none 0 0]) (t := 24) ?hr ?_; (case hd => rfl); (case hg => rfl); (case hr => first|(go_simp; done)|(go_simp; rfl)); intro gb102 hg w3 hbox hb; have n0_ := Aside0.mk (blk_below (g := gb101) (o := .cells #[.int .i64 a0_0, .string a0_1, .int .i64 a0_2, .int .i64 a0_3, .slice A0_4 l0_4.length c0_4] 24 (0, 0)) (by (with_reducible repeat (first|refine blk_drewN ?_ _|refine blk_drew ?_|refine blk_alloc ?_ _)); exact BK101.out) hb); have n1_ := Aside0.mk (below_step (by repeat (first|(with_reducible first|exact HB.out|apply below_alloc|apply pw_below_drewN|apply below_drew1|refine below_set ?_ GE101.out)|exact HB.out)) hb); have n2_ := Aside0.mk (hbox); have n3_ := Aside0.mk ((by rw [hg]; exact (below_size (by repeat (first|(with_reducible first|exact HB.out|apply below_alloc|apply pw_below_drewN|apply below_drew1|refine below_set ?_ GE101.out)|exact HB.out))) : w.heap.size ≤ gb102)); have n4_ := Aside0.mk ((by rw [hg]; exact (below_size (by repeat (first|(with_reducible first|exact HB.out|apply below_alloc|apply pw_below_drewN|apply below_drew1|refine below_set ?_ GE101.out)|exact HB.out))) : w.heap.size ≤ gb102)); have n5_ := Aside0.mk ((by rw [hg]; exact Nat.ne_of_lt (blk_lt (g := gb101) (o := .cells #[.int .i64 a0_0, .string a0_1, .int .i64 a0_2, .int .i64 a0_3, .slice A0_4 l0_4.length c0_4] 24 (0, 0)) (by (with_reducible repeat (first|refine blk_drewN ?_ _|refine blk_drew ?_|refine blk_alloc ?_ _)); exact BK101.out)) : gb101 ≠ gb102)); have n6_ := Aside0.mk ((by rw [hg]; exact Nat.ne_of_gt (blk_lt (g := gb101) (o := .cells #[.int .i64 a0_0, .string a0_1, .int .i64 a0_2, .int .i64 a0_3, .slice A0_4 l0_4.length c0_4] 24 (0, 0)) (by (with_reducible repeat (first|refine blk_drewN ?_ _|refine blk_drew ?_|refine blk_alloc ?_ _)); exact BK101.out)) : gb102 ≠ gb101)); clear BK101; clear HB; have BK101 := n0_; have HB := n1_; have BK102 := n2_; have GW102 := n3_; have GE102 := n4_; have NB101_102 := n5_; have NB102_101 := n6_; clear n0_ n1_ n2_ n3_ n4_ n5_ n6_; clear hb hbox hg; have hnb4 := NB101_102.out; have hnc4 := NB102_101.out; have hcz5_0 : w3.cell? ⟨gb101, 0, none⟩ = some (.int .i64 a0_0) := (blk_cell BK101.out 0).trans rfl; have hcz5_1 : w3.cell? ⟨gb101, 1, none⟩ = some (.string a0_1) := (blk_cell BK101.out 1).trans rfl; have hcz5_2 : w3.cell? ⟨gb101, 2, none⟩ = some (.int .i64 a0_2) := (blk_cell BK101.out 2).trans rfl; have hcz5_3 : w3.cell? ⟨gb101, 3, none⟩ = some (.int .i64 a0_3) := (blk_cell BK101.out 3).trans rfl; have hcz5_4 : w3.cell? ⟨gb101, 4, none⟩ = some (.slice A0_4 l0_4.length c0_4) := (blk_cell BK101.out 4).trans rfl; have hfz5_0 := blk_frozen BK101.out 0; have hfz5_1 := blk_frozen BK101.out 1; have hfz5_2 := blk_frozen BK101.out 2; have hfz5_3 := blk_frozen BK101.out 3; have hfz5_4 := blk_frozen BK101.out 4))
 go_loopg [3, 9] k (fun kq v3 v9 w' => ∃ (x3_1 : List (S24)) (x9_1 : Int), v9 = .int .i64 x9_1 ∧ Aside0 (tree_Bare.l0 kq x3_1 l0_4 (l0_4.length : Int) x9_1 a0_0 a0_1 a0_2 a0_3 l0_4 = some (r1, r2, r3, r4, r5)) ∧ Aside0 (kq ≤ k) ∧ Aside0 (Kd.R k24 24 w' w.heap.size (fun k_ => k_ ≠ gb101 ∧ k_ ≠ gb102) v3 x3_1) ∧ Aside0 (w'.heap[gb101]? = some (.cells #[.int .i64 a0_0, .string a0_1, .int .i64 a0_2, .int .i64 a0_3, (.slice A0_4 l0_4.length c0_4)] 24 (0, 0))) ∧ Aside0 (w'.heap[gb102]? = some (.cells #[.int .i64 0, .string (⟨#[]⟩ : ByteArray), .int .i64 0, .int .i64 0, (.slice none 0 0)] 24 (0, 0))) ∧ Aside0 (Below w.heap.size w w'))
 case atStart => exact ⟨(([] : List (S24))), (0), (by first|rfl|(simp; done)|(simp [*]; done)), H', ⟨Nat.le_refl _⟩, ⟨by first|exact Kd.R_nil _ _ _ _ _|exact Kd.N_nil _ _ _ _ _|exact Kd.V_nil _ _ _ _ _|exact Kd.Q_nil _ _ _ _ _|exact Kd.S_nil _ _ _ _ _⟩, ⟨by (with_reducible repeat (first|refine blk_drewN ?_ _|refine blk_drew ?_|refine blk_alloc ?_ _)); exact BK101.out⟩, ⟨by (with_reducible repeat (first|refine blk_drewN ?_ _|refine blk_drew ?_|refine blk_alloc ?_ _)); exact BK102.out⟩, ⟨by repeat (first|(with_reducible first|exact HB.out|apply below_alloc|apply pw_below_drewN|apply below_drew1|refine below_set ?_ GE101.out|refine below_set ?_ GE102.out)|exact HB.out)⟩⟩
 case round =>
  clear H'
  try clear c1
  try clear p2
  try clear c4
  try clear hcz5_0
  try clear hcz5_1
  try clear hcz5_2
  try clear hcz5_3
  try clear hcz5_4
  try clear hfz5_0
  try clear hfz5_1
  try clear hfz5_2
  try clear hfz5_3
  try clear hfz5_4
  obtain ⟨x3_1, x9_1, rfl, HA, HK1, HO_3, BK101, BK102, HB⟩ := hrel
  cases gk with
  | zero => exact absurd HA.out (by simp [tree_Bare.l0])
  | succ k1 =>
   have H := HA.out
   clear HA
   simp only [tree_Bare.l0] at H
   by_cases c6 : x9_1 < (l0_4.length : Int)
   ·rw [if_pos c6] at H
    have c6b0 : decide (x9_1 < (l0_4.length : Int)) = true := decide_eq_true c6
    clear c6
    by_cases c7 : 0 ≤ x9_1
    ·rw [if_pos c7] at H
     have c7b0 : decide (0 ≤ x9_1) = true := decide_eq_true c7
     clear c7
     by_cases c8 : x9_1 < (l0_4.length : Int)
     ·rw [if_pos c8] at H
      have c8b0 : decide (x9_1 < (l0_4.length : Int)) = true := decide_eq_true c8
      clear c8
      replace H := Option.bind_eq_some_iff.mp H
      obtain ⟨⟨t105, t106, t107, t108, t109⟩, A90, H⟩ := H
      replace H : (if x3_1.length < 2199023255552 then (tree_Bare.l0 k1 (x3_1 ++ [(⟨t105, t106, t107, t108, t109⟩ : S24)]) l0_4 (l0_4.length : Int) (wrap64 (x9_1 + 1)) a0_0 a0_1 a0_2 a0_3 l0_4) else (none)) = some (r1, r2, r3, r4, r5) := H
      have A9 := Aside0.mk A90
      clear A90
      by_cases c10 : x3_1.length < 2199023255552
      ·rw [if_pos c10] at H
       have LMc10 := Aside0.mk c10
       clear c10
       obtain ⟨y112, hy112⟩ : ∃ y_ : List (S24), y_ = (x3_1 ++ [(⟨t105, t106, t107, t108, t109⟩ : S24)]) := ⟨_, rfl⟩
       replace H : (tree_Bare.l0 k1 y112 l0_4 (l0_4.length : Int) (wrap64 (x9_1 + 1)) a0_0 a0_1 a0_2 a0_3 l0_4) = some (r1, r2, r3, r4, r5) := by first | (rw [hy112]; with_reducible exact H) | (have H2_ := (Option.bind_some _ _).symm.trans H; rw [hy112]; with_reducible exact H2_) | (have H2_ := (Option.bind_some _ _).symm.trans H; with_reducible exact H2_) | with_reducible exact H | (rw [hy112]; exact H)|exact H
       have Ny112 := Aside0.mk hy112
       clear hy112
       have H' := Aside0.mk H
       clear H
       have p103 : 0 ≤ (x9_1 : Int) := of_decide_eq_true (by first|(with_reducible assumption) | assumption)
       have q103 : x9_1 < (l0_4.length : Int) := of_decide_eq_true (by first|(with_reducible assumption) | assumption)
       obtain ⟨ad103, A103_4, c103_4, e103, hx103_0, hx103_1, hx103_2, hx103_3, hx103_4, hl103_4, hi103_4⟩ := at_T24 HR0_4.out x9_1 p103 q103
       cases e103
       replace hx103_0 := (HB.out.cell (World.block_lt_of_cell? w _ hx103_0)).trans hx103_0
       replace hx103_1 := (HB.out.cell (World.block_lt_of_cell? w _ hx103_1)).trans hx103_1
       replace hx103_2 := (HB.out.cell (World.block_lt_of_cell? w _ hx103_2)).trans hx103_2
       replace hx103_3 := (HB.out.cell (World.block_lt_of_cell? w _ hx103_3)).trans hx103_3
       replace hx103_4 := (HB.out.cell (World.block_lt_of_cell? w _ hx103_4)).trans hx103_4
       have HR103_4 := Aside0.mk hi103_4
       have HC103_4 := Aside0.mk hl103_4
       clear hi103_4 hl103_4
       replace p103 := eq_true p103
       replace q103 := eq_true q103
       go_wp2_with (first|((with_reducible refine gate_dst (N := 5) rfl ?_); refine box_event ?hg (N := 5) ?hd (cs := #[.int .i64 0, .string (⟨#[]⟩ : ByteArray), .int .i64 0, .int .i64 0, .slice none 0 0]) (t := 24) ?hr ?_; (case hd => rfl); (case hg => rfl); (case hr => first|(go_simp; done)|(go_simp; rfl)); intro gb104 hg w11 hbox hb; have n0_ := Aside0.mk (Kd.R_below (Kd.R_elderB (by (with_reducible repeat (first|apply Kd.R_alloc|apply Kd.R_drewN|apply Kd.R_drew)); exact HO_3.out) gb104 (Nat.le_of_eq hg.symm)) hb); have n1_ := Aside0.mk (blk_below (g := gb101) (o := .cells #[.int .i64 a0_0, .string a0_1, .int .i64 a0_2, .int .i64 a0_3, .slice (some ad103) l0_4.length c0_4] 24 (0, 0)) (by (with_reducible repeat (first|refine blk_drewN ?_ _|refine blk_drew ?_|refine blk_alloc ?_ _)); exact BK101.out) hb); have n2_ := Aside0.mk (blk_below (g := gb102) (o := .cells #[.int .i64 0, .string (⟨#[]⟩ : ByteArray), .int .i64 0, .int .i64 0, .slice none 0 0] 24 (0, 0)) (by (with_reducible repeat (first|refine blk_drewN ?_ _|refine blk_drew ?_|refine blk_alloc ?_ _)); exact BK102.out) hb); have n3_ := Aside0.mk (below_step (by repeat (first|(with_reducible first|exact HB.out|apply below_alloc|apply pw_below_drewN|apply below_drew1|refine below_set ?_ GE101.out|refine below_set ?_ GE102.out)|exact HB.out)) hb); have n4_ := Aside0.mk (hbox); have n5_ := Aside0.mk ((by rw [hg]; exact (below_size (by repeat (first|(with_reducible first|exact HB.out|apply below_alloc|apply pw_below_drewN|apply below_drew1|refine below_set ?_ GE101.out|refine below_set ?_ GE102.out)|exact HB.out))) : w.heap.size ≤ gb104)); have n6_ := Aside0.mk ((by rw [hg]; exact (below_size (by repeat (first|(with_reducible first|exact HB.out|apply below_alloc|apply pw_below_drewN|apply below_drew1|refine below_set ?_ GE101.out|refine below_set ?_ GE102.out)|exact HB.out))) : w.heap.size ≤ gb104)); have n7_ := Aside0.mk ((by rw [hg]; exact Nat.ne_of_lt (blk_lt (g := gb101) (o := .cells #[.int .i64 a0_0, .string a0_1, .int .i64 a0_2, .int .i64 a0_3, .slice (some ad103) l0_4.length c0_4] 24 (0, 0)) (by (with_reducible repeat (first|refine blk_drewN ?_ _|refine blk_drew ?_|refine blk_alloc ?_ _)); exact BK101.out)) : gb101 ≠ gb104)); have n8_ := Aside0.mk ((by rw [hg]; exact Nat.ne_of_gt (blk_lt (g := gb101) (o := .cells #[.int .i64 a0_0, .string a0_1, .int .i64 a0_2, .int .i64 a0_3, .slice (some ad103) l0_4.length c0_4] 24 (0, 0)) (by (with_reducible repeat (first|refine blk_drewN ?_ _|refine blk_drew ?_|refine blk_alloc ?_ _)); exact BK101.out)) : gb104 ≠ gb101)); have n9_ := Aside0.mk ((by rw [hg]; exact Nat.ne_of_lt (blk_lt (g := gb102) (o := .cells #[.int .i64 0, .string (⟨#[]⟩ : ByteArray), .int .i64 0, .int .i64 0, .slice none 0 0] 24 (0, 0)) (by (with_reducible repeat (first|refine blk_drewN ?_ _|refine blk_drew ?_|refine blk_alloc ?_ _)); exact BK102.out)) : gb102 ≠ gb104)); have n10_ := Aside0.mk ((by rw [hg]; exact Nat.ne_of_gt (blk_lt (g := gb102) (o := .cells #[.int .i64 0, .string (⟨#[]⟩ : ByteArray), .int .i64 0, .int .i64 0, .slice none 0 0] 24 (0, 0)) (by (with_reducible repeat (first|refine blk_drewN ?_ _|refine blk_drew ?_|refine blk_alloc ?_ _)); exact BK102.out)) : gb104 ≠ gb102)); clear HO_3; clear BK101; clear BK102; clear HB; have HO_3 := n0_; have BK101 := n1_; have BK102 := n2_; have HB := n3_; have BK104 := n4_; have GW104 := n5_; have GE104 := n6_; have NB101_104 := n7_; have NB104_101 := n8_; have NB102_104 := n9_; have NB104_102 := n10_; clear n0_ n1_ n2_ n3_ n4_ n5_ n6_ n7_ n8_ n9_ n10_; clear hb hbox hg; have hnb12 := NB104_101.out; have hnc12 := NB101_104.out; have hnb13 := NB104_102.out; have hnc13 := NB102_104.out; have hcz14_0 : w11.cell? ⟨gb104, 0, none⟩ = some (.int .i64 0) := (blk_cell BK104.out 0).trans rfl; have hcz14_1 : w11.cell? ⟨gb104, 1, none⟩ = some (.string (⟨#[]⟩ : ByteArray)) := (blk_cell BK104.out 1).trans rfl; have hcz14_2 : w11.cell? ⟨gb104, 2, none⟩ = some (.int .i64 0) := (blk_cell BK104.out 2).trans rfl; have hcz14_3 : w11.cell? ⟨gb104, 3, none⟩ = some (.int .i64 0) := (blk_cell BK104.out 3).trans rfl; have hcz14_4 : w11.cell? ⟨gb104, 4, none⟩ = some (.slice none 0 0) := (blk_cell BK104.out 4).trans rfl; have hfz14_0 := blk_frozen BK104.out 0; have hfz14_1 := blk_frozen BK104.out 1; have hfz14_2 := blk_frozen BK104.out 2; have hfz14_3 := blk_frozen BK104.out 3; have hfz14_4 := blk_frozen BK104.out 4) | ((with_reducible refine gate_callee (f := 10) rfl ?_); refine goesL_ (some 15) rfl rfl Tryd.func10 (by kernel_rfl) rfl #[.agg #[.int .i64 ((rd_T24 l0_4 x9_1).f0), .string ((rd_T24 l0_4 x9_1).f1), .int .i64 ((rd_T24 l0_4 x9_1).f2), .int .i64 ((rd_T24 l0_4 x9_1).f3), .slice A103_4 ((rd_T24 l0_4 x9_1).f4).length c103_4]] rfl (by (try simp only [List.map_toArray, List.map_cons, List.map_nil]); first|done|rfl|(simp only [List.length_drop, List.length_take]; rfl)) ?_; (with_reducible refine (ih k1 (by have := HK1.out; omega) ((rd_T24 l0_4 x9_1).f0) ((rd_T24 l0_4 x9_1).f1) ((rd_T24 l0_4 x9_1).f2) ((rd_T24 l0_4 x9_1).f3) _ _ ((rd_T24 l0_4 x9_1).f4) t105 t106 t107 t108 t109 _ ?side1 ?side2 A9.out).mono ?_); (case side1 => exact Kd.C_below HR103_4.out (by repeat (first|(with_reducible first|exact HB.out|apply below_alloc|apply pw_below_drewN|apply below_drew1|refine below_set ?_ GE101.out|refine below_set ?_ GE102.out|refine below_set ?_ GE104.out)|exact HB.out))); (case side2 => exact HC103_4.out); rintro e w15 ⟨v110, rfl, ho0, hb⟩; refine ⟨_, rfl, ?_⟩; have n0_ := Aside0.mk (Kd.R_elder' (by (with_reducible repeat (first|apply Kd.R_alloc|apply Kd.R_drewN|apply Kd.R_drew)); exact (Kd.R_mono (Kd.R_far (p := ⟨gb104, 4, none⟩) (Kd.R_far (p := ⟨gb104, 3, none⟩) (Kd.R_far (p := ⟨gb104, 2, none⟩) (Kd.R_far (p := ⟨gb104, 1, none⟩) (Kd.R_far (p := ⟨gb104, 0, none⟩) (Kd.R_mono HO_3.out (fun k_ hk => (⟨hk, hk.2⟩ : _ ∧ k_ ≠ gb104))) (fun _ hk => hk.2) (.int .i64 ((rd_T24 l0_4 x9_1).f0))) (fun _ hk => hk.2) (.string ((rd_T24 l0_4 x9_1).f1))) (fun _ hk => hk.2) (.int .i64 ((rd_T24 l0_4 x9_1).f2))) (fun _ hk => hk.2) (.int .i64 ((rd_T24 l0_4 x9_1).f3))) (fun _ hk => hk.2) (.slice A103_4 ((rd_T24 l0_4 x9_1).f4).length c103_4)) (fun _ h_ => h_.1))) (Kd.R_base ho0) hb); have n1_ := Aside0.mk (Kd.R_lower (Kd.R_newB (Kd.R_newB (Kd.R_newB (Kd.R_new' ho0 (Kd.R_lt (by (with_reducible repeat (first|apply Kd.R_alloc|apply Kd.R_drewN|apply Kd.R_drew)); exact (Kd.R_mono (Kd.R_far (p := ⟨gb104, 4, none⟩) (Kd.R_far (p := ⟨gb104, 3, none⟩) (Kd.R_far (p := ⟨gb104, 2, none⟩) (Kd.R_far (p := ⟨gb104, 1, none⟩) (Kd.R_far (p := ⟨gb104, 0, none⟩) (Kd.R_mono HO_3.out (fun k_ hk => (⟨hk, hk.2⟩ : _ ∧ k_ ≠ gb104))) (fun _ hk => hk.2) (.int .i64 ((rd_T24 l0_4 x9_1).f0))) (fun _ hk => hk.2) (.string ((rd_T24 l0_4 x9_1).f1))) (fun _ hk => hk.2) (.int .i64 ((rd_T24 l0_4 x9_1).f2))) (fun _ hk => hk.2) (.int .i64 ((rd_T24 l0_4 x9_1).f3))) (fun _ hk => hk.2) (.slice A103_4 ((rd_T24 l0_4 x9_1).f4).length c103_4)) (fun _ h_ => h_.1))))) (g := gb101) (o := .cells #[.int .i64 a0_0, .string a0_1, .int .i64 a0_2, .int .i64 a0_3, .slice (some ad103) l0_4.length c0_4] 24 (0, 0)) (by (with_reducible repeat (first|refine blk_drewN ?_ _|refine blk_drew ?_|refine blk_alloc ?_ _)); refine blk_far ?_ NB101_104.out _; (with_reducible repeat (first|refine blk_drewN ?_ _|refine blk_drew ?_|refine blk_alloc ?_ _)); refine blk_far ?_ NB101_104.out _; (with_reducible repeat (first|refine blk_drewN ?_ _|refine blk_drew ?_|refine blk_alloc ?_ _)); refine blk_far ?_ NB101_104.out _; (with_reducible repeat (first|refine blk_drewN ?_ _|refine blk_drew ?_|refine blk_alloc ?_ _)); refine blk_far ?_ NB101_104.out _; (with_reducible repeat (first|refine blk_drewN ?_ _|refine blk_drew ?_|refine blk_alloc ?_ _)); refine blk_far ?_ NB101_104.out _; (with_reducible repeat (first|refine blk_drewN ?_ _|refine blk_drew ?_|refine blk_alloc ?_ _)); exact BK101.out)) (g := gb102) (o := .cells #[.int .i64 0, .string (⟨#[]⟩ : ByteArray), .int .i64 0, .int .i64 0, .slice none 0 0] 24 (0, 0)) (by (with_reducible repeat (first|refine blk_drewN ?_ _|refine blk_drew ?_|refine blk_alloc ?_ _)); refine blk_far ?_ NB102_104.out _; (with_reducible repeat (first|refine blk_drewN ?_ _|refine blk_drew ?_|refine blk_alloc ?_ _)); refine blk_far ?_ NB102_104.out _; (with_reducible repeat (first|refine blk_drewN ?_ _|refine blk_drew ?_|refine blk_alloc ?_ _)); refine blk_far ?_ NB102_104.out _; (with_reducible repeat (first|refine blk_drewN ?_ _|refine blk_drew ?_|refine blk_alloc ?_ _)); refine blk_far ?_ NB102_104.out _; (with_reducible repeat (first|refine blk_drewN ?_ _|refine blk_drew ?_|refine blk_alloc ?_ _)); refine blk_far ?_ NB102_104.out _; (with_reducible repeat (first|refine blk_drewN ?_ _|refine blk_drew ?_|refine blk_alloc ?_ _)); exact BK102.out)) (g := gb104) (o := .cells #[.int .i64 ((rd_T24 l0_4 x9_1).f0), .string ((rd_T24 l0_4 x9_1).f1), .int .i64 ((rd_T24 l0_4 x9_1).f2), .int .i64 ((rd_T24 l0_4 x9_1).f3), .slice A103_4 ((rd_T24 l0_4 x9_1).f4).length c103_4] 24 (0, 0)) (by (with_reducible repeat (first|refine blk_drewN ?_ _|refine blk_drew ?_|refine blk_alloc ?_ _)); refine blk_put (cs := #[.int .i64 ((rd_T24 l0_4 x9_1).f0), .string ((rd_T24 l0_4 x9_1).f1), .int .i64 ((rd_T24 l0_4 x9_1).f2), .int .i64 ((rd_T24 l0_4 x9_1).f3), .slice none 0 0]) ?_ 4 _ rfl; (with_reducible repeat (first|refine blk_drewN ?_ _|refine blk_drew ?_|refine blk_alloc ?_ _)); refine blk_put (cs := #[.int .i64 ((rd_T24 l0_4 x9_1).f0), .string ((rd_T24 l0_4 x9_1).f1), .int .i64 ((rd_T24 l0_4 x9_1).f2), .int .i64 0, .slice none 0 0]) ?_ 3 _ rfl; (with_reducible repeat (first|refine blk_drewN ?_ _|refine blk_drew ?_|refine blk_alloc ?_ _)); refine blk_put (cs := #[.int .i64 ((rd_T24 l0_4 x9_1).f0), .string ((rd_T24 l0_4 x9_1).f1), .int .i64 0, .int .i64 0, .slice none 0 0]) ?_ 2 _ rfl; (with_reducible repeat (first|refine blk_drewN ?_ _|refine blk_drew ?_|refine blk_alloc ?_ _)); refine blk_put (cs := #[.int .i64 ((rd_T24 l0_4 x9_1).f0), .string (⟨#[]⟩ : ByteArray), .int .i64 0, .int .i64 0, .slice none 0 0]) ?_ 1 _ rfl; (with_reducible repeat (first|refine blk_drewN ?_ _|refine blk_drew ?_|refine blk_alloc ?_ _)); refine blk_put (cs := #[.int .i64 0, .string (⟨#[]⟩ : ByteArray), .int .i64 0, .int .i64 0, .slice none 0 0]) ?_ 0 _ rfl; (with_reducible repeat (first|refine blk_drewN ?_ _|refine blk_drew ?_|refine blk_alloc ?_ _)); exact BK104.out)) (below_size (by repeat (first|(with_reducible first|exact HB.out|apply below_alloc|apply pw_below_drewN|apply below_drew1|refine below_set ?_ GE101.out|refine below_set ?_ GE102.out|refine below_set ?_ GE104.out)|exact HB.out)))); have n2_ := Aside0.mk (blk_below (g := gb101) (o := .cells #[.int .i64 a0_0, .string a0_1, .int .i64 a0_2, .int .i64 a0_3, .slice (some ad103) l0_4.length c0_4] 24 (0, 0)) (by (with_reducible repeat (first|refine blk_drewN ?_ _|refine blk_drew ?_|refine blk_alloc ?_ _)); refine blk_far ?_ NB101_104.out _; (with_reducible repeat (first|refine blk_drewN ?_ _|refine blk_drew ?_|refine blk_alloc ?_ _)); refine blk_far ?_ NB101_104.out _; (with_reducible repeat (first|refine blk_drewN ?_ _|refine blk_drew ?_|refine blk_alloc ?_ _)); refine blk_far ?_ NB101_104.out _; (with_reducible repeat (first|refine blk_drewN ?_ _|refine blk_drew ?_|refine blk_alloc ?_ _)); refine blk_far ?_ NB101_104.out _; (with_reducible repeat (first|refine blk_drewN ?_ _|refine blk_drew ?_|refine blk_alloc ?_ _)); refine blk_far ?_ NB101_104.out _; (with_reducible repeat (first|refine blk_drewN ?_ _|refine blk_drew ?_|refine blk_alloc ?_ _)); exact BK101.out) hb); have n3_ := Aside0.mk (blk_below (g := gb102) (o := .cells #[.int .i64 0, .string (⟨#[]⟩ : ByteArray), .int .i64 0, .int .i64 0, .slice none 0 0] 24 (0, 0)) (by (with_reducible repeat (first|refine blk_drewN ?_ _|refine blk_drew ?_|refine blk_alloc ?_ _)); refine blk_far ?_ NB102_104.out _; (with_reducible repeat (first|refine blk_drewN ?_ _|refine blk_drew ?_|refine blk_alloc ?_ _)); refine blk_far ?_ NB102_104.out _; (with_reducible repeat (first|refine blk_drewN ?_ _|refine blk_drew ?_|refine blk_alloc ?_ _)); refine blk_far ?_ NB102_104.out _; (with_reducible repeat (first|refine blk_drewN ?_ _|refine blk_drew ?_|refine blk_alloc ?_ _)); refine blk_far ?_ NB102_104.out _; (with_reducible repeat (first|refine blk_drewN ?_ _|refine blk_drew ?_|refine blk_alloc ?_ _)); refine blk_far ?_ NB102_104.out _; (with_reducible repeat (first|refine blk_drewN ?_ _|refine blk_drew ?_|refine blk_alloc ?_ _)); exact BK102.out) hb); have n4_ := Aside0.mk (blk_below (g := gb104) (o := .cells #[.int .i64 ((rd_T24 l0_4 x9_1).f0), .string ((rd_T24 l0_4 x9_1).f1), .int .i64 ((rd_T24 l0_4 x9_1).f2), .int .i64 ((rd_T24 l0_4 x9_1).f3), .slice A103_4 ((rd_T24 l0_4 x9_1).f4).length c103_4] 24 (0, 0)) (by (with_reducible repeat (first|refine blk_drewN ?_ _|refine blk_drew ?_|refine blk_alloc ?_ _)); refine blk_put (cs := #[.int .i64 ((rd_T24 l0_4 x9_1).f0), .string ((rd_T24 l0_4 x9_1).f1), .int .i64 ((rd_T24 l0_4 x9_1).f2), .int .i64 ((rd_T24 l0_4 x9_1).f3), .slice none 0 0]) ?_ 4 _ rfl; (with_reducible repeat (first|refine blk_drewN ?_ _|refine blk_drew ?_|refine blk_alloc ?_ _)); refine blk_put (cs := #[.int .i64 ((rd_T24 l0_4 x9_1).f0), .string ((rd_T24 l0_4 x9_1).f1), .int .i64 ((rd_T24 l0_4 x9_1).f2), .int .i64 0, .slice none 0 0]) ?_ 3 _ rfl; (with_reducible repeat (first|refine blk_drewN ?_ _|refine blk_drew ?_|refine blk_alloc ?_ _)); refine blk_put (cs := #[.int .i64 ((rd_T24 l0_4 x9_1).f0), .string ((rd_T24 l0_4 x9_1).f1), .int .i64 0, .int .i64 0, .slice none 0 0]) ?_ 2 _ rfl; (with_reducible repeat (first|refine blk_drewN ?_ _|refine blk_drew ?_|refine blk_alloc ?_ _)); refine blk_put (cs := #[.int .i64 ((rd_T24 l0_4 x9_1).f0), .string (⟨#[]⟩ : ByteArray), .int .i64 0, .int .i64 0, .slice none 0 0]) ?_ 1 _ rfl; (with_reducible repeat (first|refine blk_drewN ?_ _|refine blk_drew ?_|refine blk_alloc ?_ _)); refine blk_put (cs := #[.int .i64 0, .string (⟨#[]⟩ : ByteArray), .int .i64 0, .int .i64 0, .slice none 0 0]) ?_ 0 _ rfl; (with_reducible repeat (first|refine blk_drewN ?_ _|refine blk_drew ?_|refine blk_alloc ?_ _)); exact BK104.out) hb); have n5_ := Aside0.mk (below_step (by repeat (first|(with_reducible first|exact HB.out|apply below_alloc|apply pw_below_drewN|apply below_drew1|refine below_set ?_ GE101.out|refine below_set ?_ GE102.out|refine below_set ?_ GE104.out)|exact HB.out)) hb); clear HO_3; clear BK101; clear BK102; clear BK104; clear HB; have HO_3 := n0_; have HO111 := n1_; have BK101 := n2_; have BK102 := n3_; have BK104 := n4_; have HB := n5_; clear n0_ n1_ n2_ n3_ n4_ n5_; (try clear hb); (try clear hb2); (try clear hk); (try clear hi); (try clear ho0); obtain ⟨Ao17, co17, eo17⟩ := Kd.R_slice HO111.out; subst eo17) | ((with_reducible refine gate_builtin (b := .append) (xs := #[.tmp 13, .tmp 16]) rfl ?_); at_builtin; refine Kd.R_append k24 (w0 := w) w.heap.size rfl (.tmp 13) (.tmp 16) 22 24 (.agg #[(.int .i64 0), (.string ⟨#[]⟩), (.int .i64 0), (.int .i64 0), (.slice none 0 0)]) 64 rfl Tryd.underlying22 info24 rfl (by decide) (by omega) u3 x3_1 (⟨t105, t106, t107, t108, t109⟩ : S24) [.int .i64 t105, .string t106, .int .i64 t107, .int .i64 t108, .slice Ao17 t109.length co17] (fun k_ => k_ ≠ gb101 ∧ k_ ≠ gb102 ∧ k_ ≠ gb104) (fun k_ => ((fun k_ => k_ ≠ gb101 ∧ k_ ≠ gb102 ∧ k_ ≠ gb104)) k_ ∧ some k_ ≠ (u3 : Value).ownBlock) rfl rfl ?aP (fun _ hk => hk) ?aF ?aO ?aB ?aS ?aL ?_; (case aP => exact k24_mkM _ _ _ (⟨t105, t106, t107, t108, t109⟩ : S24) (Kd.R_mono (HO111.out) (fun k_ hk => ⟨⟨hk.1.1.2, ⟨hk.1.2, hk.2⟩⟩, hk.1.1.1.2⟩))); (case aB => exact (by repeat (first|(with_reducible first|exact HB.out|apply below_alloc|apply pw_below_drewN|apply below_drew1|refine below_set ?_ GE101.out|refine below_set ?_ GE102.out|refine below_set ?_ GE104.out)|exact HB.out))); (case aF => exact (fun k_ hk => ⟨Kd.freshB (g := gb101) (o := .cells #[.int .i64 a0_0, .string a0_1, .int .i64 a0_2, .int .i64 a0_3, .slice (some ad103) l0_4.length c0_4] 24 (0, 0)) (by (with_reducible repeat (first|refine blk_drewN ?_ _|refine blk_drew ?_|refine blk_alloc ?_ _)); exact BK101.out) k_ hk, Kd.freshB (g := gb102) (o := .cells #[.int .i64 0, .string (⟨#[]⟩ : ByteArray), .int .i64 0, .int .i64 0, .slice none 0 0] 24 (0, 0)) (by (with_reducible repeat (first|refine blk_drewN ?_ _|refine blk_drew ?_|refine blk_alloc ?_ _)); exact BK102.out) k_ hk, Kd.freshB (g := gb104) (o := .cells #[.int .i64 ((rd_T24 l0_4 x9_1).f0), .string ((rd_T24 l0_4 x9_1).f1), .int .i64 ((rd_T24 l0_4 x9_1).f2), .int .i64 ((rd_T24 l0_4 x9_1).f3), .slice A103_4 ((rd_T24 l0_4 x9_1).f4).length c103_4] 24 (0, 0)) (by (with_reducible repeat (first|refine blk_drewN ?_ _|refine blk_drew ?_|refine blk_alloc ?_ _)); exact BK104.out) k_ hk⟩)); (case aO => exact (by (with_reducible repeat (first|apply Kd.R_alloc|apply Kd.R_drewN|apply Kd.R_drew)); exact Kd.R_mono HO_3.out (fun _ hk => ⟨hk.1.1.1, ⟨hk.1.1.2, hk.1.2⟩⟩))); (case aS => exact (below_size (by repeat (first|(with_reducible first|exact HB.out|apply below_alloc|apply pw_below_drewN|apply below_drew1|refine below_set ?_ GE101.out|refine below_set ?_ GE102.out|refine below_set ?_ GE104.out)|exact HB.out)))); (case aL => have := LMc10.out; omega); intro v113 w16 ho hb hg hat; rw [← Ny112.out] at ho; have n0_ := Aside0.mk (blk_grown (g := gb101) (o := .cells #[.int .i64 a0_0, .string a0_1, .int .i64 a0_2, .int .i64 a0_3, .slice (some ad103) l0_4.length c0_4] 24 (0, 0)) (by (with_reducible repeat (first|refine blk_drewN ?_ _|refine blk_drew ?_|refine blk_alloc ?_ _)); exact BK101.out) hg (Kd.R_away HO_3.out (fun _ hk => hk.1.1.1))); have n1_ := Aside0.mk (blk_grown (g := gb102) (o := .cells #[.int .i64 0, .string (⟨#[]⟩ : ByteArray), .int .i64 0, .int .i64 0, .slice none 0 0] 24 (0, 0)) (by (with_reducible repeat (first|refine blk_drewN ?_ _|refine blk_drew ?_|refine blk_alloc ?_ _)); exact BK102.out) hg (Kd.R_away HO_3.out (fun _ hk => hk.1.1.2))); have n2_ := Aside0.mk (blk_grown (g := gb104) (o := .cells #[.int .i64 ((rd_T24 l0_4 x9_1).f0), .string ((rd_T24 l0_4 x9_1).f1), .int .i64 ((rd_T24 l0_4 x9_1).f2), .int .i64 ((rd_T24 l0_4 x9_1).f3), .slice A103_4 ((rd_T24 l0_4 x9_1).f4).length c103_4] 24 (0, 0)) (by (with_reducible repeat (first|refine blk_drewN ?_ _|refine blk_drew ?_|refine blk_alloc ?_ _)); exact BK104.out) hg (Kd.R_away HO_3.out (fun _ hk => hk.1.2))); have n3_ := Aside0.mk (hb); have n4_ := Aside0.mk (ho); clear BK101; clear BK102; clear BK104; clear HB; clear HO_3; clear HO111; have BK101 := n0_; have BK102 := n1_; have BK104 := n2_; have HB := n3_; have HO114 := n4_; clear n0_ n1_ n2_ n3_ n4_; clear ho hb hg hat))
       go_roundg k1
       case measure => have := HK1.out; omega
       case rel => exact ⟨(y112), (wrap64 (x9_1 + 1)), (by first|rfl|(simp; done)|(simp [*]; done)), H', ⟨by have := HK1.out; omega⟩, ⟨by (with_reducible repeat (first|apply Kd.R_alloc|apply Kd.R_drewN|apply Kd.R_drew)); exact Kd.R_mono HO114.out (fun _ hk => ⟨hk.1, hk.2.1⟩)⟩, ⟨by (with_reducible repeat (first|refine blk_drewN ?_ _|refine blk_drew ?_|refine blk_alloc ?_ _)); exact BK101.out⟩, ⟨by (with_reducible repeat (first|refine blk_drewN ?_ _|refine blk_drew ?_|refine blk_alloc ?_ _)); exact BK102.out⟩, ⟨by repeat (first|(with_reducible first|exact HB.out|apply below_alloc|apply pw_below_drewN|apply below_drew1|refine below_set ?_ GE101.out|refine below_set ?_ GE102.out|refine below_set ?_ GE104.out)|exact HB.out)⟩⟩
      ·rw [if_neg c10] at H
       exact absurd H (by simp)
     ·rw [if_neg c8] at H
      exact absurd H (by simp)
    ·rw [if_neg c7] at H
     exact absurd H (by simp)
   ·rw [if_neg c6] at H
    have c6b0 : decide (x9_1 < (l0_4.length : Int)) = false := decide_eq_false c6
    clear c6
    simp only [Option.some.injEq, Prod.mk.injEq] at H
    obtain ⟨rfl, rfl, rfl, rfl, rfl⟩ := H
    have hnb18 := NB101_102.out
    have hnc18 := NB102_101.out
    have hcz19_0 : wr.cell? ⟨gb101, 0, none⟩ = some (.int .i64 a0_0) := (blk_cell BK101.out 0).trans rfl
    have hcz19_1 : wr.cell? ⟨gb101, 1, none⟩ = some (.string a0_1) := (blk_cell BK101.out 1).trans rfl
    have hcz19_2 : wr.cell? ⟨gb101, 2, none⟩ = some (.int .i64 a0_2) := (blk_cell BK101.out 2).trans rfl
    have hcz19_3 : wr.cell? ⟨gb101, 3, none⟩ = some (.int .i64 a0_3) := (blk_cell BK101.out 3).trans rfl
    have hcz19_4 : wr.cell? ⟨gb101, 4, none⟩ = some (.slice A0_4 l0_4.length c0_4) := (blk_cell BK101.out 4).trans rfl
    have hfz19_0 := blk_frozen BK101.out 0
    have hfz19_1 := blk_frozen BK101.out 1
    have hfz19_2 := blk_frozen BK101.out 2
    have hfz19_3 := blk_frozen BK101.out 3
    have hfz19_4 := blk_frozen BK101.out 4
    obtain ⟨Ao20, co20, eo20⟩ := Kd.R_slice HO_3.out
    subst eo20
    have hcz21_0 : wr.cell? ⟨gb102, 0, none⟩ = some (.int .i64 0) := (blk_cell BK102.out 0).trans rfl
    have hcz21_1 : wr.cell? ⟨gb102, 1, none⟩ = some (.string (⟨#[]⟩ : ByteArray)) := (blk_cell BK102.out 1).trans rfl
    have hcz21_2 : wr.cell? ⟨gb102, 2, none⟩ = some (.int .i64 0) := (blk_cell BK102.out 2).trans rfl
    have hcz21_3 : wr.cell? ⟨gb102, 3, none⟩ = some (.int .i64 0) := (blk_cell BK102.out 3).trans rfl
    have hcz21_4 : wr.cell? ⟨gb102, 4, none⟩ = some (.slice none 0 0) := (blk_cell BK102.out 4).trans rfl
    have hfz21_0 := blk_frozen BK102.out 0
    have hfz21_1 := blk_frozen BK102.out 1
    have hfz21_2 := blk_frozen BK102.out 2
    have hfz21_3 := blk_frozen BK102.out 3
    have hfz21_4 := blk_frozen BK102.out 4
    go_wp2
    refine bodyPost_ret (results_cell_row rfl _ _ gb102 24 #[.int .i64 a0_0, .string a0_1, .int .i64 a0_2, .int .i64 0, .slice Ao20 x3_1.length co20] (0, 0) _ rfl (by (with_reducible repeat (first|refine blk_drewN ?_ _|refine blk_drew ?_|refine blk_alloc ?_ _)); refine blk_put (cs := #[.int .i64 a0_0, .string a0_1, .int .i64 a0_2, .int .i64 0, .slice none 0 0]) ?_ 4 _ rfl; (with_reducible repeat (first|refine blk_drewN ?_ _|refine blk_drew ?_|refine blk_alloc ?_ _)); refine blk_put (cs := #[.int .i64 a0_0, .string a0_1, .int .i64 a0_2, .int .i64 0, .slice none 0 0]) ?_ 3 _ rfl; (with_reducible repeat (first|refine blk_drewN ?_ _|refine blk_drew ?_|refine blk_alloc ?_ _)); refine blk_put (cs := #[.int .i64 a0_0, .string a0_1, .int .i64 0, .int .i64 0, .slice none 0 0]) ?_ 2 _ rfl; (with_reducible repeat (first|refine blk_drewN ?_ _|refine blk_drew ?_|refine blk_alloc ?_ _)); refine blk_put (cs := #[.int .i64 a0_0, .string (⟨#[]⟩ : ByteArray), .int .i64 0, .int .i64 0, .slice none 0 0]) ?_ 1 _ rfl; (with_reducible repeat (first|refine blk_drewN ?_ _|refine blk_drew ?_|refine blk_alloc ?_ _)); refine blk_put (cs := #[.int .i64 0, .string (⟨#[]⟩ : ByteArray), .int .i64 0, .int .i64 0, .slice none 0 0]) ?_ 0 _ rfl; (with_reducible repeat (first|refine blk_drewN ?_ _|refine blk_drew ?_|refine blk_alloc ?_ _)); refine blk_far ?_ NB102_101.out _; (with_reducible repeat (first|refine blk_drewN ?_ _|refine blk_drew ?_|refine blk_alloc ?_ _)); refine blk_far ?_ NB102_101.out _; (with_reducible repeat (first|refine blk_drewN ?_ _|refine blk_drew ?_|refine blk_alloc ?_ _)); exact BK102.out) Tryd.underlying24 rfl (by kernel_rfl)) rfl ?_
    exact ⟨_, by first|rfl|(simp [errW_none, errW_some] <;> rfl)|(simp [*, errW_none, errW_some] <;> rfl), by (with_reducible repeat (first|apply Kd.R_alloc|apply Kd.R_drewN|apply Kd.R_drew)); exact Kd.R_mono (Kd.R_far (p := ⟨gb102, 4, none⟩) (Kd.R_far (p := ⟨gb102, 3, none⟩) (Kd.R_far (p := ⟨gb102, 2, none⟩) (Kd.R_far (p := ⟨gb102, 1, none⟩) (Kd.R_far (p := ⟨gb102, 0, none⟩) (Kd.R_far (p := ⟨gb101, 4, none⟩) (Kd.R_far (p := ⟨gb101, 3, none⟩) (Kd.R_mono (Kd.R_mono HO_3.out (fun k_ hk => (⟨hk, hk.1⟩ : _ ∧ k_ ≠ gb101))) (fun k_ hk => (⟨hk, hk.1.2⟩ : _ ∧ k_ ≠ gb102))) (fun _ hk => hk.1.2) (.int .i64 0)) (fun _ hk => hk.1.2) (.slice Ao20 x3_1.length co20)) (fun _ hk => hk.2) (.int .i64 a0_0)) (fun _ hk => hk.2) (.string a0_1)) (fun _ hk => hk.2) (.int .i64 a0_2)) (fun _ hk => hk.2) (.int .i64 0)) (fun _ hk => hk.2) (.slice Ao20 x3_1.length co20)) (fun _ hk => trivial), by repeat (first|(with_reducible first|exact HB.out|apply below_alloc|apply pw_below_drewN|apply below_drew1|refine below_set ?_ GE101.out|refine below_set ?_ GE102.out)|exact HB.out)⟩

end Go.Proofs.YthdkjfhpbigdpaaDoor.Q

namespace Go.Proofs.YthdkjfhpbigdpaaDoor.Q
open Go.RowKit Go.Proofs.YthdkjfhpbigdpaaDoorW.PrintWords Go.Proofs.YthdkjfhpbigdpaaDoorW.PrintLast Go.Proofs.YthdkjfhpbigdpaaDoorW.PrintMore
attribute [local go_sem] max2_int min2_int max_two min_two max_three min_three max_four min_four
set_option linter.unusedVariables false
set_option linter.unusedSimpArgs false

def tree_number.f (a0_0 : Int) (a0_1 : ByteArray) (a0_2 : Int) (a0_3 : Int) (l0_4 : List (S24)) : Option (Bool) := if a0_0 = 9 then (if a0_2 ≥ 0 then (some (decide (a0_2 ≤ 999999999999999999))) else (some false)) else (if a0_0 = 8 then (some (a0_2 == (wrap64 ((l0_4.length : Int) - 1)))) else (some (a0_2 == 0)))
set_option maxHeartbeats 8000000 in
set_option maxRecDepth 100000 in
theorem tree_number.calls (a0_0 : Int) (a0_1 : ByteArray) (a0_2 : Int) (a0_3 : Int) (A0_4 : Option Addr) (c0_4 : Nat) (l0_4 : List (S24)) (r : Bool) (w : World) (hr0_4 : Kd.C k24 w A0_4 l0_4.length l0_4) (hc0_4 : l0_4.length ≤ c0_4) (h : tree_number.f a0_0 a0_1 a0_2 a0_3 l0_4 = some r) :
  Calls Tryd.prog 30 #[.agg #[.int .i64 a0_0, .string a0_1, .int .i64 a0_2, .int .i64 a0_3, .slice A0_4 l0_4.length c0_4]] w fun e w' => e = .returned (.bool r) ∧ Below w.heap.size w w' := by
 have hu24 := Tryd.underlying24
 have HR0_4 := Aside0.mk hr0_4
 have HC0_4 := Aside0.mk hc0_4
 clear hr0_4 hc0_4
 have HB := Aside0.mk (Below.refl w.heap.size w)
 have H : (if a0_0 = 9 then (if a0_2 ≥ 0 then (some (decide (a0_2 ≤ 999999999999999999))) else (some false)) else (if a0_0 = 8 then (some (a0_2 == (wrap64 ((l0_4.length : Int) - 1)))) else (some (a0_2 == 0)))) = some r := h
 clear h
 by_cases c2 : a0_0 = 9
 ·rw [if_pos c2] at H
  have c2b0 : (a0_0 == 9) = true := beq_iff_eq.mpr c2
  have c2b1 : (a0_0 != 9) = false := bne_eq_false_iff_eq.mpr c2
  clear c2
  by_cases c3 : a0_2 ≥ 0
  ·rw [if_pos c3] at H
   have c3b0 : decide (0 ≤ a0_2) = true := decide_eq_true c3
   clear c3
   obtain rfl := Option.some.inj H
   go_enter Tryd.func30, Tryd.ntmps30
   go_wp2_with (first|((with_reducible refine gate_dst (N := 1) rfl ?_); refine box_event ?hg (N := 1) ?hd (cs := #[.int .i64 a0_0, .string a0_1, .int .i64 a0_2, .int .i64 a0_3, .slice A0_4 l0_4.length c0_4]) (t := 24) ?hr ?_; (case hd => rfl); (case hg => rfl); (case hr => first|(go_simp; done)|(go_simp; rfl)); intro gb135 hg w4 hbox hb; have n0_ := Aside0.mk (below_step (by repeat (first|(with_reducible first|exact HB.out|apply below_alloc|apply pw_below_drewN|apply below_drew1)|exact HB.out)) hb); have n1_ := Aside0.mk (hbox); have n2_ := Aside0.mk ((by rw [hg]; exact (below_size (by repeat (first|(with_reducible first|exact HB.out|apply below_alloc|apply pw_below_drewN|apply below_drew1)|exact HB.out))) : w.heap.size ≤ gb135)); have n3_ := Aside0.mk ((by rw [hg]; exact (below_size (by repeat (first|(with_reducible first|exact HB.out|apply below_alloc|apply pw_below_drewN|apply below_drew1)|exact HB.out))) : w.heap.size ≤ gb135)); clear HB; have HB := n0_; have BK135 := n1_; have GW135 := n2_; have GE135 := n3_; clear n0_ n1_ n2_ n3_; clear hb hbox hg; have hcz5_0 : w4.cell? ⟨gb135, 0, none⟩ = some (.int .i64 a0_0) := (blk_cell BK135.out 0).trans rfl; have hcz5_1 : w4.cell? ⟨gb135, 1, none⟩ = some (.string a0_1) := (blk_cell BK135.out 1).trans rfl; have hcz5_2 : w4.cell? ⟨gb135, 2, none⟩ = some (.int .i64 a0_2) := (blk_cell BK135.out 2).trans rfl; have hcz5_3 : w4.cell? ⟨gb135, 3, none⟩ = some (.int .i64 a0_3) := (blk_cell BK135.out 3).trans rfl; have hcz5_4 : w4.cell? ⟨gb135, 4, none⟩ = some (.slice A0_4 l0_4.length c0_4) := (blk_cell BK135.out 4).trans rfl; have hfz5_0 := blk_frozen BK135.out 0; have hfz5_1 := blk_frozen BK135.out 1; have hfz5_2 := blk_frozen BK135.out 2; have hfz5_3 := blk_frozen BK135.out 3; have hfz5_4 := blk_frozen BK135.out 4))
   go_ret
   exact ⟨by first|rfl|(simp [errW_none, errW_some] <;> rfl)|(simp [*, errW_none, errW_some] <;> rfl), by repeat (first|(with_reducible first|exact HB.out|apply below_alloc|apply pw_below_drewN|apply below_drew1|refine below_set ?_ GE135.out)|exact HB.out)⟩
  ·rw [if_neg c3] at H
   have c3b0 : decide (0 ≤ a0_2) = false := decide_eq_false c3
   clear c3
   obtain rfl := Option.some.inj H
   go_enter Tryd.func30, Tryd.ntmps30
   go_wp2_with (first|((with_reducible refine gate_dst (N := 1) rfl ?_); refine box_event ?hg (N := 1) ?hd (cs := #[.int .i64 a0_0, .string a0_1, .int .i64 a0_2, .int .i64 a0_3, .slice A0_4 l0_4.length c0_4]) (t := 24) ?hr ?_; (case hd => rfl); (case hg => rfl); (case hr => first|(go_simp; done)|(go_simp; rfl)); intro gb135 hg w6 hbox hb; have n0_ := Aside0.mk (below_step (by repeat (first|(with_reducible first|exact HB.out|apply below_alloc|apply pw_below_drewN|apply below_drew1)|exact HB.out)) hb); have n1_ := Aside0.mk (hbox); have n2_ := Aside0.mk ((by rw [hg]; exact (below_size (by repeat (first|(with_reducible first|exact HB.out|apply below_alloc|apply pw_below_drewN|apply below_drew1)|exact HB.out))) : w.heap.size ≤ gb135)); have n3_ := Aside0.mk ((by rw [hg]; exact (below_size (by repeat (first|(with_reducible first|exact HB.out|apply below_alloc|apply pw_below_drewN|apply below_drew1)|exact HB.out))) : w.heap.size ≤ gb135)); clear HB; have HB := n0_; have BK135 := n1_; have GW135 := n2_; have GE135 := n3_; clear n0_ n1_ n2_ n3_; clear hb hbox hg; have hcz7_0 : w6.cell? ⟨gb135, 0, none⟩ = some (.int .i64 a0_0) := (blk_cell BK135.out 0).trans rfl; have hcz7_1 : w6.cell? ⟨gb135, 1, none⟩ = some (.string a0_1) := (blk_cell BK135.out 1).trans rfl; have hcz7_2 : w6.cell? ⟨gb135, 2, none⟩ = some (.int .i64 a0_2) := (blk_cell BK135.out 2).trans rfl; have hcz7_3 : w6.cell? ⟨gb135, 3, none⟩ = some (.int .i64 a0_3) := (blk_cell BK135.out 3).trans rfl; have hcz7_4 : w6.cell? ⟨gb135, 4, none⟩ = some (.slice A0_4 l0_4.length c0_4) := (blk_cell BK135.out 4).trans rfl; have hfz7_0 := blk_frozen BK135.out 0; have hfz7_1 := blk_frozen BK135.out 1; have hfz7_2 := blk_frozen BK135.out 2; have hfz7_3 := blk_frozen BK135.out 3; have hfz7_4 := blk_frozen BK135.out 4))
   go_ret
   exact ⟨by first|rfl|(simp [errW_none, errW_some] <;> rfl)|(simp [*, errW_none, errW_some] <;> rfl), by repeat (first|(with_reducible first|exact HB.out|apply below_alloc|apply pw_below_drewN|apply below_drew1|refine below_set ?_ GE135.out)|exact HB.out)⟩
 ·rw [if_neg c2] at H
  have c2b0 : (a0_0 == 9) = false := beq_eq_false_iff_ne.mpr c2
  have c2b1 : (a0_0 != 9) = true := bne_iff_ne.mpr c2
  by_cases c8 : a0_0 = 8
  ·rw [if_pos c8] at H
   have c8b0 : (a0_0 == 8) = true := beq_iff_eq.mpr c8
   have c8b1 : (a0_0 != 8) = false := bne_eq_false_iff_eq.mpr c8
   clear c8
   obtain rfl := Option.some.inj H
   go_enter Tryd.func30, Tryd.ntmps30
   go_wp2_with (first|((with_reducible refine gate_dst (N := 1) rfl ?_); refine box_event ?hg (N := 1) ?hd (cs := #[.int .i64 a0_0, .string a0_1, .int .i64 a0_2, .int .i64 a0_3, .slice A0_4 l0_4.length c0_4]) (t := 24) ?hr ?_; (case hd => rfl); (case hg => rfl); (case hr => first|(go_simp; done)|(go_simp; rfl)); intro gb135 hg w9 hbox hb; have n0_ := Aside0.mk (below_step (by repeat (first|(with_reducible first|exact HB.out|apply below_alloc|apply pw_below_drewN|apply below_drew1)|exact HB.out)) hb); have n1_ := Aside0.mk (hbox); have n2_ := Aside0.mk ((by rw [hg]; exact (below_size (by repeat (first|(with_reducible first|exact HB.out|apply below_alloc|apply pw_below_drewN|apply below_drew1)|exact HB.out))) : w.heap.size ≤ gb135)); have n3_ := Aside0.mk ((by rw [hg]; exact (below_size (by repeat (first|(with_reducible first|exact HB.out|apply below_alloc|apply pw_below_drewN|apply below_drew1)|exact HB.out))) : w.heap.size ≤ gb135)); clear HB; have HB := n0_; have BK135 := n1_; have GW135 := n2_; have GE135 := n3_; clear n0_ n1_ n2_ n3_; clear hb hbox hg; have hcz10_0 : w9.cell? ⟨gb135, 0, none⟩ = some (.int .i64 a0_0) := (blk_cell BK135.out 0).trans rfl; have hcz10_1 : w9.cell? ⟨gb135, 1, none⟩ = some (.string a0_1) := (blk_cell BK135.out 1).trans rfl; have hcz10_2 : w9.cell? ⟨gb135, 2, none⟩ = some (.int .i64 a0_2) := (blk_cell BK135.out 2).trans rfl; have hcz10_3 : w9.cell? ⟨gb135, 3, none⟩ = some (.int .i64 a0_3) := (blk_cell BK135.out 3).trans rfl; have hcz10_4 : w9.cell? ⟨gb135, 4, none⟩ = some (.slice A0_4 l0_4.length c0_4) := (blk_cell BK135.out 4).trans rfl; have hfz10_0 := blk_frozen BK135.out 0; have hfz10_1 := blk_frozen BK135.out 1; have hfz10_2 := blk_frozen BK135.out 2; have hfz10_3 := blk_frozen BK135.out 3; have hfz10_4 := blk_frozen BK135.out 4))
   go_ret
   exact ⟨by first|rfl|(simp [errW_none, errW_some] <;> rfl)|(simp [*, errW_none, errW_some] <;> rfl), by repeat (first|(with_reducible first|exact HB.out|apply below_alloc|apply pw_below_drewN|apply below_drew1|refine below_set ?_ GE135.out)|exact HB.out)⟩
  ·rw [if_neg c8] at H
   have c8b0 : (a0_0 == 8) = false := beq_eq_false_iff_ne.mpr c8
   have c8b1 : (a0_0 != 8) = true := bne_iff_ne.mpr c8
   obtain rfl := Option.some.inj H
   go_enter Tryd.func30, Tryd.ntmps30
   go_wp2_with (first|((with_reducible refine gate_dst (N := 1) rfl ?_); refine box_event ?hg (N := 1) ?hd (cs := #[.int .i64 a0_0, .string a0_1, .int .i64 a0_2, .int .i64 a0_3, .slice A0_4 l0_4.length c0_4]) (t := 24) ?hr ?_; (case hd => rfl); (case hg => rfl); (case hr => first|(go_simp; done)|(go_simp; rfl)); intro gb135 hg w11 hbox hb; have n0_ := Aside0.mk (below_step (by repeat (first|(with_reducible first|exact HB.out|apply below_alloc|apply pw_below_drewN|apply below_drew1)|exact HB.out)) hb); have n1_ := Aside0.mk (hbox); have n2_ := Aside0.mk ((by rw [hg]; exact (below_size (by repeat (first|(with_reducible first|exact HB.out|apply below_alloc|apply pw_below_drewN|apply below_drew1)|exact HB.out))) : w.heap.size ≤ gb135)); have n3_ := Aside0.mk ((by rw [hg]; exact (below_size (by repeat (first|(with_reducible first|exact HB.out|apply below_alloc|apply pw_below_drewN|apply below_drew1)|exact HB.out))) : w.heap.size ≤ gb135)); clear HB; have HB := n0_; have BK135 := n1_; have GW135 := n2_; have GE135 := n3_; clear n0_ n1_ n2_ n3_; clear hb hbox hg; have hcz12_0 : w11.cell? ⟨gb135, 0, none⟩ = some (.int .i64 a0_0) := (blk_cell BK135.out 0).trans rfl; have hcz12_1 : w11.cell? ⟨gb135, 1, none⟩ = some (.string a0_1) := (blk_cell BK135.out 1).trans rfl; have hcz12_2 : w11.cell? ⟨gb135, 2, none⟩ = some (.int .i64 a0_2) := (blk_cell BK135.out 2).trans rfl; have hcz12_3 : w11.cell? ⟨gb135, 3, none⟩ = some (.int .i64 a0_3) := (blk_cell BK135.out 3).trans rfl; have hcz12_4 : w11.cell? ⟨gb135, 4, none⟩ = some (.slice A0_4 l0_4.length c0_4) := (blk_cell BK135.out 4).trans rfl; have hfz12_0 := blk_frozen BK135.out 0; have hfz12_1 := blk_frozen BK135.out 1; have hfz12_2 := blk_frozen BK135.out 2; have hfz12_3 := blk_frozen BK135.out 3; have hfz12_4 := blk_frozen BK135.out 4))
   go_ret
   exact ⟨by first|rfl|(simp [errW_none, errW_some] <;> rfl)|(simp [*, errW_none, errW_some] <;> rfl), by repeat (first|(with_reducible first|exact HB.out|apply below_alloc|apply pw_below_drewN|apply below_drew1|refine below_set ?_ GE135.out)|exact HB.out)⟩

end Go.Proofs.YthdkjfhpbigdpaaDoor.Q

namespace Go.Proofs.YthdkjfhpbigdpaaDoor.Pure
open Go Go.RowKit Go.Lib Go.Proofs Go.Proofs.YthdkjfhpbigdpaaDoorW.PrintWords Go.Proofs.YthdkjfhpbigdpaaDoorW.PrintLast Go.Proofs.YthdkjfhpbigdpaaDoorW.PrintMore
namespace TreeMap
set_option linter.unusedVariables false
set_option linter.unusedSimpArgs false
def ent (k a b c : Int) (born : Nat) : MapEntry := { key := .int .i64 k, val := .agg #[.int .i64 a, .int .i64 b, .int .i64 c], born := born }
def rows : List (Int × Int × Int) := [(1, 0, 0), (1, 1, 1), (0, 2, 2), (1, 2, 2), (1, 2, 2), (2, 0, 8), (0, 2, 9), (2, 1, 9), (0, 0, 0), (3, 2, 2)]
def ents (n : Nat) : Array MapEntry := ((rows.take n).zipIdx.map fun (r, i) => ent ((i : Int) + 1) r.1 r.2.1 r.2.2 i).toArray
theorem hm : Tryd.prog.underlying 51 = some (.map 3 49) := by kernel_rfl
theorem hd : Tryd.prog.underlying 3 = some (.int .i64) := by kernel_rfl
theorem push_set {α : Type} (a : Array α) (x y : α) : (a.push x).setIfInBounds a.size y = a.push y := by
 apply Array.ext'
 simp
theorem setLast (w : World) (o o' : Obj) : { (w.alloc o) with heap := (w.alloc o).heap.setIfInBounds w.heap.size o' } = w.alloc o' := by
 cases w; simp only [World.alloc, push_set]
theorem ins (w : World) (es : Array MapEntry) (c : Nat) (k : Int) (v : Value) (h : Instr.findNow (.int .i64) (.int .i64 k) es.toList 0 = some none) :
  (Instr.mapUpdate 51 (.map (some w.heap.size)) (.int .i64 k) v).run Tryd.prog (w.alloc (.map es c)) = .ok () (w.alloc (.map (es.push { key := .int .i64 k, val := v, born := c }) (c + 1))) := by
 have hb : (w.alloc (.map es c)).heap[w.heap.size]? = some (.map es c) := by
  show (w.heap.push (.map es c))[w.heap.size]? = _
  simp
 have hk : MapKept.IsKey (.int .i64) (.int .i64 k) := rfl
 simp only [Instr.mapUpdate, Sem.run_bind, run_underlying hm, MapKept.run_getObj_map hb, MapKept.run_checkKey hd hk, MapKept.run_findKey hd h, MapKept.run_setObj_map _ hb, Result.andThen, setLast]
theorem insN (w : World) (n : Nat) (hn : n < 10) : (Instr.mapUpdate 51 (.map (some w.heap.size)) (.int .i64 ((n : Int) + 1)) (.agg #[.int .i64 (rows.getD n (0, 0, 0)).1, .int .i64 (rows.getD n (0, 0, 0)).2.1, .int .i64 (rows.getD n (0, 0, 0)).2.2])).run Tryd.prog (w.alloc (.map (ents n) n)) = .ok () (w.alloc (.map (ents (n + 1)) (n + 1))) := by
 have : n = 0 ∨ n = 1 ∨ n = 2 ∨ n = 3 ∨ n = 4 ∨ n = 5 ∨ n = 6 ∨ n = 7 ∨ n = 8 ∨ n = 9 := by omega
 rcases this with rfl|rfl|rfl|rfl|rfl|rfl|rfl|rfl|rfl|rfl <;> (rw [ins w _ _ _ _ (by rfl)]; rfl)
set_option maxRecDepth 100000 in
theorem shapes_any (w : World) : Calls Tryd.prog 28 #[] w fun e w' => e = .returned (.map (some w.heap.size)) ∧ w' = w.alloc (.map (ents 10) 10) := by
 have i0 : (Instr.mapUpdate 51 (.map (some w.heap.size)) (.int .i64 1) (.agg #[.int .i64 1, .int .i64 0, .int .i64 0])).run Tryd.prog (w.alloc (.map (ents 0) 0)) = .ok () (w.alloc (.map (ents 1) 1)) := insN w 0 (by omega)
 have i1 : (Instr.mapUpdate 51 (.map (some w.heap.size)) (.int .i64 2) (.agg #[.int .i64 1, .int .i64 1, .int .i64 1])).run Tryd.prog (w.alloc (.map (ents 1) 1)) = .ok () (w.alloc (.map (ents 2) 2)) := insN w 1 (by omega)
 have i2 : (Instr.mapUpdate 51 (.map (some w.heap.size)) (.int .i64 3) (.agg #[.int .i64 0, .int .i64 2, .int .i64 2])).run Tryd.prog (w.alloc (.map (ents 2) 2)) = .ok () (w.alloc (.map (ents 3) 3)) := insN w 2 (by omega)
 have i3 : (Instr.mapUpdate 51 (.map (some w.heap.size)) (.int .i64 4) (.agg #[.int .i64 1, .int .i64 2, .int .i64 2])).run Tryd.prog (w.alloc (.map (ents 3) 3)) = .ok () (w.alloc (.map (ents 4) 4)) := insN w 3 (by omega)
 have i4 : (Instr.mapUpdate 51 (.map (some w.heap.size)) (.int .i64 5) (.agg #[.int .i64 1, .int .i64 2, .int .i64 2])).run Tryd.prog (w.alloc (.map (ents 4) 4)) = .ok () (w.alloc (.map (ents 5) 5)) := insN w 4 (by omega)
 have i5 : (Instr.mapUpdate 51 (.map (some w.heap.size)) (.int .i64 6) (.agg #[.int .i64 2, .int .i64 0, .int .i64 8])).run Tryd.prog (w.alloc (.map (ents 5) 5)) = .ok () (w.alloc (.map (ents 6) 6)) := insN w 5 (by omega)
 have i6 : (Instr.mapUpdate 51 (.map (some w.heap.size)) (.int .i64 7) (.agg #[.int .i64 0, .int .i64 2, .int .i64 9])).run Tryd.prog (w.alloc (.map (ents 6) 6)) = .ok () (w.alloc (.map (ents 7) 7)) := insN w 6 (by omega)
 have i7 : (Instr.mapUpdate 51 (.map (some w.heap.size)) (.int .i64 8) (.agg #[.int .i64 2, .int .i64 1, .int .i64 9])).run Tryd.prog (w.alloc (.map (ents 7) 7)) = .ok () (w.alloc (.map (ents 8) 8)) := insN w 7 (by omega)
 have i8 : (Instr.mapUpdate 51 (.map (some w.heap.size)) (.int .i64 9) (.agg #[.int .i64 0, .int .i64 0, .int .i64 0])).run Tryd.prog (w.alloc (.map (ents 8) 8)) = .ok () (w.alloc (.map (ents 9) 9)) := insN w 8 (by omega)
 have i9 : (Instr.mapUpdate 51 (.map (some w.heap.size)) (.int .i64 10) (.agg #[.int .i64 3, .int .i64 2, .int .i64 2])).run Tryd.prog (w.alloc (.map (ents 9) 9)) = .ok () (w.alloc (.map (ents 10) 10)) := insN w 9 (by omega)
 have hmm : ∀ w : World, (Instr.makeMap 51 none).run Tryd.prog w = .ok (.map (some w.heap.size)) (w.alloc (.map (ents 0) 0)) := fun w => rfl
 go_enter Tryd.func28, Tryd.ntmps28
 go_wp2
 go_ret
 exact ⟨rfl, rfl⟩
end TreeMap
end Go.Proofs.YthdkjfhpbigdpaaDoor.Pure

namespace Go.Proofs.YthdkjfhpbigdpaaDoor.Pure
open Go Go.RowKit Go.Lib Go.Proofs Go.Proofs.YthdkjfhpbigdpaaDoor.Q Go.Proofs.YthdkjfhpbigdpaaDoorW.PrintWords Go.Proofs.YthdkjfhpbigdpaaDoorW.PrintLast Go.Proofs.YthdkjfhpbigdpaaDoorW.PrintMore
open HTree
namespace TreeNm
set_option linter.unusedVariables false
set_option linter.unusedSimpArgs false
theorem token_is (s : ByteArray) (k : Nat) (hs : s.size ≤ 1000000000) : tree_token.f s k = some (token s k) := by
 unfold tree_token.f lex_All.f token
 rw [if_pos (by omega)]
 cases h : HLex.lex s.data.toList with
 | error x => obtain ⟨p, er⟩ := x; simp
 | ok ts =>
  match ts with
  | [] => simp
  | [t] =>
   simp only [Option.bind_some, List.map_cons, List.map_nil, List.length_cons, List.length_nil]
   have e0 : rd_T33 [HLexC.toS t] 0 = HLexC.toS t := rfl
   rw [e0]
   simp only [HLexC.toS, Lib.toList_data, List.toList_toArray]
   by_cases h2 : t.kind = k
   ·have : (t.kind : Int) = (k : Int) := by omega
    simp [h2, Bool.beq_eq_decide_eq]
   ·have : ¬ (t.kind : Int) = (k : Int) := by omega
    simp [h2, this]
  | t :: u :: r =>
   have : ¬ (((List.map HLexC.toS (t :: u :: r)).length : Int) = 1) := by simp; omega
   simp only [Option.bind_some]
   rw [if_neg this]
theorem number_is (k : Int) (s : ByteArray) (n a : Int) (l : List T) (hl : l.length ≤ 1000000000) : tree_number.f k s n a l = some (number k n l.length) := by
 have hw : wrap64 ((l.length : Int) - 1) = (l.length : Int) - 1 := IntWalk.wrap64_in _ ⟨by omega, by omega⟩
 unfold tree_number.f number
 rw [hw]
 by_cases h9 : k = 9
 ·by_cases h0 : n ≥ 0
  ·rw [if_pos h9, if_pos h0, if_pos h9, decide_eq_true (show 0 ≤ n from h0), Bool.true_and]
  ·rw [if_pos h9, if_neg h0, if_pos h9, decide_eq_false (show ¬ 0 ≤ n from h0), Bool.false_and]
 ·rw [if_neg h9, if_neg h9]
  by_cases h8 : k = 8
  ·rw [if_pos h8, if_pos h8]
   cases h : decide (n = (l.length : Int) - 1) with
   | true => rw [beq_iff_eq.2 (of_decide_eq_true h)]
   | false => rw [beq_eq_false_iff_ne.2 (of_decide_eq_false h)]
  ·rw [if_neg h8, if_neg h8]
   cases h : decide (n = 0) with
   | true => rw [beq_iff_eq.2 (of_decide_eq_true h)]
   | false => rw [beq_eq_false_iff_ne.2 (of_decide_eq_false h)]
def signs : ByteArray := ⟨#[43, 32, 45, 32, 42, 32, 47, 32, 60, 32, 61, 61]⟩
theorem signs_low : ∀ (j : Nat) b, signs.data.toList[j]? = some b → b.toNat < 128 := by
 intro j b h
 have hm := List.mem_of_getElem? h
 have : ∀ b ∈ signs.data.toList, b.toNat < 128 := by decide
 exact this b hm
theorem fields_is : Lib.fields signs.data.toList = [[43], [45], [42], [47], [60], [61, 61]] := by decide +kernel
def sgs : List ByteArray := [⟨#[43]⟩, ⟨#[45]⟩, ⟨#[42]⟩, ⟨#[47]⟩, ⟨#[60]⟩, ⟨#[61, 61]⟩]
theorem contains_is (s : ByteArray) : Lib.containsS sgs s = oper s := by
 have h1 := Lib.containsS_iff sgs s
 have h2 : oper s = true ↔ s ∈ sgs := by
  unfold oper sgs
  rw [List.contains_iff_mem]
  simp only [List.mem_cons, List.mem_nil_iff, or_false, HLexC.bytes_eq_iff]
 cases ha : Lib.containsS sgs s <;> cases hb : oper s <;> simp_all
set_option maxRecDepth 100000 in
theorem named_any (s : ByteArray) (wh : Int) (hs : s.size ≤ 1000000000) (w : World) (htab : Lib.TabIs Tryd.prog w "strings.asciiSpace" .u8 Lib.asciiSpaceTab) :
  Calls Tryd.prog 29 #[.string s, .int .i64 wh] w fun e w' => e = .returned (.bool (named s wh)) ∧ Below w.heap.size w w' := by
 have HT := Lib.hid htab
 clear htab
 rcases Classical.em (wh = 1) with q | q
 ·subst q
  go_enter Tryd.func29, Tryd.ntmps29
  go_wp2_with fail
  refine (tree_token.calls s 1 _ _ (token_is s 1 hs)).mono ?_
  rintro e w5 ⟨rfl, hb⟩
  go_wp2_with fail
  go_ret
  exact ⟨rfl, hb⟩
 have b1 : (wh == 1) = false := beq_eq_false_iff_ne.2 q
 have Q1 := Lib.hid q
 clear q
 rcases Classical.em (wh = 2) with q | q
 ·subst q
  go_enter Tryd.func29, Tryd.ntmps29
  go_wp2_with fail
  refine (tree_token.calls s 2 _ _ (token_is s 2 hs)).mono ?_
  rintro e w5 ⟨rfl, hb⟩
  go_wp2_with fail
  go_ret
  exact ⟨rfl, hb⟩
 have b2 : (wh == 2) = false := beq_eq_false_iff_ne.2 q
 have Q2 := Lib.hid q
 clear q
 rcases Classical.em (wh = 3) with q | q
 ·subst q
  rcases Classical.em (s.data.toList = []) with q0 | q0
  ·have bs : s.toList.isEmpty = true := by rw [Lib.toList_data, q0]; rfl
   have HN : Hid (named s 3 = false) := Lib.hid (by show oper s = false; unfold oper; rw [q0]; rfl)
   clear q0
   go_enter Tryd.func29, Tryd.ntmps29
   go_wp2_with fail
   go_ret
   exact ⟨by rw [HN.out]; rfl, Below.refl _ _⟩
  ·have bs : s.toList.isEmpty = false := by rw [Lib.toList_data]; cases h : s.data.toList with | nil => exact absurd h q0 | cons a l => rfl
   clear q0
   go_enter Tryd.func29, Tryd.ntmps29
   go_wp2_with fail
   refine (Tryd.strings_Fields signs w (by decide) signs_low HT.out).mono ?_
   rintro e w5 ⟨rfl, rfl⟩
   rw [fields_is]
   have hc : ∀ j, j < sgs.length → (w.alloc (.cells ([[43], [45], [42], [47], [60], [61, 61]].map fun l => Value.string ⟨(l : List UInt8).toArray⟩).toArray 9)).cell? ⟨w.heap.size, 0 + j, none⟩ = some (.string (sgs.getD j ByteArray.empty)) := by
    intro j hj
    have hb := blk_cell (blk_new w (.cells ([[43], [45], [42], [47], [60], [61, 61]].map fun l => Value.string ⟨(l : List UInt8).toArray⟩).toArray 9)) j
    rw [Nat.zero_add, hb]
    have : j = 0 ∨ j = 1 ∨ j = 2 ∨ j = 3 ∨ j = 4 ∨ j = 5 := by simp only [sgs, List.length_cons, List.length_nil] at hj; omega
    rcases this with rfl|rfl|rfl|rfl|rfl|rfl <;> rfl
   have hbw := below_alloc (Below.refl w.heap.size w) (.cells ([[43], [45], [42], [47], [60], [61, 61]].map fun l => Value.string ⟨(l : List UInt8).toArray⟩).toArray 9)
   generalize w.alloc (.cells ([[43], [45], [42], [47], [60], [61, 61]].map fun l => Value.string ⟨(l : List UInt8).toArray⟩).toArray 9) = w6 at hc hbw ⊢
   have HC := Lib.hid hc; have HB := Lib.hid hbw
   clear hc hbw
   go_wp2_with fail
   refine (Tryd.slices_Contains_string w.heap.size 0 6 6 sgs s w6 (by decide) (by decide) HC.out).mono ?_
   rintro e w7 ⟨rfl, rfl⟩
   rw [show sgs.take 6 = sgs from rfl, contains_is]
   go_wp2_with fail
   go_ret
   exact ⟨rfl, HB.out⟩
 have b3 : (wh == 3) = false := beq_eq_false_iff_ne.2 q
 have Q3 := Lib.hid q
 clear q
 rcases Classical.em (s.data.toList = []) with q0 | q0
 ·have bs : s.toList.isEmpty = true := by rw [Lib.toList_data, q0]; rfl
  have HN : Hid (named s wh = true) := Lib.hid (by unfold named; rw [if_neg Q1.out, if_neg Q2.out, if_neg Q3.out]; exact decide_eq_true q0)
  clear q0
  go_enter Tryd.func29, Tryd.ntmps29
  go_wp2_with fail
  go_ret
  exact ⟨by rw [HN.out]; rfl, Below.refl _ _⟩
 ·have bs : s.toList.isEmpty = false := by rw [Lib.toList_data]; cases h : s.data.toList with | nil => exact absurd h q0 | cons a l => rfl
  have HN : Hid (named s wh = false) := Lib.hid (by unfold named; rw [if_neg Q1.out, if_neg Q2.out, if_neg Q3.out]; exact decide_eq_false q0)
  clear q0
  go_enter Tryd.func29, Tryd.ntmps29
  go_wp2_with fail
  go_ret
  exact ⟨by rw [HN.out]; rfl, Below.refl _ _⟩
end TreeNm
end Go.Proofs.YthdkjfhpbigdpaaDoor.Pure

namespace Go.Proofs.YthdkjfhpbigdpaaDoor.Pure
open Go Go.RowKit Go.Lib Go.Proofs Go.Proofs.YthdkjfhpbigdpaaDoor.Q Go.Proofs.YthdkjfhpbigdpaaDoorW.PrintWords Go.Proofs.YthdkjfhpbigdpaaDoorW.PrintLast Go.Proofs.YthdkjfhpbigdpaaDoorW.PrintMore
open HTree
namespace TreeMay
set_option linter.unusedVariables false
set_option linter.unusedSimpArgs false
def known (k : Int) : Bool := decide (1 ≤ k) && decide (k ≤ 10)
theorem zero49 (w : World) : (zeroValue 49).run Tryd.prog w = .ok (.agg #[.int .i64 0, .int .i64 0, .int .i64 0]) w := by kernel_rfl
theorem find_no (k : Int) (h : known k = false) : Instr.findNow (.int .i64) (.int .i64 k) (TreeMap.ents 10).toList 0 = some none := by
 have hne : ∀ i : Int, 1 ≤ i → i ≤ 10 → (k == i) = false := by
  intro i h1 h2
  refine beq_eq_false_iff_ne.2 ?_
  rintro rfl
  rw [known, decide_eq_true h1, decide_eq_true h2] at h; cases h
 have e : (TreeMap.ents 10).toList = [TreeMap.ent 1 1 0 0 0, TreeMap.ent 2 1 1 1 1, TreeMap.ent 3 0 2 2 2, TreeMap.ent 4 1 2 2 3, TreeMap.ent 5 1 2 2 4, TreeMap.ent 6 2 0 8 5, TreeMap.ent 7 0 2 9 6, TreeMap.ent 8 2 1 9 7, TreeMap.ent 9 0 0 0 8, TreeMap.ent 10 3 2 2 9] := rfl
 rw [e]
 simp [Instr.findNow, Instr.sameNow, TreeMap.ent, hne]
theorem look_at (k : Int) (w : World) (g : Nat) (hb : w.heap[g]? = some (.map (TreeMap.ents 10) 10)) (j : Nat) (v : Value) (hf : Instr.findNow (.int .i64) (.int .i64 k) (TreeMap.ents 10).toList 0 = some (some (j, v))) :
  (Instr.lookup 51 (.map (some g)) (.int .i64 k) true).run Tryd.prog w = .ok (.tuple #[v, .bool true]) w := by
 have hk : MapKept.IsKey (.int .i64) (.int .i64 k) := rfl
 simp [Instr.lookup, run_underlying TreeMap.hm, MapKept.run_getObj_map hb, MapKept.run_checkKey TreeMap.hd hk, MapKept.run_findKey TreeMap.hd hf, Result.andThen]
theorem look (k : Int) (w : World) (g : Nat) (hb : w.heap[g]? = some (.map (TreeMap.ents 10) 10)) :
  (Instr.lookup 51 (.map (some g)) (.int .i64 k) true).run Tryd.prog w = .ok (.tuple #[.agg #[.int .i64 (what k), .int .i64 (least k), .int .i64 (most k)], .bool (known k)]) w := by
 have hk : MapKept.IsKey (.int .i64) (.int .i64 k) := rfl
 cases h : known k with
 | false =>
  have hz : what k = 0 ∧ least k = 0 ∧ most k = 0 := by
   simp only [known, Bool.and_eq_false_imp, decide_eq_true_eq, decide_eq_false_iff_not] at h
   simp only [what, least, most]
   refine ⟨?_, ?_, ?_⟩ <;> (repeat' split) <;> omega
  rw [hz.1, hz.2.1, hz.2.2]
  simp [Instr.lookup, run_underlying TreeMap.hm, MapKept.run_getObj_map hb, MapKept.run_checkKey TreeMap.hd hk, MapKept.run_findKey TreeMap.hd (find_no k h), zero49, Result.andThen]
 | true =>
  simp only [known, Bool.and_eq_true, decide_eq_true_eq] at h
  have : k = 1 ∨ k = 2 ∨ k = 3 ∨ k = 4 ∨ k = 5 ∨ k = 6 ∨ k = 7 ∨ k = 8 ∨ k = 9 ∨ k = 10 := by omega
  rcases this with rfl|rfl|rfl|rfl|rfl|rfl|rfl|rfl|rfl|rfl
  ·exact look_at _ w g hb 0 _ (by rfl)
  ·exact look_at _ w g hb 1 _ (by rfl)
  ·exact look_at _ w g hb 2 _ (by rfl)
  ·exact look_at _ w g hb 3 _ (by rfl)
  ·exact look_at _ w g hb 4 _ (by rfl)
  ·exact look_at _ w g hb 5 _ (by rfl)
  ·exact look_at _ w g hb 6 _ (by rfl)
  ·exact look_at _ w g hb 7 _ (by rfl)
  ·exact look_at _ w g hb 8 _ (by rfl)
  ·exact look_at _ w g hb 9 _ (by rfl)
def MayC (x : T) : Prop := ∀ (w : World) (A : Option Addr) (c : Nat), Kd.C k24 w A x.f4.length x.f4 → x.f4.length ≤ c → Lib.TabIs Tryd.prog w "strings.asciiSpace" .u8 Lib.asciiSpaceTab →
 Calls Tryd.prog 21 #[.agg #[.int .i64 x.f0, .string x.f1, .int .i64 x.f2, .int .i64 x.f3, .slice A x.f4.length c]] w fun e w' => e = .returned (.bool (may x)) ∧ Below w.heap.size w w'
theorem part_is (t : T) (x : T) (i : Int) : HTree.part t.f0 t.f2 x i = if t.f0 = 7 ∧ 0 < i then decide (x.f0 = 8) && may x else if t.f0 = 8 ∧ i < t.f2 ∧ x.f0 ≠ 1 then false else decide (x.f0 ≠ 8) && may x := rfl
set_option maxRecDepth 100000 in
theorem part_any (t : T) (i : Nat) (hi : i < t.f4.length) (hl9 : t.f4.length ≤ 1000000000) (H : MayC t.f4[i]) (w : World) (A : Option Addr) (c : Nat) (hC : Kd.C k24 w A t.f4.length t.f4) (hl : t.f4.length ≤ c) (htab : Lib.TabIs Tryd.prog w "strings.asciiSpace" .u8 Lib.asciiSpaceTab) :
  Calls Tryd.prog 31 #[.agg #[.int .i64 t.f0, .string t.f1, .int .i64 t.f2, .int .i64 t.f3, .slice A t.f4.length c], .int .i64 i] w fun e w' => e = .returned (.bool (HTree.part t.f0 t.f2 t.f4[i] (i : Int))) ∧ Below w.heap.size w w' := by
 have HT := Lib.hid (tabBelow_of_tabIs htab)
 clear htab
 have HH := Lib.hid H
 clear H
 have hba := below_alloc (Below.refl w.heap.size w) (Obj.cells #[.int .i64 t.f0, .string t.f1, .int .i64 t.f2, .int .i64 t.f3, .slice A t.f4.length c] 24)
 have h1 := blk_new w (Obj.cells #[.int .i64 t.f0, .string t.f1, .int .i64 t.f2, .int .i64 t.f3, .slice A t.f4.length c] 24)
 go_enter Tryd.func31, Tryd.ntmps31
 go_upto_region 1 with (fail)
 generalize hwq : w.alloc (Obj.cells #[.int .i64 t.f0, .string t.f1, .int .i64 t.f2, .int .i64 t.f3, .slice A t.f4.length c] 24) = wq at hba h1 ⊢
 clear hwq
 have HB := Lib.hid hba; have Bt := Lib.hid h1; have Ct := Lib.hid (Kd.C_below hC hba)
 clear hba h1 hC
 have t0 := blk_cell Bt.out 0; have t1 := blk_cell Bt.out 1; have t2 := blk_cell Bt.out 2; have t3 := blk_cell Bt.out 3; have t4 := blk_cell Bt.out 4
 simp only [List.getElem?_toArray, List.getElem?_cons_zero, List.getElem?_cons_succ] at t0 t1 t2 t3 t4
 obtain ⟨ad, A3, c3, rfl, x0, x1, x2, x3, x4, hl3, hc3⟩ := at_T24 Ct.out (i : Int) (by omega) (by omega)
 simp only [Int.toNat_natCast] at x0 x1 x2 x3 x4
 have hrk : rd_T24 t.f4 (i : Int) = t.f4[i] := by
  unfold rd_T24
  rw [Int.toNat_natCast, List.getD_eq_getElem?_getD, List.getElem?_eq_getElem hi]; rfl
 rw [hrk] at x0 x1 x2 x3 x4 hl3 hc3
 generalize hx : t.f4[i] = x at *
 have Cx := Lib.hid hc3; have HX := Lib.hid hx
 clear hrk hx hc3
 go_upto_region 2 with (fail)
 have hbx := blk_new wq (Obj.cells #[.int .i64 x.f0, .string x.f1, .int .i64 x.f2, .int .i64 x.f3, .slice A3 x.f4.length c3] 24)
 have hbb := below_alloc (Below.refl wq.heap.size wq) (Obj.cells #[.int .i64 x.f0, .string x.f1, .int .i64 x.f2, .int .i64 x.f3, .slice A3 x.f4.length c3] 24)
 generalize wq.alloc (Obj.cells #[.int .i64 x.f0, .string x.f1, .int .i64 x.f2, .int .i64 x.f3, .slice A3 x.f4.length c3] 24) = ws at hbx hbb ⊢
 have hbt := blk_below Bt.out hbb
 have Bx := Lib.hid hbx; have B2 := Lib.hid hbt; have HB2 := Lib.hid (below_step HB.out hbb); have C2 := Lib.hid (Kd.C_below Cx.out hbb)
 clear hbx hbb hbt x0 x1 x2 x3 x4 t0 t1 t2 t3 t4 Bt HB Cx Ct
 have t0 := blk_cell B2.out 0; have t1 := blk_cell B2.out 1; have t2 := blk_cell B2.out 2; have t3 := blk_cell B2.out 3; have t4 := blk_cell B2.out 4
 simp only [List.getElem?_toArray, List.getElem?_cons_zero, List.getElem?_cons_succ] at t0 t1 t2 t3 t4
 have x0 := blk_cell Bx.out 0; have x1 := blk_cell Bx.out 1; have x2 := blk_cell Bx.out 2; have x3 := blk_cell Bx.out 3; have x4 := blk_cell Bx.out 4
 simp only [List.getElem?_toArray, List.getElem?_cons_zero, List.getElem?_cons_succ] at x0 x1 x2 x3 x4
 have HP := Lib.hid (part_is t x (i : Int))
 rcases Classical.em (t.f0 = 7) with q | q
 ·have Q7 := Lib.hid q
  have b7 : (t.f0 == 7) = true := beq_iff_eq.2 q
  have n7 : (t.f0 != 7) = false := bne_eq_false_iff_eq.2 q
  clear q
  have b8 : (t.f0 == 8) = false := beq_eq_false_iff_ne.2 (by have := Q7.out; omega)
  rcases Classical.em (0 < i) with q | q
  ·have Q0 := Lib.hid q
   have bg : decide ((i : Int) > 0) = true := decide_eq_true (by omega)
   have bg1 : decide (0 < i) = true := decide_eq_true q
   have bg2 : decide ((0 : Int) < (i : Int)) = true := decide_eq_true (by omega)
   clear q
   rcases Classical.em (x.f0 = 8) with q | q
   ·have E := Lib.hid q
    have bx8 : (x.f0 == 8) = true := beq_iff_eq.2 q
    have nx8 : (x.f0 != 8) = false := bne_eq_false_iff_eq.2 q
    clear q
    have HR : Hid (HTree.part t.f0 t.f2 x (i : Int) = may x) := Lib.hid (by rw [HP.out]; rw [if_pos ⟨Q7.out, by have := Q0.out; omega⟩, decide_eq_true E.out, Bool.true_and])
    go_wp2_with fail
    refine (HH.out _ _ _ C2.out hl3 (HT.out.on HB2.out).here).mono ?_
    rintro e w5 ⟨rfl, hb⟩
    have HB5 := Lib.hid (below_step HB2.out hb)
    clear hb
    go_wp2_with fail
    go_ret
    exact ⟨by rw [HX.out, HR.out]; rfl, HB5.out⟩
   ·have E := Lib.hid q
    have bx8 : (x.f0 == 8) = false := beq_eq_false_iff_ne.2 q
    have nx8 : (x.f0 != 8) = true := bne_iff_ne.2 q
    clear q
    have HR : Hid (HTree.part t.f0 t.f2 x (i : Int) = false) := Lib.hid (by rw [HP.out]; rw [if_pos ⟨Q7.out, by have := Q0.out; omega⟩, decide_eq_false E.out, Bool.false_and])
    go_wp2_with fail
    go_ret
    exact ⟨by rw [HX.out, HR.out]; rfl, HB2.out⟩
  ·have Q0 := Lib.hid q
   have bg : decide ((i : Int) > 0) = false := decide_eq_false (by omega)
   have bg1 : decide (0 < i) = false := decide_eq_false q
   have bg2 : decide ((0 : Int) < (i : Int)) = false := decide_eq_false (by omega)
   clear q
   rcases Classical.em (x.f0 = 8) with q | q
   ·have E := Lib.hid q
    have bx8 : (x.f0 == 8) = true := beq_iff_eq.2 q
    have nx8 : (x.f0 != 8) = false := bne_eq_false_iff_eq.2 q
    clear q
    have HR : Hid (HTree.part t.f0 t.f2 x (i : Int) = false) := Lib.hid (by rw [HP.out]; rw [if_neg (by have := Q0.out; omega), if_neg (by have := Q7.out; omega)]; simp [E.out])
    go_wp2_with fail
    go_ret
    exact ⟨by rw [HX.out, HR.out]; rfl, HB2.out⟩
   ·have E := Lib.hid q
    have bx8 : (x.f0 == 8) = false := beq_eq_false_iff_ne.2 q
    have nx8 : (x.f0 != 8) = true := bne_iff_ne.2 q
    clear q
    have HR : Hid (HTree.part t.f0 t.f2 x (i : Int) = may x) := Lib.hid (by rw [HP.out]; rw [if_neg (by have := Q0.out; omega), if_neg (by have := Q7.out; omega)]; simp [E.out])
    go_wp2_with fail
    refine (HH.out _ _ _ C2.out hl3 (HT.out.on HB2.out).here).mono ?_
    rintro e w5 ⟨rfl, hb⟩
    have HB5 := Lib.hid (below_step HB2.out hb)
    clear hb
    go_wp2_with fail
    go_ret
    exact ⟨by rw [HX.out, HR.out]; rfl, HB5.out⟩
 ·have Q7 := Lib.hid q
  have b7 : (t.f0 == 7) = false := beq_eq_false_iff_ne.2 q
  have n7 : (t.f0 != 7) = true := bne_iff_ne.2 q
  clear q
  rcases Classical.em (t.f0 = 8) with q | q
  ·have Q8 := Lib.hid q
   have b8 : (t.f0 == 8) = true := beq_iff_eq.2 q
   have n8 : (t.f0 != 8) = false := bne_eq_false_iff_eq.2 q
   clear q
   rcases Classical.em ((i : Int) < t.f2) with q | q
   ·have Q2 := Lib.hid q
    have bl : decide ((i : Int) < t.f2) = true := decide_eq_true q
    clear q
    rcases Classical.em (x.f0 = 1) with q | q
    ·have E1 := Lib.hid q
     have bx1 : (x.f0 == 1) = true := beq_iff_eq.2 q
     have nx1 : (x.f0 != 1) = false := bne_eq_false_iff_eq.2 q
     clear q
     have nx8 : (x.f0 != 8) = true := bne_iff_ne.2 (by have := E1.out; omega)
     have HR : Hid (HTree.part t.f0 t.f2 x (i : Int) = may x) := Lib.hid (by rw [HP.out]; rw [if_neg (fun h => Q7.out h.1), if_neg (fun h => h.2.2 E1.out), decide_eq_true (by have := E1.out; omega), Bool.true_and])
     go_wp2_with fail
     refine (HH.out _ _ _ C2.out hl3 (HT.out.on HB2.out).here).mono ?_
     rintro e w5 ⟨rfl, hb⟩
     have HB5 := Lib.hid (below_step HB2.out hb)
     clear hb
     go_wp2_with fail
     go_ret
     exact ⟨by rw [HX.out, HR.out]; rfl, HB5.out⟩
    ·have E1 := Lib.hid q
     have bx1 : (x.f0 == 1) = false := beq_eq_false_iff_ne.2 q
     have nx1 : (x.f0 != 1) = true := bne_iff_ne.2 q
     clear q
     have HR : Hid (HTree.part t.f0 t.f2 x (i : Int) = false) := Lib.hid (by rw [HP.out]; rw [if_neg (fun h => Q7.out h.1), if_pos ⟨Q8.out, Q2.out, E1.out⟩])
     go_wp2_with fail
     go_ret
     exact ⟨by rw [HX.out, HR.out]; rfl, HB2.out⟩
   ·have Q2 := Lib.hid q
    have bl : decide ((i : Int) < t.f2) = false := decide_eq_false q
    clear q
    rcases Classical.em (x.f0 = 8) with q | q
    ·have E := Lib.hid q
     have bx8 : (x.f0 == 8) = true := beq_iff_eq.2 q
     have nx8 : (x.f0 != 8) = false := bne_eq_false_iff_eq.2 q
     clear q
     have HR : Hid (HTree.part t.f0 t.f2 x (i : Int) = false) := Lib.hid (by rw [HP.out]; rw [if_neg (fun h => Q7.out h.1), if_neg (fun h => Q2.out h.2.1)]; simp [E.out])
     go_wp2_with fail
     go_ret
     exact ⟨by rw [HX.out, HR.out]; rfl, HB2.out⟩
    ·have E := Lib.hid q
     have bx8 : (x.f0 == 8) = false := beq_eq_false_iff_ne.2 q
     have nx8 : (x.f0 != 8) = true := bne_iff_ne.2 q
     clear q
     have HR : Hid (HTree.part t.f0 t.f2 x (i : Int) = may x) := Lib.hid (by rw [HP.out]; rw [if_neg (fun h => Q7.out h.1), if_neg (fun h => Q2.out h.2.1)]; simp [E.out])
     go_wp2_with fail
     refine (HH.out _ _ _ C2.out hl3 (HT.out.on HB2.out).here).mono ?_
     rintro e w5 ⟨rfl, hb⟩
     have HB5 := Lib.hid (below_step HB2.out hb)
     clear hb
     go_wp2_with fail
     go_ret
     exact ⟨by rw [HX.out, HR.out]; rfl, HB5.out⟩
  ·have Q8 := Lib.hid q
   have b8 : (t.f0 == 8) = false := beq_eq_false_iff_ne.2 q
   have n8 : (t.f0 != 8) = true := bne_iff_ne.2 q
   clear q
   rcases Classical.em (x.f0 = 8) with q | q
   ·have E := Lib.hid q
    have bx8 : (x.f0 == 8) = true := beq_iff_eq.2 q
    have nx8 : (x.f0 != 8) = false := bne_eq_false_iff_eq.2 q
    clear q
    have HR : Hid (HTree.part t.f0 t.f2 x (i : Int) = false) := Lib.hid (by rw [HP.out]; rw [if_neg (fun h => Q7.out h.1), if_neg (fun h => Q8.out h.1)]; simp [E.out])
    go_wp2_with fail
    go_ret
    exact ⟨by rw [HX.out, HR.out]; rfl, HB2.out⟩
   ·have E := Lib.hid q
    have bx8 : (x.f0 == 8) = false := beq_eq_false_iff_ne.2 q
    have nx8 : (x.f0 != 8) = true := bne_iff_ne.2 q
    clear q
    have HR : Hid (HTree.part t.f0 t.f2 x (i : Int) = may x) := Lib.hid (by rw [HP.out]; rw [if_neg (fun h => Q7.out h.1), if_neg (fun h => Q8.out h.1)]; simp [E.out])
    go_wp2_with fail
    refine (HH.out _ _ _ C2.out hl3 (HT.out.on HB2.out).here).mono ?_
    rintro e w5 ⟨rfl, hb⟩
    have HB5 := Lib.hid (below_step HB2.out hb)
    clear hb
    go_wp2_with fail
    go_ret
    exact ⟨by rw [HX.out, HR.out]; rfl, HB5.out⟩
end TreeMay
end Go.Proofs.YthdkjfhpbigdpaaDoor.Pure

namespace Go.Proofs.YthdkjfhpbigdpaaDoor.Pure
open Go Go.RowKit Go.Lib Go.Proofs Go.Proofs.YthdkjfhpbigdpaaDoor.Q Go.Proofs.YthdkjfhpbigdpaaDoorW.PrintWords Go.Proofs.YthdkjfhpbigdpaaDoorW.PrintLast Go.Proofs.YthdkjfhpbigdpaaDoorW.PrintMore
open HTree
namespace TreeMay
set_option linter.unusedVariables false
set_option linter.unusedSimpArgs false
theorem keep5 {p0 : Addr} {p1 : Addr} {p2 : Addr} {p3 : Addr} {p4 : Addr} {v0 : Value} {v1 : Value} {v2 : Value} {v3 : Value} {v4 : Value} {wq w1 w2 : World}
  (h : w1.cell? p0 = some v0 ∧ w1.cell? p1 = some v1 ∧ w1.cell? p2 = some v2 ∧ w1.cell? p3 = some v3 ∧ w1.cell? p4 = some v4 ∧ Below wq.heap.size wq w1) (hb : Below w1.heap.size w1 w2) :
  w2.cell? p0 = some v0 ∧ w2.cell? p1 = some v1 ∧ w2.cell? p2 = some v2 ∧ w2.cell? p3 = some v3 ∧ w2.cell? p4 = some v4 ∧ Below wq.heap.size wq w2 := by
 obtain ⟨h0, h1, h2, h3, h4, h5⟩ := h
 exact ⟨(hb.cell (World.block_lt_of_cell? _ _ h0)).trans h0, (hb.cell (World.block_lt_of_cell? _ _ h1)).trans h1, (hb.cell (World.block_lt_of_cell? _ _ h2)).trans h2, (hb.cell (World.block_lt_of_cell? _ _ h3)).trans h3, (hb.cell (World.block_lt_of_cell? _ _ h4)).trans h4, below_step h5 hb⟩
theorem may_is (t : T) : may t = (known t.f0 && decide (least t.f0 ≤ (t.f4.length : Int)) && decide ((t.f4.length : Int) ≤ most t.f0) && named t.f1 (what t.f0) && number t.f0 t.f2 t.f4.length && decide (0 ≤ t.f3) && parts t.f0 t.f2 t.f4 0) := by cases t; rfl
set_option maxRecDepth 100000 in
set_option maxHeartbeats 16000000 in
theorem may_step (t : T) (hl9 : t.f4.length ≤ 1000000000) (hs : t.f1.size ≤ 1000000000) (H : ∀ x ∈ t.f4, MayC x) : MayC t := by
 intro w A c hC hl htab
 have HT := Lib.hid (tabBelow_of_tabIs htab)
 clear htab
 have HH := Lib.hid H
 clear H
 have hba := below_alloc (Below.refl w.heap.size w) (Obj.cells #[.int .i64 t.f0, .string t.f1, .int .i64 t.f2, .int .i64 t.f3, .slice A t.f4.length c] 24)
 have h1 := blk_new w (Obj.cells #[.int .i64 t.f0, .string t.f1, .int .i64 t.f2, .int .i64 t.f3, .slice A t.f4.length c] 24)
 go_enter Tryd.func21, Tryd.ntmps21
 go_upto_region 1 with (fail)
 generalize hwq : w.alloc (Obj.cells #[.int .i64 t.f0, .string t.f1, .int .i64 t.f2, .int .i64 t.f3, .slice A t.f4.length c] 24) = wq at hba h1 ⊢
 clear hwq
 have HB := Lib.hid hba; have Bt := Lib.hid h1; have Ct := Lib.hid (Kd.C_below hC hba)
 clear hba h1 hC
 have t0 := blk_cell Bt.out 0; have t1 := blk_cell Bt.out 1; have t2 := blk_cell Bt.out 2; have t3 := blk_cell Bt.out 3; have t4 := blk_cell Bt.out 4
 simp only [List.getElem?_toArray, List.getElem?_cons_zero, List.getElem?_cons_succ] at t0 t1 t2 t3 t4
 refine wp_region_held_drew (S := (fun w' => w'.cell? ⟨w.heap.size, 0, none⟩ = some (.int .i64 t.f0) ∧ w'.cell? ⟨w.heap.size, 1, none⟩ = some (.string t.f1) ∧ w'.cell? ⟨w.heap.size, 2, none⟩ = some (.int .i64 t.f2) ∧ w'.cell? ⟨w.heap.size, 3, none⟩ = some (.int .i64 t.f3) ∧ w'.cell? ⟨w.heap.size, 4, none⟩ = some (.slice A t.f4.length c) ∧ Below wq.heap.size wq w')) (by kernel_rfl) (by (try dsimp only); exact keep5 ⟨t0, t1, t2, t3, t4, Below.refl _ _⟩ (below_drew1 (Below.refl _ _))) (fun hHeld => ?_)
 refine wpAnyH_take (i := 1) (v := ?_) rfl (by kernel_rfl) (by kernel_rfl) (by kernel_rfl) (fun _ _ _ h => h) (Or.inl ⟨by rfl, ?_⟩) (by assumption) ?_
 rotate_left 1
 ·(intro w hSw; (try dsimp only at hSw); (try simp only [List.getElem_toArray, List.getElem_cons_succ, List.getElem_cons_zero]); go_simp; (try with_reducible rfl))
 (try simp only [Act.put, List.getElem_toArray, List.getElem_cons_succ, List.getElem_cons_zero, List.setIfInBounds_toArray, List.set_cons_zero, List.set_cons_succ])
 refine wpAnyH_take (i := 2) (v := ?_) rfl (by kernel_rfl) (by kernel_rfl) (by kernel_rfl) (fun _ _ _ h => h) (Or.inl ⟨by rfl, ?_⟩) (by assumption) ?_
 rotate_left 1
 ·(intro w hSw; (try dsimp only at hSw); (try simp only [List.getElem_toArray, List.getElem_cons_succ, List.getElem_cons_zero]); go_simp; (try with_reducible rfl))
 (try simp only [Act.put, List.getElem_toArray, List.getElem_cons_succ, List.getElem_cons_zero, List.setIfInBounds_toArray, List.set_cons_zero, List.set_cons_succ])
 refine wpAnyH_ready (rs := [0, 7]) (by kernel_rfl) (by simp) ?_
 refine AllReadyH.cons rfl (fun K hK => ?_) (AllReadyH.cons rfl (fun K hK => ?_) (AllReadyH.nil))
 ·(try simp only [List.getElem_toArray, List.getElem_cons_succ, List.getElem_cons_zero])
  go_simp
  refine (TreeMap.shapes_any _).mono ?_
  rintro e w9 ⟨rfl, h9⟩
  have mb : w9.heap[wq.heap.size]? = some (Obj.map (TreeMap.ents 10) 10) := by rw [h9]; exact blk_new _ _
  have hb : Below wq.drew.heap.size wq.drew w9 := by rw [h9]; exact below_alloc (Below.refl _ _) _
  clear h9
  simp only []
  refine hK.out _ _ ?_ (fun hHeld => ?_)
  ·(try dsimp only); exact keep5 hHeld hb
  clear hK K
  (try simp only [Act.put, List.getElem_toArray, List.getElem_cons_succ, List.getElem_cons_zero, List.setIfInBounds_toArray, List.set_cons_zero, List.set_cons_succ])
  have hlk := look t.f0 w9 _ mb
  refine wpAnyH_ready (rs := [3, 7]) (by kernel_rfl) (by simp) ?_
  refine AllReadyH.cons rfl (fun K hK => ?_) (AllReadyH.cons rfl (fun K hK => ?_) (AllReadyH.nil))
  ·(try simp only [List.getElem_toArray, List.getElem_cons_succ, List.getElem_cons_zero])
   go_simp
   refine hK.out _ _ ?_ (fun hHeld => ?_)
   ·(try dsimp only); exact hHeld
   clear hK K
   (try simp only [Act.put, List.getElem_toArray, List.getElem_cons_succ, List.getElem_cons_zero, List.setIfInBounds_toArray, List.set_cons_zero, List.set_cons_succ])
   refine wpAnyH_take (i := 4) (v := ?_) rfl (by kernel_rfl) (by kernel_rfl) (by kernel_rfl) (fun _ _ _ h => h) (Or.inl ⟨by rfl, ?_⟩) (by assumption) ?_
   rotate_left 1
   ·(intro w hSw; (try dsimp only at hSw); (try simp only [List.getElem_toArray, List.getElem_cons_succ, List.getElem_cons_zero]); go_simp; (try with_reducible rfl))
   (try simp only [Act.put, List.getElem_toArray, List.getElem_cons_succ, List.getElem_cons_zero, List.setIfInBounds_toArray, List.set_cons_zero, List.set_cons_succ])
   refine wpAnyH_take (i := 5) (v := ?_) rfl (by kernel_rfl) (by kernel_rfl) (by kernel_rfl) (fun _ _ _ h => h) (Or.inl ⟨by rfl, ?_⟩) (by assumption) ?_
   rotate_left 1
   ·(intro w hSw; (try dsimp only at hSw); (try simp only [List.getElem_toArray, List.getElem_cons_succ, List.getElem_cons_zero]); go_simp; (try with_reducible rfl))
   (try simp only [Act.put, List.getElem_toArray, List.getElem_cons_succ, List.getElem_cons_zero, List.setIfInBounds_toArray, List.set_cons_zero, List.set_cons_succ])
   refine wpAnyH_take (i := 6) (v := ?_) rfl (by kernel_rfl) (by kernel_rfl) (by kernel_rfl) (fun _ _ _ h => h) (Or.inl ⟨by rfl, ?_⟩) (by assumption) ?_
   rotate_left 1
   ·(intro w hSw; (try dsimp only at hSw); (try simp only [List.getElem_toArray, List.getElem_cons_succ, List.getElem_cons_zero]); go_simp; (try with_reducible rfl))
   (try simp only [Act.put, List.getElem_toArray, List.getElem_cons_succ, List.getElem_cons_zero, List.setIfInBounds_toArray, List.set_cons_zero, List.set_cons_succ])
   refine wpAnyH_ready (rs := [7]) (by kernel_rfl) (by simp) ?_
   refine AllReadyH.cons rfl (fun K hK => ?_) (AllReadyH.nil)
   (try simp only [List.getElem_toArray, List.getElem_cons_succ, List.getElem_cons_zero])
   go_simp
   have hb : Below w9.heap.size w9 (w9.alloc (Obj.cells #[.int .i64 0, .int .i64 0, .int .i64 0] 49)) := below_alloc (Below.refl _ _) _
   have vb : (w9.alloc (Obj.cells #[.int .i64 0, .int .i64 0, .int .i64 0] 49)).heap[w9.heap.size]? = some (Obj.cells #[.int .i64 0, .int .i64 0, .int .i64 0] 49) := blk_new _ _
   generalize w9.alloc (Obj.cells #[.int .i64 0, .int .i64 0, .int .i64 0] 49) = wv at hb vb ⊢
   refine hK.out _ _ ?_ (fun hHeld => ?_)
   ·(try dsimp only); exact keep5 hHeld hb
   clear hK K
   (try simp only [Act.put, List.getElem_toArray, List.getElem_cons_succ, List.getElem_cons_zero, List.setIfInBounds_toArray, List.set_cons_zero, List.set_cons_succ])
   have v0 := blk_cell vb 0; have v1 := blk_cell vb 1; have v2 := blk_cell vb 2
   simp only [List.getElem?_toArray, List.getElem?_cons_zero, List.getElem?_cons_succ] at v0 v1 v2
   have z0 := blk_frozen vb 0; have z1 := blk_frozen vb 1; have z2 := blk_frozen vb 2
   have hge : wq.heap.size ≤ w9.heap.size := Nat.le_of_lt (blk_lt mb)
   refine wpAnyH_ready (rs := [8]) (by kernel_rfl) (by simp) ?_
   refine AllReadyH.cons rfl (fun K hK => ?_) (AllReadyH.nil)
   (try simp only [List.getElem_toArray, List.getElem_cons_succ, List.getElem_cons_zero])
   go_simp
   have vb2 : (((wv.setCell ⟨w9.heap.size, 0, none⟩ (.int .i64 (what t.f0))).setCell ⟨w9.heap.size, 1, none⟩ (.int .i64 (least t.f0))).setCell ⟨w9.heap.size, 2, none⟩ (.int .i64 (most t.f0))).heap[w9.heap.size]? = some (Obj.cells #[.int .i64 (what t.f0), .int .i64 (least t.f0), .int .i64 (most t.f0)] 49) := blk_put (blk_put (blk_put vb 0 (.int .i64 (what t.f0)) rfl) 1 (.int .i64 (least t.f0)) rfl) 2 (.int .i64 (most t.f0)) rfl
   have hbs : Below wq.heap.size wq (((wv.setCell ⟨w9.heap.size, 0, none⟩ (.int .i64 (what t.f0))).setCell ⟨w9.heap.size, 1, none⟩ (.int .i64 (least t.f0))).setCell ⟨w9.heap.size, 2, none⟩ (.int .i64 (most t.f0))) := below_set (below_set (below_set hHeld.2.2.2.2.2 hge) hge) hge
   generalize (((wv.setCell ⟨w9.heap.size, 0, none⟩ (.int .i64 (what t.f0))).setCell ⟨w9.heap.size, 1, none⟩ (.int .i64 (least t.f0))).setCell ⟨w9.heap.size, 2, none⟩ (.int .i64 (most t.f0))) = ws at vb2 hbs ⊢
   refine hK.out _ _ ?_ (fun hHeld => ?_)
   ·(try dsimp only); exact keep5 ⟨t0, t1, t2, t3, t4, Below.refl _ _⟩ hbs
   clear hK K
   (try simp only [Act.put, List.getElem_toArray, List.getElem_cons_succ, List.getElem_cons_zero, List.setIfInBounds_toArray, List.set_cons_zero, List.set_cons_succ])
   refine wpAnyH_take (i := 9) (v := ?_) rfl (by kernel_rfl) (by kernel_rfl) (by kernel_rfl) (fun _ _ _ h => h) (Or.inl ⟨by rfl, ?_⟩) (by assumption) ?_
   rotate_left 1
   ·(intro w hSw; (try dsimp only at hSw); (try simp only [List.getElem_toArray, List.getElem_cons_succ, List.getElem_cons_zero]); go_simp; (try with_reducible rfl))
   (try simp only [Act.put, List.getElem_toArray, List.getElem_cons_succ, List.getElem_cons_zero, List.setIfInBounds_toArray, List.set_cons_zero, List.set_cons_succ])
   refine wpAnyH_done (by kernel_rfl) ?_ _
   have Bs := Lib.hid vb2
   have n0_ := Lib.hid (below_step HB.out hbs); have n1_ := Lib.hid (Kd.C_below Ct.out hbs); have n2_ := Lib.hid (blk_below Bt.out hbs)
   clear HB Ct Bt vb vb2 hbs hHeld v0 v1 v2 z0 z1 z2 hlk mb t0 t1 t2 t3 t4 hge
   have HB := n0_; have Ct := n1_; have Bt := n2_
   clear n0_ n1_ n2_
   generalize w9.heap.size = gb at Bs ⊢
   have t0 := blk_cell Bt.out 0; have t1 := blk_cell Bt.out 1; have t2 := blk_cell Bt.out 2; have t3 := blk_cell Bt.out 3; have t4 := blk_cell Bt.out 4
   simp only [List.getElem?_toArray, List.getElem?_cons_zero, List.getElem?_cons_succ] at t0 t1 t2 t3 t4
   have s0 := blk_cell Bs.out 0; have s1 := blk_cell Bs.out 1; have s2 := blk_cell Bs.out 2
   simp only [List.getElem?_toArray, List.getElem?_cons_zero, List.getElem?_cons_succ] at s0 s1 s2
   have MI := Lib.hid (may_is t)
   generalize hwh : what t.f0 = wh at *
   generalize hle : least t.f0 = le at *
   generalize hmo : most t.f0 = mo at *
   generalize hkn : known t.f0 = kn at *
   clear hwh hle hmo hkn
   cases kn with
   | false =>
    have HR : Hid (may t = false) := Lib.hid (by rw [MI.out]; simp)
    go_wp2_with fail
    go_ret
    exact ⟨by rw [HR.out]; rfl, HB.out⟩
   | true =>
    rcases Classical.em ((t.f4.length : Int) < le) with q | q
    ·have QN := Lib.hid q
     have bl : decide ((t.f4.length : Int) < le) = true := decide_eq_true q
     clear q
     have HR : Hid (may t = false) := Lib.hid (by rw [MI.out]; rw [decide_eq_false (show ¬ le ≤ (t.f4.length : Int) by have := QN.out; omega)]; simp)
     go_wp2_with fail
     go_ret
     exact ⟨by rw [HR.out]; rfl, HB.out⟩
    ·have QN := Lib.hid q
     have bl : decide ((t.f4.length : Int) < le) = false := decide_eq_false q
     clear q
     have QL : Hid (le ≤ (t.f4.length : Int)) := Lib.hid (by have := QN.out; omega)
     clear QN
     rcases Classical.em ((t.f4.length : Int) > mo) with q | q
     ·have QN := Lib.hid q
      have bm : decide ((t.f4.length : Int) > mo) = true := decide_eq_true q
      have bm2 : decide (mo < (t.f4.length : Int)) = true := decide_eq_true q
      clear q
      have HR : Hid (may t = false) := Lib.hid (by rw [MI.out]; rw [decide_eq_false (show ¬ (t.f4.length : Int) ≤ mo by have := QN.out; omega)]; simp)
      go_wp2_with fail
      go_ret
      exact ⟨by rw [HR.out]; rfl, HB.out⟩
     ·have QN := Lib.hid q
      have bm : decide ((t.f4.length : Int) > mo) = false := decide_eq_false q
      have bm2 : decide (mo < (t.f4.length : Int)) = false := decide_eq_false q
      clear q
      have QM : Hid ((t.f4.length : Int) ≤ mo) := Lib.hid (by have := QN.out; omega)
      clear QN
      obtain ⟨nb, VN⟩ : ∃ q, Hid (named t.f1 wh = q) := ⟨_, Lib.hid rfl⟩
      go_wp2_with fail
      refine ((TreeNm.named_any t.f1 wh hs _ (HT.out.on HB.out).here).mono fun e w' h => (⟨h.1.trans (by rw [VN.out]), h.2⟩ : e = .returned (.bool nb) ∧ _)).mono ?_
      rintro e w5 ⟨rfl, hb⟩
      have n0_ := Lib.hid (below_step HB.out hb); have n1_ := Lib.hid (Kd.C_below Ct.out hb); have n2_ := Lib.hid (blk_below Bt.out hb); have n3_ := Lib.hid (blk_below Bs.out hb)
      clear HB Ct Bt Bs hb t0 t1 t2 t3 t4 s0 s1 s2
      have HB := n0_; have Ct := n1_; have Bt := n2_; have Bs := n3_
      clear n0_ n1_ n2_ n3_
      have t0 := blk_cell Bt.out 0; have t1 := blk_cell Bt.out 1; have t2 := blk_cell Bt.out 2; have t3 := blk_cell Bt.out 3; have t4 := blk_cell Bt.out 4
      simp only [List.getElem?_toArray, List.getElem?_cons_zero, List.getElem?_cons_succ] at t0 t1 t2 t3 t4
      have s0 := blk_cell Bs.out 0; have s1 := blk_cell Bs.out 1; have s2 := blk_cell Bs.out 2
      simp only [List.getElem?_toArray, List.getElem?_cons_zero, List.getElem?_cons_succ] at s0 s1 s2
      cases nb with
      | false =>
       have HR : Hid (may t = false) := Lib.hid (by rw [MI.out]; rw [VN.out]; simp)
       go_wp2_with fail
       go_ret
       exact ⟨by rw [HR.out]; rfl, HB.out⟩
      | true =>
       obtain ⟨ub, VU⟩ : ∃ q, Hid (number t.f0 t.f2 t.f4.length = q) := ⟨_, Lib.hid rfl⟩
       have hnum := TreeNm.number_is t.f0 t.f1 t.f2 t.f3 t.f4 hl9
       rw [VU.out] at hnum
       have NU := Lib.hid hnum
       clear hnum
       go_wp2_with fail
       refine (tree_number.calls t.f0 t.f1 t.f2 t.f3 _ _ t.f4 _ _ Ct.out hl NU.out).mono ?_
       rintro e w5 ⟨rfl, hb⟩
       have n0_ := Lib.hid (below_step HB.out hb); have n1_ := Lib.hid (Kd.C_below Ct.out hb); have n2_ := Lib.hid (blk_below Bt.out hb); have n3_ := Lib.hid (blk_below Bs.out hb)
       clear HB Ct Bt Bs hb t0 t1 t2 t3 t4 s0 s1 s2
       have HB := n0_; have Ct := n1_; have Bt := n2_; have Bs := n3_
       clear n0_ n1_ n2_ n3_
       have t0 := blk_cell Bt.out 0; have t1 := blk_cell Bt.out 1; have t2 := blk_cell Bt.out 2; have t3 := blk_cell Bt.out 3; have t4 := blk_cell Bt.out 4
       simp only [List.getElem?_toArray, List.getElem?_cons_zero, List.getElem?_cons_succ] at t0 t1 t2 t3 t4
       have s0 := blk_cell Bs.out 0; have s1 := blk_cell Bs.out 1; have s2 := blk_cell Bs.out 2
       simp only [List.getElem?_toArray, List.getElem?_cons_zero, List.getElem?_cons_succ] at s0 s1 s2
       clear NU
       cases ub with
       | false =>
        have HR : Hid (may t = false) := Lib.hid (by rw [MI.out]; rw [VU.out]; simp)
        go_wp2_with fail
        go_ret
        exact ⟨by rw [HR.out]; rfl, HB.out⟩
       | true =>
        rcases Classical.em (t.f3 < 0) with q | q
        ·have QN := Lib.hid q
         have ba : decide (t.f3 < 0) = true := decide_eq_true q
         clear q
         have HR : Hid (may t = false) := Lib.hid (by rw [MI.out]; rw [decide_eq_false (show ¬ (0 : Int) ≤ t.f3 by have := QN.out; omega)]; simp)
         go_wp2_with fail
         go_ret
         exact ⟨by rw [HR.out]; rfl, HB.out⟩
        ·have QN := Lib.hid q
         have ba : decide (t.f3 < 0) = false := decide_eq_false q
         clear q
         have QA : Hid ((0 : Int) ≤ t.f3) := Lib.hid (by have := QN.out; omega)
         clear QN
         have MP : Hid (may t = parts t.f0 t.f2 t.f4 0) := Lib.hid (by rw [MI.out, VN.out, VU.out, decide_eq_true QL.out, decide_eq_true QM.out, decide_eq_true QA.out]; simp)
         go_wp2_with fail
         go_loopw [52] (fun i wr => ∃ k : Nat, k ≤ t.f4.length ∧ i = .int .i64 k ∧ Hid (may t = parts t.f0 t.f2 (t.f4.drop k) (k : Int)) ∧ Hid (Below w5.heap.size w5 wr)) (fun i _ => t.f4.length - (intOf i).toNat)
         case atStart => exact ⟨0, Nat.zero_le _, rfl, Lib.hid (by rw [MP.out]; rfl), Lib.hid (Below.refl _ _)⟩
         case round =>
          obtain ⟨k, hk, rfl, HP, HBR⟩ := hrel
          have hb := HBR.out
          have n0_ := Lib.hid (below_step HB.out hb); have n1_ := Lib.hid (Kd.C_below Ct.out hb); have n2_ := Lib.hid (blk_below Bt.out hb); have n3_ := Lib.hid (blk_below Bs.out hb)
          clear HB Ct Bt Bs hb t0 t1 t2 t3 t4 s0 s1 s2
          have HB := n0_; have Ct := n1_; have Bt := n2_; have Bs := n3_
          clear n0_ n1_ n2_ n3_
          have t0 := blk_cell Bt.out 0; have t1 := blk_cell Bt.out 1; have t2 := blk_cell Bt.out 2; have t3 := blk_cell Bt.out 3; have t4 := blk_cell Bt.out 4
          simp only [List.getElem?_toArray, List.getElem?_cons_zero, List.getElem?_cons_succ] at t0 t1 t2 t3 t4
          have s0 := blk_cell Bs.out 0; have s1 := blk_cell Bs.out 1; have s2 := blk_cell Bs.out 2
          simp only [List.getElem?_toArray, List.getElem?_cons_zero, List.getElem?_cons_succ] at s0 s1 s2
          by_cases hlt : k < t.f4.length
          ·obtain ⟨pb, VP⟩ : ∃ q, Hid (HTree.part t.f0 t.f2 t.f4[k] (k : Int) = q) := ⟨_, Lib.hid rfl⟩
           have hdr : may t = (HTree.part t.f0 t.f2 t.f4[k] (k : Int) && parts t.f0 t.f2 (t.f4.drop (k + 1)) ((k : Int) + 1)) := by rw [HP.out, List.drop_eq_getElem_cons hlt, parts_cons]
           rw [VP.out] at hdr
           have HD := Lib.hid hdr
           have HM := Lib.hid (HH.out _ (List.getElem_mem hlt))
           clear hdr
           go_wp2_with fail
           refine ((part_any t k hlt hl9 HM.out _ _ _ Ct.out hl (HT.out.on HB.out).here).mono fun e w' h => (⟨h.1.trans (by rw [VP.out]), h.2⟩ : e = .returned (.bool pb) ∧ _)).mono ?_
           rintro e w6 ⟨rfl, hb⟩
           have HBR7 := Lib.hid (below_step HBR.out hb); have HB7 := Lib.hid (below_step HB.out hb)
           clear hb
           cases pb with
           | true =>
            go_wp2_with fail
            exact ⟨⟨k + 1, by omega, by first|rfl | go_num, Lib.hid (by rw [HD.out, Bool.true_and]; norm_cast), HBR7⟩, by simp [intOf]; omega⟩
           | false =>
            have HR : Hid (may t = false) := Lib.hid (by rw [HD.out, Bool.false_and])
            go_wp2_with fail
            go_ret
            exact ⟨by rw [HR.out]; rfl, HB7.out⟩
          ·have HR : Hid (may t = true) := Lib.hid (by rw [HP.out, List.drop_eq_nil_of_le (by omega)]; rfl)
           go_wp2_with fail
           go_ret
           exact ⟨by rw [HR.out]; rfl, HB.out⟩
  ·(try simp only [List.getElem_toArray, List.getElem_cons_succ, List.getElem_cons_zero])
   go_simp
   have hb : Below w9.heap.size w9 (w9.alloc (Obj.cells #[.int .i64 0, .int .i64 0, .int .i64 0] 49)) := below_alloc (Below.refl _ _) _
   have vb : (w9.alloc (Obj.cells #[.int .i64 0, .int .i64 0, .int .i64 0] 49)).heap[w9.heap.size]? = some (Obj.cells #[.int .i64 0, .int .i64 0, .int .i64 0] 49) := blk_new _ _
   generalize w9.alloc (Obj.cells #[.int .i64 0, .int .i64 0, .int .i64 0] 49) = wv at hb vb ⊢
   have mb2 := blk_below mb hb
   clear hlk
   have hlk := look t.f0 wv _ mb2
   clear mb2
   refine hK.out _ _ ?_ (fun hHeld => ?_)
   ·(try dsimp only); exact keep5 hHeld hb
   clear hK K
   (try simp only [Act.put, List.getElem_toArray, List.getElem_cons_succ, List.getElem_cons_zero, List.setIfInBounds_toArray, List.set_cons_zero, List.set_cons_succ])
   refine wpAnyH_ready (rs := [3]) (by kernel_rfl) (by simp) ?_
   refine AllReadyH.cons rfl (fun K hK => ?_) (AllReadyH.nil)
   (try simp only [List.getElem_toArray, List.getElem_cons_succ, List.getElem_cons_zero])
   go_simp
   refine hK.out _ _ ?_ (fun hHeld => ?_)
   ·(try dsimp only); exact hHeld
   clear hK K
   (try simp only [Act.put, List.getElem_toArray, List.getElem_cons_succ, List.getElem_cons_zero, List.setIfInBounds_toArray, List.set_cons_zero, List.set_cons_succ])
   refine wpAnyH_take (i := 4) (v := ?_) rfl (by kernel_rfl) (by kernel_rfl) (by kernel_rfl) (fun _ _ _ h => h) (Or.inl ⟨by rfl, ?_⟩) (by assumption) ?_
   rotate_left 1
   ·(intro w hSw; (try dsimp only at hSw); (try simp only [List.getElem_toArray, List.getElem_cons_succ, List.getElem_cons_zero]); go_simp; (try with_reducible rfl))
   (try simp only [Act.put, List.getElem_toArray, List.getElem_cons_succ, List.getElem_cons_zero, List.setIfInBounds_toArray, List.set_cons_zero, List.set_cons_succ])
   refine wpAnyH_take (i := 5) (v := ?_) rfl (by kernel_rfl) (by kernel_rfl) (by kernel_rfl) (fun _ _ _ h => h) (Or.inl ⟨by rfl, ?_⟩) (by assumption) ?_
   rotate_left 1
   ·(intro w hSw; (try dsimp only at hSw); (try simp only [List.getElem_toArray, List.getElem_cons_succ, List.getElem_cons_zero]); go_simp; (try with_reducible rfl))
   (try simp only [Act.put, List.getElem_toArray, List.getElem_cons_succ, List.getElem_cons_zero, List.setIfInBounds_toArray, List.set_cons_zero, List.set_cons_succ])
   refine wpAnyH_take (i := 6) (v := ?_) rfl (by kernel_rfl) (by kernel_rfl) (by kernel_rfl) (fun _ _ _ h => h) (Or.inl ⟨by rfl, ?_⟩) (by assumption) ?_
   rotate_left 1
   ·(intro w hSw; (try dsimp only at hSw); (try simp only [List.getElem_toArray, List.getElem_cons_succ, List.getElem_cons_zero]); go_simp; (try with_reducible rfl))
   (try simp only [Act.put, List.getElem_toArray, List.getElem_cons_succ, List.getElem_cons_zero, List.setIfInBounds_toArray, List.set_cons_zero, List.set_cons_succ])
   have v0 := blk_cell vb 0; have v1 := blk_cell vb 1; have v2 := blk_cell vb 2
   simp only [List.getElem?_toArray, List.getElem?_cons_zero, List.getElem?_cons_succ] at v0 v1 v2
   have z0 := blk_frozen vb 0; have z1 := blk_frozen vb 1; have z2 := blk_frozen vb 2
   have hge : wq.heap.size ≤ w9.heap.size := Nat.le_of_lt (blk_lt mb)
   refine wpAnyH_ready (rs := [8]) (by kernel_rfl) (by simp) ?_
   refine AllReadyH.cons rfl (fun K hK => ?_) (AllReadyH.nil)
   (try simp only [List.getElem_toArray, List.getElem_cons_succ, List.getElem_cons_zero])
   go_simp
   have vb2 : (((wv.setCell ⟨w9.heap.size, 0, none⟩ (.int .i64 (what t.f0))).setCell ⟨w9.heap.size, 1, none⟩ (.int .i64 (least t.f0))).setCell ⟨w9.heap.size, 2, none⟩ (.int .i64 (most t.f0))).heap[w9.heap.size]? = some (Obj.cells #[.int .i64 (what t.f0), .int .i64 (least t.f0), .int .i64 (most t.f0)] 49) := blk_put (blk_put (blk_put vb 0 (.int .i64 (what t.f0)) rfl) 1 (.int .i64 (least t.f0)) rfl) 2 (.int .i64 (most t.f0)) rfl
   have hbs : Below wq.heap.size wq (((wv.setCell ⟨w9.heap.size, 0, none⟩ (.int .i64 (what t.f0))).setCell ⟨w9.heap.size, 1, none⟩ (.int .i64 (least t.f0))).setCell ⟨w9.heap.size, 2, none⟩ (.int .i64 (most t.f0))) := below_set (below_set (below_set hHeld.2.2.2.2.2 hge) hge) hge
   generalize (((wv.setCell ⟨w9.heap.size, 0, none⟩ (.int .i64 (what t.f0))).setCell ⟨w9.heap.size, 1, none⟩ (.int .i64 (least t.f0))).setCell ⟨w9.heap.size, 2, none⟩ (.int .i64 (most t.f0))) = ws at vb2 hbs ⊢
   refine hK.out _ _ ?_ (fun hHeld => ?_)
   ·(try dsimp only); exact keep5 ⟨t0, t1, t2, t3, t4, Below.refl _ _⟩ hbs
   clear hK K
   (try simp only [Act.put, List.getElem_toArray, List.getElem_cons_succ, List.getElem_cons_zero, List.setIfInBounds_toArray, List.set_cons_zero, List.set_cons_succ])
   refine wpAnyH_take (i := 9) (v := ?_) rfl (by kernel_rfl) (by kernel_rfl) (by kernel_rfl) (fun _ _ _ h => h) (Or.inl ⟨by rfl, ?_⟩) (by assumption) ?_
   rotate_left 1
   ·(intro w hSw; (try dsimp only at hSw); (try simp only [List.getElem_toArray, List.getElem_cons_succ, List.getElem_cons_zero]); go_simp; (try with_reducible rfl))
   (try simp only [Act.put, List.getElem_toArray, List.getElem_cons_succ, List.getElem_cons_zero, List.setIfInBounds_toArray, List.set_cons_zero, List.set_cons_succ])
   refine wpAnyH_done (by kernel_rfl) ?_ _
   have Bs := Lib.hid vb2
   have n0_ := Lib.hid (below_step HB.out hbs); have n1_ := Lib.hid (Kd.C_below Ct.out hbs); have n2_ := Lib.hid (blk_below Bt.out hbs)
   clear HB Ct Bt vb vb2 hbs hHeld v0 v1 v2 z0 z1 z2 hlk mb t0 t1 t2 t3 t4 hge
   have HB := n0_; have Ct := n1_; have Bt := n2_
   clear n0_ n1_ n2_
   generalize w9.heap.size = gb at Bs ⊢
   have t0 := blk_cell Bt.out 0; have t1 := blk_cell Bt.out 1; have t2 := blk_cell Bt.out 2; have t3 := blk_cell Bt.out 3; have t4 := blk_cell Bt.out 4
   simp only [List.getElem?_toArray, List.getElem?_cons_zero, List.getElem?_cons_succ] at t0 t1 t2 t3 t4
   have s0 := blk_cell Bs.out 0; have s1 := blk_cell Bs.out 1; have s2 := blk_cell Bs.out 2
   simp only [List.getElem?_toArray, List.getElem?_cons_zero, List.getElem?_cons_succ] at s0 s1 s2
   have MI := Lib.hid (may_is t)
   generalize hwh : what t.f0 = wh at *
   generalize hle : least t.f0 = le at *
   generalize hmo : most t.f0 = mo at *
   generalize hkn : known t.f0 = kn at *
   clear hwh hle hmo hkn
   cases kn with
   | false =>
    have HR : Hid (may t = false) := Lib.hid (by rw [MI.out]; simp)
    go_wp2_with fail
    go_ret
    exact ⟨by rw [HR.out]; rfl, HB.out⟩
   | true =>
    rcases Classical.em ((t.f4.length : Int) < le) with q | q
    ·have QN := Lib.hid q
     have bl : decide ((t.f4.length : Int) < le) = true := decide_eq_true q
     clear q
     have HR : Hid (may t = false) := Lib.hid (by rw [MI.out]; rw [decide_eq_false (show ¬ le ≤ (t.f4.length : Int) by have := QN.out; omega)]; simp)
     go_wp2_with fail
     go_ret
     exact ⟨by rw [HR.out]; rfl, HB.out⟩
    ·have QN := Lib.hid q
     have bl : decide ((t.f4.length : Int) < le) = false := decide_eq_false q
     clear q
     have QL : Hid (le ≤ (t.f4.length : Int)) := Lib.hid (by have := QN.out; omega)
     clear QN
     rcases Classical.em ((t.f4.length : Int) > mo) with q | q
     ·have QN := Lib.hid q
      have bm : decide ((t.f4.length : Int) > mo) = true := decide_eq_true q
      have bm2 : decide (mo < (t.f4.length : Int)) = true := decide_eq_true q
      clear q
      have HR : Hid (may t = false) := Lib.hid (by rw [MI.out]; rw [decide_eq_false (show ¬ (t.f4.length : Int) ≤ mo by have := QN.out; omega)]; simp)
      go_wp2_with fail
      go_ret
      exact ⟨by rw [HR.out]; rfl, HB.out⟩
     ·have QN := Lib.hid q
      have bm : decide ((t.f4.length : Int) > mo) = false := decide_eq_false q
      have bm2 : decide (mo < (t.f4.length : Int)) = false := decide_eq_false q
      clear q
      have QM : Hid ((t.f4.length : Int) ≤ mo) := Lib.hid (by have := QN.out; omega)
      clear QN
      obtain ⟨nb, VN⟩ : ∃ q, Hid (named t.f1 wh = q) := ⟨_, Lib.hid rfl⟩
      go_wp2_with fail
      refine ((TreeNm.named_any t.f1 wh hs _ (HT.out.on HB.out).here).mono fun e w' h => (⟨h.1.trans (by rw [VN.out]), h.2⟩ : e = .returned (.bool nb) ∧ _)).mono ?_
      rintro e w5 ⟨rfl, hb⟩
      have n0_ := Lib.hid (below_step HB.out hb); have n1_ := Lib.hid (Kd.C_below Ct.out hb); have n2_ := Lib.hid (blk_below Bt.out hb); have n3_ := Lib.hid (blk_below Bs.out hb)
      clear HB Ct Bt Bs hb t0 t1 t2 t3 t4 s0 s1 s2
      have HB := n0_; have Ct := n1_; have Bt := n2_; have Bs := n3_
      clear n0_ n1_ n2_ n3_
      have t0 := blk_cell Bt.out 0; have t1 := blk_cell Bt.out 1; have t2 := blk_cell Bt.out 2; have t3 := blk_cell Bt.out 3; have t4 := blk_cell Bt.out 4
      simp only [List.getElem?_toArray, List.getElem?_cons_zero, List.getElem?_cons_succ] at t0 t1 t2 t3 t4
      have s0 := blk_cell Bs.out 0; have s1 := blk_cell Bs.out 1; have s2 := blk_cell Bs.out 2
      simp only [List.getElem?_toArray, List.getElem?_cons_zero, List.getElem?_cons_succ] at s0 s1 s2
      cases nb with
      | false =>
       have HR : Hid (may t = false) := Lib.hid (by rw [MI.out]; rw [VN.out]; simp)
       go_wp2_with fail
       go_ret
       exact ⟨by rw [HR.out]; rfl, HB.out⟩
      | true =>
       obtain ⟨ub, VU⟩ : ∃ q, Hid (number t.f0 t.f2 t.f4.length = q) := ⟨_, Lib.hid rfl⟩
       have hnum := TreeNm.number_is t.f0 t.f1 t.f2 t.f3 t.f4 hl9
       rw [VU.out] at hnum
       have NU := Lib.hid hnum
       clear hnum
       go_wp2_with fail
       refine (tree_number.calls t.f0 t.f1 t.f2 t.f3 _ _ t.f4 _ _ Ct.out hl NU.out).mono ?_
       rintro e w5 ⟨rfl, hb⟩
       have n0_ := Lib.hid (below_step HB.out hb); have n1_ := Lib.hid (Kd.C_below Ct.out hb); have n2_ := Lib.hid (blk_below Bt.out hb); have n3_ := Lib.hid (blk_below Bs.out hb)
       clear HB Ct Bt Bs hb t0 t1 t2 t3 t4 s0 s1 s2
       have HB := n0_; have Ct := n1_; have Bt := n2_; have Bs := n3_
       clear n0_ n1_ n2_ n3_
       have t0 := blk_cell Bt.out 0; have t1 := blk_cell Bt.out 1; have t2 := blk_cell Bt.out 2; have t3 := blk_cell Bt.out 3; have t4 := blk_cell Bt.out 4
       simp only [List.getElem?_toArray, List.getElem?_cons_zero, List.getElem?_cons_succ] at t0 t1 t2 t3 t4
       have s0 := blk_cell Bs.out 0; have s1 := blk_cell Bs.out 1; have s2 := blk_cell Bs.out 2
       simp only [List.getElem?_toArray, List.getElem?_cons_zero, List.getElem?_cons_succ] at s0 s1 s2
       clear NU
       cases ub with
       | false =>
        have HR : Hid (may t = false) := Lib.hid (by rw [MI.out]; rw [VU.out]; simp)
        go_wp2_with fail
        go_ret
        exact ⟨by rw [HR.out]; rfl, HB.out⟩
       | true =>
        rcases Classical.em (t.f3 < 0) with q | q
        ·have QN := Lib.hid q
         have ba : decide (t.f3 < 0) = true := decide_eq_true q
         clear q
         have HR : Hid (may t = false) := Lib.hid (by rw [MI.out]; rw [decide_eq_false (show ¬ (0 : Int) ≤ t.f3 by have := QN.out; omega)]; simp)
         go_wp2_with fail
         go_ret
         exact ⟨by rw [HR.out]; rfl, HB.out⟩
        ·have QN := Lib.hid q
         have ba : decide (t.f3 < 0) = false := decide_eq_false q
         clear q
         have QA : Hid ((0 : Int) ≤ t.f3) := Lib.hid (by have := QN.out; omega)
         clear QN
         have MP : Hid (may t = parts t.f0 t.f2 t.f4 0) := Lib.hid (by rw [MI.out, VN.out, VU.out, decide_eq_true QL.out, decide_eq_true QM.out, decide_eq_true QA.out]; simp)
         go_wp2_with fail
         go_loopw [52] (fun i wr => ∃ k : Nat, k ≤ t.f4.length ∧ i = .int .i64 k ∧ Hid (may t = parts t.f0 t.f2 (t.f4.drop k) (k : Int)) ∧ Hid (Below w5.heap.size w5 wr)) (fun i _ => t.f4.length - (intOf i).toNat)
         case atStart => exact ⟨0, Nat.zero_le _, rfl, Lib.hid (by rw [MP.out]; rfl), Lib.hid (Below.refl _ _)⟩
         case round =>
          obtain ⟨k, hk, rfl, HP, HBR⟩ := hrel
          have hb := HBR.out
          have n0_ := Lib.hid (below_step HB.out hb); have n1_ := Lib.hid (Kd.C_below Ct.out hb); have n2_ := Lib.hid (blk_below Bt.out hb); have n3_ := Lib.hid (blk_below Bs.out hb)
          clear HB Ct Bt Bs hb t0 t1 t2 t3 t4 s0 s1 s2
          have HB := n0_; have Ct := n1_; have Bt := n2_; have Bs := n3_
          clear n0_ n1_ n2_ n3_
          have t0 := blk_cell Bt.out 0; have t1 := blk_cell Bt.out 1; have t2 := blk_cell Bt.out 2; have t3 := blk_cell Bt.out 3; have t4 := blk_cell Bt.out 4
          simp only [List.getElem?_toArray, List.getElem?_cons_zero, List.getElem?_cons_succ] at t0 t1 t2 t3 t4
          have s0 := blk_cell Bs.out 0; have s1 := blk_cell Bs.out 1; have s2 := blk_cell Bs.out 2
          simp only [List.getElem?_toArray, List.getElem?_cons_zero, List.getElem?_cons_succ] at s0 s1 s2
          by_cases hlt : k < t.f4.length
          ·obtain ⟨pb, VP⟩ : ∃ q, Hid (HTree.part t.f0 t.f2 t.f4[k] (k : Int) = q) := ⟨_, Lib.hid rfl⟩
           have hdr : may t = (HTree.part t.f0 t.f2 t.f4[k] (k : Int) && parts t.f0 t.f2 (t.f4.drop (k + 1)) ((k : Int) + 1)) := by rw [HP.out, List.drop_eq_getElem_cons hlt, parts_cons]
           rw [VP.out] at hdr
           have HD := Lib.hid hdr
           have HM := Lib.hid (HH.out _ (List.getElem_mem hlt))
           clear hdr
           go_wp2_with fail
           refine ((part_any t k hlt hl9 HM.out _ _ _ Ct.out hl (HT.out.on HB.out).here).mono fun e w' h => (⟨h.1.trans (by rw [VP.out]), h.2⟩ : e = .returned (.bool pb) ∧ _)).mono ?_
           rintro e w6 ⟨rfl, hb⟩
           have HBR7 := Lib.hid (below_step HBR.out hb); have HB7 := Lib.hid (below_step HB.out hb)
           clear hb
           cases pb with
           | true =>
            go_wp2_with fail
            exact ⟨⟨k + 1, by omega, by first|rfl | go_num, Lib.hid (by rw [HD.out, Bool.true_and]; norm_cast), HBR7⟩, by simp [intOf]; omega⟩
           | false =>
            have HR : Hid (may t = false) := Lib.hid (by rw [HD.out, Bool.false_and])
            go_wp2_with fail
            go_ret
            exact ⟨by rw [HR.out]; rfl, HB7.out⟩
          ·have HR : Hid (may t = true) := Lib.hid (by rw [HP.out, List.drop_eq_nil_of_le (by omega)]; rfl)
           go_wp2_with fail
           go_ret
           exact ⟨by rw [HR.out]; rfl, HB.out⟩
 ·(try simp only [List.getElem_toArray, List.getElem_cons_succ, List.getElem_cons_zero])
  go_simp
  have hb : Below wq.drew.heap.size wq.drew ((wq.alloc (Obj.cells #[.int .i64 0, .int .i64 0, .int .i64 0] 49)).drew) := below_alloc (Below.refl _ _) _
  have vb : ((wq.alloc (Obj.cells #[.int .i64 0, .int .i64 0, .int .i64 0] 49)).drew).heap[wq.heap.size]? = some (Obj.cells #[.int .i64 0, .int .i64 0, .int .i64 0] 49) := blk_new _ _
  generalize (wq.alloc (Obj.cells #[.int .i64 0, .int .i64 0, .int .i64 0] 49)).drew = wa at hb vb ⊢
  refine hK.out _ _ ?_ (fun hHeld => ?_)
  ·(try dsimp only); exact keep5 hHeld hb
  clear hK K
  (try simp only [Act.put, List.getElem_toArray, List.getElem_cons_succ, List.getElem_cons_zero, List.setIfInBounds_toArray, List.set_cons_zero, List.set_cons_succ])
  refine wpAnyH_ready (rs := [0]) (by kernel_rfl) (by simp) ?_
  refine AllReadyH.cons rfl (fun K hK => ?_) (AllReadyH.nil)
  (try simp only [List.getElem_toArray, List.getElem_cons_succ, List.getElem_cons_zero])
  go_simp
  refine (TreeMap.shapes_any _).mono ?_
  rintro e w9 ⟨rfl, h9⟩
  have mb : w9.heap[wa.heap.size]? = some (Obj.map (TreeMap.ents 10) 10) := by rw [h9]; exact blk_new _ _
  have hb : Below wa.heap.size wa w9 := by rw [h9]; exact below_alloc (Below.refl _ _) _
  clear h9
  have vb2 := blk_below vb hb
  clear vb
  have vb := vb2
  clear vb2
  simp only []
  refine hK.out _ _ ?_ (fun hHeld => ?_)
  ·(try dsimp only); exact keep5 hHeld hb
  clear hK K
  (try simp only [Act.put, List.getElem_toArray, List.getElem_cons_succ, List.getElem_cons_zero, List.setIfInBounds_toArray, List.set_cons_zero, List.set_cons_succ])
  have hlk := look t.f0 w9 _ mb
  refine wpAnyH_ready (rs := [3]) (by kernel_rfl) (by simp) ?_
  refine AllReadyH.cons rfl (fun K hK => ?_) (AllReadyH.nil)
  (try simp only [List.getElem_toArray, List.getElem_cons_succ, List.getElem_cons_zero])
  go_simp
  refine hK.out _ _ ?_ (fun hHeld => ?_)
  ·(try dsimp only); exact hHeld
  clear hK K
  (try simp only [Act.put, List.getElem_toArray, List.getElem_cons_succ, List.getElem_cons_zero, List.setIfInBounds_toArray, List.set_cons_zero, List.set_cons_succ])
  refine wpAnyH_take (i := 4) (v := ?_) rfl (by kernel_rfl) (by kernel_rfl) (by kernel_rfl) (fun _ _ _ h => h) (Or.inl ⟨by rfl, ?_⟩) (by assumption) ?_
  rotate_left 1
  ·(intro w hSw; (try dsimp only at hSw); (try simp only [List.getElem_toArray, List.getElem_cons_succ, List.getElem_cons_zero]); go_simp; (try with_reducible rfl))
  (try simp only [Act.put, List.getElem_toArray, List.getElem_cons_succ, List.getElem_cons_zero, List.setIfInBounds_toArray, List.set_cons_zero, List.set_cons_succ])
  refine wpAnyH_take (i := 5) (v := ?_) rfl (by kernel_rfl) (by kernel_rfl) (by kernel_rfl) (fun _ _ _ h => h) (Or.inl ⟨by rfl, ?_⟩) (by assumption) ?_
  rotate_left 1
  ·(intro w hSw; (try dsimp only at hSw); (try simp only [List.getElem_toArray, List.getElem_cons_succ, List.getElem_cons_zero]); go_simp; (try with_reducible rfl))
  (try simp only [Act.put, List.getElem_toArray, List.getElem_cons_succ, List.getElem_cons_zero, List.setIfInBounds_toArray, List.set_cons_zero, List.set_cons_succ])
  refine wpAnyH_take (i := 6) (v := ?_) rfl (by kernel_rfl) (by kernel_rfl) (by kernel_rfl) (fun _ _ _ h => h) (Or.inl ⟨by rfl, ?_⟩) (by assumption) ?_
  rotate_left 1
  ·(intro w hSw; (try dsimp only at hSw); (try simp only [List.getElem_toArray, List.getElem_cons_succ, List.getElem_cons_zero]); go_simp; (try with_reducible rfl))
  (try simp only [Act.put, List.getElem_toArray, List.getElem_cons_succ, List.getElem_cons_zero, List.setIfInBounds_toArray, List.set_cons_zero, List.set_cons_succ])
  have v0 := blk_cell vb 0; have v1 := blk_cell vb 1; have v2 := blk_cell vb 2
  simp only [List.getElem?_toArray, List.getElem?_cons_zero, List.getElem?_cons_succ] at v0 v1 v2
  have z0 := blk_frozen vb 0; have z1 := blk_frozen vb 1; have z2 := blk_frozen vb 2
  have hge : wq.heap.size ≤ wq.heap.size := Nat.le_refl _
  refine wpAnyH_ready (rs := [8]) (by kernel_rfl) (by simp) ?_
  refine AllReadyH.cons rfl (fun K hK => ?_) (AllReadyH.nil)
  (try simp only [List.getElem_toArray, List.getElem_cons_succ, List.getElem_cons_zero])
  go_simp
  have vb2 : (((w9.setCell ⟨wq.heap.size, 0, none⟩ (.int .i64 (what t.f0))).setCell ⟨wq.heap.size, 1, none⟩ (.int .i64 (least t.f0))).setCell ⟨wq.heap.size, 2, none⟩ (.int .i64 (most t.f0))).heap[wq.heap.size]? = some (Obj.cells #[.int .i64 (what t.f0), .int .i64 (least t.f0), .int .i64 (most t.f0)] 49) := blk_put (blk_put (blk_put vb 0 (.int .i64 (what t.f0)) rfl) 1 (.int .i64 (least t.f0)) rfl) 2 (.int .i64 (most t.f0)) rfl
  have hbs : Below wq.heap.size wq (((w9.setCell ⟨wq.heap.size, 0, none⟩ (.int .i64 (what t.f0))).setCell ⟨wq.heap.size, 1, none⟩ (.int .i64 (least t.f0))).setCell ⟨wq.heap.size, 2, none⟩ (.int .i64 (most t.f0))) := below_set (below_set (below_set hHeld.2.2.2.2.2 hge) hge) hge
  generalize (((w9.setCell ⟨wq.heap.size, 0, none⟩ (.int .i64 (what t.f0))).setCell ⟨wq.heap.size, 1, none⟩ (.int .i64 (least t.f0))).setCell ⟨wq.heap.size, 2, none⟩ (.int .i64 (most t.f0))) = ws at vb2 hbs ⊢
  refine hK.out _ _ ?_ (fun hHeld => ?_)
  ·(try dsimp only); exact keep5 ⟨t0, t1, t2, t3, t4, Below.refl _ _⟩ hbs
  clear hK K
  (try simp only [Act.put, List.getElem_toArray, List.getElem_cons_succ, List.getElem_cons_zero, List.setIfInBounds_toArray, List.set_cons_zero, List.set_cons_succ])
  refine wpAnyH_take (i := 9) (v := ?_) rfl (by kernel_rfl) (by kernel_rfl) (by kernel_rfl) (fun _ _ _ h => h) (Or.inl ⟨by rfl, ?_⟩) (by assumption) ?_
  rotate_left 1
  ·(intro w hSw; (try dsimp only at hSw); (try simp only [List.getElem_toArray, List.getElem_cons_succ, List.getElem_cons_zero]); go_simp; (try with_reducible rfl))
  (try simp only [Act.put, List.getElem_toArray, List.getElem_cons_succ, List.getElem_cons_zero, List.setIfInBounds_toArray, List.set_cons_zero, List.set_cons_succ])
  refine wpAnyH_done (by kernel_rfl) ?_ _
  have Bs := Lib.hid vb2
  have n0_ := Lib.hid (below_step HB.out hbs); have n1_ := Lib.hid (Kd.C_below Ct.out hbs); have n2_ := Lib.hid (blk_below Bt.out hbs)
  clear HB Ct Bt vb vb2 hbs hHeld v0 v1 v2 z0 z1 z2 hlk mb t0 t1 t2 t3 t4 hge
  have HB := n0_; have Ct := n1_; have Bt := n2_
  clear n0_ n1_ n2_
  generalize wq.heap.size = gb at Bs ⊢
  have t0 := blk_cell Bt.out 0; have t1 := blk_cell Bt.out 1; have t2 := blk_cell Bt.out 2; have t3 := blk_cell Bt.out 3; have t4 := blk_cell Bt.out 4
  simp only [List.getElem?_toArray, List.getElem?_cons_zero, List.getElem?_cons_succ] at t0 t1 t2 t3 t4
  have s0 := blk_cell Bs.out 0; have s1 := blk_cell Bs.out 1; have s2 := blk_cell Bs.out 2
  simp only [List.getElem?_toArray, List.getElem?_cons_zero, List.getElem?_cons_succ] at s0 s1 s2
  have MI := Lib.hid (may_is t)
  generalize hwh : what t.f0 = wh at *
  generalize hle : least t.f0 = le at *
  generalize hmo : most t.f0 = mo at *
  generalize hkn : known t.f0 = kn at *
  clear hwh hle hmo hkn
  cases kn with
  | false =>
   have HR : Hid (may t = false) := Lib.hid (by rw [MI.out]; simp)
   go_wp2_with fail
   go_ret
   exact ⟨by rw [HR.out]; rfl, HB.out⟩
  | true =>
   rcases Classical.em ((t.f4.length : Int) < le) with q | q
   ·have QN := Lib.hid q
    have bl : decide ((t.f4.length : Int) < le) = true := decide_eq_true q
    clear q
    have HR : Hid (may t = false) := Lib.hid (by rw [MI.out]; rw [decide_eq_false (show ¬ le ≤ (t.f4.length : Int) by have := QN.out; omega)]; simp)
    go_wp2_with fail
    go_ret
    exact ⟨by rw [HR.out]; rfl, HB.out⟩
   ·have QN := Lib.hid q
    have bl : decide ((t.f4.length : Int) < le) = false := decide_eq_false q
    clear q
    have QL : Hid (le ≤ (t.f4.length : Int)) := Lib.hid (by have := QN.out; omega)
    clear QN
    rcases Classical.em ((t.f4.length : Int) > mo) with q | q
    ·have QN := Lib.hid q
     have bm : decide ((t.f4.length : Int) > mo) = true := decide_eq_true q
     have bm2 : decide (mo < (t.f4.length : Int)) = true := decide_eq_true q
     clear q
     have HR : Hid (may t = false) := Lib.hid (by rw [MI.out]; rw [decide_eq_false (show ¬ (t.f4.length : Int) ≤ mo by have := QN.out; omega)]; simp)
     go_wp2_with fail
     go_ret
     exact ⟨by rw [HR.out]; rfl, HB.out⟩
    ·have QN := Lib.hid q
     have bm : decide ((t.f4.length : Int) > mo) = false := decide_eq_false q
     have bm2 : decide (mo < (t.f4.length : Int)) = false := decide_eq_false q
     clear q
     have QM : Hid ((t.f4.length : Int) ≤ mo) := Lib.hid (by have := QN.out; omega)
     clear QN
     obtain ⟨nb, VN⟩ : ∃ q, Hid (named t.f1 wh = q) := ⟨_, Lib.hid rfl⟩
     go_wp2_with fail
     refine ((TreeNm.named_any t.f1 wh hs _ (HT.out.on HB.out).here).mono fun e w' h => (⟨h.1.trans (by rw [VN.out]), h.2⟩ : e = .returned (.bool nb) ∧ _)).mono ?_
     rintro e w5 ⟨rfl, hb⟩
     have n0_ := Lib.hid (below_step HB.out hb); have n1_ := Lib.hid (Kd.C_below Ct.out hb); have n2_ := Lib.hid (blk_below Bt.out hb); have n3_ := Lib.hid (blk_below Bs.out hb)
     clear HB Ct Bt Bs hb t0 t1 t2 t3 t4 s0 s1 s2
     have HB := n0_; have Ct := n1_; have Bt := n2_; have Bs := n3_
     clear n0_ n1_ n2_ n3_
     have t0 := blk_cell Bt.out 0; have t1 := blk_cell Bt.out 1; have t2 := blk_cell Bt.out 2; have t3 := blk_cell Bt.out 3; have t4 := blk_cell Bt.out 4
     simp only [List.getElem?_toArray, List.getElem?_cons_zero, List.getElem?_cons_succ] at t0 t1 t2 t3 t4
     have s0 := blk_cell Bs.out 0; have s1 := blk_cell Bs.out 1; have s2 := blk_cell Bs.out 2
     simp only [List.getElem?_toArray, List.getElem?_cons_zero, List.getElem?_cons_succ] at s0 s1 s2
     cases nb with
     | false =>
      have HR : Hid (may t = false) := Lib.hid (by rw [MI.out]; rw [VN.out]; simp)
      go_wp2_with fail
      go_ret
      exact ⟨by rw [HR.out]; rfl, HB.out⟩
     | true =>
      obtain ⟨ub, VU⟩ : ∃ q, Hid (number t.f0 t.f2 t.f4.length = q) := ⟨_, Lib.hid rfl⟩
      have hnum := TreeNm.number_is t.f0 t.f1 t.f2 t.f3 t.f4 hl9
      rw [VU.out] at hnum
      have NU := Lib.hid hnum
      clear hnum
      go_wp2_with fail
      refine (tree_number.calls t.f0 t.f1 t.f2 t.f3 _ _ t.f4 _ _ Ct.out hl NU.out).mono ?_
      rintro e w5 ⟨rfl, hb⟩
      have n0_ := Lib.hid (below_step HB.out hb); have n1_ := Lib.hid (Kd.C_below Ct.out hb); have n2_ := Lib.hid (blk_below Bt.out hb); have n3_ := Lib.hid (blk_below Bs.out hb)
      clear HB Ct Bt Bs hb t0 t1 t2 t3 t4 s0 s1 s2
      have HB := n0_; have Ct := n1_; have Bt := n2_; have Bs := n3_
      clear n0_ n1_ n2_ n3_
      have t0 := blk_cell Bt.out 0; have t1 := blk_cell Bt.out 1; have t2 := blk_cell Bt.out 2; have t3 := blk_cell Bt.out 3; have t4 := blk_cell Bt.out 4
      simp only [List.getElem?_toArray, List.getElem?_cons_zero, List.getElem?_cons_succ] at t0 t1 t2 t3 t4
      have s0 := blk_cell Bs.out 0; have s1 := blk_cell Bs.out 1; have s2 := blk_cell Bs.out 2
      simp only [List.getElem?_toArray, List.getElem?_cons_zero, List.getElem?_cons_succ] at s0 s1 s2
      clear NU
      cases ub with
      | false =>
       have HR : Hid (may t = false) := Lib.hid (by rw [MI.out]; rw [VU.out]; simp)
       go_wp2_with fail
       go_ret
       exact ⟨by rw [HR.out]; rfl, HB.out⟩
      | true =>
       rcases Classical.em (t.f3 < 0) with q | q
       ·have QN := Lib.hid q
        have ba : decide (t.f3 < 0) = true := decide_eq_true q
        clear q
        have HR : Hid (may t = false) := Lib.hid (by rw [MI.out]; rw [decide_eq_false (show ¬ (0 : Int) ≤ t.f3 by have := QN.out; omega)]; simp)
        go_wp2_with fail
        go_ret
        exact ⟨by rw [HR.out]; rfl, HB.out⟩
       ·have QN := Lib.hid q
        have ba : decide (t.f3 < 0) = false := decide_eq_false q
        clear q
        have QA : Hid ((0 : Int) ≤ t.f3) := Lib.hid (by have := QN.out; omega)
        clear QN
        have MP : Hid (may t = parts t.f0 t.f2 t.f4 0) := Lib.hid (by rw [MI.out, VN.out, VU.out, decide_eq_true QL.out, decide_eq_true QM.out, decide_eq_true QA.out]; simp)
        go_wp2_with fail
        go_loopw [52] (fun i wr => ∃ k : Nat, k ≤ t.f4.length ∧ i = .int .i64 k ∧ Hid (may t = parts t.f0 t.f2 (t.f4.drop k) (k : Int)) ∧ Hid (Below w5.heap.size w5 wr)) (fun i _ => t.f4.length - (intOf i).toNat)
        case atStart => exact ⟨0, Nat.zero_le _, rfl, Lib.hid (by rw [MP.out]; rfl), Lib.hid (Below.refl _ _)⟩
        case round =>
         obtain ⟨k, hk, rfl, HP, HBR⟩ := hrel
         have hb := HBR.out
         have n0_ := Lib.hid (below_step HB.out hb); have n1_ := Lib.hid (Kd.C_below Ct.out hb); have n2_ := Lib.hid (blk_below Bt.out hb); have n3_ := Lib.hid (blk_below Bs.out hb)
         clear HB Ct Bt Bs hb t0 t1 t2 t3 t4 s0 s1 s2
         have HB := n0_; have Ct := n1_; have Bt := n2_; have Bs := n3_
         clear n0_ n1_ n2_ n3_
         have t0 := blk_cell Bt.out 0; have t1 := blk_cell Bt.out 1; have t2 := blk_cell Bt.out 2; have t3 := blk_cell Bt.out 3; have t4 := blk_cell Bt.out 4
         simp only [List.getElem?_toArray, List.getElem?_cons_zero, List.getElem?_cons_succ] at t0 t1 t2 t3 t4
         have s0 := blk_cell Bs.out 0; have s1 := blk_cell Bs.out 1; have s2 := blk_cell Bs.out 2
         simp only [List.getElem?_toArray, List.getElem?_cons_zero, List.getElem?_cons_succ] at s0 s1 s2
         by_cases hlt : k < t.f4.length
         ·obtain ⟨pb, VP⟩ : ∃ q, Hid (HTree.part t.f0 t.f2 t.f4[k] (k : Int) = q) := ⟨_, Lib.hid rfl⟩
          have hdr : may t = (HTree.part t.f0 t.f2 t.f4[k] (k : Int) && parts t.f0 t.f2 (t.f4.drop (k + 1)) ((k : Int) + 1)) := by rw [HP.out, List.drop_eq_getElem_cons hlt, parts_cons]
          rw [VP.out] at hdr
          have HD := Lib.hid hdr
          have HM := Lib.hid (HH.out _ (List.getElem_mem hlt))
          clear hdr
          go_wp2_with fail
          refine ((part_any t k hlt hl9 HM.out _ _ _ Ct.out hl (HT.out.on HB.out).here).mono fun e w' h => (⟨h.1.trans (by rw [VP.out]), h.2⟩ : e = .returned (.bool pb) ∧ _)).mono ?_
          rintro e w6 ⟨rfl, hb⟩
          have HBR7 := Lib.hid (below_step HBR.out hb); have HB7 := Lib.hid (below_step HB.out hb)
          clear hb
          cases pb with
          | true =>
           go_wp2_with fail
           exact ⟨⟨k + 1, by omega, by first|rfl | go_num, Lib.hid (by rw [HD.out, Bool.true_and]; norm_cast), HBR7⟩, by simp [intOf]; omega⟩
          | false =>
           have HR : Hid (may t = false) := Lib.hid (by rw [HD.out, Bool.false_and])
           go_wp2_with fail
           go_ret
           exact ⟨by rw [HR.out]; rfl, HB7.out⟩
         ·have HR : Hid (may t = true) := Lib.hid (by rw [HP.out, List.drop_eq_nil_of_le (by omega)]; rfl)
          go_wp2_with fail
          go_ret
          exact ⟨by rw [HR.out]; rfl, HB.out⟩
end TreeMay
end Go.Proofs.YthdkjfhpbigdpaaDoor.Pure

namespace Go.Proofs.YthdkjfhpbigdpaaDoor.Pure
open Go Go.RowKit Go.Lib Go.Proofs Go.Proofs.YthdkjfhpbigdpaaDoor.Q Go.Proofs.YthdkjfhpbigdpaaDoorW.PrintWords Go.Proofs.YthdkjfhpbigdpaaDoorW.PrintLast Go.Proofs.YthdkjfhpbigdpaaDoorW.PrintMore
open HTree
namespace TreeMay
set_option linter.unusedVariables false
set_option linter.unusedSimpArgs false
theorem may_any : ∀ (n : Nat) (x : T), height x ≤ n → wt x ≤ 1000000000 → MayC x
 | 0, x, hn, _ => by cases x; simp only [height] at hn; omega
 | n + 1, x, hn, hw => by
  have hh : height x = heights x.f4 + 1 := by cases x; rfl
  have hwx : wts x.f4 ≤ wt x := by cases x; simp only [wt]; omega
  have hsx : x.f1.size ≤ wt x := by cases x; simp only [wt]; omega
  have := len_wts x.f4
  exact may_step x (by omega) (by omega) fun y hy => may_any n y (by have := height_get hy; omega) (by have := wt_get hy; omega)
set_option maxRecDepth 100000 in
theorem whole_any (x : T) (hw : wt x ≤ 1000000000) (w : World) (A : Option Addr) (c : Nat) (hC : Kd.C k24 w A x.f4.length x.f4) (hl : x.f4.length ≤ c) (htab : Lib.TabIs Tryd.prog w "strings.asciiSpace" .u8 Lib.asciiSpaceTab) :
  Calls Tryd.prog 15 #[.agg #[.int .i64 x.f0, .string x.f1, .int .i64 x.f2, .int .i64 x.f3, .slice A x.f4.length c]] w fun e w' => e = .returned (.bool (whole x)) ∧ Below w.heap.size w w' := by
 have HT := Lib.hid (tabBelow_of_tabIs htab)
 have HM := Lib.hid (may_any _ x (Nat.le_refl _) hw)
 clear htab
 have hba := below_alloc (Below.refl w.heap.size w) (Obj.cells #[.int .i64 x.f0, .string x.f1, .int .i64 x.f2, .int .i64 x.f3, .slice A x.f4.length c] 24)
 have h1 := blk_new w (Obj.cells #[.int .i64 x.f0, .string x.f1, .int .i64 x.f2, .int .i64 x.f3, .slice A x.f4.length c] 24)
 go_enter Tryd.func15, Tryd.ntmps15
 go_upto_region 1 with (fail)
 generalize hwq : w.alloc (Obj.cells #[.int .i64 x.f0, .string x.f1, .int .i64 x.f2, .int .i64 x.f3, .slice A x.f4.length c] 24) = wq at hba h1 ⊢
 clear hwq
 have HB := Lib.hid hba; have Ct := Lib.hid (Kd.C_below hC hba)
 have t0 := blk_cell h1 0; have t1 := blk_cell h1 1; have t2 := blk_cell h1 2; have t3 := blk_cell h1 3; have t4 := blk_cell h1 4
 simp only [List.getElem?_toArray, List.getElem?_cons_zero, List.getElem?_cons_succ] at t0 t1 t2 t3 t4
 clear hba h1 hC
 rcases Classical.em (x.f0 = 8) with q | q
 ·have b8 : (x.f0 != 8) = false := bne_eq_false_iff_eq.2 q
  have HR : Hid (whole x = false) := Lib.hid (by unfold whole; rw [decide_eq_false (fun h => h q)]; rfl)
  clear q
  go_wp2_with fail
  go_ret
  exact ⟨by rw [HR.out]; rfl, HB.out⟩
 ·have b8 : (x.f0 != 8) = true := bne_iff_ne.2 q
  have HR : Hid (whole x = may x) := Lib.hid (by unfold whole; rw [decide_eq_true q]; rfl)
  clear q
  go_wp2_with fail
  refine (HM.out _ _ _ Ct.out hl (HT.out.on HB.out).here).mono ?_
  rintro e w5 ⟨rfl, hb⟩
  have HB5 := Lib.hid (below_step HB.out hb)
  clear hb
  go_wp2_with fail
  go_ret
  exact ⟨by rw [HR.out]; rfl, HB5.out⟩
end TreeMay
end Go.Proofs.YthdkjfhpbigdpaaDoor.Pure

namespace Go.Proofs.YthdkjfhpbigdpaaDoor.Pure
open Go Go.RowKit Go.Lib Go.Proofs Go.Proofs.YthdkjfhpbigdpaaDoor.Q Go.Proofs.YthdkjfhpbigdpaaDoorW.PrintWords Go.Proofs.YthdkjfhpbigdpaaDoorW.PrintLast Go.Proofs.YthdkjfhpbigdpaaDoorW.PrintMore
open HTree
namespace TreeFix
set_option linter.unusedVariables false
set_option linter.unusedSimpArgs false
theorem C2 {W : World} {x y : T} {cs ds : List Value} (h : k24.K W x cs) (h2 : k24.K W y ds) : Kd.C k24 (W.alloc (.cells (cs ++ ds).toArray 24)) (some ⟨W.heap.size, 0, none⟩) 2 [x, y] := by
 have hb := below_alloc (Below.refl W.heap.size W) (.cells (cs ++ ds).toArray 24)
 have hn := blk_new W (.cells (cs ++ ds).toArray 24)
 have hl : cs.length = 5 := k24.K_len h
 refine ⟨rfl, by decide, fun _ => ⟨_, rfl, fun j p hj => ?_⟩⟩
 match j, hj with
 | 0, hj =>
  obtain rfl : x = p := by simpa using hj
  refine ⟨cs, k24.K_len h, k24.K_below hb h, fun i u hi => ?_⟩
  have := blk_cell hn i
  have e : (⟨W.heap.size, 0, none⟩ : Addr).add (0 * k24.sz + i) = ⟨W.heap.size, i, none⟩ := by rw [Nat.zero_mul, Nat.zero_add]; simp only [Addr.add]; split <;> simp_all
  have hlt := (List.getElem?_eq_some_iff.1 hi).1
  rw [e, this]; simpa [List.getElem?_append_left hlt] using hi
 | 1, hj =>
  obtain rfl : y = p := by simpa using hj
  refine ⟨ds, k24.K_len h2, k24.K_below hb h2, fun i u hi => ?_⟩
  have := blk_cell hn (5 + i)
  have e : (⟨W.heap.size, 0, none⟩ : Addr).add (1 * k24.sz + i) = ⟨W.heap.size, 5 + i, none⟩ := by rw [show 1 * k24.sz + i = 5 + i from rfl]; simp only [Addr.add]; split <;> simp_all
  rw [e, this]; simp [List.getElem?_append_right, hl, hi]
theorem C0 (W : World) : Kd.C k24 W none 0 [] := ⟨rfl, by decide, fun h => absurd h (by decide)⟩
theorem keep16 {p0 : Addr} {p1 : Addr} {p2 : Addr} {p3 : Addr} {p4 : Addr} {p5 : Addr} {p6 : Addr} {p7 : Addr} {p8 : Addr} {p9 : Addr} {p10 : Addr} {p11 : Addr} {p12 : Addr} {p13 : Addr} {p14 : Addr} {p15 : Addr} {v0 : Value} {v1 : Value} {v2 : Value} {v3 : Value} {v4 : Value} {v5 : Value} {v6 : Value} {v7 : Value} {v8 : Value} {v9 : Value} {v10 : Value} {v11 : Value} {v12 : Value} {v13 : Value} {v14 : Value} {v15 : Value} {wq w1 w2 : World}
  (h : w1.cell? p0 = some v0 ∧ w1.cell? p1 = some v1 ∧ w1.cell? p2 = some v2 ∧ w1.cell? p3 = some v3 ∧ w1.cell? p4 = some v4 ∧ w1.cell? p5 = some v5 ∧ w1.cell? p6 = some v6 ∧ w1.cell? p7 = some v7 ∧ w1.cell? p8 = some v8 ∧ w1.cell? p9 = some v9 ∧ w1.cell? p10 = some v10 ∧ w1.cell? p11 = some v11 ∧ w1.cell? p12 = some v12 ∧ w1.cell? p13 = some v13 ∧ w1.cell? p14 = some v14 ∧ w1.cell? p15 = some v15 ∧ Below wq.heap.size wq w1) (hb : Below w1.heap.size w1 w2) :
  w2.cell? p0 = some v0 ∧ w2.cell? p1 = some v1 ∧ w2.cell? p2 = some v2 ∧ w2.cell? p3 = some v3 ∧ w2.cell? p4 = some v4 ∧ w2.cell? p5 = some v5 ∧ w2.cell? p6 = some v6 ∧ w2.cell? p7 = some v7 ∧ w2.cell? p8 = some v8 ∧ w2.cell? p9 = some v9 ∧ w2.cell? p10 = some v10 ∧ w2.cell? p11 = some v11 ∧ w2.cell? p12 = some v12 ∧ w2.cell? p13 = some v13 ∧ w2.cell? p14 = some v14 ∧ w2.cell? p15 = some v15 ∧ Below wq.heap.size wq w2 := by
 obtain ⟨h0, h1, h2, h3, h4, h5, h6, h7, h8, h9, h10, h11, h12, h13, h14, h15, h16⟩ := h
 exact ⟨(hb.cell (World.block_lt_of_cell? _ _ h0)).trans h0, (hb.cell (World.block_lt_of_cell? _ _ h1)).trans h1, (hb.cell (World.block_lt_of_cell? _ _ h2)).trans h2, (hb.cell (World.block_lt_of_cell? _ _ h3)).trans h3, (hb.cell (World.block_lt_of_cell? _ _ h4)).trans h4, (hb.cell (World.block_lt_of_cell? _ _ h5)).trans h5, (hb.cell (World.block_lt_of_cell? _ _ h6)).trans h6, (hb.cell (World.block_lt_of_cell? _ _ h7)).trans h7, (hb.cell (World.block_lt_of_cell? _ _ h8)).trans h8, (hb.cell (World.block_lt_of_cell? _ _ h9)).trans h9, (hb.cell (World.block_lt_of_cell? _ _ h10)).trans h10, (hb.cell (World.block_lt_of_cell? _ _ h11)).trans h11, (hb.cell (World.block_lt_of_cell? _ _ h12)).trans h12, (hb.cell (World.block_lt_of_cell? _ _ h13)).trans h13, (hb.cell (World.block_lt_of_cell? _ _ h14)).trans h14, (hb.cell (World.block_lt_of_cell? _ _ h15)).trans h15, below_step h16 hb⟩
end TreeFix
end Go.Proofs.YthdkjfhpbigdpaaDoor.Pure

namespace Go.Proofs.YthdkjfhpbigdpaaDoor.Pure
open Go Go.RowKit Go.Lib Go.Proofs Go.Proofs.YthdkjfhpbigdpaaDoor.Q Go.Proofs.YthdkjfhpbigdpaaDoorW.PrintWords Go.Proofs.YthdkjfhpbigdpaaDoorW.PrintLast Go.Proofs.YthdkjfhpbigdpaaDoorW.PrintMore
open HTree
namespace TreeSm
set_option linter.unusedVariables false
set_option linter.unusedSimpArgs false
theorem sames_len : ∀ l l' : List T, ¬ l.length = l'.length → sames l l' = false
 | [], [], h => absurd rfl h
 | [], _ :: _, _ => rfl
 | _ :: _, [], _ => rfl
 | x :: l, y :: l', h => by
  simp only [List.length_cons] at h
  simp only [sames, sames_len l l' (by omega), Bool.and_false]
def SameC (x : T) : Prop := ∀ (y : T) (w : World) (A : Option Addr) (c : Nat) (A2 : Option Addr) (c2 : Nat), Kd.C k24 w A x.f4.length x.f4 → x.f4.length ≤ c → Kd.C k24 w A2 y.f4.length y.f4 → y.f4.length ≤ c2 →
 Calls Tryd.prog 11 #[.agg #[.int .i64 x.f0, .string x.f1, .int .i64 x.f2, .int .i64 x.f3, .slice A x.f4.length c], .agg #[.int .i64 y.f0, .string y.f1, .int .i64 y.f2, .int .i64 y.f3, .slice A2 y.f4.length c2]] w fun e w' => e = .returned (.bool (same x y)) ∧ Below w.heap.size w w'
set_option maxRecDepth 100000 in
theorem equal_any (l l' : List T) (hl : l.length ≤ 1000000000) (H : ∀ x ∈ l, SameC x) (w : World) (A : Option Addr) (c : Nat) (A2 : Option Addr) (c2 : Nat) (hc : Kd.C k24 w A l.length l) (hlc : l.length ≤ c) (hc2 : Kd.C k24 w A2 l'.length l') (hlc2 : l'.length ≤ c2) :
  Calls Tryd.prog 20 #[.slice A l.length c, .slice A2 l'.length c2, .func (.func 11) #[] #[]] w fun e w' => e = .returned (.bool (sames l l')) ∧ Below w.heap.size w w' := by
 have HC := Lib.hid hc; have HC2 := Lib.hid hc2; have HH := Lib.hid H
 clear hc hc2 H
 by_cases hn : l.length = l'.length
 ·have b1 : ((l.length : Int) != (l'.length : Int)) = false := bne_eq_false_iff_eq.2 (by omega)
  have HN := Lib.hid hn
  have hl' : l'.length ≤ 1000000000 := by omega
  clear hn
  go_enter Tryd.func20, Tryd.ntmps20
  go_wp2_with fail
  go_loopw [17] (fun i wr => ∃ k : Nat, k ≤ l.length ∧ i = .int .i64 k ∧ Hid (sames l l' = sames (l.drop k) (l'.drop k)) ∧ Hid (Below w.heap.size w wr)) (fun i _ => l.length - (intOf i).toNat)
  case atStart => exact ⟨0, Nat.zero_le _, rfl, Lib.hid rfl, Lib.hid (Below.refl _ _)⟩
  case round =>
   obtain ⟨k, hk, rfl, HP, HB⟩ := hrel
   by_cases hlt : k < l.length
   ·have hlt' : k < l'.length := by have := HN.out; omega
    obtain ⟨ad, A3, c3, rfl, x0, x1, x2, x3, x4, hl3, hc3⟩ := at_T24 (Kd.C_below HC.out HB.out) (k : Int) (by omega) (by omega)
    simp only [Int.toNat_natCast] at x0 x1 x2 x3 x4
    have hrk : rd_T24 l (k : Int) = l[k] := by
     unfold rd_T24
     rw [Int.toNat_natCast, List.getD_eq_getElem?_getD, List.getElem?_eq_getElem hlt]; rfl
    rw [hrk] at x0 x1 x2 x3 x4 hl3 hc3
    have hp := HP.out
    rw [List.drop_eq_getElem_cons hlt, List.drop_eq_getElem_cons hlt'] at hp
    simp only [sames] at hp
    have hy := HH.out l[k] (List.getElem_mem hlt)
    generalize l[k] = y at *
    have HY := Lib.hid hy; have HC3 := Lib.hid hc3; have HP1 := Lib.hid hp
    clear hrk hy hc3 hp HP
    go_upto_region 6 with (fail)
    have hb0 := blk_new wr (Obj.cells #[.int .i64 y.f0, .string y.f1, .int .i64 y.f2, .int .i64 y.f3, .slice A3 y.f4.length c3] 24)
    have hba := below_alloc (Below.refl wr.heap.size wr) (Obj.cells #[.int .i64 y.f0, .string y.f1, .int .i64 y.f2, .int .i64 y.f3, .slice A3 y.f4.length c3] 24)
    have hlt1 : wr.heap.size < (wr.alloc (Obj.cells #[.int .i64 y.f0, .string y.f1, .int .i64 y.f2, .int .i64 y.f3, .slice A3 y.f4.length c3] 24)).heap.size := blk_lt hb0
    generalize hwq : wr.alloc (Obj.cells #[.int .i64 y.f0, .string y.f1, .int .i64 y.f2, .int .i64 y.f3, .slice A3 y.f4.length c3] 24) = wq at hb0 hba hlt1 ⊢
    clear hwq
    have HB0 := Lib.hid hb0; have HBQ := Lib.hid (below_step HB.out hba); have HC3Q := Lib.hid (Kd.C_below HC3.out hba)
    clear hb0 hba x0 x1 x2 x3 x4
    obtain ⟨ad2, A4, c4, rfl, v0, v1, v2, v3, v4, hl4, hc4⟩ := at_T24 (Kd.C_below HC2.out HBQ.out) (k : Int) (by omega) (by omega)
    simp only [Int.toNat_natCast] at v0 v1 v2 v3 v4
    have hrk : rd_T24 l' (k : Int) = l'[k] := by
     unfold rd_T24
     rw [Int.toNat_natCast, List.getD_eq_getElem?_getD, List.getElem?_eq_getElem hlt']; rfl
    rw [hrk] at v0 v1 v2 v3 v4 hl4 hc4
    generalize l'[k] = z at *
    have HC4 := Lib.hid hc4
    clear hrk hc4
    have j1 : (k : Int) < (l'.length : Int) := by omega
    go_upto_region 7 with (fail)
    have hb0 := blk_new wq (Obj.cells #[.int .i64 z.f0, .string z.f1, .int .i64 z.f2, .int .i64 z.f3, .slice A4 z.f4.length c4] 24)
    have hba := below_alloc (Below.refl wq.heap.size wq) (Obj.cells #[.int .i64 z.f0, .string z.f1, .int .i64 z.f2, .int .i64 z.f3, .slice A4 z.f4.length c4] 24)
    generalize hwq : wq.alloc (Obj.cells #[.int .i64 z.f0, .string z.f1, .int .i64 z.f2, .int .i64 z.f3, .slice A4 z.f4.length c4] 24) = ws at hb0 hba ⊢
    clear hwq
    have h1 := blk_below HB0.out hba
    have u0 := blk_cell h1 0; have u1 := blk_cell h1 1; have u2 := blk_cell h1 2; have u3 := blk_cell h1 3; have u4 := blk_cell h1 4
    have s0 := blk_cell hb0 0; have s1 := blk_cell hb0 1; have s2 := blk_cell hb0 2; have s3 := blk_cell hb0 3; have s4 := blk_cell hb0 4
    simp only [List.getElem?_toArray, List.getElem?_cons_zero, List.getElem?_cons_succ] at u0 u1 u2 u3 u4 s0 s1 s2 s3 s4
    have hcall := HY.out z ws A3 c3 A4 c4 (Kd.C_below HC3Q.out hba) hl3 (Kd.C_below HC4.out hba) hl4
    have HCALL := Lib.hid hcall; have HBS := Lib.hid (below_step HBQ.out hba)
    clear hb0 hba h1 hcall v0 v1 v2 v3 v4
    go_wp2_with fail
    refine HCALL.out.mono ?_
    rintro e w5 ⟨rfl, hb⟩
    have HB5 := Lib.hid (below_step HBS.out hb)
    clear hb HCALL
    cases hs : same y z with
    | true =>
     have HS := Lib.hid hs
     clear hs
     go_wp2_with fail
     exact ⟨⟨k + 1, by omega, by first|rfl | go_num, Lib.hid (by rw [HP1.out, HS.out, Bool.true_and]), HB5⟩, by simp [intOf]; omega⟩
    | false =>
     have HF : Hid (sames l l' = false) := Lib.hid (by rw [HP1.out, hs, Bool.false_and])
     clear hs
     go_wp2_with fail
     go_ret
     exact ⟨congrArg (fun t => Ending.returned (Value.bool t)) HF.out.symm, HB5.out⟩
   ·have hkl : k = l.length := by omega
    have HF : Hid (sames l l' = true) := Lib.hid (by rw [HP.out, hkl, List.drop_length, HN.out, List.drop_length]; rfl)
    subst hkl
    go_wp2_with fail
    go_ret
    exact ⟨congrArg (fun t => Ending.returned (Value.bool t)) HF.out.symm, HB.out⟩
 ·have b1 : ((l.length : Int) != (l'.length : Int)) = true := bne_iff_ne.2 (by omega)
  have HF : Hid (sames l l' = false) := Lib.hid (sames_len l l' hn)
  clear hn
  go_enter Tryd.func20, Tryd.ntmps20
  go_wp2_with fail
  go_ret
  exact ⟨congrArg (fun t => Ending.returned (Value.bool t)) HF.out.symm, Below.refl _ _⟩
set_option maxRecDepth 100000 in
theorem same_step (x : T) (hw : x.f4.length ≤ 1000000000) (H : ∀ y ∈ x.f4, SameC y) : SameC x := by
 intro y w A c A2 c2 hc hlc hc2 hlc2
 have HC := Lib.hid hc; have HC2 := Lib.hid hc2; have HH := Lib.hid H
 clear hc hc2 H
 go_enter Tryd.func11, Tryd.ntmps11
 go_upto_region 1 with (fail)
 have h1 := blk_alloc (blk_new w (Obj.cells #[.int .i64 x.f0, .string x.f1, .int .i64 x.f2, .int .i64 x.f3, .slice A x.f4.length c] 24)) (Obj.cells #[.int .i64 y.f0, .string y.f1, .int .i64 y.f2, .int .i64 y.f3, .slice A2 y.f4.length c2] 24)
 have h2 := blk_new (w.alloc (Obj.cells #[.int .i64 x.f0, .string x.f1, .int .i64 x.f2, .int .i64 x.f3, .slice A x.f4.length c] 24)) (Obj.cells #[.int .i64 y.f0, .string y.f1, .int .i64 y.f2, .int .i64 y.f3, .slice A2 y.f4.length c2] 24)
 rw [World.size_alloc] at h2
 have hba := below_alloc (below_alloc (Below.refl w.heap.size w) (Obj.cells #[.int .i64 x.f0, .string x.f1, .int .i64 x.f2, .int .i64 x.f3, .slice A x.f4.length c] 24)) (Obj.cells #[.int .i64 y.f0, .string y.f1, .int .i64 y.f2, .int .i64 y.f3, .slice A2 y.f4.length c2] 24)
 generalize hwq : (w.alloc (Obj.cells #[.int .i64 x.f0, .string x.f1, .int .i64 x.f2, .int .i64 x.f3, .slice A x.f4.length c] 24)).alloc (Obj.cells #[.int .i64 y.f0, .string y.f1, .int .i64 y.f2, .int .i64 y.f3, .slice A2 y.f4.length c2] 24) = wq at h1 h2 hba ⊢
 clear hwq
 have u0 := blk_cell h1 0; have u1 := blk_cell h1 1; have u2 := blk_cell h1 2; have u3 := blk_cell h1 3; have u4 := blk_cell h1 4
 have s0 := blk_cell h2 0; have s1 := blk_cell h2 1; have s2 := blk_cell h2 2; have s3 := blk_cell h2 3; have s4 := blk_cell h2 4
 simp only [List.getElem?_toArray, List.getElem?_cons_zero, List.getElem?_cons_succ] at u0 u1 u2 u3 u4 s0 s1 s2 s3 s4
 have HB := Lib.hid hba
 have HE := Lib.hid (equal_any x.f4 y.f4 hw HH.out wq A c A2 c2 (Kd.C_below HC.out hba) hlc (Kd.C_below HC2.out hba) hlc2)
 have hsm : same x y = (decide (x.f0 = y.f0) && decide (x.f1.data.toList = y.f1.data.toList) && decide (x.f2 = y.f2) && sames x.f4 y.f4) := by cases x; cases y; rfl
 have HS := Lib.hid hsm
 clear h1 h2 hba hsm
 rcases Classical.em (x.f0 = y.f0) with q1 | q1
 ·have b1 : (x.f0 == y.f0) = true := beq_iff_eq.2 q1
  have Q1 := Lib.hid (decide_eq_true q1)
  clear q1
  rcases Classical.em (x.f1.data.toList = y.f1.data.toList) with q2 | q2
  ·have b2 : (x.f1.toList == y.f1.toList) = true := by rw [Lib.toList_data, Lib.toList_data]; exact beq_iff_eq.2 q2
   have Q2 := Lib.hid (decide_eq_true q2)
   clear q2
   rcases Classical.em (x.f2 = y.f2) with q3 | q3
   ·have b3 : (x.f2 == y.f2) = true := beq_iff_eq.2 q3
    have Q3 := Lib.hid (decide_eq_true q3)
    clear q3
    go_wp2_with fail
    refine HE.out.mono ?_
    rintro e w5 ⟨rfl, hb⟩
    have HB5 := Lib.hid (below_step HB.out hb)
    clear hb HE
    go_wp2_with fail
    go_ret
    exact ⟨congrArg (fun t => Ending.returned (Value.bool t)) (by rw [HS.out, Q1.out, Q2.out, Q3.out]; rfl), HB5.out⟩
   ·have b3 : (x.f2 == y.f2) = false := beq_eq_false_iff_ne.2 q3
    have Q3 := Lib.hid (decide_eq_false q3)
    clear q3
    go_wp2_with fail
    go_ret
    exact ⟨congrArg (fun t => Ending.returned (Value.bool t)) (show false = same x y by rw [HS.out, Q3.out, Bool.and_false, Bool.false_and]), HB.out⟩
  ·have b2 : (x.f1.toList == y.f1.toList) = false := by rw [Lib.toList_data, Lib.toList_data]; exact beq_eq_false_iff_ne.2 q2
   have Q2 := Lib.hid (decide_eq_false q2)
   clear q2
   go_wp2_with fail
   go_ret
   exact ⟨congrArg (fun t => Ending.returned (Value.bool t)) (show false = same x y by rw [HS.out, Q2.out, Bool.and_false, Bool.false_and, Bool.false_and]), HB.out⟩
 ·have b1 : (x.f0 == y.f0) = false := beq_eq_false_iff_ne.2 q1
  have Q1 := Lib.hid (decide_eq_false q1)
  clear q1
  go_wp2_with fail
  go_ret
  exact ⟨congrArg (fun t => Ending.returned (Value.bool t)) (show false = same x y by rw [HS.out, Q1.out, Bool.false_and, Bool.false_and, Bool.false_and]), HB.out⟩
theorem same_any : ∀ (n : Nat) (x : T), height x ≤ n → wt x ≤ 1000000000 → SameC x
 | 0, x, hn, _ => by cases x; simp only [height] at hn; omega
 | n + 1, x, hn, hw => by
  have hh : height x = heights x.f4 + 1 := by cases x; rfl
  have hwx : wts x.f4 ≤ wt x := by cases x; simp only [wt]; omega
  have := len_wts x.f4
  exact same_step x (by omega) fun y hy => same_any n y (by have := height_get hy; omega) (by have := wt_get hy; omega)
end TreeSm
end Go.Proofs.YthdkjfhpbigdpaaDoor.Pure

namespace Go.Proofs.YthdkjfhpbigdpaaDoor.Pure
open Go Go.RowKit Go.Lib Go.Proofs Go.Proofs.YthdkjfhpbigdpaaDoor.Q Go.Proofs.YthdkjfhpbigdpaaDoorW.PrintWords Go.Proofs.YthdkjfhpbigdpaaDoorW.PrintLast Go.Proofs.YthdkjfhpbigdpaaDoorW.PrintMore
open HTree
namespace TreeFix
set_option linter.unusedVariables false
set_option linter.unusedSimpArgs false
def eL : T := ⟨2, ⟨#[120]⟩, 0, 1, [⟨1, ⟨#[120]⟩, 0, 3, []⟩]⟩
def eN : T := ⟨9, ⟨#[]⟩, 7, 6, []⟩
def eS : T := ⟨3, ⟨#[]⟩, 0, 0, [eL, eN]⟩
def eB : T := bare eS
def e0 : T := ⟨0, ⟨#[]⟩, 0, 0, []⟩
def eV : T := ⟨1, ⟨#[108, 101, 116]⟩, 0, 0, []⟩
def eC : T := ⟨6, ⟨#[65]⟩, 0, 0, []⟩
def eA : T := ⟨8, ⟨#[65]⟩, 0, 0, [eN]⟩
def eK : T := ⟨7, ⟨#[]⟩, 0, 0, [eS, eA]⟩
theorem wS : whole eS = true := by decide +kernel
theorem w0 : whole e0 = false := by decide +kernel
theorem wV : whole eV = false := by decide +kernel
theorem wC : whole eC = true := by decide +kernel
theorem wA : whole eA = false := by decide +kernel
theorem wK : whole eK = true := by decide +kernel
theorem sSB : same eS eB = true := by decide +kernel
theorem sSL : same eS eL = false := by decide +kernel
set_option maxRecDepth 100000 in
set_option maxHeartbeats 16000000 in
theorem fixed_any (w : World) (htab : Lib.TabIs Tryd.prog w "strings.asciiSpace" .u8 Lib.asciiSpaceTab) :
  Calls Tryd.prog 8 #[] w fun e w' => e = .returned (.bool true) ∧ Below w.heap.size w w' := by
 have HT := Lib.hid (tabBelow_of_tabIs htab)
 clear htab
 have hu24 := Tryd.underlying24
 go_enter Tryd.func8, Tryd.ntmps8
 go_wp2_with fail
 refine (gossamerlaw02_same.calls _ _ _ _ _ _ rfl).mono ?_
 rintro e w1 ⟨v1, rfl, r1, hb1⟩
 obtain ⟨A1, c1, rfl, hc1, cc1⟩ := Kd.N_reads r1
 have HB1 := Lib.hid hb1; have C1_ := Lib.hid cc1
 clear r1 hb1 cc1
 change 2 ≤ c1 at hc1
 go_wp2_with fail
 have tb := blk_new w1 (Obj.cells #[.int .i64 3, .string ⟨#[]⟩, .int .i64 0, .int .i64 0, .slice A1 2 c1] 24)
 have hb := below_alloc (Below.refl w1.heap.size w1) (Obj.cells #[.int .i64 3, .string ⟨#[]⟩, .int .i64 0, .int .i64 0, .slice A1 2 c1] 24)
 generalize hw2 : w1.alloc (Obj.cells #[.int .i64 3, .string ⟨#[]⟩, .int .i64 0, .int .i64 0, .slice A1 2 c1] 24) = w2 at tb hb ⊢
 clear hw2
 have TB := Lib.hid tb; have CT := Lib.hid (Kd.C_below C1_.out hb); have HB := Lib.hid (below_step HB1.out hb)
 clear tb hb C1_ HB1
 refine (tree_Bare.calls 20 3 ⟨#[]⟩ 0 0 A1 c1 eS.f4 3 ⟨#[]⟩ 0 0 eB.f4 _ CT.out hc1 (by kernel_rfl)).mono ?_
 rintro e w3 ⟨v2, rfl, r2, hb⟩
 obtain ⟨A2, c2, rfl, hc2, cc2⟩ := Kd.R_reads r2
 change 2 ≤ c2 at hc2
 rw [show eB.f4.length = 2 from rfl]
 have n0_ := Lib.hid (below_step HB.out hb); have n1_ := Lib.hid (Kd.C_below CT.out hb); have n2_ := Lib.hid (blk_below TB.out hb)
 clear HB CT TB hb r2
 have HB := n0_; have CT := n1_; have TB := n2_
 clear n0_ n1_ n2_
 go_upto_region 3 with (fail)
 simp only [List.append_eq, List.cons_append, List.nil_append]
 have ub := blk_new w3 (Obj.cells #[.int .i64 3, .string ⟨#[]⟩, .int .i64 0, .int .i64 0, .slice A2 2 c2] 24)
 have hb := below_alloc (Below.refl w3.heap.size w3) (Obj.cells #[.int .i64 3, .string ⟨#[]⟩, .int .i64 0, .int .i64 0, .slice A2 2 c2] 24)
 generalize hw2 : w3.alloc (Obj.cells #[.int .i64 3, .string ⟨#[]⟩, .int .i64 0, .int .i64 0, .slice A2 2 c2] 24) = wz at ub hb ⊢
 clear hw2
 have n0_ := Lib.hid (below_step HB.out hb); have n1_ := Lib.hid (Kd.C_below CT.out hb); have n2_ := Lib.hid (blk_below TB.out hb)
 have CU := Lib.hid (Kd.C_below cc2 hb); have UB := Lib.hid ub
 clear HB CT TB hb ub cc2
 have HB := n0_; have CT := n1_; have TB := n2_
 clear n0_ n1_ n2_
 obtain ⟨ad1, A5, c5, rfl, i0, i1, i2, i3, i4, hl5, hc5⟩ := at_T24 CT.out (0 : Int) (by omega) (by decide)
 have had : ad1.add ((0 : Int).toNat * 5) = ad1 := by simp [Addr.add]
 rw [had] at i0 i1 i2 i3 i4
 change Kd.C k24 wz A5 1 eL.f4 at hc5
 have C5 := Lib.hid hc5
 change 1 ≤ c5 at hl5
 clear had hc5
 change wz.cell? ad1 = some (.int .i64 2) at i0
 change _ = some (Value.string ⟨#[120]⟩) at i1
 change _ = some (Value.int .i64 0) at i2
 change _ = some (Value.int .i64 1) at i3
 change _ = some (Value.slice A5 1 c5) at i4
 obtain ⟨ad2, A6, c6, rfl, j0, j1, j2, j3, j4, hl6, hc6⟩ := at_T24 CU.out (0 : Int) (by omega) (by decide)
 have had : ad2.add ((0 : Int).toNat * 5) = ad2 := by simp [Addr.add]
 rw [had] at j3
 change _ = some (Value.int .i64 0) at j3
 clear had hc6 hl6 j0 j1 j2 j4
 have t0 := blk_cell TB.out 0; have t1 := blk_cell TB.out 1; have t2 := blk_cell TB.out 2; have t3 := blk_cell TB.out 3; have t4 := blk_cell TB.out 4
 have u0 := blk_cell UB.out 0; have u1 := blk_cell UB.out 1; have u2 := blk_cell UB.out 2; have u3 := blk_cell UB.out 3; have u4 := blk_cell UB.out 4
 simp only [List.getElem?_toArray, List.getElem?_cons_zero, List.getElem?_cons_succ] at t0 t1 t2 t3 t4 u0 u1 u2 u3 u4
 have k3 : ¬ c1 = 1 := by omega
 have k1 : (1 : Int) ≤ (c1 : Int) := by omega
 have k2 : (2 : Int) ≤ (c1 : Int) := by omega
 have hdr := Kd.C_drop CT.out (m := 1) (c := c1) (by decide) hc1
 have had4 : (some ad1).map (fun a => a.add (1 * k24.sz)) = some (⟨ad1.block, ad1.off + 5, none⟩ : Addr) := by rw [show k24.sz = 5 from rfl]; simp [Addr.add]
 rw [if_neg (by omega : ¬ c1 = 1), had4] at hdr
 change Kd.C k24 _ _ 1 [eN] at hdr
 have CN := Lib.hid hdr
 clear hdr had4
 refine wp_region_held_drew (S := (fun w' => w'.cell? ⟨w1.heap.size, 0, none⟩ = some (.int .i64 3) ∧ w'.cell? ⟨w1.heap.size, 1, none⟩ = some (.string ⟨#[]⟩) ∧ w'.cell? ⟨w1.heap.size, 2, none⟩ = some (.int .i64 0) ∧ w'.cell? ⟨w1.heap.size, 3, none⟩ = some (.int .i64 0) ∧ w'.cell? ⟨w1.heap.size, 4, none⟩ = some (.slice (some ad1) 2 c1) ∧ w'.cell? ⟨w3.heap.size, 0, none⟩ = some (.int .i64 3) ∧ w'.cell? ⟨w3.heap.size, 1, none⟩ = some (.string ⟨#[]⟩) ∧ w'.cell? ⟨w3.heap.size, 2, none⟩ = some (.int .i64 0) ∧ w'.cell? ⟨w3.heap.size, 3, none⟩ = some (.int .i64 0) ∧ w'.cell? ⟨w3.heap.size, 4, none⟩ = some (.slice (some ad2) 2 c2) ∧ w'.cell? ad1 = some (.int .i64 2) ∧ w'.cell? ⟨ad1.block, ad1.off + 1, none⟩ = some (.string ⟨#[120]⟩) ∧ w'.cell? ⟨ad1.block, ad1.off + 2, none⟩ = some (.int .i64 0) ∧ w'.cell? ⟨ad1.block, ad1.off + 3, none⟩ = some (.int .i64 1) ∧ w'.cell? ⟨ad1.block, ad1.off + 4, none⟩ = some (.slice A5 1 c5) ∧ w'.cell? ⟨ad2.block, ad2.off + 3, none⟩ = some (.int .i64 0) ∧ Below wz.heap.size wz w')) (by kernel_rfl) (by (try dsimp only); exact keep16 ⟨t0, t1, t2, t3, t4, u0, u1, u2, u3, u4, i0, i1, i2, i3, i4, j3, Below.refl _ _⟩ (below_drew1 (Below.refl _ _))) (fun hHeld => ?_)
 change wpAnyH _ _ _ _ _ 73 #[false, false, false, false, false, false, false, false, false, false, false, false, false, false, false, false, false, false, false, false, false, false, false, false, false, false, false, false, false, false, false, false, false, false, false, false, false, false, false, false, false, false, false, false, false, false, false, false, false, false, false, false, false, false, false, false, false, false, false, false, false, false, false, false, false, false, false, false, false, false, false, false, false] _ _
 refine wpAnyH_take (i := 0) (v := ?_) rfl (by kernel_rfl) (by kernel_rfl) (by kernel_rfl) (fun _ _ _ h => h) (Or.inl ⟨by kernel_rfl, ?_⟩) (by assumption) ?_
 rotate_left 1
 ·(intro w hSw; (try dsimp only at hSw); (try simp only [List.getElem_toArray, List.getElem_cons_succ, List.getElem_cons_zero]); go_simp; (try with_reducible rfl))
 (try simp only [Act.put, List.getElem_toArray, List.getElem_cons_succ, List.getElem_cons_zero, List.setIfInBounds_toArray, List.set_cons_zero, List.set_cons_succ])
 refine wpAnyH_ready (rs := [1]) (by kernel_rfl) (by simp) ?_
 refine AllReadyH.cons rfl (fun K hK => ?_) AllReadyH.nil
 (try simp only [List.getElem_toArray, List.getElem_cons_succ, List.getElem_cons_zero])
 go_simp
 refine (TreeMay.whole_any eS (by decide) _ _ _ (Kd.C_below CT.out hHeld.2.2.2.2.2.2.2.2.2.2.2.2.2.2.2.2) hc1 (HT.out.on (below_step HB.out hHeld.2.2.2.2.2.2.2.2.2.2.2.2.2.2.2.2)).here).mono ?_
 rintro e w9 ⟨rfl, hb⟩
 rw [wS]
 simp only []
 refine hK.out _ _ ?_ (fun hHeld => ?_)
 ·(try dsimp only); exact keep16 hHeld hb
 clear hK K
 (try simp only [Act.put, List.getElem_toArray, List.getElem_cons_succ, List.getElem_cons_zero, List.setIfInBounds_toArray, List.set_cons_zero, List.set_cons_succ])
 refine wpAnyH_take (i := 2) (v := ?_) rfl (by kernel_rfl) (by kernel_rfl) (by kernel_rfl) (fun _ _ _ h => h) (Or.inl ⟨by kernel_rfl, ?_⟩) (by assumption) ?_
 rotate_left 1
 ·(intro w hSw; (try dsimp only at hSw); (try simp only [List.getElem_toArray, List.getElem_cons_succ, List.getElem_cons_zero]); go_simp; (try with_reducible rfl))
 (try simp only [Act.put, List.getElem_toArray, List.getElem_cons_succ, List.getElem_cons_zero, List.setIfInBounds_toArray, List.set_cons_zero, List.set_cons_succ])
 refine wpAnyH_take (i := 3) (v := ?_) rfl (by kernel_rfl) (by kernel_rfl) (by kernel_rfl) (fun _ _ _ h => h) (Or.inl ⟨by kernel_rfl, ?_⟩) (by assumption) ?_
 rotate_left 1
 ·(intro w hSw; (try dsimp only at hSw); (try simp only [List.getElem_toArray, List.getElem_cons_succ, List.getElem_cons_zero]); go_simp; (try with_reducible rfl))
 (try simp only [Act.put, List.getElem_toArray, List.getElem_cons_succ, List.getElem_cons_zero, List.setIfInBounds_toArray, List.set_cons_zero, List.set_cons_succ])
 refine wpAnyH_ready (rs := [4]) (by kernel_rfl) (by simp) ?_
 refine AllReadyH.cons rfl (fun K hK => ?_) AllReadyH.nil
 (try simp only [List.getElem_toArray, List.getElem_cons_succ, List.getElem_cons_zero])
 go_simp
 refine (tree_Depth.calls 20 3 ⟨#[]⟩ 0 0 _ _ eS.f4 3 _ (Kd.C_below CT.out hHeld.2.2.2.2.2.2.2.2.2.2.2.2.2.2.2.2) hc1 (by kernel_rfl)).mono ?_
 rintro e w9 ⟨rfl, hb⟩
 simp only []
 refine hK.out _ _ ?_ (fun hHeld => ?_)
 ·(try dsimp only); exact keep16 hHeld hb
 clear hK K
 (try simp only [Act.put, List.getElem_toArray, List.getElem_cons_succ, List.getElem_cons_zero, List.setIfInBounds_toArray, List.set_cons_zero, List.set_cons_succ])
 refine wpAnyH_take (i := 5) (v := ?_) rfl (by kernel_rfl) (by kernel_rfl) (by kernel_rfl) (fun _ _ _ h => h) (Or.inl ⟨by kernel_rfl, ?_⟩) (by assumption) ?_
 rotate_left 1
 ·(intro w hSw; (try dsimp only at hSw); (try simp only [List.getElem_toArray, List.getElem_cons_succ, List.getElem_cons_zero]); go_simp; (try with_reducible rfl))
 (try simp only [Act.put, List.getElem_toArray, List.getElem_cons_succ, List.getElem_cons_zero, List.setIfInBounds_toArray, List.set_cons_zero, List.set_cons_succ])
 refine wpAnyH_take (i := 6) (v := ?_) rfl (by kernel_rfl) (by kernel_rfl) (by kernel_rfl) (fun _ _ _ h => h) (Or.inl ⟨by kernel_rfl, ?_⟩) (by assumption) ?_
 rotate_left 1
 ·(intro w hSw; (try dsimp only at hSw); (try simp only [List.getElem_toArray, List.getElem_cons_succ, List.getElem_cons_zero]); go_simp; (try with_reducible rfl))
 (try simp only [Act.put, List.getElem_toArray, List.getElem_cons_succ, List.getElem_cons_zero, List.setIfInBounds_toArray, List.set_cons_zero, List.set_cons_succ])
 refine wpAnyH_take (i := 7) (v := ?_) rfl (by kernel_rfl) (by kernel_rfl) (by kernel_rfl) (fun _ _ _ h => h) (Or.inl ⟨by kernel_rfl, ?_⟩) (by assumption) ?_
 rotate_left 1
 ·(intro w hSw; (try dsimp only at hSw); (try simp only [List.getElem_toArray, List.getElem_cons_succ, List.getElem_cons_zero]); go_simp; (try with_reducible rfl))
 (try simp only [Act.put, List.getElem_toArray, List.getElem_cons_succ, List.getElem_cons_zero, List.setIfInBounds_toArray, List.set_cons_zero, List.set_cons_succ])
 refine wpAnyH_take (i := 8) (v := ?_) rfl (by kernel_rfl) (by kernel_rfl) (by kernel_rfl) (fun _ _ _ h => h) (Or.inl ⟨by kernel_rfl, ?_⟩) (by assumption) ?_
 rotate_left 1
 ·(intro w hSw; (try dsimp only at hSw); (try simp only [List.getElem_toArray, List.getElem_cons_succ, List.getElem_cons_zero]); go_simp; (try with_reducible rfl))
 (try simp only [Act.put, List.getElem_toArray, List.getElem_cons_succ, List.getElem_cons_zero, List.setIfInBounds_toArray, List.set_cons_zero, List.set_cons_succ])
 refine wpAnyH_ready (rs := [9]) (by kernel_rfl) (by simp) ?_
 refine AllReadyH.cons rfl (fun K hK => ?_) AllReadyH.nil
 (try simp only [List.getElem_toArray, List.getElem_cons_succ, List.getElem_cons_zero])
 go_simp
 refine (tree_Size.calls 20 3 ⟨#[]⟩ 0 0 _ _ eS.f4 4 _ (Kd.C_below CT.out hHeld.2.2.2.2.2.2.2.2.2.2.2.2.2.2.2.2) hc1 (by kernel_rfl)).mono ?_
 rintro e w9 ⟨rfl, hb⟩
 simp only []
 refine hK.out _ _ ?_ (fun hHeld => ?_)
 ·(try dsimp only); exact keep16 hHeld hb
 clear hK K
 (try simp only [Act.put, List.getElem_toArray, List.getElem_cons_succ, List.getElem_cons_zero, List.setIfInBounds_toArray, List.set_cons_zero, List.set_cons_succ])
 refine wpAnyH_take (i := 10) (v := ?_) rfl (by kernel_rfl) (by kernel_rfl) (by kernel_rfl) (fun _ _ _ h => h) (Or.inl ⟨by kernel_rfl, ?_⟩) (by assumption) ?_
 rotate_left 1
 ·(intro w hSw; (try dsimp only at hSw); (try simp only [List.getElem_toArray, List.getElem_cons_succ, List.getElem_cons_zero]); go_simp; (try with_reducible rfl))
 (try simp only [Act.put, List.getElem_toArray, List.getElem_cons_succ, List.getElem_cons_zero, List.setIfInBounds_toArray, List.set_cons_zero, List.set_cons_succ])
 refine wpAnyH_take (i := 11) (v := ?_) rfl (by kernel_rfl) (by kernel_rfl) (by kernel_rfl) (fun _ _ _ h => h) (Or.inl ⟨by kernel_rfl, ?_⟩) (by assumption) ?_
 rotate_left 1
 ·(intro w hSw; (try dsimp only at hSw); (try simp only [List.getElem_toArray, List.getElem_cons_succ, List.getElem_cons_zero]); go_simp; (try with_reducible rfl))
 (try simp only [Act.put, List.getElem_toArray, List.getElem_cons_succ, List.getElem_cons_zero, List.setIfInBounds_toArray, List.set_cons_zero, List.set_cons_succ])
 refine wpAnyH_take (i := 12) (v := ?_) rfl (by kernel_rfl) (by kernel_rfl) (by kernel_rfl) (fun _ _ _ h => h) (Or.inl ⟨by kernel_rfl, ?_⟩) (by assumption) ?_
 rotate_left 1
 ·(intro w hSw; (try dsimp only at hSw); (try simp only [List.getElem_toArray, List.getElem_cons_succ, List.getElem_cons_zero]); go_simp; (try with_reducible rfl))
 (try simp only [Act.put, List.getElem_toArray, List.getElem_cons_succ, List.getElem_cons_zero, List.setIfInBounds_toArray, List.set_cons_zero, List.set_cons_succ])
 refine wpAnyH_take (i := 13) (v := ?_) rfl (by kernel_rfl) (by kernel_rfl) (by kernel_rfl) (fun _ _ _ h => h) (Or.inl ⟨by kernel_rfl, ?_⟩) (by assumption) ?_
 rotate_left 1
 ·(intro w hSw; (try dsimp only at hSw); (try simp only [List.getElem_toArray, List.getElem_cons_succ, List.getElem_cons_zero]); go_simp; (try with_reducible rfl))
 (try simp only [Act.put, List.getElem_toArray, List.getElem_cons_succ, List.getElem_cons_zero, List.setIfInBounds_toArray, List.set_cons_zero, List.set_cons_succ])
 refine wpAnyH_take (i := 14) (v := ?_) rfl (by kernel_rfl) (by kernel_rfl) (by kernel_rfl) (fun _ _ _ h => h) (Or.inl ⟨by kernel_rfl, ?_⟩) (by assumption) ?_
 rotate_left 1
 ·(intro w hSw; (try dsimp only at hSw); (try simp only [List.getElem_toArray, List.getElem_cons_succ, List.getElem_cons_zero]); go_simp; (try with_reducible rfl))
 (try simp only [Act.put, List.getElem_toArray, List.getElem_cons_succ, List.getElem_cons_zero, List.setIfInBounds_toArray, List.set_cons_zero, List.set_cons_succ])
 refine wpAnyH_ready (rs := [15]) (by kernel_rfl) (by simp) ?_
 refine AllReadyH.cons rfl (fun K hK => ?_) AllReadyH.nil
 (try simp only [List.getElem_toArray, List.getElem_cons_succ, List.getElem_cons_zero])
 go_simp
 refine (TreeSm.same_any 9 eS (by decide) (by decide) eB _ _ _ _ _ (Kd.C_below CT.out hHeld.2.2.2.2.2.2.2.2.2.2.2.2.2.2.2.2) hc1 (Kd.C_below CU.out hHeld.2.2.2.2.2.2.2.2.2.2.2.2.2.2.2.2) hc2).mono ?_
 rintro e w9 ⟨rfl, hb⟩
 rw [sSB]
 simp only []
 refine hK.out _ _ ?_ (fun hHeld => ?_)
 ·(try dsimp only); exact keep16 hHeld hb
 clear hK K
 (try simp only [Act.put, List.getElem_toArray, List.getElem_cons_succ, List.getElem_cons_zero, List.setIfInBounds_toArray, List.set_cons_zero, List.set_cons_succ])
 refine wpAnyH_take (i := 16) (v := ?_) rfl (by kernel_rfl) (by kernel_rfl) (by kernel_rfl) (fun _ _ _ h => h) (Or.inl ⟨by kernel_rfl, ?_⟩) (by assumption) ?_
 rotate_left 1
 ·(intro w hSw; (try dsimp only at hSw); (try simp only [List.getElem_toArray, List.getElem_cons_succ, List.getElem_cons_zero]); go_simp; (try with_reducible rfl))
 (try simp only [Act.put, List.getElem_toArray, List.getElem_cons_succ, List.getElem_cons_zero, List.setIfInBounds_toArray, List.set_cons_zero, List.set_cons_succ])
 refine wpAnyH_take (i := 17) (v := ?_) rfl (by kernel_rfl) (by kernel_rfl) (by kernel_rfl) (fun _ _ _ h => h) (Or.inl ⟨by kernel_rfl, ?_⟩) (by assumption) ?_
 rotate_left 1
 ·(intro w hSw; (try dsimp only at hSw); (try simp only [List.getElem_toArray, List.getElem_cons_succ, List.getElem_cons_zero]); go_simp; (try with_reducible rfl))
 (try simp only [Act.put, List.getElem_toArray, List.getElem_cons_succ, List.getElem_cons_zero, List.setIfInBounds_toArray, List.set_cons_zero, List.set_cons_succ])
 refine wpAnyH_take (i := 18) (v := ?_) rfl (by kernel_rfl) (by kernel_rfl) (by kernel_rfl) (fun _ _ _ h => h) (Or.inl ⟨by kernel_rfl, ?_⟩) (by assumption) ?_
 rotate_left 1
 ·(intro w hSw; (try dsimp only at hSw); (try simp only [List.getElem_toArray, List.getElem_cons_succ, List.getElem_cons_zero]); go_simp; (try with_reducible rfl))
 (try simp only [Act.put, List.getElem_toArray, List.getElem_cons_succ, List.getElem_cons_zero, List.setIfInBounds_toArray, List.set_cons_zero, List.set_cons_succ])
 refine wpAnyH_take (i := 19) (v := ?_) rfl (by kernel_rfl) (by kernel_rfl) (by kernel_rfl) (fun _ _ _ h => h) (Or.inl ⟨by kernel_rfl, ?_⟩) (by assumption) ?_
 rotate_left 1
 ·(intro w hSw; (try dsimp only at hSw); (try simp only [List.getElem_toArray, List.getElem_cons_succ, List.getElem_cons_zero]); go_simp; (try with_reducible rfl))
 (try simp only [Act.put, List.getElem_toArray, List.getElem_cons_succ, List.getElem_cons_zero, List.setIfInBounds_toArray, List.set_cons_zero, List.set_cons_succ])
 refine wpAnyH_take (i := 20) (v := ?_) rfl (by kernel_rfl) (by kernel_rfl) (by kernel_rfl) (fun _ _ _ h => h) (Or.inl ⟨by kernel_rfl, ?_⟩) (by assumption) ?_
 rotate_left 1
 ·(intro w hSw; (try dsimp only at hSw); (try simp only [List.getElem_toArray, List.getElem_cons_succ, List.getElem_cons_zero]); go_simp; (try with_reducible rfl))
 (try simp only [Act.put, List.getElem_toArray, List.getElem_cons_succ, List.getElem_cons_zero, List.setIfInBounds_toArray, List.set_cons_zero, List.set_cons_succ])
 refine wpAnyH_take (i := 21) (v := ?_) rfl (by kernel_rfl) (by kernel_rfl) (by kernel_rfl) (fun _ _ _ h => h) (Or.inl ⟨by kernel_rfl, ?_⟩) (by assumption) ?_
 rotate_left 1
 ·(intro w hSw; (try dsimp only at hSw); (try simp only [List.getElem_toArray, List.getElem_cons_succ, List.getElem_cons_zero]); go_simp; (try with_reducible rfl))
 (try simp only [Act.put, List.getElem_toArray, List.getElem_cons_succ, List.getElem_cons_zero, List.setIfInBounds_toArray, List.set_cons_zero, List.set_cons_succ])
 refine wpAnyH_take (i := 22) (v := ?_) rfl (by kernel_rfl) (by kernel_rfl) (by kernel_rfl) (fun _ _ _ h => h) (Or.inl ⟨by kernel_rfl, ?_⟩) (by assumption) ?_
 rotate_left 1
 ·(intro w hSw; (try dsimp only at hSw); (try simp only [List.getElem_toArray, List.getElem_cons_succ, List.getElem_cons_zero]); go_simp; (try with_reducible rfl))
 (try simp only [Act.put, List.getElem_toArray, List.getElem_cons_succ, List.getElem_cons_zero, List.setIfInBounds_toArray, List.set_cons_zero, List.set_cons_succ])
 refine wpAnyH_take (i := 23) (v := ?_) rfl (by kernel_rfl) (by kernel_rfl) (by kernel_rfl) (fun _ _ _ h => h) (Or.inl ⟨by kernel_rfl, ?_⟩) (by assumption) ?_
 rotate_left 1
 ·(intro w hSw; (try dsimp only at hSw); (try simp only [List.getElem_toArray, List.getElem_cons_succ, List.getElem_cons_zero]); go_simp; (try with_reducible rfl))
 (try simp only [Act.put, List.getElem_toArray, List.getElem_cons_succ, List.getElem_cons_zero, List.setIfInBounds_toArray, List.set_cons_zero, List.set_cons_succ])
 refine wpAnyH_take (i := 24) (v := ?_) rfl (by kernel_rfl) (by kernel_rfl) (by kernel_rfl) (fun _ _ _ h => h) (Or.inl ⟨by kernel_rfl, ?_⟩) (by assumption) ?_
 rotate_left 1
 ·(intro w hSw; (try dsimp only at hSw); (try simp only [List.getElem_toArray, List.getElem_cons_succ, List.getElem_cons_zero]); go_simp; (try with_reducible rfl))
 (try simp only [Act.put, List.getElem_toArray, List.getElem_cons_succ, List.getElem_cons_zero, List.setIfInBounds_toArray, List.set_cons_zero, List.set_cons_succ])
 refine wpAnyH_take (i := 25) (v := ?_) rfl (by kernel_rfl) (by kernel_rfl) (by kernel_rfl) (fun _ _ _ h => h) (Or.inl ⟨by kernel_rfl, ?_⟩) (by assumption) ?_
 rotate_left 1
 ·(intro w hSw; (try dsimp only at hSw); (try simp only [List.getElem_toArray, List.getElem_cons_succ, List.getElem_cons_zero]); go_simp; (try with_reducible rfl))
 (try simp only [Act.put, List.getElem_toArray, List.getElem_cons_succ, List.getElem_cons_zero, List.setIfInBounds_toArray, List.set_cons_zero, List.set_cons_succ])
 refine wpAnyH_take (i := 26) (v := ?_) rfl (by kernel_rfl) (by kernel_rfl) (by kernel_rfl) (fun _ _ _ h => h) (Or.inl ⟨by kernel_rfl, ?_⟩) (by assumption) ?_
 rotate_left 1
 ·(intro w hSw; (try dsimp only at hSw); (try simp only [List.getElem_toArray, List.getElem_cons_succ, List.getElem_cons_zero]); go_simp; (try with_reducible rfl))
 (try simp only [Act.put, List.getElem_toArray, List.getElem_cons_succ, List.getElem_cons_zero, List.setIfInBounds_toArray, List.set_cons_zero, List.set_cons_succ])
 refine wpAnyH_take (i := 27) (v := ?_) rfl (by kernel_rfl) (by kernel_rfl) (by kernel_rfl) (fun _ _ _ h => h) (Or.inl ⟨by kernel_rfl, ?_⟩) (by assumption) ?_
 rotate_left 1
 ·(intro w hSw; (try dsimp only at hSw); (try simp only [List.getElem_toArray, List.getElem_cons_succ, List.getElem_cons_zero]); go_simp; (try with_reducible rfl))
 (try simp only [Act.put, List.getElem_toArray, List.getElem_cons_succ, List.getElem_cons_zero, List.setIfInBounds_toArray, List.set_cons_zero, List.set_cons_succ])
 refine wpAnyH_take (i := 28) (v := ?_) rfl (by kernel_rfl) (by kernel_rfl) (by kernel_rfl) (fun _ _ _ h => h) (Or.inl ⟨by kernel_rfl, ?_⟩) (by assumption) ?_
 rotate_left 1
 ·(intro w hSw; (try dsimp only at hSw); (try simp only [List.getElem_toArray, List.getElem_cons_succ, List.getElem_cons_zero]); go_simp; (try with_reducible rfl))
 (try simp only [Act.put, List.getElem_toArray, List.getElem_cons_succ, List.getElem_cons_zero, List.setIfInBounds_toArray, List.set_cons_zero, List.set_cons_succ])
 refine wpAnyH_take (i := 29) (v := ?_) rfl (by kernel_rfl) (by kernel_rfl) (by kernel_rfl) (fun _ _ _ h => h) (Or.inl ⟨by kernel_rfl, ?_⟩) (by assumption) ?_
 rotate_left 1
 ·(intro w hSw; (try dsimp only at hSw); (try simp only [List.getElem_toArray, List.getElem_cons_succ, List.getElem_cons_zero]); go_simp; (try with_reducible rfl))
 (try simp only [Act.put, List.getElem_toArray, List.getElem_cons_succ, List.getElem_cons_zero, List.setIfInBounds_toArray, List.set_cons_zero, List.set_cons_succ])
 refine wpAnyH_take (i := 30) (v := ?_) rfl (by kernel_rfl) (by kernel_rfl) (by kernel_rfl) (fun _ _ _ h => h) (Or.inl ⟨by kernel_rfl, ?_⟩) (by assumption) ?_
 rotate_left 1
 ·(intro w hSw; (try dsimp only at hSw); (try simp only [List.getElem_toArray, List.getElem_cons_succ, List.getElem_cons_zero]); go_simp; (try with_reducible rfl))
 (try simp only [Act.put, List.getElem_toArray, List.getElem_cons_succ, List.getElem_cons_zero, List.setIfInBounds_toArray, List.set_cons_zero, List.set_cons_succ])
 refine wpAnyH_take (i := 31) (v := ?_) rfl (by kernel_rfl) (by kernel_rfl) (by kernel_rfl) (fun _ _ _ h => h) (Or.inl ⟨by kernel_rfl, ?_⟩) (by assumption) ?_
 rotate_left 1
 ·(intro w hSw; (try dsimp only at hSw); (try simp only [List.getElem_toArray, List.getElem_cons_succ, List.getElem_cons_zero]); go_simp; (try with_reducible rfl))
 (try simp only [Act.put, List.getElem_toArray, List.getElem_cons_succ, List.getElem_cons_zero, List.setIfInBounds_toArray, List.set_cons_zero, List.set_cons_succ])
 refine wpAnyH_take (i := 32) (v := ?_) rfl (by kernel_rfl) (by kernel_rfl) (by kernel_rfl) (fun _ _ _ h => h) (Or.inl ⟨by kernel_rfl, ?_⟩) (by assumption) ?_
 rotate_left 1
 ·(intro w hSw; (try dsimp only at hSw); (try simp only [List.getElem_toArray, List.getElem_cons_succ, List.getElem_cons_zero]); go_simp; (try with_reducible rfl))
 (try simp only [Act.put, List.getElem_toArray, List.getElem_cons_succ, List.getElem_cons_zero, List.setIfInBounds_toArray, List.set_cons_zero, List.set_cons_succ])
 refine wpAnyH_take (i := 33) (v := ?_) rfl (by kernel_rfl) (by kernel_rfl) (by kernel_rfl) (fun _ _ _ h => h) (Or.inl ⟨by kernel_rfl, ?_⟩) (by assumption) ?_
 rotate_left 1
 ·(intro w hSw; (try dsimp only at hSw); (try simp only [List.getElem_toArray, List.getElem_cons_succ, List.getElem_cons_zero]); go_simp; (try with_reducible rfl))
 (try simp only [Act.put, List.getElem_toArray, List.getElem_cons_succ, List.getElem_cons_zero, List.setIfInBounds_toArray, List.set_cons_zero, List.set_cons_succ])
 refine wpAnyH_take (i := 34) (v := ?_) rfl (by kernel_rfl) (by kernel_rfl) (by kernel_rfl) (fun _ _ _ h => h) (Or.inl ⟨by kernel_rfl, ?_⟩) (by assumption) ?_
 rotate_left 1
 ·(intro w hSw; (try dsimp only at hSw); (try simp only [List.getElem_toArray, List.getElem_cons_succ, List.getElem_cons_zero]); go_simp; (try with_reducible rfl))
 (try simp only [Act.put, List.getElem_toArray, List.getElem_cons_succ, List.getElem_cons_zero, List.setIfInBounds_toArray, List.set_cons_zero, List.set_cons_succ])
 refine wpAnyH_take (i := 35) (v := ?_) rfl (by kernel_rfl) (by kernel_rfl) (by kernel_rfl) (fun _ _ _ h => h) (Or.inl ⟨by kernel_rfl, ?_⟩) (by assumption) ?_
 rotate_left 1
 ·(intro w hSw; (try dsimp only at hSw); (try simp only [List.getElem_toArray, List.getElem_cons_succ, List.getElem_cons_zero]); go_simp; (try with_reducible rfl))
 (try simp only [Act.put, List.getElem_toArray, List.getElem_cons_succ, List.getElem_cons_zero, List.setIfInBounds_toArray, List.set_cons_zero, List.set_cons_succ])
 refine wpAnyH_take (i := 36) (v := ?_) rfl (by kernel_rfl) (by kernel_rfl) (by kernel_rfl) (fun _ _ _ h => h) (Or.inl ⟨by kernel_rfl, ?_⟩) (by assumption) ?_
 rotate_left 1
 ·(intro w hSw; (try dsimp only at hSw); (try simp only [List.getElem_toArray, List.getElem_cons_succ, List.getElem_cons_zero]); go_simp; (try with_reducible rfl))
 (try simp only [Act.put, List.getElem_toArray, List.getElem_cons_succ, List.getElem_cons_zero, List.setIfInBounds_toArray, List.set_cons_zero, List.set_cons_succ])
 refine wpAnyH_ready (rs := [37]) (by kernel_rfl) (by simp) ?_
 refine AllReadyH.cons rfl (fun K hK => ?_) AllReadyH.nil
 (try simp only [List.getElem_toArray, List.getElem_cons_succ, List.getElem_cons_zero])
 go_simp
 refine (TreeSm.same_any 9 eS (by decide) (by decide) eL _ _ _ _ _ (Kd.C_below CT.out hHeld.2.2.2.2.2.2.2.2.2.2.2.2.2.2.2.2) hc1 (Kd.C_below C5.out hHeld.2.2.2.2.2.2.2.2.2.2.2.2.2.2.2.2) hl5).mono ?_
 rintro e w9 ⟨rfl, hb⟩
 rw [sSL]
 simp only []
 refine hK.out _ _ ?_ (fun hHeld => ?_)
 ·(try dsimp only); exact keep16 hHeld hb
 clear hK K
 (try simp only [Act.put, List.getElem_toArray, List.getElem_cons_succ, List.getElem_cons_zero, List.setIfInBounds_toArray, List.set_cons_zero, List.set_cons_succ])
 refine wpAnyH_take (i := 38) (v := ?_) rfl (by kernel_rfl) (by kernel_rfl) (by kernel_rfl) (fun _ _ _ h => h) (Or.inl ⟨by kernel_rfl, ?_⟩) (by assumption) ?_
 rotate_left 1
 ·(intro w hSw; (try dsimp only at hSw); (try simp only [List.getElem_toArray, List.getElem_cons_succ, List.getElem_cons_zero]); go_simp; (try with_reducible rfl))
 (try simp only [Act.put, List.getElem_toArray, List.getElem_cons_succ, List.getElem_cons_zero, List.setIfInBounds_toArray, List.set_cons_zero, List.set_cons_succ])
 refine wpAnyH_take (i := 39) (v := ?_) rfl (by kernel_rfl) (by kernel_rfl) (by kernel_rfl) (fun _ _ _ h => h) (Or.inl ⟨by kernel_rfl, ?_⟩) (by assumption) ?_
 rotate_left 1
 ·(intro w hSw; (try dsimp only at hSw); (try simp only [List.getElem_toArray, List.getElem_cons_succ, List.getElem_cons_zero]); go_simp; (try with_reducible rfl))
 (try simp only [Act.put, List.getElem_toArray, List.getElem_cons_succ, List.getElem_cons_zero, List.setIfInBounds_toArray, List.set_cons_zero, List.set_cons_succ])
 refine wpAnyH_take (i := 40) (v := ?_) rfl (by kernel_rfl) (by kernel_rfl) (by kernel_rfl) (fun _ _ _ h => h) (Or.inl ⟨by kernel_rfl, ?_⟩) (by assumption) ?_
 rotate_left 1
 ·(intro w hSw; (try dsimp only at hSw); (try simp only [List.getElem_toArray, List.getElem_cons_succ, List.getElem_cons_zero]); go_simp; (try with_reducible rfl))
 (try simp only [Act.put, List.getElem_toArray, List.getElem_cons_succ, List.getElem_cons_zero, List.setIfInBounds_toArray, List.set_cons_zero, List.set_cons_succ])
 refine wpAnyH_take (i := 41) (v := ?_) rfl (by kernel_rfl) (by kernel_rfl) (by kernel_rfl) (fun _ _ _ h => h) (Or.inl ⟨by kernel_rfl, ?_⟩) (by assumption) ?_
 rotate_left 1
 ·(intro w hSw; (try dsimp only at hSw); (try simp only [List.getElem_toArray, List.getElem_cons_succ, List.getElem_cons_zero]); go_simp; (try with_reducible rfl))
 (try simp only [Act.put, List.getElem_toArray, List.getElem_cons_succ, List.getElem_cons_zero, List.setIfInBounds_toArray, List.set_cons_zero, List.set_cons_succ])
 refine wpAnyH_ready (rs := [42]) (by kernel_rfl) (by simp) ?_
 refine AllReadyH.cons rfl (fun K hK => ?_) AllReadyH.nil
 (try simp only [List.getElem_toArray, List.getElem_cons_succ, List.getElem_cons_zero])
 go_simp
 refine (TreeMay.whole_any e0 (by decide) _ _ _ (C0 _) (Nat.le_refl 0) (HT.out.on (below_step HB.out hHeld.2.2.2.2.2.2.2.2.2.2.2.2.2.2.2.2)).here).mono ?_
 rintro e w9 ⟨rfl, hb⟩
 rw [w0]
 simp only []
 refine hK.out _ _ ?_ (fun hHeld => ?_)
 ·(try dsimp only); exact keep16 hHeld hb
 clear hK K
 (try simp only [Act.put, List.getElem_toArray, List.getElem_cons_succ, List.getElem_cons_zero, List.setIfInBounds_toArray, List.set_cons_zero, List.set_cons_succ])
 refine wpAnyH_take (i := 43) (v := ?_) rfl (by kernel_rfl) (by kernel_rfl) (by kernel_rfl) (fun _ _ _ h => h) (Or.inl ⟨by kernel_rfl, ?_⟩) (by assumption) ?_
 rotate_left 1
 ·(intro w hSw; (try dsimp only at hSw); (try simp only [List.getElem_toArray, List.getElem_cons_succ, List.getElem_cons_zero]); go_simp; (try with_reducible rfl))
 (try simp only [Act.put, List.getElem_toArray, List.getElem_cons_succ, List.getElem_cons_zero, List.setIfInBounds_toArray, List.set_cons_zero, List.set_cons_succ])
 refine wpAnyH_take (i := 44) (v := ?_) rfl (by kernel_rfl) (by kernel_rfl) (by kernel_rfl) (fun _ _ _ h => h) (Or.inl ⟨by kernel_rfl, ?_⟩) (by assumption) ?_
 rotate_left 1
 ·(intro w hSw; (try dsimp only at hSw); (try simp only [List.getElem_toArray, List.getElem_cons_succ, List.getElem_cons_zero]); go_simp; (try with_reducible rfl))
 (try simp only [Act.put, List.getElem_toArray, List.getElem_cons_succ, List.getElem_cons_zero, List.setIfInBounds_toArray, List.set_cons_zero, List.set_cons_succ])
 refine wpAnyH_take (i := 45) (v := ?_) rfl (by kernel_rfl) (by kernel_rfl) (by kernel_rfl) (fun _ _ _ h => h) (Or.inl ⟨by kernel_rfl, ?_⟩) (by assumption) ?_
 rotate_left 1
 ·(intro w hSw; (try dsimp only at hSw); (try simp only [List.getElem_toArray, List.getElem_cons_succ, List.getElem_cons_zero]); go_simp; (try with_reducible rfl))
 (try simp only [Act.put, List.getElem_toArray, List.getElem_cons_succ, List.getElem_cons_zero, List.setIfInBounds_toArray, List.set_cons_zero, List.set_cons_succ])
 refine wpAnyH_take (i := 46) (v := ?_) rfl (by kernel_rfl) (by kernel_rfl) (by kernel_rfl) (fun _ _ _ h => h) (Or.inl ⟨by kernel_rfl, ?_⟩) (by assumption) ?_
 rotate_left 1
 ·(intro w hSw; (try dsimp only at hSw); (try simp only [List.getElem_toArray, List.getElem_cons_succ, List.getElem_cons_zero]); go_simp; (try with_reducible rfl))
 (try simp only [Act.put, List.getElem_toArray, List.getElem_cons_succ, List.getElem_cons_zero, List.setIfInBounds_toArray, List.set_cons_zero, List.set_cons_succ])
 refine wpAnyH_ready (rs := [47]) (by kernel_rfl) (by simp) ?_
 refine AllReadyH.cons rfl (fun K hK => ?_) AllReadyH.nil
 (try simp only [List.getElem_toArray, List.getElem_cons_succ, List.getElem_cons_zero])
 go_simp
 refine (TreeMay.whole_any eV (by decide) _ _ _ (C0 _) (Nat.le_refl 0) (HT.out.on (below_step HB.out hHeld.2.2.2.2.2.2.2.2.2.2.2.2.2.2.2.2)).here).mono ?_
 rintro e w9 ⟨rfl, hb⟩
 rw [wV]
 simp only []
 refine hK.out _ _ ?_ (fun hHeld => ?_)
 ·(try dsimp only); exact keep16 hHeld hb
 clear hK K
 (try simp only [Act.put, List.getElem_toArray, List.getElem_cons_succ, List.getElem_cons_zero, List.setIfInBounds_toArray, List.set_cons_zero, List.set_cons_succ])
 refine wpAnyH_take (i := 48) (v := ?_) rfl (by kernel_rfl) (by kernel_rfl) (by kernel_rfl) (fun _ _ _ h => h) (Or.inl ⟨by kernel_rfl, ?_⟩) (by assumption) ?_
 rotate_left 1
 ·(intro w hSw; (try dsimp only at hSw); (try simp only [List.getElem_toArray, List.getElem_cons_succ, List.getElem_cons_zero]); go_simp; (try with_reducible rfl))
 (try simp only [Act.put, List.getElem_toArray, List.getElem_cons_succ, List.getElem_cons_zero, List.setIfInBounds_toArray, List.set_cons_zero, List.set_cons_succ])
 refine wpAnyH_take (i := 49) (v := ?_) rfl (by kernel_rfl) (by kernel_rfl) (by kernel_rfl) (fun _ _ _ h => h) (Or.inl ⟨by kernel_rfl, ?_⟩) (by assumption) ?_
 rotate_left 1
 ·(intro w hSw; (try dsimp only at hSw); (try simp only [List.getElem_toArray, List.getElem_cons_succ, List.getElem_cons_zero]); go_simp; (try with_reducible rfl))
 (try simp only [Act.put, List.getElem_toArray, List.getElem_cons_succ, List.getElem_cons_zero, List.setIfInBounds_toArray, List.set_cons_zero, List.set_cons_succ])
 refine wpAnyH_take (i := 50) (v := ?_) rfl (by kernel_rfl) (by kernel_rfl) (by kernel_rfl) (fun _ _ _ h => h) (Or.inl ⟨by kernel_rfl, ?_⟩) (by assumption) ?_
 rotate_left 1
 ·(intro w hSw; (try dsimp only at hSw); (try simp only [List.getElem_toArray, List.getElem_cons_succ, List.getElem_cons_zero]); go_simp; (try with_reducible rfl))
 (try simp only [Act.put, List.getElem_toArray, List.getElem_cons_succ, List.getElem_cons_zero, List.setIfInBounds_toArray, List.set_cons_zero, List.set_cons_succ])
 refine wpAnyH_take (i := 51) (v := ?_) rfl (by kernel_rfl) (by kernel_rfl) (by kernel_rfl) (fun _ _ _ h => h) (Or.inl ⟨by kernel_rfl, ?_⟩) (by assumption) ?_
 rotate_left 1
 ·(intro w hSw; (try dsimp only at hSw); (try simp only [List.getElem_toArray, List.getElem_cons_succ, List.getElem_cons_zero]); go_simp; (try with_reducible rfl))
 (try simp only [Act.put, List.getElem_toArray, List.getElem_cons_succ, List.getElem_cons_zero, List.setIfInBounds_toArray, List.set_cons_zero, List.set_cons_succ])
 refine wpAnyH_ready (rs := [52]) (by kernel_rfl) (by simp) ?_
 refine AllReadyH.cons rfl (fun K hK => ?_) AllReadyH.nil
 (try simp only [List.getElem_toArray, List.getElem_cons_succ, List.getElem_cons_zero])
 go_simp
 refine (TreeMay.whole_any eC (by decide) _ _ _ (C0 _) (Nat.le_refl 0) (HT.out.on (below_step HB.out hHeld.2.2.2.2.2.2.2.2.2.2.2.2.2.2.2.2)).here).mono ?_
 rintro e w9 ⟨rfl, hb⟩
 rw [wC]
 simp only []
 refine hK.out _ _ ?_ (fun hHeld => ?_)
 ·(try dsimp only); exact keep16 hHeld hb
 clear hK K
 (try simp only [Act.put, List.getElem_toArray, List.getElem_cons_succ, List.getElem_cons_zero, List.setIfInBounds_toArray, List.set_cons_zero, List.set_cons_succ])
 refine wpAnyH_take (i := 53) (v := ?_) rfl (by kernel_rfl) (by kernel_rfl) (by kernel_rfl) (fun _ _ _ h => h) (Or.inl ⟨by kernel_rfl, ?_⟩) (by assumption) ?_
 rotate_left 1
 ·(intro w hSw; (try dsimp only at hSw); (try simp only [List.getElem_toArray, List.getElem_cons_succ, List.getElem_cons_zero]); go_simp; (try with_reducible rfl))
 (try simp only [Act.put, List.getElem_toArray, List.getElem_cons_succ, List.getElem_cons_zero, List.setIfInBounds_toArray, List.set_cons_zero, List.set_cons_succ])
 refine wpAnyH_take (i := 54) (v := ?_) rfl (by kernel_rfl) (by kernel_rfl) (by kernel_rfl) (fun _ _ _ h => h) (Or.inl ⟨by kernel_rfl, ?_⟩) (by assumption) ?_
 rotate_left 1
 ·(intro w hSw; (try dsimp only at hSw); (try simp only [List.getElem_toArray, List.getElem_cons_succ, List.getElem_cons_zero]); go_simp; (try with_reducible rfl))
 (try simp only [Act.put, List.getElem_toArray, List.getElem_cons_succ, List.getElem_cons_zero, List.setIfInBounds_toArray, List.set_cons_zero, List.set_cons_succ])
 refine wpAnyH_take (i := 55) (v := ?_) rfl (by kernel_rfl) (by kernel_rfl) (by kernel_rfl) (fun _ _ _ h => h) (Or.inl ⟨by kernel_rfl, ?_⟩) (by assumption) ?_
 rotate_left 1
 ·(intro w hSw; (try dsimp only at hSw); (try simp only [List.getElem_toArray, List.getElem_cons_succ, List.getElem_cons_zero]); go_simp; (try with_reducible rfl))
 (try simp only [Act.put, List.getElem_toArray, List.getElem_cons_succ, List.getElem_cons_zero, List.setIfInBounds_toArray, List.set_cons_zero, List.set_cons_succ])
 refine wpAnyH_take (i := 56) (v := ?_) rfl (by kernel_rfl) (by kernel_rfl) (by kernel_rfl) (fun _ _ _ h => h) (Or.inl ⟨by kernel_rfl, ?_⟩) (by assumption) ?_
 rotate_left 1
 ·(intro w hSw; (try dsimp only at hSw); (try simp only [List.getElem_toArray, List.getElem_cons_succ, List.getElem_cons_zero]); go_simp; (try with_reducible rfl))
 (try simp only [Act.put, List.getElem_toArray, List.getElem_cons_succ, List.getElem_cons_zero, List.setIfInBounds_toArray, List.set_cons_zero, List.set_cons_succ])
 refine wpAnyH_take (i := 57) (v := ?_) rfl (by kernel_rfl) (by kernel_rfl) (by kernel_rfl) (fun _ _ _ h => h) (Or.inl ⟨by kernel_rfl, ?_⟩) (by assumption) ?_
 rotate_left 1
 ·(intro w hSw; (try dsimp only at hSw); (try simp only [List.getElem_toArray, List.getElem_cons_succ, List.getElem_cons_zero]); go_simp; (try with_reducible rfl))
 (try simp only [Act.put, List.getElem_toArray, List.getElem_cons_succ, List.getElem_cons_zero, List.setIfInBounds_toArray, List.set_cons_zero, List.set_cons_succ])
 refine wpAnyH_take (i := 58) (v := ?_) rfl (by kernel_rfl) (by kernel_rfl) (by kernel_rfl) (fun _ _ _ h => h) (Or.inl ⟨by kernel_rfl, ?_⟩) (by assumption) ?_
 rotate_left 1
 ·(intro w hSw; (try dsimp only at hSw); (try simp only [List.getElem_toArray, List.getElem_cons_succ, List.getElem_cons_zero]); go_simp; (try with_reducible rfl))
 (try simp only [Act.put, List.getElem_toArray, List.getElem_cons_succ, List.getElem_cons_zero, List.setIfInBounds_toArray, List.set_cons_zero, List.set_cons_succ])
 refine wpAnyH_ready (rs := [59]) (by kernel_rfl) (by simp) ?_
 refine AllReadyH.cons rfl (fun K hK => ?_) AllReadyH.nil
 (try simp only [List.getElem_toArray, List.getElem_cons_succ, List.getElem_cons_zero])
 go_simp
 refine (TreeMay.whole_any eA (by decide) _ _ _ (Kd.C_below CN.out hHeld.2.2.2.2.2.2.2.2.2.2.2.2.2.2.2.2) (by show 1 ≤ c1 - 1; omega) (HT.out.on (below_step HB.out hHeld.2.2.2.2.2.2.2.2.2.2.2.2.2.2.2.2)).here).mono ?_
 rintro e w9 ⟨rfl, hb⟩
 rw [wA]
 simp only []
 refine hK.out _ _ ?_ (fun hHeld => ?_)
 ·(try dsimp only); exact keep16 hHeld hb
 clear hK K
 (try simp only [Act.put, List.getElem_toArray, List.getElem_cons_succ, List.getElem_cons_zero, List.setIfInBounds_toArray, List.set_cons_zero, List.set_cons_succ])
 refine wpAnyH_take (i := 60) (v := ?_) rfl (by kernel_rfl) (by kernel_rfl) (by kernel_rfl) (fun _ _ _ h => h) (Or.inl ⟨by kernel_rfl, ?_⟩) (by assumption) ?_
 rotate_left 1
 ·(intro w hSw; (try dsimp only at hSw); (try simp only [List.getElem_toArray, List.getElem_cons_succ, List.getElem_cons_zero]); go_simp; (try with_reducible rfl))
 (try simp only [Act.put, List.getElem_toArray, List.getElem_cons_succ, List.getElem_cons_zero, List.setIfInBounds_toArray, List.set_cons_zero, List.set_cons_succ])
 refine wpAnyH_take (i := 61) (v := ?_) rfl (by kernel_rfl) (by kernel_rfl) (by kernel_rfl) (fun _ _ _ h => h) (Or.inl ⟨by kernel_rfl, ?_⟩) (by assumption) ?_
 rotate_left 1
 ·(intro w hSw; (try dsimp only at hSw); (try simp only [List.getElem_toArray, List.getElem_cons_succ, List.getElem_cons_zero]); go_simp; (try with_reducible rfl))
 (try simp only [Act.put, List.getElem_toArray, List.getElem_cons_succ, List.getElem_cons_zero, List.setIfInBounds_toArray, List.set_cons_zero, List.set_cons_succ])
 refine wpAnyH_take (i := 62) (v := ?_) rfl (by kernel_rfl) (by kernel_rfl) (by kernel_rfl) (fun _ _ _ h => h) (Or.inl ⟨by kernel_rfl, ?_⟩) (by assumption) ?_
 rotate_left 1
 ·(intro w hSw; (try dsimp only at hSw); (try simp only [List.getElem_toArray, List.getElem_cons_succ, List.getElem_cons_zero]); go_simp; (try with_reducible rfl))
 (try simp only [Act.put, List.getElem_toArray, List.getElem_cons_succ, List.getElem_cons_zero, List.setIfInBounds_toArray, List.set_cons_zero, List.set_cons_succ])
 refine wpAnyH_take (i := 63) (v := ?_) rfl (by kernel_rfl) (by kernel_rfl) (by kernel_rfl) (fun _ _ _ h => h) (Or.inl ⟨by kernel_rfl, ?_⟩) (by assumption) ?_
 rotate_left 1
 ·(intro w hSw; (try dsimp only at hSw); (try simp only [List.getElem_toArray, List.getElem_cons_succ, List.getElem_cons_zero]); go_simp; (try with_reducible rfl))
 (try simp only [Act.put, List.getElem_toArray, List.getElem_cons_succ, List.getElem_cons_zero, List.setIfInBounds_toArray, List.set_cons_zero, List.set_cons_succ])
 refine wpAnyH_take (i := 64) (v := ?_) rfl (by kernel_rfl) (by kernel_rfl) (by kernel_rfl) (fun _ _ _ h => h) (Or.inl ⟨by kernel_rfl, ?_⟩) (by assumption) ?_
 rotate_left 1
 ·(intro w hSw; (try dsimp only at hSw); (try simp only [List.getElem_toArray, List.getElem_cons_succ, List.getElem_cons_zero]); go_simp; (try with_reducible rfl))
 (try simp only [Act.put, List.getElem_toArray, List.getElem_cons_succ, List.getElem_cons_zero, List.setIfInBounds_toArray, List.set_cons_zero, List.set_cons_succ])
 refine wpAnyH_take (i := 65) (v := ?_) rfl (by kernel_rfl) (by kernel_rfl) (by kernel_rfl) (fun _ _ _ h => h) (Or.inl ⟨by kernel_rfl, ?_⟩) (by assumption) ?_
 rotate_left 1
 ·(intro w hSw; (try dsimp only at hSw); (try simp only [List.getElem_toArray, List.getElem_cons_succ, List.getElem_cons_zero]); go_simp; (try with_reducible rfl))
 (try simp only [Act.put, List.getElem_toArray, List.getElem_cons_succ, List.getElem_cons_zero, List.setIfInBounds_toArray, List.set_cons_zero, List.set_cons_succ])
 refine wpAnyH_take (i := 66) (v := ?_) rfl (by kernel_rfl) (by kernel_rfl) (by kernel_rfl) (fun _ _ _ h => h) (Or.inl ⟨by kernel_rfl, ?_⟩) (by assumption) ?_
 rotate_left 1
 ·(intro w hSw; (try dsimp only at hSw); (try simp only [List.getElem_toArray, List.getElem_cons_succ, List.getElem_cons_zero]); go_simp; (try with_reducible rfl))
 (try simp only [Act.put, List.getElem_toArray, List.getElem_cons_succ, List.getElem_cons_zero, List.setIfInBounds_toArray, List.set_cons_zero, List.set_cons_succ])
 refine wpAnyH_take (i := 67) (v := ?_) rfl (by kernel_rfl) (by kernel_rfl) (by kernel_rfl) (fun _ _ _ h => h) (Or.inl ⟨by kernel_rfl, ?_⟩) (by assumption) ?_
 rotate_left 1
 ·(intro w hSw; (try dsimp only at hSw); (try simp only [List.getElem_toArray, List.getElem_cons_succ, List.getElem_cons_zero]); go_simp; (try with_reducible rfl))
 (try simp only [Act.put, List.getElem_toArray, List.getElem_cons_succ, List.getElem_cons_zero, List.setIfInBounds_toArray, List.set_cons_zero, List.set_cons_succ])
 refine wpAnyH_ready (rs := [68]) (by kernel_rfl) (by simp) ?_
 refine AllReadyH.cons rfl (fun K hK => ?_) AllReadyH.nil
 (try simp only [List.getElem_toArray, List.getElem_cons_succ, List.getElem_cons_zero])
 go_simp
 have cm := C2 (k24_mk w9 eS (A4 := some ad1) (c4 := c1) hc1 (Kd.C_below CT.out hHeld.2.2.2.2.2.2.2.2.2.2.2.2.2.2.2.2)) (k24_mk w9 eA (A4 := some ⟨ad1.block, ad1.off + 5, none⟩) (c4 := c1 - 1) (by show 1 ≤ c1 - 1; omega) (Kd.C_below CN.out hHeld.2.2.2.2.2.2.2.2.2.2.2.2.2.2.2.2))
 change Kd.C k24 (w9.alloc (Obj.cells #[.int .i64 3, .string ⟨#[]⟩, .int .i64 0, .int .i64 0, .slice (some ad1) 2 c1, .int .i64 8, .string ⟨#[65]⟩, .int .i64 0, .int .i64 0, .slice (some ⟨ad1.block, ad1.off + 5, none⟩) 1 (c1 - 1)] 24)) (some ⟨w9.heap.size, 0, none⟩) 2 eK.f4 at cm
 have hb : Below w9.heap.size w9 (w9.alloc (Obj.cells #[.int .i64 3, .string ⟨#[]⟩, .int .i64 0, .int .i64 0, .slice (some ad1) 2 c1, .int .i64 8, .string ⟨#[65]⟩, .int .i64 0, .int .i64 0, .slice (some ⟨ad1.block, ad1.off + 5, none⟩) 1 (c1 - 1)] 24)) := below_alloc (Below.refl _ _) _
 generalize w9.alloc (Obj.cells #[.int .i64 3, .string ⟨#[]⟩, .int .i64 0, .int .i64 0, .slice (some ad1) 2 c1, .int .i64 8, .string ⟨#[65]⟩, .int .i64 0, .int .i64 0, .slice (some ⟨ad1.block, ad1.off + 5, none⟩) 1 (c1 - 1)] 24) = wk at cm hb ⊢
 have CK := Lib.hid cm
 clear cm
 refine hK.out _ _ ?_ (fun hHeld => ?_)
 ·(try dsimp only); exact keep16 hHeld hb
 clear hK K
 (try simp only [Act.put, List.getElem_toArray, List.getElem_cons_succ, List.getElem_cons_zero, List.setIfInBounds_toArray, List.set_cons_zero, List.set_cons_succ])
 refine wpAnyH_take (i := 69) (v := ?_) rfl (by kernel_rfl) (by kernel_rfl) (by kernel_rfl) (fun _ _ _ h => h) (Or.inl ⟨by kernel_rfl, ?_⟩) (by assumption) ?_
 rotate_left 1
 ·(intro w hSw; (try dsimp only at hSw); (try simp only [List.getElem_toArray, List.getElem_cons_succ, List.getElem_cons_zero]); go_simp; (try with_reducible rfl))
 (try simp only [Act.put, List.getElem_toArray, List.getElem_cons_succ, List.getElem_cons_zero, List.setIfInBounds_toArray, List.set_cons_zero, List.set_cons_succ])
 refine wpAnyH_ready (rs := [70]) (by kernel_rfl) (by simp) ?_
 refine AllReadyH.cons rfl (fun K hK => ?_) AllReadyH.nil
 (try simp only [List.getElem_toArray, List.getElem_cons_succ, List.getElem_cons_zero])
 go_simp
 refine (TreeMay.whole_any eK (by decide) _ _ _ CK.out (Nat.le_refl 2) (HT.out.on (below_step HB.out hHeld.2.2.2.2.2.2.2.2.2.2.2.2.2.2.2.2)).here).mono ?_
 rintro e w9 ⟨rfl, hb⟩
 rw [wK]
 simp only []
 refine hK.out _ _ ?_ (fun hHeld => ?_)
 ·(try dsimp only); exact keep16 hHeld hb
 clear hK K
 (try simp only [Act.put, List.getElem_toArray, List.getElem_cons_succ, List.getElem_cons_zero, List.setIfInBounds_toArray, List.set_cons_zero, List.set_cons_succ])
 refine wpAnyH_take (i := 71) (v := ?_) rfl (by kernel_rfl) (by kernel_rfl) (by kernel_rfl) (fun _ _ _ h => h) (Or.inl ⟨by kernel_rfl, ?_⟩) (by assumption) ?_
 rotate_left 1
 ·(intro w hSw; (try dsimp only at hSw); (try simp only [List.getElem_toArray, List.getElem_cons_succ, List.getElem_cons_zero]); go_simp; (try with_reducible rfl))
 (try simp only [Act.put, List.getElem_toArray, List.getElem_cons_succ, List.getElem_cons_zero, List.setIfInBounds_toArray, List.set_cons_zero, List.set_cons_succ])
 refine wpAnyH_take (i := 72) (v := ?_) rfl (by kernel_rfl) (by kernel_rfl) (by kernel_rfl) (fun _ _ _ h => h) (Or.inl ⟨by kernel_rfl, ?_⟩) (by assumption) ?_
 rotate_left 1
 ·(intro w hSw; (try dsimp only at hSw); (try simp only [List.getElem_toArray, List.getElem_cons_succ, List.getElem_cons_zero]); go_simp; (try with_reducible rfl))
 (try simp only [Act.put, List.getElem_toArray, List.getElem_cons_succ, List.getElem_cons_zero, List.setIfInBounds_toArray, List.set_cons_zero, List.set_cons_succ])
 refine wpAnyH_done (by kernel_rfl) ?_ _
 have HB9 := Lib.hid (below_step HB.out hHeld.2.2.2.2.2.2.2.2.2.2.2.2.2.2.2.2)
 clear hHeld
 go_wp2_with fail
 go_ret
 exact ⟨rfl, HB9.out⟩
end TreeFix
end Go.Proofs.YthdkjfhpbigdpaaDoor.Pure

namespace Go.Proofs.YthdkjfhpbigdpaaDoor.Pure
open Go.Proofs.YthdkjfhpbigdpaaDoor
open HLex
namespace TreeNa
theorem nb {r t : List UInt8} {k n : Nat} (h : first r = .ok (k, t, n)) (c : UInt8) (r' : List UInt8) (he : r = c :: r') : HLex.blank c = false := by
 cases hc : HLex.blank c with
 | false => rfl
 | true =>
  exfalso
  have hn := blank_not hc
  have hp := first_pre h
  cases first_is h with
  | word h1 h2 =>
   apply h1
   rw [he, List.takeWhile_cons, if_neg (by rw [hn.1]; simp)]
  | sign h1 h2 =>
   cases t with
   | nil => exact hp.2 rfl
   | cons d t' =>
    have h3 := hp.1
    rw [he, List.cons_prefix_cons] at h3
    exact hn.2 _ (List.mem_of_find?_eq_some h2) (by rw [h3.1]; exact List.mem_cons_self ..)
theorem tok_to {L : List UInt8} {k n : Nat} (h : first L = .ok (k, L, n)) : ∃ p, lex L = .ok [⟨k, L, n, p⟩] := by
 have hp := first_pre h
 have hb : L.dropWhile HLex.blank = L := by
  cases L with
  | nil => exact absurd rfl hp.2
  | cons c r => exact dw_self (nb h c r rfl)
 have h1 : first (L.dropWhile HLex.blank) = .ok (k, L, n) := by rw [hb]; exact h
 refine ⟨0 + (L.length - L.length), ?_⟩
 rw [lex_lexs, lexs_tok 0 (by rw [hb]; exact hp.2) h1, hb, List.drop_length, lexs_nil _ rfl]
 rfl
theorem tok_from {L : List UInt8} {t : Tok} (h : lex L = .ok [t]) (ht : t.text = L) : first L = .ok (t.kind, L, t.n) := by
 rw [lex_lexs] at h
 by_cases hd : L.dropWhile HLex.blank = []
 ·rw [lexs_nil _ hd] at h; cases h
 ·cases hf : first (L.dropWhile HLex.blank) with
  | error e => rw [lexs_err 0 hd hf] at h; cases h
  | ok x =>
   obtain ⟨k, tx, n⟩ := x
   rw [lexs_tok 0 hd hf] at h
   cases hr : lexs (0 + (L.length - (L.dropWhile HLex.blank).length) + tx.length) ((L.dropWhile HLex.blank).drop tx.length) with
   | error e => rw [hr] at h; cases h
   | ok us =>
    rw [hr] at h
    simp only [more, Except.ok.injEq, List.cons.injEq] at h
    obtain ⟨h1, _⟩ := h
    rw [← h1] at ht ⊢
    simp only at ht ⊢
    have hp := first_pre hf
    rw [ht] at hf hp
    have hl := hp.1.length_le
    have hs : L.dropWhile HLex.blank <:+ L := List.dropWhile_suffix _
    have he : L.dropWhile HLex.blank = L := hs.eq_of_length (by have := hs.length_le; omega)
    rw [he] at hf
    exact hf
theorem token_is (s : ByteArray) (k : Nat) : HTree.token s k = (match first (s.data.toList ++ [32]) with | .ok (k', t, _) => decide (k' = k) && decide (t = s.data.toList) | .error _ => false) := by
 rw [first_app (c := 32) rfl s.data.toList []]
 unfold HTree.token
 cases hf : first s.data.toList with
 | error e =>
  cases hl : lex s.data.toList with
  | error x => rfl
  | ok ts =>
   match ts, hl with
   | [], _ => rfl
   | [t], hl =>
    by_cases ht : t.text = s.data.toList
    ·rw [tok_from hl ht] at hf; cases hf
    ·simp [ht]
   | t :: u :: r, _ => rfl
 | ok x =>
  obtain ⟨k', t, n⟩ := x
  by_cases ht : t = s.data.toList
  ·subst ht
   obtain ⟨p, hp⟩ := tok_to hf
   rw [hp]
  ·have hno : ∀ u, lex s.data.toList = .ok [u] → u.text ≠ s.data.toList := by
    intro u hu hx
    rw [tok_from hu hx] at hf
    simp only [Except.ok.injEq, Prod.mk.injEq] at hf
    exact ht hf.2.1.symm
   cases hl : lex s.data.toList with
   | error x => simp [ht]
   | ok ts =>
    match ts, hl with
    | [], _ => simp [ht]
    | [u], hl => simp [ht, hno u hl]
    | t :: u :: r, _ => simp [ht]
end TreeNa
end Go.Proofs.YthdkjfhpbigdpaaDoor.Pure

namespace Go.Proofs.YthdkjfhpbigdpaaDoor.Pure
open Go Go.RowKit Go.Proofs.YthdkjfhpbigdpaaDoor.Q Go.Proofs.YthdkjfhpbigdpaaDoorW.PrintWords Go.Proofs.YthdkjfhpbigdpaaDoorW.PrintLast Go.Proofs.YthdkjfhpbigdpaaDoorW.PrintMore
open HTree
namespace TreeEv
theorem wrap_small {n : Int} (h0 : -9223372036854775808 ≤ n) (h1 : n < 9223372036854775808) : wrap64 n = n := by
 unfold wrap64; omega
theorem rd_at (l : List S24) (i : Nat) (t : S24) (h : l[i]? = some t) : rd_T24 l (i : Int) = t := by
 unfold rd_T24
 rw [Int.toNat_natCast, List.getD_eq_getElem?_getD, h]; rfl
theorem at_drop {l r : List T} {i : Nat} {x : T} (h : l.drop i = x :: r) : l[i]? = some x ∧ i < l.length ∧ l.drop (i + 1) = r := by
 have h0 : l[i]? = some x := by have := congrArg (fun l => l[0]?) h; simpa using this
 exact ⟨h0, (List.getElem?_eq_some_iff.1 h0).1, by rw [← List.drop_drop, h]; rfl⟩
theorem size_get {l : List T} {x : T} (h : x ∈ l) : size x ≤ sizes l := by
 induction l with
 | nil => cases h
 | cons y r ih =>
  simp only [sizes]
  rcases List.mem_cons.1 h with rfl | h
  ·omega
  ·have := ih h; omega
theorem size_pos : ∀ x : T, 1 ≤ size x
 | ⟨_, _, _, _, _⟩ => by simp only [size]; omega
theorem len_sizes : ∀ l : List T, l.length ≤ sizes l
 | [] => Nat.le_refl _
 | x :: r => by have := len_sizes r; have := size_pos x; simp only [sizes, List.length_cons]; omega
mutual
theorem size_wt : ∀ x : T, size x ≤ wt x
 | ⟨_, _, _, _, l⟩ => by have := sizes_wts l; simp only [size, wt]; omega
theorem sizes_wts : ∀ l : List T, sizes l ≤ wts l
 | [] => Nat.le_refl _
 | x :: r => by have := size_wt x; have := sizes_wts r; simp only [sizes, wts]; omega
end
theorem few_loop (x : T) (hl : x.f4.length ≤ 1000000000) (deep : Int) (hd : -1000000 ≤ deep ∧ deep ≤ 1000000) (H : ∀ y ∈ x.f4, ∀ left dp : Int, -1000000 ≤ left → left ≤ 1000000 → -1000000 ≤ dp → dp ≤ 1000000 → ∃ r : Int, -1 ≤ r ∧ r ≤ 1000000 ∧ Ev (fun k => gossamerref02_few.f k y.f0 y.f1 y.f2 y.f3 y.f4 left dp) r) (hd1 : 1 ≤ deep) :
  ∀ (r : List T) (i : Nat) (left : Int), x.f4.drop i = r → 0 ≤ left → left ≤ 1000000 → ∃ q : Int, -1 ≤ q ∧ q ≤ 1000000 ∧ Ev (fun k => gossamerref02_few.l0 k left deep i x.f0 x.f1 x.f2 x.f3 x.f4) q
 | [], i, left, h, h0, h1 => by
  have := List.drop_eq_nil_iff.1 h
  refine ⟨left, by omega, h1, Ev.step (f := fun _ => some _) (fun k => ?_) (Ev.now _)⟩
  rw [gossamerref02_few.l0, if_neg (by omega)]
 | y :: r, i, left, h, h0, h1 => by
  obtain ⟨hg, hi, hn⟩ := at_drop h
  obtain ⟨q, hq0, hq1, hev⟩ := H y (List.mem_of_getElem? hg) left (deep - 1) (by omega) h1 (by omega) (by omega)
  by_cases hneg : q < 0
  ·refine ⟨-1, by omega, by omega, Ev.step (f := fun k => (gossamerref02_few.f k y.f0 y.f1 y.f2 y.f3 y.f4 left (deep - 1)).bind fun t => if t < 0 then some (-1) else gossamerref02_few.l0 k t deep (wrap64 (i + 1)) x.f0 x.f1 x.f2 x.f3 x.f4) (fun k => ?_) (Ev.bind hev ?_)⟩
   ·rw [gossamerref02_few.l0, if_pos (by omega), if_pos (by omega), rd_at _ i y hg, wrap_small (n := deep - 1) (by omega) (by omega)]
   ·simp only [hneg, if_true]; exact Ev.now _
  ·obtain ⟨q2, a, b, hev2⟩ := few_loop x hl deep hd H hd1 r (i + 1) q hn (by omega) hq1
   refine ⟨q2, a, b, Ev.step (f := fun k => (gossamerref02_few.f k y.f0 y.f1 y.f2 y.f3 y.f4 left (deep - 1)).bind fun t => if t < 0 then some (-1) else gossamerref02_few.l0 k t deep (wrap64 (i + 1)) x.f0 x.f1 x.f2 x.f3 x.f4) (fun k => ?_) (Ev.bind hev ?_)⟩
   ·rw [gossamerref02_few.l0, if_pos (by omega), if_pos (by omega), rd_at _ i y hg, wrap_small (n := deep - 1) (by omega) (by omega)]
   ·simp only [hneg, if_false]
    rw [wrap_small (by omega) (by omega)]
    exact hev2
theorem few_ev : ∀ (n : Nat) (x : T), height x ≤ n → size x ≤ 1000000000 → ∀ left dp : Int, -1000000 ≤ left → left ≤ 1000000 → -1000000 ≤ dp → dp ≤ 1000000 → ∃ r : Int, -1 ≤ r ∧ r ≤ 1000000 ∧ Ev (fun k => gossamerref02_few.f k x.f0 x.f1 x.f2 x.f3 x.f4 left dp) r
 | 0, x, hn, _, _, _, _, _, _, _ => by cases x; simp only [height] at hn; omega
 | n + 1, x, hn, hs, left, dp, h0, h1, h2, h3 => by
  have hh : height x = heights x.f4 + 1 := by cases x; rfl
  have hz : size x = sizes x.f4 + 1 := by cases x; rfl
  by_cases hc : left < 1
  ·refine ⟨-1, by omega, by omega, Ev.step (f := fun k => gossamerref02_few.j0 k left dp true x.f0 x.f1 x.f2 x.f3 x.f4) (fun k => by rw [gossamerref02_few.f, if_pos hc]) (Ev.step (f := fun _ => some (-1)) (fun k => by rw [gossamerref02_few.j0, if_pos rfl]) (Ev.now _))⟩
  ·by_cases hc2 : dp < 1
   ·refine ⟨-1, by omega, by omega, Ev.step (f := fun k => gossamerref02_few.j0 k left dp true x.f0 x.f1 x.f2 x.f3 x.f4) (fun k => by rw [gossamerref02_few.f, if_neg hc, decide_eq_true hc2]) (Ev.step (f := fun _ => some (-1)) (fun k => by rw [gossamerref02_few.j0, if_pos rfl]) (Ev.now _))⟩
   ·obtain ⟨q, a, b, hev⟩ := few_loop x (by have := len_sizes x.f4; omega) dp ⟨h2, h3⟩ (fun y hy l d => few_ev n y (by have := height_get hy; omega) (by have := size_get hy; omega) l d) (by omega) x.f4 0 (left - 1) rfl (by omega) (by omega)
    refine ⟨q, a, b, Ev.step (f := fun k => gossamerref02_few.j0 k left dp false x.f0 x.f1 x.f2 x.f3 x.f4) (fun k => by rw [gossamerref02_few.f, if_neg hc, decide_eq_false hc2]) (Ev.step (f := fun k => gossamerref02_few.l0 k (left - 1) dp 0 x.f0 x.f1 x.f2 x.f3 x.f4) (fun k => by rw [gossamerref02_few.j0, if_neg (by simp), wrap_small (by omega) (by omega)]) hev)⟩
theorem small_some (x : T) (hs : size x ≤ 1000000000) (most : Int) (h0 : 0 ≤ most) (h1 : most ≤ 1000000) : ∃ k b, gossamerref02_Small.f k x.f0 x.f1 x.f2 x.f3 x.f4 most = some b := by
 obtain ⟨r, _, _, hev⟩ := few_ev (height x) x (Nat.le_refl _) hs most 200 (by omega) h1 (by omega) (by omega)
 obtain ⟨k, hk⟩ := hev.rounds
 refine ⟨k, decide (r ≥ 0), ?_⟩
 unfold gossamerref02_Small.f
 rw [hk]; rfl
end TreeEv
end Go.Proofs.YthdkjfhpbigdpaaDoor.Pure

namespace Go.Proofs.YthdkjfhpbigdpaaDoor.Pure
open Go Go.RowKit Go.Proofs.YthdkjfhpbigdpaaDoor.Q Go.Proofs.YthdkjfhpbigdpaaDoorW.PrintWords Go.Proofs.YthdkjfhpbigdpaaDoorW.PrintLast Go.Proofs.YthdkjfhpbigdpaaDoorW.PrintMore
open HTree TreeEv
set_option linter.unusedSimpArgs false
namespace CoreBeq
theorem beq_decide (l l' : List UInt8) : (l == l') = decide (l = l') := by
 cases h : decide (l = l') with
 | true => exact beq_iff_eq.2 (of_decide_eq_true h)
 | false => exact beq_eq_false_iff_ne.2 (of_decide_eq_false h)
end CoreBeq
namespace TreeRm
theorem token_is (s : ByteArray) (hs : s.size ≤ 1100000) (m k : Nat) : gossamerref02_token.f k s (m : Int) = some (HTree.token s m) := by
 unfold gossamerref02_token.f
 rw [TreeNa.token_is, HLex.first_app (c := 32) rfl s.data.toList []]
 by_cases h0 : s.toList = []
 ·rw [if_pos h0]
  rw [Lib.toList_data] at h0
  rw [h0]
  rfl
 ·rw [if_neg h0]
  have hsz : 0 < s.size := by
   rw [Lib.toList_data] at h0
   have := List.length_pos_iff.2 h0
   simpa using this
  unfold gossamerref01_One.f
  rw [if_pos ⟨hs, by omega, by simpa using hsz⟩]
  simp only [Int.toNat_zero, List.drop_zero]
  cases hf : HLex.first s.data.toList with
  | error er =>
   have he := HLex.first_err hf
   have : ¬ (er : Int) = 0 := by omega
   have h2 : ¬ er = 0 := by omega
   simp [this, h2]
  | ok x =>
   obtain ⟨k', t, n⟩ := x
   simp only [Option.bind_some, if_true]
   by_cases hk : k' = m
   ·have : (k' : Int) = (m : Int) := by omega
    simp [hk, Lib.toList_data, CoreBeq.beq_decide]
   ·have : ¬ (k' : Int) = (m : Int) := by omega
    simp [hk, this]
theorem name_is (s : ByteArray) (hs : s.size ≤ 1100000) (k0 n a : Int) (l : List T) (k : Nat) : gossamerref02_name.f (k + 2) k0 s n a l = some (named s (what k0)) := by
 have t1 : ∀ k, gossamerref02_token.f k s 1 = some (HTree.token s 1) := fun k => token_is s hs 1 k
 have t2 : ∀ k, gossamerref02_token.f k s 2 = some (HTree.token s 2) := fun k => token_is s hs 2 k
 unfold gossamerref02_name.f
 by_cases e1 : k0 = 1
 ·subst e1; simp [gossamerref02_name.j0, t1, named, what]
 by_cases e2 : k0 = 2
 ·subst e2; simp [gossamerref02_name.j0, t1, named, what]
 by_cases e4 : k0 = 4
 ·subst e4; simp [gossamerref02_name.j0, t1, named, what]
 by_cases e5 : k0 = 5
 ·subst e5; simp [gossamerref02_name.j0, t1, named, what]
 have b5 : (k0 == 5) = false := beq_eq_false_iff_ne.2 e5
 rw [if_neg e1, if_neg e2, if_neg e4, b5, gossamerref02_name.j0, if_neg (by simp)]
 by_cases e6 : k0 = 6
 ·subst e6; simp [gossamerref02_name.j1, t2, named, what]
 by_cases e8 : k0 = 8
 ·subst e8; simp [gossamerref02_name.j1, t2, named, what]
 have b8 : (k0 == 8) = false := beq_eq_false_iff_ne.2 e8
 rw [if_neg e6, b8, gossamerref02_name.j1, if_neg (by simp)]
 simp only [Lib.toList_data]
 by_cases e10 : k0 = 10
 ·subst e10
  rw [if_pos rfl]
  have hw : named s (what 10) = oper s := rfl
  rw [hw]
  unfold oper
  by_cases h1 : s.data.toList = [43]
  ·simp [h1]
  by_cases h2 : s.data.toList = [45]
  ·simp [h2]
  by_cases h3 : s.data.toList = [42]
  ·simp [h3]
  by_cases h4 : s.data.toList = [47]
  ·simp [h4]
  by_cases h5 : s.data.toList = [60]
  ·simp [h5]
  by_cases h6 : s.data.toList = [61, 61]
  ·simp [h6]
  ·simp [h1, h2, h3, h4, h5, h6]
 ·rw [if_neg e10]
  have hw : what k0 = 0 := by unfold what; rw [if_neg (by omega), if_neg (by omega), if_neg e10]
  rw [hw]
  show _ = some (decide (s.data.toList = []))
  rw [CoreBeq.beq_decide]
def known (k : Int) : Bool := decide (1 ≤ k) && decide (k ≤ 10)
theorem ite_some {p : Prop} [Decidable p] (q : Bool) : (if p then some q else some false) = some (decide p && q) := by split <;> simp_all
theorem parts_is (s : ByteArray) (k0 n a : Int) (l : List T) (hl : l.length ≤ 1000000000) (hn : -9223372036854775808 ≤ n ∧ n ≤ 9223372036854775807) (k : Nat) : gossamerref02_parts.f (k + 1) k0 s n a l = some (known k0 && decide (least k0 ≤ (l.length : Int)) && decide ((l.length : Int) ≤ most k0) && number k0 n l.length) := by
 by_cases e1 : k0 = 1
 ·subst e1
  simp only [gossamerref02_parts.f, gossamerref02_parts.j0, ite_some]
  refine congrArg some ?_
  rw [Bool.eq_iff_iff]
  simp [known, least, most, number]
  try omega
 by_cases e2 : k0 = 2
 ·subst e2
  simp only [gossamerref02_parts.f, gossamerref02_parts.j0, ite_some]
  refine congrArg some ?_
  rw [Bool.eq_iff_iff]
  simp [known, least, most, number]
  try omega
 by_cases e3 : k0 = 3
 ·subst e3
  simp only [gossamerref02_parts.f, gossamerref02_parts.j0, ite_some]
  refine congrArg some ?_
  rw [Bool.eq_iff_iff]
  simp [known, least, most, number]
  try omega
 by_cases e4 : k0 = 4
 ·subst e4
  simp only [gossamerref02_parts.f, gossamerref02_parts.j0, ite_some]
  refine congrArg some ?_
  rw [Bool.eq_iff_iff]
  simp [known, least, most, number]
  try omega
 by_cases e5 : k0 = 5
 ·subst e5
  simp only [gossamerref02_parts.f, gossamerref02_parts.j0, ite_some]
  refine congrArg some ?_
  rw [Bool.eq_iff_iff]
  simp [known, least, most, number]
  try omega
 by_cases e6 : k0 = 6
 ·subst e6
  simp only [gossamerref02_parts.f, gossamerref02_parts.j0, ite_some]
  refine congrArg some ?_
  rw [Bool.eq_iff_iff]
  simp [known, least, most, number]
  try omega
 by_cases e7 : k0 = 7
 ·subst e7
  simp only [gossamerref02_parts.f, gossamerref02_parts.j0, ite_some]
  refine congrArg some ?_
  rw [Bool.eq_iff_iff]
  simp [known, least, most, number]
  try omega
 by_cases e9 : k0 = 9
 ·subst e9
  simp only [gossamerref02_parts.f, gossamerref02_parts.j0, ite_some]
  refine congrArg some ?_
  rw [Bool.eq_iff_iff]
  simp [known, least, most, number]
  try omega
 by_cases e10 : k0 = 10
 ·subst e10
  simp only [gossamerref02_parts.f, gossamerref02_parts.j0, ite_some]
  refine congrArg some ?_
  rw [Bool.eq_iff_iff]
  simp [known, least, most, number]
  try omega
 by_cases e8 : k0 = 8
 ·subst e8
  by_cases hq : 0 ≤ n ∧ n ≤ 8
  ·have hw : wrap64 (n + 1) = n + 1 := TreeEv.wrap_small (by omega) (by omega)
   simp only [gossamerref02_parts.f, gossamerref02_parts.j0, ite_some, hw]
   refine congrArg some ?_
   rw [Bool.eq_iff_iff]
   simp [known, least, most, number]
   try omega
  ·simp only [gossamerref02_parts.f, gossamerref02_parts.j0, ite_some]
   refine congrArg some ?_
   rw [Bool.eq_iff_iff]
   simp [known, least, most, number]
   try omega
 have b10 : (k0 == 10) = false := beq_eq_false_iff_ne.2 e10
 have hk : known k0 = false := by unfold known; by_cases h1 : 1 ≤ k0 <;> simp [h1] <;> omega
 rw [hk]
 unfold gossamerref02_parts.f
 rw [if_neg e1, if_neg e2, if_neg e3, if_neg e4, if_neg e5, b10, gossamerref02_parts.j0, if_neg (by simp), if_neg e6, if_neg e7, if_neg e8, if_neg e9]
 rfl
def mayA (x : T) (alt : Bool) : Bool := (decide (x.f0 = 8) == alt) && HTree.may x
theorem part_as (k n : Int) (x : T) (i : Int) : HTree.part k n x i = if k = 8 ∧ i < n ∧ x.f0 ≠ 1 then false else mayA x (decide (k = 7) && decide (0 < i)) := by
 unfold HTree.part mayA
 by_cases h7 : k = 7
 ·subst h7
  by_cases hi : 0 < i
  ·simp [hi]
  ·simp [hi]
 ·by_cases h8 : k = 8 ∧ i < n ∧ x.f0 ≠ 1
  ·rw [if_neg (fun h => h7 h.1), if_pos h8, if_pos h8]
  ·rw [if_neg (fun h => h7 h.1), if_neg h8, if_neg h8]
   simp [h7]
theorem may_loop (x : T) (hl : x.f4.length ≤ 1000000000) (H : ∀ y ∈ x.f4, ∀ alt : Bool, Ev (fun k => gossamerref02_may.f k y.f0 y.f1 y.f2 y.f3 y.f4 alt) (mayA y alt)) :
  ∀ (r : List T) (i : Nat), x.f4.drop i = r → Ev (fun k => gossamerref02_may.l0 k i x.f0 x.f1 x.f2 x.f3 x.f4) (parts x.f0 x.f2 r i)
 | [], i, h => by
  have := List.drop_eq_nil_iff.1 h
  refine Ev.step (f := fun _ => some _) (fun k => ?_) (Ev.now _)
  rw [gossamerref02_may.l0, if_neg (by omega)]; rfl
 | y :: r, i, h => by
  obtain ⟨hg, hi, hn⟩ := at_drop h
  have e2 : ((i : Int) + 1) = ((i + 1 : Nat) : Int) := by omega
  have ih := may_loop x hl H r (i + 1) hn
  rw [parts_cons, part_as]
  by_cases h8 : x.f0 = 8 ∧ (i : Int) < x.f2 ∧ y.f0 ≠ 1
  ·rw [if_pos h8, Bool.false_and]
   refine Ev.step (f := fun k => gossamerref02_may.j2 k i true x.f0 x.f1 x.f2 x.f3 x.f4) (fun k => ?_) (Ev.step (f := fun _ => some false) (fun k => by rw [gossamerref02_may.j2, if_pos rfl]) (Ev.now _))
   rw [gossamerref02_may.l0, if_pos (by omega), if_pos h8.1, if_pos h8.2.1, if_pos (by omega), rd_at _ i y hg, bne_iff_ne.2 h8.2.2]
  ·rw [if_neg h8]
   refine Ev.step (f := fun k => gossamerref02_may.j2 k i false x.f0 x.f1 x.f2 x.f3 x.f4) (fun k => ?_) ?_
   ·rw [gossamerref02_may.l0, if_pos (by omega)]
    by_cases a1 : x.f0 = 8
    ·rw [if_pos a1]
     by_cases a2 : (i : Int) < x.f2
     ·have a3 : y.f0 = 1 := Classical.byContradiction fun q => h8 ⟨a1, a2, q⟩
      rw [if_pos a2, if_pos (by omega), rd_at _ i y hg, a3]; rfl
     ·rw [if_neg a2]
    ·rw [if_neg a1]
   ·refine Ev.step (f := fun k => (gossamerref02_may.f k y.f0 y.f1 y.f2 y.f3 y.f4 (decide (x.f0 = 7) && decide (0 < (i : Int)))).bind fun t => if t = true then gossamerref02_may.l0 k (wrap64 (i + 1)) x.f0 x.f1 x.f2 x.f3 x.f4 else some false) (fun k => ?_) (Ev.bind (H y (List.mem_of_getElem? hg) _) ?_)
    ·rw [gossamerref02_may.j2, if_neg (by simp), if_pos (by omega), if_pos (by omega), rd_at _ i y hg]
     by_cases h7 : x.f0 = 7
     ·rw [if_pos h7, decide_eq_true h7, Bool.true_and]
     ·rw [if_neg h7, decide_eq_false h7, Bool.false_and]
    ·cases mayA y (decide (x.f0 = 7) && decide (0 < (i : Int))) with
     | true =>
      simp only [if_true, Bool.true_and]
      rw [TreeEv.wrap_small (by omega) (by omega), e2]; exact ih
     | false => simp only [Bool.false_eq_true, if_false, Bool.false_and]; exact Ev.now _
theorem name_ev (x : T) (hs : x.f1.size ≤ 1100000) : Ev (fun k => gossamerref02_name.f k x.f0 x.f1 x.f2 x.f3 x.f4) (named x.f1 (what x.f0)) :=
 Ev.step (f := fun k => gossamerref02_name.f (k + 1) x.f0 x.f1 x.f2 x.f3 x.f4) (fun _ => rfl) (Ev.step (f := fun _ => some _) (fun k => name_is x.f1 hs x.f0 x.f2 x.f3 x.f4 k) (Ev.now _))
def pq (x : T) : Bool := known x.f0 && decide (least x.f0 ≤ (x.f4.length : Int)) && decide ((x.f4.length : Int) ≤ most x.f0) && number x.f0 x.f2 x.f4.length
theorem parts_ev (x : T) (hl : x.f4.length ≤ 1000000000) (hn : -9223372036854775808 ≤ x.f2 ∧ x.f2 ≤ 9223372036854775807) : Ev (fun k => gossamerref02_parts.f k x.f0 x.f1 x.f2 x.f3 x.f4) (pq x) :=
 Ev.step (f := fun _ => some _) (fun k => parts_is x.f1 x.f0 x.f2 x.f3 x.f4 hl hn k) (Ev.now _)
theorem may_pq (x : T) : HTree.may x = (named x.f1 (what x.f0) && (pq x && (decide (0 ≤ x.f3) && parts x.f0 x.f2 x.f4 0))) := by
 have e : HTree.may x = (known x.f0 && decide (least x.f0 ≤ (x.f4.length : Int)) && decide ((x.f4.length : Int) ≤ most x.f0) && named x.f1 (what x.f0) && number x.f0 x.f2 x.f4.length && decide (0 ≤ x.f3) && parts x.f0 x.f2 x.f4 0) := by cases x; rfl
 rw [e]; unfold pq
 generalize known x.f0 = b1
 generalize decide (least x.f0 ≤ (x.f4.length : Int)) = b2
 generalize decide ((x.f4.length : Int) ≤ most x.f0) = b3
 generalize named x.f1 (what x.f0) = b4
 generalize number x.f0 x.f2 x.f4.length = b5
 generalize decide (0 ≤ x.f3) = b6
 generalize parts x.f0 x.f2 x.f4 0 = b7
 revert b1 b2 b3 b4 b5 b6 b7; decide
theorem ok_get : ∀ (l : List T), Oks l → ∀ y ∈ l, Ok y
 | [], _, y, hy => by cases hy
 | x :: r, h, y, hy => by
  rcases List.mem_cons.1 hy with rfl | hy
  ·exact h.1
  ·exact ok_get r h.2 y hy
theorem no_ev (x : T) : Ev (fun k => gossamerref02_may.j0 k true x.f0 x.f1 x.f2 x.f3 x.f4) false := Ev.step (f := fun _ => some false) (fun k => by rw [gossamerref02_may.j0, if_pos rfl]) (Ev.now _)
theorem may_ev : ∀ (n : Nat) (x : T), height x ≤ n → wt x ≤ 1100000 → Ok x → ∀ alt : Bool, Ev (fun k => gossamerref02_may.f k x.f0 x.f1 x.f2 x.f3 x.f4 alt) (mayA x alt)
 | 0, x, hn, _, _, _ => by cases x; simp only [height] at hn; omega
 | n + 1, x, hn, hw, ok, alt => by
  have hh : height x = heights x.f4 + 1 := by cases x; rfl
  have hwx : x.f1.size + 1 + wts x.f4 = wt x := by cases x; rfl
  have hl := len_wts x.f4
  have hok : (Lit.int .i64 x.f2).wf = true ∧ Oks x.f4 := by cases x; exact ⟨ok.2.1, ok.2.2.2⟩
  have hn2 : -9223372036854775808 ≤ x.f2 ∧ x.f2 ≤ 9223372036854775807 := by
   have := hok.1
   simp only [Lit.wf, Bool.and_eq_true, decide_eq_true_eq] at this
   exact this
  have H : ∀ y ∈ x.f4, ∀ alt : Bool, Ev (fun k => gossamerref02_may.f k y.f0 y.f1 y.f2 y.f3 y.f4 alt) (mayA y alt) := fun y hy alt => may_ev n y (by have := height_get hy; omega) (by have := wt_get hy; omega) (ok_get _ hok.2 y hy) alt
  have e8 : (x.f0 == 8) = decide (x.f0 = 8) := by
   cases h : decide (x.f0 = 8) with
   | true => exact beq_iff_eq.2 (of_decide_eq_true h)
   | false => exact beq_eq_false_iff_ne.2 (of_decide_eq_false h)
  by_cases hm : ((x.f0 == 8) != alt) = true
  ·have ef : mayA x alt = false := by
    unfold mayA
    rw [← e8]
    have : ((x.f0 == 8) == alt) = false := by revert hm; cases (x.f0 == 8) <;> cases alt <;> decide
    rw [this]; rfl
   rw [ef]
   exact Ev.step (f := fun k => gossamerref02_may.j0 k true x.f0 x.f1 x.f2 x.f3 x.f4) (fun k => by rw [gossamerref02_may.f, if_pos hm]) (no_ev x)
  ·have ef : mayA x alt = HTree.may x := by
    unfold mayA
    rw [← e8]
    have : ((x.f0 == 8) == alt) = true := by revert hm; cases (x.f0 == 8) <;> cases alt <;> decide
    rw [this]; rfl
   rw [ef, may_pq]
   refine Ev.step (f := fun k => (gossamerref02_name.f k x.f0 x.f1 x.f2 x.f3 x.f4).bind fun t201 => if t201 = true then ((gossamerref02_parts.f k x.f0 x.f1 x.f2 x.f3 x.f4).bind fun t202 => if t202 = true then gossamerref02_may.j0 k (decide (x.f3 < 0)) x.f0 x.f1 x.f2 x.f3 x.f4 else gossamerref02_may.j0 k true x.f0 x.f1 x.f2 x.f3 x.f4) else gossamerref02_may.j0 k true x.f0 x.f1 x.f2 x.f3 x.f4) (fun k => by rw [gossamerref02_may.f, if_neg hm]) (Ev.bind (name_ev x (by omega)) ?_)
   cases named x.f1 (what x.f0) with
   | false => simp only [Bool.false_eq_true, if_false, Bool.false_and]; exact no_ev x
   | true =>
    simp only [if_true, Bool.true_and]
    refine Ev.bind (parts_ev x (by omega) hn2) ?_
    cases pq x with
    | false => simp only [Bool.false_eq_true, if_false, Bool.false_and]; exact no_ev x
    | true =>
     simp only [if_true, Bool.true_and]
     by_cases ha : x.f3 < 0
     ·rw [decide_eq_true ha, decide_eq_false (show ¬ 0 ≤ x.f3 by omega), Bool.false_and]; exact no_ev x
     ·rw [decide_eq_false ha, decide_eq_true (show 0 ≤ x.f3 by omega), Bool.true_and]
      refine Ev.step (f := fun k => gossamerref02_may.l0 k 0 x.f0 x.f1 x.f2 x.f3 x.f4) (fun k => by rw [gossamerref02_may.j0, if_neg (by simp)]) ?_
      have := may_loop x (by omega) H x.f4 0 rfl
      simpa using this
theorem May_ev (x : T) (hw : wt x ≤ 1100000) (ok : Ok x) : Ev (fun k => gossamerref02_May.f k x.f0 x.f1 x.f2 x.f3 x.f4) (whole x) := by
 have h := may_ev _ x (Nat.le_refl _) hw ok false
 have e : mayA x false = whole x := by unfold mayA whole; cases h : decide (x.f0 = 8) <;> simp_all
 rw [e] at h
 have : (fun k => gossamerref02_May.f k x.f0 x.f1 x.f2 x.f3 x.f4) = fun k => gossamerref02_may.f k x.f0 x.f1 x.f2 x.f3 x.f4 false := by
  funext k; unfold gossamerref02_May.f; cases gossamerref02_may.f k x.f0 x.f1 x.f2 x.f3 x.f4 false <;> rfl
 rw [this]; exact h
end TreeRm
end Go.Proofs.YthdkjfhpbigdpaaDoor.Pure

/- The tables of the library that the program's functions read are laid in the world. -/
namespace Go.Proofs.YthdkjfhpbigdpaaDoor.Q
open Go Go.RowKit Go.Proofs.YthdkjfhpbigdpaaDoorW.PrintWords Go.Proofs.YthdkjfhpbigdpaaDoorW.PrintLast Go.Proofs.YthdkjfhpbigdpaaDoorW.PrintMore
def LaidW (w : World) : Prop := Lib.TabIs Tryd.prog w "strings.asciiSpace" .u8 Lib.asciiSpaceTab
theorem LaidW.below {w w' : World} (h : LaidW w) (hb : Below w.heap.size w w') : LaidW w' := ((Lib.tabBelow_of_tabIs h).on hb).here
end Go.Proofs.YthdkjfhpbigdpaaDoor.Q

namespace Go.Proofs.YthdkjfhpbigdpaaDoor.Ev
open Go Go.RowKit Go.Proofs.YthdkjfhpbigdpaaDoor.Q Go.Proofs.YthdkjfhpbigdpaaDoorW.PrintWords Go.Proofs.YthdkjfhpbigdpaaDoorW.PrintLast Go.Proofs.YthdkjfhpbigdpaaDoorW.PrintMore
open HTree (wt wts whole)
set_option linter.unusedSimpArgs false
set_option linter.unusedVariables false
theorem c_fixed : Con Tryd.prog LaidW 8 fun args out => args = [] ∧ out = .ret (.s (.bool true)) := by
 rintro args out ⟨rfl, rfl⟩ S w vs hJ hA h
 cases h
 exact (Pure.TreeFix.fixed_any w hJ).mono fun e w' h => post_s hA rfl h
theorem c_tmay : Con Tryd.prog LaidW 15 fun args out => ∃ x : Tr, args = [.agg (encT x)] ∧ wt x ≤ 1000000000 ∧ out = .ret (.s (.bool (whole x))) := by
 rintro args out ⟨x, rfl, hx, rfl⟩ S w vs hJ hA h
 cases h with | cons h0 h =>
 cases h
 obtain ⟨A, c, rfl, hl, hC⟩ := argT hA (by omega) h0
 exact (Pure.TreeMay.whole_any x hx w A c hC hl hJ).mono fun e w' h => post_s hA rfl h
theorem c_rmay : Con Tryd.prog LaidW 17 fun args out => ∃ x : Tr, args = [.agg (encT x)] ∧ wt x ≤ 1100000 ∧ HTree.Ok x ∧ out = .ret (.s (.bool (whole x))) := by
 rintro args out ⟨x, rfl, hx, ok, rfl⟩ S w vs hJ hA h
 cases h with | cons h0 h =>
 cases h
 obtain ⟨A, c, rfl, hl, hC⟩ := argT hA (by omega) h0
 obtain ⟨k, hk⟩ := (Pure.TreeRm.May_ev x hx ok).rounds
 exact (gossamerref02_May.calls k x.f0 x.f1 x.f2 x.f3 A c x.f4 _ w hC hl hk).mono fun e w' h => post_s hA rfl h
theorem c_small : Con Tryd.prog LaidW 9 fun args out => ∃ (x : Tr) (k : Nat) (b : Bool), args = [.agg (encT x), .s (.int .i64 100)] ∧ wt x ≤ 1100000 ∧ gossamerref02_Small.f k x.f0 x.f1 x.f2 x.f3 x.f4 100 = some b ∧ out = .ret (.s (.bool b)) := by
 rintro args out ⟨x, k, b, rfl, hx, hk, rfl⟩ S w vs hJ hA h
 cases h with | cons h0 h =>
 cases h with | cons h1 h =>
 cases h
 obtain ⟨A, c, rfl, hl, hC⟩ := argT hA (by omega) h0
 have e1 := sc_rep h1 rfl
 subst e1
 exact (gossamerref02_Small.calls k x.f0 x.f1 x.f2 x.f3 A c x.f4 100 b w hC hl hk).mono fun e w' h => post_s hA rfl h
abbrev ETA : List (FuncId × Spec) := [(8, fun args out => args = [] ∧ out = .ret (.s (.bool true))),
 (15, fun args out => ∃ x : Tr, args = [.agg (encT x)] ∧ wt x ≤ 1000000000 ∧ out = .ret (.s (.bool (whole x)))),
 (17, fun args out => ∃ x : Tr, args = [.agg (encT x)] ∧ wt x ≤ 1100000 ∧ HTree.Ok x ∧ out = .ret (.s (.bool (whole x)))),
 (9, fun args out => ∃ (x : Tr) (k : Nat) (b : Bool), args = [.agg (encT x), .s (.int .i64 100)] ∧ wt x ≤ 1100000 ∧ gossamerref02_Small.f k x.f0 x.f1 x.f2 x.f3 x.f4 100 = some b ∧ out = .ret (.s (.bool b)))]
theorem okTA : Ev.Ok Tryd.prog LaidW (env ETA) := ok_cons c_fixed (ok_cons c_tmay (ok_cons c_rmay (ok_cons c_small ok_nil)))
end Go.Proofs.YthdkjfhpbigdpaaDoor.Ev

namespace Go.Proofs.YthdkjfhpbigdpaaDoor.Ev
open Go Go.RowKit
def c7 : ACode := (.seq (.reg [b 3 (.box (T 0)), b 6 (.mv (B false))]) (.seq (.seq (.reg [b 12 (.call 8 []), b 13 (.sc (.un .not) [(T 12)]), b 14 (.mv (T 13)), bg 15 14 false (.ld true 5 (T 3)), bg 16 14 false (.call 9 [(T 15), (I 100)]), bg 17 14 false (.sc (.un .not) [(T 16)]), b 18 (.pick (T 14) (B true) (T 17)), b 19 (.mv (T 18)), bg 20 19 false (.mv (T 1)), bg 21 19 false (.sc (.bin .lss 3) [(T 20), (I 0)]), b 22 (.pick (T 19) (B true) (T 21)), b 23 (.mv (T 22)), bg 24 23 false (.mv (T 1)), bg 25 23 false (.sc (.bin .gtr 3) [(T 24), (I 10)]), b 26 (.pick (T 23) (B true) (T 25)), b 27 (.mv (T 26)), bg 28 27 false (.mv (T 2)), bg 29 27 false (.sc (.bin .lss 3) [(T 28), (I 0)]), b 30 (.pick (T 27) (B true) (T 29)), b 31 (.mv (T 30)), bg 32 31 false (.mv (T 2)), bg 33 31 false (.sc (.bin .gtr 3) [(T 32), (I 10)]), b 34 (.pick (T 31) (B true) (T 33)), b 35 (.mv (T 34)), bg 36 35 false (.ld true 5 (T 3)), bg 37 35 false (.call 17 [(T 36)]), bg 38 35 false (.sc (.un .not) [(T 37)]), b 39 (.pick (T 35) (B true) (T 38))]) (.cond (T 39) (.seq (.reg [b 40 (.call 8 []), b 6 (.mv (T 40))]) .ret) .skip)) (.seq (.reg [b 41 (.mv (T 1)), b 42 (.bld [(.int .i64 0), (.string ⟨#[]⟩), (.int .i64 0), (.int .i64 0), (.slice none 0 0)] [(0, (1, (I 8))), (1, (1, (S [65]))), (2, (1, (T 41)))]), b 7 (.alloc [(.int .i64 0), (.string ⟨#[]⟩), (.int .i64 0), (.int .i64 0), (.slice none 0 0)]), b0 (.st 5 (T 7) (T 42))]) (.seq (.seq (.reg [b 8 (.mv (I 0))]) (.block 0 (.loop (.seq (.seq (.reg [b 43 (.mv (T 8)), b 44 (.mv (T 1)), b 45 (.sc (.bin .lss 3) [(T 43), (T 44)])]) (.cond (T 45) .skip (.exit 0))) (.seq (.block 1 (.reg [b 48 (.fa 4 (T 7)), b 49 (.ld false 1 (T 48)), b 50 (.bld [(.int .i64 0), (.string ⟨#[]⟩), (.int .i64 0), (.int .i64 0), (.slice none 0 0)] [(0, (1, (I 1))), (1, (1, (S [120])))]), b 51 (.bs 24 5 [(T 50)]), b 52 (.ap 24 5 64 (T 49) (T 51)), b 53 (.fa 4 (T 7)), b0 (.st 1 (T 53) (T 52))])) (.reg [b 46 (.mv (T 8)), b 47 (.sc (.bin .add 3) [(T 46), (I 1)]), b 8 (.mv (T 47))])))))) (.seq (.reg [b 54 (.ld true 5 (T 3)), b 55 (.ld true 5 (T 7)), b 56 (.bs 24 5 [(T 54), (T 55)]), b 57 (.bld [(.int .i64 0), (.string ⟨#[]⟩), (.int .i64 0), (.int .i64 0), (.slice none 0 0)] [(0, (1, (I 7))), (4, (1, (T 56)))]), b 9 (.alloc [(.int .i64 0), (.string ⟨#[]⟩), (.int .i64 0), (.int .i64 0), (.slice none 0 0)]), b0 (.st 5 (T 9) (T 57))]) (.seq (.reg [a 58 (.bs 24 5 []), a 59 (.fa 4 (T 7)), a 60 (.ld false 1 (T 59)), a 61 (.ap 24 5 64 (T 58) (T 60)), b 62 (.ld true 5 (T 3)), b 63 (.bs 24 5 [(T 62)]), b 64 (.ap 24 5 64 (T 61) (T 63)), b 65 (.fa 4 (T 7)), b0 (.st 1 (T 65) (T 64))]) (.seq (.reg [b 66 (.ld true 5 (T 3)), b 67 (.bs 24 5 [(T 66)]), b 68 (.bld [(.int .i64 0), (.string ⟨#[]⟩), (.int .i64 0), (.int .i64 0), (.slice none 0 0)] [(0, (1, (I 7))), (4, (1, (T 67)))]), b 10 (.alloc [(.int .i64 0), (.string ⟨#[]⟩), (.int .i64 0), (.int .i64 0), (.slice none 0 0)]), b0 (.st 5 (T 10) (T 68))]) (.seq (.seq (.reg [b 11 (.mv (I 0))]) (.block 2 (.loop (.seq (.seq (.reg [b 69 (.mv (T 11)), b 70 (.mv (T 2)), b 71 (.sc (.bin .lss 3) [(T 69), (T 70)])]) (.cond (T 71) .skip (.exit 2))) (.seq (.block 3 (.reg [b 74 (.fa 4 (T 10)), b 75 (.ld false 1 (T 74)), b 76 (.ld true 5 (T 7)), b 77 (.bs 24 5 [(T 76)]), b 78 (.ap 24 5 64 (T 75) (T 77)), b 79 (.fa 4 (T 10)), b0 (.st 1 (T 79) (T 78))])) (.reg [b 72 (.mv (T 11)), b 73 (.sc (.bin .add 3) [(T 72), (I 1)]), b 11 (.mv (T 73))])))))) (.seq (.reg [b 80 (.ld true 5 (T 10)), b 81 (.call 15 [(T 80)]), b 82 (.mv (T 2)), b 83 (.sc (.bin .geq 3) [(T 82), (I 1)]), b 84 (.mv (T 83)), bg 85 84 true (.mv (T 2)), bg 86 84 true (.sc (.bin .leq 3) [(T 85), (I 8)]), b 87 (.pick (T 84) (T 86) (B false)), b 88 (.mv (T 87)), bg 89 88 true (.mv (T 1)), bg 90 88 true (.sc (.bin .leq 3) [(T 89), (I 8)]), b 91 (.pick (T 88) (T 90) (B false)), b 92 (.sc (.bin .eql 4) [(T 81), (T 91)]), b 93 (.mv (T 92)), bg 94 93 true (.ld true 5 (T 9)), bg 95 93 true (.call 15 [(T 94)]), bg 96 93 true (.sc (.un .not) [(T 95)]), b 97 (.pick (T 93) (T 96) (B false)), b 98 (.mv (T 97)), bg 99 98 true (.ld true 5 (T 7)), bg 100 98 true (.call 15 [(T 99)]), bg 101 98 true (.sc (.un .not) [(T 100)]), b 102 (.pick (T 98) (T 101) (B false)), b 103 (.mv (T 102)), bg 104 103 true (.ld true 5 (T 7)), bg 105 103 true (.bs 24 5 [(T 104)]), bg 106 103 true (.bld [(.int .i64 0), (.string ⟨#[]⟩), (.int .i64 0), (.int .i64 0), (.slice none 0 0)] [(0, (1, (I 2))), (1, (1, (S [120]))), (4, (1, (T 105)))]), bg 107 103 true (.call 15 [(T 106)]), bg 108 103 true (.sc (.un .not) [(T 107)]), b 109 (.pick (T 103) (T 108) (B false)), b 6 (.mv (T 109))]) .ret)))))))))
theorem k7 : ∃ code, Tryd.prog.funcs[7]? = some Tryd.f7 ∧ Tryd.f7.body = some code ∧ comp Tryd.prog Tryd.f7.ntmps code = some c7 ∧ rvs Tryd.prog Tryd.f7.results.toList = some [(.t 6)] := ⟨_, Tryd.func7, rfl, by kernel_rfl, by kernel_rfl⟩
end Go.Proofs.YthdkjfhpbigdpaaDoor.Ev

namespace Go.Proofs.YthdkjfhpbigdpaaDoor.Pure
open Go Go.RowKit Go.Lib Go.Proofs Go.Proofs.YthdkjfhpbigdpaaDoor.Q Go.Proofs.YthdkjfhpbigdpaaDoorW.PrintWords Go.Proofs.YthdkjfhpbigdpaaDoorW.PrintLast Go.Proofs.YthdkjfhpbigdpaaDoorW.PrintMore
open HTree
set_option linter.unusedSimpArgs false
set_option linter.unusedVariables false
namespace TreeBt
theorem nA : named ⟨#[]⟩ 0 = true := by decide +kernel
theorem whole_part (x : T) : (decide (x.f0 ≠ 8) && may x) = whole x := rfl
end TreeBt
end Go.Proofs.YthdkjfhpbigdpaaDoor.Pure

namespace Go.Proofs.YthdkjfhpbigdpaaDoor.Pure
open Go Go.RowKit Go.Lib Go.Proofs Go.Proofs.YthdkjfhpbigdpaaDoor.Q Go.Proofs.YthdkjfhpbigdpaaDoorW.PrintWords Go.Proofs.YthdkjfhpbigdpaaDoorW.PrintLast Go.Proofs.YthdkjfhpbigdpaaDoorW.PrintMore
open HTree
set_option linter.unusedSimpArgs false
set_option linter.unusedVariables false
namespace TreeAl
def aV : T := ⟨1, ⟨#[120]⟩, 0, 0, []⟩
def altL (n : Nat) : T := ⟨8, ⟨#[65]⟩, n, 0, List.replicate n aV⟩
def altF (n : Nat) (b : T) : T := ⟨8, ⟨#[65]⟩, n, 0, List.replicate n aV ++ [b]⟩
def less (b : T) (n : Nat) : T := ⟨7, ⟨#[]⟩, 0, 0, [b, altL n]⟩
def cas (b : T) (n m : Nat) : T := ⟨7, ⟨#[]⟩, 0, 0, b :: List.replicate m (altF n b)⟩
def lam (b : T) (n : Nat) : T := ⟨2, ⟨#[120]⟩, 0, 0, [altF n b]⟩
theorem nA : named ⟨#[65]⟩ 2 = true := by decide +kernel
theorem nx : named ⟨#[120]⟩ 1 = true := by decide +kernel
theorem n0 : named ⟨#[]⟩ 0 = true := by decide +kernel
theorem m_V : may aV = true := by decide +kernel
theorem may_is (k : Int) (s : ByteArray) (n a : Int) (l : List T) : may ⟨k, s, n, a, l⟩ = (decide (1 ≤ k) && decide (k ≤ 10) && decide (least k ≤ (l.length : Int)) && decide ((l.length : Int) ≤ most k) && named s (what k) && number k n l.length && decide (0 ≤ a) && parts k n l 0) := by
 rw [may]
theorem p_alt (n : Nat) (b : T) (hb : whole b = true) : ∀ (j i : Nat), i + j = n → parts 8 n (List.replicate j aV ++ [b]) i = true := by
 intro j
 induction j with
 | zero =>
  intro i h
  have hi : ¬ ((i : Int) < (n : Int)) := by omega
  simp only [List.replicate_zero, List.nil_append]
  rw [parts_cons]; unfold HTree.part
  rw [if_neg (by omega), if_neg (fun h => hi h.2.1), TreeBt.whole_part, hb]
  simp [parts]
 | succ j ih =>
  intro i h
  rw [List.replicate_succ, List.cons_append, parts_cons]; unfold HTree.part
  rw [if_neg (by omega), if_neg (fun h => h.2.2 rfl), m_V]
  have := ih (i + 1) (by omega)
  rw [show ((i + 1 : Nat) : Int) = (i : Int) + 1 by omega] at this
  rw [this]; rfl
theorem f0_F (n : Nat) (b : T) : (altF n b).f0 = 8 := rfl
theorem m_F (n : Nat) (b : T) (hb : whole b = true) : may (altF n b) = decide (n ≤ 8) := by
 unfold altF
 rw [may_is, show parts 8 (n : Int) (List.replicate n aV ++ [b]) 0 = true from p_alt n b hb n 0 (by omega), show what 8 = 2 from rfl, nA]
 have e1 : ((List.replicate n aV ++ [b]).length : Int) = n + 1 := by simp
 have e2 : number 8 n (List.replicate n aV ++ [b]).length = true := by
  unfold number; rw [if_neg (by omega), if_pos rfl, e1]; simp
 rw [e1, e2, show least 8 = 1 from rfl, show most 8 = 9 from rfl]
 by_cases h : n ≤ 8
 ·rw [decide_eq_true (show (1 : Int) ≤ 8 by omega), decide_eq_true (show (8 : Int) ≤ 10 by omega), decide_eq_true (show (1 : Int) ≤ (n : Int) + 1 by omega), decide_eq_true (show (n : Int) + 1 ≤ 9 by omega), decide_eq_true h]; rfl
 ·rw [decide_eq_true (show (1 : Int) ≤ 8 by omega), decide_eq_true (show (8 : Int) ≤ 10 by omega), decide_eq_true (show (1 : Int) ≤ (n : Int) + 1 by omega), decide_eq_false (show ¬ (n : Int) + 1 ≤ 9 by omega), decide_eq_false h]; rfl
theorem w_alt (n : Nat) (b : T) : whole (altF n b) = false := by
 unfold whole; rw [f0_F]; rfl
theorem w_lam (b : T) (n : Nat) : whole (lam b n) = false := by
 unfold whole lam
 rw [may_is, parts_cons]
 unfold HTree.part
 rw [if_neg (fun h => absurd h.1 (by decide)), if_neg (fun h => absurd h.1 (by decide)), f0_F]
 simp
theorem w_less (b : T) (n : Nat) : whole (less b n) = false := by
 unfold whole less
 rw [may_is, parts_cons, parts_cons]
 have : may (altL n) = false := by
  unfold altL; rw [may_is]
  have e2 : number 8 n (List.replicate n aV).length = false := by
   unfold number; rw [if_neg (by omega), if_pos rfl, List.length_replicate]; exact decide_eq_false (by omega)
  rw [e2]; simp
 rw [show HTree.part 7 0 (altL n) (0 + 1) = false from by unfold HTree.part; rw [if_pos ⟨rfl, by decide⟩, this]; simp]
 simp
theorem p_cas (n : Nat) (b : T) (hb : whole b = true) : ∀ (m : Nat) (i : Int), 0 < i → parts 7 0 (List.replicate m (altF n b)) i = (decide (m = 0) || decide (n ≤ 8)) := by
 intro m
 induction m with
 | zero => intro i h; simp [parts]
 | succ m ih =>
  intro i h
  rw [List.replicate_succ, parts_cons, ih (i + 1) (by omega)]
  unfold HTree.part
  rw [if_pos ⟨rfl, h⟩, f0_F, m_F n b hb]
  cases m <;> simp
theorem w_cas (b : T) (n m : Nat) (hb : whole b = true) : whole (cas b n m) = (decide (1 ≤ m) && decide (m ≤ 8) && decide (n ≤ 8)) := by
 have h8 : b.f0 ≠ 8 := by
  intro h; unfold whole at hb; rw [h] at hb; simp at hb
 unfold whole cas
 rw [may_is, parts_cons, p_cas n b hb m _ (by omega), show what 7 = 0 from rfl, n0]
 unfold HTree.part
 rw [if_neg (fun h => absurd h.2 (by decide)), if_neg (fun h => absurd h.1 (by decide)), TreeBt.whole_part, hb]
 have e1 : ((b :: List.replicate m (altF n b)).length : Int) = m + 1 := by simp
 rw [e1, show least 7 = 2 from rfl, show most 7 = 9 from rfl]
 by_cases h1 : 1 ≤ m
 ·by_cases h2 : m ≤ 8
  ·rw [decide_eq_true (show (2 : Int) ≤ (m : Int) + 1 by omega), decide_eq_true (show (m : Int) + 1 ≤ 9 by omega), decide_eq_true h1, decide_eq_true h2, decide_eq_false (show ¬ m = 0 by omega)]
   simp [number]
  ·rw [decide_eq_false (show ¬ (m : Int) + 1 ≤ 9 by omega), decide_eq_false h2]; simp
 ·rw [decide_eq_false (show ¬ (2 : Int) ≤ (m : Int) + 1 by omega), decide_eq_false h1]; simp
theorem wts_app : ∀ (l r : List T), wts (l ++ r) = wts l + wts r
 | [], r => by simp [wts]
 | x :: l, r => by simp only [List.cons_append, wts]; rw [wts_app l r]; omega
theorem wts_rep (x : T) : ∀ n, wts (List.replicate n x) = n * wt x
 | 0 => by simp [wts]
 | n + 1 => by rw [List.replicate_succ, wts, wts_rep x n, Nat.succ_mul]; omega
theorem wt_V : wt aV = 2 := rfl
theorem wt_F (n : Nat) (b : T) : wt (altF n b) = 2 + (n * 2 + wt b) := by
 show (⟨#[65]⟩ : ByteArray).size + 1 + wts _ = _
 rw [wts_app, wts_rep, wt_V]; simp only [wts]; rfl
theorem wt_L (n : Nat) : wt (altL n) = 2 + n * 2 := by
 show (⟨#[65]⟩ : ByteArray).size + 1 + wts _ = _
 rw [wts_rep, wt_V]; rfl
theorem wt_cas (b : T) (n m : Nat) : wt (cas b n m) = 1 + (wt b + m * (2 + (n * 2 + wt b))) := by
 show (⟨#[]⟩ : ByteArray).size + 1 + wts _ = _
 simp only [wts]; rw [wts_rep, wt_F]; show 0 + 1 + _ = _; omega
theorem wt_less (b : T) (n : Nat) : wt (less b n) = 1 + (wt b + (2 + n * 2)) := by
 show (⟨#[]⟩ : ByteArray).size + 1 + wts _ = _
 simp only [wts]; rw [wt_L]; show 0 + 1 + (wt b + (2 + n * 2 + 0)) = _; omega
theorem wt_lam (b : T) (n : Nat) : wt (lam b n) = 2 + (2 + (n * 2 + wt b)) := by
 show (⟨#[120]⟩ : ByteArray).size + 1 + wts _ = _
 simp only [wts]; rw [wt_F]; rfl
end TreeAl
end Go.Proofs.YthdkjfhpbigdpaaDoor.Pure
