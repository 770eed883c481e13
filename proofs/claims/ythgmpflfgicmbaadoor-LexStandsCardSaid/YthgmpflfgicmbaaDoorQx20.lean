-- Written for this claim by a program of this session.
import Derived.Test.YthgmpflfgicmbaaDoorQx0
import Derived.Test.YthgmpflfgicmbaaDoorQx2
import Derived.Test.YthgmpflfgicmbaaDoorQx8
namespace Go.Proofs.YthgmpflfgicmbaaDoor.Q
open Go.RowKit Go.Proofs.YthgmpflfgicmbaaDoorW.PrintWords Go.Proofs.YthgmpflfgicmbaaDoorW.PrintLast Go.Proofs.YthgmpflfgicmbaaDoorW.PrintMore
attribute [local go_sem] max2_int min2_int max_two min_two max_three min_three max_four min_four   -- for this text's walks alone
set_option linter.unusedVariables false
set_option linter.unusedSimpArgs false

/-! ### gossamerlaw01_LexStands: function 5 -/
mutual
def gossamerlaw01_LexStands.j0 : Nat → ByteArray → Bool → Option (Bool)
  | 0, _, _ => none
  | k + 1, x0, x17 => if x17 = true then ((gossamerlaw01_fixed.f k).bind fun t217 => (some t217)) else ((lex_All.f x0).bind fun bt218 => (if bt218.2.2 = 0 then (gossamerlaw01_LexStands.l0 k x0 bt218.1 0 0) else (if 0 ≤ (mx 0 (mn bt218.2.1 (x0.size : Int))) then (if (mx 0 (mn bt218.2.1 (x0.size : Int))) ≤ (x0.size : Int) then ((lex_All.f (x0.extract 0 ((mx 0 (mn bt218.2.1 (x0.size : Int))) : Int).toNat)).bind fun bt223 => (if bt218.2.1 ≥ 0 then (if bt218.2.1 < (x0.size : Int) then (if bt223.2.2 = 0 then (if bt218.2.2 = 10 then (some true) else (some (bt218.2.2 == 11))) else (none)) else (none)) else (none))) else (none)) else (none))))
def gossamerlaw01_LexStands.l0 : Nat → ByteArray → List (S33) → Int → Int → Option (Bool)
  | 0, _, _, _, _ => none
  | k + 1, x0, x3, x9, x10 => if x10 < (x3.length : Int) then (if 0 ≤ x10 then (if ((rd_T33 x3 x10).f3) < x9 then (gossamerlaw01_LexStands.j2 k x0 x3 x9 x10 true) else (if (wrap64 (((rd_T33 x3 x10).f3) + (((rd_T33 x3 x10).f1).size : Int))) > (x0.size : Int) then (gossamerlaw01_LexStands.j2 k x0 x3 x9 x10 true) else (gossamerlaw01_LexStands.j2 k x0 x3 x9 x10 (((rd_T33 x3 x10).f1).toList == ([] : List UInt8))))) else (none)) else (gossamerlaw01_LexStands.l2 k x0 x9)
def gossamerlaw01_LexStands.j2 : Nat → ByteArray → List (S33) → Int → Int → Bool → Option (Bool)
  | 0, _, _, _, _, _ => none
  | k + 1, x0, x3, x9, x10, x96 => if x96 = true then (none) else (gossamerlaw01_LexStands.l1 k x0 x3 x9 x10)
def gossamerlaw01_LexStands.l1 : Nat → ByteArray → List (S33) → Int → Int → Option (Bool)
  | 0, _, _, _, _ => none
  | k + 1, x0, x3, x9, x10 => if 0 ≤ x10 then (if x10 < (x3.length : Int) then (if x9 < ((rd_T33 x3 x10).f3) then (if 0 ≤ x9 then (if x9 < (x0.size : Int) then (if (bt x0 x9) = 32 then (gossamerlaw01_LexStands.l1 k x0 x3 (wrap64 (x9 + 1)) x10) else (if (bt x0 x9) = 10 then (gossamerlaw01_LexStands.l1 k x0 x3 (wrap64 (x9 + 1)) x10) else (if (bt x0 x9) = 9 then (gossamerlaw01_LexStands.l1 k x0 x3 (wrap64 (x9 + 1)) x10) else (none)))) else (none)) else (none)) else (if 0 ≤ x9 then (if x9 ≤ (wrap64 (x9 + (((rd_T33 x3 x10).f1).size : Int))) then (if (wrap64 (x9 + (((rd_T33 x3 x10).f1).size : Int))) ≤ (x0.size : Int) then (if (x0.extract (x9 : Int).toNat ((wrap64 (x9 + (((rd_T33 x3 x10).f1).size : Int))) : Int).toNat).toList = ((rd_T33 x3 x10).f1).toList then (gossamerlaw01_LexStands.l0 k x0 x3 (wrap64 (x9 + (((rd_T33 x3 x10).f1).size : Int))) (wrap64 (x10 + 1))) else (none)) else (none)) else (none)) else (none))) else (none)) else (none)
def gossamerlaw01_LexStands.l2 : Nat → ByteArray → Int → Option (Bool)
  | 0, _, _ => none
  | k + 1, x0, x9 => if x9 < (x0.size : Int) then (if 0 ≤ x9 then (if (bt x0 x9) = 32 then (gossamerlaw01_LexStands.l2 k x0 (wrap64 (x9 + 1))) else (if (bt x0 x9) = 10 then (gossamerlaw01_LexStands.l2 k x0 (wrap64 (x9 + 1))) else (if (bt x0 x9) = 9 then (gossamerlaw01_LexStands.l2 k x0 (wrap64 (x9 + 1))) else (none)))) else (none)) else (some true)
end
def gossamerlaw01_LexStands.f (k : Nat) (a0 : ByteArray) : Option (Bool) := (gossamerlaw01_fixed.f k).bind fun t216 => (if t216 = true then (gossamerlaw01_LexStands.j0 k a0 (decide ((a0.size : Int) > 2000))) else (gossamerlaw01_LexStands.j0 k a0 true))
theorem gossamerlaw01_LexStands.mono_l : ∀ k, (∀ y0 y1, LeO (gossamerlaw01_LexStands.j0 k y0 y1) (gossamerlaw01_LexStands.j0 (k + 1) y0 y1)) ∧ (∀ y0 y1 y2 y3, LeO (gossamerlaw01_LexStands.l0 k y0 y1 y2 y3) (gossamerlaw01_LexStands.l0 (k + 1) y0 y1 y2 y3)) ∧ (∀ y0 y1 y2 y3 y4, LeO (gossamerlaw01_LexStands.j2 k y0 y1 y2 y3 y4) (gossamerlaw01_LexStands.j2 (k + 1) y0 y1 y2 y3 y4)) ∧ (∀ y0 y1 y2 y3, LeO (gossamerlaw01_LexStands.l1 k y0 y1 y2 y3) (gossamerlaw01_LexStands.l1 (k + 1) y0 y1 y2 y3)) ∧ (∀ y0 y1, LeO (gossamerlaw01_LexStands.l2 k y0 y1) (gossamerlaw01_LexStands.l2 (k + 1) y0 y1))
  | 0 => ⟨fun _ _ r h => by simp [gossamerlaw01_LexStands.j0] at h, fun _ _ _ _ r h => by simp [gossamerlaw01_LexStands.l0] at h, fun _ _ _ _ _ r h => by simp [gossamerlaw01_LexStands.j2] at h, fun _ _ _ _ r h => by simp [gossamerlaw01_LexStands.l1] at h, fun _ _ r h => by simp [gossamerlaw01_LexStands.l2] at h⟩
  | k + 1 => by
    obtain ⟨ih0, ih1, ih2, ih3, ih4⟩ := gossamerlaw01_LexStands.mono_l k
    refine ⟨?_, ?_, ?_, ?_, ?_⟩
    · intro y0 y1
      unfold gossamerlaw01_LexStands.j0
      repeat' first
      | (with_reducible exact ih0 _ _)
      | (with_reducible exact ih1 _ _ _ _)
      | (with_reducible exact ih2 _ _ _ _ _)
      | (with_reducible exact ih3 _ _ _ _)
      | (with_reducible exact ih4 _ _)
      | (with_reducible exact gossamerlaw01_fixed.mono _)
      | (with_reducible exact LeO.refl _)
      | (with_reducible exact LeO.none _)
      | (with_reducible refine LeO.ite ?_ ?_)
      | (with_reducible refine LeO.bind ?_ (fun _ => ?_))
      | exact ih0 _ _
      | exact ih1 _ _ _ _
      | exact ih2 _ _ _ _ _
      | exact ih3 _ _ _ _
      | exact ih4 _ _
      | exact gossamerlaw01_fixed.mono _
      | exact LeO.none _
      | refine LeO.ite ?_ ?_
      | refine LeO.bind ?_ (fun _ => ?_)
    · intro y0 y1 y2 y3
      unfold gossamerlaw01_LexStands.l0
      repeat' first
      | (with_reducible exact ih0 _ _)
      | (with_reducible exact ih1 _ _ _ _)
      | (with_reducible exact ih2 _ _ _ _ _)
      | (with_reducible exact ih3 _ _ _ _)
      | (with_reducible exact ih4 _ _)
      | (with_reducible exact gossamerlaw01_fixed.mono _)
      | (with_reducible exact LeO.refl _)
      | (with_reducible exact LeO.none _)
      | (with_reducible refine LeO.ite ?_ ?_)
      | (with_reducible refine LeO.bind ?_ (fun _ => ?_))
      | exact ih0 _ _
      | exact ih1 _ _ _ _
      | exact ih2 _ _ _ _ _
      | exact ih3 _ _ _ _
      | exact ih4 _ _
      | exact gossamerlaw01_fixed.mono _
      | exact LeO.none _
      | refine LeO.ite ?_ ?_
      | refine LeO.bind ?_ (fun _ => ?_)
    · intro y0 y1 y2 y3 y4
      unfold gossamerlaw01_LexStands.j2
      repeat' first
      | (with_reducible exact ih0 _ _)
      | (with_reducible exact ih1 _ _ _ _)
      | (with_reducible exact ih2 _ _ _ _ _)
      | (with_reducible exact ih3 _ _ _ _)
      | (with_reducible exact ih4 _ _)
      | (with_reducible exact gossamerlaw01_fixed.mono _)
      | (with_reducible exact LeO.refl _)
      | (with_reducible exact LeO.none _)
      | (with_reducible refine LeO.ite ?_ ?_)
      | (with_reducible refine LeO.bind ?_ (fun _ => ?_))
      | exact ih0 _ _
      | exact ih1 _ _ _ _
      | exact ih2 _ _ _ _ _
      | exact ih3 _ _ _ _
      | exact ih4 _ _
      | exact gossamerlaw01_fixed.mono _
      | exact LeO.none _
      | refine LeO.ite ?_ ?_
      | refine LeO.bind ?_ (fun _ => ?_)
    · intro y0 y1 y2 y3
      unfold gossamerlaw01_LexStands.l1
      repeat' first
      | (with_reducible exact ih0 _ _)
      | (with_reducible exact ih1 _ _ _ _)
      | (with_reducible exact ih2 _ _ _ _ _)
      | (with_reducible exact ih3 _ _ _ _)
      | (with_reducible exact ih4 _ _)
      | (with_reducible exact gossamerlaw01_fixed.mono _)
      | (with_reducible exact LeO.refl _)
      | (with_reducible exact LeO.none _)
      | (with_reducible refine LeO.ite ?_ ?_)
      | (with_reducible refine LeO.bind ?_ (fun _ => ?_))
      | exact ih0 _ _
      | exact ih1 _ _ _ _
      | exact ih2 _ _ _ _ _
      | exact ih3 _ _ _ _
      | exact ih4 _ _
      | exact gossamerlaw01_fixed.mono _
      | exact LeO.none _
      | refine LeO.ite ?_ ?_
      | refine LeO.bind ?_ (fun _ => ?_)
    · intro y0 y1
      unfold gossamerlaw01_LexStands.l2
      repeat' first
      | (with_reducible exact ih0 _ _)
      | (with_reducible exact ih1 _ _ _ _)
      | (with_reducible exact ih2 _ _ _ _ _)
      | (with_reducible exact ih3 _ _ _ _)
      | (with_reducible exact ih4 _ _)
      | (with_reducible exact gossamerlaw01_fixed.mono _)
      | (with_reducible exact LeO.refl _)
      | (with_reducible exact LeO.none _)
      | (with_reducible refine LeO.ite ?_ ?_)
      | (with_reducible refine LeO.bind ?_ (fun _ => ?_))
      | exact ih0 _ _
      | exact ih1 _ _ _ _
      | exact ih2 _ _ _ _ _
      | exact ih3 _ _ _ _
      | exact ih4 _ _
      | exact gossamerlaw01_fixed.mono _
      | exact LeO.none _
      | refine LeO.ite ?_ ?_
      | refine LeO.bind ?_ (fun _ => ?_)
theorem gossamerlaw01_LexStands.mono : ∀ a0 k, LeO (gossamerlaw01_LexStands.f k a0) (gossamerlaw01_LexStands.f (k + 1) a0) := by
  intro a0 k
  obtain ⟨ih0, ih1, ih2, ih3, ih4⟩ := gossamerlaw01_LexStands.mono_l k
  unfold gossamerlaw01_LexStands.f
  repeat' first
      | (with_reducible exact ih0 _ _)
      | (with_reducible exact ih1 _ _ _ _)
      | (with_reducible exact ih2 _ _ _ _ _)
      | (with_reducible exact ih3 _ _ _ _)
      | (with_reducible exact ih4 _ _)
      | (with_reducible exact gossamerlaw01_fixed.mono _)
      | (with_reducible exact LeO.refl _)
      | (with_reducible exact LeO.none _)
      | (with_reducible refine LeO.ite ?_ ?_)
      | (with_reducible refine LeO.bind ?_ (fun _ => ?_))
      | exact ih0 _ _
      | exact ih1 _ _ _ _
      | exact ih2 _ _ _ _ _
      | exact ih3 _ _ _ _
      | exact ih4 _ _
      | exact gossamerlaw01_fixed.mono _
      | exact LeO.none _
      | refine LeO.ite ?_ ?_
      | refine LeO.bind ?_ (fun _ => ?_)
set_option maxHeartbeats 8000000 in
set_option maxRecDepth 100000 in
theorem gossamerlaw01_LexStands.calls (k : Nat) (a0 : ByteArray) (r : Bool) (w : World) (h : gossamerlaw01_LexStands.f k a0 = some r) :
    Calls Tryd.prog 5 #[.string a0] w fun e w' => e = .returned (.bool r) ∧ Below w.heap.size w w' := by
  have HB := Aside0.mk (Below.refl w.heap.size w)
  have H : ((gossamerlaw01_fixed.f k).bind fun t216 => (if t216 = true then (gossamerlaw01_LexStands.j0 k a0 (decide ((a0.size : Int) > 2000))) else (gossamerlaw01_LexStands.j0 k a0 true))) = some r := h
  clear h
  have HC2 := Aside0.mk H
  clear H
  go_enter Tryd.func5, Tryd.ntmps5
  go_upto_region 1 with (fail)
  repeat (go_quiet (fail); go_upto_region 1 with (fail))
  go_cut [17] (fun v17 wc => ∃ (kq : Nat) (x17_1 : Bool), v17 = .bool x17_1 ∧ Aside0 (gossamerlaw01_LexStands.j0 kq a0 x17_1 = some r) ∧ Aside0 (kq ≤ k) ∧ Aside0 (Below w.heap.size w wc))
  case first =>
    have H := HC2.out
    clear HC2
    replace H := Option.bind_eq_some_iff.mp H
    obtain ⟨t216, A30, H⟩ := H
    replace H : (if t216 = true then (gossamerlaw01_LexStands.j0 k a0 (decide ((a0.size : Int) > 2000))) else (gossamerlaw01_LexStands.j0 k a0 true)) = some r := H
    have A3 := Aside0.mk A30
    clear A30
    by_cases c4 : t216 = true
    · subst c4
      have H1 : (gossamerlaw01_LexStands.j0 k a0 (decide ((a0.size : Int) > 2000))) = some r := by rw [if_pos rfl] at H; exact H
      clear H
      have H := H1
      clear H1
      have H' := Aside0.mk H
      clear H
      go_wp2_with (first | (go_at_call 9; (with_reducible refine (gossamerlaw01_fixed.calls k  true _ A3.out).mono ?_); rintro e w5 ⟨rfl, hb⟩; have n0_ := Aside0.mk (below_step (by repeat (first | (with_reducible first | exact HB.out | apply below_alloc | apply pw_below_drewN | apply below_drew1) | exact HB.out)) hb); clear HB; have HB := n0_; clear n0_; (try clear hb); (try clear hb2); (try clear hk); (try clear hi)))
      repeat (go_quiet (first | (go_at_call 9; (with_reducible refine (gossamerlaw01_fixed.calls k  true _ A3.out).mono ?_); rintro e w5 ⟨rfl, hb⟩; have n0_ := Aside0.mk (below_step (by repeat (first | (with_reducible first | exact HB.out | apply below_alloc | apply pw_below_drewN | apply below_drew1) | exact HB.out)) hb); clear HB; have HB := n0_; clear n0_; (try clear hb); (try clear hb2); (try clear hk); (try clear hi))); try go_wp2_with (first | (go_at_call 9; (with_reducible refine (gossamerlaw01_fixed.calls k  true _ A3.out).mono ?_); rintro e w5 ⟨rfl, hb⟩; have n0_ := Aside0.mk (below_step (by repeat (first | (with_reducible first | exact HB.out | apply below_alloc | apply pw_below_drewN | apply below_drew1) | exact HB.out)) hb); clear HB; have HB := n0_; clear n0_; (try clear hb); (try clear hb2); (try clear hk); (try clear hi))))
      go_meet
      case rel => exact ⟨_, (decide ((a0.size : Int) > 2000)), (by first | rfl | (simp; done) | (simp [*]; done)), H', ⟨by first | omega | exact Nat.le_refl _⟩, ⟨by repeat (first | (with_reducible first | exact HB.out | apply below_alloc | apply pw_below_drewN | apply below_drew1) | exact HB.out)⟩⟩
    · replace c4 := Bool.eq_false_iff.mpr c4
      subst c4
      have H1 : (gossamerlaw01_LexStands.j0 k a0 true) = some r := by rw [if_neg (show ¬ (false = true) by decide)] at H; exact H
      clear H
      have H := H1
      clear H1
      have H' := Aside0.mk H
      clear H
      go_wp2_with (first | (go_at_call 9; (with_reducible refine (gossamerlaw01_fixed.calls k  false _ A3.out).mono ?_); rintro e w6 ⟨rfl, hb⟩; have n0_ := Aside0.mk (below_step (by repeat (first | (with_reducible first | exact HB.out | apply below_alloc | apply pw_below_drewN | apply below_drew1) | exact HB.out)) hb); clear HB; have HB := n0_; clear n0_; (try clear hb); (try clear hb2); (try clear hk); (try clear hi)))
      repeat (go_quiet (first | (go_at_call 9; (with_reducible refine (gossamerlaw01_fixed.calls k  false _ A3.out).mono ?_); rintro e w6 ⟨rfl, hb⟩; have n0_ := Aside0.mk (below_step (by repeat (first | (with_reducible first | exact HB.out | apply below_alloc | apply pw_below_drewN | apply below_drew1) | exact HB.out)) hb); clear HB; have HB := n0_; clear n0_; (try clear hb); (try clear hb2); (try clear hk); (try clear hi))); try go_wp2_with (first | (go_at_call 9; (with_reducible refine (gossamerlaw01_fixed.calls k  false _ A3.out).mono ?_); rintro e w6 ⟨rfl, hb⟩; have n0_ := Aside0.mk (below_step (by repeat (first | (with_reducible first | exact HB.out | apply below_alloc | apply pw_below_drewN | apply below_drew1) | exact HB.out)) hb); clear HB; have HB := n0_; clear n0_; (try clear hb); (try clear hb2); (try clear hk); (try clear hi))))
      go_meet
      case rel => exact ⟨_, (true), (by first | rfl | (simp; done) | (simp [*]; done)), H', ⟨by first | omega | exact Nat.le_refl _⟩, ⟨by repeat (first | (with_reducible first | exact HB.out | apply below_alloc | apply pw_below_drewN | apply below_drew1) | exact HB.out)⟩⟩
  case rest =>
    clear HC2
    try clear p2
    try clear c4
    try clear c5
    obtain ⟨kq, x17_1, rfl, HA, HJ1, HB⟩ := hcut
    cases kq with
    | zero => exact absurd HA.out (by simp [gossamerlaw01_LexStands.j0])
    | succ kj1 =>
      have H := HA.out
      clear HA
      simp only [gossamerlaw01_LexStands.j0] at H
      by_cases c7 : x17_1 = true
      · subst c7
        have H1 : ((gossamerlaw01_fixed.f kj1).bind fun t217 => (some t217)) = some r := by rw [if_pos rfl] at H; exact H
        clear H
        have H := H1
        clear H1
        replace H := Option.bind_eq_some_iff.mp H
        obtain ⟨t217, A80, H⟩ := H
        replace H : (some t217) = some r := H
        have A8 := Aside0.mk A80
        clear A80
        obtain rfl := Option.some.inj H
        go_wp2_with (first | (go_at_call 9; (with_reducible refine (gossamerlaw01_fixed.calls kj1  t217 _ A8.out).mono ?_); rintro e w9 ⟨rfl, hb⟩; have n0_ := Aside0.mk (below_step (by repeat (first | (with_reducible first | exact HB.out | apply below_alloc | apply pw_below_drewN | apply below_drew1) | exact HB.out)) hb); clear HB; have HB := n0_; clear n0_; (try clear hb); (try clear hb2); (try clear hk); (try clear hi)))
        repeat (go_quiet (first | (go_at_call 9; (with_reducible refine (gossamerlaw01_fixed.calls kj1  t217 _ A8.out).mono ?_); rintro e w9 ⟨rfl, hb⟩; have n0_ := Aside0.mk (below_step (by repeat (first | (with_reducible first | exact HB.out | apply below_alloc | apply pw_below_drewN | apply below_drew1) | exact HB.out)) hb); clear HB; have HB := n0_; clear n0_; (try clear hb); (try clear hb2); (try clear hk); (try clear hi))); try go_wp2_with (first | (go_at_call 9; (with_reducible refine (gossamerlaw01_fixed.calls kj1  t217 _ A8.out).mono ?_); rintro e w9 ⟨rfl, hb⟩; have n0_ := Aside0.mk (below_step (by repeat (first | (with_reducible first | exact HB.out | apply below_alloc | apply pw_below_drewN | apply below_drew1) | exact HB.out)) hb); clear HB; have HB := n0_; clear n0_; (try clear hb); (try clear hb2); (try clear hk); (try clear hi))))
        go_ret
        exact ⟨by first | rfl | (simp [errW_none, errW_some] <;> rfl) | (simp [*, errW_none, errW_some] <;> rfl), by repeat (first | (with_reducible first | exact HB.out | apply below_alloc | apply pw_below_drewN | apply below_drew1) | exact HB.out)⟩
      · replace c7 := Bool.eq_false_iff.mpr c7
        subst c7
        have H1 : ((lex_All.f a0).bind fun bt218 => (if bt218.2.2 = 0 then (gossamerlaw01_LexStands.l0 kj1 a0 bt218.1 0 0) else (if 0 ≤ (mx 0 (mn bt218.2.1 (a0.size : Int))) then (if (mx 0 (mn bt218.2.1 (a0.size : Int))) ≤ (a0.size : Int) then ((lex_All.f (a0.extract 0 ((mx 0 (mn bt218.2.1 (a0.size : Int))) : Int).toNat)).bind fun bt223 => (if bt218.2.1 ≥ 0 then (if bt218.2.1 < (a0.size : Int) then (if bt223.2.2 = 0 then (if bt218.2.2 = 10 then (some true) else (some (bt218.2.2 == 11))) else (none)) else (none)) else (none))) else (none)) else (none)))) = some r := by rw [if_neg (show ¬ (false = true) by decide)] at H; exact H
        clear H
        have H := H1
        clear H1
        replace H := Option.bind_eq_some_iff.mp H
        obtain ⟨⟨t218, t219, t220⟩, A100, H⟩ := H
        replace H : (if t220 = 0 then (gossamerlaw01_LexStands.l0 kj1 a0 t218 0 0) else (if 0 ≤ (mx 0 (mn t219 (a0.size : Int))) then (if (mx 0 (mn t219 (a0.size : Int))) ≤ (a0.size : Int) then ((lex_All.f (a0.extract 0 ((mx 0 (mn t219 (a0.size : Int))) : Int).toNat)).bind fun bt223 => (if t219 ≥ 0 then (if t219 < (a0.size : Int) then (if bt223.2.2 = 0 then (if t220 = 10 then (some true) else (some (t220 == 11))) else (none)) else (none)) else (none))) else (none)) else (none))) = some r := H
        have A10 := Aside0.mk A100
        clear A100
        by_cases c11 : t220 = 0
        · rw [if_pos c11] at H
          have c11b0 : (t220 == 0) = true := beq_iff_eq.mpr c11
          have c11b1 : (t220 != 0) = false := bne_eq_false_iff_eq.mpr c11
          clear c11
          have H' := Aside0.mk H
          clear H
          go_wp2_with (first | (go_at_call 10; (with_reducible refine (lex_All.calls a0 t218 t219 t220 _ A10.out).mono ?_); rintro e w12 ⟨v221, rfl, ho0, hb⟩; have n0_ := Aside0.mk (Kd.R_lower ho0 (below_size (by repeat (first | (with_reducible first | exact HB.out | apply below_alloc | apply pw_below_drewN | apply below_drew1) | exact HB.out)))); have n1_ := Aside0.mk (below_step (by repeat (first | (with_reducible first | exact HB.out | apply below_alloc | apply pw_below_drewN | apply below_drew1) | exact HB.out)) hb); clear HB; have HO222 := n0_; have HB := n1_; clear n0_ n1_; (try clear hb); (try clear hb2); (try clear hk); (try clear hi); (try clear ho0)))
          repeat (go_quiet (first | (go_at_call 10; (with_reducible refine (lex_All.calls a0 t218 t219 t220 _ A10.out).mono ?_); rintro e w12 ⟨v221, rfl, ho0, hb⟩; have n0_ := Aside0.mk (Kd.R_lower ho0 (below_size (by repeat (first | (with_reducible first | exact HB.out | apply below_alloc | apply pw_below_drewN | apply below_drew1) | exact HB.out)))); have n1_ := Aside0.mk (below_step (by repeat (first | (with_reducible first | exact HB.out | apply below_alloc | apply pw_below_drewN | apply below_drew1) | exact HB.out)) hb); clear HB; have HO222 := n0_; have HB := n1_; clear n0_ n1_; (try clear hb); (try clear hb2); (try clear hk); (try clear hi); (try clear ho0))); try go_wp2_with (first | (go_at_call 10; (with_reducible refine (lex_All.calls a0 t218 t219 t220 _ A10.out).mono ?_); rintro e w12 ⟨v221, rfl, ho0, hb⟩; have n0_ := Aside0.mk (Kd.R_lower ho0 (below_size (by repeat (first | (with_reducible first | exact HB.out | apply below_alloc | apply pw_below_drewN | apply below_drew1) | exact HB.out)))); have n1_ := Aside0.mk (below_step (by repeat (first | (with_reducible first | exact HB.out | apply below_alloc | apply pw_below_drewN | apply below_drew1) | exact HB.out)) hb); clear HB; have HO222 := n0_; have HB := n1_; clear n0_ n1_; (try clear hb); (try clear hb2); (try clear hk); (try clear hi); (try clear ho0))))
          go_loopg [9, 10] kj1 (fun kq v9 v10 w' => ∃ (x9_2 : Int) (x10_2 : Int), v9 = .int .i64 x9_2 ∧ v10 = .int .i64 x10_2 ∧ Aside0 (gossamerlaw01_LexStands.l0 kq a0 t218 x9_2 x10_2 = some r) ∧ Aside0 (kq ≤ kj1) ∧ Aside0 (Kd.R k33 33 w' w.heap.size (fun _ => True) v221 t218) ∧ Aside0 (Below w.heap.size w w'))
          case atStart => exact ⟨(0), (0), (by first | rfl | (simp; done) | (simp [*]; done)), (by first | rfl | (simp; done) | (simp [*]; done)), H', ⟨Nat.le_refl _⟩, ⟨by (with_reducible repeat (first | apply Kd.R_alloc | apply Kd.R_drewN | apply Kd.R_drew)); exact HO222.out⟩, ⟨by repeat (first | (with_reducible first | exact HB.out | apply below_alloc | apply pw_below_drewN | apply below_drew1) | exact HB.out)⟩⟩
          case round =>
            clear H'
            try clear c1
            try clear p2
            try clear c4
            try clear c5
            try clear c7
            try clear c11
            try clear c11b0
            try clear c11b1
            try clear p2
            obtain ⟨x9_2, x10_2, rfl, rfl, HA, HK2, HO_3, HB⟩ := hrel
            cases gk with
            | zero => exact absurd HA.out (by simp [gossamerlaw01_LexStands.l0])
            | succ k2 =>
              have H := HA.out
              clear HA
              simp only [gossamerlaw01_LexStands.l0] at H
              by_cases c13 : x10_2 < (t218.length : Int)
              · rw [if_pos c13] at H
                have c13b0 : decide (x10_2 < (t218.length : Int)) = true := decide_eq_true c13
                clear c13
                have HC14 := Aside0.mk H
                clear H
                obtain ⟨Ao15, co15, eo15⟩ := Kd.R_slice HO_3.out
                subst eo15
                go_upto_region 11 with (fail)
                repeat (go_quiet (fail); go_upto_region 11 with (fail))
                go_cut [96] (fun v96 wc => ∃ (kq : Nat) (x96_13 : Bool), v96 = .bool x96_13 ∧ Aside0 (gossamerlaw01_LexStands.j2 kq a0 t218 x9_2 x10_2 x96_13 = some r) ∧ Aside0 (kq ≤ k2) ∧ Aside0 (Kd.R k33 33 wc w.heap.size (fun _ => True) (.slice Ao15 t218.length co15) t218) ∧ Aside0 (Below w.heap.size w wc))
                case first =>
                  have H := HC14.out
                  clear HC14
                  by_cases c16 : 0 ≤ x10_2
                  · rw [if_pos c16] at H
                    have c16b0 : decide (0 ≤ x10_2) = true := decide_eq_true c16
                    clear c16
                    (first | rw [c16b0] | (simp only [i64_w, i32_w]; rw [c16b0]) | skip)
                    by_cases c17 : ((rd_T33 t218 x10_2).f3) < x9_2
                    · rw [if_pos c17] at H
                      have c17b0 : decide (((rd_T33 t218 x10_2).f3) < x9_2) = true := decide_eq_true c17
                      clear c17
                      have H' := Aside0.mk H
                      clear H
                      have p228 : 0 ≤ (x10_2 : Int) := of_decide_eq_true (by first | (with_reducible assumption) | assumption)
                      have q228 : x10_2 < (t218.length : Int) := of_decide_eq_true (by first | (with_reducible assumption) | assumption)
                      obtain ⟨ad228, e228, hx228_0, hx228_1, hx228_2, hx228_3⟩ := at_T33 (Kd.R_reads' HO_3.out).2.2 x10_2 p228 q228
                      cases e228
                      replace p228 := eq_true p228
                      replace q228 := eq_true q228
                      go_wp2
                      repeat (go_quiet (fail); try go_wp2)
                      go_meet
                      case rel => exact ⟨_, (true), (by first | rfl | (simp; done) | (simp [*]; done)), H', ⟨by have := HJ1.out; have := HK2.out; first | omega | exact Nat.le_refl _⟩, ⟨by (with_reducible repeat (first | apply Kd.R_alloc | apply Kd.R_drewN | apply Kd.R_drew)); exact HO_3.out⟩, ⟨by repeat (first | (with_reducible first | exact HB.out | apply below_alloc | apply pw_below_drewN | apply below_drew1) | exact HB.out)⟩⟩
                    · rw [if_neg c17] at H
                      have c17b0 : decide (((rd_T33 t218 x10_2).f3) < x9_2) = false := decide_eq_false c17
                      clear c17
                      by_cases c18 : (wrap64 (((rd_T33 t218 x10_2).f3) + (((rd_T33 t218 x10_2).f1).size : Int))) > (a0.size : Int)
                      · rw [if_pos c18] at H
                        have c18b0 : decide ((a0.size : Int) < (wrap64 (((rd_T33 t218 x10_2).f3) + (((rd_T33 t218 x10_2).f1).size : Int)))) = true := decide_eq_true c18
                        clear c18
                        have H' := Aside0.mk H
                        clear H
                        have p228 : 0 ≤ (x10_2 : Int) := of_decide_eq_true (by first | (with_reducible assumption) | assumption)
                        have q228 : x10_2 < (t218.length : Int) := of_decide_eq_true (by first | (with_reducible assumption) | assumption)
                        obtain ⟨ad228, e228, hx228_0, hx228_1, hx228_2, hx228_3⟩ := at_T33 (Kd.R_reads' HO_3.out).2.2 x10_2 p228 q228
                        cases e228
                        replace p228 := eq_true p228
                        replace q228 := eq_true q228
                        have p229 : 0 ≤ (x10_2 : Int) := of_decide_eq_true (by first | (with_reducible assumption) | assumption)
                        have q229 : x10_2 < (t218.length : Int) := of_decide_eq_true (by first | (with_reducible assumption) | assumption)
                        obtain ⟨ad229, e229, hx229_0, hx229_1, hx229_2, hx229_3⟩ := at_T33 (Kd.R_reads' HO_3.out).2.2 x10_2 p229 q229
                        obtain rfl : ad228 = ad229 := (by injection e229)
                        replace p229 := eq_true p229
                        replace q229 := eq_true q229
                        have p230 : 0 ≤ (x10_2 : Int) := of_decide_eq_true (by first | (with_reducible assumption) | assumption)
                        have q230 : x10_2 < (t218.length : Int) := of_decide_eq_true (by first | (with_reducible assumption) | assumption)
                        obtain ⟨ad230, e230, hx230_0, hx230_1, hx230_2, hx230_3⟩ := at_T33 (Kd.R_reads' HO_3.out).2.2 x10_2 p230 q230
                        obtain rfl : ad228 = ad230 := (by injection e230)
                        replace p230 := eq_true p230
                        replace q230 := eq_true q230
                        go_wp2
                        repeat (go_quiet (fail); try go_wp2)
                        go_meet
                        case rel => exact ⟨_, (true), (by first | rfl | (simp; done) | (simp [*]; done)), H', ⟨by have := HJ1.out; have := HK2.out; first | omega | exact Nat.le_refl _⟩, ⟨by (with_reducible repeat (first | apply Kd.R_alloc | apply Kd.R_drewN | apply Kd.R_drew)); exact HO_3.out⟩, ⟨by repeat (first | (with_reducible first | exact HB.out | apply below_alloc | apply pw_below_drewN | apply below_drew1) | exact HB.out)⟩⟩
                      · rw [if_neg c18] at H
                        have c18b0 : decide ((a0.size : Int) < (wrap64 (((rd_T33 t218 x10_2).f3) + (((rd_T33 t218 x10_2).f1).size : Int)))) = false := decide_eq_false c18
                        clear c18
                        have H' := Aside0.mk H
                        clear H
                        have p228 : 0 ≤ (x10_2 : Int) := of_decide_eq_true (by first | (with_reducible assumption) | assumption)
                        have q228 : x10_2 < (t218.length : Int) := of_decide_eq_true (by first | (with_reducible assumption) | assumption)
                        obtain ⟨ad228, e228, hx228_0, hx228_1, hx228_2, hx228_3⟩ := at_T33 (Kd.R_reads' HO_3.out).2.2 x10_2 p228 q228
                        cases e228
                        replace p228 := eq_true p228
                        replace q228 := eq_true q228
                        have p229 : 0 ≤ (x10_2 : Int) := of_decide_eq_true (by first | (with_reducible assumption) | assumption)
                        have q229 : x10_2 < (t218.length : Int) := of_decide_eq_true (by first | (with_reducible assumption) | assumption)
                        obtain ⟨ad229, e229, hx229_0, hx229_1, hx229_2, hx229_3⟩ := at_T33 (Kd.R_reads' HO_3.out).2.2 x10_2 p229 q229
                        obtain rfl : ad228 = ad229 := (by injection e229)
                        replace p229 := eq_true p229
                        replace q229 := eq_true q229
                        have p230 : 0 ≤ (x10_2 : Int) := of_decide_eq_true (by first | (with_reducible assumption) | assumption)
                        have q230 : x10_2 < (t218.length : Int) := of_decide_eq_true (by first | (with_reducible assumption) | assumption)
                        obtain ⟨ad230, e230, hx230_0, hx230_1, hx230_2, hx230_3⟩ := at_T33 (Kd.R_reads' HO_3.out).2.2 x10_2 p230 q230
                        obtain rfl : ad228 = ad230 := (by injection e230)
                        replace p230 := eq_true p230
                        replace q230 := eq_true q230
                        have p231 : 0 ≤ (x10_2 : Int) := of_decide_eq_true (by first | (with_reducible assumption) | assumption)
                        have q231 : x10_2 < (t218.length : Int) := of_decide_eq_true (by first | (with_reducible assumption) | assumption)
                        obtain ⟨ad231, e231, hx231_0, hx231_1, hx231_2, hx231_3⟩ := at_T33 (Kd.R_reads' HO_3.out).2.2 x10_2 p231 q231
                        obtain rfl : ad228 = ad231 := (by injection e231)
                        replace p231 := eq_true p231
                        replace q231 := eq_true q231
                        go_wp2
                        repeat (go_quiet (fail); try go_wp2)
                        go_meet
                        case rel => exact ⟨_, ((((rd_T33 t218 x10_2).f1).toList == ([] : List UInt8))), (by first | rfl | (simp; done) | (simp [*]; done)), H', ⟨by have := HJ1.out; have := HK2.out; first | omega | exact Nat.le_refl _⟩, ⟨by (with_reducible repeat (first | apply Kd.R_alloc | apply Kd.R_drewN | apply Kd.R_drew)); exact HO_3.out⟩, ⟨by repeat (first | (with_reducible first | exact HB.out | apply below_alloc | apply pw_below_drewN | apply below_drew1) | exact HB.out)⟩⟩
                  · rw [if_neg c16] at H
                    exact absurd H (by simp)
                case rest =>
                  clear HC14
                  try clear c1
                  try clear p2
                  try clear q2
                  try clear hx2
                  try clear c4
                  try clear c5
                  try clear p6
                  try clear c7
                  try clear c11
                  try clear c11b0
                  try clear c11b1
                  try clear c13
                  try clear c13b0
                  try clear c16
                  try clear c16b0
                  try clear c17
                  try clear c17b0
                  try clear c18
                  try clear c18b0
                  try clear hx228_0
                  try clear hx228_1
                  try clear hx228_2
                  try clear hx228_3
                  try clear hx229_0
                  try clear hx229_1
                  try clear hx229_2
                  try clear hx229_3
                  try clear hx230_0
                  try clear hx230_1
                  try clear hx230_2
                  try clear hx230_3
                  try clear hx231_0
                  try clear hx231_1
                  try clear hx231_2
                  try clear hx231_3
                  try clear p2
                  try clear p228
                  try clear p229
                  try clear p230
                  try clear p231
                  try clear q228
                  try clear q229
                  try clear q230
                  try clear q231
                  obtain ⟨kq, x96_13, rfl, HA, HJ13, HO_3, HB⟩ := hcut
                  cases kq with
                  | zero => exact absurd HA.out (by simp [gossamerlaw01_LexStands.j2])
                  | succ kj13 =>
                    have H := HA.out
                    clear HA
                    simp only [gossamerlaw01_LexStands.j2] at H
                    by_cases c19 : x96_13 = true
                    · subst c19
                      have H1 : (none) = some r := by rw [if_pos rfl] at H; exact H
                      clear H
                      have H := H1
                      clear H1
                      exact absurd H (by simp)
                    · replace c19 := Bool.eq_false_iff.mpr c19
                      subst c19
                      have H1 : (gossamerlaw01_LexStands.l1 kj13 a0 t218 x9_2 x10_2) = some r := by rw [if_neg (show ¬ (false = true) by decide)] at H; exact H
                      clear H
                      have H := H1
                      clear H1
                      have H' := Aside0.mk H
                      clear H
                      go_wp2
                      repeat (go_quiet (fail); try go_wp2)
                      go_loopg [9] kj13 (fun kq v9 w' => ∃ (x9_4 : Int), v9 = .int .i64 x9_4 ∧ Aside0 (gossamerlaw01_LexStands.l1 kq a0 t218 x9_4 x10_2 = some r) ∧ Aside0 (kq ≤ kj13) ∧ Aside0 (Kd.R k33 33 w' w.heap.size (fun _ => True) (.slice Ao15 t218.length co15) t218) ∧ Aside0 (Below w.heap.size w w'))
                      case atStart => exact ⟨(x9_2), (by first | rfl | (simp; done) | (simp [*]; done)), H', ⟨Nat.le_refl _⟩, ⟨by (with_reducible repeat (first | apply Kd.R_alloc | apply Kd.R_drewN | apply Kd.R_drew)); exact HO_3.out⟩, ⟨by repeat (first | (with_reducible first | exact HB.out | apply below_alloc | apply pw_below_drewN | apply below_drew1) | exact HB.out)⟩⟩
                      case round =>
                        clear H'
                        try clear c1
                        try clear p2
                        try clear q2
                        try clear hx2
                        try clear c4
                        try clear c5
                        try clear p6
                        try clear c7
                        try clear c11
                        try clear c11b0
                        try clear c11b1
                        try clear c13
                        try clear c13b0
                        try clear c16
                        try clear c16b0
                        try clear c17
                        try clear c17b0
                        try clear c18
                        try clear c18b0
                        try clear c19
                        try clear hx228_0
                        try clear hx228_1
                        try clear hx228_2
                        try clear hx228_3
                        try clear hx229_0
                        try clear hx229_1
                        try clear hx229_2
                        try clear hx229_3
                        try clear hx230_0
                        try clear hx230_1
                        try clear hx230_2
                        try clear hx230_3
                        try clear hx231_0
                        try clear hx231_1
                        try clear hx231_2
                        try clear hx231_3
                        try clear p2
                        try clear p228
                        try clear p229
                        try clear p230
                        try clear p231
                        try clear p6
                        try clear q2
                        try clear q228
                        try clear q229
                        try clear q230
                        try clear q231
                        obtain ⟨x9_4, rfl, HA, HK4, HO_3, HB⟩ := hrel
                        cases gk with
                        | zero => exact absurd HA.out (by simp [gossamerlaw01_LexStands.l1])
                        | succ k4 =>
                          have H := HA.out
                          clear HA
                          simp only [gossamerlaw01_LexStands.l1] at H
                          by_cases c20 : 0 ≤ x10_2
                          · rw [if_pos c20] at H
                            have c20b0 : decide (0 ≤ x10_2) = true := decide_eq_true c20
                            clear c20
                            by_cases c21 : x10_2 < (t218.length : Int)
                            · rw [if_pos c21] at H
                              have c21b0 : decide (x10_2 < (t218.length : Int)) = true := decide_eq_true c21
                              clear c21
                              by_cases c22 : x9_4 < ((rd_T33 t218 x10_2).f3)
                              · rw [if_pos c22] at H
                                have c22b0 : decide (x9_4 < ((rd_T33 t218 x10_2).f3)) = true := decide_eq_true c22
                                clear c22
                                by_cases c23 : 0 ≤ x9_4
                                · rw [if_pos c23] at H
                                  have c23b0 : decide (0 ≤ x9_4) = true := decide_eq_true c23
                                  clear c23
                                  by_cases c24 : x9_4 < (a0.size : Int)
                                  · rw [if_pos c24] at H
                                    have c24b0 : decide (x9_4 < (a0.size : Int)) = true := decide_eq_true c24
                                    clear c24
                                    by_cases c26 : (bt a0 x9_4) = 32
                                    · rw [if_pos c26] at H
                                      have c26b0 : ((bt a0 x9_4) == 32) = true := beq_iff_eq.mpr c26
                                      have c26b1 : ((bt a0 x9_4) != 32) = false := bne_eq_false_iff_eq.mpr c26
                                      clear c26
                                      have H' := Aside0.mk H
                                      clear H
                                      have p232 : 0 ≤ (x10_2 : Int) := of_decide_eq_true (by first | (with_reducible assumption) | assumption)
                                      have q232 : x10_2 < (t218.length : Int) := of_decide_eq_true (by first | (with_reducible assumption) | assumption)
                                      obtain ⟨ad232, e232, hx232_0, hx232_1, hx232_2, hx232_3⟩ := at_T33 (Kd.R_reads' HO_3.out).2.2 x10_2 p232 q232
                                      cases e232
                                      replace p232 := eq_true p232
                                      replace q232 := eq_true q232
                                      have p25 : 0 ≤ (x9_4 : Int) := of_decide_eq_true (by first | (with_reducible assumption) | assumption)
                                      have q25 : x9_4 < (a0.size : Int) := of_decide_eq_true (by first | (with_reducible assumption) | assumption)
                                      have hx25 := bt_at a0 x9_4
                                      replace p25 := eq_true p25
                                      replace q25 := eq_true q25
                                      go_wp2
                                      repeat (go_quiet (fail); try go_wp2)
                                      go_roundg k4
                                      case measure => have := HJ1.out; have := HK2.out; have := HJ13.out; have := HK4.out; omega
                                      case rel => exact ⟨(wrap64 (x9_4 + 1)), (by first | rfl | (simp; done) | (simp [*]; done)), H', ⟨by have := HJ1.out; have := HK2.out; have := HJ13.out; have := HK4.out; omega⟩, ⟨by (with_reducible repeat (first | apply Kd.R_alloc | apply Kd.R_drewN | apply Kd.R_drew)); exact HO_3.out⟩, ⟨by repeat (first | (with_reducible first | exact HB.out | apply below_alloc | apply pw_below_drewN | apply below_drew1) | exact HB.out)⟩⟩
                                    · rw [if_neg c26] at H
                                      have c26b0 : ((bt a0 x9_4) == 32) = false := beq_eq_false_iff_ne.mpr c26
                                      have c26b1 : ((bt a0 x9_4) != 32) = true := bne_iff_ne.mpr c26
                                      by_cases c28 : (bt a0 x9_4) = 10
                                      · rw [if_pos c28] at H
                                        have c28b0 : ((bt a0 x9_4) == 10) = true := beq_iff_eq.mpr c28
                                        have c28b1 : ((bt a0 x9_4) != 10) = false := bne_eq_false_iff_eq.mpr c28
                                        clear c28
                                        have H' := Aside0.mk H
                                        clear H
                                        have p232 : 0 ≤ (x10_2 : Int) := of_decide_eq_true (by first | (with_reducible assumption) | assumption)
                                        have q232 : x10_2 < (t218.length : Int) := of_decide_eq_true (by first | (with_reducible assumption) | assumption)
                                        obtain ⟨ad232, e232, hx232_0, hx232_1, hx232_2, hx232_3⟩ := at_T33 (Kd.R_reads' HO_3.out).2.2 x10_2 p232 q232
                                        cases e232
                                        replace p232 := eq_true p232
                                        replace q232 := eq_true q232
                                        have p25 : 0 ≤ (x9_4 : Int) := of_decide_eq_true (by first | (with_reducible assumption) | assumption)
                                        have q25 : x9_4 < (a0.size : Int) := of_decide_eq_true (by first | (with_reducible assumption) | assumption)
                                        have hx25 := bt_at a0 x9_4
                                        replace p25 := eq_true p25
                                        replace q25 := eq_true q25
                                        have p27 : 0 ≤ (x9_4 : Int) := of_decide_eq_true (by first | (with_reducible assumption) | assumption)
                                        have q27 : x9_4 < (a0.size : Int) := of_decide_eq_true (by first | (with_reducible assumption) | assumption)
                                        have hx27 := bt_at a0 x9_4
                                        replace p27 := eq_true p27
                                        replace q27 := eq_true q27
                                        go_wp2
                                        repeat (go_quiet (fail); try go_wp2)
                                        go_roundg k4
                                        case measure => have := HJ1.out; have := HK2.out; have := HJ13.out; have := HK4.out; omega
                                        case rel => exact ⟨(wrap64 (x9_4 + 1)), (by first | rfl | (simp; done) | (simp [*]; done)), H', ⟨by have := HJ1.out; have := HK2.out; have := HJ13.out; have := HK4.out; omega⟩, ⟨by (with_reducible repeat (first | apply Kd.R_alloc | apply Kd.R_drewN | apply Kd.R_drew)); exact HO_3.out⟩, ⟨by repeat (first | (with_reducible first | exact HB.out | apply below_alloc | apply pw_below_drewN | apply below_drew1) | exact HB.out)⟩⟩
                                      · rw [if_neg c28] at H
                                        have c28b0 : ((bt a0 x9_4) == 10) = false := beq_eq_false_iff_ne.mpr c28
                                        have c28b1 : ((bt a0 x9_4) != 10) = true := bne_iff_ne.mpr c28
                                        by_cases c30 : (bt a0 x9_4) = 9
                                        · rw [if_pos c30] at H
                                          have c30b0 : ((bt a0 x9_4) == 9) = true := beq_iff_eq.mpr c30
                                          have c30b1 : ((bt a0 x9_4) != 9) = false := bne_eq_false_iff_eq.mpr c30
                                          clear c30
                                          have H' := Aside0.mk H
                                          clear H
                                          have p232 : 0 ≤ (x10_2 : Int) := of_decide_eq_true (by first | (with_reducible assumption) | assumption)
                                          have q232 : x10_2 < (t218.length : Int) := of_decide_eq_true (by first | (with_reducible assumption) | assumption)
                                          obtain ⟨ad232, e232, hx232_0, hx232_1, hx232_2, hx232_3⟩ := at_T33 (Kd.R_reads' HO_3.out).2.2 x10_2 p232 q232
                                          cases e232
                                          replace p232 := eq_true p232
                                          replace q232 := eq_true q232
                                          have p25 : 0 ≤ (x9_4 : Int) := of_decide_eq_true (by first | (with_reducible assumption) | assumption)
                                          have q25 : x9_4 < (a0.size : Int) := of_decide_eq_true (by first | (with_reducible assumption) | assumption)
                                          have hx25 := bt_at a0 x9_4
                                          replace p25 := eq_true p25
                                          replace q25 := eq_true q25
                                          have p27 : 0 ≤ (x9_4 : Int) := of_decide_eq_true (by first | (with_reducible assumption) | assumption)
                                          have q27 : x9_4 < (a0.size : Int) := of_decide_eq_true (by first | (with_reducible assumption) | assumption)
                                          have hx27 := bt_at a0 x9_4
                                          replace p27 := eq_true p27
                                          replace q27 := eq_true q27
                                          have p29 : 0 ≤ (x9_4 : Int) := of_decide_eq_true (by first | (with_reducible assumption) | assumption)
                                          have q29 : x9_4 < (a0.size : Int) := of_decide_eq_true (by first | (with_reducible assumption) | assumption)
                                          have hx29 := bt_at a0 x9_4
                                          replace p29 := eq_true p29
                                          replace q29 := eq_true q29
                                          go_wp2
                                          repeat (go_quiet (fail); try go_wp2)
                                          go_roundg k4
                                          case measure => have := HJ1.out; have := HK2.out; have := HJ13.out; have := HK4.out; omega
                                          case rel => exact ⟨(wrap64 (x9_4 + 1)), (by first | rfl | (simp; done) | (simp [*]; done)), H', ⟨by have := HJ1.out; have := HK2.out; have := HJ13.out; have := HK4.out; omega⟩, ⟨by (with_reducible repeat (first | apply Kd.R_alloc | apply Kd.R_drewN | apply Kd.R_drew)); exact HO_3.out⟩, ⟨by repeat (first | (with_reducible first | exact HB.out | apply below_alloc | apply pw_below_drewN | apply below_drew1) | exact HB.out)⟩⟩
                                        · rw [if_neg c30] at H
                                          exact absurd H (by simp)
                                  · rw [if_neg c24] at H
                                    exact absurd H (by simp)
                                · rw [if_neg c23] at H
                                  exact absurd H (by simp)
                              · rw [if_neg c22] at H
                                have c22b0 : decide (x9_4 < ((rd_T33 t218 x10_2).f3)) = false := decide_eq_false c22
                                clear c22
                                by_cases c31 : 0 ≤ x9_4
                                · rw [if_pos c31] at H
                                  have c31b0 := eq_true c31
                                  have c31b1 : decide (0 ≤ x9_4) = true := decide_eq_true c31
                                  clear c31
                                  by_cases c32 : x9_4 ≤ (wrap64 (x9_4 + (((rd_T33 t218 x10_2).f1).size : Int)))
                                  · rw [if_pos c32] at H
                                    have c32b0 := eq_true c32
                                    have c32b1 : decide (x9_4 ≤ (wrap64 (x9_4 + (((rd_T33 t218 x10_2).f1).size : Int)))) = true := decide_eq_true c32
                                    by_cases c33 : (wrap64 (x9_4 + (((rd_T33 t218 x10_2).f1).size : Int))) ≤ (a0.size : Int)
                                    · rw [if_pos c33] at H
                                      have c33b0 := eq_true c33
                                      have c33b1 : decide ((wrap64 (x9_4 + (((rd_T33 t218 x10_2).f1).size : Int))) ≤ (a0.size : Int)) = true := decide_eq_true c33
                                      by_cases c34 : (a0.extract (x9_4 : Int).toNat ((wrap64 (x9_4 + (((rd_T33 t218 x10_2).f1).size : Int))) : Int).toNat).toList = ((rd_T33 t218 x10_2).f1).toList
                                      · rw [if_pos c34] at H
                                        have c34b0 : ((a0.extract (x9_4 : Int).toNat ((wrap64 (x9_4 + (((rd_T33 t218 x10_2).f1).size : Int))) : Int).toNat).toList == ((rd_T33 t218 x10_2).f1).toList) = true := beq_iff_eq.mpr c34
                                        have c34b1 : ((a0.extract (x9_4 : Int).toNat ((wrap64 (x9_4 + (((rd_T33 t218 x10_2).f1).size : Int))) : Int).toNat).toList != ((rd_T33 t218 x10_2).f1).toList) = false := bne_eq_false_iff_eq.mpr c34
                                        clear c34
                                        have H' := Aside0.mk H
                                        clear H
                                        have p232 : 0 ≤ (x10_2 : Int) := of_decide_eq_true (by first | (with_reducible assumption) | assumption)
                                        have q232 : x10_2 < (t218.length : Int) := of_decide_eq_true (by first | (with_reducible assumption) | assumption)
                                        obtain ⟨ad232, e232, hx232_0, hx232_1, hx232_2, hx232_3⟩ := at_T33 (Kd.R_reads' HO_3.out).2.2 x10_2 p232 q232
                                        cases e232
                                        replace p232 := eq_true p232
                                        replace q232 := eq_true q232
                                        have p233 : 0 ≤ (x10_2 : Int) := of_decide_eq_true (by first | (with_reducible assumption) | assumption)
                                        have q233 : x10_2 < (t218.length : Int) := of_decide_eq_true (by first | (with_reducible assumption) | assumption)
                                        obtain ⟨ad233, e233, hx233_0, hx233_1, hx233_2, hx233_3⟩ := at_T33 (Kd.R_reads' HO_3.out).2.2 x10_2 p233 q233
                                        obtain rfl : ad232 = ad233 := (by injection e233)
                                        replace p233 := eq_true p233
                                        replace q233 := eq_true q233
                                        have p234 : 0 ≤ (x10_2 : Int) := of_decide_eq_true (by first | (with_reducible assumption) | assumption)
                                        have q234 : x10_2 < (t218.length : Int) := of_decide_eq_true (by first | (with_reducible assumption) | assumption)
                                        obtain ⟨ad234, e234, hx234_0, hx234_1, hx234_2, hx234_3⟩ := at_T33 (Kd.R_reads' HO_3.out).2.2 x10_2 p234 q234
                                        obtain rfl : ad232 = ad234 := (by injection e234)
                                        replace p234 := eq_true p234
                                        replace q234 := eq_true q234
                                        have p235 : 0 ≤ (x10_2 : Int) := of_decide_eq_true (by first | (with_reducible assumption) | assumption)
                                        have q235 : x10_2 < (t218.length : Int) := of_decide_eq_true (by first | (with_reducible assumption) | assumption)
                                        obtain ⟨ad235, e235, hx235_0, hx235_1, hx235_2, hx235_3⟩ := at_T33 (Kd.R_reads' HO_3.out).2.2 x10_2 p235 q235
                                        obtain rfl : ad232 = ad235 := (by injection e235)
                                        replace p235 := eq_true p235
                                        replace q235 := eq_true q235
                                        go_wp2
                                        repeat (go_quiet (fail); try go_wp2)
                                        go_roundg k4
                                        case measure => have := HJ1.out; have := HK2.out; have := HJ13.out; have := HK4.out; omega
                                        case rel => exact ⟨(wrap64 (x9_4 + (((rd_T33 t218 x10_2).f1).size : Int))), (wrap64 (x10_2 + 1)), (by first | rfl | (simp; done) | (simp [*]; done)), (by first | rfl | (simp; done) | (simp [*]; done)), H', ⟨by have := HJ1.out; have := HK2.out; have := HJ13.out; have := HK4.out; omega⟩, ⟨by (with_reducible repeat (first | apply Kd.R_alloc | apply Kd.R_drewN | apply Kd.R_drew)); exact HO_3.out⟩, ⟨by repeat (first | (with_reducible first | exact HB.out | apply below_alloc | apply pw_below_drewN | apply below_drew1) | exact HB.out)⟩⟩
                                      · rw [if_neg c34] at H
                                        exact absurd H (by simp)
                                    · rw [if_neg c33] at H
                                      exact absurd H (by simp)
                                  · rw [if_neg c32] at H
                                    exact absurd H (by simp)
                                · rw [if_neg c31] at H
                                  exact absurd H (by simp)
                            · rw [if_neg c21] at H
                              exact absurd H (by simp)
                          · rw [if_neg c20] at H
                            exact absurd H (by simp)
              · rw [if_neg c13] at H
                have c13b0 : decide (x10_2 < (t218.length : Int)) = false := decide_eq_false c13
                clear c13
                have H' := Aside0.mk H
                clear H
                obtain ⟨Ao35, co35, eo35⟩ := Kd.R_slice HO_3.out
                subst eo35
                go_wp2
                repeat (go_quiet (fail); try go_wp2)
                go_loopg [9] k2 (fun kq v9 w' => ∃ (x9_3 : Int), v9 = .int .i64 x9_3 ∧ Aside0 (gossamerlaw01_LexStands.l2 kq a0 x9_3 = some r) ∧ Aside0 (kq ≤ k2) ∧ Aside0 (Below w.heap.size w w'))
                case atStart => exact ⟨(x9_2), (by first | rfl | (simp; done) | (simp [*]; done)), H', ⟨Nat.le_refl _⟩, ⟨by repeat (first | (with_reducible first | exact HB.out | apply below_alloc | apply pw_below_drewN | apply below_drew1) | exact HB.out)⟩⟩
                case round =>
                  clear H'
                  try clear c1
                  try clear c2
                  try clear p2
                  try clear q2
                  try clear hx2
                  try clear c3
                  try clear c4
                  try clear c5
                  try clear p6
                  try clear c7
                  try clear c11
                  try clear c11b0
                  try clear c11b1
                  try clear c13
                  try clear c13b0
                  try clear c16
                  try clear c16b0
                  try clear c17
                  try clear c17b0
                  try clear c18
                  try clear c18b0
                  try clear c19
                  try clear c20
                  try clear c20b0
                  try clear c21
                  try clear c21b0
                  try clear c22
                  try clear c22b0
                  try clear p22
                  try clear q22
                  try clear hx22
                  try clear c23
                  try clear c23b0
                  try clear p23
                  try clear q23
                  try clear hx23
                  try clear c24
                  try clear c24b0
                  try clear p25
                  try clear q25
                  try clear hx25
                  try clear c26
                  try clear c26b0
                  try clear c26b1
                  try clear p27
                  try clear q27
                  try clear hx27
                  try clear c28
                  try clear c28b0
                  try clear c28b1
                  try clear p29
                  try clear q29
                  try clear hx29
                  try clear c30
                  try clear c30b0
                  try clear c30b1
                  try clear c31
                  try clear c31b0
                  try clear c31b1
                  try clear c32
                  try clear c32b0
                  try clear c32b1
                  try clear c33
                  try clear c33b0
                  try clear c33b1
                  try clear c34
                  try clear c34b0
                  try clear c34b1
                  try clear hx228_0
                  try clear hx228_1
                  try clear hx228_2
                  try clear hx228_3
                  try clear hx229_0
                  try clear hx229_1
                  try clear hx229_2
                  try clear hx229_3
                  try clear hx230_0
                  try clear hx230_1
                  try clear hx230_2
                  try clear hx230_3
                  try clear hx231_0
                  try clear hx231_1
                  try clear hx231_2
                  try clear hx231_3
                  try clear hx232_0
                  try clear hx232_1
                  try clear hx232_2
                  try clear hx232_3
                  try clear hx233_0
                  try clear hx233_1
                  try clear hx233_2
                  try clear hx233_3
                  try clear hx234_0
                  try clear hx234_1
                  try clear hx234_2
                  try clear hx234_3
                  try clear hx235_0
                  try clear hx235_1
                  try clear hx235_2
                  try clear hx235_3
                  try clear p2
                  try clear p228
                  try clear p229
                  try clear p230
                  try clear p231
                  try clear p232
                  try clear p233
                  try clear p234
                  try clear p235
                  try clear p25
                  try clear p27
                  try clear p29
                  try clear p6
                  try clear q2
                  try clear q228
                  try clear q229
                  try clear q230
                  try clear q231
                  try clear q232
                  try clear q233
                  try clear q234
                  try clear q235
                  try clear q25
                  try clear q27
                  try clear q29
                  obtain ⟨x9_3, rfl, HA, HK3, HB⟩ := hrel
                  cases gk with
                  | zero => exact absurd HA.out (by simp [gossamerlaw01_LexStands.l2])
                  | succ k3 =>
                    have H := HA.out
                    clear HA
                    simp only [gossamerlaw01_LexStands.l2] at H
                    by_cases c36 : x9_3 < (a0.size : Int)
                    · rw [if_pos c36] at H
                      have c36b0 : decide (x9_3 < (a0.size : Int)) = true := decide_eq_true c36
                      clear c36
                      by_cases c37 : 0 ≤ x9_3
                      · rw [if_pos c37] at H
                        have c37b0 : decide (0 ≤ x9_3) = true := decide_eq_true c37
                        clear c37
                        by_cases c39 : (bt a0 x9_3) = 32
                        · rw [if_pos c39] at H
                          have c39b0 : ((bt a0 x9_3) == 32) = true := beq_iff_eq.mpr c39
                          have c39b1 : ((bt a0 x9_3) != 32) = false := bne_eq_false_iff_eq.mpr c39
                          clear c39
                          have H' := Aside0.mk H
                          clear H
                          have p38 : 0 ≤ (x9_3 : Int) := of_decide_eq_true (by first | (with_reducible assumption) | assumption)
                          have q38 : x9_3 < (a0.size : Int) := of_decide_eq_true (by first | (with_reducible assumption) | assumption)
                          have hx38 := bt_at a0 x9_3
                          replace p38 := eq_true p38
                          replace q38 := eq_true q38
                          go_wp2
                          repeat (go_quiet (fail); try go_wp2)
                          go_roundg k3
                          case measure => have := HJ1.out; have := HK2.out; have := HK3.out; omega
                          case rel => exact ⟨(wrap64 (x9_3 + 1)), (by first | rfl | (simp; done) | (simp [*]; done)), H', ⟨by have := HJ1.out; have := HK2.out; have := HK3.out; omega⟩, ⟨by repeat (first | (with_reducible first | exact HB.out | apply below_alloc | apply pw_below_drewN | apply below_drew1) | exact HB.out)⟩⟩
                        · rw [if_neg c39] at H
                          have c39b0 : ((bt a0 x9_3) == 32) = false := beq_eq_false_iff_ne.mpr c39
                          have c39b1 : ((bt a0 x9_3) != 32) = true := bne_iff_ne.mpr c39
                          by_cases c41 : (bt a0 x9_3) = 10
                          · rw [if_pos c41] at H
                            have c41b0 : ((bt a0 x9_3) == 10) = true := beq_iff_eq.mpr c41
                            have c41b1 : ((bt a0 x9_3) != 10) = false := bne_eq_false_iff_eq.mpr c41
                            clear c41
                            have H' := Aside0.mk H
                            clear H
                            have p38 : 0 ≤ (x9_3 : Int) := of_decide_eq_true (by first | (with_reducible assumption) | assumption)
                            have q38 : x9_3 < (a0.size : Int) := of_decide_eq_true (by first | (with_reducible assumption) | assumption)
                            have hx38 := bt_at a0 x9_3
                            replace p38 := eq_true p38
                            replace q38 := eq_true q38
                            have p40 : 0 ≤ (x9_3 : Int) := of_decide_eq_true (by first | (with_reducible assumption) | assumption)
                            have q40 : x9_3 < (a0.size : Int) := of_decide_eq_true (by first | (with_reducible assumption) | assumption)
                            have hx40 := bt_at a0 x9_3
                            replace p40 := eq_true p40
                            replace q40 := eq_true q40
                            go_wp2
                            repeat (go_quiet (fail); try go_wp2)
                            go_roundg k3
                            case measure => have := HJ1.out; have := HK2.out; have := HK3.out; omega
                            case rel => exact ⟨(wrap64 (x9_3 + 1)), (by first | rfl | (simp; done) | (simp [*]; done)), H', ⟨by have := HJ1.out; have := HK2.out; have := HK3.out; omega⟩, ⟨by repeat (first | (with_reducible first | exact HB.out | apply below_alloc | apply pw_below_drewN | apply below_drew1) | exact HB.out)⟩⟩
                          · rw [if_neg c41] at H
                            have c41b0 : ((bt a0 x9_3) == 10) = false := beq_eq_false_iff_ne.mpr c41
                            have c41b1 : ((bt a0 x9_3) != 10) = true := bne_iff_ne.mpr c41
                            by_cases c43 : (bt a0 x9_3) = 9
                            · rw [if_pos c43] at H
                              have c43b0 : ((bt a0 x9_3) == 9) = true := beq_iff_eq.mpr c43
                              have c43b1 : ((bt a0 x9_3) != 9) = false := bne_eq_false_iff_eq.mpr c43
                              clear c43
                              have H' := Aside0.mk H
                              clear H
                              have p38 : 0 ≤ (x9_3 : Int) := of_decide_eq_true (by first | (with_reducible assumption) | assumption)
                              have q38 : x9_3 < (a0.size : Int) := of_decide_eq_true (by first | (with_reducible assumption) | assumption)
                              have hx38 := bt_at a0 x9_3
                              replace p38 := eq_true p38
                              replace q38 := eq_true q38
                              have p40 : 0 ≤ (x9_3 : Int) := of_decide_eq_true (by first | (with_reducible assumption) | assumption)
                              have q40 : x9_3 < (a0.size : Int) := of_decide_eq_true (by first | (with_reducible assumption) | assumption)
                              have hx40 := bt_at a0 x9_3
                              replace p40 := eq_true p40
                              replace q40 := eq_true q40
                              have p42 : 0 ≤ (x9_3 : Int) := of_decide_eq_true (by first | (with_reducible assumption) | assumption)
                              have q42 : x9_3 < (a0.size : Int) := of_decide_eq_true (by first | (with_reducible assumption) | assumption)
                              have hx42 := bt_at a0 x9_3
                              replace p42 := eq_true p42
                              replace q42 := eq_true q42
                              go_wp2
                              repeat (go_quiet (fail); try go_wp2)
                              go_roundg k3
                              case measure => have := HJ1.out; have := HK2.out; have := HK3.out; omega
                              case rel => exact ⟨(wrap64 (x9_3 + 1)), (by first | rfl | (simp; done) | (simp [*]; done)), H', ⟨by have := HJ1.out; have := HK2.out; have := HK3.out; omega⟩, ⟨by repeat (first | (with_reducible first | exact HB.out | apply below_alloc | apply pw_below_drewN | apply below_drew1) | exact HB.out)⟩⟩
                            · rw [if_neg c43] at H
                              exact absurd H (by simp)
                      · rw [if_neg c37] at H
                        exact absurd H (by simp)
                    · rw [if_neg c36] at H
                      have c36b0 : decide (x9_3 < (a0.size : Int)) = false := decide_eq_false c36
                      clear c36
                      obtain rfl := Option.some.inj H
                      go_wp2
                      repeat (go_quiet (fail); try go_wp2)
                      go_ret
                      exact ⟨by first | rfl | (simp [errW_none, errW_some] <;> rfl) | (simp [*, errW_none, errW_some] <;> rfl), by repeat (first | (with_reducible first | exact HB.out | apply below_alloc | apply pw_below_drewN | apply below_drew1) | exact HB.out)⟩
        · rw [if_neg c11] at H
          have c11b0 : (t220 == 0) = false := beq_eq_false_iff_ne.mpr c11
          have c11b1 : (t220 != 0) = true := bne_iff_ne.mpr c11
          obtain ⟨ji44, hji44⟩ : ∃ j_ : Int, (mn t219 (a0.size : Int)) = j_ := ⟨_, rfl⟩
          replace H : (if 0 ≤ (mx 0 (ji44)) then (if (mx 0 (ji44)) ≤ (a0.size : Int) then ((lex_All.f (a0.extract 0 ((mx 0 (ji44)) : Int).toNat)).bind fun bt223 => (if t219 ≥ 0 then (if t219 < (a0.size : Int) then (if bt223.2.2 = 0 then (if t220 = 10 then (some true) else (some (t220 == 11))) else (none)) else (none)) else (none))) else (none)) else (none)) = some r := by first | (rw [hji44] at H; exact H) | (simp only [hji44] at H ⊢; exact H)
          (try rw [hji44] at A10)
          have hji44_ : (if (a0.size : Int) < t219 then (a0.size : Int) else t219) = ji44 := hji44
          obtain ⟨ji45, hji45⟩ : ∃ j_ : Int, (mx 0 (ji44)) = j_ := ⟨_, rfl⟩
          replace H : (if 0 ≤ (ji45) then (if (ji45) ≤ (a0.size : Int) then ((lex_All.f (a0.extract 0 ((ji45) : Int).toNat)).bind fun bt223 => (if t219 ≥ 0 then (if t219 < (a0.size : Int) then (if bt223.2.2 = 0 then (if t220 = 10 then (some true) else (some (t220 == 11))) else (none)) else (none)) else (none))) else (none)) else (none)) = some r := by first | (rw [hji45] at H; exact H) | (simp only [hji45] at H ⊢; exact H)
          (try rw [hji45] at A10)
          have hji45_ : (if 0 < (ji44) then (ji44) else 0) = ji45 := hji45
          by_cases c46 : 0 ≤ (ji45)
          · rw [if_pos c46] at H
            have c46b0 := eq_true c46
            have c46b1 : decide (0 ≤ (ji45)) = true := decide_eq_true c46
            clear c46
            by_cases c47 : (ji45) ≤ (a0.size : Int)
            · rw [if_pos c47] at H
              have c47b0 := eq_true c47
              have c47b1 : decide ((ji45) ≤ (a0.size : Int)) = true := decide_eq_true c47
              clear c47
              replace H := Option.bind_eq_some_iff.mp H
              obtain ⟨⟨t223, t224, t225⟩, A480, H⟩ := H
              replace H : (if t219 ≥ 0 then (if t219 < (a0.size : Int) then (if t225 = 0 then (if t220 = 10 then (some true) else (some (t220 == 11))) else (none)) else (none)) else (none)) = some r := H
              have A48 := Aside0.mk A480
              clear A480
              by_cases c49 : t219 ≥ 0
              · rw [if_pos c49] at H
                have c49b0 : decide (0 ≤ t219) = true := decide_eq_true c49
                clear c49
                by_cases c50 : t219 < (a0.size : Int)
                · rw [if_pos c50] at H
                  have c50b0 : decide (t219 < (a0.size : Int)) = true := decide_eq_true c50
                  clear c50
                  by_cases c51 : t225 = 0
                  · rw [if_pos c51] at H
                    have c51b0 : (t225 == 0) = true := beq_iff_eq.mpr c51
                    have c51b1 : (t225 != 0) = false := bne_eq_false_iff_eq.mpr c51
                    clear c51
                    by_cases c52 : t220 = 10
                    · rw [if_pos c52] at H
                      have c52b0 : (t220 == 10) = true := beq_iff_eq.mpr c52
                      have c52b1 : (t220 != 10) = false := bne_eq_false_iff_eq.mpr c52
                      clear c52
                      obtain rfl := Option.some.inj H
                      go_wp2_with (first | (go_at_call 10; (with_reducible refine (lex_All.calls a0 t218 t219 t220 _ A10.out).mono ?_); rintro e w53 ⟨v221, rfl, ho0, hb⟩; have n0_ := Aside0.mk (Kd.R_lower ho0 (below_size (by repeat (first | (with_reducible first | exact HB.out | apply below_alloc | apply pw_below_drewN | apply below_drew1) | exact HB.out)))); have n1_ := Aside0.mk (below_step (by repeat (first | (with_reducible first | exact HB.out | apply below_alloc | apply pw_below_drewN | apply below_drew1) | exact HB.out)) hb); clear HB; have HO222 := n0_; have HB := n1_; clear n0_ n1_; (try clear hb); (try clear hb2); (try clear hk); (try clear hi); (try clear ho0)) | (go_at_call 10; (with_reducible refine (lex_All.calls (a0.extract 0 ((ji45) : Int).toNat) t223 t224 t225 _ A48.out).mono ?_); rintro e w54 ⟨v226, rfl, ho0, hb⟩; have n0_ := Aside0.mk (Kd.R_elder' (by (with_reducible repeat (first | apply Kd.R_alloc | apply Kd.R_drewN | apply Kd.R_drew)); exact HO222.out) (Kd.R_base ho0) hb); have n1_ := Aside0.mk (Kd.R_lower (Kd.R_new' ho0 (Kd.R_lt (by (with_reducible repeat (first | apply Kd.R_alloc | apply Kd.R_drewN | apply Kd.R_drew)); exact HO222.out))) (below_size (by repeat (first | (with_reducible first | exact HB.out | apply below_alloc | apply pw_below_drewN | apply below_drew1) | exact HB.out)))); have n2_ := Aside0.mk (below_step (by repeat (first | (with_reducible first | exact HB.out | apply below_alloc | apply pw_below_drewN | apply below_drew1) | exact HB.out)) hb); clear HO222; clear HB; have HO222 := n0_; have HO227 := n1_; have HB := n2_; clear n0_ n1_ n2_; (try clear hb); (try clear hb2); (try clear hk); (try clear hi); (try clear ho0)))
                      repeat (go_quiet (first | (go_at_call 10; (with_reducible refine (lex_All.calls a0 t218 t219 t220 _ A10.out).mono ?_); rintro e w53 ⟨v221, rfl, ho0, hb⟩; have n0_ := Aside0.mk (Kd.R_lower ho0 (below_size (by repeat (first | (with_reducible first | exact HB.out | apply below_alloc | apply pw_below_drewN | apply below_drew1) | exact HB.out)))); have n1_ := Aside0.mk (below_step (by repeat (first | (with_reducible first | exact HB.out | apply below_alloc | apply pw_below_drewN | apply below_drew1) | exact HB.out)) hb); clear HB; have HO222 := n0_; have HB := n1_; clear n0_ n1_; (try clear hb); (try clear hb2); (try clear hk); (try clear hi); (try clear ho0)) | (go_at_call 10; (with_reducible refine (lex_All.calls (a0.extract 0 ((ji45) : Int).toNat) t223 t224 t225 _ A48.out).mono ?_); rintro e w54 ⟨v226, rfl, ho0, hb⟩; have n0_ := Aside0.mk (Kd.R_elder' (by (with_reducible repeat (first | apply Kd.R_alloc | apply Kd.R_drewN | apply Kd.R_drew)); exact HO222.out) (Kd.R_base ho0) hb); have n1_ := Aside0.mk (Kd.R_lower (Kd.R_new' ho0 (Kd.R_lt (by (with_reducible repeat (first | apply Kd.R_alloc | apply Kd.R_drewN | apply Kd.R_drew)); exact HO222.out))) (below_size (by repeat (first | (with_reducible first | exact HB.out | apply below_alloc | apply pw_below_drewN | apply below_drew1) | exact HB.out)))); have n2_ := Aside0.mk (below_step (by repeat (first | (with_reducible first | exact HB.out | apply below_alloc | apply pw_below_drewN | apply below_drew1) | exact HB.out)) hb); clear HO222; clear HB; have HO222 := n0_; have HO227 := n1_; have HB := n2_; clear n0_ n1_ n2_; (try clear hb); (try clear hb2); (try clear hk); (try clear hi); (try clear ho0))); try go_wp2_with (first | (go_at_call 10; (with_reducible refine (lex_All.calls a0 t218 t219 t220 _ A10.out).mono ?_); rintro e w53 ⟨v221, rfl, ho0, hb⟩; have n0_ := Aside0.mk (Kd.R_lower ho0 (below_size (by repeat (first | (with_reducible first | exact HB.out | apply below_alloc | apply pw_below_drewN | apply below_drew1) | exact HB.out)))); have n1_ := Aside0.mk (below_step (by repeat (first | (with_reducible first | exact HB.out | apply below_alloc | apply pw_below_drewN | apply below_drew1) | exact HB.out)) hb); clear HB; have HO222 := n0_; have HB := n1_; clear n0_ n1_; (try clear hb); (try clear hb2); (try clear hk); (try clear hi); (try clear ho0)) | (go_at_call 10; (with_reducible refine (lex_All.calls (a0.extract 0 ((ji45) : Int).toNat) t223 t224 t225 _ A48.out).mono ?_); rintro e w54 ⟨v226, rfl, ho0, hb⟩; have n0_ := Aside0.mk (Kd.R_elder' (by (with_reducible repeat (first | apply Kd.R_alloc | apply Kd.R_drewN | apply Kd.R_drew)); exact HO222.out) (Kd.R_base ho0) hb); have n1_ := Aside0.mk (Kd.R_lower (Kd.R_new' ho0 (Kd.R_lt (by (with_reducible repeat (first | apply Kd.R_alloc | apply Kd.R_drewN | apply Kd.R_drew)); exact HO222.out))) (below_size (by repeat (first | (with_reducible first | exact HB.out | apply below_alloc | apply pw_below_drewN | apply below_drew1) | exact HB.out)))); have n2_ := Aside0.mk (below_step (by repeat (first | (with_reducible first | exact HB.out | apply below_alloc | apply pw_below_drewN | apply below_drew1) | exact HB.out)) hb); clear HO222; clear HB; have HO222 := n0_; have HO227 := n1_; have HB := n2_; clear n0_ n1_ n2_; (try clear hb); (try clear hb2); (try clear hk); (try clear hi); (try clear ho0))))
                      go_ret
                      exact ⟨by first | rfl | (simp [errW_none, errW_some] <;> rfl) | (simp only [← hji44, ← hji45]; first | rfl | (simp [errW_none, errW_some] <;> rfl)) | (simp [*, errW_none, errW_some] <;> rfl), by repeat (first | (with_reducible first | exact HB.out | apply below_alloc | apply pw_below_drewN | apply below_drew1) | exact HB.out)⟩
                    · rw [if_neg c52] at H
                      have c52b0 : (t220 == 10) = false := beq_eq_false_iff_ne.mpr c52
                      have c52b1 : (t220 != 10) = true := bne_iff_ne.mpr c52
                      obtain rfl := Option.some.inj H
                      go_wp2_with (first | (go_at_call 10; (with_reducible refine (lex_All.calls a0 t218 t219 t220 _ A10.out).mono ?_); rintro e w55 ⟨v221, rfl, ho0, hb⟩; have n0_ := Aside0.mk (Kd.R_lower ho0 (below_size (by repeat (first | (with_reducible first | exact HB.out | apply below_alloc | apply pw_below_drewN | apply below_drew1) | exact HB.out)))); have n1_ := Aside0.mk (below_step (by repeat (first | (with_reducible first | exact HB.out | apply below_alloc | apply pw_below_drewN | apply below_drew1) | exact HB.out)) hb); clear HB; have HO222 := n0_; have HB := n1_; clear n0_ n1_; (try clear hb); (try clear hb2); (try clear hk); (try clear hi); (try clear ho0)) | (go_at_call 10; (with_reducible refine (lex_All.calls (a0.extract 0 ((ji45) : Int).toNat) t223 t224 t225 _ A48.out).mono ?_); rintro e w56 ⟨v226, rfl, ho0, hb⟩; have n0_ := Aside0.mk (Kd.R_elder' (by (with_reducible repeat (first | apply Kd.R_alloc | apply Kd.R_drewN | apply Kd.R_drew)); exact HO222.out) (Kd.R_base ho0) hb); have n1_ := Aside0.mk (Kd.R_lower (Kd.R_new' ho0 (Kd.R_lt (by (with_reducible repeat (first | apply Kd.R_alloc | apply Kd.R_drewN | apply Kd.R_drew)); exact HO222.out))) (below_size (by repeat (first | (with_reducible first | exact HB.out | apply below_alloc | apply pw_below_drewN | apply below_drew1) | exact HB.out)))); have n2_ := Aside0.mk (below_step (by repeat (first | (with_reducible first | exact HB.out | apply below_alloc | apply pw_below_drewN | apply below_drew1) | exact HB.out)) hb); clear HO222; clear HB; have HO222 := n0_; have HO227 := n1_; have HB := n2_; clear n0_ n1_ n2_; (try clear hb); (try clear hb2); (try clear hk); (try clear hi); (try clear ho0)))
                      repeat (go_quiet (first | (go_at_call 10; (with_reducible refine (lex_All.calls a0 t218 t219 t220 _ A10.out).mono ?_); rintro e w55 ⟨v221, rfl, ho0, hb⟩; have n0_ := Aside0.mk (Kd.R_lower ho0 (below_size (by repeat (first | (with_reducible first | exact HB.out | apply below_alloc | apply pw_below_drewN | apply below_drew1) | exact HB.out)))); have n1_ := Aside0.mk (below_step (by repeat (first | (with_reducible first | exact HB.out | apply below_alloc | apply pw_below_drewN | apply below_drew1) | exact HB.out)) hb); clear HB; have HO222 := n0_; have HB := n1_; clear n0_ n1_; (try clear hb); (try clear hb2); (try clear hk); (try clear hi); (try clear ho0)) | (go_at_call 10; (with_reducible refine (lex_All.calls (a0.extract 0 ((ji45) : Int).toNat) t223 t224 t225 _ A48.out).mono ?_); rintro e w56 ⟨v226, rfl, ho0, hb⟩; have n0_ := Aside0.mk (Kd.R_elder' (by (with_reducible repeat (first | apply Kd.R_alloc | apply Kd.R_drewN | apply Kd.R_drew)); exact HO222.out) (Kd.R_base ho0) hb); have n1_ := Aside0.mk (Kd.R_lower (Kd.R_new' ho0 (Kd.R_lt (by (with_reducible repeat (first | apply Kd.R_alloc | apply Kd.R_drewN | apply Kd.R_drew)); exact HO222.out))) (below_size (by repeat (first | (with_reducible first | exact HB.out | apply below_alloc | apply pw_below_drewN | apply below_drew1) | exact HB.out)))); have n2_ := Aside0.mk (below_step (by repeat (first | (with_reducible first | exact HB.out | apply below_alloc | apply pw_below_drewN | apply below_drew1) | exact HB.out)) hb); clear HO222; clear HB; have HO222 := n0_; have HO227 := n1_; have HB := n2_; clear n0_ n1_ n2_; (try clear hb); (try clear hb2); (try clear hk); (try clear hi); (try clear ho0))); try go_wp2_with (first | (go_at_call 10; (with_reducible refine (lex_All.calls a0 t218 t219 t220 _ A10.out).mono ?_); rintro e w55 ⟨v221, rfl, ho0, hb⟩; have n0_ := Aside0.mk (Kd.R_lower ho0 (below_size (by repeat (first | (with_reducible first | exact HB.out | apply below_alloc | apply pw_below_drewN | apply below_drew1) | exact HB.out)))); have n1_ := Aside0.mk (below_step (by repeat (first | (with_reducible first | exact HB.out | apply below_alloc | apply pw_below_drewN | apply below_drew1) | exact HB.out)) hb); clear HB; have HO222 := n0_; have HB := n1_; clear n0_ n1_; (try clear hb); (try clear hb2); (try clear hk); (try clear hi); (try clear ho0)) | (go_at_call 10; (with_reducible refine (lex_All.calls (a0.extract 0 ((ji45) : Int).toNat) t223 t224 t225 _ A48.out).mono ?_); rintro e w56 ⟨v226, rfl, ho0, hb⟩; have n0_ := Aside0.mk (Kd.R_elder' (by (with_reducible repeat (first | apply Kd.R_alloc | apply Kd.R_drewN | apply Kd.R_drew)); exact HO222.out) (Kd.R_base ho0) hb); have n1_ := Aside0.mk (Kd.R_lower (Kd.R_new' ho0 (Kd.R_lt (by (with_reducible repeat (first | apply Kd.R_alloc | apply Kd.R_drewN | apply Kd.R_drew)); exact HO222.out))) (below_size (by repeat (first | (with_reducible first | exact HB.out | apply below_alloc | apply pw_below_drewN | apply below_drew1) | exact HB.out)))); have n2_ := Aside0.mk (below_step (by repeat (first | (with_reducible first | exact HB.out | apply below_alloc | apply pw_below_drewN | apply below_drew1) | exact HB.out)) hb); clear HO222; clear HB; have HO222 := n0_; have HO227 := n1_; have HB := n2_; clear n0_ n1_ n2_; (try clear hb); (try clear hb2); (try clear hk); (try clear hi); (try clear ho0))))
                      go_ret
                      exact ⟨by first | rfl | (simp [errW_none, errW_some] <;> rfl) | (simp only [← hji44, ← hji45]; first | rfl | (simp [errW_none, errW_some] <;> rfl)) | (simp [*, errW_none, errW_some] <;> rfl), by repeat (first | (with_reducible first | exact HB.out | apply below_alloc | apply pw_below_drewN | apply below_drew1) | exact HB.out)⟩
                  · rw [if_neg c51] at H
                    exact absurd H (by simp)
                · rw [if_neg c50] at H
                  exact absurd H (by simp)
              · rw [if_neg c49] at H
                exact absurd H (by simp)
            · rw [if_neg c47] at H
              exact absurd H (by simp)
          · rw [if_neg c46] at H
            exact absurd H (by simp)

end Go.Proofs.YthgmpflfgicmbaaDoor.Q
