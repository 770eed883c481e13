-- Written for this claim by a program of this session.
import Derived.Test.YthgmpflfgicmbaaDoorQx0
import Derived.Test.YthgmpflfgicmbaaDoorQx2
import Derived.Test.YthgmpflfgicmbaaDoorQx3
import Derived.Test.YthgmpflfgicmbaaDoorQx4
import Derived.Test.YthgmpflfgicmbaaDoorQx8
import Derived.Test.YthgmpflfgicmbaaDoorQx18
namespace Go.Proofs.YthgmpflfgicmbaaDoor.Q
open Go.RowKit Go.Proofs.YthgmpflfgicmbaaDoorW.PrintWords Go.Proofs.YthgmpflfgicmbaaDoorW.PrintLast Go.Proofs.YthgmpflfgicmbaaDoorW.PrintMore
attribute [local go_sem] max2_int min2_int max_two min_two max_three min_three max_four min_four   -- for this text's walks alone
set_option linter.unusedVariables false
set_option linter.unusedSimpArgs false

/-! ### gossamerlaw01_LexAgain: function 4 -/
def gossamerlaw01_LexAgain.j0 : Nat → ByteArray → Bool → Option (Bool)
  | 0, _, _ => none
  | k + 1, x0, x16 => if x16 = true then ((gossamerlaw01_fixed.f k).bind fun t188 => (some t188)) else ((lex_All.f x0).bind fun bt189 => (if bt189.2.2 = 0 then ((lex_Text.f bt189.1).bind fun t194 => ((lex_All.f t194).bind fun bt195 => (if bt195.2.2 = 0 then (if bt195.2.1 = 0 then ((gossamerref01_Placeless.f bt189.1).bind fun t200 => ((gossamerref01_Placeless.f bt195.1).bind fun t203 => ((gossamerref01_Same.f k t200 t203).bind fun t206 => (if t206 = true then ((lex_Text.f bt195.1).bind fun t207 => (some (t207.toList == t194.toList))) else (none))))) else (none)) else (none)))) else (some ((bt189.1.length : Int) == 0))))
def gossamerlaw01_LexAgain.f (k : Nat) (a0 : ByteArray) : Option (Bool) := (gossamerlaw01_fixed.f k).bind fun t187 => (if t187 = true then (gossamerlaw01_LexAgain.j0 k a0 (decide ((a0.size : Int) > 2000))) else (gossamerlaw01_LexAgain.j0 k a0 true))
theorem gossamerlaw01_LexAgain.mono_l : ∀ k, (∀ y0 y1, LeO (gossamerlaw01_LexAgain.j0 k y0 y1) (gossamerlaw01_LexAgain.j0 (k + 1) y0 y1))
  | 0 => fun _ _ r h => by simp [gossamerlaw01_LexAgain.j0] at h
  | k + 1 => by
    have ih0 := gossamerlaw01_LexAgain.mono_l k
    · intro y0 y1
      unfold gossamerlaw01_LexAgain.j0
      repeat' first
      | (with_reducible exact ih0 _ _)
      | (with_reducible exact gossamerlaw01_fixed.mono _)
      | (with_reducible exact gossamerref01_Same.mono _ _ _)
      | (with_reducible exact LeO.refl _)
      | (with_reducible exact LeO.none _)
      | (with_reducible refine LeO.ite ?_ ?_)
      | (with_reducible refine LeO.bind ?_ (fun _ => ?_))
      | exact ih0 _ _
      | exact gossamerlaw01_fixed.mono _
      | exact gossamerref01_Same.mono _ _ _
      | exact LeO.none _
      | refine LeO.ite ?_ ?_
      | refine LeO.bind ?_ (fun _ => ?_)
theorem gossamerlaw01_LexAgain.mono : ∀ a0 k, LeO (gossamerlaw01_LexAgain.f k a0) (gossamerlaw01_LexAgain.f (k + 1) a0) := by
  intro a0 k
  have ih0 := gossamerlaw01_LexAgain.mono_l k
  unfold gossamerlaw01_LexAgain.f
  repeat' first
      | (with_reducible exact ih0 _ _)
      | (with_reducible exact gossamerlaw01_fixed.mono _)
      | (with_reducible exact gossamerref01_Same.mono _ _ _)
      | (with_reducible exact LeO.refl _)
      | (with_reducible exact LeO.none _)
      | (with_reducible refine LeO.ite ?_ ?_)
      | (with_reducible refine LeO.bind ?_ (fun _ => ?_))
      | exact ih0 _ _
      | exact gossamerlaw01_fixed.mono _
      | exact gossamerref01_Same.mono _ _ _
      | exact LeO.none _
      | refine LeO.ite ?_ ?_
      | refine LeO.bind ?_ (fun _ => ?_)
set_option maxHeartbeats 8000000 in
set_option maxRecDepth 100000 in
theorem gossamerlaw01_LexAgain.calls (k : Nat) (a0 : ByteArray) (r : Bool) (w : World) (h : gossamerlaw01_LexAgain.f k a0 = some r) :
    Calls Tryd.prog 4 #[.string a0] w fun e w' => e = .returned (.bool r) ∧ Below w.heap.size w w' := by
  have HB := Aside0.mk (Below.refl w.heap.size w)
  have H : ((gossamerlaw01_fixed.f k).bind fun t187 => (if t187 = true then (gossamerlaw01_LexAgain.j0 k a0 (decide ((a0.size : Int) > 2000))) else (gossamerlaw01_LexAgain.j0 k a0 true))) = some r := h
  clear h
  have HC2 := Aside0.mk H
  clear H
  go_enter Tryd.func4, Tryd.ntmps4
  go_upto_region 1 with (fail)
  go_cut [16] (fun v16 wc => ∃ (kq : Nat) (x16_1 : Bool), v16 = .bool x16_1 ∧ Aside0 (gossamerlaw01_LexAgain.j0 kq a0 x16_1 = some r) ∧ Aside0 (kq ≤ k) ∧ Aside0 (Below w.heap.size w wc))
  case first =>
    have H := HC2.out
    clear HC2
    replace H := Option.bind_eq_some_iff.mp H
    obtain ⟨t187, A30, H⟩ := H
    replace H : (if t187 = true then (gossamerlaw01_LexAgain.j0 k a0 (decide ((a0.size : Int) > 2000))) else (gossamerlaw01_LexAgain.j0 k a0 true)) = some r := H
    have A3 := Aside0.mk A30
    clear A30
    by_cases c4 : t187 = true
    · subst c4
      have H1 : (gossamerlaw01_LexAgain.j0 k a0 (decide ((a0.size : Int) > 2000))) = some r := by rw [if_pos rfl] at H; exact H
      clear H
      have H := H1
      clear H1
      have H' := Aside0.mk H
      clear H
      go_wp2_with (first | ((with_reducible refine gate_callee (f := 9) rfl ?_); refine goesL_ (some 10) rfl rfl Tryd.func9 (by kernel_rfl) rfl #[] rfl (by (try simp only [List.map_toArray, List.map_cons, List.map_nil]); first | done | rfl | (simp only [List.length_drop, List.length_take]; rfl)) ?_; (with_reducible refine (gossamerlaw01_fixed.calls k  true _ A3.out).mono ?_); rintro e w5 ⟨rfl, hb⟩; refine ⟨_, rfl, ?_⟩; have n0_ := Aside0.mk (below_step (by repeat (first | (with_reducible first | exact HB.out | apply below_alloc | apply pw_below_drewN | apply below_drew1) | exact HB.out)) hb); clear HB; have HB := n0_; clear n0_; (try clear hb); (try clear hb2); (try clear hk); (try clear hi)))
      go_meet
      case rel => exact ⟨_, (decide ((a0.size : Int) > 2000)), (by first | rfl | (simp; done) | (simp [*]; done)), H', ⟨by first | omega | exact Nat.le_refl _⟩, ⟨by repeat (first | (with_reducible first | exact HB.out | apply below_alloc | apply pw_below_drewN | apply below_drew1) | exact HB.out)⟩⟩
    · replace c4 := Bool.eq_false_iff.mpr c4
      subst c4
      have H1 : (gossamerlaw01_LexAgain.j0 k a0 true) = some r := by rw [if_neg (show ¬ (false = true) by decide)] at H; exact H
      clear H
      have H := H1
      clear H1
      have H' := Aside0.mk H
      clear H
      go_wp2_with (first | ((with_reducible refine gate_callee (f := 9) rfl ?_); refine goesL_ (some 10) rfl rfl Tryd.func9 (by kernel_rfl) rfl #[] rfl (by (try simp only [List.map_toArray, List.map_cons, List.map_nil]); first | done | rfl | (simp only [List.length_drop, List.length_take]; rfl)) ?_; (with_reducible refine (gossamerlaw01_fixed.calls k  false _ A3.out).mono ?_); rintro e w6 ⟨rfl, hb⟩; refine ⟨_, rfl, ?_⟩; have n0_ := Aside0.mk (below_step (by repeat (first | (with_reducible first | exact HB.out | apply below_alloc | apply pw_below_drewN | apply below_drew1) | exact HB.out)) hb); clear HB; have HB := n0_; clear n0_; (try clear hb); (try clear hb2); (try clear hk); (try clear hi)))
      go_meet
      case rel => exact ⟨_, (true), (by first | rfl | (simp; done) | (simp [*]; done)), H', ⟨by first | omega | exact Nat.le_refl _⟩, ⟨by repeat (first | (with_reducible first | exact HB.out | apply below_alloc | apply pw_below_drewN | apply below_drew1) | exact HB.out)⟩⟩
  case rest =>
    clear HC2
    try clear p2
    try clear c4
    obtain ⟨kq, x16_1, rfl, HA, HJ1, HB⟩ := hcut
    cases kq with
    | zero => exact absurd HA.out (by simp [gossamerlaw01_LexAgain.j0])
    | succ kj1 =>
      have H := HA.out
      clear HA
      simp only [gossamerlaw01_LexAgain.j0] at H
      by_cases c7 : x16_1 = true
      · subst c7
        have H1 : ((gossamerlaw01_fixed.f kj1).bind fun t188 => (some t188)) = some r := by rw [if_pos rfl] at H; exact H
        clear H
        have H := H1
        clear H1
        replace H := Option.bind_eq_some_iff.mp H
        obtain ⟨t188, A80, H⟩ := H
        replace H : (some t188) = some r := H
        have A8 := Aside0.mk A80
        clear A80
        obtain rfl := Option.some.inj H
        go_wp2_with (first | ((with_reducible refine gate_callee (f := 9) rfl ?_); refine goesL_ (some 17) rfl rfl Tryd.func9 (by kernel_rfl) rfl #[] rfl (by (try simp only [List.map_toArray, List.map_cons, List.map_nil]); first | done | rfl | (simp only [List.length_drop, List.length_take]; rfl)) ?_; (with_reducible refine (gossamerlaw01_fixed.calls kj1  t188 _ A8.out).mono ?_); rintro e w9 ⟨rfl, hb⟩; refine ⟨_, rfl, ?_⟩; have n0_ := Aside0.mk (below_step (by repeat (first | (with_reducible first | exact HB.out | apply below_alloc | apply pw_below_drewN | apply below_drew1) | exact HB.out)) hb); clear HB; have HB := n0_; clear n0_; (try clear hb); (try clear hb2); (try clear hk); (try clear hi)))
        go_ret
        exact ⟨by first | rfl | (simp [errW_none, errW_some] <;> rfl) | (simp [*, errW_none, errW_some] <;> rfl), by repeat (first | (with_reducible first | exact HB.out | apply below_alloc | apply pw_below_drewN | apply below_drew1) | exact HB.out)⟩
      · replace c7 := Bool.eq_false_iff.mpr c7
        subst c7
        have H1 : ((lex_All.f a0).bind fun bt189 => (if bt189.2.2 = 0 then ((lex_Text.f bt189.1).bind fun t194 => ((lex_All.f t194).bind fun bt195 => (if bt195.2.2 = 0 then (if bt195.2.1 = 0 then ((gossamerref01_Placeless.f bt189.1).bind fun t200 => ((gossamerref01_Placeless.f bt195.1).bind fun t203 => ((gossamerref01_Same.f kj1 t200 t203).bind fun t206 => (if t206 = true then ((lex_Text.f bt195.1).bind fun t207 => (some (t207.toList == t194.toList))) else (none))))) else (none)) else (none)))) else (some ((bt189.1.length : Int) == 0)))) = some r := by rw [if_neg (show ¬ (false = true) by decide)] at H; exact H
        clear H
        have H := H1
        clear H1
        replace H := Option.bind_eq_some_iff.mp H
        obtain ⟨⟨t189, t190, t191⟩, A100, H⟩ := H
        replace H : (if t191 = 0 then ((lex_Text.f t189).bind fun t194 => ((lex_All.f t194).bind fun bt195 => (if bt195.2.2 = 0 then (if bt195.2.1 = 0 then ((gossamerref01_Placeless.f t189).bind fun t200 => ((gossamerref01_Placeless.f bt195.1).bind fun t203 => ((gossamerref01_Same.f kj1 t200 t203).bind fun t206 => (if t206 = true then ((lex_Text.f bt195.1).bind fun t207 => (some (t207.toList == t194.toList))) else (none))))) else (none)) else (none)))) else (some ((t189.length : Int) == 0))) = some r := H
        have A10 := Aside0.mk A100
        clear A100
        by_cases c11 : t191 = 0
        · rw [if_pos c11] at H
          have c11b0 : (t191 == 0) = true := beq_iff_eq.mpr c11
          have c11b1 : (t191 != 0) = false := bne_eq_false_iff_eq.mpr c11
          clear c11
          replace H := Option.bind_eq_some_iff.mp H
          obtain ⟨t194, A120, H⟩ := H
          replace H : ((lex_All.f t194).bind fun bt195 => (if bt195.2.2 = 0 then (if bt195.2.1 = 0 then ((gossamerref01_Placeless.f t189).bind fun t200 => ((gossamerref01_Placeless.f bt195.1).bind fun t203 => ((gossamerref01_Same.f kj1 t200 t203).bind fun t206 => (if t206 = true then ((lex_Text.f bt195.1).bind fun t207 => (some (t207.toList == t194.toList))) else (none))))) else (none)) else (none))) = some r := H
          have A12 := Aside0.mk A120
          clear A120
          replace H := Option.bind_eq_some_iff.mp H
          obtain ⟨⟨t195, t196, t197⟩, A130, H⟩ := H
          replace H : (if t197 = 0 then (if t196 = 0 then ((gossamerref01_Placeless.f t189).bind fun t200 => ((gossamerref01_Placeless.f t195).bind fun t203 => ((gossamerref01_Same.f kj1 t200 t203).bind fun t206 => (if t206 = true then ((lex_Text.f t195).bind fun t207 => (some (t207.toList == t194.toList))) else (none))))) else (none)) else (none)) = some r := H
          have A13 := Aside0.mk A130
          clear A130
          by_cases c14 : t197 = 0
          · rw [if_pos c14] at H
            have c14b0 : (t197 == 0) = true := beq_iff_eq.mpr c14
            have c14b1 : (t197 != 0) = false := bne_eq_false_iff_eq.mpr c14
            clear c14
            by_cases c15 : t196 = 0
            · rw [if_pos c15] at H
              have c15b0 : (t196 == 0) = true := beq_iff_eq.mpr c15
              have c15b1 : (t196 != 0) = false := bne_eq_false_iff_eq.mpr c15
              clear c15
              replace H := Option.bind_eq_some_iff.mp H
              obtain ⟨t200, A160, H⟩ := H
              replace H : ((gossamerref01_Placeless.f t195).bind fun t203 => ((gossamerref01_Same.f kj1 t200 t203).bind fun t206 => (if t206 = true then ((lex_Text.f t195).bind fun t207 => (some (t207.toList == t194.toList))) else (none)))) = some r := H
              have A16 := Aside0.mk A160
              clear A160
              replace H := Option.bind_eq_some_iff.mp H
              obtain ⟨t203, A170, H⟩ := H
              replace H : ((gossamerref01_Same.f kj1 t200 t203).bind fun t206 => (if t206 = true then ((lex_Text.f t195).bind fun t207 => (some (t207.toList == t194.toList))) else (none))) = some r := H
              have A17 := Aside0.mk A170
              clear A170
              replace H := Option.bind_eq_some_iff.mp H
              obtain ⟨t206, A180, H⟩ := H
              replace H : (if t206 = true then ((lex_Text.f t195).bind fun t207 => (some (t207.toList == t194.toList))) else (none)) = some r := H
              have A18 := Aside0.mk A180
              clear A180
              by_cases c19 : t206 = true
              · subst c19
                have H1 : ((lex_Text.f t195).bind fun t207 => (some (t207.toList == t194.toList))) = some r := by rw [if_pos rfl] at H; exact H
                clear H
                have H := H1
                clear H1
                replace H := Option.bind_eq_some_iff.mp H
                obtain ⟨t207, A200, H⟩ := H
                replace H : (some (t207.toList == t194.toList)) = some r := H
                have A20 := Aside0.mk A200
                clear A200
                obtain rfl := Option.some.inj H
                go_wp2_with (first | ((with_reducible refine gate_callee (f := 10) rfl ?_); refine goesL_ (some 20) rfl rfl Tryd.func10 (by kernel_rfl) rfl #[.string a0] rfl (by (try simp only [List.map_toArray, List.map_cons, List.map_nil]); first | done | rfl | (simp only [List.length_drop, List.length_take]; rfl)) ?_; (with_reducible refine (lex_All.calls a0 t189 t190 t191 _ A10.out).mono ?_); rintro e w21 ⟨v192, rfl, ho0, hb⟩; refine ⟨_, rfl, ?_⟩; have n0_ := Aside0.mk (Kd.R_lower ho0 (below_size (by repeat (first | (with_reducible first | exact HB.out | apply below_alloc | apply pw_below_drewN | apply below_drew1) | exact HB.out)))); have n1_ := Aside0.mk (below_step (by repeat (first | (with_reducible first | exact HB.out | apply below_alloc | apply pw_below_drewN | apply below_drew1) | exact HB.out)) hb); clear HB; have HO193 := n0_; have HB := n1_; clear n0_ n1_; (try clear hb); (try clear hb2); (try clear hk); (try clear hi); (try clear ho0); obtain ⟨Ao22, co22, eo22⟩ := Kd.R_slice HO193.out; subst eo22) | ((with_reducible refine gate_callee (f := 13) rfl ?_); refine goesL_ (some 30) rfl rfl Tryd.func13 (by kernel_rfl) rfl #[.slice Ao22 t189.length co22] rfl (by (try simp only [List.map_toArray, List.map_cons, List.map_nil]); first | done | rfl | (simp only [List.length_drop, List.length_take]; rfl)) ?_; (with_reducible refine (lex_Text.calls _ _ t189 t194 _ ?side1 ?side2 A12.out).mono ?_); (case side1 => repeat (first | exact (Kd.R_reads' HO193.out).2.2 | (with_reducible refine Kd.C_alloc ?_ _) | (with_reducible refine Kd.C_drewN ?_ _) | (with_reducible refine Kd.C_drew ?_))); (case side2 => exact (Kd.R_reads' HO193.out).2.1); rintro e w23 ⟨rfl, hb⟩; refine ⟨_, rfl, ?_⟩; have n0_ := Aside0.mk (Kd.R_below (by (with_reducible repeat (first | apply Kd.R_alloc | apply Kd.R_drewN | apply Kd.R_drew)); exact HO193.out) hb); have n1_ := Aside0.mk (below_step (by repeat (first | (with_reducible first | exact HB.out | apply below_alloc | apply pw_below_drewN | apply below_drew1) | exact HB.out)) hb); clear HO193; clear HB; have HO193 := n0_; have HB := n1_; clear n0_ n1_; (try clear hb); (try clear hb2); (try clear hk); (try clear hi)) | ((with_reducible refine gate_callee (f := 10) rfl ?_); refine goesL_ (some 33) rfl rfl Tryd.func10 (by kernel_rfl) rfl #[.string t194] rfl (by (try simp only [List.map_toArray, List.map_cons, List.map_nil]); first | done | rfl | (simp only [List.length_drop, List.length_take]; rfl)) ?_; (with_reducible refine (lex_All.calls t194 t195 t196 t197 _ A13.out).mono ?_); rintro e w24 ⟨v198, rfl, ho0, hb⟩; refine ⟨_, rfl, ?_⟩; have n0_ := Aside0.mk (Kd.R_elder' (by (with_reducible repeat (first | apply Kd.R_alloc | apply Kd.R_drewN | apply Kd.R_drew)); exact HO193.out) (Kd.R_base ho0) hb); have n1_ := Aside0.mk (Kd.R_lower (Kd.R_new' ho0 (Kd.R_lt (by (with_reducible repeat (first | apply Kd.R_alloc | apply Kd.R_drewN | apply Kd.R_drew)); exact HO193.out))) (below_size (by repeat (first | (with_reducible first | exact HB.out | apply below_alloc | apply pw_below_drewN | apply below_drew1) | exact HB.out)))); have n2_ := Aside0.mk (below_step (by repeat (first | (with_reducible first | exact HB.out | apply below_alloc | apply pw_below_drewN | apply below_drew1) | exact HB.out)) hb); clear HO193; clear HB; have HO193 := n0_; have HO199 := n1_; have HB := n2_; clear n0_ n1_ n2_; (try clear hb); (try clear hb2); (try clear hk); (try clear hi); (try clear ho0)) | (go_at_call 17; (with_reducible refine (gossamerref01_Placeless.calls _ _ t189 t200 _ ?side1 ?side2 A16.out).mono ?_); (case side1 => repeat (first | exact (Kd.R_reads' HO193.out).2.2 | (with_reducible refine Kd.C_alloc ?_ _) | (with_reducible refine Kd.C_drewN ?_ _) | (with_reducible refine Kd.C_drew ?_))); (case side2 => exact (Kd.R_reads' HO193.out).2.1); rintro e w25 ⟨v201, rfl, ho0, hb⟩; have n0_ := Aside0.mk (Kd.R_elder' (by (with_reducible repeat (first | apply Kd.R_alloc | apply Kd.R_drewN | apply Kd.R_drew)); exact HO193.out) (Kd.R_base ho0) hb); have n1_ := Aside0.mk (Kd.R_elder' (by (with_reducible repeat (first | apply Kd.R_alloc | apply Kd.R_drewN | apply Kd.R_drew)); exact HO199.out) (Kd.R_base ho0) hb); have n2_ := Aside0.mk (Kd.R_lower (Kd.R_new' (Kd.R_new' ho0 (Kd.R_lt (by (with_reducible repeat (first | apply Kd.R_alloc | apply Kd.R_drewN | apply Kd.R_drew)); exact HO193.out))) (Kd.R_lt (by (with_reducible repeat (first | apply Kd.R_alloc | apply Kd.R_drewN | apply Kd.R_drew)); exact HO199.out))) (below_size (by repeat (first | (with_reducible first | exact HB.out | apply below_alloc | apply pw_below_drewN | apply below_drew1) | exact HB.out)))); have n3_ := Aside0.mk (below_step (by repeat (first | (with_reducible first | exact HB.out | apply below_alloc | apply pw_below_drewN | apply below_drew1) | exact HB.out)) hb); clear HO193; clear HO199; clear HB; have HO193 := n0_; have HO199 := n1_; have HO202 := n2_; have HB := n3_; clear n0_ n1_ n2_ n3_; (try clear hb); (try clear hb2); (try clear hk); (try clear hi); (try clear ho0); obtain ⟨Ao26, co26, eo26⟩ := Kd.R_slice HO199.out; subst eo26) | (go_at_call 17; (with_reducible refine (gossamerref01_Placeless.calls _ _ t195 t203 _ ?side1 ?side2 A17.out).mono ?_); (case side1 => repeat (first | exact (Kd.R_reads' HO199.out).2.2 | (with_reducible refine Kd.C_alloc ?_ _) | (with_reducible refine Kd.C_drewN ?_ _) | (with_reducible refine Kd.C_drew ?_))); (case side2 => exact (Kd.R_reads' HO199.out).2.1); rintro e w27 ⟨v204, rfl, ho0, hb⟩; have n0_ := Aside0.mk (Kd.R_elder' (by (with_reducible repeat (first | apply Kd.R_alloc | apply Kd.R_drewN | apply Kd.R_drew)); exact HO193.out) (Kd.R_base ho0) hb); have n1_ := Aside0.mk (Kd.R_elder' (by (with_reducible repeat (first | apply Kd.R_alloc | apply Kd.R_drewN | apply Kd.R_drew)); exact HO199.out) (Kd.R_base ho0) hb); have n2_ := Aside0.mk (Kd.R_elder' (by (with_reducible repeat (first | apply Kd.R_alloc | apply Kd.R_drewN | apply Kd.R_drew)); exact HO202.out) (Kd.R_base ho0) hb); have n3_ := Aside0.mk (Kd.R_lower (Kd.R_new' (Kd.R_new' (Kd.R_new' ho0 (Kd.R_lt (by (with_reducible repeat (first | apply Kd.R_alloc | apply Kd.R_drewN | apply Kd.R_drew)); exact HO193.out))) (Kd.R_lt (by (with_reducible repeat (first | apply Kd.R_alloc | apply Kd.R_drewN | apply Kd.R_drew)); exact HO199.out))) (Kd.R_lt (by (with_reducible repeat (first | apply Kd.R_alloc | apply Kd.R_drewN | apply Kd.R_drew)); exact HO202.out))) (below_size (by repeat (first | (with_reducible first | exact HB.out | apply below_alloc | apply pw_below_drewN | apply below_drew1) | exact HB.out)))); have n4_ := Aside0.mk (below_step (by repeat (first | (with_reducible first | exact HB.out | apply below_alloc | apply pw_below_drewN | apply below_drew1) | exact HB.out)) hb); clear HO193; clear HO199; clear HO202; clear HB; have HO193 := n0_; have HO199 := n1_; have HO202 := n2_; have HO205 := n3_; have HB := n4_; clear n0_ n1_ n2_ n3_ n4_; (try clear hb); (try clear hb2); (try clear hk); (try clear hi); (try clear ho0); obtain ⟨Ao28, co28, eo28⟩ := Kd.R_slice HO202.out; subst eo28; obtain ⟨Ao29, co29, eo29⟩ := Kd.R_slice HO205.out; subst eo29) | (go_at_call 12; (with_reducible refine (gossamerref01_Same.calls kj1 _ _ t200 _ _ t203 true _ ?side1 ?side2 ?side3 ?side4 A18.out).mono ?_); (case side1 => repeat (first | exact (Kd.R_reads' HO202.out).2.2 | (with_reducible refine Kd.C_alloc ?_ _) | (with_reducible refine Kd.C_drewN ?_ _) | (with_reducible refine Kd.C_drew ?_))); (case side2 => exact (Kd.R_reads' HO202.out).2.1); (case side3 => repeat (first | exact (Kd.R_reads' HO205.out).2.2 | (with_reducible refine Kd.C_alloc ?_ _) | (with_reducible refine Kd.C_drewN ?_ _) | (with_reducible refine Kd.C_drew ?_))); (case side4 => exact (Kd.R_reads' HO205.out).2.1); rintro e w' ⟨rfl, ⟨nd, rfl⟩⟩) | (go_at_call 13; (with_reducible refine (lex_Text.calls _ _ t195 t207 _ ?side1 ?side2 A20.out).mono ?_); (case side1 => repeat (first | exact (Kd.R_reads' HO199.out).2.2 | (with_reducible refine Kd.C_alloc ?_ _) | (with_reducible refine Kd.C_drewN ?_ _) | (with_reducible refine Kd.C_drew ?_))); (case side2 => exact (Kd.R_reads' HO199.out).2.1); rintro e w30 ⟨rfl, hb⟩; have n0_ := Aside0.mk (Kd.R_below (by (with_reducible repeat (first | apply Kd.R_alloc | apply Kd.R_drewN | apply Kd.R_drew)); exact HO193.out) hb); have n1_ := Aside0.mk (Kd.R_below (by (with_reducible repeat (first | apply Kd.R_alloc | apply Kd.R_drewN | apply Kd.R_drew)); exact HO199.out) hb); have n2_ := Aside0.mk (Kd.R_below (by (with_reducible repeat (first | apply Kd.R_alloc | apply Kd.R_drewN | apply Kd.R_drew)); exact HO202.out) hb); have n3_ := Aside0.mk (Kd.R_below (by (with_reducible repeat (first | apply Kd.R_alloc | apply Kd.R_drewN | apply Kd.R_drew)); exact HO205.out) hb); have n4_ := Aside0.mk (below_step (by repeat (first | (with_reducible first | exact HB.out | apply below_alloc | apply pw_below_drewN | apply below_drew1) | exact HB.out)) hb); clear HO193; clear HO199; clear HO202; clear HO205; clear HB; have HO193 := n0_; have HO199 := n1_; have HO202 := n2_; have HO205 := n3_; have HB := n4_; clear n0_ n1_ n2_ n3_ n4_; (try clear hb); (try clear hb2); (try clear hk); (try clear hi)))
                go_ret
                exact ⟨by first | rfl | (simp [errW_none, errW_some] <;> rfl) | (simp [*, errW_none, errW_some] <;> rfl), by repeat (first | (with_reducible first | exact HB.out | apply below_alloc | apply pw_below_drewN | apply below_drew1) | exact HB.out)⟩
              · replace c19 := Bool.eq_false_iff.mpr c19
                subst c19
                have H1 : (none) = some r := by rw [if_neg (show ¬ (false = true) by decide)] at H; exact H
                clear H
                have H := H1
                clear H1
                exact absurd H (by simp)
            · rw [if_neg c15] at H
              exact absurd H (by simp)
          · rw [if_neg c14] at H
            exact absurd H (by simp)
        · rw [if_neg c11] at H
          have c11b0 : (t191 == 0) = false := beq_eq_false_iff_ne.mpr c11
          have c11b1 : (t191 != 0) = true := bne_iff_ne.mpr c11
          obtain rfl := Option.some.inj H
          go_wp2_with (first | ((with_reducible refine gate_callee (f := 10) rfl ?_); refine goesL_ (some 20) rfl rfl Tryd.func10 (by kernel_rfl) rfl #[.string a0] rfl (by (try simp only [List.map_toArray, List.map_cons, List.map_nil]); first | done | rfl | (simp only [List.length_drop, List.length_take]; rfl)) ?_; (with_reducible refine (lex_All.calls a0 t189 t190 t191 _ A10.out).mono ?_); rintro e w31 ⟨v192, rfl, ho0, hb⟩; refine ⟨_, rfl, ?_⟩; have n0_ := Aside0.mk (Kd.R_lower ho0 (below_size (by repeat (first | (with_reducible first | exact HB.out | apply below_alloc | apply pw_below_drewN | apply below_drew1) | exact HB.out)))); have n1_ := Aside0.mk (below_step (by repeat (first | (with_reducible first | exact HB.out | apply below_alloc | apply pw_below_drewN | apply below_drew1) | exact HB.out)) hb); clear HB; have HO193 := n0_; have HB := n1_; clear n0_ n1_; (try clear hb); (try clear hb2); (try clear hk); (try clear hi); (try clear ho0); obtain ⟨Ao32, co32, eo32⟩ := Kd.R_slice HO193.out; subst eo32))
          go_ret
          exact ⟨by first | rfl | (simp [errW_none, errW_some] <;> rfl) | (simp [*, errW_none, errW_some] <;> rfl), by repeat (first | (with_reducible first | exact HB.out | apply below_alloc | apply pw_below_drewN | apply below_drew1) | exact HB.out)⟩

end Go.Proofs.YthgmpflfgicmbaaDoor.Q
