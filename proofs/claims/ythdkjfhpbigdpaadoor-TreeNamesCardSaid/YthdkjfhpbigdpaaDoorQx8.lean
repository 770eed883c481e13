-- Written for this claim by a program of this session.
import Derived.Test.YthdkjfhpbigdpaaDoorQx0
import Derived.Test.YthdkjfhpbigdpaaDoorQx7
namespace Go.Proofs.YthdkjfhpbigdpaaDoor.Q
open Go.RowKit Go.Proofs.YthdkjfhpbigdpaaDoorW.PrintWords Go.Proofs.YthdkjfhpbigdpaaDoorW.PrintLast Go.Proofs.YthdkjfhpbigdpaaDoorW.PrintMore
attribute [local go_sem] max2_int min2_int max_two min_two max_three min_three max_four min_four   -- for this text's walks alone
set_option linter.unusedVariables false
set_option linter.unusedSimpArgs false

/-! ### tree_token: function 34 -/
def tree_token.f (a0 : ByteArray) (a1 : Int) : Option (Bool) := (lex_All.f a0).bind fun bt125 => (if (bt125.1.length : Int) = 1 then (if 0 < (bt125.1.length : Int) then (if ((rd_T33 bt125.1 0).f0) = a1 then (some (((rd_T33 bt125.1 0).f1).toList == a0.toList)) else (some false)) else (none)) else (some false))
set_option maxHeartbeats 8000000 in
set_option maxRecDepth 100000 in
theorem tree_token.calls (a0 : ByteArray) (a1 : Int) (r : Bool) (w : World) (h : tree_token.f a0 a1 = some r) :
    Calls Tryd.prog 34 #[.string a0, .int .i64 a1] w fun e w' => e = .returned (.bool r) ∧ Below w.heap.size w w' := by
  have HB := Aside0.mk (Below.refl w.heap.size w)
  have H : ((lex_All.f a0).bind fun bt125 => (if (bt125.1.length : Int) = 1 then (if 0 < (bt125.1.length : Int) then (if ((rd_T33 bt125.1 0).f0) = a1 then (some (((rd_T33 bt125.1 0).f1).toList == a0.toList)) else (some false)) else (none)) else (some false))) = some r := h
  clear h
  replace H := Option.bind_eq_some_iff.mp H
  obtain ⟨⟨t125, t126, t127⟩, A30, H⟩ := H
  replace H : (if (t125.length : Int) = 1 then (if 0 < (t125.length : Int) then (if ((rd_T33 t125 0).f0) = a1 then (some (((rd_T33 t125 0).f1).toList == a0.toList)) else (some false)) else (none)) else (some false)) = some r := H
  have A3 := Aside0.mk A30
  clear A30
  by_cases c4 : (t125.length : Int) = 1
  · rw [if_pos c4] at H
    have c4b0 : ((t125.length : Int) == 1) = true := beq_iff_eq.mpr c4
    have c4b1 : ((t125.length : Int) != 1) = false := bne_eq_false_iff_eq.mpr c4
    clear c4
    by_cases c5 : 0 < (t125.length : Int)
    · rw [if_pos c5] at H
      have c5b0 : decide (0 < (t125.length : Int)) = true := decide_eq_true c5
      have c5b1 : decide (0 < t125.length) = true := decide_eq_true (by omega)
      clear c5
      by_cases c6 : ((rd_T33 t125 0).f0) = a1
      · rw [if_pos c6] at H
        have c6b0 : (((rd_T33 t125 0).f0) == a1) = true := beq_iff_eq.mpr c6
        have c6b1 : (((rd_T33 t125 0).f0) != a1) = false := bne_eq_false_iff_eq.mpr c6
        clear c6
        obtain rfl := Option.some.inj H
        go_enter Tryd.func34, Tryd.ntmps34
        go_wp2_with (first | ((with_reducible refine gate_callee (f := 38) rfl ?_); refine goesL_ (some 10) rfl rfl Tryd.func38 (by kernel_rfl) rfl #[.string a0] rfl (by (try simp only [List.map_toArray, List.map_cons, List.map_nil]); first | done | rfl | (simp only [List.length_drop, List.length_take]; rfl)) ?_; (with_reducible refine (lex_All.calls a0 t125 t126 t127 _ A3.out).mono ?_); rintro e w7 ⟨v128, rfl, ho0, hb⟩; refine ⟨_, rfl, ?_⟩; have n0_ := Aside0.mk (Kd.R_lower ho0 (below_size (by repeat (first | (with_reducible first | exact HB.out | apply below_alloc | apply pw_below_drewN | apply below_drew1) | exact HB.out)))); have n1_ := Aside0.mk (below_step (by repeat (first | (with_reducible first | exact HB.out | apply below_alloc | apply pw_below_drewN | apply below_drew1) | exact HB.out)) hb); clear HB; have HO129 := n0_; have HB := n1_; clear n0_ n1_; (try clear hb); (try clear hb2); (try clear hk); (try clear hi); (try clear ho0); obtain ⟨Ao8, co8, eo8⟩ := Kd.R_slice HO129.out; subst eo8; have p130 : 0 ≤ (0 : Int) := (by omega); have q130 : 0 < (t125.length : Int) := of_decide_eq_true (by first | (with_reducible assumption) | assumption); obtain ⟨ad130, e130, hx130_0, hx130_1, hx130_2, hx130_3⟩ := at_T33 (Kd.R_reads' HO129.out).2.2 0 p130 q130; cases e130; have qi130 : (0 < t125.length) = True := eq_true (by omega); (try rw [show ((0 : Int)).toNat = 0 from rfl] at hx130_0); (try rw [show 0 * 4 = 0 from rfl] at hx130_0); (try rw [Addr.add_zero'] at hx130_0); (try rw [show ((0 : Int)).toNat = 0 from rfl] at hx130_1); (try rw [show 0 * 4 = 0 from rfl] at hx130_1); (try rw [Addr.add_zero'] at hx130_1); (try rw [show ((0 : Int)).toNat = 0 from rfl] at hx130_2); (try rw [show 0 * 4 = 0 from rfl] at hx130_2); (try rw [Addr.add_zero'] at hx130_2); (try rw [show ((0 : Int)).toNat = 0 from rfl] at hx130_3); (try rw [show 0 * 4 = 0 from rfl] at hx130_3); (try rw [Addr.add_zero'] at hx130_3); replace p130 := eq_true p130; replace q130 := eq_true q130; have p131 : 0 ≤ (0 : Int) := (by omega); have q131 : 0 < (t125.length : Int) := of_decide_eq_true (by first | (with_reducible assumption) | assumption); obtain ⟨ad131, e131, hx131_0, hx131_1, hx131_2, hx131_3⟩ := at_T33 (Kd.R_reads' HO129.out).2.2 0 p131 q131; obtain rfl : ad130 = ad131 := (by injection e131); have qi131 : (0 < t125.length) = True := eq_true (by omega); (try rw [show ((0 : Int)).toNat = 0 from rfl] at hx131_0); (try rw [show 0 * 4 = 0 from rfl] at hx131_0); (try rw [Addr.add_zero'] at hx131_0); (try rw [show ((0 : Int)).toNat = 0 from rfl] at hx131_1); (try rw [show 0 * 4 = 0 from rfl] at hx131_1); (try rw [Addr.add_zero'] at hx131_1); (try rw [show ((0 : Int)).toNat = 0 from rfl] at hx131_2); (try rw [show 0 * 4 = 0 from rfl] at hx131_2); (try rw [Addr.add_zero'] at hx131_2); (try rw [show ((0 : Int)).toNat = 0 from rfl] at hx131_3); (try rw [show 0 * 4 = 0 from rfl] at hx131_3); (try rw [Addr.add_zero'] at hx131_3); replace p131 := eq_true p131; replace q131 := eq_true q131))
        go_ret
        exact ⟨by first | rfl | (simp [errW_none, errW_some] <;> rfl) | (simp [*, errW_none, errW_some] <;> rfl), by repeat (first | (with_reducible first | exact HB.out | apply below_alloc | apply pw_below_drewN | apply below_drew1) | exact HB.out)⟩
      · rw [if_neg c6] at H
        have c6b0 : (((rd_T33 t125 0).f0) == a1) = false := beq_eq_false_iff_ne.mpr c6
        have c6b1 : (((rd_T33 t125 0).f0) != a1) = true := bne_iff_ne.mpr c6
        obtain rfl := Option.some.inj H
        go_enter Tryd.func34, Tryd.ntmps34
        go_wp2_with (first | ((with_reducible refine gate_callee (f := 38) rfl ?_); refine goesL_ (some 10) rfl rfl Tryd.func38 (by kernel_rfl) rfl #[.string a0] rfl (by (try simp only [List.map_toArray, List.map_cons, List.map_nil]); first | done | rfl | (simp only [List.length_drop, List.length_take]; rfl)) ?_; (with_reducible refine (lex_All.calls a0 t125 t126 t127 _ A3.out).mono ?_); rintro e w9 ⟨v128, rfl, ho0, hb⟩; refine ⟨_, rfl, ?_⟩; have n0_ := Aside0.mk (Kd.R_lower ho0 (below_size (by repeat (first | (with_reducible first | exact HB.out | apply below_alloc | apply pw_below_drewN | apply below_drew1) | exact HB.out)))); have n1_ := Aside0.mk (below_step (by repeat (first | (with_reducible first | exact HB.out | apply below_alloc | apply pw_below_drewN | apply below_drew1) | exact HB.out)) hb); clear HB; have HO129 := n0_; have HB := n1_; clear n0_ n1_; (try clear hb); (try clear hb2); (try clear hk); (try clear hi); (try clear ho0); obtain ⟨Ao10, co10, eo10⟩ := Kd.R_slice HO129.out; subst eo10; have p130 : 0 ≤ (0 : Int) := (by omega); have q130 : 0 < (t125.length : Int) := of_decide_eq_true (by first | (with_reducible assumption) | assumption); obtain ⟨ad130, e130, hx130_0, hx130_1, hx130_2, hx130_3⟩ := at_T33 (Kd.R_reads' HO129.out).2.2 0 p130 q130; cases e130; have qi130 : (0 < t125.length) = True := eq_true (by omega); (try rw [show ((0 : Int)).toNat = 0 from rfl] at hx130_0); (try rw [show 0 * 4 = 0 from rfl] at hx130_0); (try rw [Addr.add_zero'] at hx130_0); (try rw [show ((0 : Int)).toNat = 0 from rfl] at hx130_1); (try rw [show 0 * 4 = 0 from rfl] at hx130_1); (try rw [Addr.add_zero'] at hx130_1); (try rw [show ((0 : Int)).toNat = 0 from rfl] at hx130_2); (try rw [show 0 * 4 = 0 from rfl] at hx130_2); (try rw [Addr.add_zero'] at hx130_2); (try rw [show ((0 : Int)).toNat = 0 from rfl] at hx130_3); (try rw [show 0 * 4 = 0 from rfl] at hx130_3); (try rw [Addr.add_zero'] at hx130_3); replace p130 := eq_true p130; replace q130 := eq_true q130))
        go_ret
        exact ⟨by first | rfl | (simp [errW_none, errW_some] <;> rfl) | (simp [*, errW_none, errW_some] <;> rfl), by repeat (first | (with_reducible first | exact HB.out | apply below_alloc | apply pw_below_drewN | apply below_drew1) | exact HB.out)⟩
    · rw [if_neg c5] at H
      exact absurd H (by simp)
  · rw [if_neg c4] at H
    have c4b0 : ((t125.length : Int) == 1) = false := beq_eq_false_iff_ne.mpr c4
    have c4b1 : ((t125.length : Int) != 1) = true := bne_iff_ne.mpr c4
    obtain rfl := Option.some.inj H
    go_enter Tryd.func34, Tryd.ntmps34
    go_wp2_with (first | ((with_reducible refine gate_callee (f := 38) rfl ?_); refine goesL_ (some 10) rfl rfl Tryd.func38 (by kernel_rfl) rfl #[.string a0] rfl (by (try simp only [List.map_toArray, List.map_cons, List.map_nil]); first | done | rfl | (simp only [List.length_drop, List.length_take]; rfl)) ?_; (with_reducible refine (lex_All.calls a0 t125 t126 t127 _ A3.out).mono ?_); rintro e w11 ⟨v128, rfl, ho0, hb⟩; refine ⟨_, rfl, ?_⟩; have n0_ := Aside0.mk (Kd.R_lower ho0 (below_size (by repeat (first | (with_reducible first | exact HB.out | apply below_alloc | apply pw_below_drewN | apply below_drew1) | exact HB.out)))); have n1_ := Aside0.mk (below_step (by repeat (first | (with_reducible first | exact HB.out | apply below_alloc | apply pw_below_drewN | apply below_drew1) | exact HB.out)) hb); clear HB; have HO129 := n0_; have HB := n1_; clear n0_ n1_; (try clear hb); (try clear hb2); (try clear hk); (try clear hi); (try clear ho0); obtain ⟨Ao12, co12, eo12⟩ := Kd.R_slice HO129.out; subst eo12))
    go_ret
    exact ⟨by first | rfl | (simp [errW_none, errW_some] <;> rfl) | (simp [*, errW_none, errW_some] <;> rfl), by repeat (first | (with_reducible first | exact HB.out | apply below_alloc | apply pw_below_drewN | apply below_drew1) | exact HB.out)⟩

end Go.Proofs.YthdkjfhpbigdpaaDoor.Q
