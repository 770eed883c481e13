-- Written for this claim: several texts in one.
import Derived.Test.YtnjmilelifmfpaaGreatDoorKHeadW1
import Derived.Test.YtnjmilelifmfpaaGreatDoorKHeadW2
import Derived.Shelf.GgClosure.StringsIndexFunc
import Derived.Laws.RangeString
import Derived.Laws.RangeAny
import Derived.Lib.Atoi
import Derived.Lib.SlTrimSet
import Derived.Shelf.Strings.Trim
import Derived.Shelf.Small.Utf8
import Derived.Shelf.Small.Strs
import Derived.Shelf.Strconv.Atoi
import Derived.Shelf.Strconv.Itoa0
import Derived.Shelf.Strings.Search1
import Derived.Ground.GgwProg
import Derived.Shelf.GgClosure.StringsIndexFuncTop
import Derived.Shelf.Strings.Runes
import Derived.Shelf.Strings.AsciiSet
import Derived.Shelf.Unicode.DecodeSlow
import Derived.Shelf.Slices.Turned
import Derived.Shelf.Strings.SlTrimAscii
import Derived.Test.YtnjmilelifmfpaaGreatDoorProg
import Derived.Below
import Derived.OwnWalk
import Derived.Tactics
import Derived.Tactics2
import Derived.Laws.Slices
import Derived.WalkKit
import Derived.KernelRfl
import Derived.Deep.LoopGhost
import Derived.Deep.QuietTactic
import Derived.BigQuiet
import Derived.WideLaws
import Derived.Outline
import Derived.Laws.Rows
import Derived.Test.YtnjmilelifmfpaaGreatDoorYHeadWMore
import Derived.WalkSmall
import Derived.Defers
import Derived.Recover
import Derived.Laws.Pointers
import Derived.RegionTactic
import Derived.ChangeAlike
import Derived.Deep.DeepCutAuto
import Derived.Deep.CutBlock
import Derived.Laws.NewBlocks
import Derived.Deep.RegionWith
set_option linter.unusedSimpArgs false
set_option linter.unusedVariables false
namespace Go.Proofs.YtnjmilelifmfpaaGreatDoor.Q
open Go.RowKit Go.Proofs.YtnjmilelifmfpaaGreatDoorW.PrintWords Go.Proofs.YtnjmilelifmfpaaGreatDoorW.PrintLast Go.Proofs.YtnjmilelifmfpaaGreatDoorW.PrintMore
attribute [local go_sem] max2_int min2_int max_two min_two max_three min_three max_four min_four
set_option linter.unusedVariables false
set_option linter.unusedSimpArgs false

def gossamerref01_run.l0 : Nat → ByteArray → Int → Int → Bool → Option (Int × Bool)
 | 0, _, _, _, _ => none
 | k + 1, x0, x1, x6, x7 => if (wrap64 (x1 + x6)) < (x0.size : Int) then (if 0 ≤ (wrap64 (x1 + x6)) then ((gossamerref01_class.f k (bt x0 (wrap64 (x1 + x6)))).bind fun t173 => (if t173 < 1 then (some (x6, x7)) else (if t173 > 3 then (some (x6, x7)) else (if x7 = true then (gossamerref01_run.l0 k x0 x1 (wrap64 (x6 + 1)) true) else (gossamerref01_run.l0 k x0 x1 (wrap64 (x6 + 1)) (decide (t173 < 3))))))) else (none)) else (some (x6, x7))
def gossamerref01_run.f (k : Nat) (a0 : ByteArray) (a1 : Int) : Option (Int × Bool) := gossamerref01_run.l0 k a0 a1 0 false
theorem gossamerref01_run.mono_l : ∀ k, (∀ y0 y1 y2 y3, LeO (gossamerref01_run.l0 k y0 y1 y2 y3) (gossamerref01_run.l0 (k + 1) y0 y1 y2 y3))
 | 0 => fun _ _ _ _ r h => by simp [gossamerref01_run.l0] at h
 | k + 1 => by
  have ih0 := gossamerref01_run.mono_l k
  ·intro y0 y1 y2 y3
   unfold gossamerref01_run.l0
   repeat' first
   | (with_reducible exact ih0 _ _ _ _)
   | (with_reducible exact gossamerref01_class.mono _ _)
   | (with_reducible exact LeO.refl _)
   | (with_reducible exact LeO.none _)
   | (with_reducible refine LeO.ite ?_ ?_)
   | (with_reducible refine LeO.bind ?_ (fun _ => ?_))
   | exact ih0 _ _ _ _
   | exact gossamerref01_class.mono _ _
   | exact LeO.none _
   | refine LeO.ite ?_ ?_
   | refine LeO.bind ?_ (fun _ => ?_)
theorem gossamerref01_run.mono : ∀ a0 a1 k, LeO (gossamerref01_run.f k a0 a1) (gossamerref01_run.f (k + 1) a0 a1) := by
 intro a0 a1 k
 have ih0 := gossamerref01_run.mono_l k
 unfold gossamerref01_run.f
 repeat' first
   | (with_reducible exact ih0 _ _ _ _)
   | (with_reducible exact gossamerref01_class.mono _ _)
   | (with_reducible exact LeO.refl _)
   | (with_reducible exact LeO.none _)
   | (with_reducible refine LeO.ite ?_ ?_)
   | (with_reducible refine LeO.bind ?_ (fun _ => ?_))
   | exact ih0 _ _ _ _
   | exact gossamerref01_class.mono _ _
   | exact LeO.none _
   | refine LeO.ite ?_ ?_
   | refine LeO.bind ?_ (fun _ => ?_)
set_option maxHeartbeats 8000000 in
set_option maxRecDepth 100000 in
theorem gossamerref01_run.calls (k : Nat) (a0 : ByteArray) (a1 : Int) (r1 : Int) (r2 : Bool) (w : World) (h : gossamerref01_run.f k a0 a1 = some (r1, r2)) :
  Calls Tryz.prog 96 #[.string a0, .int .i64 a1] w fun e w' => e = .returned (.tuple #[.int .i64 r1, .bool r2]) ∧ Drawn0 w w' := by
 have H : (gossamerref01_run.l0 k a0 a1 0 false) = some (r1, r2) := h
 clear h
 have H' := Aside0.mk H
 clear H
 go_enter Tryz.func96, Tryz.ntmps96
 go_wp2
 go_loopg [6, 7] k (fun kq v6 v7 w' => ∃ (x6_1 : Int) (x7_1 : Bool), v6 = .int .i64 x6_1 ∧ v7 = .bool x7_1 ∧ Aside0 (gossamerref01_run.l0 kq a0 a1 x6_1 x7_1 = some (r1, r2)) ∧ Aside0 (kq ≤ k) ∧ Drawn0 w w')
 case atStart => exact ⟨(0), (false), (by first|rfl|(simp; done)|(simp [*]; done)), (by first|rfl|(simp; done)|(simp [*]; done)), H', ⟨Nat.le_refl _⟩, by repeat (first|exact Drawn0.refl _|apply Drawn0.step)⟩
 case round =>
  clear H'
  try clear p2
  obtain ⟨x6_1, x7_1, rfl, rfl, HA, HK1, ⟨m1, rfl⟩⟩ := hrel
  cases gk with
  | zero => exact absurd HA.out (by simp [gossamerref01_run.l0])
  | succ k1 =>
   have H := HA.out
   clear HA
   simp only [gossamerref01_run.l0] at H
   by_cases c3 : (wrap64 (a1 + x6_1)) < (a0.size : Int)
   ·rw [if_pos c3] at H
    have c3b0 : decide ((wrap64 (a1 + x6_1)) < (a0.size : Int)) = true := decide_eq_true c3
    clear c3
    obtain ⟨ji4, hji4⟩ : ∃ j_ : Int, (wrap64 (a1 + x6_1)) = j_ := ⟨_, rfl⟩
    replace H : (if 0 ≤ (ji4) then ((gossamerref01_class.f k1 (bt a0 (ji4))).bind fun t173 => (if t173 < 1 then (some (x6_1, x7_1)) else (if t173 > 3 then (some (x6_1, x7_1)) else (if x7_1 = true then (gossamerref01_run.l0 k1 a0 a1 (wrap64 (x6_1 + 1)) true) else (gossamerref01_run.l0 k1 a0 a1 (wrap64 (x6_1 + 1)) (decide (t173 < 3))))))) else (none)) = some (r1, r2) := by first | (rw [hji4] at H; exact H)|(simp only [hji4] at H ⊢; exact H)
    (try rw [hji4] at c3b0)
    have hji4w : (IntKind.i64.wrap (a1 + x6_1)) = ji4 := (i64_w _).trans hji4
    by_cases c5 : 0 ≤ (ji4)
    ·rw [if_pos c5] at H
     have c5b0 : decide (0 ≤ (ji4)) = true := decide_eq_true c5
     clear c5
     replace H := Option.bind_eq_some_iff.mp H
     obtain ⟨t173, A70, H⟩ := H
     replace H : (if t173 < 1 then (some (x6_1, x7_1)) else (if t173 > 3 then (some (x6_1, x7_1)) else (if x7_1 = true then (gossamerref01_run.l0 k1 a0 a1 (wrap64 (x6_1 + 1)) true) else (gossamerref01_run.l0 k1 a0 a1 (wrap64 (x6_1 + 1)) (decide (t173 < 3)))))) = some (r1, r2) := H
     have A7 := Aside0.mk A70
     clear A70
     by_cases c8 : t173 < 1
     ·rw [if_pos c8] at H
      have c8b0 : decide (t173 < 1) = true := decide_eq_true c8
      clear c8
      simp only [Option.some.injEq, Prod.mk.injEq] at H
      obtain ⟨rfl, rfl⟩ := H
      have p6 : 0 ≤ ((ji4) : Int) := of_decide_eq_true (by first|(with_reducible assumption) | assumption)
      have q6 : (ji4) < (a0.size : Int) := of_decide_eq_true (by first|(with_reducible assumption) | assumption)
      have hx6 := bt_at a0 (ji4)
      replace p6 := eq_true p6
      replace q6 := eq_true q6
      go_wp2_with (first|((with_reducible refine gate_callee (f := 67) rfl ?_); refine goesL_ (some 20) rfl rfl Tryz.func67 (by kernel_rfl) rfl #[.int .u8 (bt a0 (ji4))] rfl (by (try simp only [List.map_toArray, List.map_cons, List.map_nil]); first|done|(simp only [hji4]; rfl)|rfl|(simp only [List.length_drop, List.length_take]; rfl)) ?_; (with_reducible refine (gossamerref01_class.calls k1 (bt a0 (ji4)) t173 _ A7.out).mono ?_); rintro e w' ⟨rfl, ⟨nd, rfl⟩⟩; refine ⟨_, rfl, ?_⟩))
      go_ret2
      exact ⟨by first|rfl|(simp; done)|(simp only [← hji4] <;> (first|rfl | simp))|(simp [*]; done), by repeat (first|exact Drawn0.refl _|apply Drawn0.step)⟩
     ·rw [if_neg c8] at H
      have c8b0 : decide (t173 < 1) = false := decide_eq_false c8
      clear c8
      by_cases c9 : t173 > 3
      ·rw [if_pos c9] at H
       have c9b0 : decide (3 < t173) = true := decide_eq_true c9
       clear c9
       simp only [Option.some.injEq, Prod.mk.injEq] at H
       obtain ⟨rfl, rfl⟩ := H
       have p6 : 0 ≤ ((ji4) : Int) := of_decide_eq_true (by first|(with_reducible assumption) | assumption)
       have q6 : (ji4) < (a0.size : Int) := of_decide_eq_true (by first|(with_reducible assumption) | assumption)
       have hx6 := bt_at a0 (ji4)
       replace p6 := eq_true p6
       replace q6 := eq_true q6
       go_wp2_with (first|((with_reducible refine gate_callee (f := 67) rfl ?_); refine goesL_ (some 20) rfl rfl Tryz.func67 (by kernel_rfl) rfl #[.int .u8 (bt a0 (ji4))] rfl (by (try simp only [List.map_toArray, List.map_cons, List.map_nil]); first|done|(simp only [hji4]; rfl)|rfl|(simp only [List.length_drop, List.length_take]; rfl)) ?_; (with_reducible refine (gossamerref01_class.calls k1 (bt a0 (ji4)) t173 _ A7.out).mono ?_); rintro e w' ⟨rfl, ⟨nd, rfl⟩⟩; refine ⟨_, rfl, ?_⟩))
       go_ret2
       exact ⟨by first|rfl|(simp; done)|(simp only [← hji4] <;> (first|rfl | simp))|(simp [*]; done), by repeat (first|exact Drawn0.refl _|apply Drawn0.step)⟩
      ·rw [if_neg c9] at H
       have c9b0 : decide (3 < t173) = false := decide_eq_false c9
       clear c9
       by_cases c10 : x7_1 = true
       ·subst c10
        have H1 : (gossamerref01_run.l0 k1 a0 a1 (wrap64 (x6_1 + 1)) true) = some (r1, r2) := by rw [if_pos rfl] at H; exact H
        clear H
        have H := H1
        clear H1
        have H' := Aside0.mk H
        clear H
        have p6 : 0 ≤ ((ji4) : Int) := of_decide_eq_true (by first|(with_reducible assumption) | assumption)
        have q6 : (ji4) < (a0.size : Int) := of_decide_eq_true (by first|(with_reducible assumption) | assumption)
        have hx6 := bt_at a0 (ji4)
        replace p6 := eq_true p6
        replace q6 := eq_true q6
        go_wp2_with (first|((with_reducible refine gate_callee (f := 67) rfl ?_); refine goesL_ (some 20) rfl rfl Tryz.func67 (by kernel_rfl) rfl #[.int .u8 (bt a0 (ji4))] rfl (by (try simp only [List.map_toArray, List.map_cons, List.map_nil]); first|done|(simp only [hji4]; rfl)|rfl|(simp only [List.length_drop, List.length_take]; rfl)) ?_; (with_reducible refine (gossamerref01_class.calls k1 (bt a0 (ji4)) t173 _ A7.out).mono ?_); rintro e w' ⟨rfl, ⟨nd, rfl⟩⟩; refine ⟨_, rfl, ?_⟩))
        go_roundg k1
        case measure => have := HK1.out; omega
        case rel => exact ⟨(wrap64 (x6_1 + 1)), (true), (by first|rfl|(simp; done)|(simp [*]; done)), (by first|rfl|(simp; done)|(simp [*]; done)), H', ⟨by have := HK1.out; omega⟩, by repeat (first|exact Drawn0.refl _|apply Drawn0.step)⟩
       ·replace c10 := Bool.eq_false_iff.mpr c10
        subst c10
        have H1 : (gossamerref01_run.l0 k1 a0 a1 (wrap64 (x6_1 + 1)) (decide (t173 < 3))) = some (r1, r2) := by rw [if_neg (show ¬ (false = true) by decide)] at H; exact H
        clear H
        have H := H1
        clear H1
        have H' := Aside0.mk H
        clear H
        have p6 : 0 ≤ ((ji4) : Int) := of_decide_eq_true (by first|(with_reducible assumption) | assumption)
        have q6 : (ji4) < (a0.size : Int) := of_decide_eq_true (by first|(with_reducible assumption) | assumption)
        have hx6 := bt_at a0 (ji4)
        replace p6 := eq_true p6
        replace q6 := eq_true q6
        go_wp2_with (first|((with_reducible refine gate_callee (f := 67) rfl ?_); refine goesL_ (some 20) rfl rfl Tryz.func67 (by kernel_rfl) rfl #[.int .u8 (bt a0 (ji4))] rfl (by (try simp only [List.map_toArray, List.map_cons, List.map_nil]); first|done|(simp only [hji4]; rfl)|rfl|(simp only [List.length_drop, List.length_take]; rfl)) ?_; (with_reducible refine (gossamerref01_class.calls k1 (bt a0 (ji4)) t173 _ A7.out).mono ?_); rintro e w' ⟨rfl, ⟨nd, rfl⟩⟩; refine ⟨_, rfl, ?_⟩))
        go_roundg k1
        case measure => have := HK1.out; omega
        case rel => exact ⟨(wrap64 (x6_1 + 1)), (decide (t173 < 3)), (by first|rfl|(simp; done)|(simp [*]; done)), (by first|rfl|(simp; done)|(simp [*]; done)), H', ⟨by have := HK1.out; omega⟩, by repeat (first|exact Drawn0.refl _|apply Drawn0.step)⟩
    ·rw [if_neg c5] at H
     exact absurd H (by simp)
   ·rw [if_neg c3] at H
    have c3b0 : decide ((wrap64 (a1 + x6_1)) < (a0.size : Int)) = false := decide_eq_false c3
    clear c3
    simp only [Option.some.injEq, Prod.mk.injEq] at H
    obtain ⟨rfl, rfl⟩ := H
    go_wp2
    go_ret2
    exact ⟨by first|rfl|(simp; done)|(simp [*]; done), by repeat (first|exact Drawn0.refl _|apply Drawn0.step)⟩

end Go.Proofs.YtnjmilelifmfpaaGreatDoor.Q

namespace Go.Proofs.YtnjmilelifmfpaaGreatDoor.Q
open Go.RowKit Go.Proofs.YtnjmilelifmfpaaGreatDoorW.PrintWords Go.Proofs.YtnjmilelifmfpaaGreatDoorW.PrintLast Go.Proofs.YtnjmilelifmfpaaGreatDoorW.PrintMore
attribute [local go_sem] max2_int min2_int max_two min_two max_three min_three max_four min_four
set_option linter.unusedVariables false
set_option linter.unusedSimpArgs false

mutual
def gossamerref01_sign.j0 : Nat → ByteArray → Int → Bool → Option (Int)
 | 0, _, _, _ => none
 | k + 1, x0, x1, x26 => if x26 = true then (some 2) else (gossamerref01_sign.l0 k x0 x1 0)
def gossamerref01_sign.l0 : Nat → ByteArray → Int → Int → Option (Int)
 | 0, _, _, _ => none
 | k + 1, x0, x1, x5 => if x5 < 13 then (if 0 ≤ x5 then (if 0 ≤ x1 then (if x1 < (x0.size : Int) then (if (bt (⟨#[92, 46, 40, 41, 61, 123, 125, 124, 43, 45, 42, 47, 60]⟩ : ByteArray) x5) = (bt x0 x1) then (some 1) else (gossamerref01_sign.l0 k x0 x1 (wrap64 (x5 + 1)))) else (none)) else (none)) else (none)) else (some 0)
end
def gossamerref01_sign.f (k : Nat) (a0 : ByteArray) (a1 : Int) : Option (Int) := if (wrap64 (a1 + 1)) < (a0.size : Int) then (if 0 ≤ a1 then (if a1 ≤ (wrap64 (a1 + 2)) then (if (wrap64 (a1 + 2)) ≤ (a0.size : Int) then (if (a0.extract (a1 : Int).toNat ((wrap64 (a1 + 2)) : Int).toNat).toList = ([45, 62] : List UInt8) then (gossamerref01_sign.j0 k a0 a1 true) else (gossamerref01_sign.j0 k a0 a1 ((a0.extract (a1 : Int).toNat ((wrap64 (a1 + 2)) : Int).toNat).toList == ([61, 61] : List UInt8)))) else (none)) else (none)) else (none)) else (gossamerref01_sign.j0 k a0 a1 false)
theorem gossamerref01_sign.mono_l : ∀ k, (∀ y0 y1 y2, LeO (gossamerref01_sign.j0 k y0 y1 y2) (gossamerref01_sign.j0 (k + 1) y0 y1 y2)) ∧ (∀ y0 y1 y2, LeO (gossamerref01_sign.l0 k y0 y1 y2) (gossamerref01_sign.l0 (k + 1) y0 y1 y2))
 | 0 => ⟨fun _ _ _ r h => by simp [gossamerref01_sign.j0] at h, fun _ _ _ r h => by simp [gossamerref01_sign.l0] at h⟩
 | k + 1 => by
  obtain ⟨ih0, ih1⟩ := gossamerref01_sign.mono_l k
  refine ⟨?_, ?_⟩
  ·intro y0 y1 y2
   unfold gossamerref01_sign.j0
   repeat' first
   | (with_reducible exact ih0 _ _ _)
   | (with_reducible exact ih1 _ _ _)
   | (with_reducible exact LeO.refl _)
   | (with_reducible exact LeO.none _)
   | (with_reducible refine LeO.ite ?_ ?_)
   | (with_reducible refine LeO.bind ?_ (fun _ => ?_))
   | exact ih0 _ _ _
   | exact ih1 _ _ _
   | exact LeO.none _
   | refine LeO.ite ?_ ?_
   | refine LeO.bind ?_ (fun _ => ?_)
  ·intro y0 y1 y2
   unfold gossamerref01_sign.l0
   repeat' first
   | (with_reducible exact ih0 _ _ _)
   | (with_reducible exact ih1 _ _ _)
   | (with_reducible exact LeO.refl _)
   | (with_reducible exact LeO.none _)
   | (with_reducible refine LeO.ite ?_ ?_)
   | (with_reducible refine LeO.bind ?_ (fun _ => ?_))
   | exact ih0 _ _ _
   | exact ih1 _ _ _
   | exact LeO.none _
   | refine LeO.ite ?_ ?_
   | refine LeO.bind ?_ (fun _ => ?_)
theorem gossamerref01_sign.mono : ∀ a0 a1 k, LeO (gossamerref01_sign.f k a0 a1) (gossamerref01_sign.f (k + 1) a0 a1) := by
 intro a0 a1 k
 obtain ⟨ih0, ih1⟩ := gossamerref01_sign.mono_l k
 unfold gossamerref01_sign.f
 repeat' first
   | (with_reducible exact ih0 _ _ _)
   | (with_reducible exact ih1 _ _ _)
   | (with_reducible exact LeO.refl _)
   | (with_reducible exact LeO.none _)
   | (with_reducible refine LeO.ite ?_ ?_)
   | (with_reducible refine LeO.bind ?_ (fun _ => ?_))
   | exact ih0 _ _ _
   | exact ih1 _ _ _
   | exact LeO.none _
   | refine LeO.ite ?_ ?_
   | refine LeO.bind ?_ (fun _ => ?_)
set_option maxHeartbeats 8000000 in
set_option maxRecDepth 100000 in
theorem gossamerref01_sign.calls (k : Nat) (a0 : ByteArray) (a1 : Int) (r : Int) (w : World) (h : gossamerref01_sign.f k a0 a1 = some r) :
  Calls Tryz.prog 97 #[.string a0, .int .i64 a1] w fun e w' => e = .returned (.int .i64 r) ∧ Drawn0 w w' := by
 have H : (if (wrap64 (a1 + 1)) < (a0.size : Int) then (if 0 ≤ a1 then (if a1 ≤ (wrap64 (a1 + 2)) then (if (wrap64 (a1 + 2)) ≤ (a0.size : Int) then (if (a0.extract (a1 : Int).toNat ((wrap64 (a1 + 2)) : Int).toNat).toList = ([45, 62] : List UInt8) then (gossamerref01_sign.j0 k a0 a1 true) else (gossamerref01_sign.j0 k a0 a1 ((a0.extract (a1 : Int).toNat ((wrap64 (a1 + 2)) : Int).toNat).toList == ([61, 61] : List UInt8)))) else (none)) else (none)) else (none)) else (gossamerref01_sign.j0 k a0 a1 false)) = some r := h
 clear h
 have HC3 := Aside0.mk H
 clear H
 go_enter Tryz.func97, Tryz.ntmps97
 go_upto_region 1 with (fail)
 repeat (go_quiet (fail); go_upto_region 1 with (fail))
 go_cut [26] (fun v26 wc => ∃ (kq : Nat) (x26_2 : Bool), v26 = .bool x26_2 ∧ Aside0 (gossamerref01_sign.j0 kq a0 a1 x26_2 = some r) ∧ Aside0 (kq ≤ k) ∧ Drawn0 w wc)
 case first =>
  have H := HC3.out
  clear HC3
  by_cases c4 : (wrap64 (a1 + 1)) < (a0.size : Int)
  ·rw [if_pos c4] at H
   have c4b0 : decide ((wrap64 (a1 + 1)) < (a0.size : Int)) = true := decide_eq_true c4
   clear c4
   (first|rw [c4b0]|(simp only [i64_w, i32_w]; rw [c4b0]) | skip)
   by_cases c5 : 0 ≤ a1
   ·rw [if_pos c5] at H
    have c5b0 := eq_true c5
    have c5b1 : decide (0 ≤ a1) = true := decide_eq_true c5
    clear c5
    by_cases c6 : a1 ≤ (wrap64 (a1 + 2))
    ·rw [if_pos c6] at H
     have c6b0 := eq_true c6
     have c6b1 : decide (a1 ≤ (wrap64 (a1 + 2))) = true := decide_eq_true c6
     by_cases c7 : (wrap64 (a1 + 2)) ≤ (a0.size : Int)
     ·rw [if_pos c7] at H
      have c7b0 := eq_true c7
      have c7b1 : decide ((wrap64 (a1 + 2)) ≤ (a0.size : Int)) = true := decide_eq_true c7
      by_cases c8 : (a0.extract (a1 : Int).toNat ((wrap64 (a1 + 2)) : Int).toNat).toList = ([45, 62] : List UInt8)
      ·rw [if_pos c8] at H
       have c8b0 : ((a0.extract (a1 : Int).toNat ((wrap64 (a1 + 2)) : Int).toNat).toList == ([45, 62] : List UInt8)) = true := beq_iff_eq.mpr c8
       have c8b1 : ((a0.extract (a1 : Int).toNat ((wrap64 (a1 + 2)) : Int).toNat).toList != ([45, 62] : List UInt8)) = false := bne_eq_false_iff_eq.mpr c8
       clear c8
       have H' := Aside0.mk H
       clear H
       go_wp2
       repeat (go_quiet (fail); try go_wp2)
       go_meet
       case rel => exact ⟨_, (true), (by first|rfl|(simp; done)|(simp [*]; done)), H', ⟨by first | omega|exact Nat.le_refl _⟩, by repeat (first|exact Drawn0.refl _|apply Drawn0.step)⟩
      ·rw [if_neg c8] at H
       have c8b0 : ((a0.extract (a1 : Int).toNat ((wrap64 (a1 + 2)) : Int).toNat).toList == ([45, 62] : List UInt8)) = false := beq_eq_false_iff_ne.mpr c8
       have c8b1 : ((a0.extract (a1 : Int).toNat ((wrap64 (a1 + 2)) : Int).toNat).toList != ([45, 62] : List UInt8)) = true := bne_iff_ne.mpr c8
       have c9b0 := eq_true (of_decide_eq_true (by first|(with_reducible assumption) | assumption) : 0 ≤ a1)
       have c10b0 := eq_true (of_decide_eq_true (by first|(with_reducible assumption) | assumption) : a1 ≤ (wrap64 (a1 + 2)))
       have c11b0 := eq_true (of_decide_eq_true (by first|(with_reducible assumption) | assumption) : (wrap64 (a1 + 2)) ≤ (a0.size : Int))
       have H' := Aside0.mk H
       clear H
       go_wp2
       repeat (go_quiet (fail); try go_wp2)
       go_meet
       case rel => exact ⟨_, (((a0.extract (a1 : Int).toNat ((wrap64 (a1 + 2)) : Int).toNat).toList == ([61, 61] : List UInt8))), (by first|rfl|(simp; done)|(simp [*]; done)), H', ⟨by first | omega|exact Nat.le_refl _⟩, by repeat (first|exact Drawn0.refl _|apply Drawn0.step)⟩
     ·rw [if_neg c7] at H
      exact absurd H (by simp)
    ·rw [if_neg c6] at H
     exact absurd H (by simp)
   ·rw [if_neg c5] at H
    exact absurd H (by simp)
  ·rw [if_neg c4] at H
   have c4b0 : decide ((wrap64 (a1 + 1)) < (a0.size : Int)) = false := decide_eq_false c4
   clear c4
   (first|rw [c4b0]|(simp only [i64_w, i32_w]; rw [c4b0]) | skip)
   have H' := Aside0.mk H
   clear H
   go_wp2
   repeat (go_quiet (fail); try go_wp2)
   go_meet
   case rel => exact ⟨_, (false), (by first|rfl|(simp; done)|(simp [*]; done)), H', ⟨by first | omega|exact Nat.le_refl _⟩, by repeat (first|exact Drawn0.refl _|apply Drawn0.step)⟩
 case rest =>
  clear HC3
  try clear c1
  try clear p2
  try clear c4
  try clear c4b0
  try clear c5
  try clear c5b0
  try clear c5b1
  try clear c6
  try clear c6b0
  try clear c6b1
  try clear p6
  try clear c7
  try clear c7b0
  try clear c7b1
  try clear c8
  try clear c8b0
  try clear c8b1
  try clear c9
  try clear c9b0
  try clear c10
  try clear c10b0
  try clear c11
  try clear c11b0
  obtain ⟨kq, x26_2, rfl, HA, HJ2, ⟨mc2, rfl⟩⟩ := hcut
  cases kq with
  | zero => exact absurd HA.out (by simp [gossamerref01_sign.j0])
  | succ kj2 =>
   have H := HA.out
   clear HA
   simp only [gossamerref01_sign.j0] at H
   by_cases c12 : x26_2 = true
   ·subst c12
    have H1 : (some 2) = some r := by rw [if_pos rfl] at H; exact H
    clear H
    have H := H1
    clear H1
    obtain rfl := Option.some.inj H
    go_wp2
    repeat (go_quiet (fail); try go_wp2)
    go_ret
    exact ⟨by first|rfl|(simp; done)|(simp [*]; done), by repeat (first|exact Drawn0.refl _|apply Drawn0.step)⟩
   ·replace c12 := Bool.eq_false_iff.mpr c12
    subst c12
    have H1 : (gossamerref01_sign.l0 kj2 a0 a1 0) = some r := by rw [if_neg (show ¬ (false = true) by decide)] at H; exact H
    clear H
    have H := H1
    clear H1
    have H' := Aside0.mk H
    clear H
    go_wp2
    repeat (go_quiet (fail); try go_wp2)
    go_loopg [5] kj2 (fun kq v5 w' => ∃ (x5_2 : Int), v5 = .int .i64 x5_2 ∧ Aside0 (gossamerref01_sign.l0 kq a0 a1 x5_2 = some r) ∧ Aside0 (kq ≤ kj2) ∧ Drawn0 w w')
    case atStart => exact ⟨(0), (by first|rfl|(simp; done)|(simp [*]; done)), H', ⟨Nat.le_refl _⟩, by repeat (first|exact Drawn0.refl _|apply Drawn0.step)⟩
    case round =>
     clear H'
     try clear c1
     try clear c2
     try clear p2
     try clear c4
     try clear c4b0
     try clear c5
     try clear c5b0
     try clear c5b1
     try clear c6
     try clear c6b0
     try clear c6b1
     try clear p6
     try clear c7
     try clear c7b0
     try clear c7b1
     try clear c8
     try clear c8b0
     try clear c8b1
     try clear c9
     try clear c9b0
     try clear c10
     try clear c10b0
     try clear c11
     try clear c11b0
     try clear c12
     try clear p2
     try clear p6
     obtain ⟨x5_2, rfl, HA, HK2, ⟨m2, rfl⟩⟩ := hrel
     cases gk with
     | zero => exact absurd HA.out (by simp [gossamerref01_sign.l0])
     | succ k2 =>
      have H := HA.out
      clear HA
      simp only [gossamerref01_sign.l0] at H
      by_cases c13 : x5_2 < 13
      ·rw [if_pos c13] at H
       have c13b0 : decide (x5_2 < 13) = true := decide_eq_true c13
       clear c13
       by_cases c14 : 0 ≤ x5_2
       ·rw [if_pos c14] at H
        have c14b0 : decide (0 ≤ x5_2) = true := decide_eq_true c14
        clear c14
        by_cases c16 : 0 ≤ a1
        ·rw [if_pos c16] at H
         have c16b0 : decide (0 ≤ a1) = true := decide_eq_true c16
         clear c16
         by_cases c17 : a1 < (a0.size : Int)
         ·rw [if_pos c17] at H
          have c17b0 : decide (a1 < (a0.size : Int)) = true := decide_eq_true c17
          clear c17
          by_cases c19 : (bt (⟨#[92, 46, 40, 41, 61, 123, 125, 124, 43, 45, 42, 47, 60]⟩ : ByteArray) x5_2) = (bt a0 a1)
          ·rw [if_pos c19] at H
           have c19b0 : ((bt (⟨#[92, 46, 40, 41, 61, 123, 125, 124, 43, 45, 42, 47, 60]⟩ : ByteArray) x5_2) == (bt a0 a1)) = true := beq_iff_eq.mpr c19
           have c19b1 : ((bt (⟨#[92, 46, 40, 41, 61, 123, 125, 124, 43, 45, 42, 47, 60]⟩ : ByteArray) x5_2) != (bt a0 a1)) = false := bne_eq_false_iff_eq.mpr c19
           clear c19
           obtain rfl := Option.some.inj H
           have p15 : 0 ≤ (x5_2 : Int) := of_decide_eq_true (by first|(with_reducible assumption) | assumption)
           have q15 : x5_2 < (13 : Int) := of_decide_eq_true (by first|(with_reducible assumption) | assumption)
           have hx15 := bt_at (⟨#[92, 46, 40, 41, 61, 123, 125, 124, 43, 45, 42, 47, 60]⟩ : ByteArray) x5_2
           replace p15 := eq_true p15
           replace q15 := eq_true q15
           have p18 : 0 ≤ (a1 : Int) := of_decide_eq_true (by first|(with_reducible assumption) | assumption)
           have q18 : a1 < (a0.size : Int) := of_decide_eq_true (by first|(with_reducible assumption) | assumption)
           have hx18 := bt_at a0 a1
           replace p18 := eq_true p18
           replace q18 := eq_true q18
           go_wp2
           repeat (go_quiet (fail); try go_wp2)
           go_ret
           exact ⟨by first|rfl|(simp; done)|(simp [*]; done), by repeat (first|exact Drawn0.refl _|apply Drawn0.step)⟩
          ·rw [if_neg c19] at H
           have c19b0 : ((bt (⟨#[92, 46, 40, 41, 61, 123, 125, 124, 43, 45, 42, 47, 60]⟩ : ByteArray) x5_2) == (bt a0 a1)) = false := beq_eq_false_iff_ne.mpr c19
           have c19b1 : ((bt (⟨#[92, 46, 40, 41, 61, 123, 125, 124, 43, 45, 42, 47, 60]⟩ : ByteArray) x5_2) != (bt a0 a1)) = true := bne_iff_ne.mpr c19
           have H' := Aside0.mk H
           clear H
           have p15 : 0 ≤ (x5_2 : Int) := of_decide_eq_true (by first|(with_reducible assumption) | assumption)
           have q15 : x5_2 < (13 : Int) := of_decide_eq_true (by first|(with_reducible assumption) | assumption)
           have hx15 := bt_at (⟨#[92, 46, 40, 41, 61, 123, 125, 124, 43, 45, 42, 47, 60]⟩ : ByteArray) x5_2
           replace p15 := eq_true p15
           replace q15 := eq_true q15
           have p18 : 0 ≤ (a1 : Int) := of_decide_eq_true (by first|(with_reducible assumption) | assumption)
           have q18 : a1 < (a0.size : Int) := of_decide_eq_true (by first|(with_reducible assumption) | assumption)
           have hx18 := bt_at a0 a1
           replace p18 := eq_true p18
           replace q18 := eq_true q18
           go_wp2
           repeat (go_quiet (fail); try go_wp2)
           go_roundg k2
           case measure => have := HJ2.out; have := HK2.out; omega
           case rel => exact ⟨(wrap64 (x5_2 + 1)), (by first|rfl|(simp; done)|(simp [*]; done)), H', ⟨by have := HJ2.out; have := HK2.out; omega⟩, by repeat (first|exact Drawn0.refl _|apply Drawn0.step)⟩
         ·rw [if_neg c17] at H
          exact absurd H (by simp)
        ·rw [if_neg c16] at H
         exact absurd H (by simp)
       ·rw [if_neg c14] at H
        exact absurd H (by simp)
      ·rw [if_neg c13] at H
       have c13b0 : decide (x5_2 < 13) = false := decide_eq_false c13
       clear c13
       obtain rfl := Option.some.inj H
       go_wp2
       repeat (go_quiet (fail); try go_wp2)
       go_ret
       exact ⟨by first|rfl|(simp; done)|(simp [*]; done), by repeat (first|exact Drawn0.refl _|apply Drawn0.step)⟩

end Go.Proofs.YtnjmilelifmfpaaGreatDoor.Q

namespace Go.Proofs.YtnjmilelifmfpaaGreatDoor.Q
open Go.RowKit Go.Proofs.YtnjmilelifmfpaaGreatDoorW.PrintWords Go.Proofs.YtnjmilelifmfpaaGreatDoorW.PrintLast Go.Proofs.YtnjmilelifmfpaaGreatDoorW.PrintMore
attribute [local go_sem] max2_int min2_int max_two min_two max_three min_three max_four min_four
set_option linter.unusedVariables false
set_option linter.unusedSimpArgs false

def gossamerref01_number.l0 : Nat → ByteArray → Int → Int → Option (Int)
 | 0, _, _, _ => none
 | k + 1, x0, x3, x4 => if x4 < (x0.size : Int) then (if 0 ≤ x4 then (gossamerref01_number.l0 k x0 (wrap64 ((wrap64 ((wrap64 (10 * x3)) + (wrap64 (bt x0 x4)))) - 48)) (wrap64 (x4 + 1))) else (none)) else (some x3)
def gossamerref01_number.f (k : Nat) (a0 : ByteArray) : Option (Int) := gossamerref01_number.l0 k a0 0 0
theorem gossamerref01_number.mono_l : ∀ k, (∀ y0 y1 y2, LeO (gossamerref01_number.l0 k y0 y1 y2) (gossamerref01_number.l0 (k + 1) y0 y1 y2))
 | 0 => fun _ _ _ r h => by simp [gossamerref01_number.l0] at h
 | k + 1 => by
  have ih0 := gossamerref01_number.mono_l k
  ·intro y0 y1 y2
   unfold gossamerref01_number.l0
   repeat' first
   | (with_reducible exact ih0 _ _ _)
   | (with_reducible exact LeO.refl _)
   | (with_reducible exact LeO.none _)
   | (with_reducible refine LeO.ite ?_ ?_)
   | (with_reducible refine LeO.bind ?_ (fun _ => ?_))
   | exact ih0 _ _ _
   | exact LeO.none _
   | refine LeO.ite ?_ ?_
   | refine LeO.bind ?_ (fun _ => ?_)
theorem gossamerref01_number.mono : ∀ a0 k, LeO (gossamerref01_number.f k a0) (gossamerref01_number.f (k + 1) a0) := by
 intro a0 k
 have ih0 := gossamerref01_number.mono_l k
 unfold gossamerref01_number.f
 repeat' first
   | (with_reducible exact ih0 _ _ _)
   | (with_reducible exact LeO.refl _)
   | (with_reducible exact LeO.none _)
   | (with_reducible refine LeO.ite ?_ ?_)
   | (with_reducible refine LeO.bind ?_ (fun _ => ?_))
   | exact ih0 _ _ _
   | exact LeO.none _
   | refine LeO.ite ?_ ?_
   | refine LeO.bind ?_ (fun _ => ?_)
set_option maxHeartbeats 8000000 in
set_option maxRecDepth 100000 in
theorem gossamerref01_number.calls (k : Nat) (a0 : ByteArray) (r : Int) (w : World) (h : gossamerref01_number.f k a0 = some r) :
  Calls Tryz.prog 98 #[.string a0] w fun e w' => e = .returned (.int .i64 r) ∧ Drawn0 w w' := by
 have H : (gossamerref01_number.l0 k a0 0 0) = some r := h
 clear h
 have H' := Aside0.mk H
 clear H
 go_enter Tryz.func98, Tryz.ntmps98
 go_wp2
 go_loopg [3, 4] k (fun kq v3 v4 w' => ∃ (x3_1 : Int) (x4_1 : Int), v3 = .int .i64 x3_1 ∧ v4 = .int .i64 x4_1 ∧ Aside0 (gossamerref01_number.l0 kq a0 x3_1 x4_1 = some r) ∧ Aside0 (kq ≤ k) ∧ Drawn0 w w')
 case atStart => exact ⟨(0), (0), (by first|rfl|(simp; done)|(simp [*]; done)), (by first|rfl|(simp; done)|(simp [*]; done)), H', ⟨Nat.le_refl _⟩, by repeat (first|exact Drawn0.refl _|apply Drawn0.step)⟩
 case round =>
  clear H'
  obtain ⟨x3_1, x4_1, rfl, rfl, HA, HK1, ⟨m1, rfl⟩⟩ := hrel
  cases gk with
  | zero => exact absurd HA.out (by simp [gossamerref01_number.l0])
  | succ k1 =>
   have H := HA.out
   clear HA
   simp only [gossamerref01_number.l0] at H
   by_cases c2 : x4_1 < (a0.size : Int)
   ·rw [if_pos c2] at H
    have c2b0 : decide (x4_1 < (a0.size : Int)) = true := decide_eq_true c2
    clear c2
    by_cases c3 : 0 ≤ x4_1
    ·rw [if_pos c3] at H
     have c3b0 : decide (0 ≤ x4_1) = true := decide_eq_true c3
     clear c3
     have H' := Aside0.mk H
     clear H
     have p4 : 0 ≤ (x4_1 : Int) := of_decide_eq_true (by first|(with_reducible assumption) | assumption)
     have q4 : x4_1 < (a0.size : Int) := of_decide_eq_true (by first|(with_reducible assumption) | assumption)
     have hx4 := bt_at a0 x4_1
     replace p4 := eq_true p4
     replace q4 := eq_true q4
     go_wp2
     go_roundg k1
     case measure => have := HK1.out; omega
     case rel => exact ⟨(wrap64 ((wrap64 ((wrap64 (10 * x3_1)) + (wrap64 (bt a0 x4_1)))) - 48)), (wrap64 (x4_1 + 1)), (by first|rfl|(simp; done)|(simp [*]; done)), (by first|rfl|(simp; done)|(simp [*]; done)), H', ⟨by have := HK1.out; omega⟩, by repeat (first|exact Drawn0.refl _|apply Drawn0.step)⟩
    ·rw [if_neg c3] at H
     exact absurd H (by simp)
   ·rw [if_neg c2] at H
    have c2b0 : decide (x4_1 < (a0.size : Int)) = false := decide_eq_false c2
    clear c2
    obtain rfl := Option.some.inj H
    go_wp2
    go_ret
    exact ⟨by first|rfl|(simp; done)|(simp [*]; done), by repeat (first|exact Drawn0.refl _|apply Drawn0.step)⟩

end Go.Proofs.YtnjmilelifmfpaaGreatDoor.Q

namespace Go.Proofs.YtnjmilelifmfpaaGreatDoor.Q
open Go.RowKit Go.Proofs.YtnjmilelifmfpaaGreatDoorW.PrintWords Go.Proofs.YtnjmilelifmfpaaGreatDoorW.PrintLast Go.Proofs.YtnjmilelifmfpaaGreatDoorW.PrintMore
attribute [local go_sem] max2_int min2_int max_two min_two max_three min_three max_four min_four
set_option linter.unusedVariables false
set_option linter.unusedSimpArgs false

def gossamerref01_Word.f (a0 : ByteArray) : Option (Bool) := if a0.toList = ([108, 101, 116] : List UInt8) then (some true) else (if a0.toList = ([108, 101, 116, 114, 101, 99] : List UInt8) then (some true) else (if a0.toList = ([105, 110] : List UInt8) then (some true) else (if a0.toList = ([99, 97, 115, 101] : List UInt8) then (some true) else (some (a0.toList == ([111, 102] : List UInt8))))))
set_option maxHeartbeats 8000000 in
set_option maxRecDepth 100000 in
theorem gossamerref01_Word.calls (a0 : ByteArray) (r : Bool) (w : World) (h : gossamerref01_Word.f a0 = some r) :
  Calls Tryz.prog 99 #[.string a0] w fun e w' => e = .returned (.bool r) ∧ Drawn0 w w' := by
 have H : (if a0.toList = ([108, 101, 116] : List UInt8) then (some true) else (if a0.toList = ([108, 101, 116, 114, 101, 99] : List UInt8) then (some true) else (if a0.toList = ([105, 110] : List UInt8) then (some true) else (if a0.toList = ([99, 97, 115, 101] : List UInt8) then (some true) else (some (a0.toList == ([111, 102] : List UInt8))))))) = some r := h
 clear h
 by_cases c2 : a0.toList = ([108, 101, 116] : List UInt8)
 ·rw [if_pos c2] at H
  have c2b0 : (a0.toList == ([108, 101, 116] : List UInt8)) = true := beq_iff_eq.mpr c2
  have c2b1 : (a0.toList != ([108, 101, 116] : List UInt8)) = false := bne_eq_false_iff_eq.mpr c2
  clear c2
  obtain rfl := Option.some.inj H
  go_enter Tryz.func99, Tryz.ntmps99
  go_wp2
  go_ret
  exact ⟨by first|rfl|(simp; done)|(simp [*]; done), by repeat (first|exact Drawn0.refl _|apply Drawn0.step)⟩
 ·rw [if_neg c2] at H
  have c2b0 : (a0.toList == ([108, 101, 116] : List UInt8)) = false := beq_eq_false_iff_ne.mpr c2
  have c2b1 : (a0.toList != ([108, 101, 116] : List UInt8)) = true := bne_iff_ne.mpr c2
  by_cases c3 : a0.toList = ([108, 101, 116, 114, 101, 99] : List UInt8)
  ·rw [if_pos c3] at H
   have c3b0 : (a0.toList == ([108, 101, 116, 114, 101, 99] : List UInt8)) = true := beq_iff_eq.mpr c3
   have c3b1 : (a0.toList != ([108, 101, 116, 114, 101, 99] : List UInt8)) = false := bne_eq_false_iff_eq.mpr c3
   clear c3
   obtain rfl := Option.some.inj H
   go_enter Tryz.func99, Tryz.ntmps99
   go_wp2
   go_ret
   exact ⟨by first|rfl|(simp; done)|(simp [*]; done), by repeat (first|exact Drawn0.refl _|apply Drawn0.step)⟩
  ·rw [if_neg c3] at H
   have c3b0 : (a0.toList == ([108, 101, 116, 114, 101, 99] : List UInt8)) = false := beq_eq_false_iff_ne.mpr c3
   have c3b1 : (a0.toList != ([108, 101, 116, 114, 101, 99] : List UInt8)) = true := bne_iff_ne.mpr c3
   by_cases c4 : a0.toList = ([105, 110] : List UInt8)
   ·rw [if_pos c4] at H
    have c4b0 : (a0.toList == ([105, 110] : List UInt8)) = true := beq_iff_eq.mpr c4
    have c4b1 : (a0.toList != ([105, 110] : List UInt8)) = false := bne_eq_false_iff_eq.mpr c4
    clear c4
    obtain rfl := Option.some.inj H
    go_enter Tryz.func99, Tryz.ntmps99
    go_wp2
    go_ret
    exact ⟨by first|rfl|(simp; done)|(simp [*]; done), by repeat (first|exact Drawn0.refl _|apply Drawn0.step)⟩
   ·rw [if_neg c4] at H
    have c4b0 : (a0.toList == ([105, 110] : List UInt8)) = false := beq_eq_false_iff_ne.mpr c4
    have c4b1 : (a0.toList != ([105, 110] : List UInt8)) = true := bne_iff_ne.mpr c4
    by_cases c5 : a0.toList = ([99, 97, 115, 101] : List UInt8)
    ·rw [if_pos c5] at H
     have c5b0 : (a0.toList == ([99, 97, 115, 101] : List UInt8)) = true := beq_iff_eq.mpr c5
     have c5b1 : (a0.toList != ([99, 97, 115, 101] : List UInt8)) = false := bne_eq_false_iff_eq.mpr c5
     clear c5
     obtain rfl := Option.some.inj H
     go_enter Tryz.func99, Tryz.ntmps99
     go_wp2
     go_ret
     exact ⟨by first|rfl|(simp; done)|(simp [*]; done), by repeat (first|exact Drawn0.refl _|apply Drawn0.step)⟩
    ·rw [if_neg c5] at H
     have c5b0 : (a0.toList == ([99, 97, 115, 101] : List UInt8)) = false := beq_eq_false_iff_ne.mpr c5
     have c5b1 : (a0.toList != ([99, 97, 115, 101] : List UInt8)) = true := bne_iff_ne.mpr c5
     obtain rfl := Option.some.inj H
     go_enter Tryz.func99, Tryz.ntmps99
     go_wp2
     go_ret
     exact ⟨by first|rfl|(simp; done)|(simp [*]; done), by repeat (first|exact Drawn0.refl _|apply Drawn0.step)⟩

end Go.Proofs.YtnjmilelifmfpaaGreatDoor.Q

/- Plain Lean: what the library's functions say (the shelf's own words), in the words of HLex. -/
namespace Go.Proofs.YtnjmilelifmfpaaGreatDoor.HLex
open Go

theorem drop_cons_get (s : ByteArray) (i : Nat) (h : i < s.size) : s.data.toList.drop i = s[i] :: s.data.toList.drop (i + 1) := by
 have h' : i < s.data.toList.length := by simpa using h
 rw [List.drop_eq_getElem_cons h']
 rfl

theorem idxFrom (p : Nat → Bool) (q : UInt8 → Bool) (h1 : ∀ c : UInt8, c.toNat < 128 → p c.toNat = q c) (h2 : ∀ c : UInt8, 128 ≤ c.toNat → q c = true) (h3 : ∀ r, 128 ≤ r → p r = true) (s : ByteArray) :
  ∀ (f pos : Nat), pos ≤ s.size → s.size - pos ≤ f →
   Lib.idxFuncFrom p true s f pos = if pos + ((s.data.toList.drop pos).takeWhile (fun c => !q c)).length < s.size then ((pos + ((s.data.toList.drop pos).takeWhile (fun c => !q c)).length : Nat) : Int) else -1 := by
 intro f
 induction f with
 | zero =>
  intro pos hp hf
  have : pos = s.size := by omega
  rw [if_neg (by omega)]
  rfl
 | succ f ih =>
  intro pos hp hf
  unfold Lib.idxFuncFrom
  by_cases hlt : pos < s.size
  ·rw [if_pos hlt, drop_cons_get s pos hlt, List.takeWhile_cons]
   by_cases ha : (s[pos]).toNat < 128
   ·rw [decode_ascii s pos hlt ha, h1 _ ha]
    by_cases hq : q s[pos] = true
    ·rw [if_pos hq, hq]; simp [hlt]
    ·have hq' : q s[pos] = false := by simpa using hq
     rw [if_neg hq, hq', ih (pos + 1) (by omega) (by omega)]
     simp only [Bool.not_false, if_true, List.length_cons]
     rw [show pos + 1 + (List.takeWhile (fun c => !q c) (List.drop (pos + 1) s.data.toList)).length = pos + ((List.takeWhile (fun c => !q c) (List.drop (pos + 1) s.data.toList)).length + 1) from by omega]
   ·have hd := decode_high s pos hlt (by omega)
    rw [h3 _ hd.1, if_pos rfl, h2 _ (by omega)]
    simp [hlt]
  ·rw [if_neg hlt]
   have : pos = s.size := by omega
   rw [if_neg (by omega)]

theorem takeWhile_len_le (q : UInt8 → Bool) (l : List UInt8) : (l.takeWhile q).length ≤ l.length := by
 induction l with
 | nil => simp
 | cons a t ih => rw [List.takeWhile_cons]; split <;> simp <;> omega

theorem takeWhile_take (q : UInt8 → Bool) (l : List UInt8) : l.take (l.takeWhile q).length = l.takeWhile q := by
 induction l with
 | nil => simp
 | cons a t ih => rw [List.takeWhile_cons]; split <;> simp [ih]

theorem takeWhile_all {q : UInt8 → Bool} {l : List UInt8} (h : (l.takeWhile q).length = l.length) : l.takeWhile q = l := by
 have := takeWhile_take q l
 rw [h, List.take_length] at this
 exact this.symm

def pRun (r : Nat) : Bool := decide (127 < r) || !(decide (97 ≤ r) && decide (r ≤ 122) || decide (65 ≤ r) && decide (r ≤ 90) || decide (48 ≤ r) && decide (r ≤ 57))
theorem idx_run (s : ByteArray) : Lib.idxFunc pRun true s = if (s.data.toList.takeWhile wordly).length < s.size then ((s.data.toList.takeWhile wordly).length : Int) else -1 := by
 have h := idxFrom pRun (fun c => !wordly c) ?_ ?_ ?_ s s.size 0 (Nat.zero_le _) (by omega)
 ·unfold Lib.idxFunc
  simpa using h
 ·intro c hc
  unfold pRun wordly lower upper digit
  have : decide (127 < c.toNat) = false := by simp; omega
  rw [this]; simp
 ·intro c hc
  unfold wordly lower upper digit
  have e1 : decide (c.toNat ≤ 122) = false := by simp; omega
  have e2 : decide (c.toNat ≤ 90) = false := by simp; omega
  have e3 : decide (c.toNat ≤ 57) = false := by simp; omega
  simp [e1, e2, e3]
 ·intro r hr
  unfold pRun
  have : decide (127 < r) = true := by simp; omega
  simp [this]

def pBig (r : Nat) : Bool := decide (57 < r)
theorem takeWhile_any (q : UInt8 → Bool) (l : List UInt8) : (l.takeWhile (fun c => !q c)).length < l.length ↔ l.any q = true := by
 induction l with
 | nil => simp
 | cons a t ih =>
  rw [List.takeWhile_cons, List.any_cons]
  cases h : q a <;> simp [ih]
theorem idx_big (s : ByteArray) : decide (0 ≤ Lib.idxFunc pBig true s) = s.data.toList.any (fun c => decide (57 < c.toNat)) := by
 have h := idxFrom pBig (fun c => decide (57 < c.toNat)) (fun _ _ => rfl) (fun c hc => decide_eq_true (by omega)) (fun r hr => decide_eq_true (by omega)) s s.size 0 (Nat.zero_le _) (by omega)
 have e : Lib.idxFunc pBig true s = _ := h
 rw [e]
 have ha := takeWhile_any (fun c => decide (57 < c.toNat)) s.data.toList
 have hs : s.data.toList.length = s.size := Array.length_toList
 simp only [List.drop_zero, Nat.zero_add]
 by_cases hb : s.data.toList.any (fun c => decide (57 < c.toNat)) = true
 ·rw [if_pos (by rw [← hs]; exact ha.2 hb), hb]; exact decide_eq_true (Int.natCast_nonneg _)
 ·rw [if_neg (by rw [← hs]; exact fun z => hb (ha.1 z))]
  have : s.data.toList.any (fun c => decide (57 < c.toNat)) = false := by simpa using hb
  rw [this]; simp

theorem trim_blank (l : List UInt8) : Lib.trimLeftS l [32, 10, 9] = l.dropWhile blank := by
 unfold Lib.trimLeftS
 congr 1
 funext c
 unfold blank
 rw [List.contains_cons, List.contains_cons, List.contains_cons, List.contains_nil, Bool.or_false, Bool.or_assoc]

theorem decFrom_num (l : List UInt8) : ∀ acc, (∀ c ∈ l, digit c = true) → Lib.decFrom acc l = some (l.foldl (fun n c => 10 * n + (c.toNat - 48)) acc) := by
 induction l with
 | nil => intro acc _; rfl
 | cons a t ih =>
  intro acc h
  have ha := h a (List.mem_cons_self ..)
  unfold digit at ha
  simp at ha
  unfold Lib.decFrom Lib.digitVal
  rw [if_pos ⟨ha.1, ha.2⟩]
  simp only [List.foldl_cons]
  rw [ih _ (fun c hc => h c (List.mem_cons_of_mem _ hc)), Nat.mul_comm]

theorem atoi_num (l : List UInt8) (hne : l ≠ []) (h : ∀ c ∈ l, digit c = true) : Lib.atoi l = some (num l : Int) := by
 cases l with
 | nil => exact absurd rfl hne
 | cons a t =>
  have ha := h a (List.mem_cons_self ..)
  unfold digit at ha
  simp at ha
  unfold Lib.atoi
  have e1 : (a == 45) = false := by
   apply beq_eq_false_iff_ne.2; rintro rfl; simp at ha
  have e2 : (a == 43) = false := by
   apply beq_eq_false_iff_ne.2; rintro rfl; simp at ha
  simp only [e1, e2, Bool.false_eq_true, if_false, Lib.decNat, List.isEmpty_cons]
  rw [decFrom_num _ 0 h]
  rfl

theorem first_prefix {l t : List UInt8} {k n : Nat} (h : first l = .ok (k, t, n)) : t <+: l ∧ t ≠ [] := by
 unfold first at h
 simp only at h
 split at h
 ·split at h
  ·rename_i s hs
   injection h with h
   injection h with h1 h2
   injection h2 with h2 h3
   subst h2
   refine ⟨by have := List.find?_some hs; simpa using this, ?_⟩
   have hm := List.mem_of_find?_eq_some hs
   rintro rfl
   exact absurd hm (by decide)
  ·cases h
 ·rename_i hne
  split at h
  ·injection h with h
   injection h with h1 h2
   injection h2 with h2 h3
   subst h2
   exact ⟨List.takeWhile_prefix _, hne⟩
  ·cases h

end Go.Proofs.YtnjmilelifmfpaaGreatDoor.HLex

/- The shelf's contracts at this translation, in plain words: each one application. -/
namespace Go.Proofs
open Go.Shelf
def Tryz.lays172_ren : Go.Shelf.Ren := ⟨fun | 172 => 139 | 244 => 145 | 245 => 146 | 247 => 151 | 279 => 152 | 280 => 153 | 281 => 154 | 282 => 155 | 287 => 157 | 316 => 158 | 171 => 160 | 205 => 159 | 321 => 162 | 322 => 163 | 243 => 164 | 246 => 165 | 283 => 166 | 284 => 167 | 285 => 168 | 286 => 169 | 129 => 171 | 317 => 170 | 318 => 172 | 319 => 173 | 320 => 174 | 337 => 175 | 338 => 176 | n => n, fun | 9 => 9 | 3 => 3 | 75 => 134 | 76 => 135 | 4 => 4 | 5 => 5 | 167 => 148 | 37 => 68 | 0 => 0 | 85 => 149 | 2 => 2 | 168 => 151 | 53 => 154 | 175 => 155 | 46 => 141 | 210 => 159 | 127 => 162 | 145 => 165 | 143 => 163 | 21 => 21 | 171 => 167 | 173 => 170 | 212 => 173 | 51 => 174 | 20 => 20 | 213 => 175 | 232 => 179 | 233 => 180 | 80 => 181 | n => n, fun | 15 => 3 | 16 => 4 | 17 => 5 | 18 => 6 | 19 => 7 | n => n⟩
theorem Tryz.lays172 : Go.Proofs.Lays.n172 Tryz.prog Tryz.lays172_ren := {
 mixed := by kernel_rfl
 f129 := Tryz.func171.trans (congrArg some (by kernel_rfl))
 f171 := Tryz.func160.trans (congrArg some (by kernel_rfl))
 f172 := Tryz.func139.trans (congrArg some (by kernel_rfl))
 f205 := Tryz.func159.trans (congrArg some (by kernel_rfl))
 f243 := Tryz.func164.trans (congrArg some (by kernel_rfl))
 f244 := Tryz.func145.trans (congrArg some (by kernel_rfl))
 f245 := Tryz.func146.trans (congrArg some (by kernel_rfl))
 f246 := Tryz.func165.trans (congrArg some (by kernel_rfl))
 f247 := Tryz.func151.trans (congrArg some (by kernel_rfl))
 f279 := Tryz.func152.trans (congrArg some (by kernel_rfl))
 f280 := Tryz.func153.trans (congrArg some (by kernel_rfl))
 f281 := Tryz.func154.trans (congrArg some (by kernel_rfl))
 f282 := Tryz.func155.trans (congrArg some (by kernel_rfl))
 f283 := Tryz.func166.trans (congrArg some (by kernel_rfl))
 f284 := Tryz.func167.trans (congrArg some (by kernel_rfl))
 f285 := Tryz.func168.trans (congrArg some (by kernel_rfl))
 f286 := Tryz.func169.trans (congrArg some (by kernel_rfl))
 f287 := Tryz.func157.trans (congrArg some (by kernel_rfl))
 f316 := Tryz.func158.trans (congrArg some (by kernel_rfl))
 f317 := Tryz.func170.trans (congrArg some (by kernel_rfl))
 f318 := Tryz.func172.trans (congrArg some (by kernel_rfl))
 f319 := Tryz.func173.trans (congrArg some (by kernel_rfl))
 f320 := Tryz.func174.trans (congrArg some (by kernel_rfl))
 f321 := Tryz.func162.trans (congrArg some (by kernel_rfl))
 f322 := Tryz.func163.trans (congrArg some (by kernel_rfl))
 f337 := Tryz.func175.trans (congrArg some (by kernel_rfl))
 f338 := Tryz.func176.trans (congrArg some (by kernel_rfl))
 t0 := Tryz.underlying0
 a0 := Tryz.isAgg0
 z0 := Tryz.sizeOf0
 v0 := Tryz.zeroValue0
 t2 := Tryz.underlying2
 a2 := Tryz.isAgg2
 z2 := Tryz.sizeOf2
 v2 := Tryz.zeroValue2
 t3 := Tryz.underlying3
 a3 := Tryz.isAgg3
 z3 := Tryz.sizeOf3
 v3 := Tryz.zeroValue3
 t4 := Tryz.underlying4
 a4 := Tryz.isAgg4
 z4 := Tryz.sizeOf4
 v4 := Tryz.zeroValue4
 t5 := Tryz.underlying5
 a5 := Tryz.isAgg5
 z5 := Tryz.sizeOf5
 v5 := Tryz.zeroValue5
 t9 := Tryz.underlying9
 a9 := Tryz.isAgg9
 z9 := Tryz.sizeOf9
 v9 := Tryz.zeroValue9
 t20 := Tryz.underlying20
 a20 := Tryz.isAgg20
 z20 := Tryz.sizeOf20
 v20 := Tryz.zeroValue20
 t21 := Tryz.underlying21
 a21 := Tryz.isAgg21
 z21 := Tryz.sizeOf21
 v21 := Tryz.zeroValue21
 t37 := Tryz.underlying68
 a37 := Tryz.isAgg68
 z37 := Tryz.sizeOf68
 v37 := Tryz.zeroValue68
 t46 := Tryz.underlying141
 a46 := Tryz.isAgg141
 z46 := Tryz.sizeOf141
 v46 := Tryz.zeroValue141
 t51 := Tryz.underlying174
 a51 := Tryz.isAgg174
 z51 := Tryz.sizeOf174
 v51 := Tryz.zeroValue174
 t53 := Tryz.underlying154
 a53 := Tryz.isAgg154
 z53 := Tryz.sizeOf154
 v53 := Tryz.zeroValue154
 t75 := Tryz.underlying134
 a75 := Tryz.isAgg134
 z75 := Tryz.sizeOf134
 v75 := Tryz.zeroValue134
 t76 := Tryz.underlying135
 a76 := Tryz.isAgg135
 z76 := Tryz.sizeOf135
 v76 := Tryz.zeroValue135
 t85 := Tryz.underlying149
 a85 := Tryz.isAgg149
 z85 := Tryz.sizeOf149
 v85 := Tryz.zeroValue149
 t127 := Tryz.underlying162
 a127 := Tryz.isAgg162
 z127 := Tryz.sizeOf162
 v127 := Tryz.zeroValue162
 t143 := Tryz.underlying163
 a143 := Tryz.isAgg163
 z143 := Tryz.sizeOf163
 v143 := Tryz.zeroValue163
 t145 := Tryz.underlying165
 a145 := Tryz.isAgg165
 z145 := Tryz.sizeOf165
 v145 := Tryz.zeroValue165
 t167 := Tryz.underlying148
 a167 := Tryz.isAgg148
 z167 := Tryz.sizeOf148
 v167 := Tryz.zeroValue148
 t168 := Tryz.underlying151
 a168 := Tryz.isAgg151
 z168 := Tryz.sizeOf151
 v168 := Tryz.zeroValue151
 t171 := Tryz.underlying167
 a171 := Tryz.isAgg167
 z171 := Tryz.sizeOf167
 v171 := Tryz.zeroValue167
 t173 := Tryz.underlying170
 a173 := Tryz.isAgg170
 z173 := Tryz.sizeOf170
 v173 := Tryz.zeroValue170
 t175 := Tryz.underlying155
 a175 := Tryz.isAgg155
 z175 := Tryz.sizeOf155
 v175 := Tryz.zeroValue155
 t210 := Tryz.underlying159
 a210 := Tryz.isAgg159
 z210 := Tryz.sizeOf159
 v210 := Tryz.zeroValue159
 t212 := Tryz.underlying173
 a212 := Tryz.isAgg173
 z212 := Tryz.sizeOf173
 v212 := Tryz.zeroValue173
 t213 := Tryz.underlying175
 a213 := Tryz.isAgg175
 z213 := Tryz.sizeOf175
 t232 := Tryz.underlying179
 a232 := Tryz.isAgg179
 z232 := Tryz.sizeOf179
 v232 := Tryz.zeroValue179
 t233 := Tryz.underlying180
 a233 := Tryz.isAgg180
 z233 := Tryz.sizeOf180
 v233 := Tryz.zeroValue180
 g15 := by kernel_rfl
 g16 := by kernel_rfl
 g17 := by kernel_rfl
 g18 := by kernel_rfl
 g19 := by kernel_rfl }
open Go.RowKit in
theorem Tryz.strconv_Atoi (s : ByteArray) (n : Int) (hl : s.size ≤ 18) (h : Lib.atoi s.data.toList = some n) (w : World) :
  Calls Tryz.prog 139 #[.string s] w fun e w' => e = .returned (.tuple #[.int .i64 n, .nilIface]) ∧ ∃ t, w' = Lib.bytesWorld w 5 t := Any.strconv_Atoi Tryz.lays172 s n hl h w
def Tryz.laysGw15_ren : Go.Shelf.Ren := ⟨fun | 15 => 118 | 20 => 133 | n => n, fun | 9 => 9 | 23 => 123 | 3 => 3 | 4 => 4 | 0 => 0 | 21 => 21 | n => n, fun | n => n⟩
theorem Tryz.laysGw15 : Go.Proofs.LaysGw.n15 Tryz.prog Tryz.laysGw15_ren := {
 mixed := by kernel_rfl
 f15 := Tryz.func118.trans (congrArg some (by kernel_rfl))
 f20 := Tryz.func133.trans (congrArg some (by kernel_rfl))
 t0 := Tryz.underlying0
 a0 := Tryz.isAgg0
 z0 := Tryz.sizeOf0
 v0 := Tryz.zeroValue0
 i0 := by kernel_rfl
 t3 := Tryz.underlying3
 a3 := Tryz.isAgg3
 z3 := Tryz.sizeOf3
 v3 := Tryz.zeroValue3
 i3 := by kernel_rfl
 t4 := Tryz.underlying4
 a4 := Tryz.isAgg4
 z4 := Tryz.sizeOf4
 v4 := Tryz.zeroValue4
 i4 := by kernel_rfl
 t9 := Tryz.underlying9
 a9 := Tryz.isAgg9
 z9 := Tryz.sizeOf9
 v9 := Tryz.zeroValue9
 i9 := by kernel_rfl
 t21 := Tryz.underlying21
 a21 := Tryz.isAgg21
 z21 := Tryz.sizeOf21
 v21 := Tryz.zeroValue21
 i21 := by kernel_rfl
 t23 := Tryz.underlying123
 a23 := Tryz.isAgg123
 z23 := Tryz.sizeOf123
 v23 := Tryz.zeroValue123
 i23 := by kernel_rfl }
open Go.RowKit Go.Lib in
theorem Tryz.strings_IndexFunc (g : Nat) (lb : Array Value) (eg : ∀ args w, (callFunc g args).run Tryz.prog w = .ok (.enter g args) w) (p : Nat → Bool) (s : ByteArray) (w : World) (hp : PredAt Tryz.prog g lb encR p w) :
  Calls Tryz.prog 118 #[.string s, .func (.func g) #[] lb] w fun e w' => e = .returned (.int .i64 (Lib.idxFunc p true s)) ∧ Below w.heap.size w w' := Any.strings_IndexFunc Tryz.laysGw15 g lb eg p s w hp
def Tryz.laysGw17_ren : Go.Shelf.Ren := ⟨fun | 17 => 137 | 15 => 118 | 20 => 133 | n => n, fun | 9 => 9 | 23 => 123 | 4 => 4 | 3 => 3 | 0 => 0 | 21 => 21 | n => n, fun | n => n⟩
theorem Tryz.laysGw17 : Go.Proofs.LaysGw.n17 Tryz.prog Tryz.laysGw17_ren := {
 mixed := by kernel_rfl
 f15 := Tryz.func118.trans (congrArg some (by kernel_rfl))
 f17 := Tryz.func137.trans (congrArg some (by kernel_rfl))
 f20 := Tryz.func133.trans (congrArg some (by kernel_rfl))
 t0 := Tryz.underlying0
 a0 := Tryz.isAgg0
 z0 := Tryz.sizeOf0
 v0 := Tryz.zeroValue0
 i0 := by kernel_rfl
 t3 := Tryz.underlying3
 a3 := Tryz.isAgg3
 z3 := Tryz.sizeOf3
 v3 := Tryz.zeroValue3
 i3 := by kernel_rfl
 t4 := Tryz.underlying4
 a4 := Tryz.isAgg4
 z4 := Tryz.sizeOf4
 v4 := Tryz.zeroValue4
 i4 := by kernel_rfl
 t9 := Tryz.underlying9
 a9 := Tryz.isAgg9
 z9 := Tryz.sizeOf9
 v9 := Tryz.zeroValue9
 i9 := by kernel_rfl
 t21 := Tryz.underlying21
 a21 := Tryz.isAgg21
 z21 := Tryz.sizeOf21
 v21 := Tryz.zeroValue21
 i21 := by kernel_rfl
 t23 := Tryz.underlying123
 a23 := Tryz.isAgg123
 z23 := Tryz.sizeOf123
 v23 := Tryz.zeroValue123
 i23 := by kernel_rfl }
open Go.RowKit Go.Lib in
theorem Tryz.strings_ContainsFunc (g : Nat) (lb : Array Value) (eg : ∀ args w, (callFunc g args).run Tryz.prog w = .ok (.enter g args) w) (p : Nat → Bool) (s : ByteArray) (w : World) (hp : PredAt Tryz.prog g lb encR p w) :
  Calls Tryz.prog 137 #[.string s, .func (.func g) #[] lb] w fun e w' => e = .returned (.bool (decide (0 ≤ Lib.idxFunc p true s))) ∧ Below w.heap.size w w' := Any.strings_ContainsFunc Tryz.laysGw17 g lb eg p s w hp
def Tryz.lays110_ren : Go.Shelf.Ren := ⟨fun | 110 => 53 | 109 => 82 | n => n, fun | 31 => 34 | 9 => 9 | 4 => 4 | 3 => 3 | 0 => 0 | n => n, fun | n => n⟩
theorem Tryz.lays110 : Go.Proofs.Lays.n110 Tryz.prog Tryz.lays110_ren := {
 mixed := by kernel_rfl
 f109 := Tryz.func82.trans (congrArg some (by kernel_rfl))
 f110 := Tryz.func53.trans (congrArg some (by kernel_rfl))
 t0 := Tryz.underlying0
 a0 := Tryz.isAgg0
 z0 := Tryz.sizeOf0
 v0 := Tryz.zeroValue0
 t3 := Tryz.underlying3
 a3 := Tryz.isAgg3
 z3 := Tryz.sizeOf3
 v3 := Tryz.zeroValue3
 t4 := Tryz.underlying4
 a4 := Tryz.isAgg4
 z4 := Tryz.sizeOf4
 v4 := Tryz.zeroValue4
 t9 := Tryz.underlying9
 a9 := Tryz.isAgg9
 z9 := Tryz.sizeOf9
 v9 := Tryz.zeroValue9
 t31 := Tryz.underlying34
 a31 := Tryz.isAgg34
 z31 := Tryz.sizeOf34
 v31 := Tryz.zeroValue34 }
open Go.Lib in
theorem Tryz.slices_Contains_string (b off n c : Nat) (zs : List ByteArray) (x : ByteArray) (w : World) (hz : n ≤ zs.length) (hbig : n ≤ 9223372036854775807) (hc : ∀ j, j < zs.length → w.cell? ⟨b, off + j, none⟩ = some (.string (zs.getD j ByteArray.empty))) :
  Calls Tryz.prog 53 #[.slice (some ⟨b, off, none⟩) n c, .string x] w fun e w' => e = .returned (.bool (Lib.containsS (zs.take n) x)) ∧ w' = w := Any.slices_Contains_string Tryz.lays110 b off n c zs x w hz hbig hc
def Tryz.laysTL_ren : Go.Shelf.Ren := ⟨fun | 161 => 84 | 231 => 114 | 227 => 115 | 233 => 116 | 235 => 117 | 228 => 130 | 197 => 131 | 151 => 132 | 260 => 143 | 152 => 144 | 137 => 147 | 119 => 148 | 224 => 149 | 225 => 150 | 217 => 156 | 266 => 161 | n => n, fun | 9 => 9 | 4 => 4 | 3 => 3 | 5 => 5 | 117 => 117 | 116 => 116 | 0 => 0 | 124 => 120 | 105 => 128 | 21 => 21 | 119 => 140 | 46 => 141 | 139 => 144 | 138 => 143 | n => n, fun | 3 => 0 | 4 => 1 | n => n⟩
theorem Tryz.laysTL : Go.Proofs.Lays.n161 Tryz.prog Tryz.laysTL_ren := {
 mixed := by kernel_rfl
 f119 := Tryz.func148.trans (congrArg some (by kernel_rfl))
 f137 := Tryz.func147.trans (congrArg some (by kernel_rfl))
 f151 := Tryz.func132.trans (congrArg some (by kernel_rfl))
 f152 := Tryz.func144.trans (congrArg some (by kernel_rfl))
 f161 := Tryz.func84.trans (congrArg some (by kernel_rfl))
 f197 := Tryz.func131.trans (congrArg some (by kernel_rfl))
 f217 := Tryz.func156.trans (congrArg some (by kernel_rfl))
 f224 := Tryz.func149.trans (congrArg some (by kernel_rfl))
 f225 := Tryz.func150.trans (congrArg some (by kernel_rfl))
 f227 := Tryz.func115.trans (congrArg some (by kernel_rfl))
 f228 := Tryz.func130.trans (congrArg some (by kernel_rfl))
 f231 := Tryz.func114.trans (congrArg some (by kernel_rfl))
 f233 := Tryz.func116.trans (congrArg some (by kernel_rfl))
 f235 := Tryz.func117.trans (congrArg some (by kernel_rfl))
 f260 := Tryz.func143.trans (congrArg some (by kernel_rfl))
 f266 := Tryz.func161.trans (congrArg some (by kernel_rfl))
 t0 := Tryz.underlying0
 a0 := Tryz.isAgg0
 z0 := Tryz.sizeOf0
 v0 := Tryz.zeroValue0
 t3 := Tryz.underlying3
 a3 := Tryz.isAgg3
 z3 := Tryz.sizeOf3
 v3 := Tryz.zeroValue3
 t4 := Tryz.underlying4
 a4 := Tryz.isAgg4
 z4 := Tryz.sizeOf4
 v4 := Tryz.zeroValue4
 t5 := Tryz.underlying5
 a5 := Tryz.isAgg5
 z5 := Tryz.sizeOf5
 v5 := Tryz.zeroValue5
 t9 := Tryz.underlying9
 a9 := Tryz.isAgg9
 z9 := Tryz.sizeOf9
 v9 := Tryz.zeroValue9
 t21 := Tryz.underlying21
 a21 := Tryz.isAgg21
 z21 := Tryz.sizeOf21
 v21 := Tryz.zeroValue21
 t46 := Tryz.underlying141
 a46 := Tryz.isAgg141
 z46 := Tryz.sizeOf141
 v46 := Tryz.zeroValue141
 t105 := Tryz.underlying128
 a105 := Tryz.isAgg128
 z105 := Tryz.sizeOf128
 v105 := Tryz.zeroValue128
 t116 := Tryz.underlying116
 a116 := Tryz.isAgg116
 z116 := Tryz.sizeOf116
 t117 := Tryz.underlying117
 a117 := Tryz.isAgg117
 z117 := Tryz.sizeOf117
 v117 := Tryz.zeroValue117
 t119 := Tryz.underlying140
 a119 := Tryz.isAgg140
 z119 := Tryz.sizeOf140
 t124 := Tryz.underlying120
 a124 := Tryz.isAgg120
 z124 := Tryz.sizeOf120
 v124 := Tryz.zeroValue120
 t138 := Tryz.underlying143
 a138 := Tryz.isAgg143
 z138 := Tryz.sizeOf143
 v138 := Tryz.zeroValue143
 t139 := Tryz.underlying144
 a139 := Tryz.isAgg144
 z139 := Tryz.sizeOf144
 v139 := Tryz.zeroValue144
 g3 := by kernel_rfl
 g4 := by kernel_rfl }
open Go.RowKit in
theorem Tryz.TrimLeft_set (s cutset : ByteArray) (w : World) (hcs : cutset.size < 4294967281) (hascii : ∀ (j : Nat) b, cutset.data.toList[j]? = some b → b.toNat < 128) :
  Calls Tryz.prog 84 #[.string s, .string cutset] w fun e w' => e = .returned (.string ⟨(Lib.trimLeftS s.data.toList cutset.data.toList).toArray⟩) ∧ Below w.heap.size w w' := Any.strings_TrimLeft_laid Tryz.laysTL (by kernel_rfl) s cutset w hcs hascii
end Go.Proofs

/- The walks of package lex: what each of its functions comes to, in the words of HLex. -/
namespace Go.Proofs.YtnjmilelifmfpaaGreatDoor.HLexC
open Go Go.RowKit Go.Lib Go.Proofs Go.Proofs.YtnjmilelifmfpaaGreatDoorW.PrintWords Go.Proofs.YtnjmilelifmfpaaGreatDoorW.PrintLast Go.Proofs.YtnjmilelifmfpaaGreatDoorW.PrintMore
set_option linter.unusedVariables false
set_option linter.unusedSimpArgs false

theorem bcell {W w1 : World} (hb : Below W.heap.size W w1) : (∀ b o, b < W.heap.size → w1.cell? ⟨b, o, none⟩ = W.cell? ⟨b, o, none⟩) ∧ (∀ b o, b < W.heap.size → w1.frozen? ⟨b, o, none⟩ = W.frozen? ⟨b, o, none⟩) :=
 ⟨fun b o h => hb.cell (p := ⟨b, o, none⟩) h, fun b o h => hb.frozen (p := ⟨b, o, none⟩) h⟩

set_option maxHeartbeats 1000000 in
theorem lower_any (c : Int) (w : World) (h0 : 0 ≤ c) (h1 : c ≤ 255) : Calls Tryz.prog 134 #[.int .u8 c] w fun e w' => e = .returned (.bool (decide (97 ≤ c) && decide (c ≤ 122))) ∧ w = w' := by
 by_cases h : 97 ≤ c <;> by_cases h' : c ≤ 122
 all_goals
  go_enter Tryz.func134, Tryz.ntmps134
  go_wp2
  go_ret
  exact ⟨by simp [h, h'], rfl⟩
set_option maxHeartbeats 1000000 in
theorem upper_any (c : Int) (w : World) (h0 : 0 ≤ c) (h1 : c ≤ 255) : Calls Tryz.prog 135 #[.int .u8 c] w fun e w' => e = .returned (.bool (decide (65 ≤ c) && decide (c ≤ 90))) ∧ w = w' := by
 by_cases h : 65 ≤ c <;> by_cases h' : c ≤ 90
 all_goals
  go_enter Tryz.func135, Tryz.ntmps135
  go_wp2
  go_ret
  exact ⟨by simp [h, h'], rfl⟩
set_option maxHeartbeats 1000000 in
theorem digit_any (c : Int) (w : World) (h0 : 0 ≤ c) (h1 : c ≤ 255) : Calls Tryz.prog 136 #[.int .u8 c] w fun e w' => e = .returned (.bool (decide (48 ≤ c) && decide (c ≤ 57))) ∧ w = w' := by
 by_cases h : 48 ≤ c <;> by_cases h' : c ≤ 57
 all_goals
  go_enter Tryz.func136, Tryz.ntmps136
  go_wp2
  go_ret
  exact ⟨by simp [h, h'], rfl⟩

def wordlyI (c : Int) : Bool := decide (97 ≤ c) && decide (c ≤ 122) || (decide (65 ≤ c) && decide (c ≤ 90)) || (decide (48 ≤ c) && decide (c ≤ 57))
set_option maxHeartbeats 2000000 in
theorem wordly_any (c : Int) (w : World) (h0 : 0 ≤ c) (h1 : c ≤ 255) : Calls Tryz.prog 120 #[.int .u8 c] w fun e w' => e = .returned (.bool (wordlyI c)) ∧ w = w' := by
 unfold wordlyI
 cases hl : (decide (97 ≤ c) && decide (c ≤ 122)) <;> cases hu : (decide (65 ≤ c) && decide (c ≤ 90)) <;> cases hd : (decide (48 ≤ c) && decide (c ≤ 57))
 all_goals
  have HL := Lib.hid hl; have HU := Lib.hid hu; have HD := Lib.hid hd
  clear hl hu hd
  go_enter Tryz.func120, Tryz.ntmps120
  go_wp2_with (first|(go_at_call 134; refine (lower_any _ _ h0 h1).mono ?_; rintro e w' ⟨rfl, rfl⟩; rw [HL.out]) | (go_at_call 135; refine (upper_any _ _ h0 h1).mono ?_; rintro e w' ⟨rfl, rfl⟩; rw [HU.out]) | (go_at_call 136; refine (digit_any _ _ h0 h1).mono ?_; rintro e w' ⟨rfl, rfl⟩; rw [HD.out]))
  go_ret
  exact ⟨by simp, rfl⟩

set_option maxHeartbeats 1000000 in
theorem pRun_pays (w : World) : PredAt Tryz.prog 119 #[] encR HLex.pRun w := fun W r _ => by
 unfold FnGives
 by_cases h0 : 127 < r
 ·go_enter Tryz.func119, Tryz.ntmps119
  have z0 : decide ((127 : Int) < (r : Int)) = true := decide_eq_true (by omega)
  go_wp2
  go_ret
  exact ⟨by simp [HLex.pRun, h0], 0, rfl⟩
 ·have z0 : decide ((127 : Int) < (r : Int)) = false := decide_eq_false (by omega)
  have z1 : (0 : Int) ≤ (r : Int) := by omega
  have z2 : (r : Int) ≤ 255 := by omega
  cases hw : wordlyI (r : Int)
  all_goals
   have HW := Lib.hid hw
   clear hw
   go_enter Tryz.func119, Tryz.ntmps119
   go_wp2_with (go_at_call 120; refine (wordly_any _ _ z1 z2).mono ?_; rintro e w' ⟨rfl, rfl⟩; rw [HW.out])
   go_ret
   refine ⟨?_, 0, rfl⟩
   have := HW.out
   unfold wordlyI at this
   congr 2
   unfold HLex.pRun
   have e0 : decide (127 < r) = false := by simp; omega
   rw [e0, Bool.false_or]
   have c1 : ∀ a : Nat, decide ((a : Int) ≤ (r : Int)) = decide (a ≤ r) := fun a => by simp
   have c2 : ∀ a : Nat, decide ((r : Int) ≤ (a : Int)) = decide (r ≤ a) := fun a => by simp
   rw [show (97 : Int) = ((97 : Nat) : Int) from rfl, show (122 : Int) = ((122 : Nat) : Int) from rfl, show (65 : Int) = ((65 : Nat) : Int) from rfl, show (90 : Int) = ((90 : Nat) : Int) from rfl, show (48 : Int) = ((48 : Nat) : Int) from rfl, show (57 : Int) = ((57 : Nat) : Int) from rfl] at this
   simp only [c1, c2] at this
   rw [this]
   rfl

set_option maxHeartbeats 1000000 in
theorem pBig_pays (w : World) : PredAt Tryz.prog 138 #[] encR HLex.pBig w := fun W r _ => by
 unfold FnGives
 go_enter Tryz.func138, Tryz.ntmps138
 go_wp2
 go_ret
 exact ⟨by simp [HLex.pBig]; omega, 0, rfl⟩

theorem enters_first1 : ∀ args w, (callFunc 119 args).run Tryz.prog w = .ok (.enter 119 args) w := enters_of Tryz.func119 (by kernel_rfl) rfl
theorem enters_named1 : ∀ args w, (callFunc 138 args).run Tryz.prog w = .ok (.enter 138 args) w := enters_of Tryz.func138 (by kernel_rfl) rfl

theorem indexRun_any (s : ByteArray) (w : World) :
  Calls Tryz.prog 118 #[.string s, .func (.func 119) #[] #[]] w fun e w' => e = .returned (.int .i64 (Lib.idxFunc HLex.pRun true s)) ∧ Below w.heap.size w w' :=
 Tryz.strings_IndexFunc 119 #[] enters_first1 HLex.pRun s w (pRun_pays w)
theorem containsBig_any (s : ByteArray) (w : World) :
  Calls Tryz.prog 137 #[.string s, .func (.func 138) #[] #[]] w fun e w' => e = .returned (.bool (s.data.toList.any (fun c => decide (57 < c.toNat)))) ∧ Below w.heap.size w w' := by
 have h := Tryz.strings_ContainsFunc 138 #[] enters_named1 HLex.pBig s w (pBig_pays w)
 rw [HLex.idx_big] at h
 exact h

def wordsB : List ByteArray := [⟨#[108, 101, 116]⟩, ⟨#[108, 101, 116, 114, 101, 99]⟩, ⟨#[105, 110]⟩, ⟨#[99, 97, 115, 101]⟩, ⟨#[111, 102]⟩]
theorem bytes_eq_iff (a b : ByteArray) : a = b ↔ a.data.toList = b.data.toList := ⟨fun h => by rw [h], fun h => by
 cases a; cases b; congr 1; exact Array.toList_inj.1 h⟩
theorem containsWords (s : ByteArray) : Lib.containsS (wordsB.take 5) s = HLex.isWord s.data.toList := by
 rw [Bool.eq_iff_iff, Lib.containsS_iff]
 unfold HLex.isWord HLex.words wordsB
 simp [bytes_eq_iff]
theorem wordCells (w : World) : ∀ j, j < wordsB.length → (w.alloc (Obj.cells #[Value.string { data := #[108, 101, 116] }, Value.string { data := #[108, 101, 116, 114, 101, 99] }, Value.string { data := #[105, 110] }, Value.string { data := #[99, 97, 115, 101] }, Value.string { data := #[111, 102] }] 9)).cell? ⟨w.heap.size, 0 + j, none⟩ = some (.string (wordsB.getD j ByteArray.empty)) := by
 intro j hj
 have hj' : j < 5 := hj
 match j, hj' with
 | 0, _ => simp [go_sem, wordsB]
 | 1, _ => simp [go_sem, wordsB]
 | 2, _ => simp [go_sem, wordsB]
 | 3, _ => simp [go_sem, wordsB]
 | 4, _ => simp [go_sem, wordsB]
set_option maxHeartbeats 1000000 in
theorem word_any (s : ByteArray) (w : World) :
  Calls Tryz.prog 140 #[.string s] w fun e w' => e = .returned (.bool (HLex.isWord s.data.toList)) ∧ Below w.heap.size w w' := by
 have hC := fun (W : World) (hc : ∀ j, j < wordsB.length → W.cell? ⟨w.heap.size, 0 + j, none⟩ = some (.string (wordsB.getD j ByteArray.empty))) =>
  Tryz.slices_Contains_string w.heap.size 0 5 5 wordsB s W (by decide) (by decide) hc
 rw [containsWords] at hC
 go_enter Tryz.func140, Tryz.ntmps140
 go_wp2_with (go_at_call 53; refine (hC _ (wordCells w)).mono ?_; rintro e w' ⟨rfl, rfl⟩)
 go_ret
 exact ⟨rfl, (Below.refl _ _).alloc (Nat.le_refl _) _⟩

theorem bytes_below (w : World) (e : TypeId) (s : ByteArray) : Below w.heap.size w (Lib.bytesWorld w e s) := by
 unfold Lib.bytesWorld
 exact Lib.below_freeze (((Below.refl _ w).drew).alloc (Nat.le_refl _) _) (Nat.le_refl _) _
theorem atoi_any (s : ByteArray) (n : Int) (w : World) (hl : s.size ≤ 18) (h : Lib.atoi s.data.toList = some n) :
  Calls Tryz.prog 139 #[.string s] w fun e w' => e = .returned (.tuple #[.int .i64 n, .nilIface]) ∧ Below w.heap.size w w' :=
 (Tryz.strconv_Atoi s n hl h w).mono fun e w' ⟨he, t, hw⟩ => ⟨he, by rw [hw]; exact bytes_below _ _ _⟩

def NamedPost (s : ByteArray) (w : World) (e : Ending) (w' : World) : Prop :=
 (match HLex.named s.data.toList with
  | .ok (k, n) => e = .returned (.agg #[.int .i64 (k : Int), .string s, .int .i64 (n : Int), .int .i64 0])
  | .error er => e = .panicked [{ v := .iface 90 (.agg #[.int .i64 (er : Int)]), recovered := false }]) ∧ Below w.heap.size w w'

theorem head_get (s : ByteArray) (hn : 0 < s.size) : s.data.toList.head? = some s[0] := by
 have := HLex.drop_cons_get s 0 hn
 rw [List.drop_zero] at this
 rw [this]; rfl
set_option maxHeartbeats 2000000 in
theorem named_any (s : ByteArray) (w : World) (hn : 0 < s.size) (hmax : s.size ≤ 9223372036854775807) (hw : ∀ c ∈ s.data.toList, HLex.wordly c = true) :
  Calls Tryz.prog 121 #[.string s] w (NamedPost s w) := by
 have hh := head_get s hn
 have hsz : s.data.toList.length = s.size := Array.length_toList
 have hc0 : (0 : Int) ≤ ((s[0]).toNat : Int) := by omega
 have hc1 : ((s[0]).toNat : Int) ≤ 255 := by have := (s[0]).toNat_lt; omega
 have hdg : (decide ((48 : Int) ≤ ((s[0]).toNat : Int)) && decide (((s[0]).toNat : Int) ≤ 57)) = HLex.digit s[0] := by
  unfold HLex.digit; rw [Bool.eq_iff_iff]; simp; omega
 have hup : (decide ((65 : Int) ≤ ((s[0]).toNat : Int)) && decide (((s[0]).toNat : Int) ≤ 90)) = HLex.upper s[0] := by
  unfold HLex.upper; rw [Bool.eq_iff_iff]; simp; omega
 cases hd : HLex.digit s[0]
 ·have HD := Lib.hid hd
  have HDG := Lib.hid hdg
  have HUP := Lib.hid hup
  clear hdg hup
  by_cases hlen : 16 < s.size
  ·have hfin : HLex.named s.data.toList = .error 11 := by
    unfold HLex.named; rw [hh]; simp [hd, hsz, hlen]
   have HF := Lib.hid hfin; clear hfin hd hh hsz hw
   go_enter Tryz.func121, Tryz.ntmps121
   go_wp2_with (first|(go_at_call 136; refine (digit_any _ _ hc0 hc1).mono ?_; rintro e w' ⟨rfl, rfl⟩; rw [HDG.out, HD.out]))
   refine (show _ ∧ _ from ⟨rfl, ?_⟩)
   unfold NamedPost
   rw [HF.out]
   exact ⟨rfl, ((Below.refl _ _).alloc (Nat.le_refl _) _).alloc (by simp) _⟩
  ·have hk : ∃ k : Nat, HLex.named s.data.toList = .ok (k, 0) ∧ k = (if HLex.isWord s.data.toList then 4 else if HLex.upper s[0] then 2 else 1) := by
    unfold HLex.named; rw [hh]; simp only [Option.map_some, Option.getD_some, hd, hsz, hlen, Bool.false_eq_true, if_false]
    by_cases ha : HLex.isWord s.data.toList = true <;> by_cases hb' : HLex.upper s[0] = true <;> simp only [ha, hb', if_true, Bool.false_eq_true, if_false] <;> exact ⟨_, rfl, rfl⟩
   have HK := Lib.hid hk
   clear hk hd hh hsz hw
   cases hwd : HLex.isWord s.data.toList
   ·cases hu : HLex.upper s[0]
    all_goals
     have HW := Lib.hid hwd
     have HU := Lib.hid hu
     clear hwd hu
     go_enter Tryz.func121, Tryz.ntmps121
     go_wp2_with (first|(go_at_call 136; refine (digit_any _ _ hc0 hc1).mono ?_; rintro e w' ⟨rfl, rfl⟩; rw [HDG.out, HD.out]) | (go_at_call 135; refine (upper_any _ _ hc0 hc1).mono ?_; rintro e w' ⟨rfl, rfl⟩; rw [HUP.out, HU.out]) | (go_at_call 140; refine (word_any s _).mono ?_; rintro e w' ⟨rfl, hbl⟩; rw [HW.out]; have hz := hbl.size; simp only [World.size_alloc] at hz; have hb0 := Lib.hid (blk_below (blk_alloc (blk_new w _) _) hbl); obtain ⟨hc, hf⟩ := bcell hbl; simp only [World.size_alloc] at hc hf))
     obtain ⟨kk, hk1, hk2⟩ := HK.out
     rw [HW.out, HU.out] at hk2
     simp only [Bool.false_eq_true, if_false, if_true] at hk2
     refine bodyPost_ret (v := .agg #[.int .i64 (kk : Int), .string s, .int .i64 0, .int .i64 0]) (results_cell_row rfl _ _ w.heap.size 63 #[.int .i64 (kk : Int), .string s, .int .i64 0, .int .i64 0] (0, 0) _ rfl (by rw [hk2]; exact blk_put (blk_put (blk_put (blk_put (blk_far hb0.out (by simp) _) 0 _ rfl) 1 _ rfl) 2 _ rfl) 3 _ rfl) Tryz.underlying63 rfl (by kernel_rfl)) rfl ?_
     unfold NamedPost
     rw [hk1]
     exact ⟨rfl, ((((((((Below.refl _ _).alloc (Nat.le_refl _) _).alloc (by simp) _).trans (hbl.mono (by simp; omega))).setCell (by simp) _).setCell (by simp) _).setCell (by simp) _).setCell (by simp) _).setCell (by simp) _⟩
   ·have HW := Lib.hid hwd
    clear hwd
    go_enter Tryz.func121, Tryz.ntmps121
    go_wp2_with (first|(go_at_call 136; refine (digit_any _ _ hc0 hc1).mono ?_; rintro e w' ⟨rfl, rfl⟩; rw [HDG.out, HD.out]) | (go_at_call 140; refine (word_any s _).mono ?_; rintro e w' ⟨rfl, hbl⟩; rw [HW.out]; have hz := hbl.size; simp only [World.size_alloc] at hz; have hb0 := Lib.hid (blk_below (blk_alloc (blk_new w _) _) hbl); obtain ⟨hc, hf⟩ := bcell hbl; simp only [World.size_alloc] at hc hf))
    obtain ⟨kk, hk1, hk2⟩ := HK.out
    rw [HW.out] at hk2
    simp only [if_true] at hk2
    refine bodyPost_ret (v := .agg #[.int .i64 (kk : Int), .string s, .int .i64 0, .int .i64 0]) (results_cell_row rfl _ _ w.heap.size 63 #[.int .i64 (kk : Int), .string s, .int .i64 0, .int .i64 0] (0, 0) _ rfl (by rw [hk2]; exact blk_put (blk_put (blk_put (blk_put (blk_far hb0.out (by simp) _) 0 _ rfl) 1 _ rfl) 2 _ rfl) 3 _ rfl) Tryz.underlying63 rfl (by kernel_rfl)) rfl ?_
    unfold NamedPost
    rw [hk1]
    exact ⟨rfl, ((((((((Below.refl _ _).alloc (Nat.le_refl _) _).alloc (by simp) _).trans (hbl.mono (by simp; omega))).setCell (by simp) _).setCell (by simp) _).setCell (by simp) _).setCell (by simp) _).setCell (by simp) _⟩
 ·cases hb : s.data.toList.any (fun c => decide (57 < c.toNat))
  ·have hall : ∀ c ∈ s.data.toList, HLex.digit c = true := by
    intro c hc
    have h1 := hw c hc
    have h2 := List.any_eq_false.1 hb c hc
    simp at h2
    unfold HLex.wordly HLex.lower HLex.upper HLex.digit at h1
    unfold HLex.digit
    simp at h1 ⊢
    omega
   have hat := HLex.atoi_num s.data.toList (by intro h0; rw [h0] at hsz; simp at hsz; omega) hall
   have hfin : HLex.named s.data.toList = (if 18 < s.size ∨ 1 < s.size ∧ (s[0]).toNat = 48 then .error 11 else .ok (3, HLex.num s.data.toList)) := by
    unfold HLex.named; rw [hh]; simp only [Option.map_some, Option.getD_some, hd, hb, hsz, if_true, Bool.false_eq_true, if_false, Option.some.injEq]
    have : (s[0] = 48) ↔ (s[0]).toNat = 48 := ⟨fun h => by rw [h]; rfl, fun h => UInt8.toNat_inj.1 (by rw [h]; rfl)⟩
    simp only [this]
   have HF := Lib.hid hfin; clear hfin
   have HD := Lib.hid hd; clear hd
   have HB := Lib.hid hb; clear hb
   have HDG := Lib.hid hdg; clear hdg
   have HAT := Lib.hid hat
   clear hh hsz hw hup hall hat
   by_cases h18 : 18 < s.size
   ·go_enter Tryz.func121, Tryz.ntmps121
    go_wp2_with (first|(go_at_call 136; refine (digit_any _ _ hc0 hc1).mono ?_; rintro e w' ⟨rfl, rfl⟩; rw [HDG.out, HD.out]) | (go_at_call 137; refine (containsBig_any s _).mono ?_; rintro e w' ⟨rfl, hbl⟩; rw [HB.out]))
    refine (show _ ∧ _ from ⟨rfl, ?_⟩)
    unfold NamedPost
    rw [HF.out, if_pos (.inl h18)]
    exact ⟨rfl, (((Below.refl _ _).alloc (Nat.le_refl _) _).alloc (by simp) _).trans (hbl.mono (by simp; omega))⟩
   ·by_cases h1 : 1 < s.size
    ·by_cases h48 : (s[0]).toNat = 48
     ·have hz48 : (((s[0]).toNat : Int) == 48) = true := by simp [h48]
      have H48 := Lib.hid h48; clear h48
      go_enter Tryz.func121, Tryz.ntmps121
      go_wp2_with (first|(go_at_call 136; refine (digit_any _ _ hc0 hc1).mono ?_; rintro e w' ⟨rfl, rfl⟩; rw [HDG.out, HD.out]) | (go_at_call 137; refine (containsBig_any s _).mono ?_; rintro e w' ⟨rfl, hbl⟩; rw [HB.out]))
      refine (show _ ∧ _ from ⟨rfl, ?_⟩)
      unfold NamedPost
      rw [HF.out, if_pos (.inr ⟨h1, H48.out⟩)]
      exact ⟨rfl, (((Below.refl _ _).alloc (Nat.le_refl _) _).alloc (by simp) _).trans (hbl.mono (by simp; omega))⟩
     ·have hz48 : (((s[0]).toNat : Int) == 48) = false := by simp; omega
      go_enter Tryz.func121, Tryz.ntmps121
      go_wp2_with (first|(go_at_call 136; refine (digit_any _ _ hc0 hc1).mono ?_; rintro e w' ⟨rfl, rfl⟩; rw [HDG.out, HD.out]) | (go_at_call 137; refine (containsBig_any s _).mono ?_; rintro e w' ⟨rfl, hbl⟩; rw [HB.out]; have hz := hbl.size; simp only [World.size_alloc] at hz; have hb0 := Lib.hid (blk_below (blk_alloc (blk_new w _) _) hbl); obtain ⟨hc, hf⟩ := bcell hbl; simp only [World.size_alloc] at hc hf))
      have hb1 := blk_below (blk_new ((w.alloc _)) _) hbl
      simp only [World.size_alloc] at hb1
      replace hb1 := Lib.hid hb1
      have HA := Lib.hid (atoi_any s (HLex.num s.data.toList : Int) (w'.setCell ⟨w.heap.size + 1, 0, none⟩ (.int .i64 3)) (by omega) HAT.out)
      refine HA.out.mono ?_
      rintro e w2 ⟨rfl, hb2⟩
      have hB1 := blk_below (blk_put hb1.out 0 (.int .i64 3) rfl) hb2
      have hB0 := blk_below (blk_far (p := ⟨w.heap.size + 1, 0, none⟩) hb0.out (by simp) (.int .i64 3)) hb2
      have c10 := blk_cell hB1 0; have c11 := blk_cell hB1 1; have c12 := blk_cell hB1 2; have c13 := blk_cell hB1 3
      have c00 := blk_cell hB0 0; have c01 := blk_cell hB0 1; have c02 := blk_cell hB0 2; have c03 := blk_cell hB0 3
      have z1 := fun i => blk_frozen hB1 i
      have z0 := fun i => blk_frozen hB0 i
      have HB0 := Lib.hid hB0; have HB1 := Lib.hid hB1; clear hB0 hB1 hc hf HA
      simp at c10 c11 c12 c13 c00 c01 c02 c03
      go_wp2_with fail
      refine bodyPost_ret (v := .agg #[.int .i64 3, .string s, .int .i64 (HLex.num s.data.toList : Int), .int .i64 0]) (results_cell_row rfl _ _ w.heap.size 63 #[.int .i64 3, .string s, .int .i64 (HLex.num s.data.toList : Int), .int .i64 0] (0, 0) _ rfl (blk_put (blk_put (blk_put (blk_put (blk_far HB0.out (by simp) _) 0 _ rfl) 1 _ rfl) 2 _ rfl) 3 _ rfl) Tryz.underlying63 rfl (by kernel_rfl)) rfl ?_
      unfold NamedPost
      rw [HF.out, if_neg (by omega)]
      exact ⟨rfl, below_set (below_set (below_set (below_set (below_set (below_step (below_set (below_step (below_alloc (below_alloc (Below.refl _ w) _) _) hbl) (by omega)) hb2) (by omega)) (by omega)) (by omega)) (by omega)) (by omega)⟩
    ·go_enter Tryz.func121, Tryz.ntmps121
     go_wp2_with (first|(go_at_call 136; refine (digit_any _ _ hc0 hc1).mono ?_; rintro e w' ⟨rfl, rfl⟩; rw [HDG.out, HD.out]) | (go_at_call 137; refine (containsBig_any s _).mono ?_; rintro e w' ⟨rfl, hbl⟩; rw [HB.out]; have hz := hbl.size; simp only [World.size_alloc] at hz; have hb0 := Lib.hid (blk_below (blk_alloc (blk_new w _) _) hbl); obtain ⟨hc, hf⟩ := bcell hbl; simp only [World.size_alloc] at hc hf))
     have hb1 := blk_below (blk_new ((w.alloc _)) _) hbl
     simp only [World.size_alloc] at hb1
     replace hb1 := Lib.hid hb1
     have HA := Lib.hid (atoi_any s (HLex.num s.data.toList : Int) (w'.setCell ⟨w.heap.size + 1, 0, none⟩ (.int .i64 3)) (by omega) HAT.out)
     refine HA.out.mono ?_
     rintro e w2 ⟨rfl, hb2⟩
     have hB1 := blk_below (blk_put hb1.out 0 (.int .i64 3) rfl) hb2
     have hB0 := blk_below (blk_far (p := ⟨w.heap.size + 1, 0, none⟩) hb0.out (by simp) (.int .i64 3)) hb2
     have c10 := blk_cell hB1 0; have c11 := blk_cell hB1 1; have c12 := blk_cell hB1 2; have c13 := blk_cell hB1 3
     have c00 := blk_cell hB0 0; have c01 := blk_cell hB0 1; have c02 := blk_cell hB0 2; have c03 := blk_cell hB0 3
     have z1 := fun i => blk_frozen hB1 i
     have z0 := fun i => blk_frozen hB0 i
     have HB0 := Lib.hid hB0; have HB1 := Lib.hid hB1; clear hB0 hB1 hc hf HA
     simp at c10 c11 c12 c13 c00 c01 c02 c03
     go_wp2_with fail
     refine bodyPost_ret (v := .agg #[.int .i64 3, .string s, .int .i64 (HLex.num s.data.toList : Int), .int .i64 0]) (results_cell_row rfl _ _ w.heap.size 63 #[.int .i64 3, .string s, .int .i64 (HLex.num s.data.toList : Int), .int .i64 0] (0, 0) _ rfl (blk_put (blk_put (blk_put (blk_put (blk_far HB0.out (by simp) _) 0 _ rfl) 1 _ rfl) 2 _ rfl) 3 _ rfl) Tryz.underlying63 rfl (by kernel_rfl)) rfl ?_
     unfold NamedPost
     rw [HF.out, if_neg (by omega)]
     exact ⟨rfl, below_set (below_set (below_set (below_set (below_set (below_step (below_set (below_step (below_alloc (below_alloc (Below.refl _ w) _) _) hbl) (by omega)) hb2) (by omega)) (by omega)) (by omega)) (by omega)) (by omega)⟩
  ·have hfin : HLex.named s.data.toList = .error 10 := by
    unfold HLex.named; rw [hh]; simp [hd, hb]
   have HF := Lib.hid hfin; clear hfin
   have HD := Lib.hid hd; clear hd
   have HB := Lib.hid hb; clear hb
   have HDG := Lib.hid hdg; clear hdg
   clear hh hsz hw hup
   go_enter Tryz.func121, Tryz.ntmps121
   go_wp2_with (first|(go_at_call 136; refine (digit_any _ _ hc0 hc1).mono ?_; rintro e w' ⟨rfl, rfl⟩; rw [HDG.out, HD.out]) | (go_at_call 137; refine (containsBig_any s _).mono ?_; rintro e w' ⟨rfl, hbl⟩; rw [HB.out]))
   refine (show _ ∧ _ from ⟨rfl, ?_⟩)
   unfold NamedPost
   rw [HF.out]
   exact ⟨rfl, (((Below.refl _ _).alloc (Nat.le_refl _) _).alloc (by simp) _).trans (hbl.mono (by simp; omega))⟩

end Go.Proofs.YtnjmilelifmfpaaGreatDoor.HLexC

/- The walk of lex.first, in the words of HLex. -/
namespace Go.Proofs.YtnjmilelifmfpaaGreatDoor.HLexC
open Go Go.RowKit Go.Lib Go.Proofs Go.Proofs.YtnjmilelifmfpaaGreatDoorW.PrintWords Go.Proofs.YtnjmilelifmfpaaGreatDoorW.PrintLast Go.Proofs.YtnjmilelifmfpaaGreatDoorW.PrintMore
set_option linter.unusedVariables false
set_option linter.unusedSimpArgs false


def signsB : List ByteArray := [⟨#[45, 62]⟩, ⟨#[61, 61]⟩, ⟨#[92]⟩, ⟨#[46]⟩, ⟨#[40]⟩, ⟨#[41]⟩, ⟨#[61]⟩, ⟨#[123]⟩, ⟨#[125]⟩, ⟨#[124]⟩, ⟨#[43]⟩, ⟨#[45]⟩, ⟨#[42]⟩, ⟨#[47]⟩, ⟨#[60]⟩]
def signsV : Array Value := #[.string ⟨#[45, 62]⟩, .string ⟨#[61, 61]⟩, .string ⟨#[92]⟩, .string ⟨#[46]⟩, .string ⟨#[40]⟩, .string ⟨#[41]⟩, .string ⟨#[61]⟩, .string ⟨#[123]⟩, .string ⟨#[125]⟩, .string ⟨#[124]⟩, .string ⟨#[43]⟩, .string ⟨#[45]⟩, .string ⟨#[42]⟩, .string ⟨#[47]⟩, .string ⟨#[60]⟩]

theorem signs_any (w : World) :
  Calls Tryz.prog 122 #[] w fun e w' => e = .returned (.agg signsV) ∧ Below w.heap.size w w' := by
 go_enter Tryz.func122, Tryz.ntmps122
 go_wp2
 exact bodyPost_ret (v := .agg signsV) (results_cell_row rfl _ _ w.heap.size 124 signsV (0, 0) _ rfl (blk_new w _) Tryz.underlying124 rfl (by kernel_rfl)) rfl ⟨rfl, (Below.refl _ w).alloc (Nat.le_refl _) _⟩

theorem takeWhile_forall (q : UInt8 → Bool) (l : List UInt8) : ∀ c ∈ l.takeWhile q, q c = true := by
 induction l with
 | nil => intro c hc; simp at hc
 | cons a t ih =>
  intro c hc
  rw [List.takeWhile_cons] at hc
  split at hc
  ·rcases List.mem_cons.1 hc with rfl | h
   ·assumption
   ·exact ih c h
  ·simp at hc
theorem first_of_ok {l : List UInt8} {kd n : Nat} (hne : l.takeWhile HLex.wordly ≠ []) (h : HLex.named (l.takeWhile HLex.wordly) = .ok (kd, n)) : HLex.first l = .ok (kd, l.takeWhile HLex.wordly, n) := by
 unfold HLex.first; simp only [hne, if_false, h]
theorem first_of_err {l : List UInt8} {er : Nat} (hne : l.takeWhile HLex.wordly ≠ []) (h : HLex.named (l.takeWhile HLex.wordly) = .error er) : HLex.first l = .error er := by
 unfold HLex.first; simp only [hne, if_false, h]
theorem take_data (s : ByteArray) (k : Nat) : (s.extract 0 k).data.toList = s.data.toList.take k := by
 rw [Lib.extract_data]; simp
theorem prefix_take (p l : List UInt8) : p.isPrefixOf l = (decide (p.length ≤ l.length) && (l.take p.length == p)) := by
 rw [Bool.eq_iff_iff]
 simp only [List.isPrefixOf_iff_prefix, Bool.and_eq_true, decide_eq_true_eq, beq_iff_eq]
 constructor
 ·intro h; exact ⟨h.length_le, (List.prefix_iff_eq_take.1 h).symm⟩
 ·rintro ⟨_, h⟩; rw [← h]; exact List.take_prefix _ _
set_option maxHeartbeats 1000000 in
theorem hasPrefix_any (s p : ByteArray) (w : World) (hs : s.size ≤ 9223372036854775807) :
  Calls Tryz.prog 123 #[.string s, .string p] w fun e w' => e = .returned (.bool (p.data.toList.isPrefixOf s.data.toList)) ∧ w = w' := by
 have e1 : s.data.toList.length = s.size := Array.length_toList
 have e2 : p.data.toList.length = p.size := Array.length_toList
 have hp := prefix_take p.data.toList s.data.toList
 rw [e1, e2] at hp
 have HP := Lib.hid hp
 clear hp e1 e2
 by_cases hle : p.size ≤ s.size
 ·have hd : decide (p.size ≤ s.size) = true := decide_eq_true hle
  go_enter Tryz.func123, Tryz.ntmps123
  go_wp2
  go_ret
  refine ⟨?_, rfl⟩
  show Ending.returned (.bool ((s.extract 0 p.size).toList == p.toList)) = _
  rw [HP.out, hd, Bool.true_and, Lib.toList_data, Lib.toList_data, HLexC.take_data]
 ·have hd : decide (p.size ≤ s.size) = false := decide_eq_false hle
  go_enter Tryz.func123, Tryz.ntmps123
  go_wp2
  go_ret
  exact ⟨by rw [HP.out, hd]; rfl, rfl⟩
def FirstPost (s : ByteArray) (w : World) (e : Ending) (w' : World) : Prop :=
 (match HLex.first s.data.toList with
  | .ok (k, t, n) => e = .returned (.agg #[.int .i64 (k : Int), .string ⟨t.toArray⟩, .int .i64 (n : Int), .int .i64 0])
  | .error er => e = .panicked [{ v := .iface 90 (.agg #[.int .i64 (er : Int)]), recovered := false }]) ∧ Below w.heap.size w w'

set_option maxHeartbeats 2000000 in
theorem first_word (s : ByteArray) (w : World) (hmax : s.size ≤ 9223372036854775807) (hne : s.data.toList.takeWhile HLex.wordly ≠ []) :
  Calls Tryz.prog 85 #[.string s] w (FirstPost s w) := by
 have hidx := HLex.idx_run s
 have hk0 : 0 < (s.data.toList.takeWhile HLex.wordly).length := List.length_pos_iff.2 hne
 have hkl := HLex.takeWhile_len_le HLex.wordly s.data.toList
 have e1 : s.data.toList.length = s.size := Array.length_toList
 rw [e1] at hkl
 generalize hk : (s.data.toList.takeWhile HLex.wordly).length = k at *
 by_cases hlt : k < s.size
 ·rw [if_pos hlt] at hidx
  have HI := Lib.hid hidx; clear hidx
  go_enter Tryz.func85, Tryz.ntmps85
  go_wp2_with (go_at_call 118; refine (indexRun_any s _).mono ?_; rintro e w' ⟨rfl, hbl⟩; rw [HI.out])
  have hx : (s.extract 0 k).data.toList = s.data.toList.takeWhile HLex.wordly := by rw [take_data, ← hk, HLex.takeWhile_take]
  have hxs : (s.extract 0 k).size = k := by
   have : (s.extract 0 k).data.toList.length = (s.extract 0 k).size := Array.length_toList
   rw [hx] at this; omega
  have hxw : ∀ c ∈ (s.extract 0 k).data.toList, HLex.wordly c = true := by
   rw [hx]; exact takeWhile_forall _ _
  have hse : ∀ er, HLex.named (s.extract 0 k).data.toList = .error er → HLex.first s.data.toList = .error er := by
   rw [hx]; intro er h; exact first_of_err hne h
  have hso : ∀ kd n, HLex.named (s.extract 0 k).data.toList = .ok (kd, n) → HLex.first s.data.toList = .ok (kd, (s.extract 0 k).data.toList, n) := by
   rw [hx]; intro kd n h; exact first_of_ok hne h
  have HSE := Lib.hid hse
  have HSO := Lib.hid hso
  have hb0 := blk_below (blk_new w _) hbl
  have HB0 := Lib.hid hb0
  have HX := Lib.hid hxw
  clear hse hso hx hxw hb0
  generalize hxg : s.extract 0 k = x at *
  clear hxg
  refine (named_any x w' (by omega) (by omega) HX.out).mono ?_
  rintro e w2 ⟨hres, hb2⟩
  cases hnm : HLex.named x.data.toList with
  | error er =>
   rw [hnm] at hres
   have hs2 := HSE.out er hnm
   simp only at hres
   subst hres
   refine (show _ ∧ _ from ⟨rfl, ?_⟩)
   unfold FirstPost
   rw [hs2]
   exact ⟨rfl, below_step (below_step (below_alloc (Below.refl _ w) _) hbl) hb2⟩
  | ok kn =>
   obtain ⟨kd, n⟩ := kn
   rw [hnm] at hres
   have hs2 := HSO.out kd n hnm
   simp only at hres
   subst hres
   have hB2 := blk_below HB0.out hb2
   have c0 := blk_cell hB2 0; have c1 := blk_cell hB2 1; have c2 := blk_cell hB2 2; have c3 := blk_cell hB2 3
   have z0 := fun i => blk_frozen hB2 i
   replace HB0 := Lib.hid hB2
   have HS := Lib.hid hs2
   clear hB2 hs2 hnm
   simp at c0 c1 c2 c3
   go_wp2_with fail
   refine bodyPost_ret (v := .agg #[.int .i64 (kd : Int), .string x, .int .i64 (n : Int), .int .i64 0]) (results_cell_row rfl _ _ w.heap.size 63 #[.int .i64 (kd : Int), .string x, .int .i64 (n : Int), .int .i64 0] (0, 0) _ rfl (blk_put (blk_put (blk_put (blk_put HB0.out 0 _ rfl) 1 _ rfl) 2 _ rfl) 3 _ rfl) Tryz.underlying63 rfl (by kernel_rfl)) rfl ?_
   unfold FirstPost
   rw [HS.out]
   exact ⟨rfl, below_set (below_set (below_set (below_set (below_step (below_step (below_alloc (Below.refl _ w) _) hbl) hb2) (by omega)) (by omega)) (by omega)) (by omega)⟩
 ·have hks : k = s.size := by omega
  rw [if_neg hlt] at hidx
  have hall : s.data.toList.takeWhile HLex.wordly = s.data.toList := HLex.takeWhile_all (by omega)
  have HI := Lib.hid hidx; clear hidx
  go_enter Tryz.func85, Tryz.ntmps85
  go_wp2_with (go_at_call 118; refine (indexRun_any s _).mono ?_; rintro e w' ⟨rfl, hbl⟩; rw [HI.out])
  have hx : s.data.toList = s.data.toList.takeWhile HLex.wordly := hall.symm
  have hxw : ∀ c ∈ s.data.toList, HLex.wordly c = true := by
   rw [hall.symm]; exact takeWhile_forall _ _
  have hse : ∀ er, HLex.named s.data.toList = .error er → HLex.first s.data.toList = .error er := by
   intro er h; exact first_of_err hne (by rw [hall]; exact h)
  have hso : ∀ kd n, HLex.named s.data.toList = .ok (kd, n) → HLex.first s.data.toList = .ok (kd, s.data.toList, n) := by
   intro kd n h; rw [first_of_ok hne (by rw [hall]; exact h), hall]
  have HSE := Lib.hid hse
  have HSO := Lib.hid hso
  have hb0 := blk_below (blk_new w _) hbl
  have HB0 := Lib.hid hb0
  have HX := Lib.hid hxw
  clear hse hso hx hxw hb0
  clear hk hne hall e1
  refine (named_any s w' (by omega) (by omega) HX.out).mono ?_
  rintro e w2 ⟨hres, hb2⟩
  cases hnm : HLex.named s.data.toList with
  | error er =>
   rw [hnm] at hres
   have hs2 := HSE.out er hnm
   simp only at hres
   subst hres
   refine (show _ ∧ _ from ⟨rfl, ?_⟩)
   unfold FirstPost
   rw [hs2]
   exact ⟨rfl, below_step (below_step (below_alloc (Below.refl _ w) _) hbl) hb2⟩
  | ok kn =>
   obtain ⟨kd, n⟩ := kn
   rw [hnm] at hres
   have hs2 := HSO.out kd n hnm
   simp only at hres
   subst hres
   have hB2 := blk_below HB0.out hb2
   have c0 := blk_cell hB2 0; have c1 := blk_cell hB2 1; have c2 := blk_cell hB2 2; have c3 := blk_cell hB2 3
   have z0 := fun i => blk_frozen hB2 i
   replace HB0 := Lib.hid hB2
   have HS := Lib.hid hs2
   clear hB2 hs2 hnm
   simp at c0 c1 c2 c3
   go_wp2_with fail
   refine bodyPost_ret (v := .agg #[.int .i64 (kd : Int), .string s, .int .i64 (n : Int), .int .i64 0]) (results_cell_row rfl _ _ w.heap.size 63 #[.int .i64 (kd : Int), .string s, .int .i64 (n : Int), .int .i64 0] (0, 0) _ rfl (blk_put (blk_put (blk_put (blk_put HB0.out 0 _ rfl) 1 _ rfl) 2 _ rfl) 3 _ rfl) Tryz.underlying63 rfl (by kernel_rfl)) rfl ?_
   unfold FirstPost
   rw [HS.out]
   exact ⟨rfl, below_set (below_set (below_set (below_set (below_step (below_step (below_alloc (Below.refl _ w) _) hbl) hb2) (by omega)) (by omega)) (by omega)) (by omega)⟩

theorem find_lemma (l : List UInt8) (k : Nat) (hk : k < 15) (hno : ∀ j, j < k → (HLex.signs.getD j []).isPrefixOf l = false) (hyes : (HLex.signs.getD k []).isPrefixOf l = true) :
  HLex.signs.find? (fun s => s.isPrefixOf l) = some (HLex.signs.getD k []) := by
 rw [List.find?_eq_some_iff_getElem]
 refine ⟨hyes, k, hk, ?_, ?_⟩
 ·rw [List.getD_eq_getElem?_getD, List.getElem?_eq_getElem (show k < HLex.signs.length from hk)]; rfl
 ·intro j hj
  have := hno j hj
  rw [List.getD_eq_getElem?_getD, List.getElem?_eq_getElem (show j < HLex.signs.length from Nat.lt_trans hj hk)] at this
  simpa using this
theorem find_none (l : List UInt8) (hno : ∀ j, j < 15 → (HLex.signs.getD j []).isPrefixOf l = false) : HLex.signs.find? (fun s => s.isPrefixOf l) = none := by
 rw [List.find?_eq_none]
 intro x hx
 obtain ⟨j, hj, rfl⟩ := List.getElem_of_mem hx
 have := hno j hj
 rw [List.getD_eq_getElem?_getD, List.getElem?_eq_getElem hj, Option.getD_some] at this
 rw [this]; exact Bool.false_ne_true

set_option maxRecDepth 100000 in
theorem index_signs (k : Nat) (hk : k < 15) : ∀ w : World, (Instr.index 124 (.agg signsV) (.int .i64 k)).run Tryz.prog w = .ok (.string (signsB.getD k ByteArray.empty)) w := by
 have hk15 : k = 0 ∨ k = 1 ∨ k = 2 ∨ k = 3 ∨ k = 4 ∨ k = 5 ∨ k = 6 ∨ k = 7 ∨ k = 8 ∨ k = 9 ∨ k = 10 ∨ k = 11 ∨ k = 12 ∨ k = 13 ∨ k = 14 := by omega
 rcases hk15 with rfl|rfl|rfl|rfl|rfl|rfl|rfl|rfl|rfl|rfl|rfl|rfl|rfl|rfl|rfl
 all_goals exact fun w => by kernel_rfl

theorem signs_same (k : Nat) (hk : k < 15) : (signsB[k]?.getD ByteArray.empty).data.toList = HLex.signs.getD k [] := by
 have hk15 : k = 0 ∨ k = 1 ∨ k = 2 ∨ k = 3 ∨ k = 4 ∨ k = 5 ∨ k = 6 ∨ k = 7 ∨ k = 8 ∨ k = 9 ∨ k = 10 ∨ k = 11 ∨ k = 12 ∨ k = 13 ∨ k = 14 := by omega
 rcases hk15 with rfl|rfl|rfl|rfl|rfl|rfl|rfl|rfl|rfl|rfl|rfl|rfl|rfl|rfl|rfl
 all_goals rfl

set_option maxHeartbeats 4000000 in
theorem first_sign (s : ByteArray) (w : World) (hmax : s.size ≤ 9223372036854775807) (hn : 0 < s.size) (hne : s.data.toList.takeWhile HLex.wordly = []) :
  Calls Tryz.prog 85 #[.string s] w (FirstPost s w) := by
 have hidx := HLex.idx_run s
 rw [hne, List.length_nil, if_pos hn] at hidx
 have HI := Lib.hid hidx; clear hidx
 have hF1 : ∀ x, HLex.signs.find? (fun x => x.isPrefixOf s.data.toList) = some x → HLex.first s.data.toList = .ok (5, x, 0) := by
  intro o ho; unfold HLex.first; simp only [hne, if_true, ho]
 have hF2 : HLex.signs.find? (fun x => x.isPrefixOf s.data.toList) = none → HLex.first s.data.toList = .error 10 := by
  intro ho; unfold HLex.first; simp only [hne, if_true, ho]
 have HF1 := Lib.hid hF1; have HF2 := Lib.hid hF2; clear hF1 hF2 hne
 go_enter Tryz.func85, Tryz.ntmps85
 go_wp2_with (first|(go_at_call 118; refine (indexRun_any s _).mono ?_; rintro e w' ⟨rfl, hbl⟩; rw [HI.out]) | (go_at_call 122; refine (signs_any _).mono ?_; rintro e w2 ⟨rfl, hb2⟩))
 go_loop [5, 19] (fun _ i => ∃ k : Nat, k ≤ 15 ∧ i = .int .i64 k ∧ Hid (∀ j, j < k → (HLex.signs.getD j []).isPrefixOf s.data.toList = false)) (fun _ i => 15 - (intOf i).toNat)
 case atStart => exact ⟨0, by omega, rfl, Lib.hid (fun j hj => absurd hj (Nat.not_lt_zero _))⟩
 case round =>
  obtain ⟨k, hk, rfl, hno⟩ := hrel
  by_cases hlt : k < 15
  ·have hix := index_signs k hlt
   have hsk := signs_same k hlt
   have hb0 := blk_below (blk_below (blk_new w _) hbl) hb2
   have c0 := blk_cell hb0 0; have c1 := blk_cell hb0 1; have c2 := blk_cell hb0 2; have c3 := blk_cell hb0 3
   have z0 := fun i => blk_frozen hb0 i
   have HB0 := Lib.hid hb0; have HSK := Lib.hid hsk
   clear hb0 hsk
   simp at c0 c1 c2 c3
   cases hp : (HLex.signs.getD k []).isPrefixOf s.data.toList
   ·have HP := Lib.hid hp
    clear hp
    go_wp2_with (go_at_call 123; refine (hasPrefix_any s _ _ hmax).mono ?_; rintro e w3 ⟨rfl, rfl⟩; rw [show (signsB[k]?.getD ByteArray.empty).data.toList = HLex.signs.getD k [] from HSK.out, HP.out])
    go_round
    case rel =>
     refine ⟨k + 1, by omega, by go_num, Lib.hid (fun j hj => ?_)⟩
     rcases Nat.lt_succ_iff_lt_or_eq.1 hj with h|rfl
     ·exact hno.out j h
     ·exact HP.out
    case measure => simp [intOf]; omega
   ·have HP := Lib.hid hp
    clear hp
    go_wp2_with (go_at_call 123; refine (hasPrefix_any s _ _ hmax).mono ?_; rintro e w3 ⟨rfl, rfl⟩; rw [show (signsB[k]?.getD ByteArray.empty).data.toList = HLex.signs.getD k [] from HSK.out, HP.out])
    have hf := HF1.out _ (find_lemma _ k hlt hno.out HP.out)
    have hx : (⟨(HLex.signs.getD k []).toArray⟩ : ByteArray) = signsB[k]?.getD ByteArray.empty := by rw [← HSK.out]
    refine bodyPost_ret (v := .agg #[.int .i64 5, .string (signsB[k]?.getD ByteArray.empty), .int .i64 0, .int .i64 0]) (results_cell_row rfl _ _ w.heap.size 63 #[.int .i64 5, .string (signsB[k]?.getD ByteArray.empty), .int .i64 0, .int .i64 0] (0, 0) _ rfl (blk_put (blk_put (blk_put (blk_put HB0.out 0 _ rfl) 1 _ rfl) 2 _ rfl) 3 _ rfl) Tryz.underlying63 rfl (by kernel_rfl)) rfl ?_
    unfold FirstPost
    rw [hf]
    simp only [hx]
    exact ⟨rfl, below_set (below_set (below_set (below_set (below_step (below_step (below_alloc (Below.refl _ w) _) hbl) hb2) (by omega)) (by omega)) (by omega)) (by omega)⟩
  ·go_wp2_with fail
   have hf := HF2.out (find_none _ (fun j hj => hno.out j (by omega)))
   refine (show _ ∧ _ from ⟨rfl, ?_⟩)
   unfold FirstPost
   rw [hf]
   exact ⟨rfl, below_step (below_step (below_alloc (Below.refl _ w) _) hbl) hb2⟩

theorem first_any (s : ByteArray) (w : World) (hmax : s.size ≤ 9223372036854775807) (hn : 0 < s.size) :
  Calls Tryz.prog 85 #[.string s] w (FirstPost s w) := by
 by_cases hne : s.data.toList.takeWhile HLex.wordly = []
 ·exact first_sign s w hmax hn hne
 ·exact first_word s w hmax hne
end Go.Proofs.YtnjmilelifmfpaaGreatDoor.HLexC

/- The walk of lex.All (and of its deferred function), in the words of HLex. -/
namespace Go.Proofs.YtnjmilelifmfpaaGreatDoor.HLexC
open Go Go.RowKit Go.Lib Go.Proofs Go.Proofs.YtnjmilelifmfpaaGreatDoorW.PrintWords Go.Proofs.YtnjmilelifmfpaaGreatDoorW.PrintLast Go.Proofs.YtnjmilelifmfpaaGreatDoorW.PrintMore Go.Proofs.YtnjmilelifmfpaaGreatDoor.Q
set_option linter.unusedVariables false
set_option linter.unusedSimpArgs false

set_option maxRecDepth 100000 in
theorem wrong_neq (er : Int) : ∀ W : World, (binOp .neq 20 (.iface 90 (.agg #[.int .i64 er])) .nilIface).run Tryz.prog W = .ok (.bool true) W := fun W => run_neq_held_nil _ _ _ _ (by kernel_rfl)
set_option maxRecDepth 100000 in
theorem wrong_assert (er : Int) : ∀ W : World, (Instr.typeAssert (.iface 90 (.agg #[.int .i64 er])) 20 90 true).run Tryz.prog W = .ok (.tuple #[.agg #[.int .i64 er], .bool true]) W := fun W => by rfl
set_option maxRecDepth 100000 in
theorem nil_neq : ∀ W : World, (binOp .neq 20 .nilIface .nilIface).run Tryz.prog W = .ok (.bool false) W := fun W => run_neq_nil_nil _ _ (by kernel_rfl)
set_option maxHeartbeats 1000000 in
theorem catch_panicking (g0 g1 : Nat) (er : Int) (v0 v1 : Value) (older : List PanicEntry) (w : World)
  (h0 : w.heap[g0]? = some (.cells #[v0] 56 (0, 0))) (h1 : w.heap[g1]? = some (.cells #[v1] 30 (0, 0))) (hne : g0 ≠ g1) :
  CallsD Tryz.prog 83 #[.pointer (some ⟨g0, 0, none⟩), .pointer (some ⟨g1, 0, none⟩)] (.panicking ({ v := .iface 90 (.agg #[.int .i64 er]), recovered := false } :: older)) w fun e u' w' =>
   e = .returned (.tuple #[]) ∧ u' = .panicking ({ v := .iface 90 (.agg #[.int .i64 er]), recovered := true } :: older) ∧
    w'.heap[g0]? = some (.cells #[.slice none 0 0] 56 (0, 0)) ∧ w'.heap[g1]? = some (.cells #[.int .i64 er] 30 (0, 0)) ∧ (∀ B, B ≤ g0 → B ≤ g1 → B ≤ w.heap.size → Below B w w') := by
 refine callsD_of_wpS Tryz.func83 rfl fun c₀ cs hu => ?_
 apply wpS_seq
 apply wpS_region
 simp [wpOpsS, go_sem, recoverD, hu, Tryz.ntmps83, Exit.thenS]
 have f0 : w.frozen? ⟨g0, 0, none⟩ = false := blk_frozen h0 0
 have f1 : w.frozen? ⟨g1, 0, none⟩ = false := blk_frozen h1 0
 have hneq := wrong_neq er
 have hta := wrong_assert er
 refine wpS_of_wp (wp_mono (Q := fun e a' w' => e = .normal ∧ a'.defers = [] ∧ (w'.heap[g0]? = some (.cells #[.slice none 0 0] 56 (0, 0)) ∧ w'.heap[g1]? = some (.cells #[.int .i64 er] 30 (0, 0)) ∧ (∀ B, B ≤ g0 → B ≤ g1 → B ≤ w.heap.size → Below B w w'))) ?_ ?_)
 ·clear hu
  trace "1"
  rw [show (#[Value.pointer (some { block := g0, off := 0 }), Value.pointer (some { block := g1, off := 0 })] ++ ((Array.replicate 16 undef).setIfInBounds 3 (Value.iface 90 (Value.agg #[Value.int IntKind.i64 er]))).setIfInBounds 0 (Value.iface 90 (Value.agg #[Value.int IntKind.i64 er]))) = #[Value.pointer (some { block := g0, off := 0 }), Value.pointer (some { block := g1, off := 0 }), (Value.iface 90 (Value.agg #[Value.int IntKind.i64 er])), undef, undef, (Value.iface 90 (Value.agg #[Value.int IntKind.i64 er])), undef, undef, undef, undef, undef, undef, undef, undef, undef, undef, undef, undef] from rfl]
  go_wp2_with fail
  have l0 := blk_lt h0
  have l1 := blk_lt h1
  have n0 : ¬ w.heap.size = g0 := by omega
  have n1 : ¬ w.heap.size = g1 := by omega
  have n0' : ¬ g0 = w.heap.size := by omega
  have n1' : ¬ g1 = w.heap.size := by omega
  have c0 := blk_cell h0 0
  have c1 := blk_cell h1 0
  simp at c0 c1
  have H0 := Lib.hid h0; have H1 := Lib.hid h1; clear h0 h1
  go_region
  exact ⟨rfl, rfl, blk_drew (blk_alloc (blk_far (p := ⟨g1, 0, none⟩) (blk_put H0.out 0 _ rfl) hne _) _), blk_drew (blk_alloc (blk_put (blk_far (p := ⟨g0, 0, none⟩) H1.out (Ne.symm hne) _) 0 _ rfl) _), fun B b0 b1 b2 => ((((Below.refl B w).setCell b0 _).setCell b1 _).alloc (by simpa using b2) _).drew⟩
 ·rintro e a' w' ⟨rfl, hd, h2, h3, h4⟩
  exact ⟨hd, _, rfl, .tuple #[], by simp [results, Tryz.results83, go_sem], rfl, rfl, h2, h3, h4⟩

theorem catch_idle (g0 g1 : Nat) (w : World) :
  CallsD Tryz.prog 83 #[.pointer (some ⟨g0, 0, none⟩), .pointer (some ⟨g1, 0, none⟩)] .returning w fun e u' w' => e = .returned (.tuple #[]) ∧ u' = .returning ∧ w' = w := by
 refine callsD_of_wpS Tryz.func83 rfl fun c₀ cs hu => ?_
 apply wpS_seq
 apply wpS_region
 simp [wpOpsS, go_sem, recoverD, hu, Tryz.ntmps83, Exit.thenS]
 refine wpS_of_wp (wp_mono (Q := fun e a' w' => e = .normal ∧ a'.defers = [] ∧ w' = w) ?_ ?_)
 ·have hneq := nil_neq
  rw [show (#[Value.pointer (some { block := g0, off := 0 }), Value.pointer (some { block := g1, off := 0 })] ++ ((Array.replicate 16 undef).setIfInBounds 3 Value.nilIface).setIfInBounds 0 Value.nilIface) = #[Value.pointer (some { block := g0, off := 0 }), Value.pointer (some { block := g1, off := 0 }), Value.nilIface, undef, undef, Value.nilIface, undef, undef, undef, undef, undef, undef, undef, undef, undef, undef, undef, undef] from rfl]
  go_wp2_with fail
 ·rintro e a' w' ⟨rfl, hd, rfl⟩
  exact ⟨hd, .returning, by rw [← hu], .tuple #[], by simp [results, Tryz.results83, go_sem], rfl, rfl, rfl⟩

def toS (t : HLex.Tok) : S63 := ⟨(t.kind : Int), ⟨t.text.toArray⟩, (t.n : Int), (t.pos : Int)⟩
def join (acc : List HLex.Tok) : Except (Nat × Nat) (List HLex.Tok) → Except (Nat × Nat) (List HLex.Tok)
 | .ok ts => .ok (acc ++ ts)
 | .error x => .error x
def AllPost (s : ByteArray) (w : World) (e : Ending) (w' : World) : Prop :=
 match HLex.lex s.data.toList with
 | .ok ts => ∃ v, e = .returned (.tuple #[v, .int .i64 0, .int .i64 0]) ∧ Kd.R k63 63 w' w.heap.size (fun _ => True) v (ts.map toS) ∧ Below w.heap.size w w'
 | .error (p, er) => e = .returned (.tuple #[.slice none 0 0, .int .i64 (p : Int), .int .i64 (er : Int)]) ∧ Below w.heap.size w w'

theorem trim_any (x : ByteArray) (w : World) : Calls Tryz.prog 84 #[.string x, .string ⟨#[32, 10, 9]⟩] w fun e w' => (∃ y : ByteArray, e = .returned (.string y) ∧ Hid (y.data.toList = x.data.toList.dropWhile HLex.blank)) ∧ Below w.heap.size w w' :=
 (Tryz.TrimLeft_set x ⟨#[32, 10, 9]⟩ w (by decide) (ascii_of_all (by decide))).mono fun e w' ⟨he, hb⟩ => ⟨⟨_, he, Lib.hid (HLex.trim_blank _)⟩, hb⟩
theorem drop_data (s : ByteArray) (k : Nat) : (s.extract k s.size).data.toList = s.data.toList.drop k := Lib.extract_to_end s k
theorem dropWhile_len (q : UInt8 → Bool) (l : List UInt8) : (l.dropWhile q).length ≤ l.length := (List.dropWhile_suffix q).length_le

structure AllInv (s : ByteArray) (w : World) (gk at_ : Nat) (acc : List HLex.Tok) (lv : Value) (wr : World) : Prop where
 lex : HLex.lex s.data.toList = join acc (HLex.lexFrom gk at_ (s.data.toList.drop at_))
 len : acc.length ≤ at_
 hl : wr.heap[w.heap.size]? = some (.cells #[lv] 56 (0, 0))
 he : wr.heap[w.heap.size + 1]? = some (.cells #[.int .i64 0] 30 (0, 0))
 row : Kd.R k63 63 wr (w.heap.size + 2) (fun _ => True) lv (acc.map toS)
 bel : Below w.heap.size w wr

theorem infoTok : (Tryz.prog.info? 63).map (fun i => (i.zero, i.size, i.bytes)) = some (some (.agg #[(.int .i64 0), (.string ⟨#[]⟩), (.int .i64 0), (.int .i64 0)]), 4, 40) := by kernel_rfl
set_option maxRecDepth 100000 in
set_option maxHeartbeats 4000000 in
theorem all_any (s : ByteArray) (w : World) (hmax : s.size ≤ 1000000000000) :
  Calls Tryz.prog 54 #[.string s] w (AllPost s w) := by
 have hmf : ∀ (fn : Fn) (first cap : Array Value) (w : World), (Instr.makeFunc fn first cap).run Tryz.prog w = .ok (.func fn first cap) w := fun _ _ _ _ => rfl
 go_enter_defers Tryz.func54, Tryz.ntmps54
 go_wp2_with fail
 go_loopg [3] (s.size + 1) (fun gk v3 wr => ∃ (at_ : Nat) (acc : List HLex.Tok) (lv : Value), v3 = .int .i64 at_ ∧ at_ ≤ s.size ∧ s.size - at_ < gk ∧ AllInv s w gk at_ acc lv wr)
 case atStart =>
  refine ⟨0, [], .slice none 0 0, rfl, Nat.zero_le _, by omega, ?_, Nat.le_refl _, ?_, ?_, Kd.R_nil _ _ _ _ _, ?_⟩
  ·unfold HLex.lex
   have e1 : s.data.toList.length = s.size := Array.length_toList
   rw [e1, List.drop_zero]
   cases HLex.lexFrom (s.size + 1) 0 s.data.toList <;> rfl
  ·exact blk_alloc (blk_new w _) _
  ·have h := blk_new (w.alloc (Obj.cells #[Value.slice none 0 0] 56)) (Obj.cells #[Value.int IntKind.i64 0] 30)
   rw [World.size_alloc] at h
   exact h
  ·exact below_alloc (below_alloc (Below.refl _ w) _) _
 case round =>
  obtain ⟨at_, acc, lv, rfl, hle, hgk, hinv⟩ := hrel
  have e1 : s.data.toList.length = s.size := Array.length_toList
  have hrl := dropWhile_len HLex.blank (s.data.toList.drop at_)
  rw [List.length_drop, e1] at hrl
  have hcl := blk_cell hinv.hl 0; have hce := blk_cell hinv.he 0
  have hfl := blk_frozen hinv.hl 0; have hfe := blk_frozen hinv.he 0
  simp at hcl hce
  cases hr : (s.data.toList.drop at_).dropWhile HLex.blank
  ·rw [hr] at hrl
   have HR := Lib.hid hr; clear hr
   have E1 := Lib.hid e1; clear e1
   go_upto_region 3 with (fail)
   refine (trim_any _ _).mono ?_
   rintro e w2 ⟨⟨y, rfl, hy⟩, hb2⟩
   have hyl := hy.out
   rw [drop_data, HR.out] at hyl
   have hy0 : y = ⟨#[]⟩ := (bytes_eq_iff y ⟨#[]⟩).2 hyl
   subst hy0
   clear hy hyl
   have hl2 := blk_below hinv.hl hb2
   have he2 := blk_below hinv.he hb2
   have hr2 := Kd.R_below hinv.row hb2
   have hB2 := below_step hinv.bel hb2
   have hlex := hinv.lex
   obtain ⟨gk, rfl⟩ : ∃ g, gk = g + 1 := ⟨gk - 1, by omega⟩
   unfold HLex.lexFrom at hlex
   rw [HR.out] at hlex
   simp only [if_true] at hlex
   have k2 := blk_cell hl2 0; have k3 := blk_cell he2 0; have z2 := blk_frozen hl2 0; have z3 := blk_frozen he2 0
   simp at k2 k3
   have HL2 := Lib.hid hl2; have HE2 := Lib.hid he2; have HR2 := Lib.hid hr2; have HB2 := Lib.hid hB2; have HLEX := Lib.hid hlex
   obtain ⟨A1, c1, hlv⟩ := Kd.R_slice hr2
   clear hl2 he2 hr2 hB2 hlex hfe hfl hcl hce
   go_wp2_with fail
   have m0 := blk_far (p := ⟨w.heap.size + 1, 0, none⟩) (blk_put HL2.out 0 (.slice A1 acc.length c1) rfl) (by simp) (.int .i64 0)
   have m1 := blk_put (blk_far (p := ⟨w.heap.size, 0, none⟩) HE2.out (by simp) (.slice A1 acc.length c1)) 0 (.int .i64 0) rfl
   have k4 : ((w2.setCell ⟨w.heap.size, 0, none⟩ (.slice A1 acc.length c1)).setCell ⟨w.heap.size + 1, 0, none⟩ (.int .i64 0)).cell? ⟨w.heap.size, 0, none⟩ = some (.slice A1 acc.length c1) := blk_cell m0 0
   have k5 : ((w2.setCell ⟨w.heap.size, 0, none⟩ (.slice A1 acc.length c1)).setCell ⟨w.heap.size + 1, 0, none⟩ (.int .i64 0)).cell? ⟨w.heap.size + 1, 0, none⟩ = some (.int .i64 0) := blk_cell m1 0
   refine leaves_cons (f := 83) (args := #[.pointer (some ⟨w.heap.size, 0, none⟩), .pointer (some ⟨w.heap.size + 1, 0, none⟩)]) (by simp) (by simp [go_sem]) ?_
   refine (catch_idle _ _ _).mono ?_
   rintro e u' w4 ⟨rfl, rfl, rfl⟩
   have HLV := Lib.hid hlv
   clear k2 k3 z2 z3 hlv m0 m1
   simp [Leaves, settle, results, Tryz.results54, go_sem, k4, k5]
   unfold AllPost
   rw [HLEX.out]
   have h := Kd.R_mono (Kd.R_far (p := ⟨w.heap.size + 1, 0, none⟩) (Kd.R_mono (Kd.R_far (p := ⟨w.heap.size, 0, none⟩) (Kd.R_bound HR2.out) (fun k hk => by have := hk.2.1; simp; omega) (.slice A1 acc.length c1)) (fun k hk => (hk.2.1 : w.heap.size + 2 ≤ k))) (fun k hk => by simp; omega) (.int .i64 0)) (fun _ _ => trivial)
   rw [HLV.out] at h
   exact ⟨_, rfl, by simpa [List.length_map] using Kd.R_lower h (Nat.le_add_right _ 2), (HB2.out.setCell (Nat.le_refl _) _).setCell (Nat.le_succ _) _⟩
  ·rename_i c0 r0
   rw [hr] at hrl
   rw [List.length_cons] at hrl
   have HR := Lib.hid hr; clear hr
   have E1 := Lib.hid e1; clear e1
   go_upto_region 3 with (fail)
   refine (trim_any _ _).mono ?_
   rintro e w2 ⟨⟨y, rfl, hy⟩, hb2⟩
   have hyl := hy.out
   rw [drop_data, HR.out] at hyl
   have hyz : y.data.toList.length = r0.length + 1 := by rw [hyl, List.length_cons]
   rw [Array.length_toList] at hyz
   have hyz' : y.size = r0.length + 1 := hyz
   have q2 : 0 < y.size := by omega
   have q3 : y.size ≤ s.size - at_ := by omega
   have hpz : ((s.size : Int) - (y.size : Int)) = ((s.size - y.size : Nat) : Int) := by omega
   have hp1 : s.size - y.size < s.size := by omega
   have hp2 : at_ ≤ s.size - y.size := by omega
   have hpd : s.data.toList.drop (s.size - y.size) = c0 :: r0 := by
    have hs := List.dropWhile_suffix HLex.blank (l := s.data.toList.drop at_)
    rw [HR.out] at hs
    have hs2 := hs.trans (List.drop_suffix at_ s.data.toList)
    have := List.suffix_iff_eq_drop.1 hs2
    rw [List.length_cons, E1.out, ← hyz'] at this
    exact this.symm
   have HP := Lib.hid hpz
   have HPD := Lib.hid hpd
   have HYZ := Lib.hid hyz'
   clear hy hyl hyz hyz' hpz hpd
   go_upto_region 3 with (fail)
   rw [HP.out]
   generalize hpg : s.size - y.size = p at *
   have HPG := Lib.hid hpg
   clear hpg
   go_upto_region 6 with (fail)
   have hxd : (s.extract p s.size).data.toList = c0 :: r0 := by rw [drop_data, HPD.out]
   have hxz : (s.extract p s.size).size = r0.length + 1 := by
    have : (s.extract p s.size).data.toList.length = (s.extract p s.size).size := Array.length_toList
    rw [hxd, List.length_cons] at this; exact this.symm
   refine (first_any (s.extract p s.size) w2 (by omega) (by omega)).mono ?_
   rintro e w3 ⟨hres, hb3⟩
   rw [hxd] at hres
   have hl3 := blk_below (blk_below hinv.hl hb2) hb3
   have he3 := blk_below (blk_below hinv.he hb2) hb3
   have hr3 := Kd.R_below (Kd.R_below hinv.row hb2) hb3
   have hB3 := below_step (below_step hinv.bel hb2) hb3
   have hlex := hinv.lex
   have hlen := hinv.len
   obtain ⟨gk, rfl⟩ : ∃ g, gk = g + 1 := ⟨gk - 1, by omega⟩
   unfold HLex.lexFrom at hlex
   rw [HR.out] at hlex
   simp only [reduceCtorEq, if_false] at hlex
   have hpos : at_ + ((List.drop at_ s.data.toList).length - (c0 :: r0).length) = p := by
    rw [List.length_drop, List.length_cons, E1.out]
    have := HPG.out; have := HYZ.out; omega
   rw [hpos] at hlex
   cases hfs : HLex.first (c0 :: r0) with
   | error er =>
    rw [hfs] at hres hlex
    simp only at hres hlex
    subst hres
    refine leaves_cons (f := 83) (args := #[.pointer (some ⟨w.heap.size, 0, none⟩), .pointer (some ⟨w.heap.size + 1, 0, none⟩)]) (by simp) (by simp [go_sem]) ?_
    refine (catch_panicking w.heap.size (w.heap.size + 1) er lv (.int .i64 0) [] w3 hl3 he3 (by omega)).mono ?_
    rintro e u' w4 ⟨rfl, rfl, h2, h3, h4⟩
    have k2 := blk_cell h2 0; have k3 := blk_cell h3 0
    simp at k2 k3
    clear hfe hfl hcl hce hl3 he3
    simp [Leaves, settle, results, Tryz.results54, go_sem, k2, k3]
    unfold AllPost
    rw [hlex]
    exact ⟨rfl, hB3.trans (h4 _ (Nat.le_refl _) (by omega) hB3.size)⟩
   | ok ktn =>
    obtain ⟨k, tx, n⟩ := ktn
    rw [hfs] at hres hlex
    simp only at hres hlex
    subst hres
    simp only
    have hpre := HLex.first_prefix hfs
    have htx1 : tx.length ≤ r0.length + 1 := by have := hpre.1.length_le; rwa [List.length_cons] at this
    have htx0 : 0 < tx.length := List.length_pos_iff.2 hpre.2
    have hend : p + tx.length ≤ s.size := by have := HPG.out; have := HYZ.out; omega
    clear hpre
    go_upto_region 7 with (fail)
    have hl4 := blk_alloc hl3 (Obj.cells #[Value.int IntKind.i64 ↑k, Value.string { data := tx.toArray }, Value.int IntKind.i64 ↑n, Value.int IntKind.i64 ↑p] 63)
    have he4 := blk_alloc he3 (Obj.cells #[Value.int IntKind.i64 ↑k, Value.string { data := tx.toArray }, Value.int IntKind.i64 ↑n, Value.int IntKind.i64 ↑p] 63)
    have hr4 := Kd.R_alloc hr3 (Obj.cells #[Value.int IntKind.i64 ↑k, Value.string { data := tx.toArray }, Value.int IntKind.i64 ↑n, Value.int IntKind.i64 ↑p] 63)
    have hB4 := below_alloc hB3 (Obj.cells #[Value.int IntKind.i64 ↑k, Value.string { data := tx.toArray }, Value.int IntKind.i64 ↑n, Value.int IntKind.i64 ↑p] 63)
    have ht4 := blk_new w3 (Obj.cells #[Value.int IntKind.i64 ↑k, Value.string { data := tx.toArray }, Value.int IntKind.i64 ↑n, Value.int IntKind.i64 ↑p] 63)
    have hne4 : some w3.heap.size ≠ lv.ownBlock := fun e_ => by have := ((Kd.R_bound hr3).1 _ e_.symm).2.2.1; omega
    have c2 := blk_cell hl4 0
    have d0 := blk_cell ht4 0; have d1 := blk_cell ht4 1; have d2 := blk_cell ht4 2; have d3 := blk_cell ht4 3
    simp only [List.getElem?_toArray, List.getElem?_cons_zero, List.getElem?_cons_succ] at c2 d0 d1 d2 d3
    have hsz4 := hB4.size
    have hsz3 := hB3.size
    have hw3 : w.heap.size + 2 ≤ w3.heap.size := by have := blk_lt he3; omega
    have HL4 := Lib.hid hl4; have HE4 := Lib.hid he4; have HR4 := Lib.hid hr4; have HB4 := Lib.hid hB4; have HT4 := Lib.hid ht4; have HLEX := Lib.hid hlex; have HN4 := Lib.hid hne4
    clear hfe hfl hcl hce hl3 he3 hr3 hB3 hl4 he4 hr4 hB4 ht4 hlex hfs hpos hne4 hsz4
    have hlenm : ((List.map toS acc).length + 1) * 40 ≤ 140737488355328 := by rw [List.length_map]; omega
    go_wp2_with (at_builtin; go_loud (refine Kd.R_append k63 (w0 := w3.alloc (Obj.cells #[Value.int IntKind.i64 ↑k, Value.string { data := tx.toArray }, Value.int IntKind.i64 ↑n, Value.int IntKind.i64 ↑p] 63)) (w.heap.size + 2) rfl (.tmp 26) (.tmp 28) 56 63 (.agg #[(.int .i64 0), (.string ⟨#[]⟩), (.int .i64 0), (.int .i64 0)]) 40 rfl Tryz.underlying56 infoTok rfl (by decide) (by omega) lv (acc.map toS) (⟨(k : Int), ⟨tx.toArray⟩, (n : Int), (p : Int)⟩ : S63) [.int .i64 k, .string ⟨tx.toArray⟩, .int .i64 n, .int .i64 p] (fun _ => True) (fun _ => False) rfl (by first|(go_simp; done)|(go_simp; rfl)) (k63_mkM _ _ _ _) (fun _ hk => hk.elim) (fun _ _ => trivial) HR4.out (Below.refl _ _) (by simp; omega) hlenm ?_); intro v1 w5 ho hb hg hat; obtain ⟨A1, c1, rfl⟩ := Kd.R_slice ho; have hl5 := (hb.block w.heap.size (by omega)).trans HL4.out; have he5 := (hb.block (w.heap.size + 1) (by omega)).trans HE4.out; have ht5 := blk_grown HT4.out hg HN4.out; have e2 := blk_cell hl5 0; have f2 := blk_frozen hl5 0; have e5 := blk_cell ht5 1; simp only [List.getElem?_toArray, List.getElem?_cons_zero, List.getElem?_cons_succ] at e2 e5; have HL5 := Lib.hid hl5; have HE5 := Lib.hid he5; have HO := Lib.hid ho; have HBB := Lib.hid hb; clear hl5 he5 ht5 ho hb hg hat)
    go_roundg gk
    case measure => omega
    case rel =>
     refine ⟨p + tx.length, acc ++ [⟨k, tx, n, p⟩], .slice A1 (acc.length + 1) c1, by go_num, hend, by omega, ?_, ?_, ?_, ?_, ?_, ?_⟩
     ·rw [HLEX.out]
      have hd : List.drop (p + tx.length) s.data.toList = List.drop tx.length (c0 :: r0) := by rw [← HPD.out, List.drop_drop]
      rw [hd]
      cases HLex.lexFrom gk (p + tx.length) (List.drop tx.length (c0 :: r0)) with
      | ok ts => simp [join]
      | error e => simp [join]
     ·rw [List.length_append, List.length_singleton]; omega
     ·exact blk_put HL5.out 0 _ rfl
     ·exact blk_far (p := ⟨w.heap.size, 0, none⟩) HE5.out (by simp) _
     ·rw [List.map_append]
      have h := Kd.R_mono (Kd.R_far (p := ⟨w.heap.size, 0, none⟩) (Kd.R_bound HO.out) (fun k hk => by have := hk.2.1; simp; omega) (.slice A1 (acc.length + 1) c1)) (fun _ _ => trivial)
      simpa [List.length_map, toS] using h
     ·exact (HB4.out.trans (HBB.out.mono (by omega))).setCell (Nat.le_refl _) _
end Go.Proofs.YtnjmilelifmfpaaGreatDoor.HLexC

namespace Go.Proofs.YtnjmilelifmfpaaGreatDoor.Q
open Go.RowKit Go.Proofs.YtnjmilelifmfpaaGreatDoorW.PrintWords Go.Proofs.YtnjmilelifmfpaaGreatDoorW.PrintLast Go.Proofs.YtnjmilelifmfpaaGreatDoorW.PrintMore
attribute [local go_sem] max2_int min2_int max_two min_two max_three min_three max_four min_four
set_option linter.unusedVariables false
set_option linter.unusedSimpArgs false

def lex_All.f (a0 : ByteArray) : Option ((List S63) × Int × Int) :=
 if a0.size ≤ 1000000000000 then
  match HLex.lex a0.data.toList with
  | .ok ts => some (ts.map HLexC.toS, 0, 0)
  | .error (p, er) => some ([], (p : Int), (er : Int))
 else none
theorem lex_All.calls (a0 : ByteArray) (r1 : List S63) (r2 : Int) (r3 : Int) (w : World) (h : lex_All.f a0 = some (r1, r2, r3)) :
  Calls Tryz.prog 54 #[.string a0] w fun e w' => ∃ v0_ : Value, e = .returned (.tuple #[v0_, .int .i64 r2, .int .i64 r3]) ∧ Kd.R k63 63 w' w.heap.size (fun _ => True) v0_ r1 ∧ Below w.heap.size w w' := by
 unfold lex_All.f at h
 by_cases hs : a0.size ≤ 1000000000000
 ·rw [if_pos hs] at h
  refine (HLexC.all_any a0 w hs).mono fun e w' hp => ?_
  unfold HLexC.AllPost at hp
  cases hl : HLex.lex a0.data.toList with
  | ok ts =>
   rw [hl] at h hp
   simp only [Option.some.injEq, Prod.mk.injEq] at h
   obtain ⟨rfl, rfl, rfl⟩ := h
   exact hp
  | error x =>
   obtain ⟨p, er⟩ := x
   rw [hl] at h hp
   simp only [Option.some.injEq, Prod.mk.injEq] at h
   obtain ⟨rfl, rfl, rfl⟩ := h
   exact ⟨_, hp.1, Kd.R_nil _ _ _ _ _, hp.2⟩
 ·rw [if_neg hs] at h; cases h

end Go.Proofs.YtnjmilelifmfpaaGreatDoor.Q

namespace Go.Proofs.YtnjmilelifmfpaaGreatDoor.Pure
open Go Go.RowKit Go.Proofs.YtnjmilelifmfpaaGreatDoor.Q Go.Proofs.YtnjmilelifmfpaaGreatDoorW.PrintWords Go.Proofs.YtnjmilelifmfpaaGreatDoorW.PrintLast Go.Proofs.YtnjmilelifmfpaaGreatDoorW.PrintMore
open HLexC (toS)
open HLex (Tok Stands)
theorem wrap_small {n : Int} (h0 : -9223372036854775808 ≤ n) (h1 : n < 9223372036854775808) : wrap64 n = n := by
 unfold wrap64; omega
namespace More
theorem size_len (a : ByteArray) : a.data.toList.length = a.size := by simp
def later (d : Nat) (t : Tok) : Tok := { t with pos := t.pos + d }
end More
end Go.Proofs.YtnjmilelifmfpaaGreatDoor.Pure

/- Plain Lean: the number of digits, digit by digit. No program in sight. -/
namespace Go.Proofs.YtnjmilelifmfpaaGreatDoor.HLex
theorem num_snoc (l : List UInt8) (c : UInt8) : num (l ++ [c]) = 10 * num l + (c.toNat - 48) := by unfold num; rw [List.foldl_append]; rfl
theorem num_take (l : List UInt8) (j : Nat) (h : j < l.length) : num (l.take (j + 1)) = 10 * num (l.take j) + (l[j].toNat - 48) := by
 rw [List.take_succ_eq_append_getElem h, num_snoc]
theorem num_lt (l : List UInt8) (h : ∀ d ∈ l, digit d = true) : ∀ j, j ≤ l.length → num (l.take j) < 10 ^ j
 | 0, _ => by simp [num]
 | j + 1, hj => by
  have ih := num_lt l h j (by omega)
  have hd := h l[j] (List.getElem_mem (by omega))
  rw [num_take l j (by omega)]
  simp only [digit, Bool.and_eq_true, decide_eq_true_eq] at hd
  rw [Nat.pow_succ]; omega
theorem num_small (l : List UInt8) (h : ∀ d ∈ l, digit d = true) (j : Nat) (hj : j ≤ l.length) (h17 : j ≤ 17) : num (l.take j) < 100000000000000000 :=
 Nat.lt_of_lt_of_le (num_lt l h j hj) (Nat.pow_le_pow_right (by decide) h17)
end Go.Proofs.YtnjmilelifmfpaaGreatDoor.HLex

namespace Go.Proofs.YtnjmilelifmfpaaGreatDoor.Pure
open Go Go.RowKit Go.Proofs.YtnjmilelifmfpaaGreatDoor.Q Go.Proofs.YtnjmilelifmfpaaGreatDoorW.PrintWords Go.Proofs.YtnjmilelifmfpaaGreatDoorW.PrintLast Go.Proofs.YtnjmilelifmfpaaGreatDoorW.PrintMore
open HLexC (toS)
open HLex (Tok Stands lower upper digit wordly num signs)
open More
namespace Refs
def cl (c : UInt8) : Int := if lower c then 1 else if upper c then 2 else if digit c then 3 else if HLex.blank c then 4 else 0
theorem blank_nat (c : UInt8) : HLex.blank c = (decide (c.toNat = 32) || decide (c.toNat = 10) || decide (c.toNat = 9)) := by
  unfold HLex.blank
  have e : ∀ d : UInt8, (c == d) = decide (c.toNat = d.toNat) := fun d => by
    by_cases h : c = d
    · subst h; simp
    · have h' : ¬ c.toNat = d.toNat := fun he => h (UInt8.toNat_inj.1 he)
      simp [h, h']
  rw [e, e, e]; rfl
theorem class_is (c : UInt8) (k : Nat) : gossamerref01_class.f (k + 3) (c.toNat : Int) = some (cl c) := by
  unfold gossamerref01_class.f gossamerref01_class.j0 gossamerref01_class.j1 gossamerref01_class.j2 cl
  rw [blank_nat]
  simp only [lower, upper, digit]
  by_cases h1 : 97 ≤ c.toNat <;> by_cases h2 : c.toNat ≤ 122 <;> by_cases h3 : 65 ≤ c.toNat <;> by_cases h4 : c.toNat ≤ 90 <;> by_cases h5 : 48 ≤ c.toNat <;> by_cases h6 : c.toNat ≤ 57 <;> first
    | omega
    | (have e1 : ((c.toNat : Int) ≥ 97) ↔ (97 ≤ c.toNat) := by omega
       have e2 : ((c.toNat : Int) ≤ 122) ↔ (c.toNat ≤ 122) := by omega
       have e3 : ((c.toNat : Int) ≥ 65) ↔ (65 ≤ c.toNat) := by omega
       have e4 : ((c.toNat : Int) ≤ 90) ↔ (c.toNat ≤ 90) := by omega
       have e5 : ((c.toNat : Int) ≥ 48) ↔ (48 ≤ c.toNat) := by omega
       have e6 : ((c.toNat : Int) ≤ 57) ↔ (c.toNat ≤ 57) := by omega
       have e7 : ((c.toNat : Int) = 32) ↔ (c.toNat = 32) := by omega
       have e8 : ((c.toNat : Int) = 10) ↔ (c.toNat = 10) := by omega
       have e9 : ((c.toNat : Int) = 9) ↔ (c.toNat = 9) := by omega
       simp only [e1, e2, e3, e4, e5, e6, e7, e8, e9, h1, h2, h3, h4, h5, h6, decide_true, decide_false, Bool.and_true, Bool.and_false, Bool.true_and, Bool.false_and, if_true, if_false, Bool.false_eq_true]
       try (by_cases h7 : c.toNat = 32 <;> by_cases h8 : c.toNat = 10 <;> by_cases h9 : c.toNat = 9 <;> simp [h7, h8, h9]))
def letter (c : UInt8) : Bool := decide (57 < c.toNat)
theorem cl_wordly (c : UInt8) : (1 ≤ cl c ∧ cl c ≤ 3) ↔ wordly c = true := by
  unfold cl wordly
  cases h1 : lower c <;> cases h2 : upper c <;> cases h3 : digit c <;> cases h4 : HLex.blank c <;> simp
theorem cl_letter (c : UInt8) (h : wordly c = true) : decide (cl c < 3) = letter c := by
  unfold cl letter
  simp only [wordly, lower, upper, digit, Bool.or_eq_true, Bool.and_eq_true, decide_eq_true_eq] at h ⊢
  by_cases h1 : 97 ≤ c.toNat ∧ c.toNat ≤ 122
  · simp [h1]; omega
  · by_cases h2 : 65 ≤ c.toNat ∧ c.toNat ≤ 90
    · simp [h1, h2]; omega
    · have h3 : 48 ≤ c.toNat ∧ c.toNat ≤ 57 := by rcases h with (h | h) | h <;> first|exact absurd h h1|exact absurd h h2|exact h
      simp [h1, h2, h3]
theorem bt_nat (a : ByteArray) (i : Nat) (c : UInt8) (h : a.data.toList[i]? = some c) : bt a (i : Int) = (c.toNat : Int) := by
  obtain ⟨hi, hc⟩ := List.getElem?_eq_some_iff.1 h
  unfold bt
  have h' : i < a.size := by simpa using hi
  simp [h', ← hc]
  rfl
theorem run_from (s : ByteArray) (at_ : Nat) (hs : s.size ≤ 140737488355328) : ∀ (l : List UInt8) (n : Nat) (b : Bool) (k : Nat), s.data.toList.drop (at_ + n) = l → at_ + n ≤ s.size → l.length + 4 ≤ k →
    gossamerref01_run.l0 k s at_ n b = some (((n + (l.takeWhile wordly).length : Nat) : Int), b || (l.takeWhile wordly).any letter)
  | l, n, b, 0, _, _, hk => by omega
  | [], n, b, k + 1, h, hle, _ => by
    have hl : s.data.toList.length ≤ at_ + n := List.drop_eq_nil_iff.1 h
    rw [size_len] at hl
    unfold gossamerref01_run.l0
    rw [wrap_small (by omega) (by omega), if_neg (by omega)]
    simp
  | c :: r, n, b, k + 1, h, hle, hk => by
    have hlen : at_ + n < s.data.toList.length := by
      have := congrArg List.length h
      rw [List.length_drop, List.length_cons] at this; omega
    have hc : s.data.toList[at_ + n]? = some c := by
      have := congrArg (fun l => l[0]?) h
      simpa using this
    rw [size_len] at hlen
    obtain ⟨k, rfl⟩ : ∃ j, k = j + 3 := ⟨k - 3, by simp at hk; omega⟩
    unfold gossamerref01_run.l0
    have hw : wrap64 ((at_ : Int) + (n : Int)) = ((at_ + n : Nat) : Int) := by rw [wrap_small (by omega) (by omega)]; omega
    rw [hw, if_pos (by omega), if_pos (by omega), bt_nat s _ c hc, class_is, Option.bind_some]
    by_cases hwc : wordly c = true
    · obtain ⟨h1, h3⟩ := (cl_wordly c).2 hwc
      rw [if_neg (by omega), if_neg (by omega), wrap_small (n := (n : Int) + 1) (by omega) (by omega)]
      have hr : s.data.toList.drop (at_ + (n + 1)) = r := by
        rw [← Nat.add_assoc, ← List.drop_drop, h]; rfl
      have ih := fun b' => run_from s at_ hs r (n + 1) b' (k + 3) hr (by omega) (by simp at hk; omega)
      have e1 : ((n : Int) + 1) = ((n + 1 : Nat) : Int) := by omega
      rw [e1, cl_letter c hwc]
      have e2 : (n + 1 + (List.takeWhile wordly r).length : Nat) = n + (List.takeWhile wordly (c :: r)).length := by simp [List.takeWhile, hwc]; omega
      cases b
      · rw [if_neg (by simp), ih, e2]
        simp [List.takeWhile, hwc]
      · rw [if_pos rfl, ih, e2]
        simp
    · have hwc' : wordly c = false := by simpa using hwc
      have hout : cl c < 1 ∨ cl c > 3 := by
        have := mt (cl_wordly c).1 hwc
        omega
      rcases hout with h1 | h3
      · rw [if_pos h1]; simp [List.takeWhile, hwc']
      · rw [if_neg (by omega), if_pos h3]; simp [List.takeWhile, hwc']
theorem run_is (s : ByteArray) (at_ : Nat) (hs : s.size ≤ 140737488355328) (hat : at_ ≤ s.size) : gossamerref01_run.f (s.size + 4) s at_ = some ((((s.data.toList.drop at_).takeWhile wordly).length : Int), ((s.data.toList.drop at_).takeWhile wordly).any letter) := by
  unfold gossamerref01_run.f
  have := run_from s at_ hs (s.data.toList.drop at_) 0 false (s.size + 4) rfl hat (by rw [List.length_drop, size_len]; omega)
  simpa using this
theorem num_from (t : ByteArray) (ht : t.size ≤ 18) (hd : ∀ d ∈ t.data.toList, digit d = true) : ∀ (m j k : Nat), j + m = t.size → m < k → gossamerref01_number.l0 k t (num (t.data.toList.take j)) j = some (num t.data.toList : Int)
  | m, j, 0, _, hk => by omega
  | 0, j, k + 1, h, _ => by
    unfold gossamerref01_number.l0
    rw [if_neg (by omega), List.take_of_length_le (by rw [size_len]; omega)]
  | m + 1, j, k + 1, h, hk => by
    have hj : j < t.data.toList.length := by rw [size_len]; omega
    have hdj := hd _ (List.getElem_mem hj)
    simp only [digit, Bool.and_eq_true, decide_eq_true_eq] at hdj
    have hsm := HLex.num_small t.data.toList hd j (by omega) (by omega)
    unfold gossamerref01_number.l0
    rw [if_pos (by omega), if_pos (by omega), bt_nat t j _ (List.getElem?_eq_getElem hj)]
    have e1 : wrap64 ((wrap64 ((wrap64 (10 * (num (t.data.toList.take j) : Int))) + (wrap64 ((t.data.toList[j]).toNat : Int)))) - 48) = ((num (t.data.toList.take (j + 1)) : Nat) : Int) := by
      rw [HLex.num_take _ _ hj, wrap_small (n := 10 * _) (by omega) (by omega), wrap_small (n := ((t.data.toList[j]).toNat : Int)) (by omega) (by omega), wrap_small (n := _ + _) (by omega) (by omega), wrap_small (by omega) (by omega)]
      omega
    rw [e1, wrap_small (by omega) (by omega)]
    exact num_from t ht hd m (j + 1) k (by omega) (by omega)
theorem number_is (t : ByteArray) (ht : t.size ≤ 18) (hd : ∀ d ∈ t.data.toList, digit d = true) : gossamerref01_number.f 20 t = some (num t.data.toList : Int) := by
  unfold gossamerref01_number.f
  exact num_from t ht hd t.size 0 20 (by omega) (by omega)
theorem rword_is (a : ByteArray) : gossamerref01_Word.f a = some (HLex.isWord a.data.toList) := by
  unfold gossamerref01_Word.f
  rw [Lib.toList_data]
  by_cases h1 : a.data.toList = [108, 101, 116]
  · simp [h1, HLex.isWord, HLex.words]
  by_cases h2 : a.data.toList = [108, 101, 116, 114, 101, 99]
  · simp [h2, HLex.isWord, HLex.words]
  by_cases h3 : a.data.toList = [105, 110]
  · simp [h3, HLex.isWord, HLex.words]
  by_cases h4 : a.data.toList = [99, 97, 115, 101]
  · simp [h4, HLex.isWord, HLex.words]
  by_cases h5 : a.data.toList = [111, 102] <;> simp [h1, h2, h3, h4, h5, HLex.isWord, HLex.words]
def tab : List UInt8 := [92, 46, 40, 41, 61, 123, 125, 124, 43, 45, 42, 47, 60]
theorem signs_are : signs = [45, 62] :: [61, 61] :: tab.map (fun x => [x]) := rfl
theorem find_singles (c : UInt8) (r : List UInt8) : ∀ T : List UInt8, (T.map (fun x => [x])).find? (fun s => s.isPrefixOf (c :: r)) = if T.contains c then some [c] else none
  | [] => rfl
  | x :: T => by
    rw [List.map_cons, List.find?_cons]
    by_cases h : x = c
    · subst h; simp [List.isPrefixOf]
    · have h2 : ¬ c = x := fun e => h e.symm
      have e : ([x] : List UInt8).isPrefixOf (c :: r) = false := by simp [List.isPrefixOf, h]
      rw [e]
      simp only [find_singles c r T, List.contains_cons]
      simp [h2]
theorem two_pre (a b c : UInt8) (r : List UInt8) : ([a, b] : List UInt8).isPrefixOf (c :: r) = decide ((c :: r).take 2 = [a, b]) := by
  rw [Bool.eq_iff_iff, List.isPrefixOf_iff_prefix, List.prefix_iff_eq_take, decide_eq_true_iff]
  exact eq_comm
theorem find_signs (c : UInt8) (r : List UInt8) : signs.find? (fun s => s.isPrefixOf (c :: r)) = if (c :: r).take 2 = [45, 62] then some [45, 62] else if (c :: r).take 2 = [61, 61] then some [61, 61] else if tab.contains c then some [c] else none := by
  rw [signs_are, List.find?_cons, two_pre, List.find?_cons, two_pre, find_singles]
  by_cases h1 : (c :: r).take 2 = [45, 62]
  · simp only [h1, decide_true, if_true]
  · rw [if_neg h1, decide_eq_false h1]
    by_cases h2 : (c :: r).take 2 = [61, 61]
    · simp only [h2, decide_true, if_true]
    · rw [if_neg h2, decide_eq_false h2]
theorem tab_bytes : ∀ i : Nat, i < 13 → (⟨#[92, 46, 40, 41, 61, 123, 125, 124, 43, 45, 42, 47, 60]⟩ : ByteArray).data.toList[i]? = tab[i]? := fun i _ => rfl
theorem sign_loop (s : ByteArray) (at_ : Nat) (c : UInt8) (hc : s.data.toList[at_]? = some c) : ∀ (m i k : Nat), i + m = 13 → m < k → gossamerref01_sign.l0 k s at_ i = some (if (tab.drop i).contains c then 1 else 0)
  | m, i, 0, _, hk => by omega
  | 0, i, k + 1, h, _ => by
    obtain rfl : i = 13 := by omega
    unfold gossamerref01_sign.l0
    rw [if_neg (by decide)]
    rfl
  | m + 1, i, k + 1, h, hk => by
    have hi : i < tab.length := by show i < 13; omega
    have hat : at_ < s.size := by have := (List.getElem?_eq_some_iff.1 hc).1; rwa [size_len] at this
    unfold gossamerref01_sign.l0
    rw [if_pos (by omega), if_pos (by omega), if_pos (by omega), if_pos (by omega), bt_nat s at_ c hc, bt_nat _ i tab[i] (by rw [tab_bytes i (by omega)]; exact List.getElem?_eq_getElem hi)]
    rw [List.drop_eq_getElem_cons hi, List.contains_cons]
    by_cases he : tab[i] = c
    · rw [if_pos (by rw [he]), he]; simp
    · have he2 : ¬ c = tab[i] := fun e => he e.symm
      have he3 : ¬ ((tab[i].toNat : Int) = (c.toNat : Int)) := fun e => he (UInt8.toNat_inj.1 (by omega))
      rw [if_neg he3, wrap_small (by omega) (by omega)]
      have ih := sign_loop s at_ c hc m (i + 1) k (by omega) (by omega)
      rw [show ((i : Int) + 1) = ((i + 1 : Nat) : Int) by omega, ih]
      simp [he2]
def signLen (l : List UInt8) : Nat := match signs.find? (fun s => s.isPrefixOf l) with | some t => t.length | none => 0
theorem extract_two (s : ByteArray) (at_ : Nat) : (s.extract at_ (at_ + 2)).data.toList = (s.data.toList.drop at_).take 2 := by
  simp [ByteArray.extract, ByteArray.copySlice]
theorem sign_is (s : ByteArray) (at_ : Nat) (c : UInt8) (r : List UInt8) (hs : s.size ≤ 140737488355328) (hl : s.data.toList.drop at_ = c :: r) : gossamerref01_sign.f 20 s at_ = some (signLen (c :: r) : Int) := by
  have hc : s.data.toList[at_]? = some c := by
    have := congrArg (fun l => l[0]?) hl
    simpa using this
  have hlen : at_ + (r.length + 1) = s.size := by
    have := congrArg List.length hl
    rw [List.length_drop, List.length_cons, size_len] at this; omega
  have hlp := sign_loop s at_ c hc 13 0 19 rfl (by omega)
  rw [List.drop_zero] at hlp
  unfold signLen
  rw [find_signs]
  unfold gossamerref01_sign.f
  rw [wrap_small (n := (at_ : Int) + 1) (by omega) (by omega), wrap_small (n := (at_ : Int) + 2) (by omega) (by omega)]
  have hnone : ∀ b, b = false → gossamerref01_sign.j0 20 s at_ b = some (if tab.contains c then 1 else 0) := by
    rintro b rfl
    show gossamerref01_sign.j0 (19 + 1) s at_ false = _
    rw [gossamerref01_sign.j0, if_neg (by simp)]
    exact hlp
  clear hlp
  generalize tab.contains c = q at *
  cases r with
  | nil =>
    rw [if_neg (by simp at hlen; omega), hnone _ rfl]
    simp only [List.take_succ_cons, List.take_nil]
    cases q <;> simp
  | cons d r =>
    simp only [List.length_cons] at hlen
    rw [if_pos (by omega), if_pos (by omega), if_pos (by omega), if_pos (by omega)]
    have hx : (s.extract (at_ : Int).toNat ((at_ : Int) + 2).toNat).toList = (c :: d :: r).take 2 := by
      rw [Lib.toList_data, ← hl, ← extract_two]
      have e1 : (at_ : Int).toNat = at_ := by omega
      have e2 : ((at_ : Int) + 2).toNat = at_ + 2 := by omega
      rw [e1, e2]
    rw [hx]
    by_cases h1 : (c :: d :: r).take 2 = [45, 62]
    · rw [if_pos h1, if_pos h1]; rfl
    · rw [if_neg h1, if_neg h1]
      by_cases h2 : (c :: d :: r).take 2 = [61, 61]
      · rw [if_pos h2, h2]; rfl
      · rw [if_neg h2, hnone _ (by simpa using h2)]
        cases q <;> simp
end Refs
end Go.Proofs.YtnjmilelifmfpaaGreatDoor.Pure

/- Plain Lean: what a token's kind, first byte, text and number have to do with one another. No program in sight. -/
namespace Go.Proofs.YtnjmilelifmfpaaGreatDoor.HLex
theorem low_not {c : UInt8} (h : lower c = true) : upper c = false ∧ digit c = false := by
 simp only [lower, upper, digit, Bool.and_eq_true, decide_eq_true_eq, Bool.and_eq_false_imp, decide_eq_false_iff_not] at *
 omega
theorem wordly_low {c : UInt8} (h : wordly c = true) (h1 : digit c = false) (h2 : upper c = false) : lower c = true := by
 simpa [wordly, h1, h2] using h
theorem wordly_digit {c : UInt8} (h : wordly c = true) (h1 : ¬ 57 < c.toNat) : digit c = true := by
 simp only [wordly, lower, upper, digit, Bool.or_eq_true, Bool.and_eq_true, decide_eq_true_eq] at *
 omega
end Go.Proofs.YtnjmilelifmfpaaGreatDoor.HLex

namespace Go.Proofs.YtnjmilelifmfpaaGreatDoor.Pure
open Go Go.RowKit Go.Lib Go.Proofs Go.Proofs.YtnjmilelifmfpaaGreatDoor.Q Go.Proofs.YtnjmilelifmfpaaGreatDoorW.PrintWords Go.Proofs.YtnjmilelifmfpaaGreatDoorW.PrintLast Go.Proofs.YtnjmilelifmfpaaGreatDoorW.PrintMore
open HLexC (toS)
open HLex (Tok Stands lower upper digit wordly num signs)
open More
namespace Refs
set_option linter.unusedVariables false
set_option linter.unusedSimpArgs false
def OnePost (s : ByteArray) (at_ : Nat) (w : World) (e : Ending) (w' : World) : Prop :=
 match HLex.first (s.data.toList.drop at_) with
 | .ok (k, t, n) => e = .returned (.tuple #[.agg #[.int .i64 (k : Int), .string ⟨t.toArray⟩, .int .i64 (n : Int), .int .i64 (at_ : Int)], .int .i64 0]) ∧ Below w.heap.size w w'
 | .error er => e = .returned (.tuple #[.agg #[.int .i64 0, .string ⟨#[]⟩, .int .i64 0, .int .i64 0], .int .i64 (er : Int)]) ∧ Below w.heap.size w w'
theorem extract_is (s : ByteArray) (at_ k : Nat) (t r : List UInt8) (hl : s.data.toList.drop at_ = r) (ht : r.take k = t) : s.extract at_ (at_ + k) = ⟨t.toArray⟩ := by
 refine (HLexC.bytes_eq_iff _ _).2 ?_
 have : (s.extract at_ (at_ + k)).data.toList = (s.data.toList.drop at_).take k := by simp [ByteArray.extract, ByteArray.copySlice]
 rw [this, hl, ht]
theorem below4 {B : Nat} {w w' : World} (h : Below B w w') {g : Nat} (hg : B ≤ g) (u0 u1 u2 u3 : Value) : Below B w ((((w'.setCell ⟨g, 0, none⟩ u0).setCell ⟨g, 1, none⟩ u1).setCell ⟨g, 2, none⟩ u2).setCell ⟨g, 3, none⟩ u3) :=
 (((h.setCell (p := ⟨g, 0, none⟩) hg u0).setCell (p := ⟨g, 1, none⟩) hg u1).setCell (p := ⟨g, 2, none⟩) hg u2).setCell (p := ⟨g, 3, none⟩) hg u3
def Z : Obj := Obj.cells #[Value.int .i64 0, Value.string ⟨#[]⟩, Value.int .i64 0, Value.int .i64 0] 63
set_option maxRecDepth 100000 in
theorem one_sign (s : ByteArray) (at_ : Nat) (w : World) (hs : s.size ≤ 140737488355328) (c : UInt8) (r : List UInt8) (hl : s.data.toList.drop at_ = c :: r) (hw : (c :: r).takeWhile wordly = []) :
  Calls Tryz.prog 68 #[.string s, .int .i64 at_] w (OnePost s at_ w) := by
 have hlen : at_ + (r.length + 1) = s.size := by
  have := congrArg List.length hl
  rw [List.length_drop, List.length_cons, size_len] at this; omega
 have hr0 := run_is s at_ hs (by omega)
 rw [hl, hw] at hr0
 have HR := Lib.hid hr0
 have hs0 := sign_is s at_ c r hs hl
 have HS := Lib.hid hs0
 have HL := Lib.hid hl
 have HW := Lib.hid hw
 clear hr0 hs0 hl hw
 have hb0 := blk_new w Z
 have hbA := below_alloc (Below.refl w.heap.size w) Z
 have BK := Lib.hid hb0; have BB := Lib.hid hbA
 clear hb0 hbA
 go_enter Tryz.func68, Tryz.ntmps68
 go_wp2_with fail
 refine (gossamerref01_run.calls (s.size + 4) s at_ _ _ _ HR.out).mono ?_
 rintro e wf ⟨rfl, hd⟩
 have n0_ := Lib.hid (blk_below BK.out hd.below)
 have n1_ := Lib.hid (below_step BB.out hd.below)
 clear BK BB hd
 have BK := n0_; have BB := n1_
 clear n0_ n1_
 go_wp2_with fail
 refine (gossamerref01_sign.calls 20 s at_ _ _ HS.out).mono ?_
 rintro e w2 ⟨rfl, hd⟩
 have n0_ := Lib.hid (blk_below BK.out hd.below)
 have n1_ := Lib.hid (below_step BB.out hd.below)
 clear BK BB hd
 have BK := n0_; have BB := n1_
 clear n0_ n1_
 cases hf : signs.find? (fun s => s.isPrefixOf (c :: r)) with
 | none =>
  have hk : signLen (c :: r) = 0 := by unfold signLen; rw [hf]
  rw [hk]
  have HF := Lib.hid hf
  clear hf hk
  have c0 := blk_cell BK.out 0; have c1 := blk_cell BK.out 1; have c2 := blk_cell BK.out 2; have c3 := blk_cell BK.out 3
  have z0 := blk_frozen BK.out 0; have z1 := blk_frozen BK.out 1; have z2 := blk_frozen BK.out 2; have z3 := blk_frozen BK.out 3
  simp only [List.getElem?_toArray, List.getElem?_cons_zero, List.getElem?_cons_succ] at c0 c1 c2 c3
  go_wp2_with fail
  refine bodyPost_ret (results_ct rfl _ _ w.heap.size 63 #[.int .i64 0, .string ⟨#[]⟩, .int .i64 0, .int .i64 0] (0, 0) _ rfl (blk_put (blk_put (blk_put (blk_put BK.out 0 _ rfl) 1 _ rfl) 2 _ rfl) 3 _ rfl) Tryz.underlying63 rfl (by kernel_rfl)) rfl ?_
  unfold OnePost
  have hfst : HLex.first (c :: r) = .error 10 := by unfold HLex.first; simp only [HW.out, if_true, HF.out]
  rw [HL.out, hfst]
  exact ⟨rfl, below4 BB.out (Nat.le_refl _) _ _ _ _⟩
 | some t =>
  have hk : signLen (c :: r) = t.length := by unfold signLen; rw [hf]
  have htm := List.mem_of_find?_eq_some hf
  have hpre : t <+: c :: r := by
   have := List.find?_some hf
   exact List.isPrefixOf_iff_prefix.1 this
  have ht0 : 0 < t.length := List.length_pos_iff.2 (HLex.sign_facts t htm).1
  have ht1 : t.length ≤ r.length + 1 := by have := hpre.length_le; rwa [List.length_cons] at this
  rw [hk]
  have HF := Lib.hid hf
  have HP := Lib.hid hpre
  clear hf hk htm hpre
  have c0 := blk_cell BK.out 0; have c1 := blk_cell BK.out 1; have c2 := blk_cell BK.out 2; have c3 := blk_cell BK.out 3
  have z0 := blk_frozen BK.out 0; have z1 := blk_frozen BK.out 1; have z2 := blk_frozen BK.out 2; have z3 := blk_frozen BK.out 3
  simp only [List.getElem?_toArray, List.getElem?_cons_zero, List.getElem?_cons_succ] at c0 c1 c2 c3
  have hx := extract_is s at_ t.length t (c :: r) HL.out (by obtain ⟨u, hu⟩ := HP.out; rw [← hu]; simp)
  have HX := Lib.hid hx
  clear hx
  have i1 : (at_ : Int) ≤ at_ + (t.length : Int) := by omega
  have i2 : (at_ : Int) + (t.length : Int) ≤ (s.size : Int) := by omega
  have i3 : ((at_ : Int) + (t.length : Int)).toNat = at_ + t.length := by omega
  go_wp2_with fail
  refine bodyPost_ret (results_ct rfl _ _ w.heap.size 63 #[.int .i64 5, .string (s.extract at_ (at_ + t.length)), .int .i64 0, .int .i64 at_] (0, 0) _ rfl (blk_put (blk_put (blk_put (blk_put BK.out 0 _ rfl) 1 _ rfl) 2 _ rfl) 3 _ rfl) Tryz.underlying63 rfl (by kernel_rfl)) rfl ?_
  unfold OnePost
  rw [HL.out, HLex.first_sign HW.out HF.out, HX.out]
  exact ⟨rfl, below4 BB.out (Nat.le_refl _) _ _ _ _⟩
set_option maxRecDepth 100000 in
theorem one_word (s : ByteArray) (at_ : Nat) (w : World) (hs : s.size ≤ 140737488355328) (c : UInt8) (r : List UInt8) (hl : s.data.toList.drop at_ = c :: r) (hc : wordly c = true) :
  Calls Tryz.prog 68 #[.string s, .int .i64 at_] w (OnePost s at_ w) := by
 have hlen : at_ + (r.length + 1) = s.size := by
  have := congrArg List.length hl
  rw [List.length_drop, List.length_cons, size_len] at this; omega
 obtain ⟨wd, hwd⟩ : ∃ wd, (c :: r).takeWhile wordly = wd := ⟨_, rfl⟩
 have hr0 := run_is s at_ hs (by omega)
 rw [hl, hwd] at hr0
 have hwn : 0 < wd.length := by rw [← hwd]; simp [List.takeWhile, hc]
 have hwl : wd.length ≤ r.length + 1 := by have := HLex.tw_len wordly (c :: r); rw [hwd] at this; simpa using this
 have hhd : wd.head? = some c := by rw [← hwd]; simp [List.takeWhile, hc]
 have hx : s.extract at_ (at_ + wd.length) = ⟨wd.toArray⟩ := extract_is s at_ wd.length wd (c :: r) hl (by rw [← hwd]; exact HLex.tw_eq_take _ _)
 have hcl := class_is c 1
 have hfst : HLex.first (c :: r) = match HLex.named wd with | .ok (k, n) => .ok (k, wd, n) | .error e => .error e := by
  unfold HLex.first
  have : (c :: r).takeWhile wordly ≠ [] := by rw [hwd]; exact List.length_pos_iff.1 hwn
  simp only [this, if_false]
  rw [hwd] <;> rfl
 have hsc : ∀ h : at_ < s.size, s[at_]'h = c := fun h => by
  have h' : at_ < s.data.toList.length := by rw [size_len]; exact h
  have e1 : s.data.toList[at_]? = some c := by
   have := congrArg (fun l => l[0]?) hl
   simpa using this
  rw [List.getElem?_eq_getElem h'] at e1
  exact Option.some.inj e1
 have HR := Lib.hid hr0
 have HL := Lib.hid hl
 have HW := Lib.hid hwd
 have HC := Lib.hid hc
 have HCL := Lib.hid hcl
 have HX := Lib.hid hx
 have HH := Lib.hid hhd
 have HF := Lib.hid hfst
 clear hr0 hl hwd hc hcl hx hhd hfst
 have hb0 := blk_new w Z
 have hbA := below_alloc (Below.refl w.heap.size w) Z
 have BK := Lib.hid hb0; have BB := Lib.hid hbA
 clear hb0 hbA
 go_enter Tryz.func68, Tryz.ntmps68
 go_wp2_with fail
 refine (gossamerref01_run.calls (s.size + 4) s at_ _ _ _ HR.out).mono ?_
 rintro e wf ⟨rfl, hd⟩
 have n0_ := Lib.hid (blk_below BK.out hd.below)
 have n1_ := Lib.hid (below_step BB.out hd.below)
 clear BK BB hd
 have BK := n0_; have BB := n1_
 clear n0_ n1_
 have i1 : (at_ : Int) ≤ at_ + (wd.length : Int) := by omega
 have i2 : (at_ : Int) + (wd.length : Int) ≤ (s.size : Int) := by omega
 have i3 : ((at_ : Int) + (wd.length : Int)).toNat = at_ + wd.length := by omega
 go_wp2_with fail
 have hgn := blk_lt BK.out
 have n0_ := Lib.hid (blk_alloc BK.out (Obj.cells #[Value.int .i64 0, Value.string (s.extract at_ (at_ + wd.length)), Value.int .i64 0, Value.int .i64 (at_ : Int)] 63))
 have n1_ := Lib.hid (below_alloc BB.out (Obj.cells #[Value.int .i64 0, Value.string (s.extract at_ (at_ + wd.length)), Value.int .i64 0, Value.int .i64 (at_ : Int)] 63))
 have n2_ := Lib.hid (blk_new wf (Obj.cells #[Value.int .i64 0, Value.string (s.extract at_ (at_ + wd.length)), Value.int .i64 0, Value.int .i64 (at_ : Int)] 63))
 clear BK BB
 have BK := n0_; have BB := n1_; have BT := n2_
 clear n0_ n1_ n2_
 refine (gossamerref01_class.calls 4 _ _ _ HCL.out).mono ?_
 rintro e w3 ⟨rfl, hd⟩
 have n0_ := Lib.hid (blk_below BK.out hd.below)
 have n1_ := Lib.hid (below_step BB.out hd.below)
 have n2_ := Lib.hid (blk_below BT.out hd.below)
 clear BK BB BT hd
 have BK := n0_; have BB := n1_; have BT := n2_
 clear n0_ n1_ n2_
 generalize wf.heap.size = g2 at *
 have c0 := blk_cell BK.out 0; have c1 := blk_cell BK.out 1; have c2 := blk_cell BK.out 2; have c3 := blk_cell BK.out 3
 have z0 := blk_frozen BK.out 0; have z1 := blk_frozen BK.out 1; have z2 := blk_frozen BK.out 2; have z3 := blk_frozen BK.out 3
 have d0 := blk_cell BT.out 0; have d1 := blk_cell BT.out 1; have d2 := blk_cell BT.out 2; have d3 := blk_cell BT.out 3
 have y0 := blk_frozen BT.out 0; have y1 := blk_frozen BT.out 1; have y2 := blk_frozen BT.out 2; have y3 := blk_frozen BT.out 3
 simp only [List.getElem?_toArray, List.getElem?_cons_zero, List.getElem?_cons_succ] at c0 c1 c2 c3 d0 d1 d2 d3
 have q1 : ¬ w.heap.size = g2 := by omega
 have q2 : ¬ g2 = w.heap.size := by omega
 have hwa : ∀ k n, HLex.named wd = .ok (k, n) → HLex.first (c :: r) = .ok (k, wd, n) := fun k n h => by rw [HF.out, h]
 have hwe : ∀ er, HLex.named wd = .error er → HLex.first (c :: r) = .error er := fun er h => by rw [HF.out, h]
 have HWA := Lib.hid hwa; have HWE := Lib.hid hwe
 clear hwa hwe
 by_cases hd : digit c = true
 ·have e3 : cl c = 3 := by
   unfold cl; have := HLex.low_not (c := c)
   cases h1 : lower c
   ·cases h2 : upper c
    ·simp [hd]
    ·simp only [upper, digit, Bool.and_eq_true, decide_eq_true_eq] at h2 hd; omega
   ·rw [(HLex.low_not h1).2] at hd; cases hd
  have HD := Lib.hid hd
  clear hd
  rw [e3]
  clear e3
  cases ha : wd.any letter with
  | true =>
   have HA := Lib.hid ha
   clear ha
   go_wp2_with fail
   refine bodyPost_ret (results_ct rfl _ _ w.heap.size 63 #[.int .i64 0, .string ⟨#[]⟩, .int .i64 0, .int .i64 0] (0, 0) _ rfl (blk_put (blk_put (blk_put (blk_put BK.out 0 _ rfl) 1 _ rfl) 2 _ rfl) 3 _ rfl) Tryz.underlying63 rfl (by kernel_rfl)) rfl ?_
   unfold OnePost
   rw [HL.out, HWE.out 10 (by unfold HLex.named; rw [HH.out]; simp only [Option.map_some, Option.getD_some, HD.out]; exact if_pos HA.out)]
   exact ⟨rfl, below4 BB.out (Nat.le_refl _) _ _ _ _⟩
  | false =>
   have HA : Hid (wd.any (fun c => decide (57 < c.toNat)) = false) := Lib.hid ha
   clear ha
   by_cases h18 : 18 < wd.length
   ·have j1 : decide ((wd.length : Int) > 18) = true := by simp; omega
    go_wp2_with fail
    refine bodyPost_ret (results_ct rfl _ _ w.heap.size 63 #[.int .i64 0, .string ⟨#[]⟩, .int .i64 0, .int .i64 0] (0, 0) _ rfl (blk_put (blk_put (blk_put (blk_put BK.out 0 _ rfl) 1 _ rfl) 2 _ rfl) 3 _ rfl) Tryz.underlying63 rfl (by kernel_rfl)) rfl ?_
    unfold OnePost
    rw [HL.out, HWE.out 11 (by unfold HLex.named; rw [HH.out]; simp only [Option.map_some, Option.getD_some, HD.out]; rw [if_pos trivial, HA.out, if_neg (by simp), if_pos (.inl h18)])]
    exact ⟨rfl, below4 BB.out (Nat.le_refl _) _ _ _ _⟩
   ·have j1 : decide ((wd.length : Int) > 18) = false := by simp; omega
    by_cases h1 : 1 < wd.length
    ·have j2 : decide ((wd.length : Int) > 1) = true := by simp; omega
     by_cases h0 : c.toNat = 48
     ·have j3 : ((c.toNat : Int) == 48) = true := by simp; omega
      have hc48 := Lib.hid (UInt8.toNat_inj.1 h0 : c = 48)
      clear h0
      go_wp2_with fail
      refine bodyPost_ret (results_ct rfl _ _ w.heap.size 63 #[.int .i64 0, .string ⟨#[]⟩, .int .i64 0, .int .i64 0] (0, 0) _ rfl (blk_put (blk_put (blk_put (blk_put BK.out 0 _ rfl) 1 _ rfl) 2 _ rfl) 3 _ rfl) Tryz.underlying63 rfl (by kernel_rfl)) rfl ?_
      unfold OnePost
      rw [HL.out, HWE.out 11 (by unfold HLex.named; rw [HH.out]; simp only [Option.map_some, Option.getD_some, HD.out]; rw [if_pos trivial, HA.out, if_neg (by simp), if_pos (.inr ⟨h1, by rw [hc48.out]⟩)])]
      exact ⟨rfl, below4 BB.out (Nat.le_refl _) _ _ _ _⟩
     ·have j3 : ((c.toNat : Int) == 48) = false := by simp; omega
      have H0 := Lib.hid h0
      clear h0
      have hall : ∀ d ∈ wd, digit d = true := by
       intro d hd
       have h1 : wordly d = true := by rw [← HW.out] at hd; exact HLex.tw_all _ _ d hd
       refine HLex.wordly_digit h1 fun h2 => ?_
       have : wd.any (fun c => decide (57 < c.toNat)) = true := List.any_eq_true.2 ⟨d, hd, by simpa using h2⟩
       rw [HA.out] at this; cases this
      have hnum := number_is (s.extract at_ (at_ + wd.length)) (by rw [HX.out]; show wd.toArray.size ≤ 18; simp; omega) (by rw [HX.out]; simpa using hall)
      rw [HX.out] at hnum
      simp only [List.toList_toArray] at hnum
      rw [← HX.out] at hnum
      have HN := Lib.hid hnum
      clear hnum hall
      go_wp2_with fail
      refine (gossamerref01_number.calls 20 _ _ _ HN.out).mono ?_
      rintro e w4 ⟨rfl, hd⟩
      have n0_ := Lib.hid (blk_below (blk_far (p := ⟨g2, 0, none⟩) BK.out q1 (.int .i64 (3))) hd.below)
      have n1_ := Lib.hid (below_step (BB.out.setCell (p := ⟨g2, 0, none⟩) (by show w.heap.size ≤ g2; omega) (.int .i64 (3))) hd.below)
      have n2_ := Lib.hid (blk_below (blk_put BT.out 0 (.int .i64 (3)) rfl) hd.below)
      clear BK BB BT hd c0 c1 c2 c3 z0 z1 z2 z3 d0 d1 d2 d3 y0 y1 y2 y3
      have BK := n0_; have BB := n1_; have BT := n2_
      clear n0_ n1_ n2_
      have c0 := blk_cell BK.out 0; have c1 := blk_cell BK.out 1; have c2 := blk_cell BK.out 2; have c3 := blk_cell BK.out 3
      have z0 := blk_frozen BK.out 0; have z1 := blk_frozen BK.out 1; have z2 := blk_frozen BK.out 2; have z3 := blk_frozen BK.out 3
      have d0 := blk_cell BT.out 0; have d1 := blk_cell BT.out 1; have d2 := blk_cell BT.out 2; have d3 := blk_cell BT.out 3
      have y0 := blk_frozen BT.out 0; have y1 := blk_frozen BT.out 1; have y2 := blk_frozen BT.out 2; have y3 := blk_frozen BT.out 3
      simp only [List.getElem?_toArray, List.getElem?_cons_zero, List.getElem?_cons_succ] at c0 c1 c2 c3
      simp at d0 d1 d2 d3
      go_wp2_with fail
      refine bodyPost_ret (results_ct rfl _ _ w.heap.size 63 #[.int .i64 3, .string (s.extract at_ (at_ + wd.length)), .int .i64 (num wd : Int), .int .i64 (at_ : Int)] (0, 0) _ rfl (blk_put (blk_put (blk_put (blk_put (blk_far (p := ⟨g2, 2, none⟩) BK.out q1 _) 0 _ rfl) 1 _ rfl) 2 _ rfl) 3 _ rfl) Tryz.underlying63 rfl (by kernel_rfl)) rfl ?_
      unfold OnePost
      rw [HL.out, HWA.out 3 (num wd) (by unfold HLex.named; rw [HH.out]; simp only [Option.map_some, Option.getD_some, HD.out]; rw [if_pos trivial, HA.out, if_neg (by simp), if_neg (by rintro (h | ⟨h, h'⟩) <;> first|exact absurd h h18|exact absurd h h1|exact absurd (congrArg UInt8.toNat (Option.some.inj h')) H0.out)]), HX.out]
      exact ⟨rfl, below4 (BB.out.setCell (p := ⟨g2, 2, none⟩) (by show w.heap.size ≤ g2; omega) _) (Nat.le_refl _) _ _ _ _⟩
    ·have j2 : decide ((wd.length : Int) > 1) = false := by simp; omega
     have hall : ∀ d ∈ wd, digit d = true := by
      intro d hd
      have h1 : wordly d = true := by rw [← HW.out] at hd; exact HLex.tw_all _ _ d hd
      refine HLex.wordly_digit h1 fun h2 => ?_
      have : wd.any (fun c => decide (57 < c.toNat)) = true := List.any_eq_true.2 ⟨d, hd, by simpa using h2⟩
      rw [HA.out] at this; cases this
     have hnum := number_is (s.extract at_ (at_ + wd.length)) (by rw [HX.out]; show wd.toArray.size ≤ 18; simp; omega) (by rw [HX.out]; simpa using hall)
     rw [HX.out] at hnum
     simp only [List.toList_toArray] at hnum
     rw [← HX.out] at hnum
     have HN := Lib.hid hnum
     clear hnum hall
     go_wp2_with fail
     refine (gossamerref01_number.calls 20 _ _ _ HN.out).mono ?_
     rintro e w4 ⟨rfl, hd⟩
     have n0_ := Lib.hid (blk_below (blk_far (p := ⟨g2, 0, none⟩) BK.out q1 (.int .i64 (3))) hd.below)
     have n1_ := Lib.hid (below_step (BB.out.setCell (p := ⟨g2, 0, none⟩) (by show w.heap.size ≤ g2; omega) (.int .i64 (3))) hd.below)
     have n2_ := Lib.hid (blk_below (blk_put BT.out 0 (.int .i64 (3)) rfl) hd.below)
     clear BK BB BT hd c0 c1 c2 c3 z0 z1 z2 z3 d0 d1 d2 d3 y0 y1 y2 y3
     have BK := n0_; have BB := n1_; have BT := n2_
     clear n0_ n1_ n2_
     have c0 := blk_cell BK.out 0; have c1 := blk_cell BK.out 1; have c2 := blk_cell BK.out 2; have c3 := blk_cell BK.out 3
     have z0 := blk_frozen BK.out 0; have z1 := blk_frozen BK.out 1; have z2 := blk_frozen BK.out 2; have z3 := blk_frozen BK.out 3
     have d0 := blk_cell BT.out 0; have d1 := blk_cell BT.out 1; have d2 := blk_cell BT.out 2; have d3 := blk_cell BT.out 3
     have y0 := blk_frozen BT.out 0; have y1 := blk_frozen BT.out 1; have y2 := blk_frozen BT.out 2; have y3 := blk_frozen BT.out 3
     simp only [List.getElem?_toArray, List.getElem?_cons_zero, List.getElem?_cons_succ] at c0 c1 c2 c3
     simp at d0 d1 d2 d3
     go_wp2_with fail
     refine bodyPost_ret (results_ct rfl _ _ w.heap.size 63 #[.int .i64 3, .string (s.extract at_ (at_ + wd.length)), .int .i64 (num wd : Int), .int .i64 (at_ : Int)] (0, 0) _ rfl (blk_put (blk_put (blk_put (blk_put (blk_far (p := ⟨g2, 2, none⟩) BK.out q1 _) 0 _ rfl) 1 _ rfl) 2 _ rfl) 3 _ rfl) Tryz.underlying63 rfl (by kernel_rfl)) rfl ?_
     unfold OnePost
     rw [HL.out, HWA.out 3 (num wd) (by unfold HLex.named; rw [HH.out]; simp only [Option.map_some, Option.getD_some, HD.out]; rw [if_pos trivial, HA.out, if_neg (by simp), if_neg (by rintro (h | ⟨h, h'⟩) <;> first|exact absurd h h18|exact absurd h h1|exact absurd (congrArg UInt8.toNat (Option.some.inj h')) H0.out)]), HX.out]
     exact ⟨rfl, below4 (BB.out.setCell (p := ⟨g2, 2, none⟩) (by show w.heap.size ≤ g2; omega) _) (Nat.le_refl _) _ _ _ _⟩
 ·have hd' : digit c = false := by simpa using hd
  clear hd
  obtain ⟨kc, hkc, e3⟩ : ∃ kc : Nat, kc = (if upper c then 2 else 1) ∧ cl c = (kc : Int) := by
   refine ⟨_, rfl, ?_⟩
   unfold cl
   cases h1 : lower c
   ·cases h2 : upper c
    ·have := HLex.wordly_low HC.out hd' h2; rw [h1] at this; cases this
    ·rfl
   ·rw [(HLex.low_not h1).1]; rfl
  have hk3 : kc = 1 ∨ kc = 2 := by rw [hkc]; cases upper c <;> simp
  have HD := Lib.hid hd'; have HK := Lib.hid hkc
  clear hd' hkc
  rw [e3]
  clear e3
  have j0 : ((kc : Int) == 3) = false := by simp; omega
  by_cases h16 : 16 < wd.length
  ·have j1 : decide ((wd.length : Int) > 16) = true := by simp; omega
   go_wp2_with fail
   refine bodyPost_ret (results_ct rfl _ _ w.heap.size 63 #[.int .i64 0, .string ⟨#[]⟩, .int .i64 0, .int .i64 0] (0, 0) _ rfl (blk_put (blk_put (blk_put (blk_put BK.out 0 _ rfl) 1 _ rfl) 2 _ rfl) 3 _ rfl) Tryz.underlying63 rfl (by kernel_rfl)) rfl ?_
   unfold OnePost
   rw [HL.out, HWE.out 11 (by unfold HLex.named; rw [HH.out]; simp only [Option.map_some, Option.getD_some, HD.out]; rw [if_neg (by simp)]; rw [if_pos h16])]
   exact ⟨rfl, below4 BB.out (Nat.le_refl _) _ _ _ _⟩
  ·have j1 : decide ((wd.length : Int) > 16) = false := by simp; omega
   have hword := rword_is (s.extract at_ (at_ + wd.length))
   rw [HX.out] at hword
   simp only [List.toList_toArray] at hword
   rw [← HX.out] at hword
   cases hiw : HLex.isWord wd with
   | true =>
    rw [hiw] at hword
    have HN := Lib.hid hword; have HI := Lib.hid hiw
    clear hword hiw
    go_wp2_with fail
    refine (gossamerref01_Word.calls _ _ _ HN.out).mono ?_
    rintro e w4 ⟨rfl, hd⟩
    have n0_ := Lib.hid (blk_below (blk_far (p := ⟨g2, 0, none⟩) BK.out q1 (.int .i64 ((kc : Int)))) hd.below)
    have n1_ := Lib.hid (below_step (BB.out.setCell (p := ⟨g2, 0, none⟩) (by show w.heap.size ≤ g2; omega) (.int .i64 ((kc : Int)))) hd.below)
    have n2_ := Lib.hid (blk_below (blk_put BT.out 0 (.int .i64 ((kc : Int))) rfl) hd.below)
    clear BK BB BT hd c0 c1 c2 c3 z0 z1 z2 z3 d0 d1 d2 d3 y0 y1 y2 y3
    have BK := n0_; have BB := n1_; have BT := n2_
    clear n0_ n1_ n2_
    have c0 := blk_cell BK.out 0; have c1 := blk_cell BK.out 1; have c2 := blk_cell BK.out 2; have c3 := blk_cell BK.out 3
    have z0 := blk_frozen BK.out 0; have z1 := blk_frozen BK.out 1; have z2 := blk_frozen BK.out 2; have z3 := blk_frozen BK.out 3
    have d0 := blk_cell BT.out 0; have d1 := blk_cell BT.out 1; have d2 := blk_cell BT.out 2; have d3 := blk_cell BT.out 3
    have y0 := blk_frozen BT.out 0; have y1 := blk_frozen BT.out 1; have y2 := blk_frozen BT.out 2; have y3 := blk_frozen BT.out 3
    simp only [List.getElem?_toArray, List.getElem?_cons_zero, List.getElem?_cons_succ] at c0 c1 c2 c3
    simp at d0 d1 d2 d3
    go_wp2_with fail
    refine bodyPost_ret (results_ct rfl _ _ w.heap.size 63 #[.int .i64 4, .string (s.extract at_ (at_ + wd.length)), .int .i64 0, .int .i64 (at_ : Int)] (0, 0) _ rfl (blk_put (blk_put (blk_put (blk_put (blk_far (p := ⟨g2, 0, none⟩) BK.out q1 _) 0 _ rfl) 1 _ rfl) 2 _ rfl) 3 _ rfl) Tryz.underlying63 rfl (by kernel_rfl)) rfl ?_
    unfold OnePost
    rw [HL.out, HWA.out 4 0 (by unfold HLex.named; rw [HH.out]; simp only [Option.map_some, Option.getD_some, HD.out]; rw [if_neg (by simp)]; rw [if_neg h16, if_pos HI.out]), HX.out]
    exact ⟨rfl, below4 (BB.out.setCell (p := ⟨g2, 0, none⟩) (by show w.heap.size ≤ g2; omega) _) (Nat.le_refl _) _ _ _ _⟩
   | false =>
    rw [hiw] at hword
    have HN := Lib.hid hword; have HI := Lib.hid hiw
    clear hword hiw
    go_wp2_with fail
    refine (gossamerref01_Word.calls _ _ _ HN.out).mono ?_
    rintro e w4 ⟨rfl, hd⟩
    have n0_ := Lib.hid (blk_below (blk_far (p := ⟨g2, 0, none⟩) BK.out q1 (.int .i64 ((kc : Int)))) hd.below)
    have n1_ := Lib.hid (below_step (BB.out.setCell (p := ⟨g2, 0, none⟩) (by show w.heap.size ≤ g2; omega) (.int .i64 ((kc : Int)))) hd.below)
    have n2_ := Lib.hid (blk_below (blk_put BT.out 0 (.int .i64 ((kc : Int))) rfl) hd.below)
    clear BK BB BT hd c0 c1 c2 c3 z0 z1 z2 z3 d0 d1 d2 d3 y0 y1 y2 y3
    have BK := n0_; have BB := n1_; have BT := n2_
    clear n0_ n1_ n2_
    have c0 := blk_cell BK.out 0; have c1 := blk_cell BK.out 1; have c2 := blk_cell BK.out 2; have c3 := blk_cell BK.out 3
    have z0 := blk_frozen BK.out 0; have z1 := blk_frozen BK.out 1; have z2 := blk_frozen BK.out 2; have z3 := blk_frozen BK.out 3
    have d0 := blk_cell BT.out 0; have d1 := blk_cell BT.out 1; have d2 := blk_cell BT.out 2; have d3 := blk_cell BT.out 3
    have y0 := blk_frozen BT.out 0; have y1 := blk_frozen BT.out 1; have y2 := blk_frozen BT.out 2; have y3 := blk_frozen BT.out 3
    simp only [List.getElem?_toArray, List.getElem?_cons_zero, List.getElem?_cons_succ] at c0 c1 c2 c3
    simp at d0 d1 d2 d3
    go_wp2_with fail
    refine bodyPost_ret (results_ct rfl _ _ w.heap.size 63 #[.int .i64 (kc : Int), .string (s.extract at_ (at_ + wd.length)), .int .i64 0, .int .i64 (at_ : Int)] (0, 0) _ rfl (blk_put (blk_put (blk_put (blk_put BK.out 0 _ rfl) 1 _ rfl) 2 _ rfl) 3 _ rfl) Tryz.underlying63 rfl (by kernel_rfl)) rfl ?_
    unfold OnePost
    rw [HL.out, HWA.out kc 0 (by unfold HLex.named; rw [HH.out]; simp only [Option.map_some, Option.getD_some, HD.out]; rw [if_neg (by simp)]; rw [if_neg h16, if_neg (by rw [HI.out]; simp), HK.out]; by_cases hu : upper c = true <;> simp [hu]), HX.out]
    exact ⟨rfl, below4 BB.out (Nat.le_refl _) _ _ _ _⟩
theorem one_any (s : ByteArray) (at_ : Nat) (w : World) (hs : s.size ≤ 140737488355328) (hat : at_ < s.size) : Calls Tryz.prog 68 #[.string s, .int .i64 at_] w (OnePost s at_ w) := by
 cases hl : s.data.toList.drop at_ with
 | nil =>
  have := List.drop_eq_nil_iff.1 hl
  rw [size_len] at this; omega
 | cons c r =>
  cases hc : wordly c with
  | true => exact one_word s at_ w hs c r hl hc
  | false => exact one_sign s at_ w hs c r hl (by simp [List.takeWhile, hc])
end Refs
end Go.Proofs.YtnjmilelifmfpaaGreatDoor.Pure

namespace Go.Proofs.YtnjmilelifmfpaaGreatDoor.Ev
open Go Go.RowKit Go.Proofs.YtnjmilelifmfpaaGreatDoor.Q Go.Proofs.YtnjmilelifmfpaaGreatDoorW.PrintWords Go.Proofs.YtnjmilelifmfpaaGreatDoorW.PrintLast Go.Proofs.YtnjmilelifmfpaaGreatDoorW.PrintMore
open HCore (wt wts may same height heights size sizes)
set_option linter.unusedSimpArgs false
set_option linter.unusedVariables false

theorem pur_s {S : Snap} {x v : Value} (h : Pur S (.s x) v) : v = x := by cases h; rfl
theorem nil_C {w : World} {A : Option Addr} : Kd.C Q.k24 w A 0 [] := ⟨rfl, by decide, fun h => absurd h (by simp)⟩
theorem fwd {S : Snap} {w : World} (hA : Agr S w) : ∀ n, n ≤ 9223372036854775807 → ∀ l : List Tm, sizes l ≤ n → ∀ v, Pur S (.row (encTs l)) v → ∃ A c, v = .slice A l.length c ∧ l.length ≤ c ∧ Kd.C Q.k24 w A l.length l := by
 intro n
 induction n with
 | zero =>
  intro _ l hl v hv
  have : l = [] := by
   cases l with
   | nil => rfl
   | cons x l => have := size_of x; simp only [sizes] at hl; omega
  subst this
  cases hv with
  | row sz h r e m => simp only [encTs, List.length_nil] at e; subst e; exact ⟨_, _, rfl, by simp, nil_C⟩
  | nil => exact ⟨_, _, rfl, by simp, nil_C⟩
 | succ n ih =>
  intro hn l hl v hv
  have hlen := len_sizes l
  cases hv' : l with
  | nil =>
   subst hv'
   cases hv with
   | row sz h r e m => simp only [encTs, List.length_nil] at e; subst e; exact ⟨_, _, rfl, by simp, nil_C⟩
   | nil => exact ⟨_, _, rfl, by simp, nil_C⟩
  | cons x0 l0 =>
   rw [← hv']
   generalize hxs : encTs l = xs at hv
   cases hv with
   | nil => rw [hv'] at hxs; simp [encTs] at hxs
   | row sz h r e m =>
    rename_i b o len cap
    subst hxs
    rw [encTs_len] at e; subst e
    refine ⟨_, _, rfl, m, rfl, by omega, fun _ => ⟨_, rfl, fun j p hj => ?_⟩⟩
    have hget : (encTs l)[j]? = some (encT p) := by rw [encTs_get, hj]; rfl
    have hcs := Rows.get (sz := 4) (fun c hc => by rw [encTs_map] at hc; obtain ⟨y, _, rfl⟩ := List.mem_map.1 hc; exact encT_len y) r hget
    have hp : p ∈ l := List.mem_of_getElem? hj
    have h1 := sizes_mem hp
    have h2 := size_of p
    obtain ⟨vs, v1, v2, v3⟩ := hcs.vals
    rw [encT_is] at v1 v3
    obtain ⟨u0, e0, p0⟩ := v3 0 _ rfl
    obtain ⟨u1, e1, p1⟩ := v3 1 _ rfl
    obtain ⟨u2, e2, p2⟩ := v3 2 _ rfl
    obtain ⟨u3, e3, p3⟩ := v3 3 _ rfl
    obtain ⟨A4, c4, rfl, hl4, hC4⟩ := ih (by omega) p.f3 (by omega) u3 p3
    have q0 := pur_s p0; have q1 := pur_s p1; have q2 := pur_s p2
    subst q0 q1 q2
    refine ⟨_, rfl, Q.k24_mk w p hl4 hC4, fun i u hi => ?_⟩
    rw [Addr.add_lit]
    have hv2 : vs[i]? = some u := match i, hi with
     | 0, hi => e0.trans hi
     | 1, hi => e1.trans hi
     | 2, hi => e2.trans hi
     | 3, hi => e3.trans hi
    have := v2 i u hv2
    rw [Nat.add_assoc] at this
    exact hA.1 _ _ _ this
theorem rows_of {S : Snap} {sz b : Nat} : ∀ (xs : List (List AV)) (o : Nat), (∀ c ∈ xs, c.length = sz) → (∀ i c, xs[i]? = some c → Cells S b (o + i * sz) c) → Rows S b o xs
 | [], _, _, _ => .nil
 | c :: xs, o, h, k => by
  have h0 := h c (List.mem_cons_self ..)
  refine .cons (by simpa using k 0 c rfl) (rows_of xs _ (fun c hc => h c (List.mem_cons_of_mem _ hc)) fun i d hd => ?_)
  have := k (i + 1) d (by simpa using hd)
  rwa [Nat.add_mul, Nat.one_mul, show o + (i * sz + sz) = o + c.length + i * sz by omega] at this
def SW (w : World) : Snap := fun b o => w.cell? ⟨b, o, none⟩
theorem SW_agr (w : World) : Agr (SW w) w := ⟨fun _ _ _ h => h, fun _ _ _ _ _ _ h => h⟩
theorem spot_none {w : World} {a : Addr} {v : Value} (h : w.cell? a = some v) : a.spot = none := by
 unfold World.cell? at h
 split at h
 ·split at h
  ·cases h
  ·rename_i h0; cases ha : a.spot with
   | none => rfl
   | some _ => rw [ha] at h0; simp at h0
 ·cases h
theorem add_eq {a : Addr} (h : a.spot = none) (n : Nat) : a.add n = ⟨a.block, a.off + n, none⟩ := by
 cases a with
 | mk b o s => simp only at h; subst h; rw [Addr.add_lit]
theorem bwd {w : World} : ∀ n, ∀ l : List Tm, sizes l ≤ n → ∀ A c, l.length ≤ c → Kd.C Q.k24 w A l.length l → Pur (SW w) (.row (encTs l)) (.slice A l.length c) := by
 intro n
 induction n with
 | zero =>
  intro l hl A c hc h
  have : l = [] := by
   cases l with
   | nil => rfl
   | cons x l => have := size_of x; simp only [sizes] at hl; omega
  subst this
  exact .nil
 | succ n ih =>
  intro l hl A c hc h
  cases hv : l with
  | nil => exact .nil
  | cons x0 l0 =>
   rw [← hv]
   have hp0 : l[0]? = some x0 := by rw [hv]; rfl
   obtain ⟨ad, _, _, rfl, y0, -⟩ := Pure.WK.tm_get h hp0
   have hsp : ad.spot = none := by
    have := spot_none y0
    rw [Nat.zero_mul, Pure.WK.add0] at this; exact this
   have had : ad = ⟨ad.block, ad.off, none⟩ := by cases ad; simp only at hsp; subst hsp; rfl
   rw [had]
   refine .row 4 (fun c hc => by rw [encTs_map] at hc; obtain ⟨y, _, rfl⟩ := List.mem_map.1 hc; exact encT_len y) (rows_of _ _ (fun c hc => by rw [encTs_map] at hc; obtain ⟨y, _, rfl⟩ := List.mem_map.1 hc; exact encT_len y) fun i d hd => ?_) (encTs_len l) hc
   rw [encTs_get, Option.map_eq_some_iff] at hd
   obtain ⟨p, hp, rfl⟩ := hd
   obtain ⟨ad', A4, c4, e, z0, z1, z2, z3, hl4, hC4⟩ := Pure.WK.tm_get h hp
   cases e
   rw [add_eq hsp] at z0 z1 z2 z3
   have hm := sizes_mem (List.mem_of_getElem? hp)
   have h2 := size_of p
   rw [encT_is]
   exact .cons z0 (.s rfl) (.cons z1 (.s rfl) (.cons z2 (.s rfl) (.cons z3 (ih p.f3 (by omega) A4 c4 hl4 hC4) .nil)))
def told (S : Snap) (k : Nat) : Prop := ∃ o v, S k o = some v
theorem argF {S : Snap} {w : World} (hA : Agr S w) {x : Tm} (hx : size x ≤ 9223372036854775807) {v : Value} (h : Rep (g0 S) (.agg (encT x)) v) :
  ∃ A c, v = .agg #[.int .i64 x.f0, .int .i64 x.f1, .string x.f2, .slice A x.f3.length c] ∧ x.f3.length ≤ c ∧ Kd.F Q.k24 w (told S) A x.f3.length x.f3 := by
 have hf := size_of x
 rw [encT_is] at h
 cases h with
 | com h => cases h with
  | cel h => cases h with | pur p => cases p
  | agg h =>
   cases h with | cons c0 h =>
   cases h with | cons c1 h =>
   cases h with | cons c2 h =>
   cases h with | cons c3 h =>
   cases h
   cases c0 with | pur p0 =>
   cases c1 with | pur p1 =>
   cases c2 with | pur p2 =>
   cases c3 with | pur p3 =>
   obtain ⟨A, c, rfl, hl, hC⟩ := fwd hA _ (Nat.le_refl _) x.f3 (by omega) _ p3
   cases p0; cases p1; cases p2
   refine ⟨A, c, rfl, hl, fun W' hW => ?_⟩
   have hA' : Agr S W' := agr_same hA fun b o v e => hW b ⟨o, v, e⟩ (hA.lt e)
   obtain ⟨A', c', e, hl', hC'⟩ := fwd hA' _ (Nat.le_refl _) x.f3 (by omega) _ p3
   cases e
   exact hC'
theorem repT {w : World} {x : Tm} {A : Option Addr} {c : Nat} (hl : x.f3.length ≤ c) (hC : Kd.C Q.k24 w A x.f3.length x.f3) :
  Com (g0 (SW w)) (.agg (encT x)) (.agg #[.int .i64 x.f0, .int .i64 x.f1, .string x.f2, .slice A x.f3.length c]) := by
 rw [encT_is]
 exact .agg (.cons (.pur (.s rfl)) (.cons (.pur (.s rfl)) (.cons (.pur (.s rfl)) (.cons (.pur (bwd _ x.f3 (Nat.le_refl _) A c hl hC)) .nil))))
def Snew (S : Snap) (n : Nat) (w' : World) : Snap := fun b o => if b < n then S b o else w'.cell? ⟨b, o, none⟩
theorem Snew_ok {S : Snap} {w w' : World} (hA : Agr S w) (hb : Below w.heap.size w w') : SLe S (Snew S w.heap.size w') ∧ (∀ b o, b < w.heap.size → Snew S w.heap.size w' b o = S b o) ∧ Agr (Snew S w.heap.size w') w' := by
 refine ⟨fun b o v e => by unfold Snew; rw [if_pos (hA.lt e)]; exact e, fun b o h => if_pos h, ?_⟩
 have hA' := hA.below hb
 refine ⟨fun b o v e => ?_, fun b o v o' v' e e' => ?_⟩
 ·unfold Snew at e
  split at e
  ·exact hA'.1 b o v e
  ·exact e
 ·unfold Snew at e ⊢
  split at e
  ·rename_i h; rw [if_pos h]; exact hA'.2 b o v o' v' e e'
  ·rename_i h; rw [if_neg h]; exact e'
open Classical in
noncomputable def only (ok : Nat → Prop) (w : World) : World := { w with heap := w.heap.mapIdx fun k o => if ok k then o else .cells #[] 0 }
theorem only_get {ok : Nat → Prop} {w : World} {k : Nat} (h : ok k) : (only ok w).heap[k]? = w.heap[k]? := by
 simp only [only, Array.getElem?_mapIdx, h, if_true]
 cases w.heap[k]? <;> rfl
theorem only_cell {ok : Nat → Prop} {w : World} {b o : Nat} {v : Value} (h : (only ok w).cell? ⟨b, o, none⟩ = some v) : ok b ∧ w.cell? ⟨b, o, none⟩ = some v := by
 by_cases hb : ok b
 ·refine ⟨hb, ?_⟩
  rw [← World.cell?_of_block (w := w) (only_get hb)]; exact h
 ·exfalso
  have hlt := World.block_lt_of_cell? _ _ h
  have : (only ok w).heap[b]? = some (.cells #[] 0) := by
   have hw : b < w.heap.size := by simpa [only] using hlt
   simp only [only, Array.getElem?_mapIdx, hb, if_false]
   rw [Array.getElem?_eq_getElem hw]; rfl
  rw [cell_of_row _ b o #[] 0 (0, 0) this] at h
  simp at h
theorem resF {S : Snap} {w w' : World} (hA : Agr S w) (hb : Below w.heap.size w w') {x : Tm} {A : Option Addr} {c : Nat} (hl : x.f3.length ≤ c) (hF : Kd.F Q.k24 w' (fun k => told S k ∨ w.heap.size ≤ k) A x.f3.length x.f3) :
  Com (g0 (Snew S w.heap.size w')) (.agg (encT x)) (.agg #[.int .i64 x.f0, .int .i64 x.f1, .string x.f2, .slice A x.f3.length c]) := by
 have hC := hF (only (fun k => told S k ∨ w.heap.size ≤ k) w') fun k hk _ => only_get hk
 refine Com.mono (g := g0 (SW (only (fun k => told S k ∨ w.heap.size ≤ k) w'))) (g' := g0 (Snew S w.heap.size w')) ⟨fun b o v e => ?_, fun _ _ h => by simp [g0] at h, fun _ _ h => by simp [g0] at h⟩ (repT hl hC)
 obtain ⟨h1, h2⟩ := only_cell e
 show Snew S w.heap.size w' b o = some v
 unfold Snew
 split
 ·rename_i hlt
  rcases h1 with ⟨o', v', h1⟩ | h1
  ·exact (hA.below hb).2 b o' v' o v h1 h2
  ·omega
 ·exact h2
theorem post_s {S : Snap} {w : World} (hA : Agr S w) {v : Value} (h1 : v.oneCell' = true) {e : Ending} {w' : World} (h : e = .returned v ∧ Below w.heap.size w w') : Post S w (.ret (.s v)) e w' := by
 obtain ⟨rfl, hb⟩ := h
 exact ⟨S, SLe.refl _, fun _ _ _ => rfl, hA.below hb, hb, rep_s h1⟩
theorem post_ret {S : Snap} {w : World} {v : Value} {e : Ending} {w' : World} (h : Post S w (.ret (.s v)) e w') : e = .returned v ∧ Below w.heap.size w w' := by
 cases e with
 | returned x =>
  obtain ⟨S', -, -, -, hb, r⟩ := h
  have : x = v := sc_rep r rfl
  subst this
  exact ⟨rfl, hb⟩
 | panicked ch => exact h.elim
 | _ => exact h.elim
def oneOut (s : ByteArray) (k : Nat) : AOut := match HLex.first (s.data.toList.drop k) with
 | .ok (kd, t, n) => .ret (.tup [.agg [.s (.int .i64 (kd : Int)), .s (.string ⟨t.toArray⟩), .s (.int .i64 (n : Int)), .s (.int .i64 (k : Int))], .s (.int .i64 0)])
 | .error er => .ret (.tup [.agg [.s (.int .i64 0), .s (.string ⟨#[]⟩), .s (.int .i64 0), .s (.int .i64 0)], .s (.int .i64 (er : Int))])
abbrev TOne : Spec := fun args out => ∃ (s : ByteArray) (k : Nat), args = [.s (.string s), .s (.int .i64 (k : Int))] ∧ s.size ≤ 140737488355328 ∧ k < s.size ∧ out = oneOut s k
theorem c_one {J : JW} : Con Tryz.prog J 68 TOne := by
 rintro args out ⟨s, k, rfl, hs, hk, rfl⟩
 show ∀ S w vs, J w → Agr S w → All2 (Rep (g0 S)) _ vs → Calls Tryz.prog _ vs.toArray w (Post S w _)
 intro S w vs hJ hA h
 cases h with | cons r0 h =>
 cases h with | cons r1 h =>
 cases h
 have e0 := sc_rep r0 rfl
 have e1 := sc_rep r1 rfl
 subst e0 e1
 refine (Pure.Refs.one_any s k w hs hk).mono fun e w' h => ?_
 unfold Pure.Refs.OnePost at h
 unfold oneOut
 cases hq : HLex.first (s.data.toList.drop k) with
 | ok y =>
  obtain ⟨a, b, c⟩ := y
  rw [hq] at h
  obtain ⟨rfl, hb⟩ := h
  exact ⟨S, SLe.refl _, fun _ _ _ => rfl, hA.below hb, hb, .tup (.cons (.agg (.cons (.pur (.s rfl)) (.cons (.pur (.s rfl)) (.cons (.pur (.s rfl)) (.cons (.pur (.s rfl)) .nil))))) (.cons (.cel (.pur (.s rfl))) .nil))⟩
 | error er =>
  rw [hq] at h
  obtain ⟨rfl, hb⟩ := h
  exact ⟨S, SLe.refl _, fun _ _ _ => rfl, hA.below hb, hb, .tup (.cons (.agg (.cons (.pur (.s rfl)) (.cons (.pur (.s rfl)) (.cons (.pur (.s rfl)) (.cons (.pur (.s rfl)) .nil))))) (.cons (.cel (.pur (.s rfl))) .nil))⟩
end Go.Proofs.YtnjmilelifmfpaaGreatDoor.Ev

namespace Go.Proofs.YtnjmilelifmfpaaGreatDoor.Ev
open Go Go.RowKit
open HCore (wt wts may same height heights size sizes oper bare each alts)
open Pure.R6P (hd1 hd6 may6)
set_option linter.unusedSimpArgs false
set_option linter.unusedVariables false
theorem one_zero {s : ByteArray} : oneOut s 0 = match HLex.first s.data.toList with
 | .ok (kd, t, n) => .ret (.tup [.agg [.s (.int .i64 (kd : Int)), .s (.string ⟨t.toArray⟩), .s (.int .i64 (n : Int)), .s (.int .i64 0)], .s (.int .i64 0)])
 | .error er => .ret (.tup [.agg [.s (.int .i64 0), .s (.string ⟨#[]⟩), .s (.int .i64 0), .s (.int .i64 0)], .s (.int .i64 (er : Int))]) := rfl
abbrev TCon : Spec := fun args out => ∃ s : ByteArray, args = [.s (.string s)] ∧ s.size ≤ 140737488355328 ∧ out = .ret (.s (.bool (HCore.con s)))
theorem c_con {J : JW} (hJ : JOk J) : Con Tryz.prog J 66 TCon := by
 obtain ⟨code, h1, h2, h3, h4⟩ := k66
 refine con (ok_cons c_one ok_nil) hJ h1 h2 h3 h4 fun args out h => ?_
 obtain ⟨s, rfl, hs, rfl⟩ := h
 refine ⟨rfl, by rw [Tryz.ntmps66]; simp, ?_⟩
 unfold c66
 rw [Pure.R6P.con_first]
 refine go ?_
 refine ⟨fun q1 => by rw [q1]; rfl, fun q1 => ?_⟩
 have hp : 0 < s.size := by
  rcases Nat.eq_zero_or_pos s.size with h | h
  ·exfalso; apply q1
   have : s.data.toList = [] := by
    have e : s.data.toList.length = 0 := by rw [Array.length_toList]; exact h
    exact List.eq_nil_of_length_eq_zero e
   cases s; simp only [ByteArray.mk.injEq]; exact Array.toList_inj.1 (by simpa using this)
  ·exact h
 refine call (T := TOne) ⟨s, 0, rfl, hs, hp, rfl⟩ ?_
 rw [one_zero]
 cases hf : HLex.first s.data.toList with
 | error e =>
  refine go ?_
  repeat' first
   | refine go ?_
   | (refine spl (by simp (config := { decide := true }) only [tm_hit, tm_miss, ne_eq, not_false_eq_true]; rfl) (fun hb => ?_) (fun hb => ?_) <;> simp only [hb])
  all_goals simp_all
 | ok y =>
  obtain ⟨kd, t, n⟩ := y
  refine go ?_
  repeat' first
   | refine go ?_
   | (refine spl (by simp (config := { decide := true }) only [tm_hit, tm_miss, ne_eq, not_false_eq_true]; rfl) (fun hb => ?_) (fun hb => ?_) <;> simp only [hb])
  all_goals (try rw [ba_eq])
  all_goals simp_all
  all_goals omega
theorem e0 {s : ByteArray} : decide (s.data.toList = []) = decide (s = ⟨#[]⟩) := (ba_eq (u := ⟨#[]⟩)).symm
def hdS8 (x : Tm) (free : Int) (alt o : Bool) : AS := ⟨tm [(8, .s (.bool o)), (7, .s (.int .i64 x.f3.length)), (1, .s (.int .i64 free)), (2, .s (.bool alt)), (3, .ptr 0 0)], bm [(0, some (cX x))], bm [], 1⟩
def hdS9 (x : Tm) (free : Int) (alt o p : Bool) : AS := ⟨tm [(9, .s (.bool p)), (8, .s (.bool o)), (7, .s (.int .i64 x.f3.length)), (1, .s (.int .i64 free)), (2, .s (.bool alt)), (3, .ptr 0 0)], bm [(0, some (cX x))], bm [], 1⟩
theorem oper_is (s : ByteArray) : oper s = (decide (s = ⟨[43].toArray⟩) || (decide (s = ⟨[45].toArray⟩) || (decide (s = ⟨[42].toArray⟩) || (decide (s = ⟨[47].toArray⟩) || (decide (s = ⟨[60].toArray⟩) || decide (s = ⟨[61, 61].toArray⟩)))))) := by
 unfold oper
 simp only [ba_eq, List.contains, List.elem, Bool.beq_eq_decide_eq]
 have bd : ∀ l : List UInt8, (s.data.toList == l) = decide (s.data.toList = l) := fun l => by by_cases e : s.data.toList = l <;> simp [e]
 (try simp only [bd])
 generalize decide (s.data.toList = [43]) = a; generalize decide (s.data.toList = [45]) = b; generalize decide (s.data.toList = [42]) = c; generalize decide (s.data.toList = [47]) = d; generalize decide (s.data.toList = [60]) = e; generalize decide (s.data.toList = [61, 61]) = f
 cases a <;> cases b <;> cases c <;> cases d <;> cases e <;> cases f <;> rfl
theorem bare_is (n : Int) (s : ByteArray) : bare n s = (decide (s = ⟨[].toArray⟩) && (n == 0)) := by
 unfold bare
 rw [ba_eq]
 by_cases h : n = 0 <;> simp [h]
abbrev THead : Spec := fun args out => ∃ (x : Tm) (free : Int) (alt : Bool), args = [.agg (encT x), .s (.int .i64 free), .s (.bool alt)] ∧ x.f2.size ≤ 140737488355328 ∧ out = .ret (.s (.bool (if alt then hd6 x else hd1 x free)))
set_option maxHeartbeats 4000000 in
theorem c_head {J : JW} (hJ : JOk J) : Con Tryz.prog J 45 THead := by
 obtain ⟨code, h1, h2, h3, h4⟩ := k45
 refine conF (ins 3 (ins 4 c45)) (ok_cons (c_con hJ) ok_nil) hJ h1 h2 h3 h4 (by kernel_rfl) fun args out h => ?_
 obtain ⟨x, free, alt, rfl, hs, rfl⟩ := h
 refine ⟨rfl, by rw [Tryz.ntmps45]; simp, ?_⟩
 rw [encT_is]
 unfold c45
 simp only [ins]
 refine go ?_
 simp only [encTs_len]
 refine joinG (hdS8 x free alt (oper x.f2)) ?_ (by
  rw [oper_is]
  repeat' first
   | refine go ?_
   | (refine spl (by simp (config := { decide := true }) only [tm_hit, tm_miss, ne_eq, not_false_eq_true]; rfl) (fun hb => ?_) (fun hb => ?_) <;> simp only [hb])
  all_goals (simp only [Bool.true_or, Bool.false_or, hdS8]; exact lm [(0, 0)]))
 unfold hdS8
 refine go ?_
 refine joinG (hdS9 x free alt (oper x.f2) (bare x.f1 x.f2)) ?_ (by
  rw [bare_is]
  repeat' first
   | refine go ?_
   | (refine spl (by simp (config := { decide := true }) only [tm_hit, tm_miss, ne_eq, not_false_eq_true]; rfl) (fun hb => ?_) (fun hb => ?_) <;> simp only [hb])
  all_goals (simp only [Bool.true_and, Bool.false_and, hdS9]; exact lm [(0, 0)]))
 unfold hdS9
 cases alt with
 | true =>
  repeat' first
   | refine go ?_
   | (refine spl (by simp (config := { decide := true }) only [tm_hit, tm_miss, ne_eq, not_false_eq_true]; rfl) (fun hb => ?_) (fun hb => ?_) <;> simp only [hb])
   | (refine call (T := TCon) ⟨x.f2, rfl, hs, rfl⟩ ?_)
  all_goals (simp_all [hd6])
  all_goals first
   | omega
   | (intros; omega)
   | (rw [Bool.eq_iff_iff]; simp; done)
   | (rw [Bool.eq_iff_iff]; simp; omega)
 | false =>
  repeat' first
   | refine go ?_
   | (refine spl (by simp (config := { decide := true }) only [tm_hit, tm_miss, ne_eq, not_false_eq_true]; rfl) (fun hb => ?_) (fun hb => ?_) <;> simp only [hb])
   | (refine call (T := TCon) ⟨x.f2, rfl, hs, rfl⟩ ?_)
   | (refine both (fun hb => ?_) (fun hb => ?_))
  all_goals (try simp only [hd1, e0])
  all_goals (simp_all)
  all_goals first
   | omega
   | (intros; omega)
   | (rw [Bool.eq_iff_iff]; simp; done)
   | (rw [Bool.eq_iff_iff]; simp; omega)
end Go.Proofs.YtnjmilelifmfpaaGreatDoor.Ev
