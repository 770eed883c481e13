/- The walks of slices.IndexFunc and slices.ContainsFunc on terms, for whatever function tells a Bool of an element. -/
import Derived.Test.YtlokmdjhpaimbaaDoorHCore
import Derived.Test.YtlokmdjhpaimbaaDoorHLexAll
import Derived.Deep.DeepCutAuto
import Derived.Deep.CutBlock
namespace Go.Proofs.YtlokmdjhpaimbaaDoor.HCoreC
open Go Go.RowKit Go.Lib Go.Proofs Go.Proofs.YtlokmdjhpaimbaaDoorW.PrintWords Go.Proofs.YtlokmdjhpaimbaaDoorW.PrintLast Go.Proofs.YtlokmdjhpaimbaaDoorW.PrintMore Go.Proofs.YtlokmdjhpaimbaaDoor.Q Go.Proofs.YtlokmdjhpaimbaaDoor.HCore
set_option linter.unusedVariables false
set_option linter.unusedSimpArgs false
set_option maxRecDepth 100000 in
theorem index_each (cap : Array Value) (p : T → Bool) (l : List T) (A : Option Addr) (c : Nat) (w : World) (hc : Kd.C k24 w A l.length l) (hlc : l.length ≤ c) (hl : l.length ≤ 1000000000)
    (hq : ∀ x ∈ l, ∀ (w' : World), Below w.heap.size w w' → ∀ (A3 : Option Addr) (c3 : Nat), Kd.C k24 w' A3 x.f3.length x.f3 → x.f3.length ≤ c3 →
      Calls Tryd.prog 27 (#[.agg #[.int .i64 x.f0, .int .i64 x.f1, .string x.f2, .slice A3 x.f3.length c3]] ++ cap) w' fun e w'' => e = .returned (.bool (p x)) ∧ Below w'.heap.size w' w'') :
    Calls Tryd.prog 35 #[.slice A l.length c, .func (.func 27) #[] cap] w fun e w' => ∃ r : Int, e = .returned (.int .i64 r) ∧ decide (r ≥ 0) = l.any p ∧ Below w.heap.size w w' := by
  have HC := Lib.hid hc
  have HQ := Lib.hid hq
  clear hc hq
  go_enter Tryd.func35, Tryd.ntmps35
  go_wp2_with fail
  go_loopw [8] (fun i wr => ∃ k : Nat, k ≤ l.length ∧ i = .int .i64 k ∧ Hid ((l.take k).any p = false) ∧ Hid (Below w.heap.size w wr)) (fun i _ => l.length - (intOf i).toNat)
  case atStart => exact ⟨0, Nat.zero_le _, rfl, Lib.hid (by simp), Lib.hid (Below.refl _ _)⟩
  case round =>
    obtain ⟨k, hk, rfl, HP, HB⟩ := hrel
    by_cases hlt : k < l.length
    · obtain ⟨ad, A3, c3, rfl, x0, x1, x2, x3, hl3, hc3⟩ := at_T24 (Kd.C_below HC.out HB.out) (k : Int) (by omega) (by omega)
      simp only [Int.toNat_natCast] at x0 x1 x2 x3
      have hrk : rd_T24 l (k : Int) = l[k] := by
        unfold rd_T24
        rw [Int.toNat_natCast, List.getD_eq_getElem?_getD, List.getElem?_eq_getElem hlt]; rfl
      rw [hrk] at x0 x1 x2 x3 hl3 hc3
      generalize hx : l[k] = x at *
      have HX := Lib.hid hx; have HC3 := Lib.hid hc3
      clear hrk hx hc3
      go_wp2_with fail
      refine (HQ.out x (by rw [← HX.out]; exact List.getElem_mem hlt) _ HB.out _ _ HC3.out hl3).mono ?_
      rintro e w3 ⟨rfl, hb⟩
      have HB3 := Lib.hid (below_step HB.out hb)
      clear hb
      have htk : (l.take (k + 1)).any p = p x := by
        rw [List.take_succ_eq_append_getElem hlt, List.any_append, HP.out, HX.out]; simp
      cases hpx : p x with
      | true =>
        rw [hpx] at htk
        have HT := Lib.hid htk
        clear htk hpx
        go_wp2_with fail
        go_ret
        refine ⟨_, rfl, ?_, HB3.out⟩
        have : l.any p = true := by
          rw [← List.take_append_drop (k + 1) l, List.any_append, HT.out]; rfl
        rw [this]; simp
      | false =>
        rw [hpx] at htk
        have HT := Lib.hid htk
        clear htk hpx
        go_wp2_with fail
        exact ⟨⟨k + 1, by omega, by first | rfl | go_num, HT, HB3⟩, by simp [intOf]; omega⟩
    · have hkl : k = l.length := by omega
      subst hkl
      go_wp2_with fail
      go_ret
      refine ⟨_, rfl, ?_, HB.out⟩
      have := HP.out
      rw [List.take_length] at this
      rw [this]; simp
set_option maxRecDepth 100000 in
theorem contains_each (cap : Array Value) (p : T → Bool) (l : List T) (A : Option Addr) (c : Nat) (w : World) (hc : Kd.C k24 w A l.length l) (hlc : l.length ≤ c) (hl : l.length ≤ 1000000000)
    (hq : ∀ x ∈ l, ∀ (w' : World), Below w.heap.size w w' → ∀ (A3 : Option Addr) (c3 : Nat), Kd.C k24 w' A3 x.f3.length x.f3 → x.f3.length ≤ c3 →
      Calls Tryd.prog 27 (#[.agg #[.int .i64 x.f0, .int .i64 x.f1, .string x.f2, .slice A3 x.f3.length c3]] ++ cap) w' fun e w'' => e = .returned (.bool (p x)) ∧ Below w'.heap.size w' w'') :
    Calls Tryd.prog 26 #[.slice A l.length c, .func (.func 27) #[] cap] w fun e w' => e = .returned (.bool (l.any p)) ∧ Below w.heap.size w w' := by
  have HI := Lib.hid (index_each cap p l A c w hc hlc hl hq)
  clear hc hq
  go_enter Tryd.func26, Tryd.ntmps26
  go_wp2_with fail
  refine HI.out.mono ?_
  rintro e w3 ⟨r, rfl, hr, hb⟩
  have HR := Lib.hid hr
  have HB := Lib.hid hb
  clear hb hr
  go_wp2_with fail
  go_ret
  exact ⟨by rw [← HR.out]; rfl, HB.out⟩
set_option maxRecDepth 100000 in
theorem index_twin (cap : Array Value) (p : T → Bool) (l : List T) (A : Option Addr) (c : Nat) (w : World) (hc : Kd.C k24 w A l.length l) (hlc : l.length ≤ c) (hl : l.length ≤ 1000000000)
    (hq : ∀ x ∈ l, ∀ (w' : World), Below w.heap.size w w' → ∀ (A3 : Option Addr) (c3 : Nat), Kd.C k24 w' A3 x.f3.length x.f3 → x.f3.length ≤ c3 →
      Calls Tryd.prog 30 (#[.agg #[.int .i64 x.f0, .int .i64 x.f1, .string x.f2, .slice A3 x.f3.length c3]] ++ cap) w' fun e w'' => e = .returned (.bool (p x)) ∧ Below w'.heap.size w' w'') :
    Calls Tryd.prog 35 #[.slice A l.length c, .func (.func 30) #[] cap] w fun e w' => ∃ r : Int, e = .returned (.int .i64 r) ∧ decide (r ≥ 0) = l.any p ∧ Below w.heap.size w w' := by
  have HC := Lib.hid hc
  have HQ := Lib.hid hq
  clear hc hq
  go_enter Tryd.func35, Tryd.ntmps35
  go_wp2_with fail
  go_loopw [8] (fun i wr => ∃ k : Nat, k ≤ l.length ∧ i = .int .i64 k ∧ Hid ((l.take k).any p = false) ∧ Hid (Below w.heap.size w wr)) (fun i _ => l.length - (intOf i).toNat)
  case atStart => exact ⟨0, Nat.zero_le _, rfl, Lib.hid (by simp), Lib.hid (Below.refl _ _)⟩
  case round =>
    obtain ⟨k, hk, rfl, HP, HB⟩ := hrel
    by_cases hlt : k < l.length
    · obtain ⟨ad, A3, c3, rfl, x0, x1, x2, x3, hl3, hc3⟩ := at_T24 (Kd.C_below HC.out HB.out) (k : Int) (by omega) (by omega)
      simp only [Int.toNat_natCast] at x0 x1 x2 x3
      have hrk : rd_T24 l (k : Int) = l[k] := by
        unfold rd_T24
        rw [Int.toNat_natCast, List.getD_eq_getElem?_getD, List.getElem?_eq_getElem hlt]; rfl
      rw [hrk] at x0 x1 x2 x3 hl3 hc3
      generalize hx : l[k] = x at *
      have HX := Lib.hid hx; have HC3 := Lib.hid hc3
      clear hrk hx hc3
      go_wp2_with fail
      refine (HQ.out x (by rw [← HX.out]; exact List.getElem_mem hlt) _ HB.out _ _ HC3.out hl3).mono ?_
      rintro e w3 ⟨rfl, hb⟩
      have HB3 := Lib.hid (below_step HB.out hb)
      clear hb
      have htk : (l.take (k + 1)).any p = p x := by
        rw [List.take_succ_eq_append_getElem hlt, List.any_append, HP.out, HX.out]; simp
      cases hpx : p x with
      | true =>
        rw [hpx] at htk
        have HT := Lib.hid htk
        clear htk hpx
        go_wp2_with fail
        go_ret
        refine ⟨_, rfl, ?_, HB3.out⟩
        have : l.any p = true := by
          rw [← List.take_append_drop (k + 1) l, List.any_append, HT.out]; rfl
        rw [this]; simp
      | false =>
        rw [hpx] at htk
        have HT := Lib.hid htk
        clear htk hpx
        go_wp2_with fail
        exact ⟨⟨k + 1, by omega, by first | rfl | go_num, HT, HB3⟩, by simp [intOf]; omega⟩
    · have hkl : k = l.length := by omega
      subst hkl
      go_wp2_with fail
      go_ret
      refine ⟨_, rfl, ?_, HB.out⟩
      have := HP.out
      rw [List.take_length] at this
      rw [this]; simp
set_option maxRecDepth 100000 in
theorem contains_twin (cap : Array Value) (p : T → Bool) (l : List T) (A : Option Addr) (c : Nat) (w : World) (hc : Kd.C k24 w A l.length l) (hlc : l.length ≤ c) (hl : l.length ≤ 1000000000)
    (hq : ∀ x ∈ l, ∀ (w' : World), Below w.heap.size w w' → ∀ (A3 : Option Addr) (c3 : Nat), Kd.C k24 w' A3 x.f3.length x.f3 → x.f3.length ≤ c3 →
      Calls Tryd.prog 30 (#[.agg #[.int .i64 x.f0, .int .i64 x.f1, .string x.f2, .slice A3 x.f3.length c3]] ++ cap) w' fun e w'' => e = .returned (.bool (p x)) ∧ Below w'.heap.size w' w'') :
    Calls Tryd.prog 26 #[.slice A l.length c, .func (.func 30) #[] cap] w fun e w' => e = .returned (.bool (l.any p)) ∧ Below w.heap.size w w' := by
  have HI := Lib.hid (index_twin cap p l A c w hc hlc hl hq)
  clear hc hq
  go_enter Tryd.func26, Tryd.ntmps26
  go_wp2_with fail
  refine HI.out.mono ?_
  rintro e w3 ⟨r, rfl, hr, hb⟩
  have HR := Lib.hid hr
  have HB := Lib.hid hb
  clear hb hr
  go_wp2_with fail
  go_ret
  exact ⟨by rw [← HR.out]; rfl, HB.out⟩
end Go.Proofs.YtlokmdjhpaimbaaDoor.HCoreC
