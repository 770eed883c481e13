-- Written for this claim: several texts in one.
import Derived.Test.YtnjmilelifmfpaaGreatDoorKHeadW3
import Derived.KernelRfl
import Derived.Test.YtnjmilelifmfpaaGreatDoorKHeadW1
import Derived.Test.YtnjmilelifmfpaaGreatDoorProg
import Derived.Test.YtnjmilelifmfpaaGreatDoorKHeadW2
import Derived.Deep.DeepCutAuto
import Derived.Deep.CutBlock
import Derived.Deep.RegionWith
set_option linter.unusedSimpArgs false
set_option linter.unusedVariables false
namespace Go.Proofs.YtnjmilelifmfpaaGreatDoor.Ev
open Go Go.RowKit
open HCore (wt wts may same height heights size sizes oper bare each alts)
open Pure.R6P (hd1 hd6 may6)
set_option linter.unusedSimpArgs false
set_option linter.unusedVariables false
theorem each_drop {l : List Tm} {i : Nat} {y : Tm} (h : l[i]? = some y) (free : Int) : each (l.drop i) free = (may y free && each (l.drop (i + 1)) free) := by
 have h1 := (List.getElem?_eq_some_iff.1 h)
 rw [List.drop_eq_getElem_cons h1.1, h1.2, each]
def nameIn (l : List Tm) (y : Tm) : Bool := l.any fun b => decide (b.f2.data.toList = y.f2.data.toList)
theorem alts_drop {l : List Tm} {i : Nat} {y : Tm} (h : l[i]? = some y) (free : Int) (seen : List Tm) : alts (l.drop i) free seen = (may6 y free && !nameIn seen y && alts (l.drop (i + 1)) free (seen ++ [y])) := by
 have h1 := (List.getElem?_eq_some_iff.1 h)
 rw [List.drop_eq_getElem_cons h1.1, h1.2, Pure.R6P.alts_is]; rfl
theorem seen_next {l : List Tm} {i : Nat} {y : Tm} (h : l[i]? = some y) (h1 : 1 ≤ i) : (l.take i).drop 1 ++ [y] = (l.take (i + 1)).drop 1 := by
 have hl := (List.getElem?_eq_some_iff.1 h)
 rw [List.take_add_one, h]
 simp only [Option.toList]
 rw [List.drop_append_of_le_length (by rw [List.length_take]; have := hl.1; omega)]
theorem nameIn_drop {l : List Tm} {k i : Nat} {z y : Tm} (h : l[k]? = some z) (hk : k < i) : nameIn ((l.take i).drop k) y = (decide (z.f2.data.toList = y.f2.data.toList) || nameIn ((l.take i).drop (k + 1)) y) := by
 have hl := (List.getElem?_eq_some_iff.1 h)
 have hlen : k < (l.take i).length := by rw [List.length_take]; have := hl.1; omega
 unfold nameIn
 rw [List.drop_eq_getElem_cons hlen, List.any_cons]
 congr 2
 rw [List.getElem_take, hl.2]
def restN (x : Tm) (fr : Int) (i : Nat) : Bool := each (x.f3.drop i) fr
def rest5 (x : Tm) (fr : Int) : Nat → Bool
 | 0 => match x.f3 with | [] => true | y :: r => may y fr && alts r fr []
 | i + 1 => alts (x.f3.drop (i + 1)) fr ((x.f3.take (i + 1)).drop 1)
def mayS (x : Tm) (fr : Int) (i : Nat) : AS := ⟨tm [(7, .s (.int .i64 i)), (1, .s (.int .i64 fr)), (3, .ptr 0 0)], bm [(0, some (cX x))], bm [], 1⟩
def mayS2 (x : Tm) (fr : Int) (i k : Nat) : AS := ⟨tm [(8, .s (.int .i64 k)), (7, .s (.int .i64 i)), (1, .s (.int .i64 fr)), (3, .ptr 0 0)], bm [(0, some (cX x))], bm [], 1⟩
theorem rest5_step {x : Tm} {fr : Int} {i : Nat} {y : Tm} (hy : x.f3[i]? = some y) : rest5 x fr i = ((if decide ((i : Int) > 0) = true then may6 y fr else may y fr) && (!nameIn ((x.f3.take i).drop 1) y && rest5 x fr (i + 1))) := by
 cases i with
 | zero =>
  unfold rest5
  cases hl : x.f3 with
  | nil => rw [hl] at hy; simp at hy
  | cons u r => rw [hl] at hy; simp at hy; subst hy; simp [nameIn]
 | succ j =>
  show alts (x.f3.drop (j + 1)) fr ((x.f3.take (j + 1)).drop 1) = (_ && (_ && alts (x.f3.drop (j + 2)) fr ((x.f3.take (j + 2)).drop 1)))
  rw [alts_drop hy, seen_next hy (by omega), if_pos (by simp), Bool.and_assoc]
abbrev TMay6 (n : Nat) : Spec := fun args out => ∃ (x : Tm) (free : Int) (alt : Bool), args = [.agg (encT x), .s (.int .i64 free), .s (.bool alt)] ∧ height x < n ∧ size x ≤ 1000000000 ∧ mx x ≤ 140737488355328 ∧ 0 ≤ free ∧ free + 9 * (height x : Int) ≤ 9000000000000000000 ∧ out = .ret (.s (.bool (if alt then may6 x free else may x free)))
theorem may_of (x : Tm) (free : Int) (h : 0 ≤ free) : may x free = (hd1 x free && (if x.f0 = 5 then rest5 x free 0 else each x.f3 (if x.f0 = 2 then free + 1 else free))) := by
 obtain ⟨k, n, s, l⟩ := x
 rw [Pure.R6P.may_parts k n s l free h]; rfl
set_option maxHeartbeats 4000000 in
theorem c_may6 {J : JW} (hJ : JOk J) : ∀ n, Con Tryz.prog J 26 (TMay6 n)
 | 0 => fun args out ⟨x, _, _, _, h, _⟩ => by omega
 | n + 1 => by
  obtain ⟨code, h1, h2, h3, h4⟩ := k26
  refine conF (ins 2 (ins 4 c26)) (ok_cons (c_may6 hJ n) (ok_cons (c_head hJ) ok_nil)) hJ h1 h2 h3 h4 (by kernel_rfl) fun args out h => ?_
  obtain ⟨x, free, alt, rfl, hn, hs, hw, f0, f1, rfl⟩ := h
  refine ⟨rfl, by rw [Tryz.ntmps26]; simp, ?_⟩
  have s4 := mx_of x
  have s2 := height_of x
  have s5 := len_sizes x.f3
  have s6 := size_of x
  rw [encT_is]
  unfold c26
  simp only [ins]
  refine go ?_
  simp only [show ¬ free < 0 by omega, decide_false]
  refine go ?_
  refine call (T := THead) ⟨x, free, alt, by rw [encT_is], by omega, rfl⟩ ?_
  generalize hv : (if alt = true then hd6 x else hd1 x free) = v
  cases v with
  | false =>
   refine go ?_
   cases alt with
   | true => simp only [if_true] at hv ⊢; unfold may6; rw [hv]; rfl
   | false => simp only [Bool.false_eq_true, if_false] at hv ⊢; rw [may_of x free f0, hv]; rfl
  | true =>
  refine go ?_
  generalize hfr : (if x.f0 = 2 then free + 1 else if x.f0 = 6 then free + x.f1 else free) = fr
  have h6 : x.f0 = 6 → alt = true ∧ 0 ≤ x.f1 ∧ x.f1 ≤ 8 := fun h => by
   cases alt with
   | true => simp only [if_true, hd6, Bool.and_eq_true, decide_eq_true_eq] at hv; exact ⟨rfl, hv.1.1.2, hv.1.2⟩
   | false => simp [hd1, h] at hv
  have hfr0 : 0 ≤ fr ∧ fr ≤ free + 8 := by
   subst hfr
   split
   ·omega
   ·split
    ·have := h6 (by assumption); omega
    ·omega
  have hres : (if alt = true then may6 x free else may x free) = (if x.f0 = 5 then rest5 x fr 0 else restN x fr 0) := by
   cases alt with
   | true =>
    have h06 : x.f0 = 6 := by simp only [if_true, hd6, Bool.and_eq_true, decide_eq_true_eq] at hv; exact hv.1.1.1.1
    simp only [if_true] at hv ⊢
    subst hfr
    simp [may6, hv, h06, restN]
   | false =>
    have h06 : x.f0 ≠ 6 := fun h => by have := h6 h; simp at this
    simp only [Bool.false_eq_true, if_false] at hv ⊢
    subst hfr
    rw [may_of x free f0, hv, Bool.true_and]
    by_cases h5 : x.f0 = 5
    ·simp [h5]
    ·simp [h5, h06, restN]
  rw [hres]
  refine ⟨⟨tm [(1, .s (.int .i64 free)), (3, .ptr 0 0)], bm [(0, some (cX x))], bm [], 1⟩, lm [(0, 0)], ?_⟩
  refine seqS2 ⟨tm [(1, .s (.int .i64 fr)), (3, .ptr 0 0)], bm [(0, some (cX x))], bm [], 1⟩ ?_ (by
   refine go ?_
   refine both (fun hb => ?_) (fun hb => ?_)
   ·have hb' : x.f0 = 2 := by simpa using hb
    (try simp only [show (x.f0 == 6) = false by rw [hb']; rfl])
    (try refine go ?_)
    rw [wr (by omega) (by omega), ← hfr, if_pos hb']
    exact lm [(0, 0)]
   ·have hb' : x.f0 ≠ 2 := by simpa using hb
    refine both (fun hc => ?_) (fun hc => ?_)
    ·have hc' : x.f0 = 6 := by simpa using hc
     have := h6 hc'
     (try refine go ?_)
     rw [wr (by omega) (by omega), ← hfr, if_neg hb', if_pos hc']
     exact lm [(0, 0)]
    ·have hc' : x.f0 ≠ 6 := by simpa using hc
     (try refine go ?_)
     rw [← hfr, if_neg hb', if_neg hc']
     exact lm [(0, 0)])
  refine go ?_
  by_cases h5 : x.f0 = 5
  ·rw [if_pos h5]
   have e5 : (x.f0 == 5) = true := by simpa using h5
   refine countI x.f3.length (fun i (_ : Unit) => rest5 x fr i = rest5 x fr 0) (fun i _ => mayS x fr i) () rfl (lm [(0, 0)]) fun i _ hi hI => ?_
   unfold mayS
   refine go ?_
   by_cases q : (i : Int) < (encTs x.f3).length
   ·simp only [q, decide_true]
    obtain ⟨y, hy, hm, hl⟩ := part q
    have g1 := height_mem hm
    have g2 := mx_mem hm
    have g3 := sizes_mem hm
    rw [rest5_step hy] at hI
    simp only [eget hy, e5]
    refine go ?_
    refine call (T := TMay6 n) ⟨y, fr, decide ((i : Int) > 0), by rw [encT_is], by omega, by omega, by omega, by omega, by omega, rfl⟩ ?_
    generalize hmy : (if decide ((i : Int) > 0) = true then may6 y fr else may y fr) = v at hI
    cases v with
    | false =>
     (try rw [Bool.false_and] at hI)
     refine go ?_
     exact hI
    | true =>
     (try rw [Bool.true_and] at hI)
     refine go ?_
     refine loop (ι := { k : Nat // 1 ≤ k ∧ (k ≤ i ∨ k = 1) ∧ nameIn ((x.f3.take i).drop 1) y = nameIn ((x.f3.take i).drop k) y }) (fun k => mayS2 x fr i k.1) (fun k => i - k.1) ⟨1, by omega, .inr rfl, rfl⟩ (lm [(0, 0)]) fun ⟨k, hk, hk2, hk3⟩ => ?_
     unfold mayS2
     refine go ?_
     refine spl (by simp (config := { decide := true }) only [tm_hit, tm_miss, ne_eq, not_false_eq_true]; rfl) (fun hb => ?_) (fun hb => ?_) <;> simp only [hb]
     ·refine go ?_
      simp only [e5]
      refine go ?_
      have hki : k < i := by simpa using hb
      obtain ⟨z, hz⟩ : ∃ z, x.f3[k]? = some z := ⟨x.f3[k]'(by omega), by simp⟩
      rw [nameIn_drop hz hki] at hk3
      simp only [eget hz, eget hy]
      refine go ?_
      refine both (fun hc => ?_) (fun hc => ?_)
      ·(try refine go ?_)
       rw [← hI, hk3, hc]; simp
      ·have hc' : decide (z.f2.data.toList = y.f2.data.toList) = false := by rw [← ba_eq]; exact decide_eq_false hc
       rw [hc', Bool.false_or] at hk3
       (try refine go ?_)
       rw [nxt (by omega)]
       exact ⟨⟨k + 1, by omega, .inl (by omega), hk3⟩, lm [(0, 0)], by simp only; omega⟩
     ·have hki : ¬ k < i := by simpa using hb
      have hnil : (x.f3.take i).drop k = [] := List.drop_eq_nil_of_le (by rw [List.length_take]; omega)
      rw [hnil] at hk3
      rw [hk3, show nameIn [] y = false from rfl, Bool.not_false, Bool.true_and] at hI
      refine go ?_
      rw [nxt (by omega)]
      exact ⟨hl, (), hI, lm [(0, 0)]⟩
   ·simp only [q, decide_false]
    have := fin_at hi q
    subst this
    refine go ?_
    rw [← hI]
    cases hl0 : x.f3.length with
    | zero => have := List.eq_nil_of_length_eq_zero hl0; simp [rest5, this]
    | succ m => show true = alts (x.f3.drop (m + 1)) fr _; rw [show x.f3.drop (m + 1) = [] from List.drop_eq_nil_of_le (by omega)]; rfl
  ·rw [if_neg h5]
   have e5 : (x.f0 == 5) = false := by simpa using h5
   refine countI x.f3.length (fun i (_ : Unit) => restN x fr i = restN x fr 0) (fun i _ => mayS x fr i) () rfl (lm [(0, 0)]) fun i _ hi hI => ?_
   unfold mayS
   refine go ?_
   by_cases q : (i : Int) < (encTs x.f3).length
   ·simp only [q, decide_true]
    obtain ⟨y, hy, hm, hl⟩ := part q
    have g1 := height_mem hm
    have g2 := mx_mem hm
    have g3 := sizes_mem hm
    have hI' := hI
    unfold restN at hI'
    rw [each_drop hy] at hI'
    simp only [eget hy, e5]
    refine go ?_
    refine call (T := TMay6 n) ⟨y, fr, false, by rw [encT_is], by omega, by omega, by omega, by omega, by omega, rfl⟩ ?_
    simp only [Bool.false_eq_true, if_false]
    cases hmy : may y fr with
    | false =>
     rw [hmy, Bool.false_and] at hI'
     refine go ?_
     exact hI'
    | true =>
     rw [hmy, Bool.true_and] at hI'
     refine go ?_
     refine loop (ι := Unit) (fun _ => mayS2 x fr i 1) (fun _ => 0) () (lm [(0, 0)]) fun _ => ?_
     unfold mayS2
     refine go ?_
     refine spl (by simp (config := { decide := true }) only [tm_hit, tm_miss, ne_eq, not_false_eq_true]; rfl) (fun hb => ?_) (fun hb => ?_) <;> simp only [hb]
     ·refine go ?_
      simp only [e5]
      refine go ?_
      rw [nxt (by omega)]
      exact ⟨hl, (), hI', lm [(0, 0)]⟩
     ·refine go ?_
      rw [nxt (by omega)]
      exact ⟨hl, (), hI', lm [(0, 0)]⟩
   ·simp only [q, decide_false]
    have := fin_at hi q
    subst this
    refine go ?_
    rw [← hI]; unfold restN; rw [List.drop_length]; rfl
abbrev TRMay : Spec := fun args out => ∃ (x : Tm) (free : Int), args = [.agg (encT x), .s (.int .i64 free)] ∧ size x ≤ 1000000000 ∧ mx x ≤ 140737488355328 ∧ 0 ≤ free ∧ free + 9 * (height x : Int) ≤ 9000000000000000000 ∧ out = .ret (.s (.bool (may x free)))
theorem c_rmay {J : JW} (hJ : JOk J) : Con Tryz.prog J 17 TRMay := by
 obtain ⟨code, h1, h2, h3, h4⟩ := k17
 intro args out ho
 obtain ⟨x, free, rfl, hs, hw, f0, f1, rfl⟩ := ho
 refine con (T := fun args out => args = [.agg (encT x), .s (.int .i64 free)] ∧ out = .ret (.s (.bool (may x free)))) (ok_cons (c_may6 hJ (height x + 1)) ok_nil) hJ h1 h2 h3 h4 (fun args out h => ?_) rfl (by kernel_rfl) _ _ ⟨rfl, rfl⟩
 obtain ⟨rfl, rfl⟩ := h
 refine ⟨rfl, by rw [Tryz.ntmps17]; simp, ?_⟩
 rw [encT_is]
 unfold c17
 refine go ?_
 refine call (T := TMay6 _) ⟨x, free, false, by rw [encT_is], by omega, hs, hw, f0, f1, rfl⟩ ?_
 refine go ?_
 trivial
end Go.Proofs.YtnjmilelifmfpaaGreatDoor.Ev

namespace Go.Proofs.YtnjmilelifmfpaaGreatDoor.Ev
open Go Go.RowKit
def c21 : ACode := (.seq (.reg [b 2 (.box (T 0)), b 4 (.mv (B false))]) (.seq (.reg [b 6 (.fa 3 (T 2)), b 7 (.ld false 1 (T 6)), b 8 (.ln (T 7)), b 5 (.mv (T 8))]) (.seq (.seq (.reg [b 9 (.fa 0 (T 2)), b 10 (.ld false 1 (T 9))]) (.block 0 (.seq (.reg [b 12 (.sc (.bin .eql 3) [(T 10), (I 1)]), b 11 (.mv (T 12))]) (.cond (T 11) (.seq (.reg [b 13 (.mv (T 5)), b 14 (.sc (.bin .eql 3) [(T 13), (I 0)]), b 15 (.mv (T 14)), bg 16 15 true (.fa 2 (T 2)), bg 17 15 true (.ld false 1 (T 16)), bg 18 15 true (.sc (.bin .eql 9) [(T 17), (S [])]), b 19 (.pick (T 15) (T 18) (B false)), b 20 (.mv (T 19)), bg 21 20 true (.fa 1 (T 2)), bg 22 20 true (.ld false 1 (T 21)), bg 23 20 true (.mv (T 1)), bg 24 20 true (.sc (.bin .sub 3) [(T 23), (I 1)]), bg 25 20 true (.call 30 [(T 22), (I 0), (T 24)]), b 26 (.pick (T 20) (T 25) (B false)), b 4 (.mv (T 26))]) .ret) (.seq (.reg [b 28 (.sc (.bin .eql 3) [(T 10), (I 7)]), b 27 (.mv (T 28))]) (.cond (T 27) (.seq (.reg [b 29 (.mv (T 5)), b 30 (.sc (.bin .eql 3) [(T 29), (I 0)]), b 31 (.mv (T 30)), bg 32 31 true (.fa 2 (T 2)), bg 33 31 true (.ld false 1 (T 32)), bg 34 31 true (.sc (.bin .eql 9) [(T 33), (S [])]), b 35 (.pick (T 31) (T 34) (B false)), b 36 (.mv (T 35)), bg 37 36 true (.mv (T 1)), bg 38 36 true (.sc (.bin .geq 3) [(T 37), (I 0)]), b 39 (.pick (T 36) (T 38) (B false)), b 4 (.mv (T 39))]) .ret) (.seq (.reg [b 41 (.sc (.bin .eql 3) [(T 10), (I 9)]), b 40 (.mv (T 41))]) (.cond (T 40) (.seq (.reg [b 42 (.mv (T 5)), b 43 (.sc (.bin .eql 3) [(T 42), (I 0)]), b 44 (.mv (T 43)), bg 45 44 true (.ld true 4 (T 2)), bg 46 44 true (.call 31 [(T 45)]), b 47 (.pick (T 44) (T 46) (B false)), b 48 (.mv (T 47)), bg 49 48 true (.mv (T 1)), bg 50 48 true (.sc (.bin .geq 3) [(T 49), (I 0)]), b 51 (.pick (T 48) (T 50) (B false)), b 4 (.mv (T 51))]) .ret) (.seq (.reg [b 53 (.sc (.bin .eql 3) [(T 10), (I 2)]), b 52 (.mv (T 53))]) (.cond (T 52) (.seq (.reg [b 54 (.mv (T 5)), b 55 (.sc (.bin .eql 3) [(T 54), (I 1)]), b 56 (.mv (T 55)), bg 57 56 true (.ld true 4 (T 2)), bg 58 56 true (.call 31 [(T 57)]), b 59 (.pick (T 56) (T 58) (B false)), b 60 (.mv (T 59)), bg 61 60 true (.mv (T 1)), bg 62 60 true (.sc (.bin .geq 3) [(T 61), (I 0)]), b 63 (.pick (T 60) (T 62) (B false)), b 64 (.mv (T 63)), bg 65 64 true (.fa 3 (T 2)), bg 66 64 true (.ld false 1 (T 65)), bg 67 64 true (.mv (T 1)), bg 68 64 true (.sc (.bin .add 3) [(T 67), (I 1)]), bg 69 64 true (.call 32 [(T 66), (T 68)]), b 70 (.pick (T 64) (T 69) (B false)), b 4 (.mv (T 70))]) .ret) (.seq (.reg [b 72 (.sc (.bin .eql 3) [(T 10), (I 3)]), b 71 (.mv (T 72))]) (.cond (T 71) (.seq (.reg [b 73 (.mv (T 5)), b 74 (.sc (.bin .eql 3) [(T 73), (I 2)]), b 75 (.mv (T 74)), bg 76 75 true (.ld true 4 (T 2)), bg 77 75 true (.call 31 [(T 76)]), b 78 (.pick (T 75) (T 77) (B false)), b 79 (.mv (T 78)), bg 80 79 true (.fa 3 (T 2)), bg 81 79 true (.ld false 1 (T 80)), bg 82 79 true (.mv (T 1)), bg 83 79 true (.call 32 [(T 81), (T 82)]), b 84 (.pick (T 79) (T 83) (B false)), b 4 (.mv (T 84))]) .ret) (.seq (.reg [b 86 (.sc (.bin .eql 3) [(T 10), (I 8)]), b 85 (.mv (T 86))]) (.cond (T 85) (.seq (.reg [b 87 (.mv (T 5)), b 88 (.sc (.bin .eql 3) [(T 87), (I 2)]), b 89 (.mv (T 88)), bg 90 89 true (.fa 1 (T 2)), bg 91 89 true (.ld false 1 (T 90)), bg 92 89 true (.sc (.bin .eql 3) [(T 91), (I 0)]), b 93 (.pick (T 89) (T 92) (B false)), b 94 (.mv (T 93)), bg 95 94 true (.fa 2 (T 2)), bg 96 94 true (.ld false 1 (T 95)), bg 97 94 true (.call 33 [(T 96)]), b 98 (.pick (T 94) (T 97) (B false)), b 99 (.mv (T 98)), bg 100 99 true (.fa 3 (T 2)), bg 101 99 true (.ld false 1 (T 100)), bg 102 99 true (.mv (T 1)), bg 103 99 true (.call 32 [(T 101), (T 102)]), b 104 (.pick (T 99) (T 103) (B false)), b 4 (.mv (T 104))]) .ret) (.seq (.reg [b 106 (.sc (.bin .eql 3) [(T 10), (I 4)]), b 105 (.mv (T 106))]) (.cond (T 105) (.seq (.reg [b 107 (.mv (T 5)), b 108 (.sc (.bin .leq 3) [(T 107), (I 8)]), b 109 (.mv (T 108)), bg 110 109 true (.fa 1 (T 2)), bg 111 109 true (.ld false 1 (T 110)), bg 112 109 true (.sc (.bin .eql 3) [(T 111), (I 0)]), b 113 (.pick (T 109) (T 112) (B false)), b 114 (.mv (T 113)), bg 115 114 true (.fa 2 (T 2)), bg 116 114 true (.ld false 1 (T 115)), bg 117 114 true (.call 34 [(T 116)]), b 118 (.pick (T 114) (T 117) (B false)), b 119 (.mv (T 118)), bg 120 119 true (.mv (T 1)), bg 121 119 true (.sc (.bin .geq 3) [(T 120), (I 0)]), b 122 (.pick (T 119) (T 121) (B false)), b 123 (.mv (T 122)), bg 124 123 true (.fa 3 (T 2)), bg 125 123 true (.ld false 1 (T 124)), bg 126 123 true (.mv (T 1)), bg 127 123 true (.call 32 [(T 125), (T 126)]), b 128 (.pick (T 123) (T 127) (B false)), b 4 (.mv (T 128))]) .ret) (.seq (.reg [b 130 (.sc (.bin .eql 3) [(T 10), (I 5)]), b 129 (.mv (T 130))]) (.cond (T 129) (.seq (.reg [b 131 (.mv (T 5)), b 132 (.sc (.bin .geq 3) [(T 131), (I 2)]), b 133 (.mv (T 132)), bg 134 133 true (.ld true 4 (T 2)), bg 135 133 true (.call 31 [(T 134)]), b 136 (.pick (T 133) (T 135) (B false)), b 137 (.mv (T 136)), bg 138 137 true (.fa 3 (T 2)), bg 139 137 true (.ld false 1 (T 138)), bg 140 137 true (.ia 4 (T 139) (I 0)), bg 141 137 true (.ld true 4 (T 140)), bg 142 137 true (.mv (T 1)), bg 143 137 true (.call 21 [(T 141), (T 142)]), b 144 (.pick (T 137) (T 143) (B false)), b 145 (.mv (T 144)), bg 146 145 true (.fa 3 (T 2)), bg 147 145 true (.ld false 1 (T 146)), bg 148 145 true (.rs 4 (T 147) (some (I 1)) none), bg 149 145 true (.mv (T 1)), bg 150 145 true (.call 35 [(T 148), (T 149)]), b 151 (.pick (T 145) (T 150) (B false)), b 4 (.mv (T 151))]) .ret) .skip)))))))))))))))))) (.seq (.reg [b 4 (.mv (B false))]) .ret))))
theorem k21 : ∃ code, Tryz.prog.funcs[21]? = some Tryz.f21 ∧ Tryz.f21.body = some code ∧ comp Tryz.prog Tryz.f21.ntmps code = some c21 ∧ rvs Tryz.prog Tryz.f21.results.toList = some [(.t 4)] := ⟨_, Tryz.func21, rfl, by kernel_rfl, by kernel_rfl⟩
def c30 : ACode := (.seq (.reg [b 6 (.mv (B false))]) (.seq (.reg [b 7 (.mv (T 0)), b 8 (.mv (T 1)), b 9 (.sc (.bin .geq 3) [(T 7), (T 8)]), b 10 (.mv (T 9)), bg 11 10 true (.mv (T 0)), bg 12 10 true (.mv (T 2)), bg 13 10 true (.sc (.bin .leq 3) [(T 11), (T 12)]), b 14 (.pick (T 10) (T 13) (B false)), b 6 (.mv (T 14))]) .ret))
theorem k30 : ∃ code, Tryz.prog.funcs[30]? = some Tryz.f30 ∧ Tryz.f30.body = some code ∧ comp Tryz.prog Tryz.f30.ntmps code = some c30 ∧ rvs Tryz.prog Tryz.f30.results.toList = some [(.t 6)] := ⟨_, Tryz.func30, rfl, by kernel_rfl, by kernel_rfl⟩
def c31 : ACode := (.seq (.reg [b 1 (.box (T 0)), b 2 (.mv (B false))]) (.seq (.reg [b 3 (.fa 2 (T 1)), b 4 (.ld false 1 (T 3)), b 5 (.sc (.bin .eql 9) [(T 4), (S [])]), b 6 (.mv (T 5)), bg 7 6 true (.fa 1 (T 1)), bg 8 6 true (.ld false 1 (T 7)), bg 9 6 true (.sc (.bin .eql 3) [(T 8), (I 0)]), b 10 (.pick (T 6) (T 9) (B false)), b 2 (.mv (T 10))]) .ret))
theorem k31 : ∃ code, Tryz.prog.funcs[31]? = some Tryz.f31 ∧ Tryz.f31.body = some code ∧ comp Tryz.prog Tryz.f31.ntmps code = some c31 ∧ rvs Tryz.prog Tryz.f31.results.toList = some [(.t 2)] := ⟨_, Tryz.func31, rfl, by kernel_rfl, by kernel_rfl⟩
def c32 : ACode := (.seq (.reg [b 3 (.box (T 1)), b 4 (.mv (B false))]) (.seq (.reg [b 5 (.mv (T 0)), b 6 (.clo 52 [] [(T 3)]), b 7 (.callh (.func 51) [(T 5), (T 6)]), b 8 (.sc (.un .not) [(T 7)]), b 4 (.mv (T 8))]) .ret))
theorem k32 : ∃ code, Tryz.prog.funcs[32]? = some Tryz.f32 ∧ Tryz.f32.body = some code ∧ comp Tryz.prog Tryz.f32.ntmps code = some c32 ∧ rvs Tryz.prog Tryz.f32.results.toList = some [(.t 4)] := ⟨_, Tryz.func32, rfl, by kernel_rfl, by kernel_rfl⟩
def c35 : ACode := (.seq (.reg [b 4 (.mv (B false))]) (.seq (.seq (.reg [b 8 (.mv (T 0)), b 9 (.ln (T 8)), b 10 (.mv (I 0))]) (.block 0 (.loop (.seq (.reg [b 11 (.sc (.bin .lss 3) [(T 10), (T 9)])]) (.seq (.cond (T 11) .skip (.exit 0)) (.seq (.block 1 (.seq (.reg [b 12 (.mv (T 10)), b 13 (.ia 4 (T 8) (T 10)), b 14 (.ld true 4 (T 13)), b 6 (.alloc [(.int .i64 0), (.int .i64 0), (.string ⟨#[]⟩), (.slice none 0 0)]), b 5 (.mv (T 12)), b0 (.st 4 (T 6) (T 14))]) (.seq (.reg [b 15 (.clo 55 [] [(T 6)]), b 7 (.mv (T 15))]) (.seq (.reg [b 16 (.fa 0 (T 6)), b 17 (.ld false 1 (T 16)), b 18 (.sc (.bin .neq 3) [(T 17), (I 6)]), b 19 (.mv (T 18)), bg 20 19 false (.fa 2 (T 6)), bg 21 19 false (.ld false 1 (T 20)), bg 22 19 false (.call 34 [(T 21)]), bg 23 19 false (.sc (.un .not) [(T 22)]), b 24 (.pick (T 19) (B true) (T 23)), b 25 (.mv (T 24)), bg 26 25 false (.fa 1 (T 6)), bg 27 25 false (.ld false 1 (T 26)), bg 28 25 false (.call 30 [(T 27), (I 0), (I 8)]), bg 29 25 false (.sc (.un .not) [(T 28)]), b 30 (.pick (T 25) (B true) (T 29)), b 31 (.mv (T 30)), bg 32 31 false (.fa 3 (T 6)), bg 33 31 false (.ld false 1 (T 32)), bg 34 31 false (.ln (T 33)), bg 35 31 false (.sc (.bin .neq 3) [(T 34), (I 1)]), b 36 (.pick (T 31) (B true) (T 35)), b 37 (.mv (T 36)), ag 38 37 false (.fa 3 (T 6)), ag 39 37 false (.ld false 1 (T 38)), ag 40 37 false (.ia 4 (T 39) (I 0)), ag 41 37 false (.ld true 4 (T 40)), ag 42 37 false (.mv (T 1)), bg 43 37 false (.fa 1 (T 6)), bg 44 37 false (.ld false 1 (T 43)), bg 45 37 false (.sc (.bin .add 3) [(T 42), (T 44)]), bg 46 37 false (.call 21 [(T 41), (T 45)]), bg 47 37 false (.sc (.un .not) [(T 46)]), b 48 (.pick (T 37) (B true) (T 47)), b 49 (.mv (T 48)), ag 50 49 false (.mv (T 0)), ag 51 49 false (.mv (T 5)), ag 52 49 false (.rs 4 (T 50) none (some (T 51))), bg 53 49 false (.mv (T 7)), bg 54 49 false (.callh (.func 51) [(T 52), (T 53)]), b 55 (.pick (T 49) (B true) (T 54))]) (.cond (T 55) (.seq (.reg [b 4 (.mv (B false))]) .ret) .skip))))) (.reg [b 56 (.sc (.bin .add 3) [(T 10), (I 1)]), b 10 (.mv (T 56))]))))))) (.seq (.reg [b 57 (.mv (T 0)), b 58 (.ln (T 57)), b 59 (.call 30 [(T 58), (I 1), (I 8)]), b 4 (.mv (T 59))]) .ret)))
theorem k35 : ∃ code, Tryz.prog.funcs[35]? = some Tryz.f35 ∧ Tryz.f35.body = some code ∧ comp Tryz.prog Tryz.f35.ntmps code = some c35 ∧ rvs Tryz.prog Tryz.f35.results.toList = some [(.t 4)] := ⟨_, Tryz.func35, rfl, by kernel_rfl, by kernel_rfl⟩
def c51 : ACode := (.seq (.reg [b 4 (.mv (B false))]) (.seq (.reg [b 5 (.mv (T 0)), b 6 (.mv (T 1)), b 7 (.callh (.func 59) [(T 5), (T 6)]), b 8 (.sc (.bin .geq 3) [(T 7), (I 0)]), b 4 (.mv (T 8))]) .ret))
theorem k51 : ∃ code, Tryz.prog.funcs[51]? = some Tryz.f51 ∧ Tryz.f51.body = some code ∧ comp Tryz.prog Tryz.f51.ntmps code = some c51 ∧ rvs Tryz.prog Tryz.f51.results.toList = some [(.t 4)] := ⟨_, Tryz.func51, rfl, by kernel_rfl, by kernel_rfl⟩
def c52 : ACode := (.seq (.reg [b 2 (.box (T 0)), b 3 (.mv (B false))]) (.seq (.reg [b 4 (.ld true 4 (T 2)), b 5 (.ld false 1 (T 1)), b 6 (.call 21 [(T 4), (T 5)]), b 7 (.sc (.un .not) [(T 6)]), b 3 (.mv (T 7))]) .ret))
theorem k52 : ∃ code, Tryz.prog.funcs[52]? = some Tryz.f52 ∧ Tryz.f52.body = some code ∧ comp Tryz.prog Tryz.f52.ntmps code = some c52 ∧ rvs Tryz.prog Tryz.f52.results.toList = some [(.t 3)] := ⟨_, Tryz.func52, rfl, by kernel_rfl, by kernel_rfl⟩
def c55 : ACode := (.seq (.reg [b 2 (.box (T 0)), b 3 (.mv (B false))]) (.seq (.reg [b 4 (.fa 2 (T 2)), b 5 (.ld false 1 (T 4)), b 6 (.fa 2 (T 1)), b 7 (.ld false 1 (T 6)), b 8 (.sc (.bin .eql 9) [(T 5), (T 7)]), b 3 (.mv (T 8))]) .ret))
theorem k55 : ∃ code, Tryz.prog.funcs[55]? = some Tryz.f55 ∧ Tryz.f55.body = some code ∧ comp Tryz.prog Tryz.f55.ntmps code = some c55 ∧ rvs Tryz.prog Tryz.f55.results.toList = some [(.t 3)] := ⟨_, Tryz.func55, rfl, by kernel_rfl, by kernel_rfl⟩
def c59 : ACode := (.seq (.reg [b 4 (.mv (I 0))]) (.seq (.seq (.reg [b 6 (.mv (T 0)), b 7 (.ln (T 6)), b 8 (.mv (I 0))]) (.block 0 (.loop (.seq (.reg [b 9 (.sc (.bin .lss 3) [(T 8), (T 7)])]) (.seq (.cond (T 9) .skip (.exit 0)) (.seq (.block 1 (.seq (.reg [b 10 (.mv (T 8)), b 5 (.mv (T 10))]) (.seq (.reg [b 11 (.mv (T 1)), b 12 (.mv (T 0)), b 13 (.mv (T 5)), b 14 (.ia 4 (T 12) (T 13)), b 15 (.ld true 4 (T 14)), b 16 (.callh (T 11) [(T 15)])]) (.cond (T 16) (.seq (.reg [b 17 (.mv (T 5)), b 4 (.mv (T 17))]) .ret) .skip)))) (.reg [b 18 (.sc (.bin .add 3) [(T 8), (I 1)]), b 8 (.mv (T 18))]))))))) (.seq (.reg [b 4 (.mv (I (-1)))]) .ret)))
theorem k59 : ∃ code, Tryz.prog.funcs[59]? = some Tryz.f59 ∧ Tryz.f59.body = some code ∧ comp Tryz.prog Tryz.f59.ntmps code = some c59 ∧ rvs Tryz.prog Tryz.f59.results.toList = some [(.t 4)] := ⟨_, Tryz.func59, rfl, by kernel_rfl, by kernel_rfl⟩
end Go.Proofs.YtnjmilelifmfpaaGreatDoor.Ev

namespace Go.Proofs.YtnjmilelifmfpaaGreatDoor.Q
open Go.RowKit Go.Proofs.YtnjmilelifmfpaaGreatDoorW.PrintWords Go.Proofs.YtnjmilelifmfpaaGreatDoorW.PrintLast Go.Proofs.YtnjmilelifmfpaaGreatDoorW.PrintMore
attribute [local go_sem] max2_int min2_int max_two min_two max_three min_three max_four min_four
set_option linter.unusedVariables false
set_option linter.unusedSimpArgs false

def slices_Index_string_string.l0 : Nat → List ByteArray → ByteArray → Int → Int → Option (Int)
 | 0, _, _, _, _ => none
 | k + 1, x0, x1, x7, x8 => if x8 < x7 then (if 0 ≤ x8 then (if x8 < (x0.length : Int) then (if x1.toList = (rdOf ByteArray.empty x0 x8).toList then (some x8) else (slices_Index_string_string.l0 k x0 x1 x7 (wrap64 (x8 + 1)))) else (none)) else (none)) else (some (-1))
def slices_Index_string_string.f (k : Nat) (l0 : List ByteArray) (a1 : ByteArray) : Option (Int) := slices_Index_string_string.l0 k l0 a1 (l0.length : Int) 0
theorem slices_Index_string_string.mono_l : ∀ k, (∀ y0 y1 y2 y3, LeO (slices_Index_string_string.l0 k y0 y1 y2 y3) (slices_Index_string_string.l0 (k + 1) y0 y1 y2 y3))
 | 0 => fun _ _ _ _ r h => by simp [slices_Index_string_string.l0] at h
 | k + 1 => by
  have ih0 := slices_Index_string_string.mono_l k
  ·intro y0 y1 y2 y3
   unfold slices_Index_string_string.l0
   repeat' first
   | (with_reducible exact ih0 _ _ _ _)
   | (with_reducible exact LeO.refl _)
   | (with_reducible exact LeO.none _)
   | (with_reducible refine LeO.ite ?_ ?_)
   | (with_reducible refine LeO.bind ?_ (fun _ => ?_))
   | exact ih0 _ _ _ _
   | exact LeO.none _
   | refine LeO.ite ?_ ?_
   | refine LeO.bind ?_ (fun _ => ?_)
theorem slices_Index_string_string.mono : ∀ a0 a1 k, LeO (slices_Index_string_string.f k a0 a1) (slices_Index_string_string.f (k + 1) a0 a1) := by
 intro a0 a1 k
 have ih0 := slices_Index_string_string.mono_l k
 unfold slices_Index_string_string.f
 repeat' first
   | (with_reducible exact ih0 _ _ _ _)
   | (with_reducible exact LeO.refl _)
   | (with_reducible exact LeO.none _)
   | (with_reducible refine LeO.ite ?_ ?_)
   | (with_reducible refine LeO.bind ?_ (fun _ => ?_))
   | exact ih0 _ _ _ _
   | exact LeO.none _
   | refine LeO.ite ?_ ?_
   | refine LeO.bind ?_ (fun _ => ?_)
set_option maxHeartbeats 8000000 in
set_option maxRecDepth 100000 in
theorem slices_Index_string_string.calls (k : Nat) (A0 : Option Addr) (c0 : Nat) (l0 : List ByteArray) (a1 : ByteArray) (r : Int) (w : World) (hr0 : Kd.C Kd.string w A0 l0.length l0) (hc0 : l0.length ≤ c0) (h : slices_Index_string_string.f k l0 a1 = some r) :
  Calls Tryz.prog 82 #[.slice A0 l0.length c0, .string a1] w fun e w' => e = .returned (.int .i64 r) ∧ Drawn0 w w' := by
 have HR0 := Aside0.mk hr0
 have HC0 := Aside0.mk hc0
 clear hr0 hc0
 have H : (slices_Index_string_string.l0 k l0 a1 (l0.length : Int) 0) = some r := h
 clear h
 have H' := Aside0.mk H
 clear H
 go_enter Tryz.func82, Tryz.ntmps82
 go_wp2
 go_loopg [8] k (fun kq v8 w' => ∃ (x8_1 : Int), v8 = .int .i64 x8_1 ∧ Aside0 (slices_Index_string_string.l0 kq l0 a1 (l0.length : Int) x8_1 = some r) ∧ Aside0 (kq ≤ k) ∧ Drawn0 w w')
 case atStart => exact ⟨(0), (by first|rfl|(simp; done)|(simp [*]; done)), H', ⟨Nat.le_refl _⟩, by repeat (first|exact Drawn0.refl _|apply Drawn0.step)⟩
 case round =>
  clear H'
  try clear p2
  obtain ⟨x8_1, rfl, HA, HK1, ⟨m1, rfl⟩⟩ := hrel
  cases gk with
  | zero => exact absurd HA.out (by simp [slices_Index_string_string.l0])
  | succ k1 =>
   have H := HA.out
   clear HA
   simp only [slices_Index_string_string.l0] at H
   by_cases c3 : x8_1 < (l0.length : Int)
   ·rw [if_pos c3] at H
    have c3b0 : decide (x8_1 < (l0.length : Int)) = true := decide_eq_true c3
    clear c3
    by_cases c4 : 0 ≤ x8_1
    ·rw [if_pos c4] at H
     have c4b0 : decide (0 ≤ x8_1) = true := decide_eq_true c4
     clear c4
     by_cases c5 : x8_1 < (l0.length : Int)
     ·rw [if_pos c5] at H
      have c5b0 : decide (x8_1 < (l0.length : Int)) = true := decide_eq_true c5
      clear c5
      by_cases c6 : a1.toList = (rdOf ByteArray.empty l0 x8_1).toList
      ·rw [if_pos c6] at H
       have c6b0 : (a1.toList == (rdOf ByteArray.empty l0 x8_1).toList) = true := beq_iff_eq.mpr c6
       have c6b1 : (a1.toList != (rdOf ByteArray.empty l0 x8_1).toList) = false := bne_eq_false_iff_eq.mpr c6
       clear c6
       obtain rfl := Option.some.inj H
       have p110 : 0 ≤ (x8_1 : Int) := of_decide_eq_true (by first|(with_reducible assumption) | assumption)
       have q110 : x8_1 < (l0.length : Int) := of_decide_eq_true (by first|(with_reducible assumption) | assumption)
       obtain ⟨ad110, e110, hx110_0⟩ := Kd.at_string HR0.out x8_1 p110 q110
       cases e110
       replace p110 := eq_true p110
       replace q110 := eq_true q110
       go_wp2
       go_ret
       exact ⟨by first|rfl|(simp; done)|(simp [*]; done), by repeat (first|exact Drawn0.refl _|apply Drawn0.step)⟩
      ·rw [if_neg c6] at H
       have c6b0 : (a1.toList == (rdOf ByteArray.empty l0 x8_1).toList) = false := beq_eq_false_iff_ne.mpr c6
       have c6b1 : (a1.toList != (rdOf ByteArray.empty l0 x8_1).toList) = true := bne_iff_ne.mpr c6
       have H' := Aside0.mk H
       clear H
       have p110 : 0 ≤ (x8_1 : Int) := of_decide_eq_true (by first|(with_reducible assumption) | assumption)
       have q110 : x8_1 < (l0.length : Int) := of_decide_eq_true (by first|(with_reducible assumption) | assumption)
       obtain ⟨ad110, e110, hx110_0⟩ := Kd.at_string HR0.out x8_1 p110 q110
       cases e110
       replace p110 := eq_true p110
       replace q110 := eq_true q110
       go_wp2
       go_roundg k1
       case measure => have := HK1.out; omega
       case rel => exact ⟨(wrap64 (x8_1 + 1)), (by first|rfl|(simp; done)|(simp [*]; done)), H', ⟨by have := HK1.out; omega⟩, by repeat (first|exact Drawn0.refl _|apply Drawn0.step)⟩
     ·rw [if_neg c5] at H
      exact absurd H (by simp)
    ·rw [if_neg c4] at H
     exact absurd H (by simp)
   ·rw [if_neg c3] at H
    have c3b0 : decide (x8_1 < (l0.length : Int)) = false := decide_eq_false c3
    clear c3
    obtain rfl := Option.some.inj H
    go_wp2
    go_ret
    exact ⟨by first|rfl|(simp; done)|(simp [*]; done), by repeat (first|exact Drawn0.refl _|apply Drawn0.step)⟩

end Go.Proofs.YtnjmilelifmfpaaGreatDoor.Q

namespace Go.Proofs.YtnjmilelifmfpaaGreatDoor.Q
open Go.RowKit Go.Proofs.YtnjmilelifmfpaaGreatDoorW.PrintWords Go.Proofs.YtnjmilelifmfpaaGreatDoorW.PrintLast Go.Proofs.YtnjmilelifmfpaaGreatDoorW.PrintMore
attribute [local go_sem] max2_int min2_int max_two min_two max_three min_three max_four min_four
set_option linter.unusedVariables false
set_option linter.unusedSimpArgs false

def slices_Contains_string_string.f (k : Nat) (l0 : List ByteArray) (a1 : ByteArray) : Option (Bool) := (slices_Index_string_string.f k l0 a1).bind fun t111 => (some (decide (t111 ≥ 0)))
theorem slices_Contains_string_string.mono : ∀ a0 a1 k, LeO (slices_Contains_string_string.f k a0 a1) (slices_Contains_string_string.f (k + 1) a0 a1) := by
 intro a0 a1 k
 unfold slices_Contains_string_string.f
 repeat' first
   | (with_reducible exact slices_Index_string_string.mono _ _ _)
   | (with_reducible exact LeO.refl _)
   | (with_reducible exact LeO.none _)
   | (with_reducible refine LeO.ite ?_ ?_)
   | (with_reducible refine LeO.bind ?_ (fun _ => ?_))
   | exact slices_Index_string_string.mono _ _ _
   | exact LeO.none _
   | refine LeO.ite ?_ ?_
   | refine LeO.bind ?_ (fun _ => ?_)
set_option maxHeartbeats 8000000 in
set_option maxRecDepth 100000 in
theorem slices_Contains_string_string.calls (k : Nat) (A0 : Option Addr) (c0 : Nat) (l0 : List ByteArray) (a1 : ByteArray) (r : Bool) (w : World) (hr0 : Kd.C Kd.string w A0 l0.length l0) (hc0 : l0.length ≤ c0) (h : slices_Contains_string_string.f k l0 a1 = some r) :
  Calls Tryz.prog 53 #[.slice A0 l0.length c0, .string a1] w fun e w' => e = .returned (.bool r) ∧ Drawn0 w w' := by
 have HR0 := Aside0.mk hr0
 have HC0 := Aside0.mk hc0
 clear hr0 hc0
 have H : ((slices_Index_string_string.f k l0 a1).bind fun t111 => (some (decide (t111 ≥ 0)))) = some r := h
 clear h
 replace H := Option.bind_eq_some_iff.mp H
 obtain ⟨t111, A30, H⟩ := H
 replace H : (some (decide (t111 ≥ 0))) = some r := H
 have A3 := Aside0.mk A30
 clear A30
 obtain rfl := Option.some.inj H
 go_enter Tryz.func53, Tryz.ntmps53
 go_wp2_with (first|((with_reducible refine gate_callee (f := 82) rfl ?_); refine goesL_ (some 7) rfl rfl Tryz.func82 (by kernel_rfl) rfl #[.slice A0 l0.length c0, .string a1] rfl (by (try simp only [List.map_toArray, List.map_cons, List.map_nil]); first|done|rfl|(simp only [List.length_drop, List.length_take]; rfl)) ?_; (with_reducible refine (slices_Index_string_string.calls k _ _ l0 a1 t111 _ ?side1 ?side2 A3.out).mono ?_); (case side1 => repeat (first|exact HR0.out|(with_reducible refine Kd.C_alloc ?_ _)|(with_reducible refine Kd.C_drewN ?_ _)|(with_reducible refine Kd.C_drew ?_))); (case side2 => exact HC0.out); rintro e w' ⟨rfl, ⟨nd, rfl⟩⟩; refine ⟨_, rfl, ?_⟩))
 go_ret
 exact ⟨by first|rfl|(simp; done)|(simp [*]; done), by repeat (first|exact Drawn0.refl _|apply Drawn0.step)⟩

end Go.Proofs.YtnjmilelifmfpaaGreatDoor.Q

namespace Go.Proofs.YtnjmilelifmfpaaGreatDoor.Q
open Go.RowKit Go.Proofs.YtnjmilelifmfpaaGreatDoorW.PrintWords Go.Proofs.YtnjmilelifmfpaaGreatDoorW.PrintLast Go.Proofs.YtnjmilelifmfpaaGreatDoorW.PrintMore
attribute [local go_sem] max2_int min2_int max_two min_two max_three min_three max_four min_four
set_option linter.unusedVariables false
set_option linter.unusedSimpArgs false

def core_operator.f (k : Nat) (a0 : ByteArray) : Option (Bool) := (slices_Contains_string_string.f k (([(⟨#[43]⟩ : ByteArray), (⟨#[45]⟩ : ByteArray), (⟨#[42]⟩ : ByteArray), (⟨#[47]⟩ : ByteArray), (⟨#[60]⟩ : ByteArray), (⟨#[61, 61]⟩ : ByteArray)] : List ByteArray)) a0).bind fun t115 => (some t115)
theorem core_operator.mono : ∀ a0 k, LeO (core_operator.f k a0) (core_operator.f (k + 1) a0) := by
 intro a0 k
 unfold core_operator.f
 repeat' first
   | (with_reducible exact slices_Contains_string_string.mono _ _ _)
   | (with_reducible exact LeO.refl _)
   | (with_reducible exact LeO.none _)
   | (with_reducible refine LeO.ite ?_ ?_)
   | (with_reducible refine LeO.bind ?_ (fun _ => ?_))
   | exact slices_Contains_string_string.mono _ _ _
   | exact LeO.none _
   | refine LeO.ite ?_ ?_
   | refine LeO.bind ?_ (fun _ => ?_)
set_option maxHeartbeats 8000000 in
set_option maxRecDepth 100000 in
theorem core_operator.calls (k : Nat) (a0 : ByteArray) (r : Bool) (w : World) (h : core_operator.f k a0 = some r) :
  Calls Tryz.prog 33 #[.string a0] w fun e w' => e = .returned (.bool r) ∧ Below w.heap.size w w' := by
 have HB := Aside0.mk (Below.refl w.heap.size w)
 have H : ((slices_Contains_string_string.f k (([(⟨#[43]⟩ : ByteArray), (⟨#[45]⟩ : ByteArray), (⟨#[42]⟩ : ByteArray), (⟨#[47]⟩ : ByteArray), (⟨#[60]⟩ : ByteArray), (⟨#[61, 61]⟩ : ByteArray)] : List ByteArray)) a0).bind fun t115 => (some t115)) = some r := h
 clear h
 obtain ⟨y112, hy112⟩ : ∃ y_ : List ByteArray, y_ = (([(⟨#[43]⟩ : ByteArray), (⟨#[45]⟩ : ByteArray), (⟨#[42]⟩ : ByteArray), (⟨#[47]⟩ : ByteArray), (⟨#[60]⟩ : ByteArray), (⟨#[61, 61]⟩ : ByteArray)] : List ByteArray)) := ⟨_, rfl⟩
 replace H : ((slices_Contains_string_string.f k y112 a0).bind fun t115 => (some t115)) = some r := by first | (rw [hy112]; with_reducible exact H) | (have H2_ := (Option.bind_some _ _).symm.trans H; rw [hy112]; with_reducible exact H2_) | (have H2_ := (Option.bind_some _ _).symm.trans H; with_reducible exact H2_) | with_reducible exact H | (rw [hy112]; exact H)|exact H
 have Ny112 := Aside0.mk hy112
 clear hy112
 replace H := Option.bind_eq_some_iff.mp H
 obtain ⟨t115, A20, H⟩ := H
 replace H : (some t115) = some r := H
 have A2 := Aside0.mk A20
 clear A20
 obtain rfl := Option.some.inj H
 go_enter Tryz.func33, Tryz.ntmps33
 go_wp2_with (first|((with_reducible refine gate_dst (N := 3) rfl ?_); refine Kd.R_lit Kd.string _ 9 ?hg (N := 3) ?hd (xs := ([(⟨#[43]⟩ : ByteArray), (⟨#[45]⟩ : ByteArray), (⟨#[42]⟩ : ByteArray), (⟨#[47]⟩ : ByteArray), (⟨#[60]⟩ : ByteArray), (⟨#[61, 61]⟩ : ByteArray)] : List ByteArray)) (inner := [.string (⟨#[43]⟩ : ByteArray), .string (⟨#[45]⟩ : ByteArray), .string (⟨#[42]⟩ : ByteArray), .string (⟨#[47]⟩ : ByteArray), .string (⟨#[60]⟩ : ByteArray), .string (⟨#[61, 61]⟩ : ByteArray)]) (ok := fun _ => True) (okp := fun _ => True) ?hr ?hp (fun _ hk => hk) trivial (Below.refl _ _) (Nat.le_refl _) (by simp) ?_; (case hd => rfl); (case hg => rfl); (case hr => first|(go_simp; done)|(go_simp; rfl)); (case hp => exact (Reps.one (show Kd.M Kd.string _ _ _ (⟨#[43]⟩ : ByteArray) [.string (⟨#[43]⟩ : ByteArray)] from rfl) (Reps.one (show Kd.M Kd.string _ _ _ (⟨#[45]⟩ : ByteArray) [.string (⟨#[45]⟩ : ByteArray)] from rfl) (Reps.one (show Kd.M Kd.string _ _ _ (⟨#[42]⟩ : ByteArray) [.string (⟨#[42]⟩ : ByteArray)] from rfl) (Reps.one (show Kd.M Kd.string _ _ _ (⟨#[47]⟩ : ByteArray) [.string (⟨#[47]⟩ : ByteArray)] from rfl) (Reps.one (show Kd.M Kd.string _ _ _ (⟨#[60]⟩ : ByteArray) [.string (⟨#[60]⟩ : ByteArray)] from rfl) (Reps.one (show Kd.M Kd.string _ _ _ (⟨#[61, 61]⟩ : ByteArray) [.string (⟨#[61, 61]⟩ : ByteArray)] from rfl) (Reps.none _ _)))))))); intro v113 w3 ho4 hb hg_ hnew_; clear hg_ hnew_; (first|rw [← Ny112.out] at ho4|(simp only [Int.reduceToNat] at ho4; rw [← Ny112.out] at ho4)); have n0_ := Aside0.mk (Kd.R_lower ho4 (below_size (by repeat (first|(with_reducible first|exact HB.out|apply below_alloc|apply pw_below_drewN|apply below_drew1)|exact HB.out)))); have n1_ := Aside0.mk (below_step (by repeat (first|(with_reducible first|exact HB.out|apply below_alloc|apply pw_below_drewN|apply below_drew1)|exact HB.out)) hb); clear HB; have HO114 := n0_; have HB := n1_; clear n0_ n1_; clear hb ho4; obtain ⟨Ao5, co5, eo5⟩ := Kd.R_slice HO114.out; subst eo5) | ((with_reducible refine gate_callee (f := 53) rfl ?_); refine goesL_ (some 5) rfl rfl Tryz.func53 (by kernel_rfl) rfl #[.slice Ao5 y112.length co5, .string a0] rfl (by (try simp only [List.map_toArray, List.map_cons, List.map_nil]); first|done|rfl|(simp only [List.length_drop, List.length_take]; rfl)) ?_; (with_reducible refine (slices_Contains_string_string.calls k _ _ y112 a0 t115 _ ?side1 ?side2 A2.out).mono ?_); (case side1 => repeat (first|exact (Kd.R_reads' HO114.out).2.2|(with_reducible refine Kd.C_alloc ?_ _)|(with_reducible refine Kd.C_drewN ?_ _)|(with_reducible refine Kd.C_drew ?_))); (case side2 => exact (Kd.R_reads' HO114.out).2.1); rintro e w' ⟨rfl, ⟨nd, rfl⟩⟩; refine ⟨_, rfl, ?_⟩))
 go_ret
 exact ⟨by first|rfl|(simp [errW_none, errW_some] <;> rfl)|(simp [*, errW_none, errW_some] <;> rfl), by repeat (first|(with_reducible first|exact HB.out|apply below_alloc|apply pw_below_drewN|apply below_drew1)|exact HB.out)⟩

end Go.Proofs.YtnjmilelifmfpaaGreatDoor.Q

namespace Go.Proofs.YtnjmilelifmfpaaGreatDoor.Q
open Go.RowKit Go.Proofs.YtnjmilelifmfpaaGreatDoorW.PrintWords Go.Proofs.YtnjmilelifmfpaaGreatDoorW.PrintLast Go.Proofs.YtnjmilelifmfpaaGreatDoorW.PrintMore
attribute [local go_sem] max2_int min2_int max_two min_two max_three min_three max_four min_four
set_option linter.unusedVariables false
set_option linter.unusedSimpArgs false

def core_con.f (a0 : ByteArray) : Option (Bool) := (lex_All.f a0).bind fun bt116 => (if (bt116.1.length : Int) = 1 then (if 0 < (bt116.1.length : Int) then (if ((rd_T63 bt116.1 0).f0) = 2 then (some (((rd_T63 bt116.1 0).f1).toList == a0.toList)) else (some false)) else (none)) else (some false))
set_option maxHeartbeats 8000000 in
set_option maxRecDepth 100000 in
theorem core_con.calls (a0 : ByteArray) (r : Bool) (w : World) (h : core_con.f a0 = some r) :
  Calls Tryz.prog 34 #[.string a0] w fun e w' => e = .returned (.bool r) ∧ Below w.heap.size w w' := by
 have HB := Aside0.mk (Below.refl w.heap.size w)
 have H : ((lex_All.f a0).bind fun bt116 => (if (bt116.1.length : Int) = 1 then (if 0 < (bt116.1.length : Int) then (if ((rd_T63 bt116.1 0).f0) = 2 then (some (((rd_T63 bt116.1 0).f1).toList == a0.toList)) else (some false)) else (none)) else (some false))) = some r := h
 clear h
 replace H := Option.bind_eq_some_iff.mp H
 obtain ⟨⟨t116, t117, t118⟩, A20, H⟩ := H
 replace H : (if (t116.length : Int) = 1 then (if 0 < (t116.length : Int) then (if ((rd_T63 t116 0).f0) = 2 then (some (((rd_T63 t116 0).f1).toList == a0.toList)) else (some false)) else (none)) else (some false)) = some r := H
 have A2 := Aside0.mk A20
 clear A20
 by_cases c3 : (t116.length : Int) = 1
 ·rw [if_pos c3] at H
  have c3b0 : ((t116.length : Int) == 1) = true := beq_iff_eq.mpr c3
  have c3b1 : ((t116.length : Int) != 1) = false := bne_eq_false_iff_eq.mpr c3
  clear c3
  by_cases c4 : 0 < (t116.length : Int)
  ·rw [if_pos c4] at H
   have c4b0 : decide (0 < (t116.length : Int)) = true := decide_eq_true c4
   have c4b1 : decide (0 < t116.length) = true := decide_eq_true (by omega)
   clear c4
   by_cases c5 : ((rd_T63 t116 0).f0) = 2
   ·rw [if_pos c5] at H
    have c5b0 : (((rd_T63 t116 0).f0) == 2) = true := beq_iff_eq.mpr c5
    have c5b1 : (((rd_T63 t116 0).f0) != 2) = false := bne_eq_false_iff_eq.mpr c5
    clear c5
    obtain rfl := Option.some.inj H
    go_enter Tryz.func34, Tryz.ntmps34
    go_wp2_with (first|((with_reducible refine gate_callee (f := 54) rfl ?_); refine goesL_ (some 8) rfl rfl Tryz.func54 (by kernel_rfl) rfl #[.string a0] rfl (by (try simp only [List.map_toArray, List.map_cons, List.map_nil]); first|done|rfl|(simp only [List.length_drop, List.length_take]; rfl)) ?_; (with_reducible refine (lex_All.calls a0 t116 t117 t118 _ A2.out).mono ?_); rintro e w6 ⟨v119, rfl, ho0, hb⟩; refine ⟨_, rfl, ?_⟩; have n0_ := Aside0.mk (Kd.R_lower ho0 (below_size (by repeat (first|(with_reducible first|exact HB.out|apply below_alloc|apply pw_below_drewN|apply below_drew1)|exact HB.out)))); have n1_ := Aside0.mk (below_step (by repeat (first|(with_reducible first|exact HB.out|apply below_alloc|apply pw_below_drewN|apply below_drew1)|exact HB.out)) hb); clear HB; have HO120 := n0_; have HB := n1_; clear n0_ n1_; (try clear hb); (try clear hb2); (try clear hk); (try clear hi); (try clear ho0); obtain ⟨Ao7, co7, eo7⟩ := Kd.R_slice HO120.out; subst eo7; have p121 : 0 ≤ (0 : Int) := (by omega); have q121 : 0 < (t116.length : Int) := of_decide_eq_true (by first|(with_reducible assumption) | assumption); obtain ⟨ad121, e121, hx121_0, hx121_1, hx121_2, hx121_3⟩ := at_T63 (Kd.R_reads' HO120.out).2.2 0 p121 q121; cases e121; have qi121 : (0 < t116.length) = True := eq_true (by omega); (try rw [show ((0 : Int)).toNat = 0 from rfl] at hx121_0); (try rw [show 0 * 4 = 0 from rfl] at hx121_0); (try rw [Addr.add_zero'] at hx121_0); (try rw [show ((0 : Int)).toNat = 0 from rfl] at hx121_1); (try rw [show 0 * 4 = 0 from rfl] at hx121_1); (try rw [Addr.add_zero'] at hx121_1); (try rw [show ((0 : Int)).toNat = 0 from rfl] at hx121_2); (try rw [show 0 * 4 = 0 from rfl] at hx121_2); (try rw [Addr.add_zero'] at hx121_2); (try rw [show ((0 : Int)).toNat = 0 from rfl] at hx121_3); (try rw [show 0 * 4 = 0 from rfl] at hx121_3); (try rw [Addr.add_zero'] at hx121_3); replace p121 := eq_true p121; replace q121 := eq_true q121; have p122 : 0 ≤ (0 : Int) := (by omega); have q122 : 0 < (t116.length : Int) := of_decide_eq_true (by first|(with_reducible assumption) | assumption); obtain ⟨ad122, e122, hx122_0, hx122_1, hx122_2, hx122_3⟩ := at_T63 (Kd.R_reads' HO120.out).2.2 0 p122 q122; obtain rfl : ad121 = ad122 := (by injection e122); have qi122 : (0 < t116.length) = True := eq_true (by omega); (try rw [show ((0 : Int)).toNat = 0 from rfl] at hx122_0); (try rw [show 0 * 4 = 0 from rfl] at hx122_0); (try rw [Addr.add_zero'] at hx122_0); (try rw [show ((0 : Int)).toNat = 0 from rfl] at hx122_1); (try rw [show 0 * 4 = 0 from rfl] at hx122_1); (try rw [Addr.add_zero'] at hx122_1); (try rw [show ((0 : Int)).toNat = 0 from rfl] at hx122_2); (try rw [show 0 * 4 = 0 from rfl] at hx122_2); (try rw [Addr.add_zero'] at hx122_2); (try rw [show ((0 : Int)).toNat = 0 from rfl] at hx122_3); (try rw [show 0 * 4 = 0 from rfl] at hx122_3); (try rw [Addr.add_zero'] at hx122_3); replace p122 := eq_true p122; replace q122 := eq_true q122))
    go_ret
    exact ⟨by first|rfl|(simp [errW_none, errW_some] <;> rfl)|(simp [*, errW_none, errW_some] <;> rfl), by repeat (first|(with_reducible first|exact HB.out|apply below_alloc|apply pw_below_drewN|apply below_drew1)|exact HB.out)⟩
   ·rw [if_neg c5] at H
    have c5b0 : (((rd_T63 t116 0).f0) == 2) = false := beq_eq_false_iff_ne.mpr c5
    have c5b1 : (((rd_T63 t116 0).f0) != 2) = true := bne_iff_ne.mpr c5
    obtain rfl := Option.some.inj H
    go_enter Tryz.func34, Tryz.ntmps34
    go_wp2_with (first|((with_reducible refine gate_callee (f := 54) rfl ?_); refine goesL_ (some 8) rfl rfl Tryz.func54 (by kernel_rfl) rfl #[.string a0] rfl (by (try simp only [List.map_toArray, List.map_cons, List.map_nil]); first|done|rfl|(simp only [List.length_drop, List.length_take]; rfl)) ?_; (with_reducible refine (lex_All.calls a0 t116 t117 t118 _ A2.out).mono ?_); rintro e w8 ⟨v119, rfl, ho0, hb⟩; refine ⟨_, rfl, ?_⟩; have n0_ := Aside0.mk (Kd.R_lower ho0 (below_size (by repeat (first|(with_reducible first|exact HB.out|apply below_alloc|apply pw_below_drewN|apply below_drew1)|exact HB.out)))); have n1_ := Aside0.mk (below_step (by repeat (first|(with_reducible first|exact HB.out|apply below_alloc|apply pw_below_drewN|apply below_drew1)|exact HB.out)) hb); clear HB; have HO120 := n0_; have HB := n1_; clear n0_ n1_; (try clear hb); (try clear hb2); (try clear hk); (try clear hi); (try clear ho0); obtain ⟨Ao9, co9, eo9⟩ := Kd.R_slice HO120.out; subst eo9; have p121 : 0 ≤ (0 : Int) := (by omega); have q121 : 0 < (t116.length : Int) := of_decide_eq_true (by first|(with_reducible assumption) | assumption); obtain ⟨ad121, e121, hx121_0, hx121_1, hx121_2, hx121_3⟩ := at_T63 (Kd.R_reads' HO120.out).2.2 0 p121 q121; cases e121; have qi121 : (0 < t116.length) = True := eq_true (by omega); (try rw [show ((0 : Int)).toNat = 0 from rfl] at hx121_0); (try rw [show 0 * 4 = 0 from rfl] at hx121_0); (try rw [Addr.add_zero'] at hx121_0); (try rw [show ((0 : Int)).toNat = 0 from rfl] at hx121_1); (try rw [show 0 * 4 = 0 from rfl] at hx121_1); (try rw [Addr.add_zero'] at hx121_1); (try rw [show ((0 : Int)).toNat = 0 from rfl] at hx121_2); (try rw [show 0 * 4 = 0 from rfl] at hx121_2); (try rw [Addr.add_zero'] at hx121_2); (try rw [show ((0 : Int)).toNat = 0 from rfl] at hx121_3); (try rw [show 0 * 4 = 0 from rfl] at hx121_3); (try rw [Addr.add_zero'] at hx121_3); replace p121 := eq_true p121; replace q121 := eq_true q121))
    go_ret
    exact ⟨by first|rfl|(simp [errW_none, errW_some] <;> rfl)|(simp [*, errW_none, errW_some] <;> rfl), by repeat (first|(with_reducible first|exact HB.out|apply below_alloc|apply pw_below_drewN|apply below_drew1)|exact HB.out)⟩
  ·rw [if_neg c4] at H
   exact absurd H (by simp)
 ·rw [if_neg c3] at H
  have c3b0 : ((t116.length : Int) == 1) = false := beq_eq_false_iff_ne.mpr c3
  have c3b1 : ((t116.length : Int) != 1) = true := bne_iff_ne.mpr c3
  obtain rfl := Option.some.inj H
  go_enter Tryz.func34, Tryz.ntmps34
  go_wp2_with (first|((with_reducible refine gate_callee (f := 54) rfl ?_); refine goesL_ (some 8) rfl rfl Tryz.func54 (by kernel_rfl) rfl #[.string a0] rfl (by (try simp only [List.map_toArray, List.map_cons, List.map_nil]); first|done|rfl|(simp only [List.length_drop, List.length_take]; rfl)) ?_; (with_reducible refine (lex_All.calls a0 t116 t117 t118 _ A2.out).mono ?_); rintro e w10 ⟨v119, rfl, ho0, hb⟩; refine ⟨_, rfl, ?_⟩; have n0_ := Aside0.mk (Kd.R_lower ho0 (below_size (by repeat (first|(with_reducible first|exact HB.out|apply below_alloc|apply pw_below_drewN|apply below_drew1)|exact HB.out)))); have n1_ := Aside0.mk (below_step (by repeat (first|(with_reducible first|exact HB.out|apply below_alloc|apply pw_below_drewN|apply below_drew1)|exact HB.out)) hb); clear HB; have HO120 := n0_; have HB := n1_; clear n0_ n1_; (try clear hb); (try clear hb2); (try clear hk); (try clear hi); (try clear ho0); obtain ⟨Ao11, co11, eo11⟩ := Kd.R_slice HO120.out; subst eo11))
  go_ret
  exact ⟨by first|rfl|(simp [errW_none, errW_some] <;> rfl)|(simp [*, errW_none, errW_some] <;> rfl), by repeat (first|(with_reducible first|exact HB.out|apply below_alloc|apply pw_below_drewN|apply below_drew1)|exact HB.out)⟩

end Go.Proofs.YtnjmilelifmfpaaGreatDoor.Q

/- The walks of slices.IndexFunc and slices.ContainsFunc on terms, for whatever function tells a Bool of an element. -/
namespace Go.Proofs.YtnjmilelifmfpaaGreatDoor.HCoreC
open Go Go.RowKit Go.Lib Go.Proofs Go.Proofs.YtnjmilelifmfpaaGreatDoorW.PrintWords Go.Proofs.YtnjmilelifmfpaaGreatDoorW.PrintLast Go.Proofs.YtnjmilelifmfpaaGreatDoorW.PrintMore Go.Proofs.YtnjmilelifmfpaaGreatDoor.Q Go.Proofs.YtnjmilelifmfpaaGreatDoor.HCore
set_option linter.unusedVariables false
set_option linter.unusedSimpArgs false
end Go.Proofs.YtnjmilelifmfpaaGreatDoor.HCoreC

namespace Go.Proofs.YtnjmilelifmfpaaGreatDoor.Pure
open Go Go.RowKit Go.Lib Go.Proofs Go.Proofs.YtnjmilelifmfpaaGreatDoor.Q Go.Proofs.YtnjmilelifmfpaaGreatDoorW.PrintWords Go.Proofs.YtnjmilelifmfpaaGreatDoorW.PrintLast Go.Proofs.YtnjmilelifmfpaaGreatDoorW.PrintMore
open HCoreC HCore
namespace CoreCon
set_option linter.unusedVariables false
set_option linter.unusedSimpArgs false
theorem oper_is (s : ByteArray) : core_operator.f 9 s = some (oper s) := by
 unfold core_operator.f slices_Contains_string_string.f slices_Index_string_string.f
 simp only [slices_Index_string_string.l0, Lib.toList_data, rdOf]
 have w1 : wrap64 1 = 1 := by simp [wrap64]
 have w2 : wrap64 2 = 2 := by simp [wrap64]
 have w3 : wrap64 3 = 3 := by simp [wrap64]
 have w4 : wrap64 4 = 4 := by simp [wrap64]
 have w5 : wrap64 5 = 5 := by simp [wrap64]
 have w6 : wrap64 6 = 6 := by simp [wrap64]
 unfold oper
 by_cases h1 : s.data.toList = [43]
 ·simp [h1]
 by_cases h2 : s.data.toList = [45]
 ·simp [h2, w1]
 by_cases h3 : s.data.toList = [42]
 ·simp [h3, w1, w2]
 by_cases h4 : s.data.toList = [47]
 ·simp [h4, w1, w2, w3]
 by_cases h5 : s.data.toList = [60]
 ·simp [h5, w1, w2, w3, w4]
 by_cases h6 : s.data.toList = [61, 61]
 ·simp [h6, w1, w2, w3, w4, w5]
 simp [h1, h2, h3, h4, h5, h6, w1, w2, w3, w4, w5, w6]
theorem con_is (s : ByteArray) (hs : s.size ≤ 1000000000) : core_con.f s = some (con s) := by
 unfold core_con.f lex_All.f con
 rw [if_pos (by omega)]
 cases h : HLex.lex s.data.toList with
 | error x => obtain ⟨p, er⟩ := x; simp
 | ok ts =>
  match ts with
  | [] => simp
  | [t] =>
   simp only [Option.bind_some, List.map_cons, List.map_nil, List.length_cons, List.length_nil]
   have e0 : rd_T63 [HLexC.toS t] 0 = HLexC.toS t := rfl
   rw [e0]
   simp only [HLexC.toS, Lib.toList_data, List.toList_toArray]
   by_cases h2 : t.kind = 2
   ·have : (t.kind : Int) = 2 := by omega
    rw [if_pos (by decide), if_pos (by decide), if_pos this]
    by_cases h3 : t.text = s.data.toList <;> simp [h2, h3]
   ·have : ¬ (t.kind : Int) = 2 := by omega
    rw [if_pos (by decide), if_pos (by decide), if_neg this]
    simp [h2]
  | t :: u :: r =>
   have : ¬ (((List.map HLexC.toS (t :: u :: r)).length : Int) = 1) := by simp; omega
   simp only [Option.bind_some]
   rw [if_neg this]
end CoreCon
end Go.Proofs.YtnjmilelifmfpaaGreatDoor.Pure

namespace Go.Proofs.YtnjmilelifmfpaaGreatDoor.Ev
open Go Go.RowKit Go.Proofs.YtnjmilelifmfpaaGreatDoor.Q Go.Proofs.YtnjmilelifmfpaaGreatDoorW.PrintWords Go.Proofs.YtnjmilelifmfpaaGreatDoorW.PrintLast Go.Proofs.YtnjmilelifmfpaaGreatDoorW.PrintMore
open HCore (wt wts may each alts mayCase same height heights size sizes bare oper)
set_option linter.unusedSimpArgs false
set_option linter.unusedVariables false
theorem ba_eqC {s u : ByteArray} : decide (s = u) = decide (s.data.toList = u.data.toList) := by
 by_cases h : s = u
 ·simp [h]
 ·simp only [h, decide_false]
  rw [eq_comm, decide_eq_false_iff_not]
  exact fun e => h (ByteArray.ext (Array.toList_inj.1 e))
theorem e00 {s : ByteArray} : decide (s.data.toList = []) = decide (s = ⟨#[]⟩) := (ba_eqC (u := ⟨#[]⟩)).symm
theorem bareC_is {n : Int} {s : ByteArray} : bare n s = (decide (s = ⟨#[]⟩) && decide (n = 0)) := by unfold bare; rw [e00]
abbrev TIn : Spec := fun args out => ∃ x y z : Int, args = [.s (.int .i64 x), .s (.int .i64 y), .s (.int .i64 z)] ∧ out = .ret (.s (.bool (decide (y ≤ x) && decide (x ≤ z))))
theorem c_in {J : JW} (hJ : JOk J) : Con Tryz.prog J 30 TIn := by
 obtain ⟨code, h1, h2, h3, h4⟩ := k30
 refine con ok_nil hJ h1 h2 h3 h4 fun args out h => ?_
 obtain ⟨x, y, z, rfl, rfl⟩ := h
 refine ⟨rfl, by rw [Tryz.ntmps30]; simp, ?_⟩
 unfold c30
 refine go ?_
 by_cases h : x ≥ y
 ·simp only [h, decide_true]; refine go ?_; simp [h]
 ·simp only [h, decide_false]; refine go ?_; simp [h]
abbrev TPlain : Spec := fun args out => ∃ x : Tm, args = [.agg (encT x)] ∧ out = .ret (.s (.bool (bare x.f1 x.f2)))
theorem c_plain {J : JW} (hJ : JOk J) : Con Tryz.prog J 31 TPlain := by
 obtain ⟨code, h1, h2, h3, h4⟩ := k31
 refine con ok_nil hJ h1 h2 h3 h4 fun args out h => ?_
 obtain ⟨x, rfl, rfl⟩ := h
 refine ⟨rfl, by rw [Tryz.ntmps31]; simp, ?_⟩
 rw [encT_is]
 unfold c31
 refine go ?_
 rw [bareC_is]
 by_cases h : x.f2 = ⟨#[]⟩
 ·simp only [h, decide_true]; refine go ?_; rfl
 ·simp only [h, decide_false]; refine go ?_; rfl
abbrev TOper : Spec := fun args out => ∃ s : ByteArray, args = [.s (.string s)] ∧ out = .ret (.s (.bool (oper s)))
theorem c_oper {J : JW} : Con Tryz.prog J 33 TOper := by
 rintro args out ⟨s, rfl, rfl⟩
 show ∀ S w vs, J w → Agr S w → All2 (Rep (g0 S)) _ vs → Calls Tryz.prog _ vs.toArray w (Post S w _)
 intro S w vs hJ hA h
 cases h with | cons r0 h =>
 cases h
 have e0 := sc_rep r0 rfl
 subst e0
 exact (core_operator.calls 9 s _ w (Pure.CoreCon.oper_is s)).mono fun e w' h => post_s hA rfl h
abbrev TConC : Spec := fun args out => ∃ s : ByteArray, args = [.s (.string s)] ∧ s.size ≤ 1000000000 ∧ out = .ret (.s (.bool (HCore.con s)))
theorem c_conC {J : JW} : Con Tryz.prog J 34 TConC := by
 rintro args out ⟨s, rfl, hs, rfl⟩
 show ∀ S w vs, J w → Agr S w → All2 (Rep (g0 S)) _ vs → Calls Tryz.prog _ vs.toArray w (Post S w _)
 intro S w vs hJ hA h
 cases h with | cons r0 h =>
 cases h
 have e0 := sc_rep r0 rfl
 subst e0
 exact (core_con.calls s _ w (Pure.CoreCon.con_is s hs)).mono fun e w' h => post_s hA rfl h
def fidx (p : Tm → Bool) : List Tm → Nat → Int
 | [], _ => -1
 | x :: r, i => if p x = true then (i : Int) else fidx p r (i + 1)
theorem fidx_any {p : Tm → Bool} : ∀ {l : List Tm} {i : Nat}, decide (fidx p l i ≥ 0) = l.any p
 | [], i => by simp [fidx]
 | x :: r, i => by
  rw [fidx, List.any_cons]
  cases p x with
  | true => simp
  | false => simp only [Bool.false_eq_true, if_false, Bool.false_or]; exact fidx_any
theorem fidx_drop {p : Tm → Bool} {l : List Tm} {i k : Nat} {y : Tm} (h : l[i]? = some y) : fidx p (l.drop i) k = if p y = true then (k : Int) else fidx p (l.drop (i + 1)) (k + 1) := by
 obtain ⟨hi, rfl⟩ := List.getElem?_eq_some_iff.1 h
 rw [List.drop_eq_getElem_cons hi, fidx]
def FlatC (cs : List AV) : Prop := (∀ gr, cs.map (pcell gr) = cs) ∧ cs.flatMap refC = [] ∧ ∀ n m, subs n m cs cs
abbrev TIdx (f : FuncId) (U : Spec) : Spec := fun args out => ∃ (cs : List AV) (l : List Tm) (p : Tm → Bool), args = [.tup [.agg cs], .row (encTs l), .fn f [] [.ptr 0 0]] ∧ l.length ≤ 1000000000 ∧ FlatC cs ∧
 (∀ x ∈ l, U [.tup [.agg cs], .agg (encT x), .ptr 0 0] (.ret (.tup [.s (.bool (p x)), .agg cs]))) ∧ out = .ret (.tup [.s (.int .i64 (fidx p l 0)), .agg cs])
theorem hh1 : ∀ j : Nat, j < 1 → j < 1 ∧ onto [(0, 0)] j = some j := by decide
def idxS (f : FuncId) (cs : List AV) (l : List Tm) (i : Nat) : AS := ⟨tm [(8, .s (.int .i64 (i : Int))), (7, .s (.int .i64 ((encTs l).length : Int))), (0, .row (encTs l)), (1, .fn f [] [.ptr 0 0])], bm [(0, some cs)], bm [], 1⟩
set_option maxHeartbeats 1000000 in
theorem c_idx {J : JW} (hJ : JOk J) {f : FuncId} {U : Spec} (hT : Con Tryz.prog J f U) (hf : fnOk Tryz.prog f = true) : Con Tryz.prog J 59 (TIdx f U) := by
 obtain ⟨code, h1, h2, h3, h4⟩ := k59
 refine conH (E := envH 1 [(f, U)]) (ok_h (ok_cons hT ok_nil hf)) hJ h1 h2 h3 h4 (fun args out h => ?_) (h0 := Nat.zero_lt_one)
 obtain ⟨cs, l, p, rfl, hl, hc, hp, rfl⟩ := h
 refine ⟨[cs], _, rfl, rfl, by rw [Tryz.ntmps59]; simp, ?_⟩
 unfold c59
 refine go ?_
 refine countI l.length (fun i (_ : Unit) => fidx p (l.drop i) i = fidx p l 0) (fun i _ => idxS f cs l i) () rfl (lm [(0, 0)] (hB := by simpa [bsub, onto, bm] using hc.2.2 _ _) (hh := hh1)) fun i _ hi hI => ?_
 unfold idxS
 refine go ?_
 by_cases q : (i : Int) < (encTs l).length
 ·simp only [q, decide_true]
  refine go ?_
  obtain ⟨y, hy, hm, hl'⟩ := part q
  simp only [eget hy]
  refine go ?_
  rw [hc.2.1, hc.1]
  refine ⟨rfl, _, by rw [← encT_is]; exact hp y hm, ?_⟩
  rw [fidx_drop hy] at hI
  refine go ?_
  cases hq : p y with
  | true =>
   rw [hq, if_pos rfl] at hI
   refine go ?_
   rw [hc.1, ← hI]
  | false =>
   rw [hq, if_neg (by decide)] at hI
   refine go ?_
   rw [nxt (by omega)]
   exact ⟨hl', (), hI, lm [(0, 0)] (hB := by simpa [bsub, onto, bm] using hc.2.2 _ _) (hh := hh1)⟩
 ·simp only [q, decide_false]
  have := fin_at hi q
  subst this
  rw [List.drop_length, fidx] at hI
  refine go ?_
  rw [hc.1, ← hI]
abbrev TCf (f : FuncId) (U : Spec) : Spec := fun args out => ∃ (cs : List AV) (l : List Tm) (p : Tm → Bool), args = [.tup [.agg cs], .row (encTs l), .fn f [] [.ptr 0 0]] ∧ l.length ≤ 1000000000 ∧ FlatC cs ∧
 (∀ x ∈ l, U [.tup [.agg cs], .agg (encT x), .ptr 0 0] (.ret (.tup [.s (.bool (p x)), .agg cs]))) ∧ out = .ret (.tup [.s (.bool (l.any p)), .agg cs])
theorem c_cf {J : JW} (hJ : JOk J) {f : FuncId} {U : Spec} (hT : Con Tryz.prog J f U) (hf : fnOk Tryz.prog f = true) : Con Tryz.prog J 51 (TCf f U) := by
 obtain ⟨code, h1, h2, h3, h4⟩ := k51
 refine conH (E := envH 1 [(59, TIdx f U)]) (ok_h (ok_cons (c_idx hJ hT hf) ok_nil)) hJ h1 h2 h3 h4 (fun args out h => ?_) (h0 := Nat.zero_lt_one)
 obtain ⟨cs, l, p, rfl, hl, hc, hp, rfl⟩ := h
 refine ⟨[cs], _, rfl, rfl, by rw [Tryz.ntmps51]; simp, ?_⟩
 unfold c51
 refine go ?_
 rw [hc.2.1, hc.1]
 refine ⟨rfl, _, ⟨cs, l, p, rfl, hl, hc, hp, rfl⟩, ?_⟩
 refine go ?_
 rw [hc.1, fidx_any]
def MB (n : Nat) (x : Tm) (free : Int) : Prop := height x < n ∧ wt x ≤ 1000000000 ∧ -1000000000 ≤ free ∧ free + 9 * (height x : Int) ≤ 9000000000000000000
abbrev TMayN (n : Nat) : Spec := fun args out => ∃ (x : Tm) (free : Int), args = [.agg (encT x), .s (.int .i64 free)] ∧ MB n x free ∧ out = .ret (.s (.bool (may x free)))
abbrev T52 (n : Nat) : Spec := fun args out => ∃ (x : Tm) (free : Int), args = [.tup [.agg [.s (.int .i64 free)]], .agg (encT x), .ptr 0 0] ∧ MB n x free ∧ out = .ret (.tup [.s (.bool (!may x free)), .agg [.s (.int .i64 free)]])
theorem c_e1 {J : JW} (hJ : JOk J) {n : Nat} (ih : Con Tryz.prog J 21 (TMayN n)) : Con Tryz.prog J 52 (T52 n) := by
 obtain ⟨code, h1, h2, h3, h4⟩ := k52
 refine conH (E := envH 1 [(21, TMayN n)]) (ok_h (ok_cons ih ok_nil)) hJ h1 h2 h3 h4 (fun args out h => ?_) (h0 := Nat.zero_lt_one)
 obtain ⟨x, free, rfl, hm, rfl⟩ := h
 refine ⟨[[.s (.int .i64 free)]], _, rfl, rfl, by rw [Tryz.ntmps52]; simp, ?_⟩
 rw [encT_is]
 unfold c52
 refine go ?_
 refine call (T := TMayN n) ⟨x, free, by rw [encT_is], hm, rfl⟩ ?_
 refine go ?_
 trivial
abbrev T55 : Spec := fun args out => ∃ (x y : Tm), args = [.tup [.agg (encT y)], .agg (encT x), .ptr 0 0] ∧ out = .ret (.tup [.s (.bool (decide (x.f2 = y.f2))), .agg (encT y)])
theorem c_e2 {J : JW} (hJ : JOk J) : Con Tryz.prog J 55 T55 := by
 obtain ⟨code, h1, h2, h3, h4⟩ := k55
 refine conH (E := envH 1 []) (ok_h ok_nil) hJ h1 h2 h3 h4 (fun args out h => ?_) (h0 := Nat.zero_lt_one)
 obtain ⟨x, y, rfl, rfl⟩ := h
 refine ⟨[encT y], _, rfl, rfl, by rw [Tryz.ntmps55]; simp, ?_⟩
 rw [encT_is x, encT_is y]
 unfold c55
 refine go ?_
 trivial
abbrev TEach (n : Nat) : Spec := fun args out => ∃ (l : List Tm) (free : Int), args = [.row (encTs l), .s (.int .i64 free)] ∧ l.length ≤ 1000000000 ∧ (∀ x ∈ l, MB n x free) ∧ out = .ret (.s (.bool (each l free)))
theorem flat_i {k : Int} : FlatC [.s (.int .i64 k)] := ⟨fun _ => rfl, rfl, fun _ _ => by simp [subs, subC]⟩
theorem each_any {l : List Tm} {free : Int} : each l free = !l.any fun x => !may x free := by
 rw [HCore.each_iff, List.not_any_eq_all_not]; simp
theorem c_each {J : JW} (hJ : JOk J) {n : Nat} (ih : Con Tryz.prog J 21 (TMayN n)) : Con Tryz.prog J 32 (TEach n) := by
 obtain ⟨code, h1, h2, h3, h4⟩ := k32
 refine con (E := env [(51, TCf 52 (T52 n))]) (ok_cons (c_cf hJ (c_e1 hJ ih) (by kernel_rfl)) ok_nil) hJ h1 h2 h3 h4 fun args out h => ?_
 obtain ⟨l, free, rfl, hl, hm, rfl⟩ := h
 refine ⟨rfl, by rw [Tryz.ntmps32]; simp, ?_⟩
 rw [each_any]
 unfold c32
 refine go ?_
 refine ⟨_, ⟨[.s (.int .i64 free)], l, fun x => !may x free, rfl, hl, flat_i, fun x hx => ⟨x, free, rfl, hm x hx, rfl⟩, rfl⟩, ?_⟩
 refine go ?_
 trivial
theorem altsC_cons (a : Tm) (r : List Tm) (free : Int) (seen : List Tm) : alts (a :: r) free seen = (decide (a.f0 = 6) && HCore.con a.f2 && decide (0 ≤ a.f1) && decide (a.f1 ≤ 8) && decide (a.f3.length = 1) && each a.f3 (free + a.f1) && !(seen.any fun b => decide (b.f2.data.toList = a.f2.data.toList)) && alts r free (seen ++ [a])) := by
 cases a; rw [alts]
theorem encTs_all : ∀ l : List Tm, ((encTs l).all fun c => c.length == 4) = true
 | [] => rfl
 | x :: l => by
  rw [encTs, List.all_cons, encTs_all l, encT_is]; rfl
theorem encTs_take : ∀ (l : List Tm) (i : Nat), (encTs l).take i = encTs (l.take i)
 | l, 0 => rfl
 | [], i + 1 => rfl
 | x :: l, i + 1 => by rw [encTs, List.take_succ_cons, encTs_take l i]; rfl
theorem flat_t {k m : Int} {s : ByteArray} {r : List (List AV)} : FlatC [.s (.int .i64 k), .s (.int .i64 m), .s (.string s), .row r] := ⟨fun _ => rfl, rfl, fun _ _ => by simp [subs, subC]⟩
theorem heightC_lt (x : Tm) : ∀ y ∈ x.f3, height y + 1 ≤ height x := by
 intro y hy
 have h1 := height_mem hy
 have h2 : height x = heights x.f3 + 1 := by cases x; rfl
 omega
theorem wtC_part (x : Tm) : ∀ y ∈ x.f3, wt y ≤ wt x := by
 intro y hy
 have := HCore.wt_get hy
 have : wts x.f3 ≤ wt x := by cases x; simp only [wt]; omega
 omega
abbrev TAlts (n : Nat) : Spec := fun args out => ∃ (l : List Tm) (free : Int), args = [.row (encTs l), .s (.int .i64 free)] ∧ l.length ≤ 1000000000 ∧ -1000000000 ≤ free ∧ (∀ a ∈ l, height a ≤ n ∧ wt a ≤ 1000000000 ∧ free + 9 * (height a : Int) ≤ 9000000000000000000) ∧
 out = .ret (.s (.bool (alts l free [] && decide (1 ≤ l.length) && decide (l.length ≤ 8))))
def altS (l : List Tm) (free : Int) (i : Nat) : AS := ⟨tm [(10, .s (.int .i64 (i : Int))), (9, .s (.int .i64 ((encTs l).length : Int))), (8, .row (encTs l)), (0, .row (encTs l)), (1, .s (.int .i64 free)), (4, .s (.bool false))], bm [], bm [], 0⟩
theorem altsC_drop {l : List Tm} {free : Int} {i : Nat} {y : Tm} (h : l[i]? = some y) : alts (l.drop i) free (l.take i) = (decide (y.f0 = 6) && HCore.con y.f2 && decide (0 ≤ y.f1) && decide (y.f1 ≤ 8) && decide (y.f3.length = 1) && each y.f3 (free + y.f1) && !((l.take i).any fun b => decide (b.f2 = y.f2)) && alts (l.drop (i + 1)) free (l.take (i + 1))) := by
 obtain ⟨hi, rfl⟩ := List.getElem?_eq_some_iff.1 h
 rw [List.drop_eq_getElem_cons hi, altsC_cons, List.take_succ_eq_append_getElem hi]
 simp only [ba_eqC]
set_option maxHeartbeats 4000000 in
set_option maxRecDepth 100000 in
theorem c_alts {J : JW} (hJ : JOk J) {n : Nat} (ih : Con Tryz.prog J 21 (TMayN n)) : Con Tryz.prog J 35 (TAlts n) := by
 obtain ⟨code, h1, h2, h3, h4⟩ := k35
 refine con (E := env [(51, TCf 55 T55), (34, TConC), (30, TIn), (21, TMayN n)]) (ok_cons (c_cf hJ (c_e2 hJ) (by kernel_rfl)) (ok_cons c_conC (ok_cons (c_in hJ) (ok_cons ih ok_nil)))) hJ h1 h2 h3 h4 fun args out h => ?_
 obtain ⟨l, free, rfl, hl, hf, hm, rfl⟩ := h
 refine ⟨rfl, by rw [Tryz.ntmps35]; simp, ?_⟩
 unfold c35
 refine go ?_
 refine countI l.length (fun i (_ : Unit) => alts (l.drop i) free (l.take i) = alts l free []) (fun i _ => altS l free i) () rfl (lm []) fun i _ hi hI => ?_
 unfold altS
 refine go ?_
 by_cases q : (i : Int) < (encTs l).length
 ·simp only [q, decide_true]
  refine go ?_
  obtain ⟨y, hy, hmem, hl'⟩ := part q
  have sw : y.f2.size ≤ wt y := by cases y; simp only [wt]; omega
  obtain ⟨b1, b2, b3⟩ := hm y hmem
  rw [altsC_drop hy] at hI
  simp only [eget hy]
  refine go ?_
  have bad : ∀ v : Bool, alts l free [] = v → v = false → alts l free [] = false := fun v h e => h.trans e
  cases k1 : (y.f0 != 6) with
  | true =>
   have : alts l free [] = false := by rw [← hI, show decide (y.f0 = 6) = false by simpa using k1]; simp
   refine go ?_
   simp [this]
  | false =>
  have k1' : decide (y.f0 = 6) = true := by simpa using k1
  refine go ?_
  refine call (T := TConC) ⟨y.f2, rfl, by omega, rfl⟩ ?_
  cases k2 : HCore.con y.f2 with
  | false =>
   have : alts l free [] = false := by rw [← hI, k2]; simp
   refine go ?_
   simp [this]
  | true =>
  refine go ?_
  refine call (T := TIn) ⟨_, _, _, rfl, rfl⟩ ?_
  cases k3 : (decide (0 ≤ y.f1) && decide (y.f1 ≤ 8)) with
  | false =>
   have : alts l free [] = false := by rw [← hI, Bool.and_assoc (_ && _) (decide (0 ≤ y.f1)), k3]; simp
   refine go ?_
   simp [this]
  | true =>
  refine go ?_
  cases k4 : (((encTs y.f3).length : Int) != 1) with
  | true =>
   have : alts l free [] = false := by
    have e : decide (y.f3.length = 1) = false := by
     rw [encTs_len] at k4
     rw [decide_eq_false_iff_not]
     intro h; rw [h] at k4; cases k4
    rw [← hI, e]; simp
   refine go ?_
   simp [this]
  | false =>
  obtain ⟨z, hz⟩ : ∃ z, y.f3 = [z] := by
   rw [encTs_len] at k4
   match hh : y.f3 with
   | [] => rw [hh] at k4; cases k4
   | [z] => exact ⟨z, rfl⟩
   | _ :: _ :: r => rw [hh] at k4; simp only [List.length_cons, bne_eq_false_iff_eq] at k4; omega
  have zm : z ∈ y.f3 := by rw [hz]; simp
  have zh := heightC_lt y z zm
  have zw := wtC_part y z zm
  have hf1 : 0 ≤ y.f1 ∧ y.f1 ≤ 8 := by simpa using k3
  have e3 : each y.f3 (free + y.f1) = may z (free + y.f1) := by rw [hz]; simp [each]
  have hzr : (encTs y.f3)[Int.toNat 0]? = some [.s (.int .i64 z.f0), .s (.int .i64 z.f1), .s (.string z.f2), .row (encTs z.f3)] := by rw [hz, ← encT_is]; rfl
  refine go ?_
  simp only [hzr]
  refine go ?_
  rw [wr (by omega) (by omega)]
  refine call (T := TMayN n) ⟨z, free + y.f1, by rw [encT_is], ⟨by omega, by omega, by omega, by omega⟩, rfl⟩ ?_
  cases k5 : may z (free + y.f1) with
  | false =>
   have : alts l free [] = false := by rw [← hI, e3, k5]; simp
   refine go ?_
   simp [this]
  | true =>
  refine go ?_
  have ht : (0 : Nat) ≤ i ∧ i ≤ (encTs l).length ∧ ((encTs l).all fun c => c.length == 4) = true := ⟨Nat.zero_le _, by rw [encTs_len]; omega, encTs_all l⟩
  rw [if_pos ht, encTs_take]
  refine go ?_
  refine ⟨_, ⟨[.s (.int .i64 y.f0), .s (.int .i64 y.f1), .s (.string y.f2), .row (encTs y.f3)], l.take i, fun b => decide (b.f2 = y.f2), rfl, by simp; omega, flat_t, fun x hx => ⟨x, y, by rw [encT_is y], by rw [encT_is y]⟩, rfl⟩, ?_⟩
  cases k6 : (l.take i).any fun b => decide (b.f2 = y.f2) with
  | true =>
   have : alts l free [] = false := by rw [← hI, k6]; simp
   refine go ?_
   simp [this]
  | false =>
  have k3' : (decide (0 ≤ y.f1) && decide (y.f1 ≤ 8)) = true := k3
  have hall : alts (l.drop (i + 1)) free (l.take (i + 1)) = alts l free [] := by
   rw [← hI, k1', k2, e3, k5, k6, hz]
   simp [hf1.1, hf1.2]
  refine go ?_
  rw [nxt (by omega)]
  exact ⟨hl', (), hall, lm []⟩
 ·simp only [q, decide_false]
  have := fin_at hi q
  subst this
  rw [List.drop_length, alts] at hI
  refine go ?_
  refine call (T := TIn) ⟨_, _, _, rfl, rfl⟩ ?_
  refine go ?_
  rw [encTs_len, ← hI, Bool.true_and]
  congr 1 <;> (rw [decide_eq_decide]; omega)
theorem ln0 {l : List Tm} : (((encTs l).length : Int) == 0) = decide (l.length = 0) := by rw [encTs_len, Bool.eq_iff_iff]; simp
theorem ln1 {l : List Tm} : (((encTs l).length : Int) == 1) = decide (l.length = 1) := by rw [encTs_len, Bool.eq_iff_iff]; simp; omega
theorem ln2 {l : List Tm} : (((encTs l).length : Int) == 2) = decide (l.length = 2) := by rw [encTs_len, Bool.eq_iff_iff]; simp; omega
theorem lnle8 {l : List Tm} : decide (((encTs l).length : Int) ≤ 8) = decide (l.length ≤ 8) := by rw [encTs_len, decide_eq_decide]; omega
theorem lnge2 {l : List Tm} : decide (((encTs l).length : Int) ≥ 2) = decide (2 ≤ l.length) := by rw [encTs_len, decide_eq_decide]; omega
theorem mayC_of (x : Tm) (free : Int) : may x free = (if x.f0 = 1 then decide (x.f3.length = 0) && decide (x.f2.data.toList = []) && decide (0 ≤ x.f1) && decide (x.f1 ≤ free - 1)
  else if x.f0 = 7 then decide (x.f3.length = 0) && decide (x.f2.data.toList = []) && decide (0 ≤ free)
  else if x.f0 = 9 then decide (x.f3.length = 0) && bare x.f1 x.f2 && decide (0 ≤ free)
  else if x.f0 = 2 then decide (x.f3.length = 1) && bare x.f1 x.f2 && decide (0 ≤ free) && each x.f3 (free + 1)
  else if x.f0 = 3 then decide (x.f3.length = 2) && bare x.f1 x.f2 && each x.f3 free
  else if x.f0 = 8 then decide (x.f3.length = 2) && decide (x.f1 = 0) && oper x.f2 && each x.f3 free
  else if x.f0 = 4 then decide (x.f3.length ≤ 8) && decide (x.f1 = 0) && HCore.con x.f2 && decide (0 ≤ free) && each x.f3 free
  else if x.f0 = 5 then decide (2 ≤ x.f3.length) && bare x.f1 x.f2 && mayCase x.f3 free
  else false) := by cases x; rw [may]
set_option maxHeartbeats 4000000 in
set_option maxRecDepth 100000 in
theorem c_mayN {J : JW} (hJ : JOk J) (n : Nat) : Con Tryz.prog J 21 (TMayN n) := by
 induction n with
 | zero => rintro args out ⟨x, free, rfl, hm, rfl⟩; exact absurd hm.1 (Nat.not_lt_zero _)
 | succ n ih =>
 obtain ⟨code, h1, h2, h3, h4⟩ := k21
 refine con (E := env [(30, TIn), (31, TPlain), (32, TEach n), (33, TOper), (34, TConC), (21, TMayN n), (35, TAlts n)]) (ok_cons (c_in hJ) (ok_cons (c_plain hJ) (ok_cons (c_each hJ ih) (ok_cons c_oper (ok_cons c_conC (ok_cons ih (ok_cons (c_alts hJ ih) ok_nil))))))) hJ h1 h2 h3 h4 fun args out h => ?_
 obtain ⟨x, free, rfl, ⟨b1, b2, b3, b4⟩, rfl⟩ := h
 refine ⟨rfl, by rw [Tryz.ntmps21]; simp, ?_⟩
 have sz := size_le_wt x
 have hs := height_le_size x
 have sw : x.f2.size ≤ wt x := by rw [wt_of]; omega
 have sl : x.f3.length ≤ wt x := by have := len_sizes x.f3; have := size_of x; omega
 have hp : ∀ y ∈ x.f3, MB n y free := fun y hy => by
  have := heightC_lt x y hy; have := wtC_part x y hy
  exact ⟨by omega, by omega, by omega, by omega⟩
 rw [mayC_of, e00]
 rw [encT_is]
 unfold c21
 refine go ?_
 cases k1 : (x.f0 == 1) with
 | true =>
  have kk : x.f0 = 1 := by simpa using k1
  rw [if_pos kk]
  refine go ?_
  rw [ln0]
  generalize decide (x.f3.length = 0) = p1
  cases p1 with
  | false => refine go ?_; rfl
  | true =>
  refine go ?_
  generalize decide (x.f2 = ⟨#[]⟩) = p2
  cases p2 with
  | false => refine go ?_; rfl
  | true =>
  refine go ?_
  rw [wr (by omega) (by omega)]
  refine call (T := TIn) ⟨_, _, _, rfl, rfl⟩ ?_
  refine go ?_
  trivial
 | false =>
 have n1 : ¬ x.f0 = 1 := by simpa using k1
 refine go ?_
 cases k7 : (x.f0 == 7) with
 | true =>
  have kk : x.f0 = 7 := by simpa using k7
  rw [if_neg n1, if_pos kk]
  refine go ?_
  rw [ln0]
  generalize decide (x.f3.length = 0) = p
  cases p with
  | false => refine go ?_; first|rfl | trivial
  | true =>
  refine go ?_
  generalize decide (x.f2 = ⟨#[]⟩) = p
  cases p with
  | false => refine go ?_; first|rfl | trivial
  | true =>
  refine go ?_
  first|rfl | trivial
 | false =>
 have n7 : ¬ x.f0 = 7 := by simpa using k7
 refine go ?_
 cases k9 : (x.f0 == 9) with
 | true =>
  have kk : x.f0 = 9 := by simpa using k9
  rw [if_neg n1, if_neg n7, if_pos kk]
  refine go ?_
  rw [ln0]
  generalize decide (x.f3.length = 0) = p
  cases p with
  | false => refine go ?_; first|rfl | trivial
  | true =>
  refine go ?_
  refine call (T := TPlain) ⟨x, by rw [encT_is], rfl⟩ ?_
  generalize bare x.f1 x.f2 = p
  cases p with
  | false => refine go ?_; first|rfl | trivial
  | true =>
  refine go ?_
  first|rfl | trivial
 | false =>
 have n9 : ¬ x.f0 = 9 := by simpa using k9
 refine go ?_
 cases k2 : (x.f0 == 2) with
 | true =>
  have kk : x.f0 = 2 := by simpa using k2
  rw [if_neg n1, if_neg n7, if_neg n9, if_pos kk]
  refine go ?_
  rw [ln1]
  generalize decide (x.f3.length = 1) = p
  cases p with
  | false => refine go ?_; first|rfl | trivial
  | true =>
  refine go ?_
  refine call (T := TPlain) ⟨x, by rw [encT_is], rfl⟩ ?_
  generalize bare x.f1 x.f2 = p
  cases p with
  | false => refine go ?_; first|rfl | trivial
  | true =>
  refine go ?_
  rw [show decide (free ≥ 0) = decide (0 ≤ free) from rfl]
  generalize decide (0 ≤ free) = p
  cases p with
  | false => refine go ?_; first|rfl | trivial
  | true =>
  refine go ?_
  rw [wr (by omega) (by omega)]
  refine call (T := TEach n) ⟨x.f3, free + 1, rfl, by omega, fun y hy => by have := heightC_lt x y hy; have := wtC_part x y hy; exact ⟨by omega, by omega, by omega, by omega⟩, rfl⟩ ?_
  refine go ?_
  first|rfl | trivial
 | false =>
 have n2 : ¬ x.f0 = 2 := by simpa using k2
 refine go ?_
 cases k3 : (x.f0 == 3) with
 | true =>
  have kk : x.f0 = 3 := by simpa using k3
  rw [if_neg n1, if_neg n7, if_neg n9, if_neg n2, if_pos kk]
  refine go ?_
  rw [ln2]
  generalize decide (x.f3.length = 2) = p
  cases p with
  | false => refine go ?_; first|rfl | trivial
  | true =>
  refine go ?_
  refine call (T := TPlain) ⟨x, by rw [encT_is], rfl⟩ ?_
  generalize bare x.f1 x.f2 = p
  cases p with
  | false => refine go ?_; first|rfl | trivial
  | true =>
  refine go ?_
  refine call (T := TEach n) ⟨x.f3, free, rfl, by omega, hp, rfl⟩ ?_
  refine go ?_
  first|rfl | trivial
 | false =>
 have n3 : ¬ x.f0 = 3 := by simpa using k3
 refine go ?_
 cases k8 : (x.f0 == 8) with
 | true =>
  have kk : x.f0 = 8 := by simpa using k8
  rw [if_neg n1, if_neg n7, if_neg n9, if_neg n2, if_neg n3, if_pos kk]
  refine go ?_
  rw [ln2]
  generalize decide (x.f3.length = 2) = p
  cases p with
  | false => refine go ?_; first|rfl | trivial
  | true =>
  refine go ?_
  rw [show (x.f1 == 0) = decide (x.f1 = 0) from rfl]
  generalize decide (x.f1 = 0) = p
  cases p with
  | false => refine go ?_; first|rfl | trivial
  | true =>
  refine go ?_
  refine call (T := TOper) ⟨x.f2, rfl, rfl⟩ ?_
  generalize oper x.f2 = p
  cases p with
  | false => refine go ?_; first|rfl | trivial
  | true =>
  refine go ?_
  refine call (T := TEach n) ⟨x.f3, free, rfl, by omega, hp, rfl⟩ ?_
  refine go ?_
  first|rfl | trivial
 | false =>
 have n8 : ¬ x.f0 = 8 := by simpa using k8
 refine go ?_
 cases k4 : (x.f0 == 4) with
 | true =>
  have kk : x.f0 = 4 := by simpa using k4
  rw [if_neg n1, if_neg n7, if_neg n9, if_neg n2, if_neg n3, if_neg n8, if_pos kk]
  refine go ?_
  rw [lnle8]
  generalize decide (x.f3.length ≤ 8) = p
  cases p with
  | false => refine go ?_; first|rfl | trivial
  | true =>
  refine go ?_
  rw [show (x.f1 == 0) = decide (x.f1 = 0) from rfl]
  generalize decide (x.f1 = 0) = p
  cases p with
  | false => refine go ?_; first|rfl | trivial
  | true =>
  refine go ?_
  refine call (T := TConC) ⟨x.f2, rfl, by omega, rfl⟩ ?_
  generalize HCore.con x.f2 = p
  cases p with
  | false => refine go ?_; first|rfl | trivial
  | true =>
  refine go ?_
  rw [show decide (free ≥ 0) = decide (0 ≤ free) from rfl]
  generalize decide (0 ≤ free) = p
  cases p with
  | false => refine go ?_; first|rfl | trivial
  | true =>
  refine go ?_
  refine call (T := TEach n) ⟨x.f3, free, rfl, by omega, hp, rfl⟩ ?_
  refine go ?_
  first|rfl | trivial
 | false =>
 have n4 : ¬ x.f0 = 4 := by simpa using k4
 refine go ?_
 cases k5 : (x.f0 == 5) with
 | true =>
  have kk : x.f0 = 5 := by simpa using k5
  rw [if_neg n1, if_neg n7, if_neg n9, if_neg n2, if_neg n3, if_neg n8, if_neg n4, if_pos kk]
  refine go ?_
  rw [lnge2]
  by_cases h2 : 2 ≤ x.f3.length
  rotate_left
  ·simp only [h2, decide_false]; refine go ?_; first|rfl | trivial
  simp only [h2, decide_true]
  refine go ?_
  refine call (T := TPlain) ⟨x, by rw [encT_is], rfl⟩ ?_
  generalize bare x.f1 x.f2 = p
  cases p with
  | false => refine go ?_; first|rfl | trivial
  | true =>
  refine go ?_
  obtain ⟨y, r, hr⟩ : ∃ y r, x.f3 = y :: r := by
   match hh : x.f3 with
   | [] => rw [hh] at h2; simp at h2
   | y :: r => exact ⟨y, r, rfl⟩
  have ym : y ∈ x.f3 := by rw [hr]; simp
  have rl : r.length + 1 = x.f3.length := by rw [hr]; rfl
  have hzr : (encTs x.f3)[Int.toNat 0]? = some [.s (.int .i64 y.f0), .s (.int .i64 y.f1), .s (.string y.f2), .row (encTs y.f3)] := by rw [hr, ← encT_is]; rfl
  simp only [hzr]
  refine go ?_
  refine call (T := TMayN n) ⟨y, free, by rw [encT_is], hp y ym, rfl⟩ ?_
  rw [show mayCase x.f3 free = (may y free && alts r free [] && decide (1 ≤ r.length) && decide (r.length ≤ 8)) by rw [hr, mayCase]]
  generalize may y free = p
  cases p with
  | false => refine go ?_; first|rfl | trivial
  | true =>
  refine go ?_
  have ht : Int.toNat 1 ≤ (encTs x.f3).length ∧ (encTs x.f3).length ≤ (encTs x.f3).length ∧ ((encTs x.f3).all fun c => c.length == 4) = true := ⟨by rw [encTs_len]; show 1 ≤ _; omega, Nat.le_refl _, encTs_all _⟩
  rw [if_pos ht, take_len, show List.drop (Int.toNat 1) (encTs x.f3) = encTs r by rw [hr]; rfl]
  refine go ?_
  refine call (T := TAlts n) ⟨r, free, rfl, by omega, b3, fun q hq => by
   have hq' : q ∈ x.f3 := by rw [hr]; exact List.mem_cons_of_mem _ hq
   have := heightC_lt x q hq'; have := wtC_part x q hq'; exact ⟨by omega, by omega, by omega⟩, rfl⟩ ?_
  refine go ?_
  first|rfl | trivial
 | false =>
 have n5 : ¬ x.f0 = 5 := by simpa using k5
 refine go ?_
 rw [if_neg n1, if_neg n7, if_neg n9, if_neg n2, if_neg n3, if_neg n8, if_neg n4, if_neg n5]
abbrev TMay : Spec := fun args out => ∃ (x : Tm) (free : Int), args = [.agg (encT x), .s (.int .i64 free)] ∧ wt x ≤ 1000000000 ∧ -1000000000 ≤ free ∧ free + 9 * (height x : Int) ≤ 9000000000000000000 ∧ out = .ret (.s (.bool (may x free)))
theorem c_may {J : JW} (hJ : JOk J) : Con Tryz.prog J 21 TMay := by
 rintro args out ⟨x, free, rfl, h1, h2, h3, rfl⟩
 exact c_mayN hJ (height x + 1) _ _ ⟨x, free, rfl, ⟨Nat.lt_succ_self _, h1, h2, h3⟩, rfl⟩
end Go.Proofs.YtnjmilelifmfpaaGreatDoor.Ev

/- Plain Lean: what layers 8 and 9 tell of terms: a term in a variable's place; steps. No program in sight. -/
namespace Go.Proofs.YtnjmilelifmfpaaGreatDoor.HSub
open Go.Proofs.YtnjmilelifmfpaaGreatDoor.Q Go.Proofs.YtnjmilelifmfpaaGreatDoor.HCore
def more (k n : Int) : Int := if k = 2 then 1 else if k = 6 then n else 0
mutual
def turn (g : T → Int → T) : T → Int → T
 | ⟨k, n, s, l⟩, b => if k = 1 then g ⟨k, n, s, l⟩ b else ⟨k, n, s, turns g l (b + more k n)⟩
def turns (g : T → Int → T) : List T → Int → List T
 | [], _ => []
 | x :: r, b => turn g x b :: turns g r b
end
def bump (v : T) (m : Int) : T := ⟨v.f0, v.f1 + m, v.f2, v.f3⟩
def upV (m fr : Int) (v : T) (b : Int) : T := if fr + b ≤ v.f1 then bump v m else v
def up (x : T) (m fr : Int) : T := turn (upV m fr) x 0
def putV (k : Int) (s : T) (v : T) (b : Int) : T := if v.f1 = k + b then up s b 0 else if k + b < v.f1 then bump v (-1) else v
def put (x : T) (k : Int) (s : T) : T := turn (putV k s) x 0
def instV (l : List T) (v : T) (b : Int) : T :=
 if v.f1 - b < 0 then v else if v.f1 - b < (l.length : Int) then up (l.getD (l.length - 1 - (v.f1 - b).toNat) ⟨0, 0, ⟨#[]⟩, []⟩) b 0 else bump v (-(l.length : Int))
def inst (x : T) (l : List T) : T := turn (instV l) x 0
mutual
def tame : T → Prop
 | ⟨k, n, _, l⟩ => (k = 1 → 0 ≤ n ∧ n ≤ 5000000000000000000) ∧ (k = 6 → 0 ≤ n ∧ n ≤ 8) ∧ tames l
def tames : List T → Prop
 | [] => True
 | x :: r => tame x ∧ tames r
end
def failT : T := ⟨9, 0, ⟨#[]⟩, []⟩
def nothing : T := ⟨0, 0, ⟨#[]⟩, []⟩
def num (n : Int) : T := ⟨7, n, ⟨#[]⟩, []⟩
def truth (b : Bool) : T := ⟨4, 0, if b then ⟨#[84, 114, 117, 101]⟩ else ⟨#[70, 97, 108, 115, 101]⟩, []⟩
def wrap (x : Int) : Int := (x + 9223372036854775808) % 18446744073709551616 - 9223372036854775808
def compute (s : List UInt8) (a b : Int) : T × Int :=
 if s = [43] then (num (wrap (a + b)), 3) else if s = [45] then (num (wrap (a - b)), 3) else if s = [42] then (num (wrap (a * b)), 3)
 else if s = [47] then (if b = 0 then (failT, 4) else (num (wrap (a.tdiv b)), 3))
 else if s = [60] then (truth (decide (a < b)), 3) else if s = [61, 61] then (truth (decide (a = b)), 3) else (num 0, 3)
def still (k : Int) : Bool := decide (k = 2) || decide (k = 4) || decide (k = 7) || decide (k = 9)
def find (s : List UInt8) (n : Int) : List T → Option T
 | [] => none
 | x :: r => if x.f2.data.toList = s ∧ x.f1 = n then some x else find s n r
def hd (l : List T) : T := l.headD nothing
mutual
def hstep : T → T × Int
 | ⟨k, n, s, l⟩ =>
  if k = 3 then stepApp n s l else if k = 5 then stepCase n s l else if k = 8 then stepOp n s l else (⟨k, n, s, l⟩, 0)
def stepApp (n : Int) (s : ByteArray) : List T → T × Int
 | x :: r =>
  if x.f0 = 2 then (put (hd x.f3) 0 (hd r), 1)
  else if x.f0 = 4 ∨ x.f0 = 7 ∨ x.f0 = 9 then (failT, 4)
  else if (hstep x).2 = 0 then (⟨3, n, s, x :: r⟩, 0) else (⟨3, n, s, (hstep x).1 :: r⟩, (hstep x).2)
 | [] => (⟨3, n, s, []⟩, 0)
def stepCase (n : Int) (s : ByteArray) : List T → T × Int
 | x :: r =>
  if x.f0 = 2 ∨ x.f0 = 7 ∨ x.f0 = 9 then (failT, 4)
  else if x.f0 = 4 then (match find x.f2.data.toList x.f3.length r with
   | some a => (inst (hd a.f3) x.f3, 2)
   | none => (failT, 4))
  else if (hstep x).2 = 0 then (⟨5, n, s, x :: r⟩, 0) else (⟨5, n, s, (hstep x).1 :: r⟩, (hstep x).2)
 | [] => (⟨5, n, s, []⟩, 0)
def stepOp (n : Int) (s : ByteArray) : List T → T × Int
 | x :: r =>
  if x.f0 = 2 ∨ x.f0 = 4 ∨ x.f0 = 9 then (failT, 4)
  else if x.f0 = 7 then stepOp2 n s x r
  else if (hstep x).2 = 0 then (⟨8, n, s, x :: r⟩, 0) else (⟨8, n, s, (hstep x).1 :: r⟩, (hstep x).2)
 | [] => (⟨8, n, s, []⟩, 0)
def stepOp2 (n : Int) (s : ByteArray) (a : T) : List T → T × Int
 | x :: r =>
  if x.f0 = 2 ∨ x.f0 = 4 ∨ x.f0 = 9 then (failT, 4)
  else if x.f0 = 7 then compute s.data.toList a.f1 x.f1
  else if (hstep x).2 = 0 then (⟨8, n, s, a :: x :: r⟩, 0) else (⟨8, n, s, a :: (hstep x).1 :: r⟩, (hstep x).2)
 | [] => (⟨8, n, s, [a]⟩, 0)
end
def run : Nat → T → Int → Nat → T × Int × Int
 | 0, _, n, _ => (nothing, n, 90)
 | q + 1, x, n, fuel =>
  if 5000 < size x then (nothing, n, 91)
  else if (hstep x).2 = 0 then (x, n, 0)
  else if fuel = 0 then (nothing, n, 90)
  else run q (hstep x).1 (n + 1) (fuel - 1)
end Go.Proofs.YtnjmilelifmfpaaGreatDoor.HSub

namespace Go.Proofs.YtnjmilelifmfpaaGreatDoor.Pure
open Go Go.RowKit Go.Proofs.YtnjmilelifmfpaaGreatDoor.Q
open HCore Go.Proofs.YtnjmilelifmfpaaGreatDoor.HSub
set_option linter.unusedVariables false
set_option linter.unusedSimpArgs false
namespace CoreTurn
theorem len_turns (g : T → Int → T) : ∀ (l : List T) (b : Int), (turns g l b).length = l.length
 | [], _ => rfl
 | x :: r, b => by simp only [turns, List.length_cons, len_turns g r b]
theorem any_names (s : List UInt8) : ∀ (p q : List T), p.map (·.f2) = q.map (·.f2) → (p.any fun b => decide (b.f2.data.toList = s)) = (q.any fun b => decide (b.f2.data.toList = s))
 | [], [], _ => rfl
 | [], _ :: _, h => by simp at h
 | _ :: _, [], h => by simp at h
 | x :: p, y :: q, h => by
  simp only [List.map_cons, List.cons.injEq] at h
  simp only [List.any_cons, h.1, any_names s p q h.2]
structure Goes (g : T → Int → T) (a c : Int) : Prop where
 hc : 0 ≤ c
 hg : ∀ v b, 0 ≤ b → v.f0 = 1 → may v (a + b) = true → may (g v b) (c + b) = true
mutual
theorem turn_may (g : T → Int → T) (a c : Int) (H : Goes g a c) : ∀ (x : T) (b : Int), 0 ≤ b → may x (a + b) = true → may (turn g x b) (c + b) = true
 | ⟨k, n, s, l⟩, b, hb, h => by
  by_cases hk1 : k = 1
  ·have : turn g ⟨k, n, s, l⟩ b = g ⟨k, n, s, l⟩ b := by simp only [turn]; rw [if_pos hk1]
   rw [this]; exact H.hg _ b hb hk1 h
  ·have e : turn g ⟨k, n, s, l⟩ b = ⟨k, n, s, turns g l (b + more k n)⟩ := by simp only [turn]; rw [if_neg hk1]
   rw [e]
   simp only [may, len_turns] at h ⊢
   rw [if_neg hk1] at h ⊢
   by_cases h7 : k = 7
   ·simp only [h7, if_true, Bool.and_eq_true, decide_eq_true_eq] at h ⊢
    exact ⟨h.1, by have := H.hc; omega⟩
   rw [if_neg h7] at h ⊢
   by_cases h9 : k = 9
   ·simp only [h9, if_true, Bool.and_eq_true, decide_eq_true_eq] at h ⊢
    exact ⟨h.1, by have := H.hc; omega⟩
   rw [if_neg h9] at h ⊢
   by_cases h2 : k = 2
   ·subst h2
    simp only [if_true, Bool.and_eq_true, decide_eq_true_eq] at h ⊢
    have e1 : a + (b + more 2 n) = a + b + 1 := by show a + (b + 1) = _; omega
    have e2 : c + (b + more 2 n) = c + b + 1 := by show c + (b + 1) = _; omega
    have := each_turn g a c H l (b + more 2 n) (by show 0 ≤ b + 1; omega) (by rw [e1]; exact h.2)
    rw [e2] at this
    exact ⟨⟨h.1.1, by have := H.hc; omega⟩, this⟩
   rw [if_neg h2] at h ⊢
   have hm : (k = 6 → False) → b + more k n = b := fun h6 => by unfold more; rw [if_neg h2, if_neg (fun h => h6 h)]; omega
   by_cases h3 : k = 3
   ·have := hm (by omega)
    simp only [h3, if_true, Bool.and_eq_true, decide_eq_true_eq] at h ⊢
    rw [h3] at this; rw [this]
    exact ⟨h.1, each_turn g a c H l b hb h.2⟩
   rw [if_neg h3] at h ⊢
   by_cases h8 : k = 8
   ·have := hm (by omega)
    simp only [h8, if_true, Bool.and_eq_true, decide_eq_true_eq] at h ⊢
    rw [h8] at this; rw [this]
    exact ⟨h.1, each_turn g a c H l b hb h.2⟩
   rw [if_neg h8] at h ⊢
   by_cases h4 : k = 4
   ·have := hm (by omega)
    simp only [h4, if_true, Bool.and_eq_true, decide_eq_true_eq] at h ⊢
    rw [h4] at this; rw [this]
    exact ⟨⟨h.1.1, by have := H.hc; omega⟩, each_turn g a c H l b hb h.2⟩
   rw [if_neg h4] at h ⊢
   by_cases h5 : k = 5
   ·have := hm (by omega)
    simp only [h5, if_true, Bool.and_eq_true, decide_eq_true_eq] at h ⊢
    rw [h5] at this; rw [this]
    exact ⟨h.1, case_turn g a c H l b hb h.2⟩
   rw [if_neg h5] at h; cases h
theorem each_turn (g : T → Int → T) (a c : Int) (H : Goes g a c) : ∀ (l : List T) (b : Int), 0 ≤ b → each l (a + b) = true → each (turns g l b) (c + b) = true
 | [], _, _, _ => rfl
 | x :: r, b, hb, h => by
  simp only [each, turns, Bool.and_eq_true] at h ⊢
  exact ⟨turn_may g a c H x b hb h.1, each_turn g a c H r b hb h.2⟩
theorem case_turn (g : T → Int → T) (a c : Int) (H : Goes g a c) : ∀ (l : List T) (b : Int), 0 ≤ b → mayCase l (a + b) = true → mayCase (turns g l b) (c + b) = true
 | [], _, _, h => by simp [mayCase] at h
 | x :: r, b, hb, h => by
  simp only [mayCase, turns, len_turns, Bool.and_eq_true] at h ⊢
  exact ⟨⟨⟨turn_may g a c H x b hb h.1.1.1, alts_turn g a c H r b [] [] hb rfl h.1.1.2⟩, h.1.2⟩, h.2⟩
theorem alts_turn (g : T → Int → T) (a c : Int) (H : Goes g a c) : ∀ (l : List T) (b : Int) (p q : List T), 0 ≤ b → p.map (·.f2) = q.map (·.f2) → alts l (a + b) p = true → alts (turns g l b) (c + b) q = true
 | [], _, _, _, _, _, _ => rfl
 | ⟨k, n, s, l⟩ :: r, b, p, q, hb, hpq, h => by
  simp only [alts, Bool.and_eq_true, decide_eq_true_eq] at h
  have h6 : k = 6 := h.1.1.1.1.1.1.1
  have hn : 0 ≤ n := h.1.1.1.1.1.2
  have e : turn g ⟨k, n, s, l⟩ b = ⟨k, n, s, turns g l (b + n)⟩ := by
   simp only [turn]; rw [if_neg (by omega)]; rw [h6]; rfl
  simp only [turns]
  rw [e]
  simp only [alts, len_turns, Bool.and_eq_true, decide_eq_true_eq]
  have e1 : a + (b + n) = a + b + n := by omega
  have e2 : c + (b + n) = c + b + n := by omega
  have h1 := each_turn g a c H l (b + n) (by omega) (by rw [e1]; exact h.1.1.2)
  rw [e2] at h1
  have h2 := h.1.2
  rw [any_names s.data.toList p q hpq] at h2
  exact ⟨⟨⟨h.1.1.1, h1⟩, h2⟩, alts_turn g a c H r b _ _ hb (by simp [hpq]) h.2⟩
end
theorem may_var (v : T) (f : Int) (h : v.f0 = 1) : may v f = (decide (v.f3.length = 0) && decide (v.f2.data.toList = []) && decide (0 ≤ v.f1) && decide (v.f1 ≤ f - 1)) := by
 cases v; rename_i k n s l
 simp only at h
 simp only [may]; rw [if_pos h]
theorem may_bump (v : T) (m a c : Int) (h : v.f0 = 1) (hm : may v a = true) (h0 : 0 ≤ v.f1 + m) (h1 : v.f1 + m ≤ c - 1) : may (bump v m) c = true := by
 rw [may_var v a h] at hm
 rw [may_var (bump v m) c h]
 simp only [Bool.and_eq_true, decide_eq_true_eq] at hm ⊢
 exact ⟨⟨hm.1.1, h0⟩, h1⟩
theorem var_is (v : T) (a : Int) (h : v.f0 = 1) (hm : may v a = true) : 0 ≤ v.f1 ∧ v.f1 < a := by
 rw [may_var v a h] at hm
 simp only [Bool.and_eq_true, decide_eq_true_eq] at hm
 omega
theorem var_mono (v : T) (a c : Int) (h : v.f0 = 1) (hm : may v a = true) (hc : v.f1 < c) : may v c = true := by
 rw [may_var v a h] at hm
 rw [may_var v c h]
 simp only [Bool.and_eq_true, decide_eq_true_eq] at hm ⊢
 exact ⟨hm.1, by omega⟩
theorem up_may (x : T) (m fr a : Int) (ha : 0 ≤ a) (hm : 0 ≤ m) (h : may x a = true) : may (up x m fr) (a + m) = true := by
 have := turn_may (upV m fr) a (a + m) ⟨by omega, fun v b hb hv hx => by
  have := var_is v _ hv hx
  unfold upV
  split
  ·exact may_bump v m _ _ hv hx (by omega) (by omega)
  ·exact var_mono v _ _ hv hx (by omega)⟩ x 0 (by omega) (by rw [Int.add_zero]; exact h)
 rw [Int.add_zero] at this; exact this
theorem put_may (x s : T) (a : Int) (ha : 0 ≤ a) (hx : may x (a + 1) = true) (hs : may s a = true) : may (put x 0 s) a = true := by
 have := turn_may (putV 0 s) (a + 1) a ⟨ha, fun v b hb hv hm => by
  have := var_is v _ hv hm
  unfold putV
  split
  ·have h := up_may s b 0 a ha hb hs
   exact h
  ·split
   ·exact may_bump v _ _ _ hv hm (by omega) (by omega)
   ·exact var_mono v _ _ hv hm (by omega)⟩ x 0 (by omega) (by rw [Int.add_zero]; exact hx)
 rw [Int.add_zero] at this; exact this
theorem inst_may (x : T) (l : List T) (a : Int) (ha : 0 ≤ a) (hx : may x (a + l.length) = true) (hl : ∀ y ∈ l, may y a = true) : may (inst x l) a = true := by
 have := turn_may (instV l) (a + l.length) a ⟨ha, fun v b hb hv hm => by
  have := var_is v _ hv hm
  unfold instV
  split
  ·exact var_mono v _ _ hv hm (by omega)
  ·split
   ·rename_i h1 h2
    have hlt : l.length - 1 - (v.f1 - b).toNat < l.length := by omega
    have hy : may (l.getD (l.length - 1 - (v.f1 - b).toNat) ⟨0, 0, ⟨#[]⟩, []⟩) a = true := by
     rw [List.getD_eq_getElem?_getD, List.getElem?_eq_getElem hlt]
     exact hl _ (List.getElem_mem hlt)
    exact up_may _ b 0 a ha hb hy
   ·exact may_bump v _ _ _ hv hm (by omega) (by omega)⟩ x 0 (by omega) (by rw [Int.add_zero]; exact hx)
 rw [Int.add_zero] at this; exact this
end CoreTurn
end Go.Proofs.YtnjmilelifmfpaaGreatDoor.Pure

namespace Go.Proofs.YtnjmilelifmfpaaGreatDoor.Pure
open Go Go.RowKit Go.Proofs.YtnjmilelifmfpaaGreatDoor.Q
open HCore Go.Proofs.YtnjmilelifmfpaaGreatDoor.HSub
set_option linter.unusedVariables false
set_option linter.unusedSimpArgs false
namespace CoreStep
open CoreTurn
theorem may_is (k n : Int) (s : ByteArray) (l : List T) (free : Int) : may ⟨k, n, s, l⟩ free =
  (if k = 1 then decide (l.length = 0) && decide (s.data.toList = []) && decide (0 ≤ n) && decide (n ≤ free - 1)
  else if k = 7 then decide (l.length = 0) && decide (s.data.toList = []) && decide (0 ≤ free)
  else if k = 9 then decide (l.length = 0) && bare n s && decide (0 ≤ free)
  else if k = 2 then decide (l.length = 1) && bare n s && decide (0 ≤ free) && each l (free + 1)
  else if k = 3 then decide (l.length = 2) && bare n s && each l free
  else if k = 8 then decide (l.length = 2) && decide (n = 0) && oper s && each l free
  else if k = 4 then decide (l.length ≤ 8) && decide (n = 0) && con s && decide (0 ≤ free) && each l free
  else if k = 5 then decide (2 ≤ l.length) && bare n s && mayCase l free
  else false) := by rw [may]
theorem may_fail (a : Int) (ha : 0 ≤ a) : may failT a = true := by
 unfold failT; rw [may_is]; simp [bare, ha]
theorem may_num (n a : Int) (ha : 0 ≤ a) : may (num n) a = true := by
 unfold num; rw [may_is]; simp [ha]
theorem con_true : con ⟨#[84, 114, 117, 101]⟩ = true := by decide +kernel
theorem con_false : con ⟨#[70, 97, 108, 115, 101]⟩ = true := by decide +kernel
theorem may_truth (b : Bool) (a : Int) (ha : 0 ≤ a) : may (truth b) a = true := by
 unfold truth; rw [may_is]
 cases b
 ·simp [con_false, ha, each]
 ·simp [con_true, ha, each]
theorem may_compute (s : List UInt8) (p q a : Int) (ha : 0 ≤ a) : may (compute s p q).1 a = true := by
 unfold compute
 split
 ·exact may_num _ a ha
 split
 ·exact may_num _ a ha
 split
 ·exact may_num _ a ha
 split
 ·split
  ·exact may_fail a ha
  ·exact may_num _ a ha
 split
 ·exact may_truth _ a ha
 split
 ·exact may_truth _ a ha
 ·exact may_num _ a ha
theorem compute_goes (s : List UInt8) (p q : Int) : (compute s p q).2 = 3 ∨ (compute s p q).2 = 4 := by
 unfold compute
 split
 ·exact .inl rfl
 split
 ·exact .inl rfl
 split
 ·exact .inl rfl
 split
 ·split
  ·exact .inr rfl
  ·exact .inl rfl
 split
 ·exact .inl rfl
 split
 ·exact .inl rfl
 ·exact .inl rfl
theorem each_get {l : List T} {a : Int} (h : each l a = true) {x : T} (hx : x ∈ l) : may x a = true := by
 rw [each_iff] at h; exact List.all_eq_true.1 h x hx
theorem alt_get : ∀ {l : List T} {a : Int} {p : List T}, alts l a p = true → ∀ x ∈ l, x.f0 = 6 ∧ 0 ≤ x.f1 ∧ x.f1 ≤ 8 ∧ x.f3.length = 1 ∧ each x.f3 (a + x.f1) = true
 | [], _, _, _, _, hx => by cases hx
 | ⟨k, n, s, l⟩ :: r, a, p, h, x, hx => by
  simp only [alts, Bool.and_eq_true, decide_eq_true_eq] at h
  rcases List.mem_cons.1 hx with rfl | hx
  ·exact ⟨h.1.1.1.1.1.1.1, h.1.1.1.1.1.2, h.1.1.1.1.2, h.1.1.1.2, h.1.1.2⟩
  ·exact alt_get h.2 x hx
theorem find_mem {s : List UInt8} {n : Int} {a : T} : ∀ {l : List T}, find s n l = some a → a ∈ l ∧ a.f1 = n
 | [], h => by simp [find] at h
 | x :: r, h => by
  simp only [find] at h
  split at h
  ·rename_i hc; cases h; exact ⟨List.mem_cons_self .., hc.2⟩
  ·have := find_mem h; exact ⟨List.mem_cons_of_mem _ this.1, this.2⟩
theorem hd_one {l : List T} (h : l.length = 1) : ∃ x, l = [x] := by
 match l, h with
 | [x], _ => exact ⟨x, rfl⟩
theorem hd_two {l : List T} (h : l.length = 2) : ∃ x y, l = [x, y] := by
 match l, h with
 | [x, y], _ => exact ⟨x, y, rfl⟩
theorem app_is {n : Int} {s : ByteArray} {l : List T} {a : Int} (h : may ⟨3, n, s, l⟩ a = true) : ∃ x y, l = [x, y] ∧ may x a = true ∧ may y a = true ∧ bare n s = true := by
 rw [may_is] at h
 simp only [show ¬ (3 : Int) = 1 by decide, show ¬ (3 : Int) = 7 by decide, show ¬ (3 : Int) = 9 by decide, show ¬ (3 : Int) = 2 by decide, if_false, if_true, Bool.and_eq_true, decide_eq_true_eq] at h
 obtain ⟨x, y, rfl⟩ := hd_two h.1.1
 exact ⟨x, y, rfl, each_get h.2 (by simp), each_get h.2 (by simp), h.1.2⟩
theorem op_is {n : Int} {s : ByteArray} {l : List T} {a : Int} (h : may ⟨8, n, s, l⟩ a = true) : ∃ x y, l = [x, y] ∧ may x a = true ∧ may y a = true ∧ n = 0 ∧ oper s = true := by
 rw [may_is] at h
 simp only [show ¬ (8 : Int) = 1 by decide, show ¬ (8 : Int) = 7 by decide, show ¬ (8 : Int) = 9 by decide, show ¬ (8 : Int) = 2 by decide, show ¬ (8 : Int) = 3 by decide, if_false, if_true, Bool.and_eq_true, decide_eq_true_eq] at h
 obtain ⟨x, y, rfl⟩ := hd_two h.1.1.1
 exact ⟨x, y, rfl, each_get h.2 (by simp), each_get h.2 (by simp), h.1.1.2, h.1.2⟩
theorem case_is {n : Int} {s : ByteArray} {l : List T} {a : Int} (h : may ⟨5, n, s, l⟩ a = true) : ∃ x r, l = x :: r ∧ may x a = true ∧ alts r a [] = true ∧ 1 ≤ r.length ∧ r.length ≤ 8 ∧ bare n s = true := by
 rw [may_is] at h
 simp only [show ¬ (5 : Int) = 1 by decide, show ¬ (5 : Int) = 7 by decide, show ¬ (5 : Int) = 9 by decide, show ¬ (5 : Int) = 2 by decide, show ¬ (5 : Int) = 3 by decide, show ¬ (5 : Int) = 8 by decide, show ¬ (5 : Int) = 4 by decide, if_false, if_true, Bool.and_eq_true, decide_eq_true_eq] at h
 match l, h with
 | x :: r, h =>
  simp only [mayCase, Bool.and_eq_true, decide_eq_true_eq] at h
  exact ⟨x, r, rfl, h.2.1.1.1, h.2.1.1.2, h.2.1.2, h.2.2, h.1.2⟩
theorem mk_app {n : Int} {s : ByteArray} {x y : T} {a : Int} (hx : may x a = true) (hy : may y a = true) (hb : bare n s = true) : may ⟨3, n, s, [x, y]⟩ a = true := by
 rw [may_is]
 simp [hx, hy, hb, each]
theorem mk_op {s : ByteArray} {x y : T} {a : Int} (hx : may x a = true) (hy : may y a = true) (hb : oper s = true) : may ⟨8, 0, s, [x, y]⟩ a = true := by
 rw [may_is]
 simp [hx, hy, hb, each]
theorem mk_case {n : Int} {s : ByteArray} {x : T} {r : List T} {a : Int} (hx : may x a = true) (hr : alts r a [] = true) (h1 : 1 ≤ r.length) (h8 : r.length ≤ 8) (hb : bare n s = true) : may ⟨5, n, s, x :: r⟩ a = true := by
 rw [may_is]
 simp [hx, hr, hb, mayCase, h8]
 omega
theorem kinds {x : T} {a : Int} (h : may x a = true) : x.f0 = 1 ∨ x.f0 = 7 ∨ x.f0 = 9 ∨ x.f0 = 2 ∨ x.f0 = 3 ∨ x.f0 = 8 ∨ x.f0 = 4 ∨ x.f0 = 5 := by
 cases x; rename_i k n s l
 rw [may_is] at h
 show k = 1 ∨ k = 7 ∨ k = 9 ∨ k = 2 ∨ k = 3 ∨ k = 8 ∨ k = 4 ∨ k = 5
 by_cases h1 : k = 1
 ·omega
 rw [if_neg h1] at h
 by_cases h7 : k = 7
 ·omega
 rw [if_neg h7] at h
 by_cases h9 : k = 9
 ·omega
 rw [if_neg h9] at h
 by_cases h2 : k = 2
 ·omega
 rw [if_neg h2] at h
 by_cases h3 : k = 3
 ·omega
 rw [if_neg h3] at h
 by_cases h8 : k = 8
 ·omega
 rw [if_neg h8] at h
 by_cases h4 : k = 4
 ·omega
 rw [if_neg h4] at h
 by_cases h5 : k = 5
 ·omega
 rw [if_neg h5] at h; cases h
theorem lam_is {x : T} {a : Int} (h : may x a = true) (h2 : x.f0 = 2) : ∃ y, x.f3 = [y] ∧ may y (a + 1) = true := by
 cases x; rename_i k n s l
 simp only at h2; subst h2
 rw [may_is] at h
 simp only [show ¬ (2 : Int) = 1 by decide, show ¬ (2 : Int) = 7 by decide, show ¬ (2 : Int) = 9 by decide, if_false, if_true, Bool.and_eq_true, decide_eq_true_eq] at h
 obtain ⟨y, rfl⟩ := hd_one h.1.1.1
 exact ⟨y, rfl, each_get h.2 (by simp)⟩
theorem con_is {x : T} {a : Int} (h : may x a = true) (h4 : x.f0 = 4) : x.f3.length ≤ 8 ∧ x.f1 = 0 ∧ con x.f2 = true ∧ each x.f3 a = true := by
 cases x; rename_i k n s l
 simp only at h4; subst h4
 rw [may_is] at h
 simp only [show ¬ (4 : Int) = 1 by decide, show ¬ (4 : Int) = 7 by decide, show ¬ (4 : Int) = 9 by decide, show ¬ (4 : Int) = 2 by decide, show ¬ (4 : Int) = 3 by decide, show ¬ (4 : Int) = 8 by decide, if_false, if_true, Bool.and_eq_true, decide_eq_true_eq] at h
 exact ⟨h.1.1.1.1, h.1.1.1.2, h.1.1.2, h.2⟩
theorem step_is (k n : Int) (s : ByteArray) (l : List T) : hstep ⟨k, n, s, l⟩ = if k = 3 then stepApp n s l else if k = 5 then stepCase n s l else if k = 8 then stepOp n s l else (⟨k, n, s, l⟩, 0) := by rw [hstep]
theorem step_may : ∀ (q : Nat) (x : T) (a : Int), height x ≤ q → 0 ≤ a → may x a = true → may (hstep x).1 a = true
 | 0, x, a, hq, _, _ => by cases x; simp only [height] at hq; omega
 | q + 1, ⟨k, n, s, l⟩, a, hq, ha, h => by
  simp only [height] at hq
  rw [step_is]
  by_cases h3 : k = 3
  ·subst h3
   rw [if_pos rfl]
   obtain ⟨x, y, rfl, hx, hy, hb⟩ := app_is h
   have hh : height x ≤ q := by have := height_get (l := [x, y]) (x := x) (by simp); omega
   simp only [stepApp]
   by_cases c2 : x.f0 = 2
   ·rw [if_pos c2]
    obtain ⟨z, hz, hmz⟩ := lam_is hx c2
    rw [hz]
    exact put_may z y a ha hmz hy
   ·rw [if_neg c2]
    split
    ·exact may_fail a ha
    ·split
     ·exact h
     ·exact mk_app (step_may q x a hh ha hx) hy hb
  rw [if_neg h3]
  by_cases h5 : k = 5
  ·subst h5
   rw [if_pos rfl]
   obtain ⟨x, r, rfl, hx, hr, h1, h8, hb⟩ := case_is h
   have hh : height x ≤ q := by have := height_get (l := x :: r) (x := x) (by simp); omega
   simp only [stepCase]
   split
   ·exact may_fail a ha
   ·split
    ·rename_i c4
     cases hf : find x.f2.data.toList x.f3.length r with
     | none => exact may_fail a ha
     | some z =>
      obtain ⟨hm, hn⟩ := find_mem hf
      obtain ⟨_, _, _, h1', he⟩ := alt_get hr z hm
      obtain ⟨b, hb1⟩ := hd_one h1'
      simp only [hb1]
      rw [hb1, hn] at he
      exact inst_may b x.f3 a ha (each_get he (by simp)) (fun y hy => each_get (con_is hx c4).2.2.2 hy)
    ·split
     ·exact h
     ·exact mk_case (step_may q x a hh ha hx) hr h1 h8 hb
  rw [if_neg h5]
  by_cases h8 : k = 8
  ·subst h8
   rw [if_pos rfl]
   obtain ⟨x, y, rfl, hx, hy, rfl, hb⟩ := op_is h
   have hh : height x ≤ q := by have := height_get (l := [x, y]) (x := x) (by simp); omega
   have hh2 : height y ≤ q := by have := height_get (l := [x, y]) (x := y) (by simp); omega
   simp only [stepOp]
   split
   ·exact may_fail a ha
   ·split
    ·simp only [stepOp2]
     split
     ·exact may_fail a ha
     ·split
      ·exact may_compute _ _ _ a ha
      ·split
       ·exact h
       ·exact mk_op hx (step_may q y a hh2 ha hy) hb
    ·split
     ·exact h
     ·exact mk_op (step_may q x a hh ha hx) hy hb
  rw [if_neg h8]
  exact h
theorem step_none : ∀ (x : T), (hstep x).2 = 0 → (hstep x).1 = x
 | ⟨k, n, s, l⟩ => by
  rw [step_is]
  intro h
  split at h
  ·rename_i h3; subst h3
   rw [if_pos rfl]
   cases l with
   | nil => simp [stepApp]
   | cons x r =>
    simp only [stepApp] at h ⊢
    split at h
    ·simp at h
    ·split at h
     ·simp at h
     ·rename_i c1 c2
      rw [if_neg c1, if_neg c2]
      split at h
      ·rename_i c3; rw [if_pos c3]
      ·rename_i c3; exact absurd h c3
  ·rename_i h3
   rw [if_neg h3]
   split at h
   ·rename_i h5; subst h5
    rw [if_pos rfl]
    cases l with
    | nil => simp [stepCase]
    | cons x r =>
     simp only [stepCase] at h ⊢
     split at h
     ·simp at h
     ·split at h
      ·split at h <;> simp at h
      ·rename_i c1 c2
       rw [if_neg c1, if_neg c2]
       split at h
       ·rename_i c3; rw [if_pos c3]
       ·rename_i c3; exact absurd h c3
   ·rename_i h5
    rw [if_neg h5]
    split at h
    ·rename_i h8; subst h8
     rw [if_pos rfl]
     cases l with
     | nil => simp [stepOp]
     | cons x r =>
      simp only [stepOp] at h ⊢
      split at h
      ·simp at h
      ·rename_i c1
       rw [if_neg c1]
       split at h
       ·rename_i c2
        rw [if_pos c2]
        cases r with
        | nil => simp [stepOp2]
        | cons y r =>
         simp only [stepOp2] at h ⊢
         split at h
         ·simp at h
         ·rename_i d1
          rw [if_neg d1]
          split at h
          ·have := compute_goes s.data.toList x.f1 y.f1; omega
          ·rename_i d2
           rw [if_neg d2]
           split at h
           ·rename_i d3; rw [if_pos d3]
           ·rename_i d3; exact absurd h d3
       ·rename_i c2
        rw [if_neg c2]
        split at h
        ·rename_i c3; rw [if_pos c3]
        ·rename_i c3; exact absurd h c3
    ·rename_i h8; rw [if_neg h8]
theorem closed_still : ∀ (q : Nat) (x : T), height x ≤ q → may x 0 = true → (hstep x).2 = 0 → x.f0 = 2 ∨ x.f0 = 4 ∨ x.f0 = 7 ∨ x.f0 = 9
 | 0, x, hq, _, _ => by cases x; simp only [height] at hq; omega
 | q + 1, ⟨k, n, s, l⟩, hq, h, h0 => by
  simp only [height] at hq
  rw [step_is] at h0
  have hk := kinds h
  show k = 2 ∨ k = 4 ∨ k = 7 ∨ k = 9
  simp only at hk
  by_cases h1 : k = 1
  ·have := var_is _ _ h1 h; omega
  by_cases h3 : k = 3
  ·subst h3
   rw [if_pos rfl] at h0
   obtain ⟨x, y, rfl, hx, hy, hb⟩ := app_is h
   have hh : height x ≤ q := by have := height_get (l := [x, y]) (x := x) (by simp); omega
   simp only [stepApp] at h0
   split at h0
   ·simp at h0
   ·split at h0
    ·simp at h0
    ·split at h0
     ·rename_i c1 c2 c3; have := closed_still q x hh hx c3; omega
     ·rename_i c1 c2 c3; exact absurd h0 c3
  rw [if_neg h3] at h0
  by_cases h5 : k = 5
  ·subst h5
   rw [if_pos rfl] at h0
   obtain ⟨x, r, rfl, hx, hr, _, _, hb⟩ := case_is h
   have hh : height x ≤ q := by have := height_get (l := x :: r) (x := x) (by simp); omega
   simp only [stepCase] at h0
   split at h0
   ·simp at h0
   ·split at h0
    ·split at h0 <;> simp at h0
    ·split at h0
     ·rename_i c1 c2 c3; have := closed_still q x hh hx c3; omega
     ·rename_i c1 c2 c3; exact absurd h0 c3
  rw [if_neg h5] at h0
  by_cases h8 : k = 8
  ·subst h8
   rw [if_pos rfl] at h0
   obtain ⟨x, y, rfl, hx, hy, _, hb⟩ := op_is h
   have hh : height x ≤ q := by have := height_get (l := [x, y]) (x := x) (by simp); omega
   have hh2 : height y ≤ q := by have := height_get (l := [x, y]) (x := y) (by simp); omega
   simp only [stepOp] at h0
   split at h0
   ·simp at h0
   ·split at h0
    ·simp only [stepOp2] at h0
     split at h0
     ·simp at h0
     ·split at h0
      ·have := compute_goes s.data.toList x.f1 y.f1; omega
      ·split at h0
       ·rename_i c1 c2 c3 c4 c5; have := closed_still q y hh2 hy c5; omega
       ·rename_i c1 c2 c3 c4 c5; exact absurd h0 c5
    ·split at h0
     ·rename_i c1 c2 c3; have := closed_still q x hh hx c3; omega
     ·rename_i c1 c2 c3; exact absurd h0 c3
  omega
theorem still_none (x : T) (h : x.f0 = 2 ∨ x.f0 = 4 ∨ x.f0 = 7 ∨ x.f0 = 9) : hstep x = (x, 0) := by
 cases x; rename_i k n s l
 simp only at h
 rw [step_is, if_neg (by omega), if_neg (by omega), if_neg (by omega)]
end CoreStep
end Go.Proofs.YtnjmilelifmfpaaGreatDoor.Pure

namespace Go.Proofs.YtnjmilelifmfpaaGreatDoor.Pure
open Go Go.RowKit Go.Proofs.YtnjmilelifmfpaaGreatDoor.Q
open HCore Go.Proofs.YtnjmilelifmfpaaGreatDoor.HSub
set_option linter.unusedVariables false
set_option linter.unusedSimpArgs false
namespace CoreRun
open CoreTurn CoreStep
theorem size_pos : ∀ x : T, 1 ≤ size x
 | ⟨_, _, _, l⟩ => by simp only [size]; omega
theorem size_mem {l : List T} {x : T} (h : x ∈ l) : size x ≤ sizes l := by
 induction l with
 | nil => cases h
 | cons y r ih =>
  simp only [sizes]
  rcases List.mem_cons.1 h with rfl | h
  ·omega
  ·have := ih h; omega
mutual
theorem size_turn (g : T → Int → T) (m : Nat) (h1 : 1 ≤ m) (hg : ∀ v b, v.f0 = 1 → size (g v b) ≤ size v * m) : ∀ (x : T) (b : Int), size (turn g x b) ≤ size x * m
 | ⟨k, n, s, l⟩, b => by
  simp only [turn]
  split
  ·rename_i hk; exact hg _ b hk
  ·have := sizes_turn g m h1 hg l (b + more k n)
   simp only [size]
   rw [Nat.add_mul]; omega
theorem sizes_turn (g : T → Int → T) (m : Nat) (h1 : 1 ≤ m) (hg : ∀ v b, v.f0 = 1 → size (g v b) ≤ size v * m) : ∀ (l : List T) (b : Int), sizes (turns g l b) ≤ sizes l * m
 | [], _ => by simp [turns, sizes]
 | x :: r, b => by
  have h2 := size_turn g m h1 hg x b
  have h3 := sizes_turn g m h1 hg r b
  simp only [turns, sizes]
  rw [Nat.add_mul]; omega
end
theorem size_bump (v : T) (m : Int) : size (bump v m) = size v := by cases v; rfl
theorem size_up (x : T) (m fr : Int) : ∀ b, size (turn (upV m fr) x b) ≤ size x := by
 intro b
 have := size_turn (upV m fr) 1 (Nat.le_refl _) (fun v b _ => by
  unfold upV; split
  ·rw [size_bump]; omega
  ·omega) x b
 omega
theorem size_put (x s : T) : size (put x 0 s) ≤ size x * size s := by
 refine size_turn (putV 0 s) (size s) (size_pos s) (fun v b _ => ?_) x 0
 have hv := size_pos v; have hs := size_pos s
 unfold putV
 split
 ·have := size_up s b 0 0
  have h2 : 1 * size s ≤ size v * size s := Nat.mul_le_mul_right _ hv
  unfold up; omega
 ·split
  ·rw [size_bump]; exact Nat.le_mul_of_pos_right _ hs
  ·exact Nat.le_mul_of_pos_right _ hs
theorem size_inst (x : T) (l : List T) : size (inst x l) ≤ size x * (sizes l + 1) := by
 refine size_turn (instV l) (sizes l + 1) (by omega) (fun v b _ => ?_) x 0
 have hv := size_pos v
 unfold instV
 split
 ·exact Nat.le_mul_of_pos_right _ (by omega)
 ·split
  ·rename_i h1 h2
   have hlt : l.length - 1 - (v.f1 - b).toNat < l.length := by omega
   rw [List.getD_eq_getElem?_getD, List.getElem?_eq_getElem hlt]
   have h3 := size_up (l[l.length - 1 - (v.f1 - b).toNat]) b 0 0
   have h4 := size_mem (List.getElem_mem hlt)
   have h5 : 1 * (sizes l + 1) ≤ size v * (sizes l + 1) := Nat.mul_le_mul_right _ hv
   simp only [Option.getD_some]
   unfold up; omega
  ·rw [size_bump]; exact Nat.le_mul_of_pos_right _ (by omega)
theorem size_is (k n : Int) (s : ByteArray) (l : List T) : size ⟨k, n, s, l⟩ = sizes l + 1 := by rw [size]
theorem size_of (x : T) : size x = sizes x.f3 + 1 := by cases x; rw [size]
theorem sq (a b : Nat) : (a + b) * (a + b) = a * a + 2 * (a * b) + b * b := by
 rw [Nat.add_mul, Nat.mul_add, Nat.mul_add, Nat.mul_comm b a]; omega
theorem size_hd (l : List T) : size (hd l) ≤ sizes l + 1 := by
 cases l with
 | nil => show 1 ≤ _; omega
 | cons x r => show size x ≤ _; simp only [sizes]; omega
theorem size_compute (s : List UInt8) (p q : Int) : size (compute s p q).1 = 1 := by
 unfold compute
 split
 ·rfl
 split
 ·rfl
 split
 ·rfl
 split
 ·split <;> rfl
 split
 ·rfl
 split
 ·rfl
 ·rfl
theorem size_step : ∀ (q : Nat) (x : T), height x ≤ q → size (hstep x).1 ≤ size x * size x
 | 0, x, hq => by cases x; simp only [height] at hq; omega
 | q + 1, ⟨k, n, s, l⟩, hq => by
  simp only [height] at hq
  have one : ∀ m : Nat, 1 ≤ (m + 1) * (m + 1) := fun m => by
   have := Nat.mul_le_mul (show 1 ≤ m + 1 by omega) (show 1 ≤ m + 1 by omega); omega
  have self : ∀ m : Nat, m + 1 ≤ (m + 1) * (m + 1) := fun m => Nat.le_mul_of_pos_right _ (by omega)
  rw [step_is, size_is]
  by_cases h3 : k = 3
  ·rw [if_pos h3]
   cases l with
   | nil => exact self _
   | cons x r =>
    have hx : height x ≤ q := by have := height_get (l := x :: r) (x := x) (by simp); omega
    have ih := size_step q x hx
    simp only [stepApp, sizes]
    split
    ·have h1 := size_put (hd x.f3) (hd r)
     have h2 := size_hd x.f3; have h3 := size_hd r; have h4 := size_of x
     have h5 := Nat.mul_le_mul (show size (hd x.f3) ≤ size x + sizes r + 1 by omega) (show size (hd r) ≤ size x + sizes r + 1 by omega)
     exact Nat.le_trans h1 h5
    ·split
     ·exact one _
     ·split
      ·simp only [size, sizes]; exact self _
      ·simp only [size, sizes]
       have h6 := sq (size x) (sizes r + 1)
       rw [← Nat.add_assoc] at h6
       have h7 := self (sizes r)
       omega
  rw [if_neg h3]
  by_cases h5 : k = 5
  ·rw [if_pos h5]
   cases l with
   | nil => exact self _
   | cons x r =>
    have hx : height x ≤ q := by have := height_get (l := x :: r) (x := x) (by simp); omega
    have ih := size_step q x hx
    simp only [stepCase, sizes]
    split
    ·exact one _
    ·split
     ·cases hf : find x.f2.data.toList x.f3.length r with
      | none => exact one _
      | some z =>
       have hm := size_mem (find_mem hf).1
       have h1 := size_inst (hd z.f3) x.f3
       have h2 := size_hd z.f3; have h4 := size_of z; have h8 := size_of x
       have h5 := Nat.mul_le_mul (show size (hd z.f3) ≤ size x + sizes r + 1 by omega) (show sizes x.f3 + 1 ≤ size x + sizes r + 1 by omega)
       exact Nat.le_trans h1 h5
     ·split
      ·simp only [size, sizes]; exact self _
      ·simp only [size, sizes]
       have h6 := sq (size x) (sizes r + 1)
       rw [← Nat.add_assoc] at h6
       have h7 := self (sizes r)
       omega
  rw [if_neg h5]
  by_cases h8 : k = 8
  ·rw [if_pos h8]
   cases l with
   | nil => exact self _
   | cons x r =>
    have hx : height x ≤ q := by have := height_get (l := x :: r) (x := x) (by simp); omega
    have ih := size_step q x hx
    simp only [stepOp, sizes]
    split
    ·exact one _
    ·split
     ·cases r with
      | nil => simp only [stepOp2, size, sizes]; exact self _
      | cons y r =>
       have hy : height y ≤ q := by have := height_get (l := x :: y :: r) (x := y) (by simp); omega
       have ihy := size_step q y hy
       simp only [stepOp2, sizes]
       split
       ·exact one _
       ·split
        ·rw [size_compute]; exact one _
        ·split
         ·simp only [size, sizes]; exact self _
         ·simp only [size, sizes]
          have h6 := sq (size y) (size x + sizes r + 1)
          rw [show size y + (size x + sizes r + 1) = size x + (size y + sizes r) + 1 by omega] at h6
          have h7 := self (size x + sizes r)
          omega
     ·split
      ·simp only [size, sizes]; exact self _
      ·simp only [size, sizes]
       have h6 := sq (size x) (sizes r + 1)
       rw [← Nat.add_assoc] at h6
       have h7 := self (sizes r)
       omega
  rw [if_neg h8]
  simp only [size]; exact self _
def steps : Nat → T → T
 | 0, x => x
 | i + 1, x => steps i (hstep x).1
theorem run_is (q : Nat) (x : T) (n : Int) (fuel : Nat) : run (q + 1) x n fuel = if 5000 < size x then (nothing, n, 91) else if (hstep x).2 = 0 then (x, n, 0) else if fuel = 0 then (nothing, n, 90) else run q (hstep x).1 (n + 1) (fuel - 1) := by rw [run]
theorem run_tells : ∀ (q : Nat) (x : T) (n : Int) (fuel : Nat), fuel < q → ∃ m : Nat, m ≤ fuel ∧ (run q x n fuel).2.1 = n + m ∧ (∀ i, i < m → (hstep (steps i x)).2 ≠ 0 ∧ size (steps i x) ≤ 5000) ∧
  ((run q x n fuel = (steps m x, n + m, 0) ∧ (hstep (steps m x)).2 = 0 ∧ size (steps m x) ≤ 5000) ∨ (run q x n fuel = (nothing, n + m, 90) ∧ m = fuel ∧ (hstep (steps m x)).2 ≠ 0 ∧ size (steps m x) ≤ 5000) ∨ (run q x n fuel = (nothing, n + m, 91) ∧ 5000 < size (steps m x)))
 | 0, _, _, _, h => by omega
 | q + 1, x, n, fuel, h => by
  rw [run_is]
  by_cases h5 : 5000 < size x
  ·rw [if_pos h5]
   exact ⟨0, by omega, by simp, fun i hi => by omega, .inr (.inr ⟨by simp, h5⟩)⟩
  rw [if_neg h5]
  by_cases h0 : (hstep x).2 = 0
  ·rw [if_pos h0]
   exact ⟨0, by omega, by simp, fun i hi => by omega, .inl ⟨by simp [steps], h0, by show size x ≤ _; omega⟩⟩
  rw [if_neg h0]
  by_cases hf : fuel = 0
  ·rw [if_pos hf]
   exact ⟨0, by omega, by simp, fun i hi => by omega, .inr (.inl ⟨by simp, hf.symm, h0, by show size x ≤ _; omega⟩)⟩
  rw [if_neg hf]
  obtain ⟨m, hm, h1, h2, h3⟩ := run_tells q (hstep x).1 (n + 1) (fuel - 1) (by omega)
  have e : n + 1 + (m : Int) = n + ((m + 1 : Nat) : Int) := by omega
  rw [e] at h1 h3
  refine ⟨m + 1, by omega, h1, fun i hi => ?_, ?_⟩
  ·cases i with
   | zero => exact ⟨h0, by show size x ≤ _; omega⟩
   | succ i => exact h2 i (by omega)
  ·rcases h3 with h3 | h3 | h3
   ·exact .inl h3
   ·exact .inr (.inl ⟨h3.1, by omega, h3.2.2⟩)
   ·exact .inr (.inr h3)
theorem steps_may : ∀ (i : Nat) (x : T) (a : Int), 0 ≤ a → may x a = true → may (steps i x) a = true
 | 0, _, _, _, h => h
 | i + 1, x, a, ha, h => steps_may i _ a ha (step_may _ x a (Nat.le_refl _) ha h)
theorem steps_add : ∀ (i j : Nat) (x : T), steps (i + j) x = steps j (steps i x)
 | 0, j, x => by rw [Nat.zero_add]; rfl
 | i + 1, j, x => by rw [Nat.succ_add]; exact steps_add i j _
theorem steps_one (i : Nat) (x : T) : steps (i + 1) x = (hstep (steps i x)).1 := by rw [steps_add]; rfl
theorem run_ends : ∀ (m q : Nat) (x : T) (n : Int) (fuel : Nat), m ≤ fuel → fuel < q → (∀ i, i < m → (hstep (steps i x)).2 ≠ 0 ∧ size (steps i x) ≤ 5000) → (hstep (steps m x)).2 = 0 → size (steps m x) ≤ 5000 → run q x n fuel = (steps m x, n + m, 0)
 | 0, q, x, n, fuel, _, hq, _, h0, h5 => by
  obtain ⟨q, rfl⟩ : ∃ p, q = p + 1 := ⟨q - 1, by omega⟩
  have h0' : (hstep x).2 = 0 := h0
  have h5' : size x ≤ 5000 := h5
  rw [run_is, if_neg (by omega), if_pos h0']; simp [steps]
 | m + 1, q, x, n, fuel, hm, hq, hs, h0, h5 => by
  obtain ⟨q, rfl⟩ : ∃ p, q = p + 1 := ⟨q - 1, by omega⟩
  have h1 := hs 0 (by omega)
  have h1' : (hstep x).2 ≠ 0 ∧ size x ≤ 5000 := h1
  rw [run_is, if_neg (by omega), if_neg h1'.1, if_neg (by omega), run_ends m q (hstep x).1 (n + 1) (fuel - 1) (by omega) (by omega) (fun i hi => hs (i + 1) (by omega)) h0 h5]
  simp only [steps]
  rw [show n + 1 + (m : Int) = n + ((m + 1 : Nat) : Int) by omega]
end CoreRun
end Go.Proofs.YtnjmilelifmfpaaGreatDoor.Pure

namespace Go.Proofs.YtnjmilelifmfpaaGreatDoor.Ev
open Go Go.RowKit
def c57 : ACode := (.seq (.reg [b 0 (.alloc [(.int .i64 0), (.int .i64 0), (.string ⟨#[]⟩), (.slice none 0 0)]), b 1 (.mv (I 0))]) (.seq (.reg [b 2 (.bld [(.int .i64 0), (.int .i64 0), (.string ⟨#[]⟩), (.slice none 0 0)] [(0, (1, (I 9)))]), b0 (.st 4 (T 0) (T 2)), b 1 (.mv (I 4))]) .ret))
theorem k57 : ∃ code, Tryz.prog.funcs[57]? = some Tryz.f57 ∧ Tryz.f57.body = some code ∧ comp Tryz.prog Tryz.f57.ntmps code = some c57 ∧ rvs Tryz.prog Tryz.f57.results.toList = some [(.c true 4 0), (.t 1)] := ⟨_, Tryz.func57, rfl, by kernel_rfl, by kernel_rfl⟩
def c92 : ACode := (.seq (.reg [b 2 (.alloc [(.int .i64 0), (.int .i64 0), (.string ⟨#[]⟩), (.slice none 0 0)]), b 3 (.mv (I 0))]) (.seq (.reg [b 4 (.mv (S [70, 97, 108, 115, 101]))]) (.seq (.seq (.reg [b 5 (.mv (T 0))]) (.cond (T 5) (.reg [b 4 (.mv (S [84, 114, 117, 101]))]) .skip)) (.seq (.reg [b 6 (.mv (T 4)), b 7 (.bld [(.int .i64 0), (.int .i64 0), (.string ⟨#[]⟩), (.slice none 0 0)] [(0, (1, (I 4))), (2, (1, (T 6)))]), b0 (.st 4 (T 2) (T 7)), b 3 (.mv (I 3))]) .ret))))
theorem k92 : ∃ code, Tryz.prog.funcs[92]? = some Tryz.f92 ∧ Tryz.f92.body = some code ∧ comp Tryz.prog Tryz.f92.ntmps code = some c92 ∧ rvs Tryz.prog Tryz.f92.results.toList = some [(.c true 4 2), (.t 3)] := ⟨_, Tryz.func92, rfl, by kernel_rfl, by kernel_rfl⟩
def c62 : ACode := (.seq (.reg [b 6 (.alloc [(.int .i64 0), (.int .i64 0), (.string ⟨#[]⟩), (.slice none 0 0)]), b 7 (.mv (I 0))]) (.seq (.reg [b 8 (.mv (I 0))]) (.seq (.seq (.reg [b 9 (.mv (T 0))]) (.block 0 (.seq (.reg [b 11 (.sc (.bin .eql 9) [(T 9), (S [43])]), b 10 (.mv (T 11))]) (.cond (T 10) (.reg [b 12 (.mv (T 1)), b 13 (.mv (T 2)), b 14 (.sc (.bin .add 3) [(T 12), (T 13)]), b 8 (.mv (T 14))]) (.seq (.reg [b 16 (.sc (.bin .eql 9) [(T 9), (S [45])]), b 15 (.mv (T 16))]) (.cond (T 15) (.reg [b 17 (.mv (T 1)), b 18 (.mv (T 2)), b 19 (.sc (.bin .sub 3) [(T 17), (T 18)]), b 8 (.mv (T 19))]) (.seq (.reg [b 21 (.sc (.bin .eql 9) [(T 9), (S [42])]), b 20 (.mv (T 21))]) (.cond (T 20) (.reg [b 22 (.mv (T 1)), b 23 (.mv (T 2)), b 24 (.sc (.bin .mul 3) [(T 22), (T 23)]), b 8 (.mv (T 24))]) (.seq (.reg [b 26 (.sc (.bin .eql 9) [(T 9), (S [47])]), b 25 (.mv (T 26))]) (.cond (T 25) (.seq (.seq (.reg [b 27 (.mv (T 2)), b 28 (.sc (.bin .eql 3) [(T 27), (I 0)])]) (.cond (T 28) (.seq (.reg [b 29 (.call 57 []), b 30 (.ex (T 29) 0), b 31 (.ex (T 29) 1), b0 (.st 4 (T 6) (T 30)), b 7 (.mv (T 31))]) .ret) .skip)) (.reg [b 32 (.mv (T 1)), b 33 (.mv (T 2)), b 34 (.sc (.bin .quo 3) [(T 32), (T 33)]), b 8 (.mv (T 34))])) (.seq (.reg [b 36 (.sc (.bin .eql 9) [(T 9), (S [60])]), b 35 (.mv (T 36))]) (.cond (T 35) (.seq (.reg [b 37 (.mv (T 1)), b 38 (.mv (T 2)), b 39 (.sc (.bin .lss 3) [(T 37), (T 38)]), b 40 (.call 92 [(T 39)]), b 41 (.ex (T 40) 0), b 42 (.ex (T 40) 1), b0 (.st 4 (T 6) (T 41)), b 7 (.mv (T 42))]) .ret) (.seq (.reg [b 44 (.sc (.bin .eql 9) [(T 9), (S [61, 61])]), b 43 (.mv (T 44))]) (.cond (T 43) (.seq (.reg [b 45 (.mv (T 1)), b 46 (.mv (T 2)), b 47 (.sc (.bin .eql 3) [(T 45), (T 46)]), b 48 (.call 92 [(T 47)]), b 49 (.ex (T 48) 0), b 50 (.ex (T 48) 1), b0 (.st 4 (T 6) (T 49)), b 7 (.mv (T 50))]) .ret) .skip)))))))))))))) (.seq (.reg [b 51 (.mv (T 8)), b 52 (.bld [(.int .i64 0), (.int .i64 0), (.string ⟨#[]⟩), (.slice none 0 0)] [(0, (1, (I 7))), (1, (1, (T 51)))]), b0 (.st 4 (T 6) (T 52)), b 7 (.mv (I 3))]) .ret))))
theorem k62 : ∃ code, Tryz.prog.funcs[62]? = some Tryz.f62 ∧ Tryz.f62.body = some code ∧ comp Tryz.prog Tryz.f62.ntmps code = some c62 ∧ rvs Tryz.prog Tryz.f62.results.toList = some [(.c true 4 6), (.t 7)] := ⟨_, Tryz.func62, rfl, by kernel_rfl, by kernel_rfl⟩
def c36 : ACode := (.seq (.reg [b 1 (.box (T 0)), b 2 (.alloc [(.int .i64 0), (.int .i64 0), (.string ⟨#[]⟩), (.slice none 0 0)]), b 3 (.mv (I 0))]) (.seq (.seq (.reg [b 5 (.fa 3 (T 1)), b 6 (.ld false 1 (T 5)), b 7 (.ia 4 (T 6) (I 0)), b 8 (.ld true 4 (T 7)), b 4 (.alloc [(.int .i64 0), (.int .i64 0), (.string ⟨#[]⟩), (.slice none 0 0)]), b0 (.st 4 (T 4) (T 8))]) (.seq (.reg [b 9 (.fa 0 (T 4)), b 10 (.ld false 1 (T 9))]) (.block 0 (.seq (.reg [b 12 (.sc (.bin .eql 3) [(T 10), (I 2)]), b 11 (.mv (T 12))]) (.cond (T 11) (.seq (.reg [a 13 (.fa 3 (T 4)), a 14 (.ld false 1 (T 13)), a 15 (.ia 4 (T 14) (I 0)), a 16 (.ld true 4 (T 15)), b 17 (.fa 3 (T 1)), b 18 (.ld false 1 (T 17)), b 19 (.ia 4 (T 18) (I 1)), b 20 (.ld true 4 (T 19)), b 21 (.call 56 [(T 16), (I 0), (T 20)]), b0 (.st 4 (T 2) (T 21)), b 3 (.mv (I 1))]) .ret) (.seq (.seq (.reg [b 23 (.sc (.bin .eql 3) [(T 10), (I 4)]), b 22 (.mv (T 23))]) (.cond (T 22) .skip (.seq (.reg [b 24 (.sc (.bin .eql 3) [(T 10), (I 7)]), b 22 (.mv (T 24))]) (.cond (T 22) .skip (.reg [b 25 (.sc (.bin .eql 3) [(T 10), (I 9)]), b 22 (.mv (T 25))]))))) (.cond (T 22) (.seq (.reg [b 26 (.call 57 []), b 27 (.ex (T 26) 0), b 28 (.ex (T 26) 1), b0 (.st 4 (T 2) (T 27)), b 3 (.mv (T 28))]) .ret) .skip))))))) (.seq (.reg [b 29 (.ld true 4 (T 1)), b 30 (.call 58 [(T 29), (I 0)]), b 31 (.ex (T 30) 0), b 32 (.ex (T 30) 1), b0 (.st 4 (T 2) (T 31)), b 3 (.mv (T 32))]) .ret)))
theorem k36 : ∃ code, Tryz.prog.funcs[36]? = some Tryz.f36 ∧ Tryz.f36.body = some code ∧ comp Tryz.prog Tryz.f36.ntmps code = some c36 ∧ rvs Tryz.prog Tryz.f36.results.toList = some [(.c true 4 2), (.t 3)] := ⟨_, Tryz.func36, rfl, by kernel_rfl, by kernel_rfl⟩
def c37 : ACode := (.seq (.reg [b 1 (.box (T 0)), b 2 (.alloc [(.int .i64 0), (.int .i64 0), (.string ⟨#[]⟩), (.slice none 0 0)]), b 3 (.mv (I 0))]) (.seq (.reg [b 6 (.fa 3 (T 1)), b 7 (.ld false 1 (T 6)), b 8 (.ia 4 (T 7) (I 0)), b 9 (.ld true 4 (T 8)), b 4 (.alloc [(.int .i64 0), (.int .i64 0), (.string ⟨#[]⟩), (.slice none 0 0)]), b0 (.st 4 (T 4) (T 9))]) (.seq (.seq (.reg [b 10 (.fa 0 (T 4)), b 11 (.ld false 1 (T 10))]) (.block 0 (.seq (.seq (.reg [b 13 (.sc (.bin .eql 3) [(T 11), (I 2)]), b 12 (.mv (T 13))]) (.cond (T 12) .skip (.seq (.reg [b 14 (.sc (.bin .eql 3) [(T 11), (I 7)]), b 12 (.mv (T 14))]) (.cond (T 12) .skip (.reg [b 15 (.sc (.bin .eql 3) [(T 11), (I 9)]), b 12 (.mv (T 15))]))))) (.cond (T 12) (.seq (.reg [b 16 (.call 57 []), b 17 (.ex (T 16) 0), b 18 (.ex (T 16) 1), b0 (.st 4 (T 2) (T 17)), b 3 (.mv (T 18))]) .ret) (.seq (.reg [b 20 (.sc (.bin .eql 3) [(T 11), (I 4)]), b 19 (.mv (T 20))]) (.cond (T 19) (.seq (.reg [b 21 (.fa 3 (T 1)), b 22 (.ld false 1 (T 21)), b 23 (.rs 4 (T 22) (some (I 1)) none), b 24 (.clo 60 [] [(T 4)]), b 25 (.callh (.func 59) [(T 23), (T 24)]), b 5 (.mv (T 25))]) (.seq (.seq (.reg [b 26 (.mv (T 5)), b 27 (.sc (.bin .lss 3) [(T 26), (I 0)])]) (.cond (T 27) (.seq (.reg [b 28 (.call 57 []), b 29 (.ex (T 28) 0), b 30 (.ex (T 28) 1), b0 (.st 4 (T 2) (T 29)), b 3 (.mv (T 30))]) .ret) .skip)) (.seq (.reg [a 31 (.fa 3 (T 1)), a 32 (.ld false 1 (T 31)), a 33 (.mv (T 5)), a 34 (.sc (.bin .add 3) [(I 1), (T 33)]), a 35 (.ia 4 (T 32) (T 34)), a 36 (.fa 3 (T 35)), a 37 (.ld false 1 (T 36)), a 38 (.ia 4 (T 37) (I 0)), a 39 (.ld true 4 (T 38)), b 40 (.fa 3 (T 4)), b 41 (.ld false 1 (T 40)), b 42 (.call 61 [(T 39), (T 41)]), b0 (.st 4 (T 2) (T 42)), b 3 (.mv (I 2))]) .ret))) .skip)))))) (.seq (.reg [b 43 (.ld true 4 (T 1)), b 44 (.call 58 [(T 43), (I 0)]), b 45 (.ex (T 44) 0), b 46 (.ex (T 44) 1), b0 (.st 4 (T 2) (T 45)), b 3 (.mv (T 46))]) .ret))))
theorem k37 : ∃ code, Tryz.prog.funcs[37]? = some Tryz.f37 ∧ Tryz.f37.body = some code ∧ comp Tryz.prog Tryz.f37.ntmps code = some c37 ∧ rvs Tryz.prog Tryz.f37.results.toList = some [(.c true 4 2), (.t 3)] := ⟨_, Tryz.func37, rfl, by kernel_rfl, by kernel_rfl⟩
def c38 : ACode := (.seq (.reg [b 1 (.box (T 0)), b 2 (.alloc [(.int .i64 0), (.int .i64 0), (.string ⟨#[]⟩), (.slice none 0 0)]), b 3 (.mv (I 0))]) (.seq (.seq (.reg [b 6 (.fa 3 (T 1)), b 7 (.ld false 1 (T 6)), b 8 (.ln (T 7)), b 9 (.mv (I 0))]) (.block 0 (.loop (.seq (.reg [b 10 (.sc (.bin .lss 3) [(T 9), (T 8)])]) (.seq (.cond (T 10) .skip (.exit 0)) (.seq (.block 1 (.seq (.reg [b 11 (.mv (T 9)), b 12 (.ia 4 (T 7) (T 9)), b 13 (.ld true 4 (T 12)), b 5 (.alloc [(.int .i64 0), (.int .i64 0), (.string ⟨#[]⟩), (.slice none 0 0)]), b 4 (.mv (T 11)), b0 (.st 4 (T 5) (T 13))]) (.seq (.seq (.reg [b 14 (.fa 0 (T 5)), b 15 (.ld false 1 (T 14))]) (.block 2 (.seq (.seq (.reg [b 17 (.sc (.bin .eql 3) [(T 15), (I 2)]), b 16 (.mv (T 17))]) (.cond (T 16) .skip (.seq (.reg [b 18 (.sc (.bin .eql 3) [(T 15), (I 4)]), b 16 (.mv (T 18))]) (.cond (T 16) .skip (.reg [b 19 (.sc (.bin .eql 3) [(T 15), (I 9)]), b 16 (.mv (T 19))]))))) (.cond (T 16) (.seq (.reg [b 20 (.call 57 []), b 21 (.ex (T 20) 0), b 22 (.ex (T 20) 1), b0 (.st 4 (T 2) (T 21)), b 3 (.mv (T 22))]) .ret) (.seq (.reg [b 24 (.sc (.bin .eql 3) [(T 15), (I 7)]), b 23 (.mv (T 24))]) (.cond (T 23) (.exit 1) .skip)))))) (.seq (.reg [b 25 (.ld true 4 (T 1)), b 26 (.mv (T 4)), b 27 (.call 58 [(T 25), (T 26)]), b 28 (.ex (T 27) 0), b 29 (.ex (T 27) 1), b0 (.st 4 (T 2) (T 28)), b 3 (.mv (T 29))]) .ret)))) (.reg [b 30 (.sc (.bin .add 3) [(T 9), (I 1)]), b 9 (.mv (T 30))]))))))) (.seq (.reg [a 31 (.fa 2 (T 1)), a 32 (.ld false 1 (T 31)), a 33 (.fa 3 (T 1)), a 34 (.ld false 1 (T 33)), a 35 (.ia 4 (T 34) (I 0)), a 36 (.fa 1 (T 35)), a 37 (.ld false 1 (T 36)), b 38 (.fa 3 (T 1)), b 39 (.ld false 1 (T 38)), b 40 (.ia 4 (T 39) (I 1)), b 41 (.fa 1 (T 40)), b 42 (.ld false 1 (T 41)), b 43 (.call 62 [(T 32), (T 37), (T 42)]), a 44 (.ex (T 43) 0), b 45 (.ex (T 43) 1), b0 (.st 4 (T 2) (T 44)), b 3 (.mv (T 45))]) .ret)))
theorem k38 : ∃ code, Tryz.prog.funcs[38]? = some Tryz.f38 ∧ Tryz.f38.body = some code ∧ comp Tryz.prog Tryz.f38.ntmps code = some c38 ∧ rvs Tryz.prog Tryz.f38.results.toList = some [(.c true 4 2), (.t 3)] := ⟨_, Tryz.func38, rfl, by kernel_rfl, by kernel_rfl⟩
def c22 : ACode := (.seq (.reg [b 1 (.box (T 0)), b 2 (.alloc [(.int .i64 0), (.int .i64 0), (.string ⟨#[]⟩), (.slice none 0 0)]), b 3 (.mv (I 0))]) (.seq (.seq (.reg [b 4 (.fa 0 (T 1)), b 5 (.ld false 1 (T 4))]) (.block 0 (.seq (.reg [b 7 (.sc (.bin .eql 3) [(T 5), (I 3)]), b 6 (.mv (T 7))]) (.cond (T 6) (.seq (.reg [b 8 (.ld true 4 (T 1)), b 9 (.call 36 [(T 8)]), b 10 (.ex (T 9) 0), b 11 (.ex (T 9) 1), b0 (.st 4 (T 2) (T 10)), b 3 (.mv (T 11))]) .ret) (.seq (.reg [b 13 (.sc (.bin .eql 3) [(T 5), (I 5)]), b 12 (.mv (T 13))]) (.cond (T 12) (.seq (.reg [b 14 (.ld true 4 (T 1)), b 15 (.call 37 [(T 14)]), b 16 (.ex (T 15) 0), b 17 (.ex (T 15) 1), b0 (.st 4 (T 2) (T 16)), b 3 (.mv (T 17))]) .ret) (.seq (.reg [b 19 (.sc (.bin .eql 3) [(T 5), (I 8)]), b 18 (.mv (T 19))]) (.cond (T 18) (.seq (.reg [b 20 (.ld true 4 (T 1)), b 21 (.call 38 [(T 20)]), b 22 (.ex (T 21) 0), b 23 (.ex (T 21) 1), b0 (.st 4 (T 2) (T 22)), b 3 (.mv (T 23))]) .ret) .skip)))))))) (.seq (.reg [b 24 (.ld true 4 (T 1)), b0 (.st 4 (T 2) (T 24)), b 3 (.mv (I 0))]) .ret)))
theorem k22 : ∃ code, Tryz.prog.funcs[22]? = some Tryz.f22 ∧ Tryz.f22.body = some code ∧ comp Tryz.prog Tryz.f22.ntmps code = some c22 ∧ rvs Tryz.prog Tryz.f22.results.toList = some [(.c true 4 2), (.t 3)] := ⟨_, Tryz.func22, rfl, by kernel_rfl, by kernel_rfl⟩
def c60 : ACode := (.seq (.reg [b 2 (.box (T 0)), b 3 (.mv (B false))]) (.seq (.reg [b 4 (.fa 2 (T 2)), b 5 (.ld false 1 (T 4)), b 6 (.fa 2 (T 1)), b 7 (.ld false 1 (T 6)), b 8 (.sc (.bin .eql 9) [(T 5), (T 7)]), b 9 (.mv (T 8)), bg 10 9 true (.fa 1 (T 2)), bg 11 9 true (.ld false 1 (T 10)), bg 12 9 true (.fa 3 (T 1)), bg 13 9 true (.ld false 1 (T 12)), bg 14 9 true (.ln (T 13)), bg 15 9 true (.sc (.bin .eql 3) [(T 11), (T 14)]), b 16 (.pick (T 9) (T 15) (B false)), b 3 (.mv (T 16))]) .ret))
theorem k60 : ∃ code, Tryz.prog.funcs[60]? = some Tryz.f60 ∧ Tryz.f60.body = some code ∧ comp Tryz.prog Tryz.f60.ntmps code = some c60 ∧ rvs Tryz.prog Tryz.f60.results.toList = some [(.t 3)] := ⟨_, Tryz.func60, rfl, by kernel_rfl, by kernel_rfl⟩
end Go.Proofs.YtnjmilelifmfpaaGreatDoor.Ev

namespace Go.Proofs.YtnjmilelifmfpaaGreatDoor.Ev
open Go Go.RowKit
def c86 : ACode := (.seq (.reg [b 3 (.box (T 0)), b 6 (.alloc [(.int .i64 0), (.int .i64 0), (.string ⟨#[]⟩), (.slice none 0 0)])]) (.seq (.seq (.reg [b 10 (.fa 0 (T 3)), b 11 (.ld false 1 (T 10))]) (.block 0 (.seq (.reg [b 13 (.sc (.bin .eql 3) [(T 11), (I 1)]), b 12 (.mv (T 13))]) (.cond (T 12) (.seq (.reg [b 14 (.mv (T 2)), b 15 (.ld true 4 (T 3)), b 16 (.mv (T 1)), b 17 (.callh (T 14) [(T 15), (T 16)]), b0 (.st 4 (T 6) (T 17))]) .ret) (.seq (.reg [b 19 (.sc (.bin .eql 3) [(T 11), (I 2)]), b 18 (.mv (T 19))]) (.cond (T 18) (.reg [b 20 (.mv (T 1)), b 21 (.sc (.bin .add 3) [(T 20), (I 1)]), b 1 (.mv (T 21))]) (.seq (.reg [b 23 (.sc (.bin .eql 3) [(T 11), (I 6)]), b 22 (.mv (T 23))]) (.cond (T 22) (.reg [b 24 (.mv (T 1)), b 25 (.fa 1 (T 3)), b 26 (.ld false 1 (T 25)), b 27 (.sc (.bin .add 3) [(T 24), (T 26)]), b 1 (.mv (T 27))]) .skip)))))))) (.seq (.reg [b 28 (.fa 3 (T 3)), b 29 (.ld false 1 (T 28)), b 30 (.ln (T 29)), b 31 (.mks 24 4 56 [(.int .i64 0), (.int .i64 0), (.string ⟨#[]⟩), (.slice none 0 0)] (T 30)), b 7 (.mv (T 31))]) (.seq (.seq (.reg [b 32 (.fa 3 (T 3)), b 33 (.ld false 1 (T 32)), b 34 (.ln (T 33)), b 35 (.mv (I 0))]) (.block 1 (.loop (.seq (.reg [b 36 (.sc (.bin .lss 3) [(T 35), (T 34)])]) (.seq (.cond (T 36) .skip (.exit 1)) (.seq (.block 2 (.seq (.reg [b 37 (.mv (T 35)), b 38 (.ia 4 (T 33) (T 35)), b 39 (.ld true 4 (T 38)), b 9 (.alloc [(.int .i64 0), (.int .i64 0), (.string ⟨#[]⟩), (.slice none 0 0)]), b 8 (.mv (T 37)), b0 (.st 4 (T 9) (T 39))]) (.reg [b 40 (.mv (T 7)), b 41 (.mv (T 8)), b 42 (.ld true 4 (T 9)), b 43 (.mv (T 1)), b 44 (.mv (T 2)), b 45 (.callh (.func 86) [(T 42), (T 43), (T 44)]), b 46 (.ia 4 (T 40) (T 41)), b0 (.st 4 (T 46) (T 45))]))) (.reg [b 47 (.sc (.bin .add 3) [(T 35), (I 1)]), b 35 (.mv (T 47))]))))))) (.seq (.reg [b 48 (.mv (T 7)), b 49 (.fa 3 (T 3)), b0 (.st 1 (T 49) (T 48))]) (.seq (.reg [b 50 (.ld true 4 (T 3)), b0 (.st 4 (T 6) (T 50))]) .ret))))))
theorem k86 : ∃ code, Tryz.prog.funcs[86]? = some Tryz.f86 ∧ Tryz.f86.body = some code ∧ comp Tryz.prog Tryz.f86.ntmps code = some c86 ∧ rvs Tryz.prog Tryz.f86.results.toList = some [(.c true 4 6)] := ⟨_, Tryz.func86, rfl, by kernel_rfl, by kernel_rfl⟩
def c89 : ACode := (.seq (.reg [b 2 (.box (T 0)), b 4 (.alloc [(.int .i64 0), (.int .i64 0), (.string ⟨#[]⟩), (.slice none 0 0)])]) (.seq (.reg [b 5 (.fa 1 (T 2)), b 6 (.ld false 1 (T 5)), b 7 (.mv (T 1)), b 8 (.sc (.bin .add 3) [(T 6), (T 7)]), b 9 (.fa 1 (T 2)), b0 (.st 1 (T 9) (T 8))]) (.seq (.reg [b 10 (.ld true 4 (T 2)), b0 (.st 4 (T 4) (T 10))]) .ret)))
theorem k89 : ∃ code, Tryz.prog.funcs[89]? = some Tryz.f89 ∧ Tryz.f89.body = some code ∧ comp Tryz.prog Tryz.f89.ntmps code = some c89 ∧ rvs Tryz.prog Tryz.f89.results.toList = some [(.c true 4 4)] := ⟨_, Tryz.func89, rfl, by kernel_rfl, by kernel_rfl⟩
def c88 : ACode := (.seq (.reg [b 3 (.box (T 0)), b 4 (.box (T 1)), b 5 (.box (T 2)), b 6 (.alloc [(.int .i64 0), (.int .i64 0), (.string ⟨#[]⟩), (.slice none 0 0)])]) (.seq (.reg [b 7 (.ld true 4 (T 3)), b 8 (.clo 124 [] [(T 5), (T 4)]), b 9 (.callh (.func 86) [(T 7), (I 0), (T 8)]), b0 (.st 4 (T 6) (T 9))]) .ret))
theorem k88 : ∃ code, Tryz.prog.funcs[88]? = some Tryz.f88 ∧ Tryz.f88.body = some code ∧ comp Tryz.prog Tryz.f88.ntmps code = some c88 ∧ rvs Tryz.prog Tryz.f88.results.toList = some [(.c true 4 6)] := ⟨_, Tryz.func88, rfl, by kernel_rfl, by kernel_rfl⟩
def c124 : ACode := (.seq (.reg [b 4 (.box (T 0)), b 6 (.alloc [(.int .i64 0), (.int .i64 0), (.string ⟨#[]⟩), (.slice none 0 0)])]) (.seq (.seq (.reg [b 7 (.fa 1 (T 4)), b 8 (.ld false 1 (T 7)), b 9 (.ld false 1 (T 2)), b 10 (.mv (T 1)), b 11 (.sc (.bin .add 3) [(T 9), (T 10)]), b 12 (.sc (.bin .geq 3) [(T 8), (T 11)])]) (.cond (T 12) (.seq (.reg [b 13 (.ld true 4 (T 4)), b 14 (.ld false 1 (T 3)), b 15 (.call 89 [(T 13), (T 14)]), b0 (.st 4 (T 6) (T 15))]) .ret) .skip)) (.seq (.reg [b 16 (.ld true 4 (T 4)), b0 (.st 4 (T 6) (T 16))]) .ret)))
theorem k124 : ∃ code, Tryz.prog.funcs[124]? = some Tryz.f124 ∧ Tryz.f124.body = some code ∧ comp Tryz.prog Tryz.f124.ntmps code = some c124 ∧ rvs Tryz.prog Tryz.f124.results.toList = some [(.c true 4 6)] := ⟨_, Tryz.func124, rfl, by kernel_rfl, by kernel_rfl⟩
def c56 : ACode := (.seq (.reg [b 3 (.box (T 0)), b 4 (.box (T 1)), b 5 (.box (T 2)), b 6 (.alloc [(.int .i64 0), (.int .i64 0), (.string ⟨#[]⟩), (.slice none 0 0)])]) (.seq (.reg [b 7 (.ld true 4 (T 3)), b 8 (.clo 87 [] [(T 4), (T 5)]), b 9 (.callh (.func 86) [(T 7), (I 0), (T 8)]), b0 (.st 4 (T 6) (T 9))]) .ret))
theorem k56 : ∃ code, Tryz.prog.funcs[56]? = some Tryz.f56 ∧ Tryz.f56.body = some code ∧ comp Tryz.prog Tryz.f56.ntmps code = some c56 ∧ rvs Tryz.prog Tryz.f56.results.toList = some [(.c true 4 6)] := ⟨_, Tryz.func56, rfl, by kernel_rfl, by kernel_rfl⟩
def c87 : ACode := (.seq (.reg [b 4 (.box (T 0)), b 6 (.alloc [(.int .i64 0), (.int .i64 0), (.string ⟨#[]⟩), (.slice none 0 0)])]) (.seq (.block 0 (.seq (.reg [b 8 (.fa 1 (T 4)), b 9 (.ld false 1 (T 8)), b 10 (.ld false 1 (T 2)), b 11 (.mv (T 1)), b 12 (.sc (.bin .add 3) [(T 10), (T 11)]), b 13 (.sc (.bin .eql 3) [(T 9), (T 12)]), b 7 (.mv (T 13))]) (.cond (T 7) (.seq (.reg [b 14 (.ld true 4 (T 3)), b 15 (.mv (T 1)), b 16 (.call 88 [(T 14), (T 15), (I 0)]), b0 (.st 4 (T 6) (T 16))]) .ret) (.seq (.reg [b 18 (.fa 1 (T 4)), b 19 (.ld false 1 (T 18)), b 20 (.ld false 1 (T 2)), b 21 (.mv (T 1)), b 22 (.sc (.bin .add 3) [(T 20), (T 21)]), b 23 (.sc (.bin .gtr 3) [(T 19), (T 22)]), b 17 (.mv (T 23))]) (.cond (T 17) (.seq (.reg [b 24 (.ld true 4 (T 4)), b 25 (.call 89 [(T 24), (I (-1))]), b0 (.st 4 (T 6) (T 25))]) .ret) .skip))))) (.seq (.reg [b 26 (.ld true 4 (T 4)), b0 (.st 4 (T 6) (T 26))]) .ret)))
theorem k87 : ∃ code, Tryz.prog.funcs[87]? = some Tryz.f87 ∧ Tryz.f87.body = some code ∧ comp Tryz.prog Tryz.f87.ntmps code = some c87 ∧ rvs Tryz.prog Tryz.f87.results.toList = some [(.c true 4 6)] := ⟨_, Tryz.func87, rfl, by kernel_rfl, by kernel_rfl⟩
def c61 : ACode := (.seq (.reg [b 2 (.box (T 0)), b 3 (.box (T 1)), b 4 (.alloc [(.int .i64 0), (.int .i64 0), (.string ⟨#[]⟩), (.slice none 0 0)])]) (.seq (.reg [b 5 (.ld true 4 (T 2)), b 6 (.clo 91 [] [(T 3)]), b 7 (.callh (.func 86) [(T 5), (I 0), (T 6)]), b0 (.st 4 (T 4) (T 7))]) .ret))
theorem k61 : ∃ code, Tryz.prog.funcs[61]? = some Tryz.f61 ∧ Tryz.f61.body = some code ∧ comp Tryz.prog Tryz.f61.ntmps code = some c61 ∧ rvs Tryz.prog Tryz.f61.results.toList = some [(.c true 4 4)] := ⟨_, Tryz.func61, rfl, by kernel_rfl, by kernel_rfl⟩
def c91 : ACode := (.seq (.reg [b 3 (.box (T 0)), b 5 (.alloc [(.int .i64 0), (.int .i64 0), (.string ⟨#[]⟩), (.slice none 0 0)])]) (.seq (.reg [b 7 (.fa 1 (T 3)), b 8 (.ld false 1 (T 7)), b 9 (.mv (T 1)), b 10 (.sc (.bin .sub 3) [(T 8), (T 9)]), b 6 (.mv (T 10))]) (.seq (.block 0 (.seq (.reg [b 12 (.mv (T 6)), b 13 (.sc (.bin .lss 3) [(T 12), (I 0)]), b 11 (.mv (T 13))]) (.cond (T 11) (.seq (.reg [b 14 (.ld true 4 (T 3)), b0 (.st 4 (T 5) (T 14))]) .ret) (.seq (.reg [b 16 (.mv (T 6)), b 17 (.ld false 1 (T 2)), b 18 (.ln (T 17)), b 19 (.sc (.bin .lss 3) [(T 16), (T 18)]), b 15 (.mv (T 19))]) (.cond (T 15) (.seq (.reg [b 20 (.ld false 1 (T 2)), b 21 (.ld false 1 (T 2)), b 22 (.ln (T 21)), b 23 (.sc (.bin .sub 3) [(T 22), (I 1)]), b 24 (.mv (T 6)), b 25 (.sc (.bin .sub 3) [(T 23), (T 24)]), b 26 (.ia 4 (T 20) (T 25)), b 27 (.ld true 4 (T 26)), b 28 (.mv (T 1)), b 29 (.call 88 [(T 27), (T 28), (I 0)]), b0 (.st 4 (T 5) (T 29))]) .ret) .skip))))) (.seq (.reg [b 30 (.ld true 4 (T 3)), b 31 (.ld false 1 (T 2)), b 32 (.ln (T 31)), b 33 (.sc (.un .neg) [(T 32)]), b 34 (.call 89 [(T 30), (T 33)]), b0 (.st 4 (T 5) (T 34))]) .ret))))
theorem k91 : ∃ code, Tryz.prog.funcs[91]? = some Tryz.f91 ∧ Tryz.f91.body = some code ∧ comp Tryz.prog Tryz.f91.ntmps code = some c91 ∧ rvs Tryz.prog Tryz.f91.results.toList = some [(.c true 4 5)] := ⟨_, Tryz.func91, rfl, by kernel_rfl, by kernel_rfl⟩
end Go.Proofs.YtnjmilelifmfpaaGreatDoor.Ev

namespace Go.Proofs.YtnjmilelifmfpaaGreatDoor.Ev
open Go Go.RowKit
open HCore (wt wts may same height heights size sizes)
open Go.Proofs.YtnjmilelifmfpaaGreatDoor.HSub (turn turns tame tames more bump upV putV instV up put inst)
set_option linter.unusedSimpArgs false
set_option linter.unusedVariables false
abbrev TCopied : Spec := fun args out => ∃ (v : Tm) (m : Int), args = [.agg (encT v), .s (.int .i64 m)] ∧ -9223372036854775808 ≤ v.f1 + m ∧ v.f1 + m ≤ 9223372036854775807 ∧ out = .ret (.agg (encT (bump v m)))
theorem c_copied {J : JW} (hJ : JOk J) : Con Tryz.prog J 89 TCopied := by
 obtain ⟨code, h1, h2, h3, h4⟩ := k89
 refine con ok_nil hJ h1 h2 h3 h4 fun args out h => ?_
 obtain ⟨v, m, rfl, b1, b2, rfl⟩ := h
 refine ⟨rfl, by rw [Tryz.ntmps89]; simp, ?_⟩
 rw [encT_is, encT_is]
 unfold c89
 refine go ?_
 rw [wr (by omega) (by omega)]
 rfl
abbrev TV2 (c0 c1 : List AV) (f : Tm → Int → Tm) : Spec := fun args out => ∃ (v : Tm) (b : Int), args = [.tup [.agg c0, .agg c1], .agg (encT v), .s (.int .i64 b), .ptr 0 0, .ptr 1 0] ∧ 0 ≤ v.f1 ∧ v.f1 ≤ 5000000000000000000 ∧ 0 ≤ b ∧ b ≤ 90000000000 ∧
 out = .ret (.tup [.agg (encT (f v b)), .agg c0, .agg c1])
abbrev TTurn2 (g : FuncId) (c0 c1 : List AV) (f : Tm → Int → Tm) (n : Nat) : Spec := fun args out => ∃ (x : Tm) (b : Int), args = [.tup [.agg c0, .agg c1], .agg (encT x), .s (.int .i64 b), .fn g [] [.ptr 0 0, .ptr 1 0]] ∧
 height x < n ∧ tame x ∧ size x ≤ 1000000000 ∧ 0 ≤ b ∧ b + 9 * (height x : Int) ≤ 90000000000 ∧ out = .ret (.tup [.agg (encT (turn f x b)), .agg c0, .agg c1])
theorem turn_of (f : Tm → Int → Tm) (x : Tm) (b : Int) : turn f x b = if x.f0 = 1 then f x b else ⟨x.f0, x.f1, x.f2, turns f x.f3 (b + more x.f0 x.f1)⟩ := by cases x; rw [turn]
theorem tame_of (x : Tm) : tame x = ((x.f0 = 1 → 0 ≤ x.f1 ∧ x.f1 ≤ 5000000000000000000) ∧ (x.f0 = 6 → 0 ≤ x.f1 ∧ x.f1 ≤ 8) ∧ tames x.f3) := by cases x; rw [tame]
theorem tames_mem : ∀ {l : List Tm} {y : Tm}, tames l → y ∈ l → tame y
 | x :: l, y, h, hm => by
  rw [tames] at h
  rcases List.mem_cons.1 hm with rfl | hm
  ·exact h.1
  ·exact tames_mem h.2 hm
def zC : List AV := [.s (.int .i64 0), .s (.int .i64 0), .s (.string ⟨#[]⟩), .s (.slice none 0 0)]
theorem turns_map (f : Tm → Int → Tm) (q : Int) : ∀ l : List Tm, turns f l q = l.map fun x => turn f x q
 | [] => rfl
 | x :: l => by rw [turns, turns_map f q l]; rfl
def rowS (f : Tm → Int → Tm) (q : Int) (l : List Tm) (i : Nat) : List (List AV) := encTs (turns f (l.take i) q) ++ List.replicate (l.length - i) zC
theorem rowS_len {f : Tm → Int → Tm} {q : Int} {l : List Tm} {i : Nat} (hi : i ≤ l.length) : (encTs (turns f (l.take i) q)).length = i := by rw [encTs_len, turns_map]; simp; omega
theorem rowS_length {f : Tm → Int → Tm} {q : Int} {l : List Tm} {i : Nat} (hi : i ≤ l.length) : (rowS f q l i).length = l.length := by
 unfold rowS; rw [List.length_append, rowS_len hi, List.length_replicate]; omega
theorem rowS_get {f : Tm → Int → Tm} {q : Int} {l : List Tm} {i : Nat} (hi : i < l.length) : (rowS f q l i)[i]? = some zC := by
 unfold rowS
 rw [List.getElem?_append_right (by rw [rowS_len (by omega)]; omega), rowS_len (by omega), Nat.sub_self, List.getElem?_replicate, if_pos (by omega)]
theorem rowS_set {f : Tm → Int → Tm} {q : Int} {l : List Tm} {i : Nat} {y : Tm} (hy : l[i]? = some y) (hi : i < l.length) : (rowS f q l i).set i (encT (turn f y q)) = rowS f q l (i + 1) := by
 unfold rowS
 obtain ⟨_, rfl⟩ := List.getElem?_eq_some_iff.1 hy
 rw [List.set_append_right _ _ (by rw [rowS_len (by omega)]; omega), rowS_len (by omega), Nat.sub_self, show l.length - i = (l.length - (i + 1)) + 1 by omega, List.replicate_succ, List.set_cons_zero, List.take_succ_eq_append_getElem hi, turns_map, turns_map, encTs_map, encTs_map, List.map_append, List.map_append, List.append_assoc]
 rfl
def turnS (g : FuncId) (c0 c1 : List AV) (f : Tm → Int → Tm) (x : Tm) (q : Int) (i : Nat) : AS := ⟨tm [(35, .s (.int .i64 (i : Int))), (34, .s (.int .i64 ((encTs x.f3).length : Int))), (33, .row (encTs x.f3)), (7, .ref 4), (1, .s (.int .i64 q)), (6, .ptr 3 0), (3, .ptr 2 0), (2, .fn g [] [.ptr 0 0, .ptr 1 0])],
 bm [(3, some zC), (2, some [.s (.int .i64 x.f0), .s (.int .i64 x.f1), .s (.string x.f2), .row (encTs x.f3)]), (0, some c0), (1, some c1)], bm [(4, some ⟨24, 4, rowS f q x.f3 i, true⟩)], 5⟩
theorem hh2 {k : Nat} : ∀ j : Nat, j < 2 → j < 5 ∧ onto [(0, 0), (1, 1), (2, 2), (3, 3), (4, k)] j = some j := by
 intro j hj
 have : j = 0 ∨ j = 1 := by omega
 rcases this with rfl|rfl <;> exact ⟨by decide, rfl⟩
set_option maxHeartbeats 4000000 in
set_option maxRecDepth 100000 in
theorem c_turn2 {J : JW} (hJ : JOk J) {g : FuncId} {c0 c1 : List AV} {f : Tm → Int → Tm} (hg : 86 ≠ g) (hc0 : FlatC c0) (hc1 : FlatC c1) (hT : Con Tryz.prog J g (TV2 c0 c1 f)) (hf : fnOk Tryz.prog g = true) (n : Nat) :
  Con Tryz.prog J 86 (TTurn2 g c0 c1 f n) := by
 induction n with
 | zero => rintro args out ⟨x, b, rfl, h, _⟩; exact absurd h (Nat.not_lt_zero _)
 | succ n ih =>
 obtain ⟨code, h1, h2, h3, h4⟩ := k86
 refine conH (E := envH 2 [(g, TV2 c0 c1 f), (86, TTurn2 g c0 c1 f n)]) (ok_h (ok_cons hT (ok_cons ih ok_nil) hf)) hJ h1 h2 h3 h4 (fun args out h => ?_) (h0 := Nat.zero_lt_two)
 obtain ⟨x, m, rfl, hh, ht, hs, hb0, hb1, rfl⟩ := h
 refine ⟨[c0, c1], _, rfl, rfl, by rw [Tryz.ntmps86]; simp, ?_⟩
 rw [tame_of] at ht
 obtain ⟨t1, t6, ts⟩ := ht
 rw [encT_is x, turn_of]
 unfold c86
 refine go ?_
 cases k1 : (x.f0 == 1) with
 | true =>
  have kk : x.f0 = 1 := by simpa using k1
  rw [if_pos kk]
  refine go ?_
  rw [List.flatMap_append, hc0.2.1, hc1.2.1, hc0.1, hc1.1]
  refine ⟨rfl, _, ⟨x, m, by rw [encT_is x], (t1 kk).1, (t1 kk).2, hb0, by omega, rfl⟩, ?_⟩
  rw [encT_is (f x m)]
  refine go ?_
  rw [hc0.1, hc1.1]
 | false =>
 have n1 : ¬ x.f0 = 1 := by simpa using k1
 rw [if_neg n1]
 have hd : height x = heights x.f3 + 1 := height_of x
 have sd : size x = sizes x.f3 + 1 := size_of x
 have sl := len_sizes x.f3
 obtain ⟨q, hq⟩ : ∃ q, q = m + more x.f0 x.f1 := ⟨_, rfl⟩
 rw [← hq]
 have hq0 : 0 ≤ q ∧ q ≤ m + 8 := by
  rw [hq]; unfold more
  by_cases e2 : x.f0 = 2
  ·rw [if_pos e2]; omega
  ·rw [if_neg e2]
   by_cases e6 : x.f0 = 6
   ·rw [if_pos e6]; have := t6 e6; omega
   ·rw [if_neg e6]; omega
 refine go ?_
 cases k2 : (x.f0 == 2) with
 | true =>
  have kk : x.f0 = 2 := by simpa using k2
  refine go ?_
  rw [wr (by omega) (by omega), show m + 1 = q by rw [hq]; unfold more; rw [if_pos kk]]
  refine ⟨⟨by rw [encTs_len]; omega, by rw [encTs_len]; omega⟩, ?_⟩
  refine count x.f3.length (fun i => turnS g c0 c1 f x q i) (lm [(0, 0), (1, 1), (2, 2), (3, 3), (4, 16)] (hB := by simp [bsub, onto, bm, subs, subC, zC, hc0.2.2, hc1.2.2]) (hG := by simp [gsub, onto, bm, rowS, encTs_len, turns, encTs, zC]) (hh := hh2)) fun i hi => ?_
  unfold turnS
  refine go ?_
  by_cases p : (i : Int) < (encTs x.f3).length
  ·simp only [p, decide_true]
   refine go ?_
   obtain ⟨y, hy, hm, hl'⟩ := part p
   simp only [eget hy]
   have yh := height_mem hm
   have ys := sizes_mem hm
   refine go ?_
   rw [List.flatMap_append, hc0.2.1, hc1.2.1, hc0.1, hc1.1]
   refine ⟨rfl, .ret (.tup [.agg (encT (turn f y q)), .agg c0, .agg c1]), ?_, ?_⟩
   ·simp only [sps]
    rw [if_neg hg, if_pos trivial]
    exact ⟨y, q, by rw [encT_is y], by omega, tames_mem ts hm, by omega, by omega, by omega, rfl⟩
   rw [encT_is (turn f y q)]
   refine go ?_
   rw [if_pos (by rw [rowS_length hi]; exact hl')]
   refine go ?_
   simp only [rowS_get hl']
   refine go ?_
   have e := rowS_set (f := f) (q := q) hy hl'
   rw [encT_is (turn f y q)] at e
   rw [nxt (by omega)]
   simp only [show List.drop 4 zC = [] from rfl, e]
   exact ⟨hl', lm [(0, 0), (1, 1), (2, 2), (3, 3), (4, 4)] (hB := by simp [bsub, onto, bm, subs, subC, zC, hc0.2.2, hc1.2.2]) (hh := hh2)⟩
  ·simp only [p, decide_false]
   have := fin_at hi p
   subst this
   refine go ?_
   rw [hc0.1, hc1.1, encT_is, show rowS f q x.f3 x.f3.length = encTs (turns f x.f3 q) by unfold rowS; rw [take_len]; simp]
 | false =>
 have n2 : ¬ x.f0 = 2 := by simpa using k2
 refine go ?_
 cases k6 : (x.f0 == 6) with
 | true =>
  have kk : x.f0 = 6 := by simpa using k6
  refine go ?_
  rw [wr (by omega) (by omega), show m + x.f1 = q by rw [hq]; unfold more; rw [if_neg n2, if_pos kk]]
  refine ⟨⟨by rw [encTs_len]; omega, by rw [encTs_len]; omega⟩, ?_⟩
  refine count x.f3.length (fun i => turnS g c0 c1 f x q i) (lm [(0, 0), (1, 1), (2, 2), (3, 3), (4, 20)] (hB := by simp [bsub, onto, bm, subs, subC, zC, hc0.2.2, hc1.2.2]) (hG := by simp [gsub, onto, bm, rowS, encTs_len, turns, encTs, zC]) (hh := hh2)) fun i hi => ?_
  unfold turnS
  refine go ?_
  by_cases p : (i : Int) < (encTs x.f3).length
  ·simp only [p, decide_true]
   refine go ?_
   obtain ⟨y, hy, hm, hl'⟩ := part p
   simp only [eget hy]
   have yh := height_mem hm
   have ys := sizes_mem hm
   refine go ?_
   rw [List.flatMap_append, hc0.2.1, hc1.2.1, hc0.1, hc1.1]
   refine ⟨rfl, .ret (.tup [.agg (encT (turn f y q)), .agg c0, .agg c1]), ?_, ?_⟩
   ·simp only [sps]
    rw [if_neg hg, if_pos trivial]
    exact ⟨y, q, by rw [encT_is y], by omega, tames_mem ts hm, by omega, by omega, by omega, rfl⟩
   rw [encT_is (turn f y q)]
   refine go ?_
   rw [if_pos (by rw [rowS_length hi]; exact hl')]
   refine go ?_
   simp only [rowS_get hl']
   refine go ?_
   have e := rowS_set (f := f) (q := q) hy hl'
   rw [encT_is (turn f y q)] at e
   rw [nxt (by omega)]
   simp only [show List.drop 4 zC = [] from rfl, e]
   exact ⟨hl', lm [(0, 0), (1, 1), (2, 2), (3, 3), (4, 4)] (hB := by simp [bsub, onto, bm, subs, subC, zC, hc0.2.2, hc1.2.2]) (hh := hh2)⟩
  ·simp only [p, decide_false]
   have := fin_at hi p
   subst this
   refine go ?_
   rw [hc0.1, hc1.1, encT_is, show rowS f q x.f3 x.f3.length = encTs (turns f x.f3 q) by unfold rowS; rw [take_len]; simp]
 | false =>
  have n6 : ¬ x.f0 = 6 := by simpa using k6
  have e : m = q := by rw [hq]; unfold more; rw [if_neg n2, if_neg n6]; omega
  refine go ?_
  rw [e]
  refine ⟨⟨by rw [encTs_len]; omega, by rw [encTs_len]; omega⟩, ?_⟩
  refine count x.f3.length (fun i => turnS g c0 c1 f x q i) (lm [(0, 0), (1, 1), (2, 2), (3, 3), (4, 15)] (hB := by simp [bsub, onto, bm, subs, subC, zC, hc0.2.2, hc1.2.2]) (hG := by simp [gsub, onto, bm, rowS, encTs_len, turns, encTs, zC]) (hh := hh2)) fun i hi => ?_
  unfold turnS
  refine go ?_
  by_cases p : (i : Int) < (encTs x.f3).length
  ·simp only [p, decide_true]
   refine go ?_
   obtain ⟨y, hy, hm, hl'⟩ := part p
   simp only [eget hy]
   have yh := height_mem hm
   have ys := sizes_mem hm
   refine go ?_
   rw [List.flatMap_append, hc0.2.1, hc1.2.1, hc0.1, hc1.1]
   refine ⟨rfl, .ret (.tup [.agg (encT (turn f y q)), .agg c0, .agg c1]), ?_, ?_⟩
   ·simp only [sps]
    rw [if_neg hg, if_pos trivial]
    exact ⟨y, q, by rw [encT_is y], by omega, tames_mem ts hm, by omega, by omega, by omega, rfl⟩
   rw [encT_is (turn f y q)]
   refine go ?_
   rw [if_pos (by rw [rowS_length hi]; exact hl')]
   refine go ?_
   simp only [rowS_get hl']
   refine go ?_
   have e := rowS_set (f := f) (q := q) hy hl'
   rw [encT_is (turn f y q)] at e
   rw [nxt (by omega)]
   simp only [show List.drop 4 zC = [] from rfl, e]
   exact ⟨hl', lm [(0, 0), (1, 1), (2, 2), (3, 3), (4, 4)] (hB := by simp [bsub, onto, bm, subs, subC, zC, hc0.2.2, hc1.2.2]) (hh := hh2)⟩
  ·simp only [p, decide_false]
   have := fin_at hi p
   subst this
   refine go ?_
   rw [hc0.1, hc1.1, encT_is, show rowS f q x.f3 x.f3.length = encTs (turns f x.f3 q) by unfold rowS; rw [take_len]; simp]
end Go.Proofs.YtnjmilelifmfpaaGreatDoor.Ev

namespace Go.Proofs.YtnjmilelifmfpaaGreatDoor.Ev
open Go Go.RowKit
open HCore (wt wts may same height heights size sizes)
open Go.Proofs.YtnjmilelifmfpaaGreatDoor.HSub (turn turns tame tames more bump upV putV instV up put inst)
set_option linter.unusedSimpArgs false
set_option linter.unusedVariables false
theorem c_up1 {J : JW} (hJ : JOk J) {m fr : Int} (hm0 : 0 ≤ m) (hm1 : m ≤ 4000000000000000000) (hf0 : 0 ≤ fr) (hf1 : fr ≤ 1000000000000000000) : Con Tryz.prog J 124 (TV2 [.s (.int .i64 fr)] [.s (.int .i64 m)] (upV m fr)) := by
 obtain ⟨code, h1, h2, h3, h4⟩ := k124
 refine conH (E := envH 2 [(89, TCopied)]) (ok_h (ok_cons (c_copied hJ) ok_nil)) hJ h1 h2 h3 h4 (fun args out h => ?_) (h0 := Nat.zero_lt_two)
 obtain ⟨v, q, rfl, v0, v1, q0, q1, rfl⟩ := h
 refine ⟨[[.s (.int .i64 fr)], [.s (.int .i64 m)]], _, rfl, rfl, by rw [Tryz.ntmps124]; simp, ?_⟩
 rw [encT_is v]
 unfold c124
 refine go ?_
 rw [wr (by omega) (by omega)]
 by_cases h : v.f1 ≥ fr + q
 ·simp only [h, decide_true]
  refine go ?_
  refine call (T := TCopied) ⟨v, m, by rw [encT_is v], by omega, by omega, rfl⟩ ?_
  rw [encT_is (bump v m)]
  refine go ?_
  rw [show upV m fr v q = bump v m from if_pos h, encT_is (bump v m)]
 ·simp only [h, decide_false]
  refine go ?_
  rw [show upV m fr v q = v from if_neg h, encT_is v]
abbrev TUp : Spec := fun args out => ∃ (x : Tm) (m fr : Int), args = [.agg (encT x), .s (.int .i64 m), .s (.int .i64 fr)] ∧ tame x ∧ size x ≤ 1000000000 ∧ 0 ≤ m ∧ m ≤ 4000000000000000000 ∧ 0 ≤ fr ∧ fr ≤ 1000000000000000000 ∧ out = .ret (.agg (encT (up x m fr)))
theorem c_up {J : JW} (hJ : JOk J) : Con Tryz.prog J 88 TUp := by
 obtain ⟨code, h1, h2, h3, h4⟩ := k88
 intro args out ho
 obtain ⟨x, m, fr, rfl, ht, hs, hm0, hm1, hf0, hf1, rfl⟩ := ho
 have hh := height_le_size x
 refine con (T := fun args out => args = [.agg (encT x), .s (.int .i64 m), .s (.int .i64 fr)] ∧ out = .ret (.agg (encT (up x m fr))))
  (ok_cons (c_turn2 hJ (f := upV m fr) (by decide) flat_i flat_i (c_up1 hJ hm0 hm1 hf0 hf1) (by kernel_rfl) (height x + 1)) ok_nil) hJ h1 h2 h3 h4 (fun args out h => ?_) rfl (by kernel_rfl) _ _ ⟨rfl, rfl⟩
 obtain ⟨rfl, rfl⟩ := h
 refine ⟨rfl, by rw [Tryz.ntmps88]; simp, ?_⟩
 rw [encT_is x]
 unfold c88
 refine go ?_
 refine ⟨_, ⟨x, 0, by rw [encT_is x], by omega, ht, hs, by omega, by omega, rfl⟩, ?_⟩
 rw [show turn (upV m fr) x 0 = up x m fr from rfl, encT_is (up x m fr)]
 refine go ?_
 trivial
theorem c_put1 {J : JW} (hJ : JOk J) {k : Int} {s : Tm} (hk0 : 0 ≤ k) (hk1 : k ≤ 1000000000000000000) (ht : tame s) (hs : size s ≤ 1000000000) : Con Tryz.prog J 87 (TV2 [.s (.int .i64 k)] (encT s) (putV k s)) := by
 obtain ⟨code, h1, h2, h3, h4⟩ := k87
 refine conH (E := envH 2 [(89, TCopied), (88, TUp)]) (ok_h (ok_cons (c_copied hJ) (ok_cons (c_up hJ) ok_nil))) hJ h1 h2 h3 h4 (fun args out h => ?_) (h0 := Nat.zero_lt_two)
 obtain ⟨v, q, rfl, v0, v1, q0, q1, rfl⟩ := h
 refine ⟨[[.s (.int .i64 k)], encT s], _, rfl, rfl, by rw [Tryz.ntmps87]; simp, ?_⟩
 rw [encT_is v, encT_is s]
 unfold c87
 refine go ?_
 rw [wr (by omega) (by omega)]
 cases e : (v.f1 == k + q) with
 | true =>
  have h : v.f1 = k + q := by simpa using e
  refine go ?_
  refine call (T := TUp) ⟨s, q, 0, by rw [encT_is s], ht, hs, q0, by omega, by omega, by omega, rfl⟩ ?_
  rw [encT_is (up s q 0)]
  refine go ?_
  rw [show putV k s v q = up s q 0 from if_pos h, encT_is (up s q 0)]
 | false =>
 have h : ¬ v.f1 = k + q := by simpa using e
 refine go ?_
 by_cases h' : v.f1 > k + q
 ·simp only [h', decide_true]
  refine go ?_
  refine call (T := TCopied) ⟨v, -1, by rw [encT_is v], by omega, by omega, rfl⟩ ?_
  rw [encT_is (bump v (-1))]
  refine go ?_
  rw [show putV k s v q = bump v (-1) by unfold putV; rw [if_neg h, if_pos h'], encT_is (bump v (-1))]
 ·simp only [h', decide_false]
  refine go ?_
  rw [show putV k s v q = v by unfold putV; rw [if_neg h, if_neg h'], encT_is v]
abbrev TPut : Spec := fun args out => ∃ (x : Tm) (k : Int) (s : Tm), args = [.agg (encT x), .s (.int .i64 k), .agg (encT s)] ∧ tame x ∧ size x ≤ 1000000000 ∧ 0 ≤ k ∧ k ≤ 1000000000000000000 ∧ tame s ∧ size s ≤ 1000000000 ∧ out = .ret (.agg (encT (put x k s)))
theorem c_put {J : JW} (hJ : JOk J) : Con Tryz.prog J 56 TPut := by
 obtain ⟨code, h1, h2, h3, h4⟩ := k56
 intro args out ho
 obtain ⟨x, k, s, rfl, ht, hs, hk0, hk1, ht', hs', rfl⟩ := ho
 have hh := height_le_size x
 refine con (T := fun args out => args = [.agg (encT x), .s (.int .i64 k), .agg (encT s)] ∧ out = .ret (.agg (encT (put x k s))))
  (ok_cons (c_turn2 hJ (f := putV k s) (by decide) flat_i (by rw [encT_is s]; exact flat_t) (c_put1 hJ hk0 hk1 ht' hs') (by kernel_rfl) (height x + 1)) ok_nil) hJ h1 h2 h3 h4 (fun args out h => ?_) rfl (by kernel_rfl) _ _ ⟨rfl, rfl⟩
 obtain ⟨rfl, rfl⟩ := h
 refine ⟨rfl, by rw [Tryz.ntmps56]; simp, ?_⟩
 rw [encT_is x, encT_is s]
 unfold c56
 refine go ?_
 refine ⟨_, ⟨x, 0, by rw [encT_is x], by omega, ht, hs, by omega, by omega, rfl⟩, ?_⟩
 rw [show turn (putV k s) x 0 = put x k s from rfl, encT_is (put x k s)]
 refine go ?_
 trivial
end Go.Proofs.YtnjmilelifmfpaaGreatDoor.Ev

namespace Go.Proofs.YtnjmilelifmfpaaGreatDoor.Ev
open Go Go.RowKit
open HCore (wt wts may same height heights size sizes)
open Go.Proofs.YtnjmilelifmfpaaGreatDoor.HSub (turn turns tame tames more bump upV putV instV up put inst)
set_option linter.unusedSimpArgs false
set_option linter.unusedVariables false
abbrev TV1 (c0 : List AV) (f : Tm → Int → Tm) : Spec := fun args out => ∃ (v : Tm) (b : Int), args = [.tup [.agg c0], .agg (encT v), .s (.int .i64 b), .ptr 0 0] ∧ 0 ≤ v.f1 ∧ v.f1 ≤ 5000000000000000000 ∧ 0 ≤ b ∧ b ≤ 90000000000 ∧
 out = .ret (.tup [.agg (encT (f v b)), .agg c0])
abbrev TTurn1 (g : FuncId) (c0 : List AV) (f : Tm → Int → Tm) (n : Nat) : Spec := fun args out => ∃ (x : Tm) (b : Int), args = [.tup [.agg c0], .agg (encT x), .s (.int .i64 b), .fn g [] [.ptr 0 0]] ∧
 height x < n ∧ tame x ∧ size x ≤ 1000000000 ∧ 0 ≤ b ∧ b + 9 * (height x : Int) ≤ 90000000000 ∧ out = .ret (.tup [.agg (encT (turn f x b)), .agg c0])
def turnS1 (g : FuncId) (c0 : List AV) (f : Tm → Int → Tm) (x : Tm) (q : Int) (i : Nat) : AS := ⟨tm [(35, .s (.int .i64 (i : Int))), (34, .s (.int .i64 ((encTs x.f3).length : Int))), (33, .row (encTs x.f3)), (7, .ref 3), (1, .s (.int .i64 q)), (6, .ptr 2 0), (3, .ptr 1 0), (2, .fn g [] [.ptr 0 0])],
 bm [(2, some zC), (1, some [.s (.int .i64 x.f0), .s (.int .i64 x.f1), .s (.string x.f2), .row (encTs x.f3)]), (0, some c0)], bm [(3, some ⟨24, 4, rowS f q x.f3 i, true⟩)], 4⟩
theorem hh1t {k : Nat} : ∀ j : Nat, j < 1 → j < 4 ∧ onto [(0, 0), (1, 1), (2, 2), (3, k)] j = some j := by
 intro j hj
 have : j = 0 := by omega
 subst this; exact ⟨by decide, rfl⟩
set_option maxHeartbeats 4000000 in
set_option maxRecDepth 100000 in
theorem c_turn1 {J : JW} (hJ : JOk J) {g : FuncId} {c0 : List AV} {f : Tm → Int → Tm} (hg : 86 ≠ g) (hc0 : FlatC c0) (hT : Con Tryz.prog J g (TV1 c0 f)) (hf : fnOk Tryz.prog g = true) (n : Nat) :
  Con Tryz.prog J 86 (TTurn1 g c0 f n) := by
 induction n with
 | zero => rintro args out ⟨x, b, rfl, h, _⟩; exact absurd h (Nat.not_lt_zero _)
 | succ n ih =>
 obtain ⟨code, h1, h2, h3, h4⟩ := k86
 refine conH (E := envH 1 [(g, TV1 c0 f), (86, TTurn1 g c0 f n)]) (ok_h (ok_cons hT (ok_cons ih ok_nil) hf)) hJ h1 h2 h3 h4 (fun args out h => ?_) (h0 := Nat.zero_lt_one)
 obtain ⟨x, m, rfl, hh, ht, hs, hb0, hb1, rfl⟩ := h
 refine ⟨[c0], _, rfl, rfl, by rw [Tryz.ntmps86]; simp, ?_⟩
 rw [tame_of] at ht
 obtain ⟨t1, t6, ts⟩ := ht
 rw [encT_is x, turn_of]
 unfold c86
 refine go ?_
 cases k1 : (x.f0 == 1) with
 | true =>
  have kk : x.f0 = 1 := by simpa using k1
  rw [if_pos kk]
  refine go ?_
  rw [hc0.2.1, hc0.1]
  refine ⟨rfl, _, ⟨x, m, by rw [encT_is x], (t1 kk).1, (t1 kk).2, hb0, by omega, rfl⟩, ?_⟩
  rw [encT_is (f x m)]
  refine go ?_
  rw [hc0.1]
 | false =>
 have n1 : ¬ x.f0 = 1 := by simpa using k1
 rw [if_neg n1]
 have hd : height x = heights x.f3 + 1 := height_of x
 have sd : size x = sizes x.f3 + 1 := size_of x
 have sl := len_sizes x.f3
 obtain ⟨q, hq⟩ : ∃ q, q = m + more x.f0 x.f1 := ⟨_, rfl⟩
 rw [← hq]
 have hq0 : 0 ≤ q ∧ q ≤ m + 8 := by
  rw [hq]; unfold more
  by_cases e2 : x.f0 = 2
  ·rw [if_pos e2]; omega
  ·rw [if_neg e2]
   by_cases e6 : x.f0 = 6
   ·rw [if_pos e6]; have := t6 e6; omega
   ·rw [if_neg e6]; omega
 refine go ?_
 cases k2 : (x.f0 == 2) with
 | true =>
  have kk : x.f0 = 2 := by simpa using k2
  refine go ?_
  rw [wr (by omega) (by omega), show m + 1 = q by rw [hq]; unfold more; rw [if_pos kk]]
  refine ⟨⟨by rw [encTs_len]; omega, by rw [encTs_len]; omega⟩, ?_⟩
  refine count x.f3.length (fun i => turnS1 g c0 f x q i) (lm [(0, 0), (1, 1), (2, 2), (3, 15)] (hB := by simp [bsub, onto, bm, subs, subC, zC, hc0.2.2]) (hG := by simp [gsub, onto, bm, rowS, encTs_len, turns, encTs, zC]) (hh := hh1t)) fun i hi => ?_
  unfold turnS1
  refine go ?_
  by_cases p : (i : Int) < (encTs x.f3).length
  ·simp only [p, decide_true]
   refine go ?_
   obtain ⟨y, hy, hm, hl'⟩ := part p
   simp only [eget hy]
   have yh := height_mem hm
   have ys := sizes_mem hm
   refine go ?_
   rw [hc0.2.1, hc0.1]
   refine ⟨rfl, .ret (.tup [.agg (encT (turn f y q)), .agg c0]), ?_, ?_⟩
   ·simp only [sps]
    rw [if_neg hg, if_pos trivial]
    exact ⟨y, q, by rw [encT_is y], by omega, tames_mem ts hm, by omega, by omega, by omega, rfl⟩
   rw [encT_is (turn f y q)]
   refine go ?_
   rw [if_pos (by rw [rowS_length hi]; exact hl')]
   refine go ?_
   simp only [rowS_get hl']
   refine go ?_
   have e := rowS_set (f := f) (q := q) hy hl'
   rw [encT_is (turn f y q)] at e
   rw [nxt (by omega)]
   simp only [show List.drop 4 zC = [] from rfl, e]
   exact ⟨hl', lm [(0, 0), (1, 1), (2, 2), (3, 3)] (hB := by simp [bsub, onto, bm, subs, subC, zC, hc0.2.2]) (hh := hh1t)⟩
  ·simp only [p, decide_false]
   have := fin_at hi p
   subst this
   refine go ?_
   rw [hc0.1, encT_is, show rowS f q x.f3 x.f3.length = encTs (turns f x.f3 q) by unfold rowS; rw [take_len]; simp]
 | false =>
 have n2 : ¬ x.f0 = 2 := by simpa using k2
 refine go ?_
 cases k6 : (x.f0 == 6) with
 | true =>
  have kk : x.f0 = 6 := by simpa using k6
  refine go ?_
  rw [wr (by omega) (by omega), show m + x.f1 = q by rw [hq]; unfold more; rw [if_neg n2, if_pos kk]]
  refine ⟨⟨by rw [encTs_len]; omega, by rw [encTs_len]; omega⟩, ?_⟩
  refine count x.f3.length (fun i => turnS1 g c0 f x q i) (lm [(0, 0), (1, 1), (2, 2), (3, 19)] (hB := by simp [bsub, onto, bm, subs, subC, zC, hc0.2.2]) (hG := by simp [gsub, onto, bm, rowS, encTs_len, turns, encTs, zC]) (hh := hh1t)) fun i hi => ?_
  unfold turnS1
  refine go ?_
  by_cases p : (i : Int) < (encTs x.f3).length
  ·simp only [p, decide_true]
   refine go ?_
   obtain ⟨y, hy, hm, hl'⟩ := part p
   simp only [eget hy]
   have yh := height_mem hm
   have ys := sizes_mem hm
   refine go ?_
   rw [hc0.2.1, hc0.1]
   refine ⟨rfl, .ret (.tup [.agg (encT (turn f y q)), .agg c0]), ?_, ?_⟩
   ·simp only [sps]
    rw [if_neg hg, if_pos trivial]
    exact ⟨y, q, by rw [encT_is y], by omega, tames_mem ts hm, by omega, by omega, by omega, rfl⟩
   rw [encT_is (turn f y q)]
   refine go ?_
   rw [if_pos (by rw [rowS_length hi]; exact hl')]
   refine go ?_
   simp only [rowS_get hl']
   refine go ?_
   have e := rowS_set (f := f) (q := q) hy hl'
   rw [encT_is (turn f y q)] at e
   rw [nxt (by omega)]
   simp only [show List.drop 4 zC = [] from rfl, e]
   exact ⟨hl', lm [(0, 0), (1, 1), (2, 2), (3, 3)] (hB := by simp [bsub, onto, bm, subs, subC, zC, hc0.2.2]) (hh := hh1t)⟩
  ·simp only [p, decide_false]
   have := fin_at hi p
   subst this
   refine go ?_
   rw [hc0.1, encT_is, show rowS f q x.f3 x.f3.length = encTs (turns f x.f3 q) by unfold rowS; rw [take_len]; simp]
 | false =>
  have n6 : ¬ x.f0 = 6 := by simpa using k6
  have e : m = q := by rw [hq]; unfold more; rw [if_neg n2, if_neg n6]; omega
  refine go ?_
  rw [e]
  refine ⟨⟨by rw [encTs_len]; omega, by rw [encTs_len]; omega⟩, ?_⟩
  refine count x.f3.length (fun i => turnS1 g c0 f x q i) (lm [(0, 0), (1, 1), (2, 2), (3, 14)] (hB := by simp [bsub, onto, bm, subs, subC, zC, hc0.2.2]) (hG := by simp [gsub, onto, bm, rowS, encTs_len, turns, encTs, zC]) (hh := hh1t)) fun i hi => ?_
  unfold turnS1
  refine go ?_
  by_cases p : (i : Int) < (encTs x.f3).length
  ·simp only [p, decide_true]
   refine go ?_
   obtain ⟨y, hy, hm, hl'⟩ := part p
   simp only [eget hy]
   have yh := height_mem hm
   have ys := sizes_mem hm
   refine go ?_
   rw [hc0.2.1, hc0.1]
   refine ⟨rfl, .ret (.tup [.agg (encT (turn f y q)), .agg c0]), ?_, ?_⟩
   ·simp only [sps]
    rw [if_neg hg, if_pos trivial]
    exact ⟨y, q, by rw [encT_is y], by omega, tames_mem ts hm, by omega, by omega, by omega, rfl⟩
   rw [encT_is (turn f y q)]
   refine go ?_
   rw [if_pos (by rw [rowS_length hi]; exact hl')]
   refine go ?_
   simp only [rowS_get hl']
   refine go ?_
   have e := rowS_set (f := f) (q := q) hy hl'
   rw [encT_is (turn f y q)] at e
   rw [nxt (by omega)]
   simp only [show List.drop 4 zC = [] from rfl, e]
   exact ⟨hl', lm [(0, 0), (1, 1), (2, 2), (3, 3)] (hB := by simp [bsub, onto, bm, subs, subC, zC, hc0.2.2]) (hh := hh1t)⟩
  ·simp only [p, decide_false]
   have := fin_at hi p
   subst this
   refine go ?_
   rw [hc0.1, encT_is, show rowS f q x.f3 x.f3.length = encTs (turns f x.f3 q) by unfold rowS; rw [take_len]; simp]
theorem c_inst1 {J : JW} (hJ : JOk J) {l : List Tm} (hl : l.length ≤ 1000000000) (ht : ∀ y ∈ l, tame y ∧ size y ≤ 1000000000) : Con Tryz.prog J 91 (TV1 [.row (encTs l)] (instV l)) := by
 obtain ⟨code, h1, h2, h3, h4⟩ := k91
 refine conH (E := envH 1 [(89, TCopied), (88, TUp)]) (ok_h (ok_cons (c_copied hJ) (ok_cons (c_up hJ) ok_nil))) hJ h1 h2 h3 h4 (fun args out h => ?_) (h0 := Nat.zero_lt_one)
 obtain ⟨v, q, rfl, v0, v1, q0, q1, rfl⟩ := h
 refine ⟨[[.row (encTs l)]], _, rfl, rfl, by rw [Tryz.ntmps91]; simp, ?_⟩
 rw [encT_is v]
 unfold c91
 refine go ?_
 rw [wr (by omega) (by omega)]
 by_cases e : v.f1 - q < 0
 ·simp only [e, decide_true]
  refine go ?_
  rw [show instV l v q = v from if_pos e, encT_is v]
 simp only [e, decide_false]
 refine go ?_
 have el := encTs_len l
 by_cases e' : v.f1 - q < ((encTs l).length : Int)
 ·simp only [e', decide_true]
  refine go ?_
  obtain ⟨y, hy⟩ : ∃ y, l[l.length - 1 - (v.f1 - q).toNat]? = some y := ⟨l[l.length - 1 - (v.f1 - q).toNat]'(by omega), List.getElem?_eq_getElem _⟩
  have hm : y ∈ l := List.mem_of_getElem? hy
  rw [wr (i := ((encTs l).length : Int) - 1) (by omega) (by omega), wr (by omega) (by omega), if_pos (by omega)]
  simp only [show (((encTs l).length : Int) - 1 - (v.f1 - q)).toNat = l.length - 1 - (v.f1 - q).toNat by omega, eget hy]
  refine go ?_
  refine call (T := TUp) ⟨y, q, 0, by rw [encT_is y], (ht y hm).1, (ht y hm).2, q0, by omega, by omega, by omega, rfl⟩ ?_
  rw [encT_is (up y q 0)]
  refine go ?_
  rw [show instV l v q = up y q 0 by unfold instV; rw [if_neg e, if_pos (by omega), List.getD_eq_getElem?_getD, hy]; rfl, encT_is (up y q 0)]
 ·simp only [e', decide_false]
  refine go ?_
  rw [wr (by omega) (by omega)]
  refine call (T := TCopied) ⟨v, 0 - ((encTs l).length : Int), by rw [encT_is v], by omega, by omega, rfl⟩ ?_
  rw [encT_is (bump v _)]
  refine go ?_
  rw [show instV l v q = bump v (0 - ((encTs l).length : Int)) by unfold instV; rw [if_neg e, if_neg (by omega), el, Int.zero_sub], encT_is (bump v _)]
abbrev TInst : Spec := fun args out => ∃ (x : Tm) (l : List Tm), args = [.agg (encT x), .row (encTs l)] ∧ tame x ∧ size x ≤ 1000000000 ∧ l.length ≤ 1000000000 ∧ (∀ y ∈ l, tame y ∧ size y ≤ 1000000000) ∧ out = .ret (.agg (encT (inst x l)))
theorem flat_r {r : List (List AV)} : FlatC [.row r] := ⟨fun _ => rfl, rfl, fun _ _ => by simp [subs, subC]⟩
theorem c_inst {J : JW} (hJ : JOk J) : Con Tryz.prog J 61 TInst := by
 obtain ⟨code, h1, h2, h3, h4⟩ := k61
 intro args out ho
 obtain ⟨x, l, rfl, ht, hs, hl, hts, rfl⟩ := ho
 have hh := height_le_size x
 refine con (T := fun args out => args = [.agg (encT x), .row (encTs l)] ∧ out = .ret (.agg (encT (inst x l))))
  (ok_cons (c_turn1 hJ (f := instV l) (by decide) flat_r (c_inst1 hJ hl hts) (by kernel_rfl) (height x + 1)) ok_nil) hJ h1 h2 h3 h4 (fun args out h => ?_) rfl (by kernel_rfl) _ _ ⟨rfl, rfl⟩
 obtain ⟨rfl, rfl⟩ := h
 refine ⟨rfl, by rw [Tryz.ntmps61]; simp, ?_⟩
 rw [encT_is x]
 unfold c61
 refine go ?_
 refine ⟨_, ⟨x, 0, by rw [encT_is x], by omega, ht, hs, by omega, by omega, rfl⟩, ?_⟩
 rw [show turn (instV l) x 0 = inst x l from rfl, encT_is (inst x l)]
 refine go ?_
 trivial
end Go.Proofs.YtnjmilelifmfpaaGreatDoor.Ev

namespace Go.Proofs.YtnjmilelifmfpaaGreatDoor.Ev
open Go Go.RowKit
open HCore (wt wts may same height heights size sizes)
open Go.Proofs.YtnjmilelifmfpaaGreatDoor.HSub (turn turns tame tames put inst failT num truth compute still find hstep)
set_option linter.unusedSimpArgs false
set_option linter.unusedVariables false
abbrev TFailed : Spec := fun args out => args = [] ∧ out = .ret (.tup [.agg (encT failT), .s (.int .i64 4)])
theorem c_failed {J : JW} (hJ : JOk J) : Con Tryz.prog J 57 TFailed := by
 obtain ⟨code, h1, h2, h3, h4⟩ := k57
 refine con ok_nil hJ h1 h2 h3 h4 fun args out h => ?_
 obtain ⟨rfl, rfl⟩ := h
 refine ⟨rfl, by rw [Tryz.ntmps57]; simp, ?_⟩
 unfold c57
 refine go ?_
 rfl
abbrev TTruth : Spec := fun args out => ∃ p : Bool, args = [.s (.bool p)] ∧ out = .ret (.tup [.agg (encT (truth p)), .s (.int .i64 3)])
theorem c_truth {J : JW} (hJ : JOk J) : Con Tryz.prog J 92 TTruth := by
 obtain ⟨code, h1, h2, h3, h4⟩ := k92
 refine con ok_nil hJ h1 h2 h3 h4 fun args out h => ?_
 obtain ⟨p, rfl, rfl⟩ := h
 refine ⟨rfl, by rw [Tryz.ntmps92]; simp, ?_⟩
 unfold c92
 refine go ?_
 cases p with
 | true => refine go ?_; rfl
 | false => refine go ?_; rfl
abbrev TCompute : Spec := fun args out => ∃ (s : ByteArray) (x y : Int), args = [.s (.string s), .s (.int .i64 x), .s (.int .i64 y)] ∧ out = .ret (.tup [.agg (encT (compute s.data.toList x y).1), .s (.int .i64 (compute s.data.toList x y).2)])
theorem wrap_is {i : Int} : IntKind.i64.wrap i = HSub.wrap i := by rw [IntKind.wrap_i64]; rfl
theorem truth_is {p : Bool} : encT (truth p) = [.s (.int .i64 4), .s (.int .i64 0), .s (.string (truth p).f2), .row []] := rfl
theorem failT_is : encT failT = [.s (.int .i64 9), .s (.int .i64 0), .s (.string ⟨#[]⟩), .row []] := rfl
theorem bl_is {s : ByteArray} {l : List UInt8} : (s.data.toList = l) = (s = ⟨l.toArray⟩) := propext ⟨fun h => ByteArray.ext (by rw [← h]), fun h => by rw [h]⟩
theorem compute_of (s : ByteArray) (x y : Int) : compute s.data.toList x y = if s = ⟨#[43]⟩ then (num (HSub.wrap (x + y)), 3) else if s = ⟨#[45]⟩ then (num (HSub.wrap (x - y)), 3) else if s = ⟨#[42]⟩ then (num (HSub.wrap (x * y)), 3)
  else if s = ⟨#[47]⟩ then (if y = 0 then (failT, 4) else (num (HSub.wrap (x.tdiv y)), 3)) else if s = ⟨#[60]⟩ then (truth (decide (x < y)), 3) else if s = ⟨#[61, 61]⟩ then (truth (decide (x = y)), 3) else (num 0, 3) := by
 unfold compute; simp only [bl_is]
theorem c_compute {J : JW} (hJ : JOk J) : Con Tryz.prog J 62 TCompute := by
 obtain ⟨code, h1, h2, h3, h4⟩ := k62
 refine con (ok_cons (c_failed hJ) (ok_cons (c_truth hJ) ok_nil)) hJ h1 h2 h3 h4 fun args out h => ?_
 obtain ⟨s, x, y, rfl, rfl⟩ := h
 refine ⟨rfl, by rw [Tryz.ntmps62]; simp, ?_⟩
 unfold c62
 rw [compute_of]
 refine go ?_
 refine ⟨fun e => ?_, fun n1 => ⟨fun e => ?_, fun n2 => ⟨fun e => ?_, fun n3 => ?_⟩⟩⟩
 ·rw [if_pos e, wrap_is]; rfl
 ·rw [if_neg n1, if_pos e, wrap_is]; rfl
 ·rw [if_neg n1, if_neg n2, if_pos e, wrap_is]; rfl
 rw [if_neg n1, if_neg n2, if_neg n3]
 refine ⟨fun e => ?_, fun n4 => ⟨fun e => ?_, fun n5 => ⟨fun e => ?_, fun n6 => ?_⟩⟩⟩
 ·rw [if_pos e]
  cases k : (y == 0) with
  | true =>
   refine go ?_
   refine call (T := TFailed) ⟨rfl, rfl⟩ ?_
   rw [if_pos (by simpa using k), failT_is]
   refine go ?_
   trivial
  | false =>
   rw [if_neg (by simpa using k)]
   have hy : y ≠ 0 := by simpa using k
   refine go ?_
   simp only [v_quo hy, wrap_is]
   refine go ?_
   rfl
 ·rw [if_neg n4, if_pos e]
  refine call (T := TTruth) ⟨_, rfl, rfl⟩ ?_
  rw [truth_is]
  refine go ?_
  trivial
 ·rw [if_neg n4, if_neg n5, if_pos e]
  refine call (T := TTruth) ⟨_, rfl, rfl⟩ ?_
  rw [truth_is]
  refine go ?_
  rfl
 ·rw [if_neg n4, if_neg n5, if_neg n6]; rfl
end Go.Proofs.YtnjmilelifmfpaaGreatDoor.Ev
