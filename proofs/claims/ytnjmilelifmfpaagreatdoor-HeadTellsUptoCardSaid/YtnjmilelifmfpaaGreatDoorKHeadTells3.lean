-- Written for this claim: several texts in one.
import Derived.Test.YtnjmilelifmfpaaGreatDoorKHeadTells1
import Derived.Test.YtnjmilelifmfpaaGreatDoorKHeadTells2
import Derived.KernelRfl
import Derived.OrdersHeld
import Derived.Lib.SliceRun
import Derived.Deep.RegionWith
import Derived.Lib.Hide
import Derived.Deep.DeepCutAuto
import Derived.Deep.CutBlock
import Derived.Laws.NewBlocks
import Derived.Laws.Slices
import Derived.Laws.Pointers
import Derived.Laws.Rows
import Derived.Tactics2
import Derived.ProofKit
set_option linter.unusedSimpArgs false
set_option linter.unusedVariables false
namespace Go.Proofs.YtnjmilelifmfpaaGreatDoor.Ev
open Go Go.RowKit Go.Proofs.YtnjmilelifmfpaaGreatDoor.Q Go.Proofs.YtnjmilelifmfpaaGreatDoorW.PrintWords Go.Proofs.YtnjmilelifmfpaaGreatDoorW.PrintLast Go.Proofs.YtnjmilelifmfpaaGreatDoorW.PrintMore
open HCore (wt wts may each alts mayCase same height heights size sizes bare oper)
set_option linter.unusedSimpArgs false
set_option linter.unusedVariables false
theorem ba_eqC {s u : ByteArray} : decide (s = u) = decide (s.data.toList = u.data.toList) := by
 by_cases h : s = u
 ·simp [h]
 ·simp only [h, decide_false]
  rw [eq_comm, decide_eq_false_iff_not]
  exact fun e => h (ByteArray.ext (Array.toList_inj.1 e))
theorem e00 {s : ByteArray} : decide (s.data.toList = []) = decide (s = ⟨#[]⟩) := (ba_eqC (u := ⟨#[]⟩)).symm
theorem bareC_is {n : Int} {s : ByteArray} : bare n s = (decide (s = ⟨#[]⟩) && decide (n = 0)) := by unfold bare; rw [e00]
abbrev TIn : Spec := fun args out => ∃ x y z : Int, args = [.s (.int .i64 x), .s (.int .i64 y), .s (.int .i64 z)] ∧ out = .ret (.s (.bool (decide (y ≤ x) && decide (x ≤ z))))
theorem c_in {J : JW} (hJ : JOk J) : Con Tryz.prog J 30 TIn := by
 obtain ⟨code, h1, h2, h3, h4⟩ := k30
 refine con ok_nil hJ h1 h2 h3 h4 fun args out h => ?_
 obtain ⟨x, y, z, rfl, rfl⟩ := h
 refine ⟨rfl, by rw [Tryz.ntmps30]; simp, ?_⟩
 unfold c30
 refine go ?_
 by_cases h : x ≥ y
 ·simp only [h, decide_true]; refine go ?_; simp [h]
 ·simp only [h, decide_false]; refine go ?_; simp [h]
abbrev TPlain : Spec := fun args out => ∃ x : Tm, args = [.agg (encT x)] ∧ out = .ret (.s (.bool (bare x.f1 x.f2)))
theorem c_plain {J : JW} (hJ : JOk J) : Con Tryz.prog J 31 TPlain := by
 obtain ⟨code, h1, h2, h3, h4⟩ := k31
 refine con ok_nil hJ h1 h2 h3 h4 fun args out h => ?_
 obtain ⟨x, rfl, rfl⟩ := h
 refine ⟨rfl, by rw [Tryz.ntmps31]; simp, ?_⟩
 rw [encT_is]
 unfold c31
 refine go ?_
 rw [bareC_is]
 by_cases h : x.f2 = ⟨#[]⟩
 ·simp only [h, decide_true]; refine go ?_; rfl
 ·simp only [h, decide_false]; refine go ?_; rfl
abbrev TOper : Spec := fun args out => ∃ s : ByteArray, args = [.s (.string s)] ∧ out = .ret (.s (.bool (oper s)))
theorem c_oper {J : JW} : Con Tryz.prog J 33 TOper := by
 rintro args out ⟨s, rfl, rfl⟩
 show ∀ S w vs, J w → Agr S w → All2 (Rep (g0 S)) _ vs → Calls Tryz.prog _ vs.toArray w (Post S w _)
 intro S w vs hJ hA h
 cases h with | cons r0 h =>
 cases h
 have e0 := sc_rep r0 rfl
 subst e0
 exact (core_operator.calls 9 s _ w (Pure.CoreCon.oper_is s)).mono fun e w' h => post_s hA rfl h
abbrev TConC : Spec := fun args out => ∃ s : ByteArray, args = [.s (.string s)] ∧ s.size ≤ 1000000000 ∧ out = .ret (.s (.bool (HCore.con s)))
theorem c_conC {J : JW} : Con Tryz.prog J 34 TConC := by
 rintro args out ⟨s, rfl, hs, rfl⟩
 show ∀ S w vs, J w → Agr S w → All2 (Rep (g0 S)) _ vs → Calls Tryz.prog _ vs.toArray w (Post S w _)
 intro S w vs hJ hA h
 cases h with | cons r0 h =>
 cases h
 have e0 := sc_rep r0 rfl
 subst e0
 exact (core_con.calls s _ w (Pure.CoreCon.con_is s hs)).mono fun e w' h => post_s hA rfl h
def fidx (p : Tm → Bool) : List Tm → Nat → Int
 | [], _ => -1
 | x :: r, i => if p x = true then (i : Int) else fidx p r (i + 1)
theorem fidx_any {p : Tm → Bool} : ∀ {l : List Tm} {i : Nat}, decide (fidx p l i ≥ 0) = l.any p
 | [], i => by simp [fidx]
 | x :: r, i => by
  rw [fidx, List.any_cons]
  cases p x with
  | true => simp
  | false => simp only [Bool.false_eq_true, if_false, Bool.false_or]; exact fidx_any
theorem fidx_drop {p : Tm → Bool} {l : List Tm} {i k : Nat} {y : Tm} (h : l[i]? = some y) : fidx p (l.drop i) k = if p y = true then (k : Int) else fidx p (l.drop (i + 1)) (k + 1) := by
 obtain ⟨hi, rfl⟩ := List.getElem?_eq_some_iff.1 h
 rw [List.drop_eq_getElem_cons hi, fidx]
def FlatC (cs : List AV) : Prop := (∀ gr, cs.map (pcell gr) = cs) ∧ cs.flatMap refC = [] ∧ ∀ n m, subs n m cs cs
abbrev TIdx (f : FuncId) (U : Spec) : Spec := fun args out => ∃ (cs : List AV) (l : List Tm) (p : Tm → Bool), args = [.tup [.agg cs], .row (encTs l), .fn f [] [.ptr 0 0]] ∧ l.length ≤ 1000000000 ∧ FlatC cs ∧
 (∀ x ∈ l, U [.tup [.agg cs], .agg (encT x), .ptr 0 0] (.ret (.tup [.s (.bool (p x)), .agg cs]))) ∧ out = .ret (.tup [.s (.int .i64 (fidx p l 0)), .agg cs])
theorem hh1 : ∀ j : Nat, j < 1 → j < 1 ∧ onto [(0, 0)] j = some j := by decide
def idxS (f : FuncId) (cs : List AV) (l : List Tm) (i : Nat) : AS := ⟨tm [(8, .s (.int .i64 (i : Int))), (7, .s (.int .i64 ((encTs l).length : Int))), (0, .row (encTs l)), (1, .fn f [] [.ptr 0 0])], bm [(0, some cs)], bm [], 1⟩
set_option maxHeartbeats 1000000 in
theorem c_idx {J : JW} (hJ : JOk J) {f : FuncId} {U : Spec} (hT : Con Tryz.prog J f U) (hf : fnOk Tryz.prog f = true) : Con Tryz.prog J 59 (TIdx f U) := by
 obtain ⟨code, h1, h2, h3, h4⟩ := k59
 refine conH (E := envH 1 [(f, U)]) (ok_h (ok_cons hT ok_nil hf)) hJ h1 h2 h3 h4 (fun args out h => ?_) (h0 := Nat.zero_lt_one)
 obtain ⟨cs, l, p, rfl, hl, hc, hp, rfl⟩ := h
 refine ⟨[cs], _, rfl, rfl, by rw [Tryz.ntmps59]; simp, ?_⟩
 unfold c59
 refine go ?_
 refine countI l.length (fun i (_ : Unit) => fidx p (l.drop i) i = fidx p l 0) (fun i _ => idxS f cs l i) () rfl (lm [(0, 0)] (hB := by simpa [bsub, onto, bm] using hc.2.2 _ _) (hh := hh1)) fun i _ hi hI => ?_
 unfold idxS
 refine go ?_
 by_cases q : (i : Int) < (encTs l).length
 ·simp only [q, decide_true]
  refine go ?_
  obtain ⟨y, hy, hm, hl'⟩ := part q
  simp only [eget hy]
  refine go ?_
  rw [hc.2.1, hc.1]
  refine ⟨rfl, _, by rw [← encT_is]; exact hp y hm, ?_⟩
  rw [fidx_drop hy] at hI
  refine go ?_
  cases hq : p y with
  | true =>
   rw [hq, if_pos rfl] at hI
   refine go ?_
   rw [hc.1, ← hI]
  | false =>
   rw [hq, if_neg (by decide)] at hI
   refine go ?_
   rw [nxt (by omega)]
   exact ⟨hl', (), hI, lm [(0, 0)] (hB := by simpa [bsub, onto, bm] using hc.2.2 _ _) (hh := hh1)⟩
 ·simp only [q, decide_false]
  have := fin_at hi q
  subst this
  rw [List.drop_length, fidx] at hI
  refine go ?_
  rw [hc.1, ← hI]
abbrev TCf (f : FuncId) (U : Spec) : Spec := fun args out => ∃ (cs : List AV) (l : List Tm) (p : Tm → Bool), args = [.tup [.agg cs], .row (encTs l), .fn f [] [.ptr 0 0]] ∧ l.length ≤ 1000000000 ∧ FlatC cs ∧
 (∀ x ∈ l, U [.tup [.agg cs], .agg (encT x), .ptr 0 0] (.ret (.tup [.s (.bool (p x)), .agg cs]))) ∧ out = .ret (.tup [.s (.bool (l.any p)), .agg cs])
theorem c_cf {J : JW} (hJ : JOk J) {f : FuncId} {U : Spec} (hT : Con Tryz.prog J f U) (hf : fnOk Tryz.prog f = true) : Con Tryz.prog J 51 (TCf f U) := by
 obtain ⟨code, h1, h2, h3, h4⟩ := k51
 refine conH (E := envH 1 [(59, TIdx f U)]) (ok_h (ok_cons (c_idx hJ hT hf) ok_nil)) hJ h1 h2 h3 h4 (fun args out h => ?_) (h0 := Nat.zero_lt_one)
 obtain ⟨cs, l, p, rfl, hl, hc, hp, rfl⟩ := h
 refine ⟨[cs], _, rfl, rfl, by rw [Tryz.ntmps51]; simp, ?_⟩
 unfold c51
 refine go ?_
 rw [hc.2.1, hc.1]
 refine ⟨rfl, _, ⟨cs, l, p, rfl, hl, hc, hp, rfl⟩, ?_⟩
 refine go ?_
 rw [hc.1, fidx_any]
def MB (n : Nat) (x : Tm) (free : Int) : Prop := height x < n ∧ wt x ≤ 1000000000 ∧ -1000000000 ≤ free ∧ free + 9 * (height x : Int) ≤ 9000000000000000000
abbrev TMayN (n : Nat) : Spec := fun args out => ∃ (x : Tm) (free : Int), args = [.agg (encT x), .s (.int .i64 free)] ∧ MB n x free ∧ out = .ret (.s (.bool (may x free)))
abbrev T52 (n : Nat) : Spec := fun args out => ∃ (x : Tm) (free : Int), args = [.tup [.agg [.s (.int .i64 free)]], .agg (encT x), .ptr 0 0] ∧ MB n x free ∧ out = .ret (.tup [.s (.bool (!may x free)), .agg [.s (.int .i64 free)]])
theorem c_e1 {J : JW} (hJ : JOk J) {n : Nat} (ih : Con Tryz.prog J 21 (TMayN n)) : Con Tryz.prog J 52 (T52 n) := by
 obtain ⟨code, h1, h2, h3, h4⟩ := k52
 refine conH (E := envH 1 [(21, TMayN n)]) (ok_h (ok_cons ih ok_nil)) hJ h1 h2 h3 h4 (fun args out h => ?_) (h0 := Nat.zero_lt_one)
 obtain ⟨x, free, rfl, hm, rfl⟩ := h
 refine ⟨[[.s (.int .i64 free)]], _, rfl, rfl, by rw [Tryz.ntmps52]; simp, ?_⟩
 rw [encT_is]
 unfold c52
 refine go ?_
 refine call (T := TMayN n) ⟨x, free, by rw [encT_is], hm, rfl⟩ ?_
 refine go ?_
 trivial
abbrev T55 : Spec := fun args out => ∃ (x y : Tm), args = [.tup [.agg (encT y)], .agg (encT x), .ptr 0 0] ∧ out = .ret (.tup [.s (.bool (decide (x.f2 = y.f2))), .agg (encT y)])
theorem c_e2 {J : JW} (hJ : JOk J) : Con Tryz.prog J 55 T55 := by
 obtain ⟨code, h1, h2, h3, h4⟩ := k55
 refine conH (E := envH 1 []) (ok_h ok_nil) hJ h1 h2 h3 h4 (fun args out h => ?_) (h0 := Nat.zero_lt_one)
 obtain ⟨x, y, rfl, rfl⟩ := h
 refine ⟨[encT y], _, rfl, rfl, by rw [Tryz.ntmps55]; simp, ?_⟩
 rw [encT_is x, encT_is y]
 unfold c55
 refine go ?_
 trivial
abbrev TEach (n : Nat) : Spec := fun args out => ∃ (l : List Tm) (free : Int), args = [.row (encTs l), .s (.int .i64 free)] ∧ l.length ≤ 1000000000 ∧ (∀ x ∈ l, MB n x free) ∧ out = .ret (.s (.bool (each l free)))
theorem flat_i {k : Int} : FlatC [.s (.int .i64 k)] := ⟨fun _ => rfl, rfl, fun _ _ => by simp [subs, subC]⟩
theorem each_any {l : List Tm} {free : Int} : each l free = !l.any fun x => !may x free := by
 rw [HCore.each_iff, List.not_any_eq_all_not]; simp
theorem c_each {J : JW} (hJ : JOk J) {n : Nat} (ih : Con Tryz.prog J 21 (TMayN n)) : Con Tryz.prog J 32 (TEach n) := by
 obtain ⟨code, h1, h2, h3, h4⟩ := k32
 refine con (E := env [(51, TCf 52 (T52 n))]) (ok_cons (c_cf hJ (c_e1 hJ ih) (by kernel_rfl)) ok_nil) hJ h1 h2 h3 h4 fun args out h => ?_
 obtain ⟨l, free, rfl, hl, hm, rfl⟩ := h
 refine ⟨rfl, by rw [Tryz.ntmps32]; simp, ?_⟩
 rw [each_any]
 unfold c32
 refine go ?_
 refine ⟨_, ⟨[.s (.int .i64 free)], l, fun x => !may x free, rfl, hl, flat_i, fun x hx => ⟨x, free, rfl, hm x hx, rfl⟩, rfl⟩, ?_⟩
 refine go ?_
 trivial
theorem altsC_cons (a : Tm) (r : List Tm) (free : Int) (seen : List Tm) : alts (a :: r) free seen = (decide (a.f0 = 6) && HCore.con a.f2 && decide (0 ≤ a.f1) && decide (a.f1 ≤ 8) && decide (a.f3.length = 1) && each a.f3 (free + a.f1) && !(seen.any fun b => decide (b.f2.data.toList = a.f2.data.toList)) && alts r free (seen ++ [a])) := by
 cases a; rw [alts]
theorem encTs_all : ∀ l : List Tm, ((encTs l).all fun c => c.length == 4) = true
 | [] => rfl
 | x :: l => by
  rw [encTs, List.all_cons, encTs_all l, encT_is]; rfl
theorem encTs_take : ∀ (l : List Tm) (i : Nat), (encTs l).take i = encTs (l.take i)
 | l, 0 => rfl
 | [], i + 1 => rfl
 | x :: l, i + 1 => by rw [encTs, List.take_succ_cons, encTs_take l i]; rfl
theorem flat_t {k m : Int} {s : ByteArray} {r : List (List AV)} : FlatC [.s (.int .i64 k), .s (.int .i64 m), .s (.string s), .row r] := ⟨fun _ => rfl, rfl, fun _ _ => by simp [subs, subC]⟩
theorem heightC_lt (x : Tm) : ∀ y ∈ x.f3, height y + 1 ≤ height x := by
 intro y hy
 have h1 := height_mem hy
 have h2 : height x = heights x.f3 + 1 := by cases x; rfl
 omega
theorem wtC_part (x : Tm) : ∀ y ∈ x.f3, wt y ≤ wt x := by
 intro y hy
 have := HCore.wt_get hy
 have : wts x.f3 ≤ wt x := by cases x; simp only [wt]; omega
 omega
abbrev TAlts (n : Nat) : Spec := fun args out => ∃ (l : List Tm) (free : Int), args = [.row (encTs l), .s (.int .i64 free)] ∧ l.length ≤ 1000000000 ∧ -1000000000 ≤ free ∧ (∀ a ∈ l, height a ≤ n ∧ wt a ≤ 1000000000 ∧ free + 9 * (height a : Int) ≤ 9000000000000000000) ∧
 out = .ret (.s (.bool (alts l free [] && decide (1 ≤ l.length) && decide (l.length ≤ 8))))
def altS (l : List Tm) (free : Int) (i : Nat) : AS := ⟨tm [(10, .s (.int .i64 (i : Int))), (9, .s (.int .i64 ((encTs l).length : Int))), (8, .row (encTs l)), (0, .row (encTs l)), (1, .s (.int .i64 free)), (4, .s (.bool false))], bm [], bm [], 0⟩
theorem altsC_drop {l : List Tm} {free : Int} {i : Nat} {y : Tm} (h : l[i]? = some y) : alts (l.drop i) free (l.take i) = (decide (y.f0 = 6) && HCore.con y.f2 && decide (0 ≤ y.f1) && decide (y.f1 ≤ 8) && decide (y.f3.length = 1) && each y.f3 (free + y.f1) && !((l.take i).any fun b => decide (b.f2 = y.f2)) && alts (l.drop (i + 1)) free (l.take (i + 1))) := by
 obtain ⟨hi, rfl⟩ := List.getElem?_eq_some_iff.1 h
 rw [List.drop_eq_getElem_cons hi, altsC_cons, List.take_succ_eq_append_getElem hi]
 simp only [ba_eqC]
set_option maxHeartbeats 4000000 in
set_option maxRecDepth 100000 in
theorem c_alts {J : JW} (hJ : JOk J) {n : Nat} (ih : Con Tryz.prog J 21 (TMayN n)) : Con Tryz.prog J 35 (TAlts n) := by
 obtain ⟨code, h1, h2, h3, h4⟩ := k35
 refine con (E := env [(51, TCf 55 T55), (34, TConC), (30, TIn), (21, TMayN n)]) (ok_cons (c_cf hJ (c_e2 hJ) (by kernel_rfl)) (ok_cons c_conC (ok_cons (c_in hJ) (ok_cons ih ok_nil)))) hJ h1 h2 h3 h4 fun args out h => ?_
 obtain ⟨l, free, rfl, hl, hf, hm, rfl⟩ := h
 refine ⟨rfl, by rw [Tryz.ntmps35]; simp, ?_⟩
 unfold c35
 refine go ?_
 refine countI l.length (fun i (_ : Unit) => alts (l.drop i) free (l.take i) = alts l free []) (fun i _ => altS l free i) () rfl (lm []) fun i _ hi hI => ?_
 unfold altS
 refine go ?_
 by_cases q : (i : Int) < (encTs l).length
 ·simp only [q, decide_true]
  refine go ?_
  obtain ⟨y, hy, hmem, hl'⟩ := part q
  have sw : y.f2.size ≤ wt y := by cases y; simp only [wt]; omega
  obtain ⟨b1, b2, b3⟩ := hm y hmem
  rw [altsC_drop hy] at hI
  simp only [eget hy]
  refine go ?_
  have bad : ∀ v : Bool, alts l free [] = v → v = false → alts l free [] = false := fun v h e => h.trans e
  cases k1 : (y.f0 != 6) with
  | true =>
   have : alts l free [] = false := by rw [← hI, show decide (y.f0 = 6) = false by simpa using k1]; simp
   refine go ?_
   simp [this]
  | false =>
  have k1' : decide (y.f0 = 6) = true := by simpa using k1
  refine go ?_
  refine call (T := TConC) ⟨y.f2, rfl, by omega, rfl⟩ ?_
  cases k2 : HCore.con y.f2 with
  | false =>
   have : alts l free [] = false := by rw [← hI, k2]; simp
   refine go ?_
   simp [this]
  | true =>
  refine go ?_
  refine call (T := TIn) ⟨_, _, _, rfl, rfl⟩ ?_
  cases k3 : (decide (0 ≤ y.f1) && decide (y.f1 ≤ 8)) with
  | false =>
   have : alts l free [] = false := by rw [← hI, Bool.and_assoc (_ && _) (decide (0 ≤ y.f1)), k3]; simp
   refine go ?_
   simp [this]
  | true =>
  refine go ?_
  cases k4 : (((encTs y.f3).length : Int) != 1) with
  | true =>
   have : alts l free [] = false := by
    have e : decide (y.f3.length = 1) = false := by
     rw [encTs_len] at k4
     rw [decide_eq_false_iff_not]
     intro h; rw [h] at k4; cases k4
    rw [← hI, e]; simp
   refine go ?_
   simp [this]
  | false =>
  obtain ⟨z, hz⟩ : ∃ z, y.f3 = [z] := by
   rw [encTs_len] at k4
   match hh : y.f3 with
   | [] => rw [hh] at k4; cases k4
   | [z] => exact ⟨z, rfl⟩
   | _ :: _ :: r => rw [hh] at k4; simp only [List.length_cons, bne_eq_false_iff_eq] at k4; omega
  have zm : z ∈ y.f3 := by rw [hz]; simp
  have zh := heightC_lt y z zm
  have zw := wtC_part y z zm
  have hf1 : 0 ≤ y.f1 ∧ y.f1 ≤ 8 := by simpa using k3
  have e3 : each y.f3 (free + y.f1) = may z (free + y.f1) := by rw [hz]; simp [each]
  have hzr : (encTs y.f3)[Int.toNat 0]? = some [.s (.int .i64 z.f0), .s (.int .i64 z.f1), .s (.string z.f2), .row (encTs z.f3)] := by rw [hz, ← encT_is]; rfl
  refine go ?_
  simp only [hzr]
  refine go ?_
  rw [wr (by omega) (by omega)]
  refine call (T := TMayN n) ⟨z, free + y.f1, by rw [encT_is], ⟨by omega, by omega, by omega, by omega⟩, rfl⟩ ?_
  cases k5 : may z (free + y.f1) with
  | false =>
   have : alts l free [] = false := by rw [← hI, e3, k5]; simp
   refine go ?_
   simp [this]
  | true =>
  refine go ?_
  have ht : (0 : Nat) ≤ i ∧ i ≤ (encTs l).length ∧ ((encTs l).all fun c => c.length == 4) = true := ⟨Nat.zero_le _, by rw [encTs_len]; omega, encTs_all l⟩
  rw [if_pos ht, encTs_take]
  refine go ?_
  refine ⟨_, ⟨[.s (.int .i64 y.f0), .s (.int .i64 y.f1), .s (.string y.f2), .row (encTs y.f3)], l.take i, fun b => decide (b.f2 = y.f2), rfl, by simp; omega, flat_t, fun x hx => ⟨x, y, by rw [encT_is y], by rw [encT_is y]⟩, rfl⟩, ?_⟩
  cases k6 : (l.take i).any fun b => decide (b.f2 = y.f2) with
  | true =>
   have : alts l free [] = false := by rw [← hI, k6]; simp
   refine go ?_
   simp [this]
  | false =>
  have k3' : (decide (0 ≤ y.f1) && decide (y.f1 ≤ 8)) = true := k3
  have hall : alts (l.drop (i + 1)) free (l.take (i + 1)) = alts l free [] := by
   rw [← hI, k1', k2, e3, k5, k6, hz]
   simp [hf1.1, hf1.2]
  refine go ?_
  rw [nxt (by omega)]
  exact ⟨hl', (), hall, lm []⟩
 ·simp only [q, decide_false]
  have := fin_at hi q
  subst this
  rw [List.drop_length, alts] at hI
  refine go ?_
  refine call (T := TIn) ⟨_, _, _, rfl, rfl⟩ ?_
  refine go ?_
  rw [encTs_len, ← hI, Bool.true_and]
  congr 1 <;> (rw [decide_eq_decide]; omega)
theorem ln0 {l : List Tm} : (((encTs l).length : Int) == 0) = decide (l.length = 0) := by rw [encTs_len, Bool.eq_iff_iff]; simp
theorem ln1 {l : List Tm} : (((encTs l).length : Int) == 1) = decide (l.length = 1) := by rw [encTs_len, Bool.eq_iff_iff]; simp; omega
theorem ln2 {l : List Tm} : (((encTs l).length : Int) == 2) = decide (l.length = 2) := by rw [encTs_len, Bool.eq_iff_iff]; simp; omega
theorem lnle8 {l : List Tm} : decide (((encTs l).length : Int) ≤ 8) = decide (l.length ≤ 8) := by rw [encTs_len, decide_eq_decide]; omega
theorem lnge2 {l : List Tm} : decide (((encTs l).length : Int) ≥ 2) = decide (2 ≤ l.length) := by rw [encTs_len, decide_eq_decide]; omega
theorem mayC_of (x : Tm) (free : Int) : may x free = (if x.f0 = 1 then decide (x.f3.length = 0) && decide (x.f2.data.toList = []) && decide (0 ≤ x.f1) && decide (x.f1 ≤ free - 1)
  else if x.f0 = 7 then decide (x.f3.length = 0) && decide (x.f2.data.toList = []) && decide (0 ≤ free)
  else if x.f0 = 9 then decide (x.f3.length = 0) && bare x.f1 x.f2 && decide (0 ≤ free)
  else if x.f0 = 2 then decide (x.f3.length = 1) && bare x.f1 x.f2 && decide (0 ≤ free) && each x.f3 (free + 1)
  else if x.f0 = 3 then decide (x.f3.length = 2) && bare x.f1 x.f2 && each x.f3 free
  else if x.f0 = 8 then decide (x.f3.length = 2) && decide (x.f1 = 0) && oper x.f2 && each x.f3 free
  else if x.f0 = 4 then decide (x.f3.length ≤ 8) && decide (x.f1 = 0) && HCore.con x.f2 && decide (0 ≤ free) && each x.f3 free
  else if x.f0 = 5 then decide (2 ≤ x.f3.length) && bare x.f1 x.f2 && mayCase x.f3 free
  else false) := by cases x; rw [may]
set_option maxHeartbeats 4000000 in
set_option maxRecDepth 100000 in
theorem c_mayN {J : JW} (hJ : JOk J) (n : Nat) : Con Tryz.prog J 21 (TMayN n) := by
 induction n with
 | zero => rintro args out ⟨x, free, rfl, hm, rfl⟩; exact absurd hm.1 (Nat.not_lt_zero _)
 | succ n ih =>
 obtain ⟨code, h1, h2, h3, h4⟩ := k21
 refine con (E := env [(30, TIn), (31, TPlain), (32, TEach n), (33, TOper), (34, TConC), (21, TMayN n), (35, TAlts n)]) (ok_cons (c_in hJ) (ok_cons (c_plain hJ) (ok_cons (c_each hJ ih) (ok_cons c_oper (ok_cons c_conC (ok_cons ih (ok_cons (c_alts hJ ih) ok_nil))))))) hJ h1 h2 h3 h4 fun args out h => ?_
 obtain ⟨x, free, rfl, ⟨b1, b2, b3, b4⟩, rfl⟩ := h
 refine ⟨rfl, by rw [Tryz.ntmps21]; simp, ?_⟩
 have sz := size_le_wt x
 have hs := height_le_size x
 have sw : x.f2.size ≤ wt x := by rw [wt_of]; omega
 have sl : x.f3.length ≤ wt x := by have := len_sizes x.f3; have := size_of x; omega
 have hp : ∀ y ∈ x.f3, MB n y free := fun y hy => by
  have := heightC_lt x y hy; have := wtC_part x y hy
  exact ⟨by omega, by omega, by omega, by omega⟩
 rw [mayC_of, e00]
 rw [encT_is]
 unfold c21
 refine go ?_
 cases k1 : (x.f0 == 1) with
 | true =>
  have kk : x.f0 = 1 := by simpa using k1
  rw [if_pos kk]
  refine go ?_
  rw [ln0]
  generalize decide (x.f3.length = 0) = p1
  cases p1 with
  | false => refine go ?_; rfl
  | true =>
  refine go ?_
  generalize decide (x.f2 = ⟨#[]⟩) = p2
  cases p2 with
  | false => refine go ?_; rfl
  | true =>
  refine go ?_
  rw [wr (by omega) (by omega)]
  refine call (T := TIn) ⟨_, _, _, rfl, rfl⟩ ?_
  refine go ?_
  trivial
 | false =>
 have n1 : ¬ x.f0 = 1 := by simpa using k1
 refine go ?_
 cases k7 : (x.f0 == 7) with
 | true =>
  have kk : x.f0 = 7 := by simpa using k7
  rw [if_neg n1, if_pos kk]
  refine go ?_
  rw [ln0]
  generalize decide (x.f3.length = 0) = p
  cases p with
  | false => refine go ?_; first|rfl | trivial
  | true =>
  refine go ?_
  generalize decide (x.f2 = ⟨#[]⟩) = p
  cases p with
  | false => refine go ?_; first|rfl | trivial
  | true =>
  refine go ?_
  first|rfl | trivial
 | false =>
 have n7 : ¬ x.f0 = 7 := by simpa using k7
 refine go ?_
 cases k9 : (x.f0 == 9) with
 | true =>
  have kk : x.f0 = 9 := by simpa using k9
  rw [if_neg n1, if_neg n7, if_pos kk]
  refine go ?_
  rw [ln0]
  generalize decide (x.f3.length = 0) = p
  cases p with
  | false => refine go ?_; first|rfl | trivial
  | true =>
  refine go ?_
  refine call (T := TPlain) ⟨x, by rw [encT_is], rfl⟩ ?_
  generalize bare x.f1 x.f2 = p
  cases p with
  | false => refine go ?_; first|rfl | trivial
  | true =>
  refine go ?_
  first|rfl | trivial
 | false =>
 have n9 : ¬ x.f0 = 9 := by simpa using k9
 refine go ?_
 cases k2 : (x.f0 == 2) with
 | true =>
  have kk : x.f0 = 2 := by simpa using k2
  rw [if_neg n1, if_neg n7, if_neg n9, if_pos kk]
  refine go ?_
  rw [ln1]
  generalize decide (x.f3.length = 1) = p
  cases p with
  | false => refine go ?_; first|rfl | trivial
  | true =>
  refine go ?_
  refine call (T := TPlain) ⟨x, by rw [encT_is], rfl⟩ ?_
  generalize bare x.f1 x.f2 = p
  cases p with
  | false => refine go ?_; first|rfl | trivial
  | true =>
  refine go ?_
  rw [show decide (free ≥ 0) = decide (0 ≤ free) from rfl]
  generalize decide (0 ≤ free) = p
  cases p with
  | false => refine go ?_; first|rfl | trivial
  | true =>
  refine go ?_
  rw [wr (by omega) (by omega)]
  refine call (T := TEach n) ⟨x.f3, free + 1, rfl, by omega, fun y hy => by have := heightC_lt x y hy; have := wtC_part x y hy; exact ⟨by omega, by omega, by omega, by omega⟩, rfl⟩ ?_
  refine go ?_
  first|rfl | trivial
 | false =>
 have n2 : ¬ x.f0 = 2 := by simpa using k2
 refine go ?_
 cases k3 : (x.f0 == 3) with
 | true =>
  have kk : x.f0 = 3 := by simpa using k3
  rw [if_neg n1, if_neg n7, if_neg n9, if_neg n2, if_pos kk]
  refine go ?_
  rw [ln2]
  generalize decide (x.f3.length = 2) = p
  cases p with
  | false => refine go ?_; first|rfl | trivial
  | true =>
  refine go ?_
  refine call (T := TPlain) ⟨x, by rw [encT_is], rfl⟩ ?_
  generalize bare x.f1 x.f2 = p
  cases p with
  | false => refine go ?_; first|rfl | trivial
  | true =>
  refine go ?_
  refine call (T := TEach n) ⟨x.f3, free, rfl, by omega, hp, rfl⟩ ?_
  refine go ?_
  first|rfl | trivial
 | false =>
 have n3 : ¬ x.f0 = 3 := by simpa using k3
 refine go ?_
 cases k8 : (x.f0 == 8) with
 | true =>
  have kk : x.f0 = 8 := by simpa using k8
  rw [if_neg n1, if_neg n7, if_neg n9, if_neg n2, if_neg n3, if_pos kk]
  refine go ?_
  rw [ln2]
  generalize decide (x.f3.length = 2) = p
  cases p with
  | false => refine go ?_; first|rfl | trivial
  | true =>
  refine go ?_
  rw [show (x.f1 == 0) = decide (x.f1 = 0) from rfl]
  generalize decide (x.f1 = 0) = p
  cases p with
  | false => refine go ?_; first|rfl | trivial
  | true =>
  refine go ?_
  refine call (T := TOper) ⟨x.f2, rfl, rfl⟩ ?_
  generalize oper x.f2 = p
  cases p with
  | false => refine go ?_; first|rfl | trivial
  | true =>
  refine go ?_
  refine call (T := TEach n) ⟨x.f3, free, rfl, by omega, hp, rfl⟩ ?_
  refine go ?_
  first|rfl | trivial
 | false =>
 have n8 : ¬ x.f0 = 8 := by simpa using k8
 refine go ?_
 cases k4 : (x.f0 == 4) with
 | true =>
  have kk : x.f0 = 4 := by simpa using k4
  rw [if_neg n1, if_neg n7, if_neg n9, if_neg n2, if_neg n3, if_neg n8, if_pos kk]
  refine go ?_
  rw [lnle8]
  generalize decide (x.f3.length ≤ 8) = p
  cases p with
  | false => refine go ?_; first|rfl | trivial
  | true =>
  refine go ?_
  rw [show (x.f1 == 0) = decide (x.f1 = 0) from rfl]
  generalize decide (x.f1 = 0) = p
  cases p with
  | false => refine go ?_; first|rfl | trivial
  | true =>
  refine go ?_
  refine call (T := TConC) ⟨x.f2, rfl, by omega, rfl⟩ ?_
  generalize HCore.con x.f2 = p
  cases p with
  | false => refine go ?_; first|rfl | trivial
  | true =>
  refine go ?_
  rw [show decide (free ≥ 0) = decide (0 ≤ free) from rfl]
  generalize decide (0 ≤ free) = p
  cases p with
  | false => refine go ?_; first|rfl | trivial
  | true =>
  refine go ?_
  refine call (T := TEach n) ⟨x.f3, free, rfl, by omega, hp, rfl⟩ ?_
  refine go ?_
  first|rfl | trivial
 | false =>
 have n4 : ¬ x.f0 = 4 := by simpa using k4
 refine go ?_
 cases k5 : (x.f0 == 5) with
 | true =>
  have kk : x.f0 = 5 := by simpa using k5
  rw [if_neg n1, if_neg n7, if_neg n9, if_neg n2, if_neg n3, if_neg n8, if_neg n4, if_pos kk]
  refine go ?_
  rw [lnge2]
  by_cases h2 : 2 ≤ x.f3.length
  rotate_left
  ·simp only [h2, decide_false]; refine go ?_; first|rfl | trivial
  simp only [h2, decide_true]
  refine go ?_
  refine call (T := TPlain) ⟨x, by rw [encT_is], rfl⟩ ?_
  generalize bare x.f1 x.f2 = p
  cases p with
  | false => refine go ?_; first|rfl | trivial
  | true =>
  refine go ?_
  obtain ⟨y, r, hr⟩ : ∃ y r, x.f3 = y :: r := by
   match hh : x.f3 with
   | [] => rw [hh] at h2; simp at h2
   | y :: r => exact ⟨y, r, rfl⟩
  have ym : y ∈ x.f3 := by rw [hr]; simp
  have rl : r.length + 1 = x.f3.length := by rw [hr]; rfl
  have hzr : (encTs x.f3)[Int.toNat 0]? = some [.s (.int .i64 y.f0), .s (.int .i64 y.f1), .s (.string y.f2), .row (encTs y.f3)] := by rw [hr, ← encT_is]; rfl
  simp only [hzr]
  refine go ?_
  refine call (T := TMayN n) ⟨y, free, by rw [encT_is], hp y ym, rfl⟩ ?_
  rw [show mayCase x.f3 free = (may y free && alts r free [] && decide (1 ≤ r.length) && decide (r.length ≤ 8)) by rw [hr, mayCase]]
  generalize may y free = p
  cases p with
  | false => refine go ?_; first|rfl | trivial
  | true =>
  refine go ?_
  have ht : Int.toNat 1 ≤ (encTs x.f3).length ∧ (encTs x.f3).length ≤ (encTs x.f3).length ∧ ((encTs x.f3).all fun c => c.length == 4) = true := ⟨by rw [encTs_len]; show 1 ≤ _; omega, Nat.le_refl _, encTs_all _⟩
  rw [if_pos ht, take_len, show List.drop (Int.toNat 1) (encTs x.f3) = encTs r by rw [hr]; rfl]
  refine go ?_
  refine call (T := TAlts n) ⟨r, free, rfl, by omega, b3, fun q hq => by
   have hq' : q ∈ x.f3 := by rw [hr]; exact List.mem_cons_of_mem _ hq
   have := heightC_lt x q hq'; have := wtC_part x q hq'; exact ⟨by omega, by omega, by omega⟩, rfl⟩ ?_
  refine go ?_
  first|rfl | trivial
 | false =>
 have n5 : ¬ x.f0 = 5 := by simpa using k5
 refine go ?_
 rw [if_neg n1, if_neg n7, if_neg n9, if_neg n2, if_neg n3, if_neg n8, if_neg n4, if_neg n5]
abbrev TMay : Spec := fun args out => ∃ (x : Tm) (free : Int), args = [.agg (encT x), .s (.int .i64 free)] ∧ wt x ≤ 1000000000 ∧ -1000000000 ≤ free ∧ free + 9 * (height x : Int) ≤ 9000000000000000000 ∧ out = .ret (.s (.bool (may x free)))
theorem c_may {J : JW} (hJ : JOk J) : Con Tryz.prog J 21 TMay := by
 rintro args out ⟨x, free, rfl, h1, h2, h3, rfl⟩
 exact c_mayN hJ (height x + 1) _ _ ⟨x, free, rfl, ⟨Nat.lt_succ_self _, h1, h2, h3⟩, rfl⟩
end Go.Proofs.YtnjmilelifmfpaaGreatDoor.Ev

/- Plain Lean: what layers 8 and 9 tell of terms: a term in a variable's place; steps. No program in sight. -/
namespace Go.Proofs.YtnjmilelifmfpaaGreatDoor.HSub
open Go.Proofs.YtnjmilelifmfpaaGreatDoor.Q Go.Proofs.YtnjmilelifmfpaaGreatDoor.HCore
def more (k n : Int) : Int := if k = 2 then 1 else if k = 6 then n else 0
mutual
def turn (g : T → Int → T) : T → Int → T
 | ⟨k, n, s, l⟩, b => if k = 1 then g ⟨k, n, s, l⟩ b else ⟨k, n, s, turns g l (b + more k n)⟩
def turns (g : T → Int → T) : List T → Int → List T
 | [], _ => []
 | x :: r, b => turn g x b :: turns g r b
end
def bump (v : T) (m : Int) : T := ⟨v.f0, v.f1 + m, v.f2, v.f3⟩
def upV (m fr : Int) (v : T) (b : Int) : T := if fr + b ≤ v.f1 then bump v m else v
def up (x : T) (m fr : Int) : T := turn (upV m fr) x 0
def putV (k : Int) (s : T) (v : T) (b : Int) : T := if v.f1 = k + b then up s b 0 else if k + b < v.f1 then bump v (-1) else v
def put (x : T) (k : Int) (s : T) : T := turn (putV k s) x 0
def instV (l : List T) (v : T) (b : Int) : T :=
 if v.f1 - b < 0 then v else if v.f1 - b < (l.length : Int) then up (l.getD (l.length - 1 - (v.f1 - b).toNat) ⟨0, 0, ⟨#[]⟩, []⟩) b 0 else bump v (-(l.length : Int))
def inst (x : T) (l : List T) : T := turn (instV l) x 0
mutual
def tame : T → Prop
 | ⟨k, n, _, l⟩ => (k = 1 → 0 ≤ n ∧ n ≤ 5000000000000000000) ∧ (k = 6 → 0 ≤ n ∧ n ≤ 8) ∧ tames l
def tames : List T → Prop
 | [] => True
 | x :: r => tame x ∧ tames r
end
def failT : T := ⟨9, 0, ⟨#[]⟩, []⟩
def nothing : T := ⟨0, 0, ⟨#[]⟩, []⟩
def num (n : Int) : T := ⟨7, n, ⟨#[]⟩, []⟩
def truth (b : Bool) : T := ⟨4, 0, if b then ⟨#[84, 114, 117, 101]⟩ else ⟨#[70, 97, 108, 115, 101]⟩, []⟩
def wrap (x : Int) : Int := (x + 9223372036854775808) % 18446744073709551616 - 9223372036854775808
def compute (s : List UInt8) (a b : Int) : T × Int :=
 if s = [43] then (num (wrap (a + b)), 3) else if s = [45] then (num (wrap (a - b)), 3) else if s = [42] then (num (wrap (a * b)), 3)
 else if s = [47] then (if b = 0 then (failT, 4) else (num (wrap (a.tdiv b)), 3))
 else if s = [60] then (truth (decide (a < b)), 3) else if s = [61, 61] then (truth (decide (a = b)), 3) else (num 0, 3)
def still (k : Int) : Bool := decide (k = 2) || decide (k = 4) || decide (k = 7) || decide (k = 9)
def find (s : List UInt8) (n : Int) : List T → Option T
 | [] => none
 | x :: r => if x.f2.data.toList = s ∧ x.f1 = n then some x else find s n r
def hd (l : List T) : T := l.headD nothing
mutual
def hstep : T → T × Int
 | ⟨k, n, s, l⟩ =>
  if k = 3 then stepApp n s l else if k = 5 then stepCase n s l else if k = 8 then stepOp n s l else (⟨k, n, s, l⟩, 0)
def stepApp (n : Int) (s : ByteArray) : List T → T × Int
 | x :: r =>
  if x.f0 = 2 then (put (hd x.f3) 0 (hd r), 1)
  else if x.f0 = 4 ∨ x.f0 = 7 ∨ x.f0 = 9 then (failT, 4)
  else if (hstep x).2 = 0 then (⟨3, n, s, x :: r⟩, 0) else (⟨3, n, s, (hstep x).1 :: r⟩, (hstep x).2)
 | [] => (⟨3, n, s, []⟩, 0)
def stepCase (n : Int) (s : ByteArray) : List T → T × Int
 | x :: r =>
  if x.f0 = 2 ∨ x.f0 = 7 ∨ x.f0 = 9 then (failT, 4)
  else if x.f0 = 4 then (match find x.f2.data.toList x.f3.length r with
   | some a => (inst (hd a.f3) x.f3, 2)
   | none => (failT, 4))
  else if (hstep x).2 = 0 then (⟨5, n, s, x :: r⟩, 0) else (⟨5, n, s, (hstep x).1 :: r⟩, (hstep x).2)
 | [] => (⟨5, n, s, []⟩, 0)
def stepOp (n : Int) (s : ByteArray) : List T → T × Int
 | x :: r =>
  if x.f0 = 2 ∨ x.f0 = 4 ∨ x.f0 = 9 then (failT, 4)
  else if x.f0 = 7 then stepOp2 n s x r
  else if (hstep x).2 = 0 then (⟨8, n, s, x :: r⟩, 0) else (⟨8, n, s, (hstep x).1 :: r⟩, (hstep x).2)
 | [] => (⟨8, n, s, []⟩, 0)
def stepOp2 (n : Int) (s : ByteArray) (a : T) : List T → T × Int
 | x :: r =>
  if x.f0 = 2 ∨ x.f0 = 4 ∨ x.f0 = 9 then (failT, 4)
  else if x.f0 = 7 then compute s.data.toList a.f1 x.f1
  else if (hstep x).2 = 0 then (⟨8, n, s, a :: x :: r⟩, 0) else (⟨8, n, s, a :: (hstep x).1 :: r⟩, (hstep x).2)
 | [] => (⟨8, n, s, [a]⟩, 0)
end
def run : Nat → T → Int → Nat → T × Int × Int
 | 0, _, n, _ => (nothing, n, 90)
 | q + 1, x, n, fuel =>
  if 5000 < size x then (nothing, n, 91)
  else if (hstep x).2 = 0 then (x, n, 0)
  else if fuel = 0 then (nothing, n, 90)
  else run q (hstep x).1 (n + 1) (fuel - 1)
end Go.Proofs.YtnjmilelifmfpaaGreatDoor.HSub

namespace Go.Proofs.YtnjmilelifmfpaaGreatDoor.Ev
open Go Go.RowKit
open HCore (wt wts may same height heights size sizes)
open HSub (turn turns tame tames more bump upV putV instV up put inst)
set_option linter.unusedSimpArgs false
set_option linter.unusedVariables false
abbrev TCopied : Spec := fun args out => ∃ (v : Tm) (m : Int), args = [.agg (encT v), .s (.int .i64 m)] ∧ -9223372036854775808 ≤ v.f1 + m ∧ v.f1 + m ≤ 9223372036854775807 ∧ out = .ret (.agg (encT (bump v m)))
theorem c_copied {J : JW} (hJ : JOk J) : Con Tryz.prog J 89 TCopied := by
 obtain ⟨code, h1, h2, h3, h4⟩ := k89
 refine con ok_nil hJ h1 h2 h3 h4 fun args out h => ?_
 obtain ⟨v, m, rfl, b1, b2, rfl⟩ := h
 refine ⟨rfl, by rw [Tryz.ntmps89]; simp, ?_⟩
 rw [encT_is, encT_is]
 unfold c89
 refine go ?_
 rw [wr (by omega) (by omega)]
 rfl
abbrev TV2 (c0 c1 : List AV) (f : Tm → Int → Tm) : Spec := fun args out => ∃ (v : Tm) (b : Int), args = [.tup [.agg c0, .agg c1], .agg (encT v), .s (.int .i64 b), .ptr 0 0, .ptr 1 0] ∧ 0 ≤ v.f1 ∧ v.f1 ≤ 5000000000000000000 ∧ 0 ≤ b ∧ b ≤ 90000000000 ∧
 out = .ret (.tup [.agg (encT (f v b)), .agg c0, .agg c1])
abbrev TTurn2 (g : FuncId) (c0 c1 : List AV) (f : Tm → Int → Tm) (n : Nat) : Spec := fun args out => ∃ (x : Tm) (b : Int), args = [.tup [.agg c0, .agg c1], .agg (encT x), .s (.int .i64 b), .fn g [] [.ptr 0 0, .ptr 1 0]] ∧
 height x < n ∧ tame x ∧ size x ≤ 1000000000 ∧ 0 ≤ b ∧ b + 9 * (height x : Int) ≤ 90000000000 ∧ out = .ret (.tup [.agg (encT (turn f x b)), .agg c0, .agg c1])
theorem turn_of (f : Tm → Int → Tm) (x : Tm) (b : Int) : turn f x b = if x.f0 = 1 then f x b else ⟨x.f0, x.f1, x.f2, turns f x.f3 (b + more x.f0 x.f1)⟩ := by cases x; rw [turn]
theorem tame_of (x : Tm) : tame x = ((x.f0 = 1 → 0 ≤ x.f1 ∧ x.f1 ≤ 5000000000000000000) ∧ (x.f0 = 6 → 0 ≤ x.f1 ∧ x.f1 ≤ 8) ∧ tames x.f3) := by cases x; rw [tame]
theorem tames_mem : ∀ {l : List Tm} {y : Tm}, tames l → y ∈ l → tame y
 | x :: l, y, h, hm => by
  rw [tames] at h
  rcases List.mem_cons.1 hm with rfl | hm
  ·exact h.1
  ·exact tames_mem h.2 hm
def zC : List AV := [.s (.int .i64 0), .s (.int .i64 0), .s (.string ⟨#[]⟩), .s (.slice none 0 0)]
theorem turns_map (f : Tm → Int → Tm) (q : Int) : ∀ l : List Tm, turns f l q = l.map fun x => turn f x q
 | [] => rfl
 | x :: l => by rw [turns, turns_map f q l]; rfl
def rowS (f : Tm → Int → Tm) (q : Int) (l : List Tm) (i : Nat) : List (List AV) := encTs (turns f (l.take i) q) ++ List.replicate (l.length - i) zC
theorem rowS_len {f : Tm → Int → Tm} {q : Int} {l : List Tm} {i : Nat} (hi : i ≤ l.length) : (encTs (turns f (l.take i) q)).length = i := by rw [encTs_len, turns_map]; simp; omega
theorem rowS_length {f : Tm → Int → Tm} {q : Int} {l : List Tm} {i : Nat} (hi : i ≤ l.length) : (rowS f q l i).length = l.length := by
 unfold rowS; rw [List.length_append, rowS_len hi, List.length_replicate]; omega
theorem rowS_get {f : Tm → Int → Tm} {q : Int} {l : List Tm} {i : Nat} (hi : i < l.length) : (rowS f q l i)[i]? = some zC := by
 unfold rowS
 rw [List.getElem?_append_right (by rw [rowS_len (by omega)]; omega), rowS_len (by omega), Nat.sub_self, List.getElem?_replicate, if_pos (by omega)]
theorem rowS_set {f : Tm → Int → Tm} {q : Int} {l : List Tm} {i : Nat} {y : Tm} (hy : l[i]? = some y) (hi : i < l.length) : (rowS f q l i).set i (encT (turn f y q)) = rowS f q l (i + 1) := by
 unfold rowS
 obtain ⟨_, rfl⟩ := List.getElem?_eq_some_iff.1 hy
 rw [List.set_append_right _ _ (by rw [rowS_len (by omega)]; omega), rowS_len (by omega), Nat.sub_self, show l.length - i = (l.length - (i + 1)) + 1 by omega, List.replicate_succ, List.set_cons_zero, List.take_succ_eq_append_getElem hi, turns_map, turns_map, encTs_map, encTs_map, List.map_append, List.map_append, List.append_assoc]
 rfl
def turnS (g : FuncId) (c0 c1 : List AV) (f : Tm → Int → Tm) (x : Tm) (q : Int) (i : Nat) : AS := ⟨tm [(35, .s (.int .i64 (i : Int))), (34, .s (.int .i64 ((encTs x.f3).length : Int))), (33, .row (encTs x.f3)), (7, .ref 4), (1, .s (.int .i64 q)), (6, .ptr 3 0), (3, .ptr 2 0), (2, .fn g [] [.ptr 0 0, .ptr 1 0])],
 bm [(3, some zC), (2, some [.s (.int .i64 x.f0), .s (.int .i64 x.f1), .s (.string x.f2), .row (encTs x.f3)]), (0, some c0), (1, some c1)], bm [(4, some ⟨24, 4, rowS f q x.f3 i, true⟩)], 5⟩
theorem hh2 {k : Nat} : ∀ j : Nat, j < 2 → j < 5 ∧ onto [(0, 0), (1, 1), (2, 2), (3, 3), (4, k)] j = some j := by
 intro j hj
 have : j = 0 ∨ j = 1 := by omega
 rcases this with rfl|rfl <;> exact ⟨by decide, rfl⟩
set_option maxHeartbeats 4000000 in
set_option maxRecDepth 100000 in
theorem c_turn2 {J : JW} (hJ : JOk J) {g : FuncId} {c0 c1 : List AV} {f : Tm → Int → Tm} (hg : 86 ≠ g) (hc0 : FlatC c0) (hc1 : FlatC c1) (hT : Con Tryz.prog J g (TV2 c0 c1 f)) (hf : fnOk Tryz.prog g = true) (n : Nat) :
  Con Tryz.prog J 86 (TTurn2 g c0 c1 f n) := by
 induction n with
 | zero => rintro args out ⟨x, b, rfl, h, _⟩; exact absurd h (Nat.not_lt_zero _)
 | succ n ih =>
 obtain ⟨code, h1, h2, h3, h4⟩ := k86
 refine conH (E := envH 2 [(g, TV2 c0 c1 f), (86, TTurn2 g c0 c1 f n)]) (ok_h (ok_cons hT (ok_cons ih ok_nil) hf)) hJ h1 h2 h3 h4 (fun args out h => ?_) (h0 := Nat.zero_lt_two)
 obtain ⟨x, m, rfl, hh, ht, hs, hb0, hb1, rfl⟩ := h
 refine ⟨[c0, c1], _, rfl, rfl, by rw [Tryz.ntmps86]; simp, ?_⟩
 rw [tame_of] at ht
 obtain ⟨t1, t6, ts⟩ := ht
 rw [encT_is x, turn_of]
 unfold c86
 refine go ?_
 cases k1 : (x.f0 == 1) with
 | true =>
  have kk : x.f0 = 1 := by simpa using k1
  rw [if_pos kk]
  refine go ?_
  rw [List.flatMap_append, hc0.2.1, hc1.2.1, hc0.1, hc1.1]
  refine ⟨rfl, _, ⟨x, m, by rw [encT_is x], (t1 kk).1, (t1 kk).2, hb0, by omega, rfl⟩, ?_⟩
  rw [encT_is (f x m)]
  refine go ?_
  rw [hc0.1, hc1.1]
 | false =>
 have n1 : ¬ x.f0 = 1 := by simpa using k1
 rw [if_neg n1]
 have hd : height x = heights x.f3 + 1 := height_of x
 have sd : size x = sizes x.f3 + 1 := size_of x
 have sl := len_sizes x.f3
 obtain ⟨q, hq⟩ : ∃ q, q = m + more x.f0 x.f1 := ⟨_, rfl⟩
 rw [← hq]
 have hq0 : 0 ≤ q ∧ q ≤ m + 8 := by
  rw [hq]; unfold more
  by_cases e2 : x.f0 = 2
  ·rw [if_pos e2]; omega
  ·rw [if_neg e2]
   by_cases e6 : x.f0 = 6
   ·rw [if_pos e6]; have := t6 e6; omega
   ·rw [if_neg e6]; omega
 refine go ?_
 cases k2 : (x.f0 == 2) with
 | true =>
  have kk : x.f0 = 2 := by simpa using k2
  refine go ?_
  rw [wr (by omega) (by omega), show m + 1 = q by rw [hq]; unfold more; rw [if_pos kk]]
  refine ⟨⟨by rw [encTs_len]; omega, by rw [encTs_len]; omega⟩, ?_⟩
  refine count x.f3.length (fun i => turnS g c0 c1 f x q i) (lm [(0, 0), (1, 1), (2, 2), (3, 3), (4, 16)] (hB := by simp [bsub, onto, bm, subs, subC, zC, hc0.2.2, hc1.2.2]) (hG := by simp [gsub, onto, bm, rowS, encTs_len, turns, encTs, zC]) (hh := hh2)) fun i hi => ?_
  unfold turnS
  refine go ?_
  by_cases p : (i : Int) < (encTs x.f3).length
  ·simp only [p, decide_true]
   refine go ?_
   obtain ⟨y, hy, hm, hl'⟩ := part p
   simp only [eget hy]
   have yh := height_mem hm
   have ys := sizes_mem hm
   refine go ?_
   rw [List.flatMap_append, hc0.2.1, hc1.2.1, hc0.1, hc1.1]
   refine ⟨rfl, .ret (.tup [.agg (encT (turn f y q)), .agg c0, .agg c1]), ?_, ?_⟩
   ·simp only [sps]
    rw [if_neg hg, if_pos trivial]
    exact ⟨y, q, by rw [encT_is y], by omega, tames_mem ts hm, by omega, by omega, by omega, rfl⟩
   rw [encT_is (turn f y q)]
   refine go ?_
   rw [if_pos (by rw [rowS_length hi]; exact hl')]
   refine go ?_
   simp only [rowS_get hl']
   refine go ?_
   have e := rowS_set (f := f) (q := q) hy hl'
   rw [encT_is (turn f y q)] at e
   rw [nxt (by omega)]
   simp only [show List.drop 4 zC = [] from rfl, e]
   exact ⟨hl', lm [(0, 0), (1, 1), (2, 2), (3, 3), (4, 4)] (hB := by simp [bsub, onto, bm, subs, subC, zC, hc0.2.2, hc1.2.2]) (hh := hh2)⟩
  ·simp only [p, decide_false]
   have := fin_at hi p
   subst this
   refine go ?_
   rw [hc0.1, hc1.1, encT_is, show rowS f q x.f3 x.f3.length = encTs (turns f x.f3 q) by unfold rowS; rw [take_len]; simp]
 | false =>
 have n2 : ¬ x.f0 = 2 := by simpa using k2
 refine go ?_
 cases k6 : (x.f0 == 6) with
 | true =>
  have kk : x.f0 = 6 := by simpa using k6
  refine go ?_
  rw [wr (by omega) (by omega), show m + x.f1 = q by rw [hq]; unfold more; rw [if_neg n2, if_pos kk]]
  refine ⟨⟨by rw [encTs_len]; omega, by rw [encTs_len]; omega⟩, ?_⟩
  refine count x.f3.length (fun i => turnS g c0 c1 f x q i) (lm [(0, 0), (1, 1), (2, 2), (3, 3), (4, 20)] (hB := by simp [bsub, onto, bm, subs, subC, zC, hc0.2.2, hc1.2.2]) (hG := by simp [gsub, onto, bm, rowS, encTs_len, turns, encTs, zC]) (hh := hh2)) fun i hi => ?_
  unfold turnS
  refine go ?_
  by_cases p : (i : Int) < (encTs x.f3).length
  ·simp only [p, decide_true]
   refine go ?_
   obtain ⟨y, hy, hm, hl'⟩ := part p
   simp only [eget hy]
   have yh := height_mem hm
   have ys := sizes_mem hm
   refine go ?_
   rw [List.flatMap_append, hc0.2.1, hc1.2.1, hc0.1, hc1.1]
   refine ⟨rfl, .ret (.tup [.agg (encT (turn f y q)), .agg c0, .agg c1]), ?_, ?_⟩
   ·simp only [sps]
    rw [if_neg hg, if_pos trivial]
    exact ⟨y, q, by rw [encT_is y], by omega, tames_mem ts hm, by omega, by omega, by omega, rfl⟩
   rw [encT_is (turn f y q)]
   refine go ?_
   rw [if_pos (by rw [rowS_length hi]; exact hl')]
   refine go ?_
   simp only [rowS_get hl']
   refine go ?_
   have e := rowS_set (f := f) (q := q) hy hl'
   rw [encT_is (turn f y q)] at e
   rw [nxt (by omega)]
   simp only [show List.drop 4 zC = [] from rfl, e]
   exact ⟨hl', lm [(0, 0), (1, 1), (2, 2), (3, 3), (4, 4)] (hB := by simp [bsub, onto, bm, subs, subC, zC, hc0.2.2, hc1.2.2]) (hh := hh2)⟩
  ·simp only [p, decide_false]
   have := fin_at hi p
   subst this
   refine go ?_
   rw [hc0.1, hc1.1, encT_is, show rowS f q x.f3 x.f3.length = encTs (turns f x.f3 q) by unfold rowS; rw [take_len]; simp]
 | false =>
  have n6 : ¬ x.f0 = 6 := by simpa using k6
  have e : m = q := by rw [hq]; unfold more; rw [if_neg n2, if_neg n6]; omega
  refine go ?_
  rw [e]
  refine ⟨⟨by rw [encTs_len]; omega, by rw [encTs_len]; omega⟩, ?_⟩
  refine count x.f3.length (fun i => turnS g c0 c1 f x q i) (lm [(0, 0), (1, 1), (2, 2), (3, 3), (4, 15)] (hB := by simp [bsub, onto, bm, subs, subC, zC, hc0.2.2, hc1.2.2]) (hG := by simp [gsub, onto, bm, rowS, encTs_len, turns, encTs, zC]) (hh := hh2)) fun i hi => ?_
  unfold turnS
  refine go ?_
  by_cases p : (i : Int) < (encTs x.f3).length
  ·simp only [p, decide_true]
   refine go ?_
   obtain ⟨y, hy, hm, hl'⟩ := part p
   simp only [eget hy]
   have yh := height_mem hm
   have ys := sizes_mem hm
   refine go ?_
   rw [List.flatMap_append, hc0.2.1, hc1.2.1, hc0.1, hc1.1]
   refine ⟨rfl, .ret (.tup [.agg (encT (turn f y q)), .agg c0, .agg c1]), ?_, ?_⟩
   ·simp only [sps]
    rw [if_neg hg, if_pos trivial]
    exact ⟨y, q, by rw [encT_is y], by omega, tames_mem ts hm, by omega, by omega, by omega, rfl⟩
   rw [encT_is (turn f y q)]
   refine go ?_
   rw [if_pos (by rw [rowS_length hi]; exact hl')]
   refine go ?_
   simp only [rowS_get hl']
   refine go ?_
   have e := rowS_set (f := f) (q := q) hy hl'
   rw [encT_is (turn f y q)] at e
   rw [nxt (by omega)]
   simp only [show List.drop 4 zC = [] from rfl, e]
   exact ⟨hl', lm [(0, 0), (1, 1), (2, 2), (3, 3), (4, 4)] (hB := by simp [bsub, onto, bm, subs, subC, zC, hc0.2.2, hc1.2.2]) (hh := hh2)⟩
  ·simp only [p, decide_false]
   have := fin_at hi p
   subst this
   refine go ?_
   rw [hc0.1, hc1.1, encT_is, show rowS f q x.f3 x.f3.length = encTs (turns f x.f3 q) by unfold rowS; rw [take_len]; simp]
end Go.Proofs.YtnjmilelifmfpaaGreatDoor.Ev

namespace Go.Proofs.YtnjmilelifmfpaaGreatDoor.Ev
open Go Go.RowKit
open HCore (wt wts may same height heights size sizes)
open HSub (turn turns tame tames more bump upV putV instV up put inst)
set_option linter.unusedSimpArgs false
set_option linter.unusedVariables false
theorem c_up1 {J : JW} (hJ : JOk J) {m fr : Int} (hm0 : 0 ≤ m) (hm1 : m ≤ 4000000000000000000) (hf0 : 0 ≤ fr) (hf1 : fr ≤ 1000000000000000000) : Con Tryz.prog J 124 (TV2 [.s (.int .i64 fr)] [.s (.int .i64 m)] (upV m fr)) := by
 obtain ⟨code, h1, h2, h3, h4⟩ := k124
 refine conH (E := envH 2 [(89, TCopied)]) (ok_h (ok_cons (c_copied hJ) ok_nil)) hJ h1 h2 h3 h4 (fun args out h => ?_) (h0 := Nat.zero_lt_two)
 obtain ⟨v, q, rfl, v0, v1, q0, q1, rfl⟩ := h
 refine ⟨[[.s (.int .i64 fr)], [.s (.int .i64 m)]], _, rfl, rfl, by rw [Tryz.ntmps124]; simp, ?_⟩
 rw [encT_is v]
 unfold c124
 refine go ?_
 rw [wr (by omega) (by omega)]
 by_cases h : v.f1 ≥ fr + q
 ·simp only [h, decide_true]
  refine go ?_
  refine call (T := TCopied) ⟨v, m, by rw [encT_is v], by omega, by omega, rfl⟩ ?_
  rw [encT_is (bump v m)]
  refine go ?_
  rw [show upV m fr v q = bump v m from if_pos h, encT_is (bump v m)]
 ·simp only [h, decide_false]
  refine go ?_
  rw [show upV m fr v q = v from if_neg h, encT_is v]
abbrev TUp : Spec := fun args out => ∃ (x : Tm) (m fr : Int), args = [.agg (encT x), .s (.int .i64 m), .s (.int .i64 fr)] ∧ tame x ∧ size x ≤ 1000000000 ∧ 0 ≤ m ∧ m ≤ 4000000000000000000 ∧ 0 ≤ fr ∧ fr ≤ 1000000000000000000 ∧ out = .ret (.agg (encT (up x m fr)))
theorem c_up {J : JW} (hJ : JOk J) : Con Tryz.prog J 88 TUp := by
 obtain ⟨code, h1, h2, h3, h4⟩ := k88
 intro args out ho
 obtain ⟨x, m, fr, rfl, ht, hs, hm0, hm1, hf0, hf1, rfl⟩ := ho
 have hh := height_le_size x
 refine con (T := fun args out => args = [.agg (encT x), .s (.int .i64 m), .s (.int .i64 fr)] ∧ out = .ret (.agg (encT (up x m fr))))
  (ok_cons (c_turn2 hJ (f := upV m fr) (by decide) flat_i flat_i (c_up1 hJ hm0 hm1 hf0 hf1) (by kernel_rfl) (height x + 1)) ok_nil) hJ h1 h2 h3 h4 (fun args out h => ?_) rfl (by kernel_rfl) _ _ ⟨rfl, rfl⟩
 obtain ⟨rfl, rfl⟩ := h
 refine ⟨rfl, by rw [Tryz.ntmps88]; simp, ?_⟩
 rw [encT_is x]
 unfold c88
 refine go ?_
 refine ⟨_, ⟨x, 0, by rw [encT_is x], by omega, ht, hs, by omega, by omega, rfl⟩, ?_⟩
 rw [show turn (upV m fr) x 0 = up x m fr from rfl, encT_is (up x m fr)]
 refine go ?_
 trivial
theorem c_put1 {J : JW} (hJ : JOk J) {k : Int} {s : Tm} (hk0 : 0 ≤ k) (hk1 : k ≤ 1000000000000000000) (ht : tame s) (hs : size s ≤ 1000000000) : Con Tryz.prog J 87 (TV2 [.s (.int .i64 k)] (encT s) (putV k s)) := by
 obtain ⟨code, h1, h2, h3, h4⟩ := k87
 refine conH (E := envH 2 [(89, TCopied), (88, TUp)]) (ok_h (ok_cons (c_copied hJ) (ok_cons (c_up hJ) ok_nil))) hJ h1 h2 h3 h4 (fun args out h => ?_) (h0 := Nat.zero_lt_two)
 obtain ⟨v, q, rfl, v0, v1, q0, q1, rfl⟩ := h
 refine ⟨[[.s (.int .i64 k)], encT s], _, rfl, rfl, by rw [Tryz.ntmps87]; simp, ?_⟩
 rw [encT_is v, encT_is s]
 unfold c87
 refine go ?_
 rw [wr (by omega) (by omega)]
 cases e : (v.f1 == k + q) with
 | true =>
  have h : v.f1 = k + q := by simpa using e
  refine go ?_
  refine call (T := TUp) ⟨s, q, 0, by rw [encT_is s], ht, hs, q0, by omega, by omega, by omega, rfl⟩ ?_
  rw [encT_is (up s q 0)]
  refine go ?_
  rw [show putV k s v q = up s q 0 from if_pos h, encT_is (up s q 0)]
 | false =>
 have h : ¬ v.f1 = k + q := by simpa using e
 refine go ?_
 by_cases h' : v.f1 > k + q
 ·simp only [h', decide_true]
  refine go ?_
  refine call (T := TCopied) ⟨v, -1, by rw [encT_is v], by omega, by omega, rfl⟩ ?_
  rw [encT_is (bump v (-1))]
  refine go ?_
  rw [show putV k s v q = bump v (-1) by unfold putV; rw [if_neg h, if_pos h'], encT_is (bump v (-1))]
 ·simp only [h', decide_false]
  refine go ?_
  rw [show putV k s v q = v by unfold putV; rw [if_neg h, if_neg h'], encT_is v]
abbrev TPut : Spec := fun args out => ∃ (x : Tm) (k : Int) (s : Tm), args = [.agg (encT x), .s (.int .i64 k), .agg (encT s)] ∧ tame x ∧ size x ≤ 1000000000 ∧ 0 ≤ k ∧ k ≤ 1000000000000000000 ∧ tame s ∧ size s ≤ 1000000000 ∧ out = .ret (.agg (encT (put x k s)))
theorem c_put {J : JW} (hJ : JOk J) : Con Tryz.prog J 56 TPut := by
 obtain ⟨code, h1, h2, h3, h4⟩ := k56
 intro args out ho
 obtain ⟨x, k, s, rfl, ht, hs, hk0, hk1, ht', hs', rfl⟩ := ho
 have hh := height_le_size x
 refine con (T := fun args out => args = [.agg (encT x), .s (.int .i64 k), .agg (encT s)] ∧ out = .ret (.agg (encT (put x k s))))
  (ok_cons (c_turn2 hJ (f := putV k s) (by decide) flat_i (by rw [encT_is s]; exact flat_t) (c_put1 hJ hk0 hk1 ht' hs') (by kernel_rfl) (height x + 1)) ok_nil) hJ h1 h2 h3 h4 (fun args out h => ?_) rfl (by kernel_rfl) _ _ ⟨rfl, rfl⟩
 obtain ⟨rfl, rfl⟩ := h
 refine ⟨rfl, by rw [Tryz.ntmps56]; simp, ?_⟩
 rw [encT_is x, encT_is s]
 unfold c56
 refine go ?_
 refine ⟨_, ⟨x, 0, by rw [encT_is x], by omega, ht, hs, by omega, by omega, rfl⟩, ?_⟩
 rw [show turn (putV k s) x 0 = put x k s from rfl, encT_is (put x k s)]
 refine go ?_
 trivial
end Go.Proofs.YtnjmilelifmfpaaGreatDoor.Ev

namespace Go.Proofs.YtnjmilelifmfpaaGreatDoor.Ev
open Go Go.RowKit
open HCore (wt wts may same height heights size sizes)
open HSub (turn turns tame tames more bump upV putV instV up put inst)
set_option linter.unusedSimpArgs false
set_option linter.unusedVariables false
abbrev TV1 (c0 : List AV) (f : Tm → Int → Tm) : Spec := fun args out => ∃ (v : Tm) (b : Int), args = [.tup [.agg c0], .agg (encT v), .s (.int .i64 b), .ptr 0 0] ∧ 0 ≤ v.f1 ∧ v.f1 ≤ 5000000000000000000 ∧ 0 ≤ b ∧ b ≤ 90000000000 ∧
 out = .ret (.tup [.agg (encT (f v b)), .agg c0])
abbrev TTurn1 (g : FuncId) (c0 : List AV) (f : Tm → Int → Tm) (n : Nat) : Spec := fun args out => ∃ (x : Tm) (b : Int), args = [.tup [.agg c0], .agg (encT x), .s (.int .i64 b), .fn g [] [.ptr 0 0]] ∧
 height x < n ∧ tame x ∧ size x ≤ 1000000000 ∧ 0 ≤ b ∧ b + 9 * (height x : Int) ≤ 90000000000 ∧ out = .ret (.tup [.agg (encT (turn f x b)), .agg c0])
def turnS1 (g : FuncId) (c0 : List AV) (f : Tm → Int → Tm) (x : Tm) (q : Int) (i : Nat) : AS := ⟨tm [(35, .s (.int .i64 (i : Int))), (34, .s (.int .i64 ((encTs x.f3).length : Int))), (33, .row (encTs x.f3)), (7, .ref 3), (1, .s (.int .i64 q)), (6, .ptr 2 0), (3, .ptr 1 0), (2, .fn g [] [.ptr 0 0])],
 bm [(2, some zC), (1, some [.s (.int .i64 x.f0), .s (.int .i64 x.f1), .s (.string x.f2), .row (encTs x.f3)]), (0, some c0)], bm [(3, some ⟨24, 4, rowS f q x.f3 i, true⟩)], 4⟩
theorem hh1t {k : Nat} : ∀ j : Nat, j < 1 → j < 4 ∧ onto [(0, 0), (1, 1), (2, 2), (3, k)] j = some j := by
 intro j hj
 have : j = 0 := by omega
 subst this; exact ⟨by decide, rfl⟩
set_option maxHeartbeats 4000000 in
set_option maxRecDepth 100000 in
theorem c_turn1 {J : JW} (hJ : JOk J) {g : FuncId} {c0 : List AV} {f : Tm → Int → Tm} (hg : 86 ≠ g) (hc0 : FlatC c0) (hT : Con Tryz.prog J g (TV1 c0 f)) (hf : fnOk Tryz.prog g = true) (n : Nat) :
  Con Tryz.prog J 86 (TTurn1 g c0 f n) := by
 induction n with
 | zero => rintro args out ⟨x, b, rfl, h, _⟩; exact absurd h (Nat.not_lt_zero _)
 | succ n ih =>
 obtain ⟨code, h1, h2, h3, h4⟩ := k86
 refine conH (E := envH 1 [(g, TV1 c0 f), (86, TTurn1 g c0 f n)]) (ok_h (ok_cons hT (ok_cons ih ok_nil) hf)) hJ h1 h2 h3 h4 (fun args out h => ?_) (h0 := Nat.zero_lt_one)
 obtain ⟨x, m, rfl, hh, ht, hs, hb0, hb1, rfl⟩ := h
 refine ⟨[c0], _, rfl, rfl, by rw [Tryz.ntmps86]; simp, ?_⟩
 rw [tame_of] at ht
 obtain ⟨t1, t6, ts⟩ := ht
 rw [encT_is x, turn_of]
 unfold c86
 refine go ?_
 cases k1 : (x.f0 == 1) with
 | true =>
  have kk : x.f0 = 1 := by simpa using k1
  rw [if_pos kk]
  refine go ?_
  rw [hc0.2.1, hc0.1]
  refine ⟨rfl, _, ⟨x, m, by rw [encT_is x], (t1 kk).1, (t1 kk).2, hb0, by omega, rfl⟩, ?_⟩
  rw [encT_is (f x m)]
  refine go ?_
  rw [hc0.1]
 | false =>
 have n1 : ¬ x.f0 = 1 := by simpa using k1
 rw [if_neg n1]
 have hd : height x = heights x.f3 + 1 := height_of x
 have sd : size x = sizes x.f3 + 1 := size_of x
 have sl := len_sizes x.f3
 obtain ⟨q, hq⟩ : ∃ q, q = m + more x.f0 x.f1 := ⟨_, rfl⟩
 rw [← hq]
 have hq0 : 0 ≤ q ∧ q ≤ m + 8 := by
  rw [hq]; unfold more
  by_cases e2 : x.f0 = 2
  ·rw [if_pos e2]; omega
  ·rw [if_neg e2]
   by_cases e6 : x.f0 = 6
   ·rw [if_pos e6]; have := t6 e6; omega
   ·rw [if_neg e6]; omega
 refine go ?_
 cases k2 : (x.f0 == 2) with
 | true =>
  have kk : x.f0 = 2 := by simpa using k2
  refine go ?_
  rw [wr (by omega) (by omega), show m + 1 = q by rw [hq]; unfold more; rw [if_pos kk]]
  refine ⟨⟨by rw [encTs_len]; omega, by rw [encTs_len]; omega⟩, ?_⟩
  refine count x.f3.length (fun i => turnS1 g c0 f x q i) (lm [(0, 0), (1, 1), (2, 2), (3, 15)] (hB := by simp [bsub, onto, bm, subs, subC, zC, hc0.2.2]) (hG := by simp [gsub, onto, bm, rowS, encTs_len, turns, encTs, zC]) (hh := hh1t)) fun i hi => ?_
  unfold turnS1
  refine go ?_
  by_cases p : (i : Int) < (encTs x.f3).length
  ·simp only [p, decide_true]
   refine go ?_
   obtain ⟨y, hy, hm, hl'⟩ := part p
   simp only [eget hy]
   have yh := height_mem hm
   have ys := sizes_mem hm
   refine go ?_
   rw [hc0.2.1, hc0.1]
   refine ⟨rfl, .ret (.tup [.agg (encT (turn f y q)), .agg c0]), ?_, ?_⟩
   ·simp only [sps]
    rw [if_neg hg, if_pos trivial]
    exact ⟨y, q, by rw [encT_is y], by omega, tames_mem ts hm, by omega, by omega, by omega, rfl⟩
   rw [encT_is (turn f y q)]
   refine go ?_
   rw [if_pos (by rw [rowS_length hi]; exact hl')]
   refine go ?_
   simp only [rowS_get hl']
   refine go ?_
   have e := rowS_set (f := f) (q := q) hy hl'
   rw [encT_is (turn f y q)] at e
   rw [nxt (by omega)]
   simp only [show List.drop 4 zC = [] from rfl, e]
   exact ⟨hl', lm [(0, 0), (1, 1), (2, 2), (3, 3)] (hB := by simp [bsub, onto, bm, subs, subC, zC, hc0.2.2]) (hh := hh1t)⟩
  ·simp only [p, decide_false]
   have := fin_at hi p
   subst this
   refine go ?_
   rw [hc0.1, encT_is, show rowS f q x.f3 x.f3.length = encTs (turns f x.f3 q) by unfold rowS; rw [take_len]; simp]
 | false =>
 have n2 : ¬ x.f0 = 2 := by simpa using k2
 refine go ?_
 cases k6 : (x.f0 == 6) with
 | true =>
  have kk : x.f0 = 6 := by simpa using k6
  refine go ?_
  rw [wr (by omega) (by omega), show m + x.f1 = q by rw [hq]; unfold more; rw [if_neg n2, if_pos kk]]
  refine ⟨⟨by rw [encTs_len]; omega, by rw [encTs_len]; omega⟩, ?_⟩
  refine count x.f3.length (fun i => turnS1 g c0 f x q i) (lm [(0, 0), (1, 1), (2, 2), (3, 19)] (hB := by simp [bsub, onto, bm, subs, subC, zC, hc0.2.2]) (hG := by simp [gsub, onto, bm, rowS, encTs_len, turns, encTs, zC]) (hh := hh1t)) fun i hi => ?_
  unfold turnS1
  refine go ?_
  by_cases p : (i : Int) < (encTs x.f3).length
  ·simp only [p, decide_true]
   refine go ?_
   obtain ⟨y, hy, hm, hl'⟩ := part p
   simp only [eget hy]
   have yh := height_mem hm
   have ys := sizes_mem hm
   refine go ?_
   rw [hc0.2.1, hc0.1]
   refine ⟨rfl, .ret (.tup [.agg (encT (turn f y q)), .agg c0]), ?_, ?_⟩
   ·simp only [sps]
    rw [if_neg hg, if_pos trivial]
    exact ⟨y, q, by rw [encT_is y], by omega, tames_mem ts hm, by omega, by omega, by omega, rfl⟩
   rw [encT_is (turn f y q)]
   refine go ?_
   rw [if_pos (by rw [rowS_length hi]; exact hl')]
   refine go ?_
   simp only [rowS_get hl']
   refine go ?_
   have e := rowS_set (f := f) (q := q) hy hl'
   rw [encT_is (turn f y q)] at e
   rw [nxt (by omega)]
   simp only [show List.drop 4 zC = [] from rfl, e]
   exact ⟨hl', lm [(0, 0), (1, 1), (2, 2), (3, 3)] (hB := by simp [bsub, onto, bm, subs, subC, zC, hc0.2.2]) (hh := hh1t)⟩
  ·simp only [p, decide_false]
   have := fin_at hi p
   subst this
   refine go ?_
   rw [hc0.1, encT_is, show rowS f q x.f3 x.f3.length = encTs (turns f x.f3 q) by unfold rowS; rw [take_len]; simp]
 | false =>
  have n6 : ¬ x.f0 = 6 := by simpa using k6
  have e : m = q := by rw [hq]; unfold more; rw [if_neg n2, if_neg n6]; omega
  refine go ?_
  rw [e]
  refine ⟨⟨by rw [encTs_len]; omega, by rw [encTs_len]; omega⟩, ?_⟩
  refine count x.f3.length (fun i => turnS1 g c0 f x q i) (lm [(0, 0), (1, 1), (2, 2), (3, 14)] (hB := by simp [bsub, onto, bm, subs, subC, zC, hc0.2.2]) (hG := by simp [gsub, onto, bm, rowS, encTs_len, turns, encTs, zC]) (hh := hh1t)) fun i hi => ?_
  unfold turnS1
  refine go ?_
  by_cases p : (i : Int) < (encTs x.f3).length
  ·simp only [p, decide_true]
   refine go ?_
   obtain ⟨y, hy, hm, hl'⟩ := part p
   simp only [eget hy]
   have yh := height_mem hm
   have ys := sizes_mem hm
   refine go ?_
   rw [hc0.2.1, hc0.1]
   refine ⟨rfl, .ret (.tup [.agg (encT (turn f y q)), .agg c0]), ?_, ?_⟩
   ·simp only [sps]
    rw [if_neg hg, if_pos trivial]
    exact ⟨y, q, by rw [encT_is y], by omega, tames_mem ts hm, by omega, by omega, by omega, rfl⟩
   rw [encT_is (turn f y q)]
   refine go ?_
   rw [if_pos (by rw [rowS_length hi]; exact hl')]
   refine go ?_
   simp only [rowS_get hl']
   refine go ?_
   have e := rowS_set (f := f) (q := q) hy hl'
   rw [encT_is (turn f y q)] at e
   rw [nxt (by omega)]
   simp only [show List.drop 4 zC = [] from rfl, e]
   exact ⟨hl', lm [(0, 0), (1, 1), (2, 2), (3, 3)] (hB := by simp [bsub, onto, bm, subs, subC, zC, hc0.2.2]) (hh := hh1t)⟩
  ·simp only [p, decide_false]
   have := fin_at hi p
   subst this
   refine go ?_
   rw [hc0.1, encT_is, show rowS f q x.f3 x.f3.length = encTs (turns f x.f3 q) by unfold rowS; rw [take_len]; simp]
theorem c_inst1 {J : JW} (hJ : JOk J) {l : List Tm} (hl : l.length ≤ 1000000000) (ht : ∀ y ∈ l, tame y ∧ size y ≤ 1000000000) : Con Tryz.prog J 91 (TV1 [.row (encTs l)] (instV l)) := by
 obtain ⟨code, h1, h2, h3, h4⟩ := k91
 refine conH (E := envH 1 [(89, TCopied), (88, TUp)]) (ok_h (ok_cons (c_copied hJ) (ok_cons (c_up hJ) ok_nil))) hJ h1 h2 h3 h4 (fun args out h => ?_) (h0 := Nat.zero_lt_one)
 obtain ⟨v, q, rfl, v0, v1, q0, q1, rfl⟩ := h
 refine ⟨[[.row (encTs l)]], _, rfl, rfl, by rw [Tryz.ntmps91]; simp, ?_⟩
 rw [encT_is v]
 unfold c91
 refine go ?_
 rw [wr (by omega) (by omega)]
 by_cases e : v.f1 - q < 0
 ·simp only [e, decide_true]
  refine go ?_
  rw [show instV l v q = v from if_pos e, encT_is v]
 simp only [e, decide_false]
 refine go ?_
 have el := encTs_len l
 by_cases e' : v.f1 - q < ((encTs l).length : Int)
 ·simp only [e', decide_true]
  refine go ?_
  obtain ⟨y, hy⟩ : ∃ y, l[l.length - 1 - (v.f1 - q).toNat]? = some y := ⟨l[l.length - 1 - (v.f1 - q).toNat]'(by omega), List.getElem?_eq_getElem _⟩
  have hm : y ∈ l := List.mem_of_getElem? hy
  rw [wr (i := ((encTs l).length : Int) - 1) (by omega) (by omega), wr (by omega) (by omega), if_pos (by omega)]
  simp only [show (((encTs l).length : Int) - 1 - (v.f1 - q)).toNat = l.length - 1 - (v.f1 - q).toNat by omega, eget hy]
  refine go ?_
  refine call (T := TUp) ⟨y, q, 0, by rw [encT_is y], (ht y hm).1, (ht y hm).2, q0, by omega, by omega, by omega, rfl⟩ ?_
  rw [encT_is (up y q 0)]
  refine go ?_
  rw [show instV l v q = up y q 0 by unfold instV; rw [if_neg e, if_pos (by omega), List.getD_eq_getElem?_getD, hy]; rfl, encT_is (up y q 0)]
 ·simp only [e', decide_false]
  refine go ?_
  rw [wr (by omega) (by omega)]
  refine call (T := TCopied) ⟨v, 0 - ((encTs l).length : Int), by rw [encT_is v], by omega, by omega, rfl⟩ ?_
  rw [encT_is (bump v _)]
  refine go ?_
  rw [show instV l v q = bump v (0 - ((encTs l).length : Int)) by unfold instV; rw [if_neg e, if_neg (by omega), el, Int.zero_sub], encT_is (bump v _)]
abbrev TInst : Spec := fun args out => ∃ (x : Tm) (l : List Tm), args = [.agg (encT x), .row (encTs l)] ∧ tame x ∧ size x ≤ 1000000000 ∧ l.length ≤ 1000000000 ∧ (∀ y ∈ l, tame y ∧ size y ≤ 1000000000) ∧ out = .ret (.agg (encT (inst x l)))
theorem flat_r {r : List (List AV)} : FlatC [.row r] := ⟨fun _ => rfl, rfl, fun _ _ => by simp [subs, subC]⟩
theorem c_inst {J : JW} (hJ : JOk J) : Con Tryz.prog J 61 TInst := by
 obtain ⟨code, h1, h2, h3, h4⟩ := k61
 intro args out ho
 obtain ⟨x, l, rfl, ht, hs, hl, hts, rfl⟩ := ho
 have hh := height_le_size x
 refine con (T := fun args out => args = [.agg (encT x), .row (encTs l)] ∧ out = .ret (.agg (encT (inst x l))))
  (ok_cons (c_turn1 hJ (f := instV l) (by decide) flat_r (c_inst1 hJ hl hts) (by kernel_rfl) (height x + 1)) ok_nil) hJ h1 h2 h3 h4 (fun args out h => ?_) rfl (by kernel_rfl) _ _ ⟨rfl, rfl⟩
 obtain ⟨rfl, rfl⟩ := h
 refine ⟨rfl, by rw [Tryz.ntmps61]; simp, ?_⟩
 rw [encT_is x]
 unfold c61
 refine go ?_
 refine ⟨_, ⟨x, 0, by rw [encT_is x], by omega, ht, hs, by omega, by omega, rfl⟩, ?_⟩
 rw [show turn (instV l) x 0 = inst x l from rfl, encT_is (inst x l)]
 refine go ?_
 trivial
end Go.Proofs.YtnjmilelifmfpaaGreatDoor.Ev

namespace Go.Proofs.YtnjmilelifmfpaaGreatDoor.Ev
open Go Go.RowKit
open HCore (wt wts may same height heights size sizes)
open HSub (turn turns tame tames put inst failT num truth compute still find hstep)
set_option linter.unusedSimpArgs false
set_option linter.unusedVariables false
abbrev TFailed : Spec := fun args out => args = [] ∧ out = .ret (.tup [.agg (encT failT), .s (.int .i64 4)])
theorem c_failed {J : JW} (hJ : JOk J) : Con Tryz.prog J 57 TFailed := by
 obtain ⟨code, h1, h2, h3, h4⟩ := k57
 refine con ok_nil hJ h1 h2 h3 h4 fun args out h => ?_
 obtain ⟨rfl, rfl⟩ := h
 refine ⟨rfl, by rw [Tryz.ntmps57]; simp, ?_⟩
 unfold c57
 refine go ?_
 rfl
abbrev TTruth : Spec := fun args out => ∃ p : Bool, args = [.s (.bool p)] ∧ out = .ret (.tup [.agg (encT (truth p)), .s (.int .i64 3)])
theorem c_truth {J : JW} (hJ : JOk J) : Con Tryz.prog J 92 TTruth := by
 obtain ⟨code, h1, h2, h3, h4⟩ := k92
 refine con ok_nil hJ h1 h2 h3 h4 fun args out h => ?_
 obtain ⟨p, rfl, rfl⟩ := h
 refine ⟨rfl, by rw [Tryz.ntmps92]; simp, ?_⟩
 unfold c92
 refine go ?_
 cases p with
 | true => refine go ?_; rfl
 | false => refine go ?_; rfl
abbrev TCompute : Spec := fun args out => ∃ (s : ByteArray) (x y : Int), args = [.s (.string s), .s (.int .i64 x), .s (.int .i64 y)] ∧ out = .ret (.tup [.agg (encT (compute s.data.toList x y).1), .s (.int .i64 (compute s.data.toList x y).2)])
theorem wrap_is {i : Int} : IntKind.i64.wrap i = HSub.wrap i := by rw [IntKind.wrap_i64]; rfl
theorem num_is {i : Int} : encT (num i) = [.s (.int .i64 7), .s (.int .i64 i), .s (.string ⟨#[]⟩), .row []] := rfl
theorem truth_is {p : Bool} : encT (truth p) = [.s (.int .i64 4), .s (.int .i64 0), .s (.string (truth p).f2), .row []] := rfl
theorem failT_is : encT failT = [.s (.int .i64 9), .s (.int .i64 0), .s (.string ⟨#[]⟩), .row []] := rfl
theorem bl_is {s : ByteArray} {l : List UInt8} : (s.data.toList = l) = (s = ⟨l.toArray⟩) := propext ⟨fun h => ByteArray.ext (by rw [← h]), fun h => by rw [h]⟩
theorem compute_of (s : ByteArray) (x y : Int) : compute s.data.toList x y = if s = ⟨#[43]⟩ then (num (HSub.wrap (x + y)), 3) else if s = ⟨#[45]⟩ then (num (HSub.wrap (x - y)), 3) else if s = ⟨#[42]⟩ then (num (HSub.wrap (x * y)), 3)
  else if s = ⟨#[47]⟩ then (if y = 0 then (failT, 4) else (num (HSub.wrap (x.tdiv y)), 3)) else if s = ⟨#[60]⟩ then (truth (decide (x < y)), 3) else if s = ⟨#[61, 61]⟩ then (truth (decide (x = y)), 3) else (num 0, 3) := by
 unfold compute; simp only [bl_is]
theorem c_compute {J : JW} (hJ : JOk J) : Con Tryz.prog J 62 TCompute := by
 obtain ⟨code, h1, h2, h3, h4⟩ := k62
 refine con (ok_cons (c_failed hJ) (ok_cons (c_truth hJ) ok_nil)) hJ h1 h2 h3 h4 fun args out h => ?_
 obtain ⟨s, x, y, rfl, rfl⟩ := h
 refine ⟨rfl, by rw [Tryz.ntmps62]; simp, ?_⟩
 unfold c62
 rw [compute_of]
 refine go ?_
 refine ⟨fun e => ?_, fun n1 => ⟨fun e => ?_, fun n2 => ⟨fun e => ?_, fun n3 => ?_⟩⟩⟩
 ·rw [if_pos e, wrap_is]; rfl
 ·rw [if_neg n1, if_pos e, wrap_is]; rfl
 ·rw [if_neg n1, if_neg n2, if_pos e, wrap_is]; rfl
 rw [if_neg n1, if_neg n2, if_neg n3]
 refine ⟨fun e => ?_, fun n4 => ⟨fun e => ?_, fun n5 => ⟨fun e => ?_, fun n6 => ?_⟩⟩⟩
 ·rw [if_pos e]
  cases k : (y == 0) with
  | true =>
   refine go ?_
   refine call (T := TFailed) ⟨rfl, rfl⟩ ?_
   rw [if_pos (by simpa using k), failT_is]
   refine go ?_
   trivial
  | false =>
   rw [if_neg (by simpa using k)]
   have hy : y ≠ 0 := by simpa using k
   refine go ?_
   simp only [v_quo hy, wrap_is]
   refine go ?_
   rfl
 ·rw [if_neg n4, if_pos e]
  refine call (T := TTruth) ⟨_, rfl, rfl⟩ ?_
  rw [truth_is]
  refine go ?_
  trivial
 ·rw [if_neg n4, if_neg n5, if_pos e]
  refine call (T := TTruth) ⟨_, rfl, rfl⟩ ?_
  rw [truth_is]
  refine go ?_
  rfl
 ·rw [if_neg n4, if_neg n5, if_neg n6]; rfl
end Go.Proofs.YtnjmilelifmfpaaGreatDoor.Ev

namespace Go.Proofs.YtnjmilelifmfpaaGreatDoor.Pure
open Go Go.RowKit Go.Lib Go.Proofs Go.Proofs.YtnjmilelifmfpaaGreatDoor.Q Go.Proofs.YtnjmilelifmfpaaGreatDoorW.PrintWords Go.Proofs.YtnjmilelifmfpaaGreatDoorW.PrintLast Go.Proofs.YtnjmilelifmfpaaGreatDoorW.PrintMore
set_option linter.unusedVariables false
set_option linter.unusedSimpArgs false
namespace Z
theorem mB {n w : World} {W : World} (h : Hid (Below w.heap.size w W)) (k : Below W.heap.size W n) : Hid (Below w.heap.size w n) := Lib.hid (below_step h.out k)
theorem mK {w n : World} {g : Nat} {o : Obj} (h : Hid (w.heap[g]? = some o)) (k : Below w.heap.size w n) : Hid (n.heap[g]? = some o) := Lib.hid (blk_below h.out k)
theorem mF {α : Type} {d : Kd α} {w n : World} {ok : Nat → Prop} {A : Option Addr} {m : Nat} {xs : List α} (h : Hid (Kd.F d w ok A m xs)) (k : Below w.heap.size w n) : Hid (Kd.F d n ok A m xs) := Lib.hid (Kd.F_below h.out k)
theorem aw (w : World) (o : Obj) : ∃ n, w.alloc o = n ∧ Hid (n.heap[w.heap.size]? = some o) ∧ Below w.heap.size w n := ⟨_, rfl, Lib.hid (blk_new w o), below_alloc (Below.refl w.heap.size w) o⟩
section
variable {w : World} {g : Nat} {t : TypeId} {a b c d e f i j : Value}
theorem c1 (h : Hid (w.heap[g]? = some (.cells #[a] t (0, 0)))) : w.cell? ⟨g, 0, none⟩ = some a := blk_cell h.out 0
theorem c4 (h : Hid (w.heap[g]? = some (.cells #[a, b, c, d] t (0, 0)))) : w.cell? ⟨g, 0, none⟩ = some a ∧ w.cell? ⟨g, 1, none⟩ = some b ∧ w.cell? ⟨g, 2, none⟩ = some c ∧ w.cell? ⟨g, 3, none⟩ = some d := ⟨blk_cell h.out 0, blk_cell h.out 1, blk_cell h.out 2, blk_cell h.out 3⟩
theorem z4 (h : Hid (w.heap[g]? = some (.cells #[a, b, c, d] t (0, 0)))) : w.frozen? ⟨g, 0, none⟩ = false ∧ w.frozen? ⟨g, 1, none⟩ = false ∧ w.frozen? ⟨g, 2, none⟩ = false ∧ w.frozen? ⟨g, 3, none⟩ = false := ⟨blk_frozen h.out 0, blk_frozen h.out 1, blk_frozen h.out 2, blk_frozen h.out 3⟩
theorem c5 (h : Hid (w.heap[g]? = some (.cells #[a, b, c, d, e] t (0, 0)))) : w.cell? ⟨g, 0, none⟩ = some a ∧ w.cell? ⟨g, 1, none⟩ = some b ∧ w.cell? ⟨g, 2, none⟩ = some c ∧ w.cell? ⟨g, 3, none⟩ = some d ∧ w.cell? ⟨g, 4, none⟩ = some e := ⟨blk_cell h.out 0, blk_cell h.out 1, blk_cell h.out 2, blk_cell h.out 3, blk_cell h.out 4⟩
theorem z5 (h : Hid (w.heap[g]? = some (.cells #[a, b, c, d, e] t (0, 0)))) : w.frozen? ⟨g, 0, none⟩ = false ∧ w.frozen? ⟨g, 1, none⟩ = false ∧ w.frozen? ⟨g, 2, none⟩ = false ∧ w.frozen? ⟨g, 3, none⟩ = false ∧ w.frozen? ⟨g, 4, none⟩ = false := ⟨blk_frozen h.out 0, blk_frozen h.out 1, blk_frozen h.out 2, blk_frozen h.out 3, blk_frozen h.out 4⟩
theorem c2 (h : Hid (w.heap[g]? = some (.cells #[a, b] t (0, 0)))) : w.cell? ⟨g, 0, none⟩ = some a ∧ w.cell? ⟨g, 1, none⟩ = some b := ⟨blk_cell h.out 0, blk_cell h.out 1⟩
theorem c3 (h : Hid (w.heap[g]? = some (.cells #[a, b, c] t (0, 0)))) : w.cell? ⟨g, 0, none⟩ = some a ∧ w.cell? ⟨g, 1, none⟩ = some b ∧ w.cell? ⟨g, 2, none⟩ = some c := ⟨blk_cell h.out 0, blk_cell h.out 1, blk_cell h.out 2⟩
theorem z1 (h : Hid (w.heap[g]? = some (.cells #[a] t (0, 0)))) : w.frozen? ⟨g, 0, none⟩ = false := blk_frozen h.out 0
theorem z2 (h : Hid (w.heap[g]? = some (.cells #[a, b] t (0, 0)))) : w.frozen? ⟨g, 0, none⟩ = false ∧ w.frozen? ⟨g, 1, none⟩ = false := ⟨blk_frozen h.out 0, blk_frozen h.out 1⟩
theorem z3 (h : Hid (w.heap[g]? = some (.cells #[a, b, c] t (0, 0)))) : w.frozen? ⟨g, 0, none⟩ = false ∧ w.frozen? ⟨g, 1, none⟩ = false ∧ w.frozen? ⟨g, 2, none⟩ = false := ⟨blk_frozen h.out 0, blk_frozen h.out 1, blk_frozen h.out 2⟩
end
theorem cx {w n : World} {a : Addr} {v : Value} (h : Below w.heap.size w n) (x : w.cell? a = some v) : n.cell? a = some v := (h.cell (World.block_lt_of_cell? _ _ x)).trans x
theorem a2 {p q : Prop} (hp : p) (hq : q) : p ∧ q := ⟨hp, hq⟩
theorem a3 {p q r : Prop} (hp : p) (hq : q) (hr : r) : p ∧ q ∧ r := ⟨hp, hq, hr⟩
theorem a4 {p q r s : Prop} (hp : p) (hq : q) (hr : r) (hs : s) : p ∧ q ∧ r ∧ s := ⟨hp, hq, hr, hs⟩
theorem a5 {p q r s t : Prop} (hp : p) (hq : q) (hr : r) (hs : s) (ht : t) : p ∧ q ∧ r ∧ s ∧ t := ⟨hp, hq, hr, hs, ht⟩
section
variable {P : Program} {ops : Array Oper} {Q : Exit → Act → World → Prop} {md : Region.Mode} {S U : World → Prop} {oi : Oper} {v : Value} {fuel : Nat} {listed : Array Bool} {a : Act} {w : World}
theorem tl {ds : List Nat} (i : Nat) (c : ∀ w, S w → U w) (hi : ops[i]? = some oi := by rfl) (hs : Region.noSelect ops = true := by kernel_rfl) (hf : Region.free md ops listed i = true := by kernel_rfl)
  (hr : (Region.ready md ops listed).contains i = true := by kernel_rfl) (hc : Region.closedB md ops listed = true := by kernel_rfl) (hd : Region.lastB md ops listed ds i = true := by kernel_rfl) (hQ : ∀ c a w, Q (.panic c) (a.put oi.dst v) w → Q (.panic c) a w := by exact fun _ _ _ h => h)
  (hw : Region.wanted oi (yielded ops a.tmps) = true := by kernel_rfl)
  (hl : ∀ w, S w → U w → (execOp a.eval oi).run P w = .ok (.value v) w := by intro w hSw hUw; (try dsimp only at hSw); (try simp only [List.getElem?_toArray, List.getElem?_cons_zero, List.getElem?_cons_succ] at hUw); (try simp only [Act.put, List.getElem_toArray, List.getElem_cons_succ, List.getElem_cons_zero, List.setIfInBounds_toArray, List.set_cons_zero, List.set_cons_succ]); go_simp; (try with_reducible rfl))
  (hS : S w := by assumption) (k : wpAnyLast P md ops Q S ds fuel (listed.setIfInBounds i true) (a.put oi.dst v) w) : wpAnyLast P md ops Q S ds (fuel + 1) listed a w :=
 wpAnyLast_take hi hs hf hr hc hd hQ (Or.inl ⟨hw, fun w h => hl w h (c w h)⟩) hS k
theorem sl {ds : List Nat} (i : Nat) (hi : ops[i]? = some oi := by rfl) (hs : Region.noSelect ops = true := by kernel_rfl) (hf : Region.free md ops listed i = true := by kernel_rfl)
  (hr : (Region.ready md ops listed).contains i = true := by kernel_rfl) (hc : Region.closedB md ops listed = true := by kernel_rfl) (hd : Region.lastB md ops listed ds i = true := by kernel_rfl) (hQ : ∀ c a w, Q (.panic c) (a.put oi.dst undef) w → Q (.panic c) a w := by exact fun _ _ _ h => h)
  (hw : Region.wanted oi (yielded ops a.tmps) = false := by rfl)
  (hS : S w := by assumption) (k : wpAnyLast P md ops Q S ds fuel (listed.setIfInBounds i true) (a.put oi.dst undef) w) : wpAnyLast P md ops Q S ds (fuel + 1) listed a w :=
 wpAnyLast_take hi hs hf hr hc hd hQ (Or.inr ⟨hw, rfl⟩) hS k
end
section
variable {P : Program} {ops : Array Oper} {Q : Exit → Act → World → Prop} {md : Region.Mode} {S : World → Prop} {ds : List Nat} {fuel : Nat} {listed : Array Bool} {a : Act} {w : World}
theorem h0 {id : Nat} {a : Act} {w b : World} (k : Nat)  (hb : Hid (Below b.heap.size b w)) (K : ∀ n, (Below b.heap.size b n) → Below w.heap.size w n → wpAnyH P .any ops Q (fun n => Below b.heap.size b n) k (Array.replicate k false) a n) (hm : P.follows .mixedOrders = true := by kernel_rfl) (hk : ops.size = k := by kernel_rfl) : (Code.region id ops true).wp P Q a w := by
 subst hk
 exact wp_region_held_drew (S := fun n => Below b.heap.size b n) hm (below_drew hb.out) (fun h => K _ h (below_drew1 (Below.refl w.heap.size w)))
theorem h1 {id : Nat} {a : Act} {w b : World} {g0 : Nat} {o0 : Obj} (k : Nat) (h0 : Hid (w.heap[g0]? = some o0)) (hb : Hid (Below b.heap.size b w)) (K : ∀ n, (n.heap[g0]? = some o0 ∧ Below b.heap.size b n) → Below w.heap.size w n → wpAnyH P .any ops Q (fun n => n.heap[g0]? = some o0 ∧ Below b.heap.size b n) k (Array.replicate k false) a n) (hm : P.follows .mixedOrders = true := by kernel_rfl) (hk : ops.size = k := by kernel_rfl) : (Code.region id ops true).wp P Q a w := by
 subst hk
 exact wp_region_held_drew (S := fun n => n.heap[g0]? = some o0 ∧ Below b.heap.size b n) hm ⟨(blk_below h0.out (below_drew1 (Below.refl w.heap.size w))), below_drew hb.out⟩ (fun h => K _ h (below_drew1 (Below.refl w.heap.size w)))
theorem h2 {id : Nat} {a : Act} {w b : World} {g0 g1 : Nat} {o0 o1 : Obj} (k : Nat) (h0 : Hid (w.heap[g0]? = some o0)) (h1 : Hid (w.heap[g1]? = some o1)) (hb : Hid (Below b.heap.size b w)) (K : ∀ n, (n.heap[g0]? = some o0 ∧ n.heap[g1]? = some o1 ∧ Below b.heap.size b n) → Below w.heap.size w n → wpAnyH P .any ops Q (fun n => n.heap[g0]? = some o0 ∧ n.heap[g1]? = some o1 ∧ Below b.heap.size b n) k (Array.replicate k false) a n) (hm : P.follows .mixedOrders = true := by kernel_rfl) (hk : ops.size = k := by kernel_rfl) : (Code.region id ops true).wp P Q a w := by
 subst hk
 exact wp_region_held_drew (S := fun n => n.heap[g0]? = some o0 ∧ n.heap[g1]? = some o1 ∧ Below b.heap.size b n) hm ⟨(blk_below h0.out (below_drew1 (Below.refl w.heap.size w))), (blk_below h1.out (below_drew1 (Below.refl w.heap.size w))), below_drew hb.out⟩ (fun h => K _ h (below_drew1 (Below.refl w.heap.size w)))
theorem h3 {id : Nat} {a : Act} {w b : World} {g0 g1 g2 : Nat} {o0 o1 o2 : Obj} (k : Nat) (h0 : Hid (w.heap[g0]? = some o0)) (h1 : Hid (w.heap[g1]? = some o1)) (h2 : Hid (w.heap[g2]? = some o2)) (hb : Hid (Below b.heap.size b w)) (K : ∀ n, (n.heap[g0]? = some o0 ∧ n.heap[g1]? = some o1 ∧ n.heap[g2]? = some o2 ∧ Below b.heap.size b n) → Below w.heap.size w n → wpAnyH P .any ops Q (fun n => n.heap[g0]? = some o0 ∧ n.heap[g1]? = some o1 ∧ n.heap[g2]? = some o2 ∧ Below b.heap.size b n) k (Array.replicate k false) a n) (hm : P.follows .mixedOrders = true := by kernel_rfl) (hk : ops.size = k := by kernel_rfl) : (Code.region id ops true).wp P Q a w := by
 subst hk
 exact wp_region_held_drew (S := fun n => n.heap[g0]? = some o0 ∧ n.heap[g1]? = some o1 ∧ n.heap[g2]? = some o2 ∧ Below b.heap.size b n) hm ⟨(blk_below h0.out (below_drew1 (Below.refl w.heap.size w))), (blk_below h1.out (below_drew1 (Below.refl w.heap.size w))), (blk_below h2.out (below_drew1 (Below.refl w.heap.size w))), below_drew hb.out⟩ (fun h => K _ h (below_drew1 (Below.refl w.heap.size w)))
theorem h4 {id : Nat} {a : Act} {w b : World} {g0 g1 g2 g3 : Nat} {o0 o1 o2 o3 : Obj} (k : Nat) (h0 : Hid (w.heap[g0]? = some o0)) (h1 : Hid (w.heap[g1]? = some o1)) (h2 : Hid (w.heap[g2]? = some o2)) (h3 : Hid (w.heap[g3]? = some o3)) (hb : Hid (Below b.heap.size b w)) (K : ∀ n, (n.heap[g0]? = some o0 ∧ n.heap[g1]? = some o1 ∧ n.heap[g2]? = some o2 ∧ n.heap[g3]? = some o3 ∧ Below b.heap.size b n) → Below w.heap.size w n → wpAnyH P .any ops Q (fun n => n.heap[g0]? = some o0 ∧ n.heap[g1]? = some o1 ∧ n.heap[g2]? = some o2 ∧ n.heap[g3]? = some o3 ∧ Below b.heap.size b n) k (Array.replicate k false) a n) (hm : P.follows .mixedOrders = true := by kernel_rfl) (hk : ops.size = k := by kernel_rfl) : (Code.region id ops true).wp P Q a w := by
 subst hk
 exact wp_region_held_drew (S := fun n => n.heap[g0]? = some o0 ∧ n.heap[g1]? = some o1 ∧ n.heap[g2]? = some o2 ∧ n.heap[g3]? = some o3 ∧ Below b.heap.size b n) hm ⟨(blk_below h0.out (below_drew1 (Below.refl w.heap.size w))), (blk_below h1.out (below_drew1 (Below.refl w.heap.size w))), (blk_below h2.out (below_drew1 (Below.refl w.heap.size w))), (blk_below h3.out (below_drew1 (Below.refl w.heap.size w))), below_drew hb.out⟩ (fun h => K _ h (below_drew1 (Below.refl w.heap.size w)))
theorem h5 {id : Nat} {a : Act} {w b : World} {g0 g1 g2 g3 g4 : Nat} {o0 o1 o2 o3 o4 : Obj} (k : Nat) (h0 : Hid (w.heap[g0]? = some o0)) (h1 : Hid (w.heap[g1]? = some o1)) (h2 : Hid (w.heap[g2]? = some o2)) (h3 : Hid (w.heap[g3]? = some o3)) (h4 : Hid (w.heap[g4]? = some o4)) (hb : Hid (Below b.heap.size b w)) (K : ∀ n, (n.heap[g0]? = some o0 ∧ n.heap[g1]? = some o1 ∧ n.heap[g2]? = some o2 ∧ n.heap[g3]? = some o3 ∧ n.heap[g4]? = some o4 ∧ Below b.heap.size b n) → Below w.heap.size w n → wpAnyH P .any ops Q (fun n => n.heap[g0]? = some o0 ∧ n.heap[g1]? = some o1 ∧ n.heap[g2]? = some o2 ∧ n.heap[g3]? = some o3 ∧ n.heap[g4]? = some o4 ∧ Below b.heap.size b n) k (Array.replicate k false) a n) (hm : P.follows .mixedOrders = true := by kernel_rfl) (hk : ops.size = k := by kernel_rfl) : (Code.region id ops true).wp P Q a w := by
 subst hk
 exact wp_region_held_drew (S := fun n => n.heap[g0]? = some o0 ∧ n.heap[g1]? = some o1 ∧ n.heap[g2]? = some o2 ∧ n.heap[g3]? = some o3 ∧ n.heap[g4]? = some o4 ∧ Below b.heap.size b n) hm ⟨(blk_below h0.out (below_drew1 (Below.refl w.heap.size w))), (blk_below h1.out (below_drew1 (Below.refl w.heap.size w))), (blk_below h2.out (below_drew1 (Below.refl w.heap.size w))), (blk_below h3.out (below_drew1 (Below.refl w.heap.size w))), (blk_below h4.out (below_drew1 (Below.refl w.heap.size w))), below_drew hb.out⟩ (fun h => K _ h (below_drew1 (Below.refl w.heap.size w)))
theorem l0 (ds : List Nat) {id : Nat} {a : Act} {w b : World} (k : Nat)  (hb : Hid (Below b.heap.size b w)) (K : ∀ n, (Below b.heap.size b n) → Below w.heap.size w n → wpAnyLast P .any ops Q (fun n => Below b.heap.size b n) ds k (Array.replicate k false) a n) (hm : P.follows .mixedOrders = true := by kernel_rfl) (hk : ops.size = k := by kernel_rfl) : (Code.region id ops true).wp P Q a w := by
 subst hk
 exact wp_region_last_drew (S := fun n => Below b.heap.size b n) hm (below_drew hb.out) (fun h => K _ h (below_drew1 (Below.refl w.heap.size w)))
theorem l1 (ds : List Nat) {id : Nat} {a : Act} {w b : World} {g0 : Nat} {o0 : Obj} (k : Nat) (h0 : Hid (w.heap[g0]? = some o0)) (hb : Hid (Below b.heap.size b w)) (K : ∀ n, (n.heap[g0]? = some o0 ∧ Below b.heap.size b n) → Below w.heap.size w n → wpAnyLast P .any ops Q (fun n => n.heap[g0]? = some o0 ∧ Below b.heap.size b n) ds k (Array.replicate k false) a n) (hm : P.follows .mixedOrders = true := by kernel_rfl) (hk : ops.size = k := by kernel_rfl) : (Code.region id ops true).wp P Q a w := by
 subst hk
 exact wp_region_last_drew (S := fun n => n.heap[g0]? = some o0 ∧ Below b.heap.size b n) hm ⟨(blk_below h0.out (below_drew1 (Below.refl w.heap.size w))), below_drew hb.out⟩ (fun h => K _ h (below_drew1 (Below.refl w.heap.size w)))
theorem l2 (ds : List Nat) {id : Nat} {a : Act} {w b : World} {g0 g1 : Nat} {o0 o1 : Obj} (k : Nat) (h0 : Hid (w.heap[g0]? = some o0)) (h1 : Hid (w.heap[g1]? = some o1)) (hb : Hid (Below b.heap.size b w)) (K : ∀ n, (n.heap[g0]? = some o0 ∧ n.heap[g1]? = some o1 ∧ Below b.heap.size b n) → Below w.heap.size w n → wpAnyLast P .any ops Q (fun n => n.heap[g0]? = some o0 ∧ n.heap[g1]? = some o1 ∧ Below b.heap.size b n) ds k (Array.replicate k false) a n) (hm : P.follows .mixedOrders = true := by kernel_rfl) (hk : ops.size = k := by kernel_rfl) : (Code.region id ops true).wp P Q a w := by
 subst hk
 exact wp_region_last_drew (S := fun n => n.heap[g0]? = some o0 ∧ n.heap[g1]? = some o1 ∧ Below b.heap.size b n) hm ⟨(blk_below h0.out (below_drew1 (Below.refl w.heap.size w))), (blk_below h1.out (below_drew1 (Below.refl w.heap.size w))), below_drew hb.out⟩ (fun h => K _ h (below_drew1 (Below.refl w.heap.size w)))
theorem l3 (ds : List Nat) {id : Nat} {a : Act} {w b : World} {g0 g1 g2 : Nat} {o0 o1 o2 : Obj} (k : Nat) (h0 : Hid (w.heap[g0]? = some o0)) (h1 : Hid (w.heap[g1]? = some o1)) (h2 : Hid (w.heap[g2]? = some o2)) (hb : Hid (Below b.heap.size b w)) (K : ∀ n, (n.heap[g0]? = some o0 ∧ n.heap[g1]? = some o1 ∧ n.heap[g2]? = some o2 ∧ Below b.heap.size b n) → Below w.heap.size w n → wpAnyLast P .any ops Q (fun n => n.heap[g0]? = some o0 ∧ n.heap[g1]? = some o1 ∧ n.heap[g2]? = some o2 ∧ Below b.heap.size b n) ds k (Array.replicate k false) a n) (hm : P.follows .mixedOrders = true := by kernel_rfl) (hk : ops.size = k := by kernel_rfl) : (Code.region id ops true).wp P Q a w := by
 subst hk
 exact wp_region_last_drew (S := fun n => n.heap[g0]? = some o0 ∧ n.heap[g1]? = some o1 ∧ n.heap[g2]? = some o2 ∧ Below b.heap.size b n) hm ⟨(blk_below h0.out (below_drew1 (Below.refl w.heap.size w))), (blk_below h1.out (below_drew1 (Below.refl w.heap.size w))), (blk_below h2.out (below_drew1 (Below.refl w.heap.size w))), below_drew hb.out⟩ (fun h => K _ h (below_drew1 (Below.refl w.heap.size w)))
theorem r1 (i : Nat) {o : Oper} (h : ∀ K' : Act → World → Prop, Shut (∀ a w, S w → (S w → wpAnyH P md ops Q S fuel (listed.setIfInBounds i true) a w) → K' a w) → if Region.wanted o (yielded ops a.tmps) = true then Oper.wp P o a w K' Q else K' (a.put o.dst undef) w)
  (hr : Region.ready md ops listed = [i] := by kernel_rfl) (ho : ops[i]? = some o := by rfl) : wpAnyH P md ops Q S (fuel + 1) listed a w := wpAnyH_ready hr (by simp) (AllReadyH.cons ho h AllReadyH.nil)
theorem r2 (i j : Nat) {o p : Oper} (h : ∀ K' : Act → World → Prop, Shut (∀ a w, S w → (S w → wpAnyH P md ops Q S fuel (listed.setIfInBounds i true) a w) → K' a w) → if Region.wanted o (yielded ops a.tmps) = true then Oper.wp P o a w K' Q else K' (a.put o.dst undef) w)
  (h2 : ∀ K' : Act → World → Prop, Shut (∀ a w, S w → (S w → wpAnyH P md ops Q S fuel (listed.setIfInBounds j true) a w) → K' a w) → if Region.wanted p (yielded ops a.tmps) = true then Oper.wp P p a w K' Q else K' (a.put p.dst undef) w)
  (hr : Region.ready md ops listed = [i, j] := by kernel_rfl) (ho : ops[i]? = some o := by rfl) (hp : ops[j]? = some p := by rfl) : wpAnyH P md ops Q S (fuel + 1) listed a w := wpAnyH_ready hr (by simp) (AllReadyH.cons ho h (AllReadyH.cons hp h2 AllReadyH.nil))
theorem s1 (i : Nat) {o : Oper} (h : ∀ K' : Act → World → Prop, Shut (∀ a w, S w → (S w → wpAnyLast P md ops Q S ds fuel (listed.setIfInBounds i true) a w) → K' a w) → if Region.wanted o (yielded ops a.tmps) = true then Oper.wp P o a w K' Q else K' (a.put o.dst undef) w)
  (hr : Region.ready md ops listed = [i] := by kernel_rfl) (ho : ops[i]? = some o := by rfl) (hd : i ∉ ds := by decide) : wpAnyLast P md ops Q S ds (fuel + 1) listed a w := wpAnyLast_ready hr (by simp) (AllReadyL.cons ho hd h AllReadyL.nil)
theorem sz (i : Nat) {o : Oper} (h : ∀ K' : Act → World → Prop, Shut (∀ a w, wpAnyLast P md ops Q S ds fuel (listed.setIfInBounds i true) a w → K' a w) → if Region.wanted o (yielded ops a.tmps) = true then Oper.wp P o a w K' Q else K' (a.put o.dst undef) w)
  (hr : Region.ready md ops listed = [i] := by kernel_rfl) (ho : ops[i]? = some o := by rfl) (hd : i ∈ ds := by decide) : wpAnyLast P md ops Q S ds (fuel + 1) listed a w := wpAnyLast_ready hr (by simp) (AllReadyL.cons_last ho hd h AllReadyL.nil)
end
end Z
end Go.Proofs.YtnjmilelifmfpaaGreatDoor.Pure

namespace Go.Proofs.YtnjmilelifmfpaaGreatDoor.Pure
open Go Go.RowKit Go.Lib Go.Proofs Go.Proofs.YtnjmilelifmfpaaGreatDoor.Q Go.Proofs.YtnjmilelifmfpaaGreatDoorW.PrintWords Go.Proofs.YtnjmilelifmfpaaGreatDoorW.PrintLast Go.Proofs.YtnjmilelifmfpaaGreatDoorW.PrintMore
set_option linter.unusedVariables false
set_option linter.unusedSimpArgs false
namespace Tu
open Go.Proofs.YtnjmilelifmfpaaGreatDoor.HSub Go.Proofs.YtnjmilelifmfpaaGreatDoor.HCore
def Res (r : T) (ok : Nat → Prop) (w : World) : Ending → World → Prop := fun e w' => ∃ (A : Option Addr) (c : Nat), e = .returned (.agg #[.int .i64 r.f0, .int .i64 r.f1, .string r.f2, .slice A r.f3.length c]) ∧ r.f3.length ≤ c ∧ Kd.F k24 w' ok A r.f3.length r.f3 ∧ Below w.heap.size w w'
theorem turns_len (g : T → Int → T) : ∀ (l : List T) (b : Int), (turns g l b).length = l.length
 | [], b => rfl
 | x :: r, b => by simp only [turns, List.length_cons, turns_len g r b]
def zeroT : T := ⟨0, 0, ⟨#[]⟩, []⟩
def fill (g : T → Int → T) (l : List T) (b : Int) (i : Nat) : List T := turns g (l.take i) b ++ List.replicate (l.length - i) zeroT
end Tu
end Go.Proofs.YtnjmilelifmfpaaGreatDoor.Pure

namespace Go.Proofs.YtnjmilelifmfpaaGreatDoor.Pure
open Go Go.RowKit Go.Lib Go.Proofs Go.Proofs.YtnjmilelifmfpaaGreatDoor.Q Go.Proofs.YtnjmilelifmfpaaGreatDoorW.PrintWords Go.Proofs.YtnjmilelifmfpaaGreatDoorW.PrintLast Go.Proofs.YtnjmilelifmfpaaGreatDoorW.PrintMore
set_option linter.unusedVariables false
set_option linter.unusedSimpArgs false
namespace Hd
open Go.Proofs.YtnjmilelifmfpaaGreatDoor.HSub Go.Proofs.YtnjmilelifmfpaaGreatDoor.HCore Tu
def Res2 (r : T × Int) (ok : Nat → Prop) (w : World) : Ending → World → Prop := fun e w' => ∃ (A : Option Addr) (c : Nat), e = .returned (.tuple #[.agg #[.int .i64 r.1.f0, .int .i64 r.1.f1, .string r.1.f2, .slice A r.1.f3.length c], .int .i64 r.2]) ∧ r.1.f3.length ≤ c ∧ Kd.F k24 w' ok A r.1.f3.length r.1.f3 ∧ Below w.heap.size w w'
def StepC (x : T) : Prop := ∀ (w : World) (A : Option Addr) (c : Nat) (ok : Nat → Prop), Kd.F k24 w ok A x.f3.length x.f3 → x.f3.length ≤ c → Calls Tryz.prog 22 #[.agg #[.int .i64 x.f0, .int .i64 x.f1, .string x.f2, .slice A x.f3.length c]] w (Res2 (hstep x) (fun k => ok k ∨ w.heap.size ≤ k) w)
theorem N_none {W : World} {base : Nat} {ok : Nat → Prop} (hbase : base ≤ W.heap.size) (hfresh : ok W.heap.size) : Kd.N k24 24 (W.alloc (.cells #[] 24)) base ok (.slice (some ⟨W.heap.size, 0, none⟩) 0 0) [] := by
 refine Kd.R_N ⟨fun k hk => ?_, [], ?_, ?_⟩
 ·have : W.heap.size = k := by simpa [Value.ownBlock] using hk
  subst this; exact hfresh
 ·have h2 := World.ownsRow_lit (base := base) (e := 24) (size := 4) W #[] 0 hbase (by simp [maxLen]) (by simp)
  have h3 : World.ownsRow (W.alloc (.cells #[] 24)) base 24 4 (.slice (some ⟨W.heap.size, 0, none⟩) 0 0) 0 [] := by simpa using h2
  exact h3
 ·exact ⟨rfl, fun j p hj => by simp at hj⟩
set_option maxRecDepth 100000 in
set_option maxHeartbeats 4000000 in
theorem clone_any (l : List T) (ad : Addr) (c : Nat) (hln : l.length ≤ 1000000000) (hp : 0 < l.length) (w : World) (ok okp : Nat → Prop) (hF : Kd.F k24 w okp (some ad) l.length l) (hokp : ∀ k, okp k → ok k ∧ k < w.heap.size) (hfr : ∀ k, w.heap.size ≤ k → ok k) :
  Calls Tryz.prog 90 #[.slice (some ad) l.length c] w fun e w' => ∃ (A2 : Option Addr) (c2 : Nat), e = .returned (.slice A2 l.length c2) ∧ l.length ≤ c2 ∧ Kd.N k24 24 w' w.heap.size ok (.slice A2 l.length c2) l ∧ Below w.heap.size w w' := by
 (have FW := Lib.hid hF; have HP := Lib.hid hokp; have HFR := Lib.hid hfr); clear hF hokp hfr; have HB := Lib.hid (Below.refl w.heap.size w); have hnil_ := Lib.run_eql_slice_nil (P := Tryz.prog) w 22 24 (some ad) l.length c 0 0 Tryz.underlying22; simp only [Option.isNone_some] at hnil_; go_enter Tryz.func90, Tryz.ntmps90; go_upto_region 3 with (fail); have hb0_ := below_alloc (Below.refl w.heap.size w) (.cells #[] 24); have RN := Lib.hid (N_none (W := w) (base := w.heap.size) (ok := ok) (Nat.le_refl _) (HFR.out _ (Nat.le_refl _))); have F1 := Lib.hid (Kd.F_below FW.out hb0_); have HB1 := Lib.hid hb0_; (have h81_ : (([] : List T).length + l.length) * 56 ≤ 140737488355328 := by simp; omega); have HP1 := Lib.hid (show ∀ k, okp k → ok k ∧ some k ≠ (Value.slice (some ⟨w.heap.size, 0, none⟩) 0 0).ownBlock from fun k hk => ⟨(HP.out k hk).1, fun e => by have := (HP.out k hk).2; simp [Value.ownBlock] at e; omega⟩); have HF1 := Lib.hid (show ∀ k, (w.alloc (.cells #[] 24)).heap.size ≤ k → ok k from fun k hk => HFR.out k (Nat.le_trans hb0_.size hk)); clear hb0_; go_wp2_with (refine Kd.N_append_rows k24 (w0 := w) w.heap.size rfl (.tmp 5) (.tmp 6) 22 24 (.agg #[.int .i64 0, .int .i64 0, .string ⟨#[]⟩, .slice none 0 0]) 56 rfl Tryz.underlying22 info24 rfl (by decide) (by omega) (.slice (some ⟨w.heap.size, 0, none⟩) 0 0) [] l (some ad) l.length c ok okp (by first|rfl|(go_simp; done)|(go_simp; rfl)) (by first|rfl|(go_simp; done)|(go_simp; rfl)) RN.out F1.out HP1.out HF1.out HB1.out HB1.out.size h81_ ?_; intro v1 wm ho hb hg hat; rw [List.nil_append] at ho; obtain ⟨A2, c2, rfl, hl2, _⟩ := Kd.N_reads ho; have RN2 := Lib.hid ho; have HB2 := Lib.hid hb; have HL2 := Lib.hid hl2; clear ho hb hg hat hl2); go_ret; exact ⟨A2, c2, rfl, HL2.out, RN2.out, HB2.out⟩
set_option maxRecDepth 100000 in
set_option maxHeartbeats 4000000 in
theorem inside_any (t : T) (i : Nat) (y : T) (hy : t.f3[i]? = some y) (hS : StepC y) (hln : t.f3.length ≤ 1000000000) (w : World) (A : Option Addr) (c : Nat) (ok : Nat → Prop) (hF : Kd.F k24 w ok A t.f3.length t.f3) (hl : t.f3.length ≤ c) :
  Calls Tryz.prog 58 #[.agg #[.int .i64 t.f0, .int .i64 t.f1, .string t.f2, .slice A t.f3.length c], .int .i64 (i : Int)] w (Res2 (if (hstep y).2 = 0 then (t, 0) else (⟨t.f0, t.f1, t.f2, t.f3.set i (hstep y).1⟩, (hstep y).2)) (fun k => ok k ∨ w.heap.size ≤ k) w) := by
 (have FW := Lib.hid hF; have HS := Lib.hid hS; have Yy := Lib.hid hy); clear hF hS hy; obtain ⟨g, hg_⟩ : ∃ g, g = hstep y := ⟨_, rfl⟩; rw [← hg_]; have HG := Lib.hid hg_; clear hg_; obtain ⟨x, what⟩ := g
 by_cases q_ : what = 0
 ·(have b0_ : (what == 0) = true := by first|(simp [q_]; done)|(simp [q_]; omega)); rw [if_pos q_]; have Q := Lib.hid q_; have HB := Lib.hid (Below.refl w.heap.size w); have FA := Lib.hid (Kd.F_bound FW.out); go_enter Tryz.func58, Tryz.ntmps58; go_upto_region 1 with (fail); obtain ⟨w_1,hw_,bk_,hb⟩:=Z.aw w (Obj.cells #[.int .i64 t.f0, .int .i64 t.f1, .string t.f2, .slice A t.f3.length c] 24); have sz_ := (show (w.alloc (Obj.cells #[.int .i64 t.f0, .int .i64 t.f1, .string t.f2, .slice A t.f3.length c] 24)).heap.size = w.heap.size + 1 from Array.size_push _); (try rw [hw_] at sz_); (try rw [hw_]); clear hw_; replace bk_:=bk_.out; (replace HB:=Z.mB HB hb; replace FA:=Z.mF FA hb); clear hb; have BT := Lib.hid bk_; clear bk_; obtain ⟨GR, hGR_⟩ : ∃ g, g = w.heap.size + 1 := ⟨_, rfl⟩; (have gr_ : w.heap.size < GR := by omega); have sz2_ := Lib.hid sz_; clear sz_; obtain ⟨w_2,hw_,bk_,hb⟩:=Z.aw w_1 (Obj.cells #[.int .i64 0, .int .i64 0, .string ⟨#[]⟩, .slice none 0 0] 24); (try rw [hw_]); clear hw_; replace bk_:=bk_.out; (replace HB:=Z.mB HB hb; replace FA:=Z.mF FA hb; replace BT:=Z.mK BT hb); clear hb; have BR := Lib.hid bk_; clear bk_; rw [sz2_.out, ← hGR_] at BR; rw [← hGR_]; have GR_ := Lib.hid gr_; clear hGR_ sz2_ gr_; obtain ⟨t0,t1,t2,t3⟩:=Z.c4 BT; obtain ⟨zt0,zt1,zt2,zt3⟩:=Z.z4 BT; obtain ⟨r0,r1,r2,r3⟩:=Z.c4 BR; obtain ⟨zr0,zr1,zr2,zr3⟩:=Z.z4 BR; obtain ⟨ady, Ay, cy, hA_, x0_y, x1_y, x2_y, x3_y, hly, CXy⟩ := WK.tm_getF FA.out Yy.out; subst hA_; have CXy := Lib.hid CXy; have lty_ := WK.get_lt Yy.out; have luy_ := Int.ofNat_lt.2 lty_; (try simp only [Int.ofNat_eq_natCast, Int.cast_ofNat_Int, Int.natCast_zero] at luy_); go_wp2_with fail; have hs_ := HS.out w_2 Ay cy _ CXy.out hly; rw [← HG.out] at hs_; have HC := Lib.hid hs_; have gw_ := blk_lt BR.out; clear hs_
  skip
  refine (HC.out).mono ?_; rintro e w_3 ⟨Ax, cx, rfl, hlx, hf_, hb⟩; have FX := Lib.hid (Kd.F_mono (ok' := (fun k => (ok k ∧ k < w.heap.size) ∨ GR + 1 ≤ k)) hf_ (fun k hk => hk.imp id (Nat.le_trans gw_))); (replace HB:=Z.mB HB hb; replace FA:=Z.mF FA hb; replace BT:=Z.mK BT hb; replace BR:=Z.mK BR hb; replace CXy:=Z.mF CXy hb); clear hb; clear hf_ HC gw_ x0_y x1_y x2_y x3_y; clear t0 t1 t2 t3 zt0 zt1 zt2 zt3 r0 r1 r2 r3 zr0 zr1 zr2 zr3; obtain ⟨t0,t1,t2,t3⟩:=Z.c4 BT; obtain ⟨zt0,zt1,zt2,zt3⟩:=Z.z4 BT; obtain ⟨r0,r1,r2,r3⟩:=Z.c4 BR; obtain ⟨zr0,zr1,zr2,zr3⟩:=Z.z4 BR; go_upto_region 2 with (fail); clear t0 t1 t2 t3 zt0 zt1 zt2 zt3 r0 r1 r2 r3 zr0 zr1 zr2 zr3; obtain ⟨w_4,hw_,bk_,hb⟩:=Z.aw w_3 (Obj.cells #[.int .i64 x.f0, .int .i64 x.f1, .string x.f2, .slice Ax x.f3.length cx] 24); (try rw [hw_]); clear hw_; replace bk_:=bk_.out; (replace HB:=Z.mB HB hb; replace FA:=Z.mF FA hb; replace BT:=Z.mK BT hb; replace BR:=Z.mK BR hb; replace CXy:=Z.mF CXy hb; replace FX:=Z.mF FX hb); clear hb; have BX := Lib.hid bk_; clear bk_; obtain ⟨t0,t1,t2,t3⟩:=Z.c4 BT; obtain ⟨zt0,zt1,zt2,zt3⟩:=Z.z4 BT; obtain ⟨r0,r1,r2,r3⟩:=Z.c4 BR; obtain ⟨zr0,zr1,zr2,zr3⟩:=Z.z4 BR; obtain ⟨x0,x1,x2,x3⟩:=Z.c4 BX; obtain ⟨zx0,zx1,zx2,zx3⟩:=Z.z4 BX; go_wp2_with fail; have gr_ := GR_.out; refine bodyPost_ret (results_ct rfl _ _ GR 24 #[.int .i64 t.f0, .int .i64 t.f1, .string t.f2, .slice (some ady) t.f3.length c] (0, 0) _ rfl (WK.blk4 BR.out _ _ _ _) Tryz.underlying24 rfl (by kernel_rfl)) rfl ?_; exact ⟨(some ady), c, rfl, hl, Kd.F_mono (WK.F4 FA.out (fun k hk => Nat.ne_of_lt (Nat.lt_trans hk.2 gr_)) _ _ _ _) (fun k hk => Or.inl (And.left hk)), WK.below4 HB.out (Nat.le_of_lt gr_) _ _ _ _⟩
 ·(have b0_ : (what == 0) = false := by first|(simp [q_]; done)|(simp [q_]; omega)); rw [if_neg q_]; simp only []; have Q := Lib.hid q_; have HB := Lib.hid (Below.refl w.heap.size w); have FA := Lib.hid (Kd.F_bound FW.out); go_enter Tryz.func58, Tryz.ntmps58; go_upto_region 1 with (fail); obtain ⟨w_5,hw_,bk_,hb⟩:=Z.aw w (Obj.cells #[.int .i64 t.f0, .int .i64 t.f1, .string t.f2, .slice A t.f3.length c] 24); have sz_ := (show (w.alloc (Obj.cells #[.int .i64 t.f0, .int .i64 t.f1, .string t.f2, .slice A t.f3.length c] 24)).heap.size = w.heap.size + 1 from Array.size_push _); (try rw [hw_] at sz_); (try rw [hw_]); clear hw_; replace bk_:=bk_.out; (replace HB:=Z.mB HB hb; replace FA:=Z.mF FA hb); clear hb; have BT := Lib.hid bk_; clear bk_; obtain ⟨GR, hGR_⟩ : ∃ g, g = w.heap.size + 1 := ⟨_, rfl⟩; (have gr_ : w.heap.size < GR := by omega); have sz2_ := Lib.hid sz_; clear sz_; obtain ⟨w_6,hw_,bk_,hb⟩:=Z.aw w_5 (Obj.cells #[.int .i64 0, .int .i64 0, .string ⟨#[]⟩, .slice none 0 0] 24); (try rw [hw_]); clear hw_; replace bk_:=bk_.out; (replace HB:=Z.mB HB hb; replace FA:=Z.mF FA hb; replace BT:=Z.mK BT hb); clear hb; have BR := Lib.hid bk_; clear bk_; rw [sz2_.out, ← hGR_] at BR; rw [← hGR_]; have GR_ := Lib.hid gr_; clear hGR_ sz2_ gr_; obtain ⟨t0,t1,t2,t3⟩:=Z.c4 BT; obtain ⟨zt0,zt1,zt2,zt3⟩:=Z.z4 BT; obtain ⟨r0,r1,r2,r3⟩:=Z.c4 BR; obtain ⟨zr0,zr1,zr2,zr3⟩:=Z.z4 BR; obtain ⟨ady, Ay, cy, hA_, x0_y, x1_y, x2_y, x3_y, hly, CXy⟩ := WK.tm_getF FA.out Yy.out; subst hA_; have CXy := Lib.hid CXy; have lty_ := WK.get_lt Yy.out; have luy_ := Int.ofNat_lt.2 lty_; (try simp only [Int.ofNat_eq_natCast, Int.cast_ofNat_Int, Int.natCast_zero] at luy_); go_wp2_with fail; have hs_ := HS.out w_6 Ay cy _ CXy.out hly; rw [← HG.out] at hs_; have HC := Lib.hid hs_; have gw_ := blk_lt BR.out; clear hs_
  skip
  refine (HC.out).mono ?_; rintro e w_7 ⟨Ax, cx, rfl, hlx, hf_, hb⟩; have FX := Lib.hid (Kd.F_mono (ok' := (fun k => (ok k ∧ k < w.heap.size) ∨ GR + 1 ≤ k)) hf_ (fun k hk => hk.imp id (Nat.le_trans gw_))); (replace HB:=Z.mB HB hb; replace FA:=Z.mF FA hb; replace BT:=Z.mK BT hb; replace BR:=Z.mK BR hb; replace CXy:=Z.mF CXy hb); clear hb; clear hf_ HC gw_ x0_y x1_y x2_y x3_y; clear t0 t1 t2 t3 zt0 zt1 zt2 zt3 r0 r1 r2 r3 zr0 zr1 zr2 zr3; obtain ⟨t0,t1,t2,t3⟩:=Z.c4 BT; obtain ⟨zt0,zt1,zt2,zt3⟩:=Z.z4 BT; obtain ⟨r0,r1,r2,r3⟩:=Z.c4 BR; obtain ⟨zr0,zr1,zr2,zr3⟩:=Z.z4 BR; go_upto_region 2 with (fail); clear t0 t1 t2 t3 zt0 zt1 zt2 zt3 r0 r1 r2 r3 zr0 zr1 zr2 zr3; have gxr_ := Lib.hid (blk_lt BR.out); have FX2 := Lib.hid (Kd.F_bound FX.out); clear FX; have FX := FX2; clear FX2; obtain ⟨w_8,hw_,bk_,hb⟩:=Z.aw w_7 (Obj.cells #[.int .i64 x.f0, .int .i64 x.f1, .string x.f2, .slice Ax x.f3.length cx] 24); (try rw [hw_]); clear hw_; replace bk_:=bk_.out; (replace HB:=Z.mB HB hb; replace FA:=Z.mF FA hb; replace BT:=Z.mK BT hb; replace BR:=Z.mK BR hb; replace CXy:=Z.mF CXy hb; replace FX:=Z.mF FX hb); clear hb; have BX := Lib.hid bk_; clear bk_; generalize w_7.heap.size = GX at BX gxr_ FX ⊢; obtain ⟨t0,t1,t2,t3⟩:=Z.c4 BT; obtain ⟨zt0,zt1,zt2,zt3⟩:=Z.z4 BT; obtain ⟨r0,r1,r2,r3⟩:=Z.c4 BR; obtain ⟨zr0,zr1,zr2,zr3⟩:=Z.z4 BR; obtain ⟨x0,x1,x2,x3⟩:=Z.c4 BX; obtain ⟨zx0,zx1,zx2,zx3⟩:=Z.z4 BX; have lty_ := WK.get_lt Yy.out; go_upto_region 4 with (fail); go_wp2_with fail; have gw_ := blk_lt BX.out; have hc_ := clone_any t.f3 ady c hln (by omega) w_8 (fun k => ((ok k ∧ k < w.heap.size) ∨ GR + 1 ≤ k) ∧ k ≠ GX) (fun k => ok k ∧ k < w.heap.size) FA.out (fun k hk => ⟨⟨Or.inl hk, fun e => by have := gxr_.out; have := GR_.out; omega⟩, by have := HB.out.size; omega⟩) (fun k hk => ⟨Or.inr (by have := gxr_.out; omega), fun e => by omega⟩); have HC := Lib.hid hc_; clear hc_ gw_; have gxw_ := blk_lt BX.out
  skip
  refine (HC.out).mono ?_; rintro e w_9 ⟨A2, c2, rfl, hl2, hn_, hb⟩; have RN := Lib.hid (Kd.N_lower hn_ HB.out.size); (replace HB:=Z.mB HB hb; replace FA:=Z.mF FA hb; replace BT:=Z.mK BT hb; replace BR:=Z.mK BR hb; replace CXy:=Z.mF CXy hb; replace FX:=Z.mF FX hb; replace BX:=Z.mK BX hb); clear hb; have NB := Lib.hid (show ∀ k, (Value.slice A2 t.f3.length c2).ownBlock = some k → GX < k from fun k hk => Nat.lt_of_lt_of_le gxw_ (Kd.N_base hn_ k hk)); clear hn_ HC gxw_; clear t0 t1 t2 t3 zt0 zt1 zt2 zt3 r0 r1 r2 r3 zr0 zr1 zr2 zr3 x0 x1 x2 x3 zx0 zx1 zx2 zx3; obtain ⟨t0,t1,t2,t3⟩:=Z.c4 BT; obtain ⟨zt0,zt1,zt2,zt3⟩:=Z.z4 BT; obtain ⟨r0,r1,r2,r3⟩:=Z.c4 BR; obtain ⟨zr0,zr1,zr2,zr3⟩:=Z.z4 BR; obtain ⟨x0,x1,x2,x3⟩:=Z.c4 BX; obtain ⟨zx0,zx1,zx2,zx3⟩:=Z.z4 BX; go_upto_region 5 with (fail); clear t0 t1 t2 t3 zt0 zt1 zt2 zt3 r0 r1 r2 r3 zr0 zr1 zr2 zr3 x0 x1 x2 x3 zx0 zx1 zx2 zx3; have n0_ := Lib.hid (below_set (j := 3) (v := (.slice A2 t.f3.length c2)) HB.out (Nat.le_refl _)); have n1_ := Lib.hid (blk_put BT.out 3 (.slice A2 t.f3.length c2) (cs' := #[.int .i64 t.f0, .int .i64 t.f1, .string t.f2, .slice A2 t.f3.length c2]) rfl); have n2_ := Lib.hid (blk_far BR.out (p := ⟨w.heap.size, 3, none⟩) (Nat.ne_of_gt GR_.out) (.slice A2 t.f3.length c2)); have n3_ := Lib.hid (blk_far BX.out (p := ⟨w.heap.size, 3, none⟩) (by have := gxr_.out; have := GR_.out; show GX ≠ w.heap.size; omega) (.slice A2 t.f3.length c2)); have n4_ := Lib.hid (Kd.N_far (p := ⟨w.heap.size, 3, none⟩) RN.out (fun k hk => by have := GR_.out; show k ≠ w.heap.size; rcases hk.1 with h | h <;> omega) (.slice A2 t.f3.length c2)); have n5_ := Lib.hid (Kd.F_far (p := ⟨w.heap.size, 3, none⟩) FX.out (fun k hk => by have := GR_.out; show k ≠ w.heap.size; rcases hk.1 with h | h <;> omega) (.slice A2 t.f3.length c2)); clear HB BT BR BX RN FX FA CXy; (have HB := n0_; have BT := n1_; have BR := n2_; have BX := n3_; have RN := n4_; have FX := n5_); clear n0_ n1_ n2_ n3_ n4_ n5_; generalize hw_ : (w_9.setCell ⟨w.heap.size, 3, none⟩ (.slice A2 t.f3.length c2)) = w_10 at HB BT BR BX RN FX ⊢; clear hw_; obtain ⟨t0,t1,t2,t3⟩:=Z.c4 BT; obtain ⟨zt0,zt1,zt2,zt3⟩:=Z.z4 BT; obtain ⟨r0,r1,r2,r3⟩:=Z.c4 BR; obtain ⟨zr0,zr1,zr2,zr3⟩:=Z.z4 BR; obtain ⟨x0,x1,x2,x3⟩:=Z.c4 BX; obtain ⟨zx0,zx1,zx2,zx3⟩:=Z.z4 BX; obtain ⟨GL, cap_, hv_, hgb_, hgl_, _⟩ := Kd.N_form RN.out (by omega); injection hv_ with hA2_ _ hc2_; subst hA2_; subst hc2_; have hgn_ := RN.out.1 GL (by simp [Value.ownBlock]); (have hgl2_ : GR + 1 ≤ GL := by have := hgn_.1; rcases this with h | h <;> omega); obtain ⟨ce, hcl_, _, hcc_, _⟩ := Kd.N_elem RN.out zeroT (i : Int) (by omega) (by omega)
  skip
  have hgx_ : GX < GL := NB.out GL (by simp [Value.ownBlock]); have hM_ := k24_mkF w_10 (fun k => ((ok k ∧ k < w.heap.size) ∨ GR + 1 ≤ k) ∧ k < GX) x hlx FX.out; (have hs_ : ce.take 0 ++ [.int .i64 x.f0, .int .i64 x.f1, .string x.f2, .slice Ax x.f3.length cx] ++ ce.drop (0 + 4) = [.int .i64 x.f0, .int .i64 x.f1, .string x.f2, .slice Ax x.f3.length cx] := by rw [List.drop_eq_nil_of_le (by have : ce.length = 4 := hcl_; omega)]; simp); (have hop_ : ∀ k, (fun k => ((ok k ∧ k < w.heap.size) ∨ GR + 1 ≤ k) ∧ k < GX) k → (fun k => ((ok k ∧ k < w.heap.size) ∨ GR + 1 ≤ k) ∧ k ≠ GX) k ∧ k ≠ GL := fun k hk => ⟨⟨hk.1, Nat.ne_of_lt hk.2⟩, fun e => by have := hk.2; omega⟩); (have H1 := Lib.hid hop_; have H2 := Lib.hid hcc_; have H3 := Lib.hid hM_; have H4 := Lib.hid hs_; have H5 := Lib.hid hcl_; have gr9_ := GR_.out; have gx9_ := gxr_.out); clear hop_ hcc_ hM_ hs_ hcl_ hgn_; go_wp2_with (refine Kd.N_store k24 (w0 := w) w.heap.size rfl rfl 24 (.tmp 29) (.tmp 28) rfl 24 (i : Int) 0 t.f3 x (.agg #[.int .i64 x.f0, .int .i64 x.f1, .string x.f2, .slice Ax x.f3.length cx]) [.int .i64 x.f0, .int .i64 x.f1, .string x.f2, .slice Ax x.f3.length cx] ce (fun k => ((ok k ∧ k < w.heap.size) ∨ GR + 1 ≤ k) ∧ k ≠ GX) (fun k => ((ok k ∧ k < w.heap.size) ∨ GR + 1 ≤ k) ∧ k < GX) (by first|rfl|(go_simp; done)|(go_simp; rfl)) (by first|rfl|(simp; done)|(simp; omega)) (by first|rfl|(go_simp; done)|(go_simp; rfl)) rfl (show (Tryz.prog.info? 24).map (·.size) = some 4 from by kernel_rfl) (k24.K_one (Kd.FK_now H3.out)) RN.out (by omega) (by omega) H5.out H2.out (Nat.le_refl 4) (show Kd.FK k24 w_10 (fun k => ((ok k ∧ k < w.heap.size) ∨ GR + 1 ≤ k) ∧ k < GX) x (ce.take 0 ++ [.int .i64 x.f0, .int .i64 x.f1, .string x.f2, .slice Ax x.f3.length cx] ++ ce.drop (0 + 4)) from by rw [H4.out]; exact H3.out) H1.out HB.out ?_; intro ws ho hb hg; rw [Int.toNat_natCast] at ho; have BT5 := Lib.hid (blk_grown BT.out hg (by intro e; injection e with e; omega)); have BR5 := Lib.hid (blk_grown BR.out hg (by intro e; injection e with e; omega)); have RN5 := Lib.hid ho; have HB5 := Lib.hid hb; clear ho hb hg HB BT BR BX RN FX t0 t1 t2 t3 zt0 zt1 zt2 zt3 r0 r1 r2 r3 zr0 zr1 zr2 zr3 x0 x1 x2 x3 zx0 zx1 zx2 zx3; have t0 := blk_cell BT5.out 0; have zt0 := blk_frozen BT5.out 0; have t1 := blk_cell BT5.out 1; have zt1 := blk_frozen BT5.out 1; have t2 := blk_cell BT5.out 2; have zt2 := blk_frozen BT5.out 2; have t3 := blk_cell BT5.out 3; have zt3 := blk_frozen BT5.out 3; have r0 := blk_cell BR5.out 0; have zr0 := blk_frozen BR5.out 0; have r1 := blk_cell BR5.out 1; have zr1 := blk_frozen BR5.out 1; have r2 := blk_cell BR5.out 2; have zr2 := blk_frozen BR5.out 2; have r3 := blk_cell BR5.out 3; have zr3 := blk_frozen BR5.out 3; simp only [List.getElem?_toArray, List.getElem?_cons_zero, List.getElem?_cons_succ] at t0 t1 t2 t3 r0 r1 r2 r3); have hF_ := Kd.N_F RN5.out; have FL := Lib.hid hF_; have hset_ : (t.f3.set i x).length = t.f3.length := List.length_set; have HSE := Lib.hid hset_; clear hset_ hF_; have gr_ := GR_.out; refine bodyPost_ret (results_ct rfl _ _ GR 24 #[.int .i64 t.f0, .int .i64 t.f1, .string t.f2, .slice (some ⟨GL, 0, none⟩) t.f3.length c2] (0, 0) _ rfl (WK.blk4 BR5.out _ _ _ _) Tryz.underlying24 rfl (by kernel_rfl)) rfl ?_; exact ⟨some ⟨GL, 0, none⟩, c2, by (rw [HSE.out] <;> rfl), by rw [HSE.out]; exact hl2, by rw [HSE.out]; exact Kd.F_mono (WK.F4 FL.out (fun k hk => by rcases hk.1 with h | h <;> omega) _ _ _ _) (fun k hk => by rcases hk.1 with h | h; exact Or.inl h.1; exact Or.inr (by omega)), WK.below4 HB5.out (Nat.le_of_lt gr_) _ _ _ _⟩
end Hd
end Go.Proofs.YtnjmilelifmfpaaGreatDoor.Pure

namespace Go.Proofs.YtnjmilelifmfpaaGreatDoor.Ev
open Go Go.RowKit Go.Proofs.YtnjmilelifmfpaaGreatDoor.Q Go.Proofs.YtnjmilelifmfpaaGreatDoorW.PrintWords Go.Proofs.YtnjmilelifmfpaaGreatDoorW.PrintLast Go.Proofs.YtnjmilelifmfpaaGreatDoorW.PrintMore
open HCore (wt wts may same height heights size sizes)
open HSub (hstep)
set_option linter.unusedSimpArgs false
set_option linter.unusedVariables false
noncomputable def Sok (ok : Nat → Prop) (w : World) : Snap := SW (only ok w)
theorem Sok_agr {ok : Nat → Prop} {w : World} : Agr (Sok ok w) w := by
 refine ⟨fun b o v h => (only_cell h).2, fun b o v o' v' h h' => ?_⟩
 have hb := (only_cell h).1
 show (only ok w).cell? ⟨b, o', none⟩ = some v'
 rw [World.cell?_of_block (w := w) (only_get hb)]; exact h'
theorem stepC_of {y : Tm} (hz : size (hstep y).1 ≤ 9223372036854775807) (ih : ∀ J : JW, JOk J → OkAt Tryz.prog J 22 [.agg (encT y)] (.ret (.tup [.agg (encT (hstep y).1), .s (.int .i64 (hstep y).2)]))) : Pure.Hd.StepC y := by
 intro w A c ok hF hl
 have hC := hF (only ok w) fun k hk _ => only_get hk
 have hr : Rep (g0 (Sok ok w)) (.agg (encT y)) (.agg #[.int .i64 y.f0, .int .i64 y.f1, .string y.f2, .slice A y.f3.length c]) := .com (repT (w := only ok w) hl hC)
 have hc := ih (Jof w) (Jof.ok w) (Sok ok w) w [.agg #[.int .i64 y.f0, .int .i64 y.f1, .string y.f2, .slice A y.f3.length c]] (Below.refl _ _) Sok_agr (.cons hr .nil)
 refine Calls.mono hc fun e w' h => ?_
 cases e with
 | returned x =>
  obtain ⟨S', s1, s2, hA', hb, r⟩ := h
  cases r with
  | com r => cases r with | cel r => cases r with | pur p => cases p
  | tup cs =>
   cases cs with | cons r0 cs =>
   cases cs with | cons r1 cs =>
   cases cs
   have e1 := sc_rep (.com r1) rfl
   subst e1
   obtain ⟨A', c', rfl, hl', hF'⟩ := argF hA' hz (.com r0)
   refine ⟨A', c', rfl, hl', Kd.F_mono hF' fun k hk => ?_, hb⟩
   obtain ⟨o, v, hv⟩ := hk
   by_cases hlt : k < w.heap.size
   ·rw [s2 k o hlt] at hv
    exact .inl (only_cell hv).1
   ·exact .inr (Nat.le_of_not_lt hlt)
 | panicked ch => exact h.elim
 | outgrown => exact h.elim
def insideR (t : Tm) (i : Nat) (y : Tm) : Tm × Int := if (hstep y).2 = 0 then (t, 0) else (⟨t.f0, t.f1, t.f2, t.f3.set i (hstep y).1⟩, (hstep y).2)
abbrev TInside (n : Nat) : Spec := fun args out => ∃ (t : Tm) (i : Nat) (y : Tm), args = [.agg (encT t), .s (.int .i64 (i : Int))] ∧ t.f3[i]? = some y ∧ Pure.Hd.StepC y ∧ size t ≤ 1000000000 ∧
 out = .ret (.tup [.agg (encT (insideR t i y).1), .s (.int .i64 (insideR t i y).2)])
theorem c_inside {J : JW} {n : Nat} : Con Tryz.prog J 58 (TInside n) := by
 rintro args out ⟨t, i, y, rfl, hy, hS, hs, rfl⟩
 show ∀ S w vs, J w → Agr S w → All2 (Rep (g0 S)) _ vs → Calls Tryz.prog _ vs.toArray w (Post S w _)
 intro S w vs hJ hA h
 cases h with | cons r0 h =>
 cases h with | cons r1 h =>
 cases h
 have e1 := sc_rep r1 rfl
 subst e1
 have sl := len_sizes t.f3
 have sd := size_of t
 obtain ⟨A, c, rfl, hl, hF⟩ := argF hA (by omega) r0
 refine (Pure.Hd.inside_any t i y hy hS (by omega) w A c _ hF hl).mono fun e w' h => ?_
 obtain ⟨A', c', rfl, hl', hF', hb⟩ := h
 obtain ⟨s1, s2, s3⟩ := Snew_ok hA hb
 exact ⟨_, s1, s2, s3, hb, .tup (.cons (resF hA hb hl' hF') (.cons (.cel (.pur (.s rfl))) .nil))⟩
end Go.Proofs.YtnjmilelifmfpaaGreatDoor.Ev

namespace Go.Proofs.YtnjmilelifmfpaaGreatDoor.Ev
open Go Go.RowKit
open HCore (wt wts may same height heights size sizes)
open HSub (turn turns tame tames put inst failT num truth compute still find hstep stepApp stepCase stepOp stepOp2 hd)
set_option linter.unusedSimpArgs false
set_option linter.unusedVariables false
def fstS : ACode → ACode
 | .seq x _ => x
 | x => x
def sndS : ACode → ACode
 | .seq _ x => x
 | x => x
theorem split36 : c36 = .seq (fstS c36) (.seq (.seq (fstS (fstS (sndS c36))) (sndS (fstS (sndS c36)))) (sndS (sndS c36))) := rfl
def stepOut (p : Tm × Int) : AOut := .ret (.tup [.agg (encT p.1), .s (.int .i64 p.2)])
abbrev TApply : Spec := fun args out => ∃ (t x z : Tm) (r : List Tm), args = [.agg (encT t)] ∧ t.f0 = 3 ∧ t.f3 = x :: z :: r ∧ tame t ∧ size t ≤ 1000000 ∧ Pure.Hd.StepC x ∧ (x.f0 = 2 → ∃ q r', x.f3 = q :: r') ∧ out = stepOut (hstep t)
theorem app_of {t x z : Tm} {r : List Tm} (h0 : t.f0 = 3) (h3 : t.f3 = x :: z :: r) : hstep t = if x.f0 = 2 then (put (hd x.f3) 0 z, 1) else if x.f0 = 4 ∨ x.f0 = 7 ∨ x.f0 = 9 then (failT, 4) else insideR t 0 x := by
 obtain ⟨k, m, s, l⟩ := t
 dsimp only at h0 h3
 subst h0 h3
 rw [hstep, if_pos rfl, stepApp]
 rfl
theorem get0 {l r : List Tm} {x : Tm} (h : l = x :: r) : (encTs l)[Int.toNat 0]? = some [.s (.int .i64 x.f0), .s (.int .i64 x.f1), .s (.string x.f2), .row (encTs x.f3)] := by rw [h, ← encT_is]; rfl
theorem get1 {l r : List Tm} {x z : Tm} (h : l = x :: z :: r) : (encTs l)[Int.toNat 1]? = some [.s (.int .i64 z.f0), .s (.int .i64 z.f1), .s (.string z.f2), .row (encTs z.f3)] := by rw [h, ← encT_is]; rfl
set_option maxHeartbeats 4000000 in
theorem c_apply {J : JW} (hJ : JOk J) : Con Tryz.prog J 36 TApply := by
 obtain ⟨code, h1, h2, h3, h4⟩ := k36
 refine con (E := env [(56, TPut), (57, TFailed), (58, TInside 0)]) (ok_cons (c_put hJ) (ok_cons (c_failed hJ) (ok_cons c_inside ok_nil))) hJ h1 h2 h3 h4 fun args out h => ?_
 obtain ⟨t, x, z, r, rfl, k0, k3, ht, hs, hS, hlam, rfl⟩ := h
 refine ⟨rfl, by rw [Tryz.ntmps36]; simp, ?_⟩
 rw [app_of k0 k3]
 rw [tame_of] at ht
 obtain ⟨-, -, ts⟩ := ht
 have sd := size_of t
 have xm : x ∈ t.f3 := by rw [k3]; simp
 have zm : z ∈ t.f3 := by rw [k3]; simp
 have xs := sizes_mem xm
 have zs := sizes_mem zm
 have tx := tames_mem ts xm
 have tz := tames_mem ts zm
 rw [encT_is t]
 rw [split36]
 obtain ⟨M, hM⟩ : ∃ M, M = sndS (fstS (sndS c36)) := ⟨_, rfl⟩
 obtain ⟨N, hN⟩ : ∃ N, N = sndS (sndS c36) := ⟨_, rfl⟩
 rw [← hM, ← hN]
 simp only [c36, fstS, sndS]
 refine go ?_
 simp only [get0 k3]
 refine go ?_
 subst hM hN
 simp only [c36, fstS, sndS]
 refine go ?_
 cases e2 : (x.f0 == 2) with
 | true =>
  have kk : x.f0 = 2 := by simpa using e2
  obtain ⟨q, r', hq⟩ := hlam kk
  have qm : q ∈ x.f3 := by rw [hq]; simp
  have qs := sizes_mem qm
  have sx := size_of x
  rw [tame_of] at tx
  refine go ?_
  simp only [get0 hq, get1 k3]
  refine go ?_
  refine call (T := TPut) ⟨q, 0, z, by rw [encT_is q, encT_is z], tames_mem tx.2.2 qm, by omega, by omega, by omega, tz, by omega, rfl⟩ ?_
  rw [if_pos kk, hq, show hd (q :: r') = q from rfl, encT_is (put q 0 z)]
  refine go ?_
  unfold stepOut
  rw [encT_is (put q 0 z)]
 | false =>
 have n2 : ¬ x.f0 = 2 := by simpa using e2
 rw [if_neg n2]
 refine go ?_
 cases e4 : (x.f0 == 4) with
 | true =>
  have kk : x.f0 = 4 := by simpa using e4
  rw [if_pos (by omega)]
  refine go ?_
  refine call (T := TFailed) ⟨rfl, rfl⟩ ?_
  rw [failT_is]
  refine go ?_
  unfold stepOut
  rw [failT_is]
 | false =>
 have n4 : ¬ x.f0 = 4 := by simpa using e4
 refine go ?_
 cases e7 : (x.f0 == 7) with
 | true =>
  have kk : x.f0 = 7 := by simpa using e7
  rw [if_pos (by omega)]
  refine go ?_
  refine call (T := TFailed) ⟨rfl, rfl⟩ ?_
  rw [failT_is]
  refine go ?_
  unfold stepOut
  rw [failT_is]
 | false =>
 have n7 : ¬ x.f0 = 7 := by simpa using e7
 refine go ?_
 cases e9 : (x.f0 == 9) with
 | true =>
  have kk : x.f0 = 9 := by simpa using e9
  rw [if_pos (by omega)]
  refine go ?_
  refine call (T := TFailed) ⟨rfl, rfl⟩ ?_
  rw [failT_is]
  refine go ?_
  unfold stepOut
  rw [failT_is]
 | false =>
 have n9 : ¬ x.f0 = 9 := by simpa using e9
 refine go ?_
 rw [if_neg (by omega)]
 refine call (T := TInside 0) ⟨t, 0, x, by rw [encT_is t]; rfl, by rw [k3]; rfl, hS, by omega, rfl⟩ ?_
 rw [encT_is (insideR t 0 x).1]
 refine go ?_
 unfold stepOut
 rw [encT_is (insideR t 0 x).1]
end Go.Proofs.YtnjmilelifmfpaaGreatDoor.Ev

namespace Go.Proofs.YtnjmilelifmfpaaGreatDoor.Ev
open Go Go.RowKit
open HCore (wt wts may same height heights size sizes)
open HSub (turn turns tame tames put inst failT num truth compute still find hstep stepApp stepCase stepOp stepOp2 hd)
set_option linter.unusedSimpArgs false
set_option linter.unusedVariables false
def fits (s a : Tm) : Bool := decide (a.f2 = s.f2) && decide (a.f1 = (s.f3.length : Int))
abbrev T60 : Spec := fun args out => ∃ (a s : Tm), args = [.tup [.agg (encT s)], .agg (encT a), .ptr 0 0] ∧ out = .ret (.tup [.s (.bool (fits s a)), .agg (encT s)])
theorem c_e60 {J : JW} (hJ : JOk J) : Con Tryz.prog J 60 T60 := by
 obtain ⟨code, h1, h2, h3, h4⟩ := k60
 refine conH (E := envH 1 []) (ok_h ok_nil) hJ h1 h2 h3 h4 (fun args out h => ?_) (h0 := Nat.zero_lt_one)
 obtain ⟨x, s, rfl, rfl⟩ := h
 refine ⟨[encT s], _, rfl, rfl, by rw [Tryz.ntmps60]; simp, ?_⟩
 unfold fits
 rw [encT_is x, encT_is s]
 unfold c60
 refine go ?_
 by_cases h : x.f2 = s.f2
 ·simp only [h, decide_true]
  refine go ?_
  rw [encTs_len]; rfl
 ·simp only [h, decide_false]
  refine go ?_
  rfl
theorem find_fidx (s : Tm) : ∀ (l : List Tm) (k : Nat), match find s.f2.data.toList (s.f3.length : Int) l with
  | none => fidx (fits s) l k = -1
  | some x => ∃ i : Nat, l[i]? = some x ∧ fidx (fits s) l k = ((k + i : Nat) : Int)
 | [], k => rfl
 | x :: l, k => by
  have ih := find_fidx s l (k + 1)
  rw [find, fidx]
  by_cases h : x.f2.data.toList = s.f2.data.toList ∧ x.f1 = (s.f3.length : Int)
  ·rw [if_pos h]
   have : fits s x = true := by unfold fits; rw [ba_eqC]; simp [h.1, h.2]
   rw [if_pos this]
   exact ⟨0, rfl, rfl⟩
  ·rw [if_neg h]
   have : ¬ fits s x = true := by unfold fits; rw [ba_eqC]; simpa using h
   rw [if_neg this]
   revert ih
   cases find s.f2.data.toList (s.f3.length : Int) l with
   | none => exact id
   | some z => exact fun ⟨i, h1, h2⟩ => ⟨i + 1, h1, by rw [h2]; omega⟩
end Go.Proofs.YtnjmilelifmfpaaGreatDoor.Ev

namespace Go.Proofs.YtnjmilelifmfpaaGreatDoor.Ev
open Go Go.RowKit
open HCore (wt wts may same height heights size sizes)
open HSub (turn turns tame tames put inst failT num truth compute still find hstep stepApp stepCase stepOp stepOp2 hd)
set_option linter.unusedSimpArgs false
set_option linter.unusedVariables false
theorem split37 : c37 = .seq (fstS c37) (.seq (fstS (sndS c37)) (sndS (sndS c37))) := rfl
abbrev TPick : Spec := fun args out => ∃ (t x : Tm) (r : List Tm), args = [.agg (encT t)] ∧ t.f0 = 5 ∧ t.f3 = x :: r ∧ tame t ∧ size t ≤ 1000000 ∧ Pure.Hd.StepC x ∧ (∀ y ∈ r, ∃ q r', y.f3 = q :: r') ∧ out = stepOut (hstep t)
theorem case_of {t x : Tm} {r : List Tm} (h0 : t.f0 = 5) (h3 : t.f3 = x :: r) : hstep t = if x.f0 = 2 ∨ x.f0 = 7 ∨ x.f0 = 9 then ((failT, 4) : Tm × Int) else if x.f0 = 4 then (match find x.f2.data.toList x.f3.length r with | some a => ((inst (hd a.f3) x.f3, 2) : Tm × Int) | none => (failT, 4)) else insideR t 0 x := by
 obtain ⟨k, m, s, l⟩ := t
 dsimp only at h0 h3
 subst h0 h3
 rw [hstep, if_neg (by decide), if_pos rfl, stepCase]
 rfl
set_option maxHeartbeats 4000000 in
theorem c_pick {J : JW} (hJ : JOk J) : Con Tryz.prog J 37 TPick := by
 obtain ⟨code, h1, h2, h3, h4⟩ := k37
 refine con (E := env [(61, TInst), (57, TFailed), (58, TInside 0), (59, TIdx 60 T60)]) (ok_cons (c_inst hJ) (ok_cons (c_failed hJ) (ok_cons c_inside (ok_cons (c_idx hJ (c_e60 hJ) (by kernel_rfl)) ok_nil)))) hJ h1 h2 h3 h4 fun args out h => ?_
 obtain ⟨t, x, r, rfl, k0, k3, ht, hs, hS, hal, rfl⟩ := h
 refine ⟨rfl, by rw [Tryz.ntmps37]; simp, ?_⟩
 rw [case_of k0 k3]
 rw [tame_of] at ht
 obtain ⟨-, -, ts⟩ := ht
 have sd := size_of t
 have xm : x ∈ t.f3 := by rw [k3]; simp
 have xs := sizes_mem xm
 have tx := tames_mem ts xm
 rw [encT_is t]
 rw [split37]
 obtain ⟨M, hM⟩ : ∃ M, M = sndS (sndS c37) := ⟨_, rfl⟩
 rw [← hM]
 simp only [c37, fstS, sndS]
 refine go ?_
 simp only [get0 k3]
 refine go ?_
 subst hM
 simp only [c37, fstS, sndS]
 refine go ?_
 cases e2 : (x.f0 == 2) with
 | true =>
  have kk : x.f0 = 2 := by simpa using e2
  rw [if_pos (by omega)]
  refine go ?_
  refine call (T := TFailed) ⟨rfl, rfl⟩ ?_
  rw [failT_is]
  refine go ?_
  unfold stepOut
  rw [failT_is]
 | false =>
 have n2 : ¬ x.f0 = 2 := by simpa using e2
 refine go ?_
 cases e7 : (x.f0 == 7) with
 | true =>
  have kk : x.f0 = 7 := by simpa using e7
  rw [if_pos (by omega)]
  refine go ?_
  refine call (T := TFailed) ⟨rfl, rfl⟩ ?_
  rw [failT_is]
  refine go ?_
  unfold stepOut
  rw [failT_is]
 | false =>
 have n7 : ¬ x.f0 = 7 := by simpa using e7
 refine go ?_
 cases e9 : (x.f0 == 9) with
 | true =>
  have kk : x.f0 = 9 := by simpa using e9
  rw [if_pos (by omega)]
  refine go ?_
  refine call (T := TFailed) ⟨rfl, rfl⟩ ?_
  rw [failT_is]
  refine go ?_
  unfold stepOut
  rw [failT_is]
 | false =>
 have n9 : ¬ x.f0 = 9 := by simpa using e9
 refine go ?_
 rw [if_neg (show ¬ (x.f0 = 2 ∨ x.f0 = 7 ∨ x.f0 = 9) by omega)]
 cases e4 : (x.f0 == 4) with
 | true =>
  have kk : x.f0 = 4 := by simpa using e4
  rw [if_pos kk]
  refine go ?_
  have rl : r.length + 1 = t.f3.length := by rw [k3]; rfl
  have tl := len_sizes t.f3
  have ht' : Int.toNat 1 ≤ (encTs t.f3).length ∧ (encTs t.f3).length ≤ (encTs t.f3).length ∧ ((encTs t.f3).all fun c => c.length == 4) = true := ⟨by rw [encTs_len]; show 1 ≤ _; omega, Nat.le_refl _, encTs_all _⟩
  rw [if_pos ht', take_len, show List.drop (Int.toNat 1) (encTs t.f3) = encTs r by rw [k3]; rfl]
  refine go ?_
  refine ⟨_, ⟨[.s (.int .i64 x.f0), .s (.int .i64 x.f1), .s (.string x.f2), .row (encTs x.f3)], r, fits x, rfl, by omega, flat_t, fun y hy => ⟨y, x, by rw [encT_is x], by rw [encT_is x]⟩, rfl⟩, ?_⟩
  have hfi := find_fidx x r 0
  refine go ?_
  revert hfi
  cases hfd : find x.f2.data.toList (x.f3.length : Int) r with
  | none =>
   intro hfi
   dsimp only at hfi
   rw [hfi]
   refine go ?_
   refine call (T := TFailed) ⟨rfl, rfl⟩ ?_
   rw [failT_is]
   refine go ?_
   unfold stepOut
   rw [failT_is]
  | some y =>
   rintro ⟨i, hy, hfi⟩
   rw [hfi]
   simp only [show ¬ (((0 + i : Nat) : Int) < 0) by omega, decide_false]
   refine go ?_
   have ir : i < r.length := (List.getElem?_eq_some_iff.1 hy).1
   have ym : y ∈ r := List.mem_of_getElem? hy
   have ym' : y ∈ t.f3 := by rw [k3]; exact List.mem_cons_of_mem _ ym
   obtain ⟨q, r', hq⟩ := hal y ym
   have qm : q ∈ y.f3 := by rw [hq]; simp
   have ty := tames_mem ts ym'
   have ys := sizes_mem ym'
   have sy := size_of y
   have qs := sizes_mem qm
   have sx := size_of x
   have xl := len_sizes x.f3
   rw [tame_of] at ty tx
   have hy1 : t.f3[1 + i]? = some y := by rw [k3, Nat.add_comm]; exact hy
   rw [wr (by omega) (by omega), if_pos (by omega)]
   simp only [show (1 + (i : Int)).toNat = 1 + i by omega, eget hy1]
   refine go ?_
   simp only [get0 hq]
   refine go ?_
   refine call (T := TInst) ⟨q, x.f3, by rw [encT_is q], tames_mem ty.2.2 qm, by omega, by omega, fun z hz => ⟨tames_mem tx.2.2 hz, by have := sizes_mem hz; omega⟩, rfl⟩ ?_
   rw [show hd y.f3 = q by rw [hq]; rfl, encT_is (inst q x.f3)]
   refine go ?_
   unfold stepOut
   rw [encT_is (inst q x.f3)]
 | false =>
 have n4 : ¬ x.f0 = 4 := by simpa using e4
 rw [if_neg n4]
 refine go ?_
 refine call (T := TInside 0) ⟨t, 0, x, by rw [encT_is t]; rfl, by rw [k3]; rfl, hS, by omega, rfl⟩ ?_
 rw [encT_is (insideR t 0 x).1]
 refine go ?_
 unfold stepOut
 rw [encT_is (insideR t 0 x).1]
end Go.Proofs.YtnjmilelifmfpaaGreatDoor.Ev

namespace Go.Proofs.YtnjmilelifmfpaaGreatDoor.Ev
open Go Go.RowKit
open HCore (wt wts may same height heights size sizes)
open HSub (turn turns tame tames put inst failT num truth compute still find hstep stepApp stepCase stepOp stepOp2 hd)
set_option linter.unusedSimpArgs false
set_option linter.unusedVariables false
def bad (x : Tm) : Prop := x.f0 = 2 ∨ x.f0 = 4 ∨ x.f0 = 9
instance (x : Tm) : Decidable (bad x) := inferInstanceAs (Decidable (x.f0 = 2 ∨ x.f0 = 4 ∨ x.f0 = 9))
theorem op_of {t x y : Tm} (h0 : t.f0 = 8) (h3 : t.f3 = [x, y]) : hstep t = if bad x then ((failT, 4) : Tm × Int) else if x.f0 = 7 then (if bad y then (failT, 4) else if y.f0 = 7 then compute t.f2.data.toList x.f1 y.f1 else insideR t 1 y) else insideR t 0 x := by
 obtain ⟨k, m, s, l⟩ := t
 dsimp only at h0 h3
 subst h0 h3
 rw [hstep, if_neg (by decide), if_neg (by decide), if_pos rfl, stepOp, stepOp2]
 rfl
theorem hide2 {P : Program} {E : Env} {K : AEx → AS → Prop} {x y : ACode} {st : AS} (h : ∀ M, M = y → awp P E (.seq x M) K st) : awp P E (.seq x y) K st := h y rfl
theorem hideB {P : Program} {E : Env} {K : AEx → AS → Prop} {n : Nat} {x y z : ACode} {st : AS} (h : ∀ M, M = y → awp P E (.seq (.block n (.seq x M)) z) K st) : awp P E (.seq (.block n (.seq x y)) z) K st := h y rfl
abbrev TOperate : Spec := fun args out => ∃ (t x y : Tm), args = [.agg (encT t)] ∧ t.f0 = 8 ∧ t.f3 = [x, y] ∧ size t ≤ 1000000 ∧ Pure.Hd.StepC x ∧ Pure.Hd.StepC y ∧ out = stepOut (hstep t)
def opS (t : Tm) (i : Nat) : AS := ⟨tm [(9, .s (.int .i64 (i : Int))), (8, .s (.int .i64 ((encTs t.f3).length : Int))), (7, .row (encTs t.f3)), (1, .ptr 0 0), (2, .ptr 1 0)],
 bm [(0, some [.s (.int .i64 t.f0), .s (.int .i64 t.f1), .s (.string t.f2), .row (encTs t.f3)]), (1, some zC)], bm [], 2⟩
set_option maxHeartbeats 4000000 in
theorem c_operate {J : JW} (hJ : JOk J) : Con Tryz.prog J 38 TOperate := by
 obtain ⟨code, h1, h2, h3, h4⟩ := k38
 refine con (E := env [(57, TFailed), (62, TCompute), (58, TInside 0)]) (ok_cons (c_failed hJ) (ok_cons (c_compute hJ) (ok_cons c_inside ok_nil))) hJ h1 h2 h3 h4 fun args out h => ?_
 obtain ⟨t, x, y, rfl, k0, k3, hs, hS, hS', rfl⟩ := h
 refine ⟨rfl, by rw [Tryz.ntmps38]; simp, ?_⟩
 rw [op_of k0 k3]
 rw [encT_is t]
 unfold c38
 refine go ?_
 refine countI t.f3.length (fun i (_ : Unit) => ∀ (j : Nat) (z : Tm), j < i → t.f3[j]? = some z → z.f0 = 7) (fun i _ => opS t i) () (fun j z h _ => absurd h (Nat.not_lt_zero j)) (lm [(0, 0), (1, 1)] (hB := by simp [bsub, onto, bm, subs, subC, zC])) fun i _ hi hI => ?_
 unfold opS
 refine hide2 fun M hM => ?_
 refine go ?_
 subst hM
 by_cases p : (i : Int) < (encTs t.f3).length
 ·simp only [p, decide_true]
  obtain ⟨z, hz, hzm, hl'⟩ := part p
  refine hide2 fun M hM => ?_
  refine go ?_
  subst hM
  refine hideB fun M hM => ?_
  refine go ?_
  simp only [eget hz]
  refine go ?_
  subst hM
  have hzi : (bad z → hstep t = ((failT, 4) : Tm × Int)) ∧ (¬ bad z → z.f0 ≠ 7 → hstep t = insideR t i z) ∧ Pure.Hd.StepC z := by
   rw [op_of k0 k3]
   rw [k3] at hz hl'
   match i, hz, hl', hI with
   | 0, hz, _, _ =>
    have e : x = z := by simpa using hz
    subst e
    exact ⟨fun h => if_pos h, fun h h7 => by rw [if_neg h, if_neg h7], hS⟩
   | 1, hz, _, hI =>
    have e : y = z := by simpa using hz
    subst e
    have kx : x.f0 = 7 := hI 0 x (by omega) (by rw [k3]; rfl)
    have nx : ¬ bad x := fun h => by unfold bad at h; omega
    exact ⟨fun h => by rw [if_neg nx, if_pos kx, if_pos h], fun h h7 => by rw [if_neg nx, if_pos kx, if_neg h, if_neg h7], hS'⟩
   | j + 2, _, hl', _ => simp at hl'; omega
  obtain ⟨z1, z2, z3⟩ := hzi
  have hil : i < 1000000 := by have := size_of t; have := len_sizes t.f3; omega
  rw [← op_of k0 k3]
  refine go ?_
  cases e2 : (z.f0 == 2) with
  | true =>
   have kk : z.f0 = 2 := by simpa using e2
   rw [z1 (.inl kk)]
   refine go ?_
   refine call (T := TFailed) ⟨rfl, rfl⟩ ?_
   rw [failT_is]
   refine go ?_
   unfold stepOut
   rw [failT_is]
  | false =>
  have n2 : ¬ z.f0 = 2 := by simpa using e2
  refine go ?_
  cases e4 : (z.f0 == 4) with
  | true =>
   have kk : z.f0 = 4 := by simpa using e4
   rw [z1 (.inr (.inl kk))]
   refine go ?_
   refine call (T := TFailed) ⟨rfl, rfl⟩ ?_
   rw [failT_is]
   refine go ?_
   unfold stepOut
   rw [failT_is]
  | false =>
  have n4 : ¬ z.f0 = 4 := by simpa using e4
  refine go ?_
  cases e9 : (z.f0 == 9) with
  | true =>
   have kk : z.f0 = 9 := by simpa using e9
   rw [z1 (.inr (.inr kk))]
   refine go ?_
   refine call (T := TFailed) ⟨rfl, rfl⟩ ?_
   rw [failT_is]
   refine go ?_
   unfold stepOut
   rw [failT_is]
  | false =>
  have n9 : ¬ z.f0 = 9 := by simpa using e9
  have nb : ¬ bad z := fun h => by unfold bad at h; omega
  refine go ?_
  cases e7 : (z.f0 == 7) with
  | true =>
   have kk : z.f0 = 7 := by simpa using e7
   refine go ?_
   rw [wr (by omega) (by omega)]
   refine ⟨hl', (), fun j u hj hu => ?_, lm [(0, 0), (1, 1)] (hB := by simp [bsub, onto, bm, subs, subC, zC])⟩
   by_cases hji : j < i
   ·exact hI j u hji hu
   ·have : j = i := by omega
    subst this
    rw [hz] at hu; cases hu; exact kk
  | false =>
  have n7 : ¬ z.f0 = 7 := by simpa using e7
  rw [z2 nb n7]
  refine go ?_
  refine call (T := TInside 0) ⟨t, i, z, by rw [encT_is t], hz, z3, by omega, rfl⟩ ?_
  rw [encT_is (insideR t i z).1]
  refine go ?_
  unfold stepOut
  rw [encT_is (insideR t i z).1]
 ·simp only [p, decide_false]
  have := fin_at hi p
  subst this
  have kx : x.f0 = 7 := hI 0 x (by rw [k3]; simp) (by rw [k3]; rfl)
  have ky : y.f0 = 7 := hI 1 y (by rw [k3]; simp) (by rw [k3]; rfl)
  have nb : ∀ w : Tm, w.f0 = 7 → ¬ bad w := fun w h => by unfold bad; omega
  rw [if_neg (nb x kx), if_pos kx, if_neg (nb y ky), if_pos ky]
  refine hide2 fun M hM => ?_
  refine go ?_
  simp only [get0 k3, get1 k3]
  refine go ?_
  refine call (T := TCompute) ⟨t.f2, x.f1, y.f1, rfl, rfl⟩ ?_
  subst hM
  rw [encT_is (compute t.f2.data.toList x.f1 y.f1).1]
  refine go ?_
  unfold stepOut
  rw [encT_is (compute t.f2.data.toList x.f1 y.f1).1]
end Go.Proofs.YtnjmilelifmfpaaGreatDoor.Ev

namespace Go.Proofs.YtnjmilelifmfpaaGreatDoor.Ev
open Go Go.RowKit
open HCore (wt wts may same height heights size sizes)
open HSub (turn turns tame tames more bump upV putV instV up put inst)
set_option linter.unusedSimpArgs false
set_option linter.unusedVariables false
abbrev TMore8 : Spec := fun args out => ∃ x : Tm, args = [.agg (encT x)] ∧ out = .ret (.s (.int .i64 (more x.f0 x.f1)))
theorem c_more8 {J : JW} (hJ : JOk J) : Con Tryz.prog J 95 TMore8 := by
 obtain ⟨code, h1, h2, h3, h4⟩ := k95
 refine con ok_nil hJ h1 h2 h3 h4 fun args out h => ?_
 obtain ⟨x, rfl, rfl⟩ := h
 refine ⟨rfl, by rw [Tryz.ntmps95]; simp, ?_⟩
 rw [encT_is x]
 unfold c95 more
 refine go ?_
 cases e2 : (x.f0 == 2) with
 | true =>
  have kk : x.f0 = 2 := by simpa using e2
  rw [if_pos kk]
  refine go ?_
  trivial
 | false =>
 have n2 : ¬ x.f0 = 2 := by simpa using e2
 rw [if_neg n2]
 refine go ?_
 cases e6 : (x.f0 == 6) with
 | true =>
  have kk : x.f0 = 6 := by simpa using e6
  rw [if_pos kk]
  refine go ?_
  trivial
 | false =>
 have n6 : ¬ x.f0 = 6 := by simpa using e6
 rw [if_neg n6]
 refine go ?_
 trivial
theorem turns_next {f : Tm → Int → Tm} {q : Int} {l : List Tm} {i : Nat} {y : Tm} (hy : l[i]? = some y) : encTs (turns f (l.take i) q) ++ [encT (turn f y q)] = encTs (turns f (l.take (i + 1)) q) := by
 obtain ⟨hi, rfl⟩ := List.getElem?_eq_some_iff.1 hy
 rw [List.take_succ_eq_append_getElem hi, turns_map, turns_map, encTs_map, encTs_map, List.map_append, List.map_append]
 rfl
theorem turns_len {f : Tm → Int → Tm} {q : Int} {l : List Tm} {i : Nat} (hi : i ≤ l.length) : (encTs (turns f (l.take i) q)).length = i := rowS_len hi
theorem more_le {x : Tm} (h : x.f0 = 6 → 0 ≤ x.f1 ∧ x.f1 ≤ 8) : 0 ≤ more x.f0 x.f1 ∧ more x.f0 x.f1 ≤ 8 := by
 unfold more
 by_cases e2 : x.f0 = 2
 ·rw [if_pos e2]; omega
 ·rw [if_neg e2]
  by_cases e6 : x.f0 = 6
  ·rw [if_pos e6]; have := h e6; omega
  ·rw [if_neg e6]; omega
def upS8 (x : Tm) (m q q' : Int) (i : Nat) : AS := ⟨tm [(8, .s (.int .i64 (i : Int))), (1, .s (.int .i64 m)), (2, .s (.int .i64 q)), (3, .ptr 0 0), (6, .ptr 1 0), (7, .ptr 2 0)],
 bm [(0, some (cX x)), (1, some zC), (2, some [.s (.int .i64 x.f0), .s (.int .i64 x.f1), .s (.string x.f2), .ref 3])], bm [(3, some ⟨24, 4, encTs (turns (upV m 0) (x.f3.take i) q'), true⟩)], 4⟩
abbrev TUp8 (n : Nat) : Spec := fun args out => ∃ (x : Tm) (m q : Int), args = [.agg (encT x), .s (.int .i64 m), .s (.int .i64 q)] ∧ height x < n ∧ tame x ∧ size x ≤ 1000000000 ∧ 0 ≤ m ∧ m ≤ 4000000000000000000 ∧ 0 ≤ q ∧ q + 9 * (height x : Int) ≤ 90000000000 ∧ out = .ret (.agg (encT (turn (upV m 0) x q)))
set_option maxHeartbeats 4000000 in
set_option maxRecDepth 100000 in
theorem c_up8 {J : JW} (hJ : JOk J) (n : Nat) : Con Tryz.prog J 94 (TUp8 n) := by
 induction n with
 | zero => rintro args out ⟨x, m, q, rfl, h, _⟩; exact absurd h (Nat.not_lt_zero _)
 | succ n ih =>
 obtain ⟨code, h1, h2, h3, h4⟩ := k94
 refine con (E := env [(95, TMore8), (94, TUp8 n)]) (ok_cons (c_more8 hJ) (ok_cons ih ok_nil)) hJ h1 h2 h3 h4 fun args out h => ?_
 obtain ⟨x, m, q, rfl, hh, ht, hs, hm0, hm1, hq0, hq1, rfl⟩ := h
 refine ⟨rfl, by rw [Tryz.ntmps94]; simp, ?_⟩
 rw [tame_of] at ht
 obtain ⟨t1, t6, ts⟩ := ht
 rw [encT_is x, turn_of]
 unfold c94
 refine hide2 fun M hM => ?_
 refine go ?_
 subst hM
 refine hide2 fun M hM => ?_
 refine go ?_
 cases k1 : (x.f0 == 1) with
 | true =>
  have kk : x.f0 = 1 := by simpa using k1
  have := t1 kk
  rw [if_pos kk]
  refine go ?_
  unfold upV
  by_cases p : x.f1 ≥ q
  ·rw [if_pos (by omega)]
   simp only [p, decide_true]
   refine go ?_
   rw [wr (by omega) (by omega), encT_is (bump x m)]
   rfl
  ·rw [if_neg (by omega)]
   simp only [p, decide_false]
   refine go ?_
   rw [encT_is x]
 | false =>
 have n1 : ¬ x.f0 = 1 := by simpa using k1
 rw [if_neg n1]
 have hd : height x = heights x.f3 + 1 := height_of x
 have sd : size x = sizes x.f3 + 1 := size_of x
 have sl := len_sizes x.f3
 have hmr := more_le t6
 obtain ⟨q', hq'⟩ : ∃ q', q' = q + more x.f0 x.f1 := ⟨_, rfl⟩
 rw [← hq']
 refine go ?_
 subst hM
 refine hide2 fun M hM => ?_
 refine go ?_
 subst hM
 refine hide2 fun M hM => ?_
 refine go ?_
 refine count x.f3.length (fun i => upS8 x m q q' i) (lm [(0, 0), (1, 1), (2, 12)] (hB := by simp [bsub, onto, bm, subs, subC, zC]) (hG := by simp [gsub, onto, bm, turns, encTs])) fun i hi => ?_
 unfold upS8
 refine hide2 fun N hN => ?_
 refine go ?_
 by_cases p : (i : Int) < (encTs x.f3).length
 ·simp only [p, decide_true]
  obtain ⟨y, hy, hmm, hl'⟩ := part p
  have yh := height_mem hmm
  have ys := sizes_mem hmm
  refine go ?_
  subst hN
  refine go ?_
  simp only [eget hy]
  refine go ?_
  refine call (T := TMore8) ⟨x, by rw [encT_is x], rfl⟩ ?_
  refine go ?_
  rw [wr (by omega) (by omega), ← hq']
  refine call (T := TUp8 n) ⟨y, m, q', by rw [encT_is y], by omega, tames_mem ts hmm, by omega, hm0, hm1, by omega, by omega, rfl⟩ ?_
  rw [encT_is (turn (upV m 0) y q')]
  refine go ?_
  have e := turns_next (f := upV m 0) (q := q') hy
  rw [encT_is (turn (upV m 0) y q')] at e
  rw [turns_len (by omega), nxt (by omega)]
  refine ⟨⟨by omega, by omega⟩, hl', ?_⟩
  simp only [e]
  exact lm [(0, 0), (1, 1), (2, 2), (3, 23)] (hB := by simp [bsub, onto, bm, subs, subC, zC])
 ·simp only [p, decide_false]
  have := fin_at hi p
  subst this
  subst hN
  refine go ?_
  subst hM
  refine go ?_
  rw [encT_is, take_len]
abbrev TUp8a : Spec := fun args out => ∃ (x : Tm) (m : Int), args = [.agg (encT x), .s (.int .i64 m), .s (.int .i64 0)] ∧ tame x ∧ size x ≤ 1000000000 ∧ 0 ≤ m ∧ m ≤ 4000000000000000000 ∧ out = .ret (.agg (encT (up x m 0)))
theorem c_up8a {J : JW} (hJ : JOk J) : Con Tryz.prog J 94 TUp8a := by
 rintro args out ⟨x, m, rfl, ht, hs, h0, h1, rfl⟩
 have := height_le_size x
 exact c_up8 hJ (height x + 1) _ _ ⟨x, m, 0, rfl, by omega, ht, hs, h0, h1, by omega, by omega, rfl⟩
def putS8 (x s : Tm) (k b q' : Int) (i : Nat) : AS := ⟨tm [(10, .s (.int .i64 (i : Int))), (1, .s (.int .i64 k)), (3, .s (.int .i64 b)), (4, .ptr 0 0), (6, .ptr 1 0), (8, .ptr 2 0), (9, .ptr 3 0)],
 bm [(0, some (cX x)), (1, some (cX s)), (2, some zC), (3, some [.s (.int .i64 x.f0), .s (.int .i64 x.f1), .s (.string x.f2), .ref 4])], bm [(4, some ⟨24, 4, encTs (turns (putV k s) (x.f3.take i) q'), true⟩)], 5⟩
abbrev TPut8 (n : Nat) : Spec := fun args out => ∃ (x s : Tm) (k q : Int), args = [.agg (encT x), .s (.int .i64 k), .agg (encT s), .s (.int .i64 q)] ∧ height x < n ∧ tame x ∧ size x ≤ 1000000000 ∧ 0 ≤ k ∧ k ≤ 1000000000000000000 ∧ tame s ∧ size s ≤ 1000000000 ∧ 0 ≤ q ∧ q + 9 * (height x : Int) ≤ 90000000000 ∧ out = .ret (.agg (encT (turn (putV k s) x q)))
set_option maxHeartbeats 4000000 in
set_option maxRecDepth 100000 in
theorem c_put8 {J : JW} (hJ : JOk J) (n : Nat) : Con Tryz.prog J 64 (TPut8 n) := by
 induction n with
 | zero => rintro args out ⟨x, s, k, q, rfl, h, _⟩; exact absurd h (Nat.not_lt_zero _)
 | succ n ih =>
 obtain ⟨code, h1, h2, h3, h4⟩ := k64
 refine con (E := env [(95, TMore8), (64, TPut8 n), (94, TUp8a)]) (ok_cons (c_more8 hJ) (ok_cons ih (ok_cons (c_up8a hJ) ok_nil))) hJ h1 h2 h3 h4 fun args out h => ?_
 obtain ⟨x, s, k, q, rfl, hh, ht, hs, hk0, hk1, ht', hs', hq0, hq1, rfl⟩ := h
 refine ⟨rfl, by rw [Tryz.ntmps64]; simp, ?_⟩
 rw [tame_of] at ht
 obtain ⟨t1, t6, ts⟩ := ht
 rw [encT_is x, encT_is s, turn_of]
 unfold c64
 refine hide2 fun M hM => ?_
 refine go ?_
 subst hM
 refine hide2 fun M hM => ?_
 refine go ?_
 cases k1 : (x.f0 == 1) with
 | true =>
  have kk : x.f0 = 1 := by simpa using k1
  have := t1 kk
  rw [if_pos kk]
  refine go ?_
  rw [wr (show -9223372036854775808 ≤ k + q by omega) (by omega)]
  unfold putV
  cases e1 : (x.f1 == k + q) with
  | true =>
   rw [if_pos (by simpa using e1)]
   refine go ?_
   refine call (T := TUp8a) ⟨s, q, by rw [encT_is s], ht', hs', hq0, by omega, rfl⟩ ?_
   rw [encT_is (up s q 0)]
   refine go ?_
   trivial
  | false =>
  have n1 : ¬ x.f1 = k + q := by simpa using e1
  rw [if_neg n1]
  refine go ?_
  refine ⟨fun h => ?_, fun h => ?_⟩
  ·rw [if_pos (show k + q < x.f1 by omega), wr (by omega) (by omega), encT_is (bump x (-1))]; rfl
  ·rw [if_neg (show ¬ k + q < x.f1 by omega), encT_is x]
 | false =>
 have n1 : ¬ x.f0 = 1 := by simpa using k1
 rw [if_neg n1]
 have hd : height x = heights x.f3 + 1 := height_of x
 have sd : size x = sizes x.f3 + 1 := size_of x
 have sl := len_sizes x.f3
 have hmr := more_le t6
 obtain ⟨q', hq'⟩ : ∃ q', q' = q + more x.f0 x.f1 := ⟨_, rfl⟩
 rw [← hq']
 refine go ?_
 subst hM
 refine hide2 fun M hM => ?_
 refine go ?_
 subst hM
 refine hide2 fun M hM => ?_
 refine go ?_
 refine count x.f3.length (fun i => putS8 x s k q q' i) (lm [(0, 0), (1, 1), (2, 2), (3, 13)] (hB := by simp [bsub, onto, bm, subs, subC, zC]) (hG := by simp [gsub, onto, bm, turns, encTs])) fun i hi => ?_
 unfold putS8
 refine hide2 fun N hN => ?_
 refine go ?_
 by_cases p : (i : Int) < (encTs x.f3).length
 ·simp only [p, decide_true]
  obtain ⟨y, hy, hmm, hl'⟩ := part p
  have yh := height_mem hmm
  have ys := sizes_mem hmm
  refine go ?_
  subst hN
  refine go ?_
  simp only [eget hy]
  refine go ?_
  refine call (T := TMore8) ⟨x, by rw [encT_is x], rfl⟩ ?_
  refine go ?_
  rw [wr (by omega) (by omega), ← hq']
  refine call (T := TPut8 n) ⟨y, s, k, q', by rw [encT_is y, encT_is s], by omega, tames_mem ts hmm, by omega, hk0, hk1, ht', hs', by omega, by omega, rfl⟩ ?_
  rw [encT_is (turn (putV k s) y q')]
  refine go ?_
  have e := turns_next (f := putV k s) (q := q') hy
  rw [encT_is (turn (putV k s) y q')] at e
  rw [turns_len (by omega), nxt (by omega)]
  refine ⟨⟨by omega, by omega⟩, hl', ?_⟩
  simp only [e]
  exact lm [(0, 0), (1, 1), (2, 2), (3, 3), (4, 25)] (hB := by simp [bsub, onto, bm, subs, subC, zC])
 ·simp only [p, decide_false]
  have := fin_at hi p
  subst this
  subst hN
  refine go ?_
  subst hM
  refine go ?_
  rw [encT_is, take_len]
def instS8 (x : Tm) (l : List Tm) (b q' : Int) (i : Nat) : AS := ⟨tm [(8, .s (.int .i64 (i : Int))), (1, .row (encTs l)), (2, .s (.int .i64 b)), (3, .ptr 0 0), (6, .ptr 1 0), (7, .ptr 2 0)],
 bm [(0, some (cX x)), (1, some zC), (2, some [.s (.int .i64 x.f0), .s (.int .i64 x.f1), .s (.string x.f2), .ref 3])], bm [(3, some ⟨24, 4, encTs (turns (instV l) (x.f3.take i) q'), true⟩)], 4⟩
abbrev TInst8 (n : Nat) : Spec := fun args out => ∃ (x : Tm) (l : List Tm) (q : Int), args = [.agg (encT x), .row (encTs l), .s (.int .i64 q)] ∧ height x < n ∧ tame x ∧ size x ≤ 1000000000 ∧ l.length ≤ 1000000000 ∧ (∀ y ∈ l, tame y ∧ size y ≤ 1000000000) ∧ 0 ≤ q ∧ q + 9 * (height x : Int) ≤ 90000000000 ∧ out = .ret (.agg (encT (turn (instV l) x q)))
set_option maxHeartbeats 4000000 in
set_option maxRecDepth 100000 in
theorem c_inst8 {J : JW} (hJ : JOk J) (n : Nat) : Con Tryz.prog J 93 (TInst8 n) := by
 induction n with
 | zero => rintro args out ⟨x, l, q, rfl, h, _⟩; exact absurd h (Nat.not_lt_zero _)
 | succ n ih =>
 obtain ⟨code, h1, h2, h3, h4⟩ := k93
 refine con (E := env [(95, TMore8), (93, TInst8 n), (94, TUp8a)]) (ok_cons (c_more8 hJ) (ok_cons ih (ok_cons (c_up8a hJ) ok_nil))) hJ h1 h2 h3 h4 fun args out h => ?_
 obtain ⟨x, l, q, rfl, hh, ht, hs, hll, hl, hq0, hq1, rfl⟩ := h
 refine ⟨rfl, by rw [Tryz.ntmps93]; simp, ?_⟩
 rw [tame_of] at ht
 obtain ⟨t1, t6, ts⟩ := ht
 rw [encT_is x, turn_of]
 unfold c93
 refine hide2 fun M hM => ?_
 refine go ?_
 subst hM
 refine hide2 fun M hM => ?_
 refine go ?_
 have el := encTs_len l
 cases k1 : (x.f0 == 1) with
 | true =>
  have kk : x.f0 = 1 := by simpa using k1
  have := t1 kk
  rw [if_pos kk]
  refine go ?_
  unfold instV
  by_cases p : x.f1 < q
  ·rw [if_pos (show x.f1 - q < 0 by omega)]
   simp only [p, decide_true]
   refine go ?_
   rw [encT_is x]
  rw [if_neg (show ¬ x.f1 - q < 0 by omega)]
  simp only [p, decide_false]
  refine go ?_
  rw [wr (show -9223372036854775808 ≤ q + ((encTs l).length : Int) by omega) (by omega)]
  by_cases p2 : x.f1 < q + ((encTs l).length : Int)
  ·rw [if_pos (show x.f1 - q < (l.length : Int) by omega)]
   simp only [p2, decide_true]
   obtain ⟨j, hj⟩ : ∃ j : Nat, l.length - 1 - (x.f1 - q).toNat = j := ⟨_, rfl⟩
   have hjl : j < l.length := by omega
   obtain ⟨y, hy⟩ : ∃ y, l[j]? = some y := ⟨l[j], by simp [hjl]⟩
   have ym := List.mem_of_getElem? hy
   refine go ?_
   have e1 : IntKind.i64.wrap (IntKind.i64.wrap (((encTs l).length : Int) - 1) - IntKind.i64.wrap (x.f1 - q)) = (j : Int) := by
    rw [wr (show -9223372036854775808 ≤ ((encTs l).length : Int) - 1 by omega) (by omega), wr (show -9223372036854775808 ≤ x.f1 - q by omega) (by omega), wr (by omega) (by omega)]; omega
   simp only [e1]
   refine go ?_
   simp only [eget hy]
   refine go ?_
   refine call (T := TUp8a) ⟨y, q, by rw [encT_is y], (hl y ym).1, (hl y ym).2, hq0, by omega, rfl⟩ ?_
   rw [encT_is (up y q 0), hj, List.getD_eq_getElem?_getD, hy]
   refine go ?_
   rw [← encT_is]; rfl
  ·rw [if_neg (show ¬ x.f1 - q < (l.length : Int) by omega)]
   simp only [p2, decide_false]
   refine go ?_
   rw [wr (by omega) (by omega), encT_is (bump x (-(l.length : Int))), el]
   rfl
 | false =>
 have n1 : ¬ x.f0 = 1 := by simpa using k1
 rw [if_neg n1]
 have hd : height x = heights x.f3 + 1 := height_of x
 have sd : size x = sizes x.f3 + 1 := size_of x
 have sl := len_sizes x.f3
 have hmr := more_le t6
 obtain ⟨q', hq'⟩ : ∃ q', q' = q + more x.f0 x.f1 := ⟨_, rfl⟩
 rw [← hq']
 refine go ?_
 subst hM
 refine hide2 fun M hM => ?_
 refine go ?_
 subst hM
 refine hide2 fun M hM => ?_
 refine go ?_
 refine count x.f3.length (fun i => instS8 x l q q' i) (lm [(0, 0), (1, 1), (2, 12)] (hB := by simp [bsub, onto, bm, subs, subC, zC]) (hG := by simp [gsub, onto, bm, turns, encTs])) fun i hi => ?_
 unfold instS8
 refine hide2 fun N hN => ?_
 refine go ?_
 by_cases p : (i : Int) < (encTs x.f3).length
 ·simp only [p, decide_true]
  obtain ⟨y, hy, hmm, hl'⟩ := part p
  have yh := height_mem hmm
  have ys := sizes_mem hmm
  refine go ?_
  subst hN
  refine go ?_
  simp only [eget hy]
  refine go ?_
  refine call (T := TMore8) ⟨x, by rw [encT_is x], rfl⟩ ?_
  refine go ?_
  rw [wr (by omega) (by omega), ← hq']
  refine call (T := TInst8 n) ⟨y, l, q', by rw [encT_is y], by omega, tames_mem ts hmm, by omega, hll, hl, by omega, by omega, rfl⟩ ?_
  rw [encT_is (turn (instV l) y q')]
  refine go ?_
  have e := turns_next (f := instV l) (q := q') hy
  rw [encT_is (turn (instV l) y q')] at e
  rw [turns_len (by omega), nxt (by omega)]
  refine ⟨⟨by omega, by omega⟩, hl', ?_⟩
  simp only [e]
  exact lm [(0, 0), (1, 1), (2, 2), (3, 23)] (hB := by simp [bsub, onto, bm, subs, subC, zC])
 ·simp only [p, decide_false]
  have := fin_at hi p
  subst this
  subst hN
  refine go ?_
  subst hM
  refine go ?_
  rw [encT_is, take_len]
theorem c_Put8 {J : JW} (hJ : JOk J) : Con Tryz.prog J 42 TPut := by
 obtain ⟨code, h1, h2, h3, h4⟩ := k42
 intro args out ho
 obtain ⟨x, k, s, rfl, ht, hs, hk0, hk1, ht', hs', rfl⟩ := ho
 have hh := height_le_size x
 refine con (T := fun args out => args = [.agg (encT x), .s (.int .i64 k), .agg (encT s)] ∧ out = .ret (.agg (encT (put x k s)))) (ok_cons (c_put8 hJ (height x + 1)) ok_nil) hJ h1 h2 h3 h4 (fun args out h => ?_) rfl (by kernel_rfl) _ _ ⟨rfl, rfl⟩
 obtain ⟨rfl, rfl⟩ := h
 refine ⟨rfl, by rw [Tryz.ntmps42]; simp, ?_⟩
 rw [encT_is x, encT_is s]
 unfold c42
 refine go ?_
 refine call (T := TPut8 _) ⟨x, s, k, 0, by rw [encT_is x, encT_is s], by omega, ht, hs, hk0, hk1, ht', hs', by omega, by omega, rfl⟩ ?_
 rw [show turn (putV k s) x 0 = put x k s from rfl, encT_is (put x k s)]
 refine go ?_
 trivial
theorem c_Inst8 {J : JW} (hJ : JOk J) : Con Tryz.prog J 63 TInst := by
 obtain ⟨code, h1, h2, h3, h4⟩ := k63
 intro args out ho
 obtain ⟨x, l, rfl, ht, hs, hll, hl, rfl⟩ := ho
 have hh := height_le_size x
 refine con (T := fun args out => args = [.agg (encT x), .row (encTs l)] ∧ out = .ret (.agg (encT (inst x l)))) (ok_cons (c_inst8 hJ (height x + 1)) ok_nil) hJ h1 h2 h3 h4 (fun args out h => ?_) rfl (by kernel_rfl) _ _ ⟨rfl, rfl⟩
 obtain ⟨rfl, rfl⟩ := h
 refine ⟨rfl, by rw [Tryz.ntmps63]; simp, ?_⟩
 rw [encT_is x]
 unfold c63
 refine go ?_
 refine call (T := TInst8 _) ⟨x, l, 0, by rw [encT_is x], by omega, ht, hs, hll, hl, by omega, by omega, rfl⟩ ?_
 rw [show turn (instV l) x 0 = inst x l from rfl, encT_is (inst x l)]
 refine go ?_
 trivial
end Go.Proofs.YtnjmilelifmfpaaGreatDoor.Ev

namespace Go.Proofs.YtnjmilelifmfpaaGreatDoor.Ev
open Go Go.RowKit
open HCore (wt wts may same height heights size sizes)
set_option linter.unusedSimpArgs false
set_option linter.unusedVariables false
def fewS (x : Tm) (deep acc : Int) (i : Nat) : AS := ⟨tm [(7, .s (.int .i64 i)), (1, .s (.int .i64 acc)), (2, .s (.int .i64 deep)), (3, .ptr 0 0)], bm [(0, some (cX x))], bm [], 1⟩
mutual
def few : Tm → Int → Int → Int
 | ⟨k, n, s, l⟩, left, deep => if left < 1 ∨ deep < 1 then -1 else fews l (left - 1) (deep - 1)
def fews : List Tm → Int → Int → Int
 | [], left, _ => left
 | x :: r, left, deep => if few x left deep < 0 then -1 else fews r (few x left deep) deep
end
theorem few_of (x : Tm) (left deep : Int) : few x left deep = if left < 1 ∨ deep < 1 then -1 else fews x.f3 (left - 1) (deep - 1) := by cases x; rw [few]
mutual
theorem few_is : ∀ (x : Tm) (left deep : Int), -1 ≤ few x left deep ∧ (few x left deep ≤ left ∨ few x left deep = -1) ∧ (0 ≤ few x left deep → few x left deep + size x = left ∧ (height x : Int) ≤ deep)
 | ⟨k, n, s, l⟩, left, deep => by
  rw [few]
  split
  ·exact ⟨by omega, by omega, by omega⟩
  ·have := fews_is l (left - 1) (deep - 1) (by omega)
   refine ⟨this.1, by omega, fun h => ?_⟩
   have h2 := this.2.2 h
   simp only [size, height]
   omega
theorem fews_is : ∀ (l : List Tm) (left deep : Int), 0 ≤ left → -1 ≤ fews l left deep ∧ (fews l left deep ≤ left) ∧ (0 ≤ fews l left deep → fews l left deep + sizes l = left ∧ (heights l = 0 ∨ (heights l : Int) ≤ deep))
 | [], left, deep, h => by rw [fews]; exact ⟨by omega, by omega, fun _ => ⟨by simp [sizes], .inl rfl⟩⟩
 | x :: r, left, deep, h => by
  have h1 := few_is x left deep
  rw [fews]
  split
  ·exact ⟨by omega, by omega, by omega⟩
  ·have h2 := fews_is r (few x left deep) deep (by omega)
   refine ⟨h2.1, by omega, fun q => ?_⟩
   have h3 := h2.2.2 q
   have h4 := h1.2.2 (by omega)
   simp only [sizes, heights]
   omega
end
theorem fews_drop {l : List Tm} {i : Nat} {y : Tm} (h : l[i]? = some y) (left deep : Int) : fews (l.drop i) left deep = if few y left deep < 0 then -1 else fews (l.drop (i + 1)) (few y left deep) deep := by
 have h' := (List.getElem?_eq_some_iff.1 h)
 rw [List.drop_eq_getElem_cons h'.1, h'.2, fews]
abbrev TFew (n : Nat) : Spec := fun args out => ∃ (x : Tm) (left deep : Int), args = [.agg (encT x), .s (.int .i64 left), .s (.int .i64 deep)] ∧ height x < n ∧ size x ≤ 1000000000 ∧ -1000000 ≤ left ∧ left ≤ 1000000 ∧ -1000000 ≤ deep ∧ deep ≤ 1000000 ∧ out = .ret (.s (.int .i64 (few x left deep)))
theorem c_few {J : JW} (hJ : JOk J) : ∀ n, Con Tryz.prog J 18 (TFew n)
 | 0 => fun args out ⟨x, _, _, _, h, _⟩ => by omega
 | n + 1 => by
  obtain ⟨code, h1, h2, h3, h4⟩ := k18
  refine con (ok_cons (c_few hJ n) ok_nil) hJ h1 h2 h3 h4 fun args out h => ?_
  obtain ⟨x, left, deep, rfl, hn, hw, l0, l1, d0, d1, rfl⟩ := h
  refine ⟨rfl, by rw [Tryz.ntmps18]; simp, ?_⟩
  have s4 := size_of x
  have s2 := height_of x
  have s5 := len_sizes x.f3
  rw [encT_is, few_of]
  unfold c18
  refine go ?_
  by_cases q1 : left < 1
  ·rw [if_pos (.inl q1)]; simp only [q1, decide_true]; refine go ?_; exact trivial
  by_cases q2 : deep < 1
  ·rw [if_pos (.inr q2)]; simp only [q1, decide_false]; refine go ?_; simp only [q2, decide_true]; refine go ?_; exact trivial
  rw [if_neg (by omega)]
  simp only [q1, decide_false]
  refine go ?_
  simp only [q2, decide_false]
  refine go ?_
  rw [wr (by omega) (by omega)]
  refine countI x.f3.length (fun i acc => 0 ≤ acc ∧ acc ≤ 1000000 ∧ fews (x.f3.drop i) acc (deep - 1) = fews x.f3 (left - 1) (deep - 1)) (fun i acc => fewS x deep acc i) (left - 1) ⟨by omega, by omega, rfl⟩ (lm [(0, 0)]) fun i acc hi hI => ?_
  obtain ⟨a0, a1, a2⟩ := hI
  unfold fewS
  refine go ?_
  by_cases q : (i : Int) < (encTs x.f3).length
  ·simp only [q, decide_true]
   obtain ⟨y, hy, hm, hl⟩ := part q
   have s1 := height_mem hm
   have s3 := sizes_mem hm
   have f := few_is y acc (deep - 1)
   rw [fews_drop hy] at a2
   simp only [eget hy]
   refine go ?_
   refine ⟨false, _, ⟨y, acc, deep - 1, by rw [encT_is, wr (by omega) (by omega)], by omega, by omega, by omega, by omega, by omega, by omega, rfl⟩, ?_⟩
   refine go ?_
   by_cases q3 : few y acc (deep - 1) < 0
   ·simp only [q3, decide_true]
    rw [if_pos q3] at a2
    refine go ?_
    rw [a2]
   ·simp only [q3, decide_false]
    rw [if_neg q3] at a2
    refine go ?_
    rw [nxt (by omega)]
    exact ⟨hl, few y acc (deep - 1), ⟨by omega, by omega, a2⟩, lm [(0, 0)]⟩
  ·simp only [q, decide_false]
   have := fin_at hi q
   subst this
   rw [List.drop_length, fews] at a2
   refine go ?_
   rw [a2]
abbrev TSmall : Spec := fun args out => ∃ (x : Tm) (most : Int), args = [.agg (encT x), .s (.int .i64 most)] ∧ size x ≤ 1000000000 ∧ 0 ≤ most ∧ most ≤ 1000000 ∧ out = .ret (.s (.bool (decide (0 ≤ few x most 600))))
theorem small_ge {x : Tm} {most : Int} (h : 0 ≤ few x most 600) : (size x : Int) ≤ most ∧ height x ≤ 600 := by
 have := few_is x most 600
 omega
theorem c_small {J : JW} (hJ : JOk J) : Con Tryz.prog J 9 TSmall := by
 obtain ⟨code, h1, h2, h3, h4⟩ := k9
 intro args out ho
 obtain ⟨x, most, rfl, hw, m0, m1, rfl⟩ := ho
 refine con (T := fun args out => args = [.agg (encT x), .s (.int .i64 most)] ∧ out = .ret (.s (.bool (decide (0 ≤ few x most 600))))) (ok_cons (c_few hJ (height x + 1)) ok_nil) hJ h1 h2 h3 h4 (fun args out h => ?_) rfl (by kernel_rfl) _ _ ⟨rfl, rfl⟩
 obtain ⟨rfl, rfl⟩ := h
 refine ⟨rfl, by rw [Tryz.ntmps9]; simp, ?_⟩
 rw [encT_is]
 unfold c9
 refine go ?_
 refine ⟨false, _, ⟨x, most, 600, by rw [encT_is], by omega, hw, by omega, m1, by omega, by omega, rfl⟩, ?_⟩
 refine go ?_
 simp
theorem same_of (x y : Tm) : same x y = (decide (x.f0 = y.f0) && decide (x.f2.data.toList = y.f2.data.toList) && decide (x.f1 = y.f1) && HCore.sames x.f3 y.f3) := by cases x; cases y; rw [same]
theorem sames_len : ∀ {l l' : List Tm}, l.length ≠ l'.length → HCore.sames l l' = false
 | [], [], h => absurd rfl h
 | [], _ :: _, _ => rfl
 | _ :: _, [], _ => rfl
 | x :: l, y :: l', h => by rw [HCore.sames, sames_len (l := l) (l' := l') (by simpa using h), Bool.and_false]
theorem sames_drop {l l' : List Tm} {i : Nat} {x y : Tm} (hx : l[i]? = some x) (hy : l'[i]? = some y) : HCore.sames (l.drop i) (l'.drop i) = (same x y && HCore.sames (l.drop (i + 1)) (l'.drop (i + 1))) := by
 have h1 := (List.getElem?_eq_some_iff.1 hx)
 have h2 := (List.getElem?_eq_some_iff.1 hy)
 rw [List.drop_eq_getElem_cons h1.1, List.drop_eq_getElem_cons h2.1, h1.2, h2.2, HCore.sames]
theorem ba_eq {s u : ByteArray} : decide (s = u) = decide (s.data.toList = u.data.toList) := by
 by_cases h : s = u
 ·subst h; simp
 ·rw [decide_eq_false h, decide_eq_false]
  intro e
  apply h
  cases s; cases u; simp only [ByteArray.mk.injEq]; exact Array.toList_inj.1 e
def sameS (x y : Tm) (i : Nat) : AS := ⟨tm [(5, .s (.int .i64 i)), (2, .ptr 0 0), (3, .ptr 1 0)], bm [(0, some (cX x)), (1, some (cX y))], bm [], 2⟩
abbrev TSame (n : Nat) : Spec := fun args out => ∃ x y : Tm, args = [.agg (encT x), .agg (encT y)] ∧ height x < n ∧ size x ≤ 1000000000 ∧ out = .ret (.s (.bool (same x y)))
theorem c_same {J : JW} (hJ : JOk J) : ∀ n, Con Tryz.prog J 16 (TSame n)
 | 0 => fun args out ⟨x, _, _, h, _⟩ => by omega
 | n + 1 => by
  obtain ⟨code, h1, h2, h3, h4⟩ := k16
  refine con (ok_cons (c_same hJ n) ok_nil) hJ h1 h2 h3 h4 fun args out h => ?_
  obtain ⟨x, y, rfl, hn, hw, rfl⟩ := h
  refine ⟨rfl, by rw [Tryz.ntmps16]; simp, ?_⟩
  have s4 := size_of x
  have s2 := height_of x
  have s5 := len_sizes x.f3
  rw [encT_is, encT_is, same_of]
  unfold c16
  refine go ?_
  by_cases q1 : x.f0 = y.f0
  rotate_left
  ·simp only [bne_iff_ne, ne_eq, q1, not_false_eq_true, show (x.f0 != y.f0) = true by simpa using q1]; refine go ?_; simp
  simp only [show (x.f0 != y.f0) = false by simpa using q1]
  refine go ?_
  by_cases q2 : x.f2 = y.f2
  rotate_left
  ·simp only [decide_eq_false q2]; refine go ?_; rw [← ba_eq, decide_eq_false q2]; simp
  simp only [decide_eq_true q2]
  refine go ?_
  by_cases q3 : x.f1 = y.f1
  rotate_left
  ·simp only [show (x.f1 != y.f1) = true by simpa using q3]; refine go ?_; simp [q3]
  simp only [show (x.f1 != y.f1) = false by simpa using q3]
  refine go ?_
  simp only [encTs_len]
  by_cases q4 : x.f3.length = y.f3.length
  rotate_left
  ·simp only [show ((x.f3.length : Int) != (y.f3.length : Int)) = true by simp; omega]; refine go ?_; rw [sames_len q4]; simp
  simp only [show ((x.f3.length : Int) != (y.f3.length : Int)) = false by simp; omega]
  refine go ?_
  rw [← ba_eq, decide_eq_true q1, decide_eq_true q2, decide_eq_true q3, Bool.and_self, Bool.and_self, Bool.true_and]
  refine countI x.f3.length (fun i (_ : Unit) => HCore.sames (x.f3.drop i) (y.f3.drop i) = HCore.sames x.f3 y.f3) (fun i _ => sameS x y i) () rfl (lm [(0, 0), (1, 1)]) fun i _ hi hI => ?_
  unfold sameS
  refine go ?_
  by_cases q : (i : Int) < (encTs x.f3).length
  ·simp only [q, decide_true]
   obtain ⟨u, hu, hm, hl⟩ := part q
   obtain ⟨v, hv, _, _⟩ := part (l := y.f3) (i := i) (by rw [encTs_len] at q ⊢; omega)
   have s1 := height_mem hm
   have s3 := sizes_mem hm
   rw [sames_drop hu hv] at hI
   simp only [eget hu, eget hv]
   refine go ?_
   refine ⟨false, _, ⟨u, v, by rw [encT_is, encT_is], by omega, by omega, rfl⟩, ?_⟩
   refine go ?_
   cases q5 : same u v with
   | false =>
    rw [q5] at hI
    refine go ?_
    rw [← hI]; rfl
   | true =>
    rw [q5, Bool.true_and] at hI
    refine go ?_
    rw [nxt (by omega)]
    exact ⟨hl, (), hI, lm [(0, 0), (1, 1)]⟩
  ·simp only [q, decide_false]
   have := fin_at hi q
   subst this
   rw [List.drop_length, List.drop_eq_nil_of_le (by omega)] at hI
   refine go ?_
   rw [← hI]; rfl
end Go.Proofs.YtnjmilelifmfpaaGreatDoor.Ev

namespace Go.Proofs.YtnjmilelifmfpaaGreatDoor.Q
open Go.RowKit Go.Proofs.YtnjmilelifmfpaaGreatDoorW.PrintWords Go.Proofs.YtnjmilelifmfpaaGreatDoorW.PrintLast Go.Proofs.YtnjmilelifmfpaaGreatDoorW.PrintMore
attribute [local go_sem] max2_int min2_int max_two min_two max_three min_three max_four min_four
set_option linter.unusedVariables false
set_option linter.unusedSimpArgs false

mutual
def core_Size.l0 : Nat → Int → List (S24) → Int → Int → Option (Int)
 | 0, _, _, _, _ => none
 | k + 1, x3, x7, x8, x9 => if x9 < x8 then (if 0 ≤ x9 then (if x9 < (x7.length : Int) then ((core_Size.f k ((rd_T24 x7 x9).f0) ((rd_T24 x7 x9).f1) ((rd_T24 x7 x9).f2) ((rd_T24 x7 x9).f3)).bind fun t160 => (core_Size.l0 k (wrap64 (x3 + t160)) x7 x8 (wrap64 (x9 + 1)))) else (none)) else (none)) else (some x3)
def core_Size.f : Nat → Int → Int → ByteArray → List (S24) → Option (Int)
 | 0, _, _, _, _ => none
 | k + 1, a0_0, a0_1, a0_2, l0_3 => core_Size.l0 k 1 l0_3 (l0_3.length : Int) 0
end
theorem core_Size.mono_l : ∀ k, (∀ y0 y1 y2 y3, LeO (core_Size.f k y0 y1 y2 y3) (core_Size.f (k + 1) y0 y1 y2 y3)) ∧ (∀ y0 y1 y2 y3, LeO (core_Size.l0 k y0 y1 y2 y3) (core_Size.l0 (k + 1) y0 y1 y2 y3))
 | 0 => ⟨fun _ _ _ _ r h => by simp [core_Size.f] at h, fun _ _ _ _ r h => by simp [core_Size.l0] at h⟩
 | k + 1 => by
  obtain ⟨ih0, ih1⟩ := core_Size.mono_l k
  refine ⟨?_, ?_⟩
  ·intro y0 y1 y2 y3
   unfold core_Size.f
   repeat' first
  |(with_reducible exact ih0 _ _ _ _)
  |(with_reducible exact ih1 _ _ _ _)
  |(with_reducible exact LeO.refl _)
  |(with_reducible exact LeO.none _)
  |(with_reducible refine LeO.ite ?_ ?_)
  |(with_reducible refine LeO.bind ?_ (fun _ => ?_))
  |exact ih0 _ _ _ _
  |exact ih1 _ _ _ _
  |exact LeO.none _
  |refine LeO.ite ?_ ?_
  |refine LeO.bind ?_ (fun _ => ?_)
  ·intro y0 y1 y2 y3
   unfold core_Size.l0
   repeat' first
  |(with_reducible exact ih0 _ _ _ _)
  |(with_reducible exact ih1 _ _ _ _)
  |(with_reducible exact LeO.refl _)
  |(with_reducible exact LeO.none _)
  |(with_reducible refine LeO.ite ?_ ?_)
  |(with_reducible refine LeO.bind ?_ (fun _ => ?_))
  |exact ih0 _ _ _ _
  |exact ih1 _ _ _ _
  |exact LeO.none _
  |refine LeO.ite ?_ ?_
  |refine LeO.bind ?_ (fun _ => ?_)
theorem core_Size.mono : ∀ a0 a1 a2 a3 k, LeO (core_Size.f k a0 a1 a2 a3) (core_Size.f (k + 1) a0 a1 a2 a3) := by
 intro a0 a1 a2 a3 k
 obtain ⟨ih0, ih1⟩ := core_Size.mono_l k
 exact ih0 a0 a1 a2 a3
set_option maxHeartbeats 8000000 in
set_option maxRecDepth 100000 in
theorem core_Size.calls (k : Nat) : ∀ (a0_0 : Int) (a0_1 : Int) (a0_2 : ByteArray) (A0_3 : Option Addr) (c0_3 : Nat) (l0_3 : List (S24)) (r : Int) (w : World) (hr0_3 : Kd.C k24 w A0_3 l0_3.length l0_3) (hc0_3 : l0_3.length ≤ c0_3) (h : core_Size.f k a0_0 a0_1 a0_2 l0_3 = some r),
  Calls Tryz.prog 24 #[.agg #[.int .i64 a0_0, .int .i64 a0_1, .string a0_2, .slice A0_3 l0_3.length c0_3]] w fun e w' => e = .returned (.int .i64 r) ∧ Below w.heap.size w w' := by
 induction k using Nat.strongRecOn with
 | _ k ih =>
 intro a0_0 a0_1 a0_2 A0_3 c0_3 l0_3 r w hr0_3 hc0_3 h
 cases k with
 | zero => exact absurd h (by simp [core_Size.f])
 | succ k =>
 simp only [core_Size.f] at h
 have hu24 := Tryz.underlying24
 have HR0_3 := Aside0.mk hr0_3
 have HC0_3 := Aside0.mk hc0_3
 clear hr0_3 hc0_3
 have HB := Aside0.mk (Below.refl w.heap.size w)
 have H : (core_Size.l0 k 1 l0_3 (l0_3.length : Int) 0) = some r := h
 clear h
 have H' := Aside0.mk H
 clear H
 go_enter Tryz.func24, Tryz.ntmps24
 go_wp2_with (first|((with_reducible refine gate_dst (N := 1) rfl ?_); refine box_event ?hg (N := 1) ?hd (cs := #[.int .i64 a0_0, .int .i64 a0_1, .string a0_2, .slice A0_3 l0_3.length c0_3]) (t := 24) ?hr ?_; (case hd => rfl); (case hg => rfl); (case hr => first|(go_simp; done)|(go_simp; rfl)); intro gb157 hg w2 hbox hb; have n0_ := Aside0.mk (below_step (by repeat (first|(with_reducible first|exact HB.out|apply below_alloc|apply pw_below_drewN|apply below_drew1)|exact HB.out)) hb); have n1_ := Aside0.mk (hbox); have n2_ := Aside0.mk ((by rw [hg]; exact (below_size (by repeat (first|(with_reducible first|exact HB.out|apply below_alloc|apply pw_below_drewN|apply below_drew1)|exact HB.out))) : w.heap.size ≤ gb157)); have n3_ := Aside0.mk ((by rw [hg]; exact (below_size (by repeat (first|(with_reducible first|exact HB.out|apply below_alloc|apply pw_below_drewN|apply below_drew1)|exact HB.out))) : w.heap.size ≤ gb157)); clear HB; have HB := n0_; have BK157 := n1_; have GW157 := n2_; have GE157 := n3_; clear n0_ n1_ n2_ n3_; clear hb hbox hg; have hcz3_0 : w2.cell? ⟨gb157, 0, none⟩ = some (.int .i64 a0_0) := (blk_cell BK157.out 0).trans rfl; have hcz3_1 : w2.cell? ⟨gb157, 1, none⟩ = some (.int .i64 a0_1) := (blk_cell BK157.out 1).trans rfl; have hcz3_2 : w2.cell? ⟨gb157, 2, none⟩ = some (.string a0_2) := (blk_cell BK157.out 2).trans rfl; have hcz3_3 : w2.cell? ⟨gb157, 3, none⟩ = some (.slice A0_3 l0_3.length c0_3) := (blk_cell BK157.out 3).trans rfl; have hfz3_0 := blk_frozen BK157.out 0; have hfz3_1 := blk_frozen BK157.out 1; have hfz3_2 := blk_frozen BK157.out 2; have hfz3_3 := blk_frozen BK157.out 3))
 go_loopg [3, 9] k (fun kq v3 v9 w' => ∃ (x3_1 : Int) (x9_1 : Int), v3 = .int .i64 x3_1 ∧ v9 = .int .i64 x9_1 ∧ Aside0 (core_Size.l0 kq x3_1 l0_3 (l0_3.length : Int) x9_1 = some r) ∧ Aside0 (kq ≤ k) ∧ Aside0 (w'.heap[gb157]? = some (.cells #[.int .i64 a0_0, .int .i64 a0_1, .string a0_2, (.slice A0_3 l0_3.length c0_3)] 24 (0, 0))) ∧ Aside0 (Below w.heap.size w w'))
 case atStart => exact ⟨(1), (0), (by first|rfl|(simp; done)|(simp [*]; done)), (by first|rfl|(simp; done)|(simp [*]; done)), H', ⟨Nat.le_refl _⟩, ⟨by (with_reducible repeat (first|refine blk_drewN ?_ _|refine blk_drew ?_|refine blk_alloc ?_ _)); exact BK157.out⟩, ⟨by repeat (first|(with_reducible first|exact HB.out|apply below_alloc|apply pw_below_drewN|apply below_drew1|refine below_set ?_ GE157.out)|exact HB.out)⟩⟩
 case round =>
  clear H'
  try clear c2
  try clear p2
  try clear hcz3_0
  try clear hcz3_1
  try clear hcz3_2
  try clear hcz3_3
  try clear hfz3_0
  try clear hfz3_1
  try clear hfz3_2
  try clear hfz3_3
  obtain ⟨x3_1, x9_1, rfl, rfl, HA, HK1, BK157, HB⟩ := hrel
  cases gk with
  | zero => exact absurd HA.out (by simp [core_Size.l0])
  | succ k1 =>
   have H := HA.out
   clear HA
   simp only [core_Size.l0] at H
   by_cases c4 : x9_1 < (l0_3.length : Int)
   ·rw [if_pos c4] at H
    have c4b0 : decide (x9_1 < (l0_3.length : Int)) = true := decide_eq_true c4
    clear c4
    by_cases c5 : 0 ≤ x9_1
    ·rw [if_pos c5] at H
     have c5b0 : decide (0 ≤ x9_1) = true := decide_eq_true c5
     clear c5
     by_cases c6 : x9_1 < (l0_3.length : Int)
     ·rw [if_pos c6] at H
      have c6b0 : decide (x9_1 < (l0_3.length : Int)) = true := decide_eq_true c6
      clear c6
      replace H := Option.bind_eq_some_iff.mp H
      obtain ⟨t160, A70, H⟩ := H
      replace H : (core_Size.l0 k1 (wrap64 (x3_1 + t160)) l0_3 (l0_3.length : Int) (wrap64 (x9_1 + 1))) = some r := H
      have A7 := Aside0.mk A70
      clear A70
      have H' := Aside0.mk H
      clear H
      have p158 : 0 ≤ (x9_1 : Int) := of_decide_eq_true (by first|(with_reducible assumption) | assumption)
      have q158 : x9_1 < (l0_3.length : Int) := of_decide_eq_true (by first|(with_reducible assumption) | assumption)
      obtain ⟨ad158, A158_3, c158_3, e158, hx158_0, hx158_1, hx158_2, hx158_3, hl158_3, hi158_3⟩ := at_T24 HR0_3.out x9_1 p158 q158
      cases e158
      replace hx158_0 := (HB.out.cell (World.block_lt_of_cell? w _ hx158_0)).trans hx158_0
      replace hx158_1 := (HB.out.cell (World.block_lt_of_cell? w _ hx158_1)).trans hx158_1
      replace hx158_2 := (HB.out.cell (World.block_lt_of_cell? w _ hx158_2)).trans hx158_2
      replace hx158_3 := (HB.out.cell (World.block_lt_of_cell? w _ hx158_3)).trans hx158_3
      have HR158_3 := Aside0.mk hi158_3
      have HC158_3 := Aside0.mk hl158_3
      clear hi158_3 hl158_3
      replace p158 := eq_true p158
      replace q158 := eq_true q158
      go_wp2_with (first|((with_reducible refine gate_dst (N := 5) rfl ?_); refine box_event ?hg (N := 5) ?hd (cs := #[.int .i64 0, .int .i64 0, .string (⟨#[]⟩ : ByteArray), .slice none 0 0]) (t := 24) ?hr ?_; (case hd => rfl); (case hg => rfl); (case hr => first|(go_simp; done)|(go_simp; rfl)); intro gb159 hg w8 hbox hb; have n0_ := Aside0.mk (blk_below (g := gb157) (o := .cells #[.int .i64 a0_0, .int .i64 a0_1, .string a0_2, .slice (some ad158) l0_3.length c0_3] 24 (0, 0)) (by (with_reducible repeat (first|refine blk_drewN ?_ _|refine blk_drew ?_|refine blk_alloc ?_ _)); exact BK157.out) hb); have n1_ := Aside0.mk (below_step (by repeat (first|(with_reducible first|exact HB.out|apply below_alloc|apply pw_below_drewN|apply below_drew1|refine below_set ?_ GE157.out)|exact HB.out)) hb); have n2_ := Aside0.mk (hbox); have n3_ := Aside0.mk ((by rw [hg]; exact (below_size (by repeat (first|(with_reducible first|exact HB.out|apply below_alloc|apply pw_below_drewN|apply below_drew1|refine below_set ?_ GE157.out)|exact HB.out))) : w.heap.size ≤ gb159)); have n4_ := Aside0.mk ((by rw [hg]; exact (below_size (by repeat (first|(with_reducible first|exact HB.out|apply below_alloc|apply pw_below_drewN|apply below_drew1|refine below_set ?_ GE157.out)|exact HB.out))) : w.heap.size ≤ gb159)); have n5_ := Aside0.mk ((by rw [hg]; exact Nat.ne_of_lt (blk_lt (g := gb157) (o := .cells #[.int .i64 a0_0, .int .i64 a0_1, .string a0_2, .slice (some ad158) l0_3.length c0_3] 24 (0, 0)) (by (with_reducible repeat (first|refine blk_drewN ?_ _|refine blk_drew ?_|refine blk_alloc ?_ _)); exact BK157.out)) : gb157 ≠ gb159)); have n6_ := Aside0.mk ((by rw [hg]; exact Nat.ne_of_gt (blk_lt (g := gb157) (o := .cells #[.int .i64 a0_0, .int .i64 a0_1, .string a0_2, .slice (some ad158) l0_3.length c0_3] 24 (0, 0)) (by (with_reducible repeat (first|refine blk_drewN ?_ _|refine blk_drew ?_|refine blk_alloc ?_ _)); exact BK157.out)) : gb159 ≠ gb157)); clear BK157; clear HB; have BK157 := n0_; have HB := n1_; have BK159 := n2_; have GW159 := n3_; have GE159 := n4_; have NB157_159 := n5_; have NB159_157 := n6_; clear n0_ n1_ n2_ n3_ n4_ n5_ n6_; clear hb hbox hg; have hnb9 := NB159_157.out; have hnc9 := NB157_159.out; have hcz10_0 : w8.cell? ⟨gb159, 0, none⟩ = some (.int .i64 0) := (blk_cell BK159.out 0).trans rfl; have hcz10_1 : w8.cell? ⟨gb159, 1, none⟩ = some (.int .i64 0) := (blk_cell BK159.out 1).trans rfl; have hcz10_2 : w8.cell? ⟨gb159, 2, none⟩ = some (.string (⟨#[]⟩ : ByteArray)) := (blk_cell BK159.out 2).trans rfl; have hcz10_3 : w8.cell? ⟨gb159, 3, none⟩ = some (.slice none 0 0) := (blk_cell BK159.out 3).trans rfl; have hfz10_0 := blk_frozen BK159.out 0; have hfz10_1 := blk_frozen BK159.out 1; have hfz10_2 := blk_frozen BK159.out 2; have hfz10_3 := blk_frozen BK159.out 3) | ((with_reducible refine gate_callee (f := 24) rfl ?_); refine goesL_ (some 15) rfl rfl Tryz.func24 (by kernel_rfl) rfl #[.agg #[.int .i64 ((rd_T24 l0_3 x9_1).f0), .int .i64 ((rd_T24 l0_3 x9_1).f1), .string ((rd_T24 l0_3 x9_1).f2), .slice A158_3 ((rd_T24 l0_3 x9_1).f3).length c158_3]] rfl (by (try simp only [List.map_toArray, List.map_cons, List.map_nil]); first|done|rfl|(simp only [List.length_drop, List.length_take]; rfl)) ?_; (with_reducible refine (ih k1 (by have := HK1.out; omega) ((rd_T24 l0_3 x9_1).f0) ((rd_T24 l0_3 x9_1).f1) ((rd_T24 l0_3 x9_1).f2) _ _ ((rd_T24 l0_3 x9_1).f3) t160 _ ?side1 ?side2 A7.out).mono ?_); (case side1 => exact Kd.C_below HR158_3.out (by repeat (first|(with_reducible first|exact HB.out|apply below_alloc|apply pw_below_drewN|apply below_drew1|refine below_set ?_ GE157.out|refine below_set ?_ GE159.out)|exact HB.out))); (case side2 => exact HC158_3.out); rintro e w11 ⟨rfl, hb⟩; refine ⟨_, rfl, ?_⟩; have n0_ := Aside0.mk (blk_below (g := gb157) (o := .cells #[.int .i64 a0_0, .int .i64 a0_1, .string a0_2, .slice (some ad158) l0_3.length c0_3] 24 (0, 0)) (by (with_reducible repeat (first|refine blk_drewN ?_ _|refine blk_drew ?_|refine blk_alloc ?_ _)); refine blk_far ?_ NB157_159.out _; (with_reducible repeat (first|refine blk_drewN ?_ _|refine blk_drew ?_|refine blk_alloc ?_ _)); refine blk_far ?_ NB157_159.out _; (with_reducible repeat (first|refine blk_drewN ?_ _|refine blk_drew ?_|refine blk_alloc ?_ _)); refine blk_far ?_ NB157_159.out _; (with_reducible repeat (first|refine blk_drewN ?_ _|refine blk_drew ?_|refine blk_alloc ?_ _)); refine blk_far ?_ NB157_159.out _; (with_reducible repeat (first|refine blk_drewN ?_ _|refine blk_drew ?_|refine blk_alloc ?_ _)); exact BK157.out) hb); have n1_ := Aside0.mk (blk_below (g := gb159) (o := .cells #[.int .i64 ((rd_T24 l0_3 x9_1).f0), .int .i64 ((rd_T24 l0_3 x9_1).f1), .string ((rd_T24 l0_3 x9_1).f2), .slice A158_3 ((rd_T24 l0_3 x9_1).f3).length c158_3] 24 (0, 0)) (by (with_reducible repeat (first|refine blk_drewN ?_ _|refine blk_drew ?_|refine blk_alloc ?_ _)); refine blk_put (cs := #[.int .i64 ((rd_T24 l0_3 x9_1).f0), .int .i64 ((rd_T24 l0_3 x9_1).f1), .string ((rd_T24 l0_3 x9_1).f2), .slice none 0 0]) ?_ 3 _ rfl; (with_reducible repeat (first|refine blk_drewN ?_ _|refine blk_drew ?_|refine blk_alloc ?_ _)); refine blk_put (cs := #[.int .i64 ((rd_T24 l0_3 x9_1).f0), .int .i64 ((rd_T24 l0_3 x9_1).f1), .string (⟨#[]⟩ : ByteArray), .slice none 0 0]) ?_ 2 _ rfl; (with_reducible repeat (first|refine blk_drewN ?_ _|refine blk_drew ?_|refine blk_alloc ?_ _)); refine blk_put (cs := #[.int .i64 ((rd_T24 l0_3 x9_1).f0), .int .i64 0, .string (⟨#[]⟩ : ByteArray), .slice none 0 0]) ?_ 1 _ rfl; (with_reducible repeat (first|refine blk_drewN ?_ _|refine blk_drew ?_|refine blk_alloc ?_ _)); refine blk_put (cs := #[.int .i64 0, .int .i64 0, .string (⟨#[]⟩ : ByteArray), .slice none 0 0]) ?_ 0 _ rfl; (with_reducible repeat (first|refine blk_drewN ?_ _|refine blk_drew ?_|refine blk_alloc ?_ _)); exact BK159.out) hb); have n2_ := Aside0.mk (below_step (by repeat (first|(with_reducible first|exact HB.out|apply below_alloc|apply pw_below_drewN|apply below_drew1|refine below_set ?_ GE157.out|refine below_set ?_ GE159.out)|exact HB.out)) hb); clear BK157; clear BK159; clear HB; have BK157 := n0_; have BK159 := n1_; have HB := n2_; clear n0_ n1_ n2_; (try clear hb); (try clear hb2); (try clear hk); (try clear hi)))
      go_roundg k1
      case measure => have := HK1.out; omega
      case rel => exact ⟨(wrap64 (x3_1 + t160)), (wrap64 (x9_1 + 1)), (by first|rfl|(simp; done)|(simp [*]; done)), (by first|rfl|(simp; done)|(simp [*]; done)), H', ⟨by have := HK1.out; omega⟩, ⟨by (with_reducible repeat (first|refine blk_drewN ?_ _|refine blk_drew ?_|refine blk_alloc ?_ _)); exact BK157.out⟩, ⟨by repeat (first|(with_reducible first|exact HB.out|apply below_alloc|apply pw_below_drewN|apply below_drew1|refine below_set ?_ GE157.out|refine below_set ?_ GE159.out)|exact HB.out)⟩⟩
     ·rw [if_neg c6] at H
      exact absurd H (by simp)
    ·rw [if_neg c5] at H
     exact absurd H (by simp)
   ·rw [if_neg c4] at H
    have c4b0 : decide (x9_1 < (l0_3.length : Int)) = false := decide_eq_false c4
    clear c4
    obtain rfl := Option.some.inj H
    go_wp2
    go_ret
    exact ⟨by first|rfl|(simp [errW_none, errW_some] <;> rfl)|(simp [*, errW_none, errW_some] <;> rfl), by repeat (first|(with_reducible first|exact HB.out|apply below_alloc|apply pw_below_drewN|apply below_drew1|refine below_set ?_ GE157.out)|exact HB.out)⟩

end Go.Proofs.YtnjmilelifmfpaaGreatDoor.Q

namespace Go.Proofs.YtnjmilelifmfpaaGreatDoor.Pure
open Go Go.RowKit Go.Proofs.YtnjmilelifmfpaaGreatDoor.Q
open HCore
namespace CoreMono
mutual
theorem may_mono : ∀ (x : T) (a b : Int), a ≤ b → may x a = true → may x b = true
 | ⟨k, n, s, l⟩, a, b, hab, h => by
  simp only [may] at h ⊢
  split
  ·rename_i hk
   simp only [hk, if_true, Bool.and_eq_true, decide_eq_true_eq] at h ⊢
   exact ⟨h.1, by omega⟩
  ·rename_i h1
   rw [if_neg h1] at h
   split
   ·rename_i hk
    simp only [hk, if_true, Bool.and_eq_true, decide_eq_true_eq] at h ⊢
    exact ⟨h.1, by omega⟩
   ·rename_i h7
    rw [if_neg h7] at h
    split
    ·rename_i hk
     simp only [hk, if_true, Bool.and_eq_true, decide_eq_true_eq] at h ⊢
     exact ⟨h.1, by omega⟩
    ·rename_i h9
     rw [if_neg h9] at h
     split
     ·rename_i hk
      simp only [hk, if_true, Bool.and_eq_true, decide_eq_true_eq] at h ⊢
      exact ⟨⟨h.1.1, by omega⟩, each_mono l (a + 1) (b + 1) (by omega) h.2⟩
     ·rename_i h2
      rw [if_neg h2] at h
      split
      ·rename_i hk
       simp only [hk, if_true, Bool.and_eq_true, decide_eq_true_eq] at h ⊢
       exact ⟨h.1, each_mono l a b hab h.2⟩
      ·rename_i h3
       rw [if_neg h3] at h
       split
       ·rename_i hk
        simp only [hk, if_true, Bool.and_eq_true, decide_eq_true_eq] at h ⊢
        exact ⟨h.1, each_mono l a b hab h.2⟩
       ·rename_i h8
        rw [if_neg h8] at h
        split
        ·rename_i hk
         simp only [hk, if_true, Bool.and_eq_true, decide_eq_true_eq] at h ⊢
         exact ⟨⟨h.1.1, by omega⟩, each_mono l a b hab h.2⟩
        ·rename_i h4
         rw [if_neg h4] at h
         split
         ·rename_i hk
          simp only [hk, if_true, Bool.and_eq_true, decide_eq_true_eq] at h ⊢
          exact ⟨h.1, case_mono l a b hab h.2⟩
         ·rename_i h5
          rw [if_neg h5] at h; cases h
theorem each_mono : ∀ (l : List T) (a b : Int), a ≤ b → each l a = true → each l b = true
 | [], _, _, _, _ => rfl
 | x :: r, a, b, hab, h => by
  simp only [each, Bool.and_eq_true] at h ⊢
  exact ⟨may_mono x a b hab h.1, each_mono r a b hab h.2⟩
theorem case_mono : ∀ (l : List T) (a b : Int), a ≤ b → mayCase l a = true → mayCase l b = true
 | [], _, _, _, h => by simp [mayCase] at h
 | x :: r, a, b, hab, h => by
  simp only [mayCase, Bool.and_eq_true] at h ⊢
  exact ⟨⟨⟨may_mono x a b hab h.1.1.1, alts_mono r a b [] hab h.1.1.2⟩, h.1.2⟩, h.2⟩
theorem alts_mono : ∀ (l : List T) (a b : Int) (seen : List T), a ≤ b → alts l a seen = true → alts l b seen = true
 | [], _, _, _, _, _ => rfl
 | ⟨k, n, s, l⟩ :: r, a, b, seen, hab, h => by
  simp only [alts, Bool.and_eq_true] at h ⊢
  exact ⟨⟨⟨h.1.1.1, each_mono l (a + n) (b + n) (by omega) h.1.1.2⟩, h.1.2⟩, alts_mono r a b _ hab h.2⟩
end
end CoreMono
end Go.Proofs.YtnjmilelifmfpaaGreatDoor.Pure

namespace Go.Proofs.YtnjmilelifmfpaaGreatDoor.Pure
open Go Go.RowKit Go.Lib Go.Proofs
open Go.Proofs.YtnjmilelifmfpaaGreatDoor
set_option linter.unusedVariables false
set_option linter.unusedSimpArgs false
namespace R6P
open HCore
section
open HLex
theorem nb {r t : List UInt8} {k n : Nat} (h : first r = .ok (k, t, n)) (c : UInt8) (r' : List UInt8) (he : r = c :: r') : HLex.blank c = false := by
 cases hc : HLex.blank c with
 | false => rfl
 | true =>
  exfalso
  have hn := blank_not hc
  have hp := first_pre h
  cases first_is h with
  | word h1 h2 =>
   apply h1
   rw [he, List.takeWhile_cons, if_neg (by rw [hn.1]; simp)]
  | sign h1 h2 =>
   cases t with
   | nil => exact hp.2 rfl
   | cons d t' =>
    have h3 := hp.1
    rw [he, List.cons_prefix_cons] at h3
    exact hn.2 _ (List.mem_of_find?_eq_some h2) (by rw [h3.1]; exact List.mem_cons_self ..)
theorem tok_to {L : List UInt8} {k n : Nat} (h : first L = .ok (k, L, n)) : ∃ p, lex L = .ok [⟨k, L, n, p⟩] := by
 have hp := first_pre h
 have hb : L.dropWhile HLex.blank = L := by
  cases L with
  | nil => exact absurd rfl hp.2
  | cons c r => exact dw_self (nb h c r rfl)
 have h1 : first (L.dropWhile HLex.blank) = .ok (k, L, n) := by rw [hb]; exact h
 refine ⟨0 + (L.length - L.length), ?_⟩
 rw [lex_lexs, lexs_tok 0 (by rw [hb]; exact hp.2) h1, hb, List.drop_length, lexs_nil _ rfl]
 rfl
theorem tok_from {L : List UInt8} {t : Tok} (h : lex L = .ok [t]) (ht : t.text = L) : first L = .ok (t.kind, L, t.n) := by
 rw [lex_lexs] at h
 by_cases hd : L.dropWhile HLex.blank = []
 ·rw [lexs_nil _ hd] at h; cases h
 ·cases hf : first (L.dropWhile HLex.blank) with
  | error e => rw [lexs_err 0 hd hf] at h; cases h
  | ok x =>
   obtain ⟨k, tx, n⟩ := x
   rw [lexs_tok 0 hd hf] at h
   cases hr : lexs (0 + (L.length - (L.dropWhile HLex.blank).length) + tx.length) ((L.dropWhile HLex.blank).drop tx.length) with
   | error e => rw [hr] at h; cases h
   | ok us =>
    rw [hr] at h
    simp only [more, Except.ok.injEq, List.cons.injEq] at h
    obtain ⟨h1, _⟩ := h
    rw [← h1] at ht ⊢
    simp only at ht ⊢
    have hp := first_pre hf
    rw [ht] at hf hp
    have hl := hp.1.length_le
    have hs : L.dropWhile HLex.blank <:+ L := List.dropWhile_suffix _
    have he : L.dropWhile HLex.blank = L := hs.eq_of_length (by have := hs.length_le; omega)
    rw [he] at hf
    exact hf
theorem con_first (s : ByteArray) : con s = (match first s.data.toList with | .ok (k', t, _) => decide (k' = 2) && decide (t = s.data.toList) | .error _ => false) := by
 unfold con
 cases hf : first s.data.toList with
 | error e =>
  cases hl : lex s.data.toList with
  | error x => rfl
  | ok ts =>
   match ts, hl with
   | [], _ => rfl
   | [t], hl =>
    by_cases ht : t.text = s.data.toList
    ·rw [tok_from hl ht] at hf; cases hf
    ·simp [ht]
   | t :: u :: r, _ => rfl
 | ok x =>
  obtain ⟨k', t, n⟩ := x
  by_cases ht : t = s.data.toList
  ·subst ht
   obtain ⟨p, hp⟩ := tok_to hf
   rw [hp]
  ·have hno : ∀ u, lex s.data.toList = .ok [u] → u.text ≠ s.data.toList := by
    intro u hu hx
    rw [tok_from hu hx] at hf
    simp only [Except.ok.injEq, Prod.mk.injEq] at hf
    exact ht hf.2.1.symm
   cases hl : lex s.data.toList with
   | error x => simp [ht]
   | ok ts =>
    match ts, hl with
    | [], _ => simp [ht]
    | [u], hl => simp [ht, hno u hl]
    | t :: u :: r, _ => simp [ht]
end
def hd1 (x : T) (free : Int) : Bool :=
 if x.f0 = 1 then decide (x.f2.data.toList = []) && decide (x.f3.length = 0) && decide (0 ≤ x.f1) && decide (x.f1 < free)
 else if x.f0 = 2 then bare x.f1 x.f2 && decide (x.f3.length = 1)
 else if x.f0 = 3 then bare x.f1 x.f2 && decide (x.f3.length = 2)
 else if x.f0 = 4 then con x.f2 && decide (x.f1 = 0) && decide (x.f3.length ≤ 8)
 else if x.f0 = 5 then bare x.f1 x.f2 && decide (2 ≤ x.f3.length) && decide (x.f3.length ≤ 9)
 else if x.f0 = 7 then decide (x.f2.data.toList = []) && decide (x.f3.length = 0)
 else if x.f0 = 8 then oper x.f2 && decide (x.f1 = 0) && decide (x.f3.length = 2)
 else if x.f0 = 9 then bare x.f1 x.f2 && decide (x.f3.length = 0) else false
def hd6 (x : T) : Bool := decide (x.f0 = 6) && con x.f2 && decide (0 ≤ x.f1) && decide (x.f1 ≤ 8) && decide (x.f3.length = 1)
theorem may_parts : ∀ (k n : Int) (s : ByteArray) (l : List T) (free : Int), 0 ≤ free → may ⟨k, n, s, l⟩ free = (hd1 ⟨k, n, s, l⟩ free && (if k = 5 then (match l with | [] => true | x :: r => may x free && alts r free []) else each l (if k = 2 then free + 1 else free))) := by
 intro k n s l free hf
 rw [may, hd1]
 simp only
 by_cases h1 : k = 1
 ·subst h1
  simp only [if_true]
  rw [if_neg (by decide), if_neg (by decide)]
  by_cases h : l.length = 0
  ·have : l = [] := List.eq_nil_of_length_eq_zero h
   subst this
   by_cases a : s.data.toList = [] <;> by_cases b : 0 ≤ n <;> by_cases c : n ≤ free - 1 <;> simp [a, b, c, each] <;> omega
  ·simp [h]
 simp only [h1, if_false]
 by_cases h7 : k = 7
 ·subst h7
  simp only [if_true]
  rw [if_neg (by decide), if_neg (by decide), if_neg (by decide), if_neg (by decide), if_neg (by decide), if_neg (by decide)]
  by_cases h : l.length = 0
  ·have : l = [] := List.eq_nil_of_length_eq_zero h
   subst this; simp [each, hf]
  ·simp [h]
 simp only [h7, if_false]
 by_cases h9 : k = 9
 ·subst h9
  simp only [if_true]
  rw [if_neg (by decide), if_neg (by decide), if_neg (by decide), if_neg (by decide), if_neg (by decide), if_neg (by decide), if_neg (by decide)]
  by_cases h : l.length = 0
  ·have : l = [] := List.eq_nil_of_length_eq_zero h
   subst this; simp [each, hf]
  ·simp [h]
 simp only [h9, if_false]
 by_cases h2 : k = 2
 ·subst h2
  simp only [if_true]
  rw [if_neg (by decide)]
  simp [hf, Bool.and_comm]
 simp only [h2, if_false]
 by_cases h3 : k = 3
 ·subst h3
  simp only [if_true]
  rw [if_neg (by decide)]
  simp [Bool.and_comm]
 simp only [h3, if_false]
 by_cases h8 : k = 8
 ·subst h8
  simp only [if_true]
  rw [if_neg (by decide), if_neg (by decide), if_neg (by decide)]
  cases oper s <;> cases each l free <;> simp [Bool.and_comm]
 simp only [h8, if_false]
 by_cases h4 : k = 4
 ·subst h4
  simp only [if_true]
  rw [if_neg (by decide)]
  cases con s <;> cases each l free <;> simp [hf, Bool.and_comm]
 simp only [h4, if_false]
 by_cases h5 : k = 5
 ·subst h5
  simp only [if_true]
  cases l with
  | nil => simp
  | cons x r =>
   rw [mayCase]
   simp only [List.length_cons]
   by_cases a : 1 ≤ r.length
   ·by_cases b : r.length ≤ 8
    ·have a2 : 2 ≤ r.length + 1 := by omega
     have b2 : r.length + 1 ≤ 9 := by omega
     simp [a, b, a2, b2]
    ·have b2 : ¬ r.length + 1 ≤ 9 := by omega
     simp [b, b2]
   ·have a2 : ¬ 2 ≤ r.length + 1 := by omega
    simp [a, a2]
 ·simp only [h5, if_false]
  rfl
def may6 (x : T) (free : Int) : Bool := hd6 x && each x.f3 (free + x.f1)
theorem alts_is (x : T) (r : List T) (free : Int) (seen : List T) : alts (x :: r) free seen = (may6 x free && !(seen.any fun b => decide (b.f2.data.toList = x.f2.data.toList)) && alts r free (seen ++ [x])) := by
 obtain ⟨k, n, s, l⟩ := x
 rw [alts, may6, hd6]
theorem same_of (x y : T) : same x y = (decide (x.f0 = y.f0) && decide (x.f2.data.toList = y.f2.data.toList) && decide (x.f1 = y.f1) && sames x.f3 y.f3) := by cases x; cases y; rw [same]
theorem sames_len : ∀ l l' : List T, l.length ≠ l'.length → sames l l' = false
 | [], [], h => absurd rfl h
 | [], y :: r, _ => by rw [sames] <;> simp
 | x :: r, [], _ => by rw [sames] <;> simp
 | x :: r, y :: r', h => by
  rw [sames, sames_len r r' (by simpa using h), Bool.and_false]
theorem same_refl : ∀ x : T, same x x = true
 | ⟨k, n, s, l⟩ => by rw [same, sames_refl l]; simp
where
 sames_refl : ∀ l : List T, sames l l = true
  | [] => by rw [sames]
  | x :: r => by rw [sames, same_refl x, sames_refl r]; rfl
end R6P
end Go.Proofs.YtnjmilelifmfpaaGreatDoor.Pure

namespace Go.Proofs.YtnjmilelifmfpaaGreatDoor.Ev
open Go Go.RowKit
open HCore (wt wts may same height heights size sizes oper bare each alts)
open Pure.R6P (hd1 hd6 may6)
set_option linter.unusedSimpArgs false
set_option linter.unusedVariables false
theorem one_zero {s : ByteArray} : oneOut s 0 = match HLex.first s.data.toList with
 | .ok (kd, t, n) => .ret (.tup [.agg [.s (.int .i64 (kd : Int)), .s (.string ⟨t.toArray⟩), .s (.int .i64 (n : Int)), .s (.int .i64 0)], .s (.int .i64 0)])
 | .error er => .ret (.tup [.agg [.s (.int .i64 0), .s (.string ⟨#[]⟩), .s (.int .i64 0), .s (.int .i64 0)], .s (.int .i64 (er : Int))]) := rfl
abbrev TCon : Spec := fun args out => ∃ s : ByteArray, args = [.s (.string s)] ∧ s.size ≤ 1100000 ∧ out = .ret (.s (.bool (HCore.con s)))
theorem c_con {J : JW} (hJ : JOk J) : Con Tryz.prog J 66 TCon := by
 obtain ⟨code, h1, h2, h3, h4⟩ := k66
 refine con (ok_cons c_one ok_nil) hJ h1 h2 h3 h4 fun args out h => ?_
 obtain ⟨s, rfl, hs, rfl⟩ := h
 refine ⟨rfl, by rw [Tryz.ntmps66]; simp, ?_⟩
 unfold c66
 rw [Pure.R6P.con_first]
 refine go ?_
 refine ⟨fun q1 => by rw [q1]; rfl, fun q1 => ?_⟩
 have hp : 0 < s.size := by
  rcases Nat.eq_zero_or_pos s.size with h | h
  ·exfalso; apply q1
   have : s.data.toList = [] := by
    have e : s.data.toList.length = 0 := by rw [Array.length_toList]; exact h
    exact List.eq_nil_of_length_eq_zero e
   cases s; simp only [ByteArray.mk.injEq]; exact Array.toList_inj.1 (by simpa using this)
  ·exact h
 refine call (T := TOne) ⟨s, 0, rfl, hs, hp, rfl⟩ ?_
 rw [one_zero]
 cases hf : HLex.first s.data.toList with
 | error e =>
  refine go ?_
  repeat' first
  |refine go ?_
   | (refine spl (by simp (config := { decide := true }) only [tm_hit, tm_miss, ne_eq, not_false_eq_true]; rfl) (fun hb => ?_) (fun hb => ?_) <;> simp only [hb])
  all_goals simp_all
 | ok y =>
  obtain ⟨kd, t, n⟩ := y
  refine go ?_
  repeat' first
  |refine go ?_
   | (refine spl (by simp (config := { decide := true }) only [tm_hit, tm_miss, ne_eq, not_false_eq_true]; rfl) (fun hb => ?_) (fun hb => ?_) <;> simp only [hb])
  all_goals (try rw [ba_eq])
  all_goals simp_all
  all_goals omega
theorem e0 {s : ByteArray} : decide (s.data.toList = []) = decide (s = ⟨#[]⟩) := (ba_eq (u := ⟨#[]⟩)).symm
def hdS8 (x : Tm) (free : Int) (alt o : Bool) : AS := ⟨tm [(8, .s (.bool o)), (7, .s (.int .i64 x.f3.length)), (1, .s (.int .i64 free)), (2, .s (.bool alt)), (3, .ptr 0 0)], bm [(0, some (cX x))], bm [], 1⟩
def hdS9 (x : Tm) (free : Int) (alt o p : Bool) : AS := ⟨tm [(9, .s (.bool p)), (8, .s (.bool o)), (7, .s (.int .i64 x.f3.length)), (1, .s (.int .i64 free)), (2, .s (.bool alt)), (3, .ptr 0 0)], bm [(0, some (cX x))], bm [], 1⟩
theorem oper_is (s : ByteArray) : oper s = (decide (s = ⟨[43].toArray⟩) || (decide (s = ⟨[45].toArray⟩) || (decide (s = ⟨[42].toArray⟩) || (decide (s = ⟨[47].toArray⟩) || (decide (s = ⟨[60].toArray⟩) || decide (s = ⟨[61, 61].toArray⟩)))))) := by
 unfold oper
 simp only [ba_eq, List.contains, List.elem, Bool.beq_eq_decide_eq]
 have bd : ∀ l : List UInt8, (s.data.toList == l) = decide (s.data.toList = l) := fun l => by by_cases e : s.data.toList = l <;> simp [e]
 (try simp only [bd])
 generalize decide (s.data.toList = [43]) = a; generalize decide (s.data.toList = [45]) = b; generalize decide (s.data.toList = [42]) = c; generalize decide (s.data.toList = [47]) = d; generalize decide (s.data.toList = [60]) = e; generalize decide (s.data.toList = [61, 61]) = f
 cases a <;> cases b <;> cases c <;> cases d <;> cases e <;> cases f <;> rfl
theorem bare_is (n : Int) (s : ByteArray) : bare n s = (decide (s = ⟨[].toArray⟩) && (n == 0)) := by
 unfold bare
 rw [ba_eq]
 by_cases h : n = 0 <;> simp [h]
abbrev THead : Spec := fun args out => ∃ (x : Tm) (free : Int) (alt : Bool), args = [.agg (encT x), .s (.int .i64 free), .s (.bool alt)] ∧ x.f2.size ≤ 1100000 ∧ out = .ret (.s (.bool (if alt then hd6 x else hd1 x free)))
set_option maxHeartbeats 4000000 in
theorem c_head {J : JW} (hJ : JOk J) : Con Tryz.prog J 45 THead := by
 obtain ⟨code, h1, h2, h3, h4⟩ := k45
 refine conF (ins 3 (ins 4 c45)) (ok_cons (c_con hJ) ok_nil) hJ h1 h2 h3 h4 (by kernel_rfl) fun args out h => ?_
 obtain ⟨x, free, alt, rfl, hs, rfl⟩ := h
 refine ⟨rfl, by rw [Tryz.ntmps45]; simp, ?_⟩
 rw [encT_is]
 unfold c45
 simp only [ins]
 refine go ?_
 simp only [encTs_len]
 refine joinG (hdS8 x free alt (oper x.f2)) ?_ (by
  rw [oper_is]
  repeat' first
  |refine go ?_
   | (refine spl (by simp (config := { decide := true }) only [tm_hit, tm_miss, ne_eq, not_false_eq_true]; rfl) (fun hb => ?_) (fun hb => ?_) <;> simp only [hb])
  all_goals (simp only [Bool.true_or, Bool.false_or, hdS8]; exact lm [(0, 0)]))
 unfold hdS8
 refine go ?_
 refine joinG (hdS9 x free alt (oper x.f2) (bare x.f1 x.f2)) ?_ (by
  rw [bare_is]
  repeat' first
  |refine go ?_
   | (refine spl (by simp (config := { decide := true }) only [tm_hit, tm_miss, ne_eq, not_false_eq_true]; rfl) (fun hb => ?_) (fun hb => ?_) <;> simp only [hb])
  all_goals (simp only [Bool.true_and, Bool.false_and, hdS9]; exact lm [(0, 0)]))
 unfold hdS9
 cases alt with
 | true =>
  repeat' first
  |refine go ?_
   | (refine spl (by simp (config := { decide := true }) only [tm_hit, tm_miss, ne_eq, not_false_eq_true]; rfl) (fun hb => ?_) (fun hb => ?_) <;> simp only [hb])
   | (refine call (T := TCon) ⟨x.f2, rfl, hs, rfl⟩ ?_)
  all_goals (simp_all [hd6])
  all_goals first
   | omega
   | (intros; omega)
   | (rw [Bool.eq_iff_iff]; simp; done)
   | (rw [Bool.eq_iff_iff]; simp; omega)
 | false =>
  repeat' first
  |refine go ?_
   | (refine spl (by simp (config := { decide := true }) only [tm_hit, tm_miss, ne_eq, not_false_eq_true]; rfl) (fun hb => ?_) (fun hb => ?_) <;> simp only [hb])
   | (refine call (T := TCon) ⟨x.f2, rfl, hs, rfl⟩ ?_)
   | (refine both (fun hb => ?_) (fun hb => ?_))
  all_goals (try simp only [hd1, e0])
  all_goals (simp_all)
  all_goals first
   | omega
   | (intros; omega)
   | (rw [Bool.eq_iff_iff]; simp; done)
   | (rw [Bool.eq_iff_iff]; simp; omega)
end Go.Proofs.YtnjmilelifmfpaaGreatDoor.Ev

namespace Go.Proofs.YtnjmilelifmfpaaGreatDoor.Ev
open Go Go.RowKit
open HCore (wt wts may same height heights size sizes oper bare each alts)
open Pure.R6P (hd1 hd6 may6)
set_option linter.unusedSimpArgs false
set_option linter.unusedVariables false
theorem each_drop {l : List Tm} {i : Nat} {y : Tm} (h : l[i]? = some y) (free : Int) : each (l.drop i) free = (may y free && each (l.drop (i + 1)) free) := by
 have h1 := (List.getElem?_eq_some_iff.1 h)
 rw [List.drop_eq_getElem_cons h1.1, h1.2, each]
def nameIn (l : List Tm) (y : Tm) : Bool := l.any fun b => decide (b.f2.data.toList = y.f2.data.toList)
theorem alts_drop {l : List Tm} {i : Nat} {y : Tm} (h : l[i]? = some y) (free : Int) (seen : List Tm) : alts (l.drop i) free seen = (may6 y free && !nameIn seen y && alts (l.drop (i + 1)) free (seen ++ [y])) := by
 have h1 := (List.getElem?_eq_some_iff.1 h)
 rw [List.drop_eq_getElem_cons h1.1, h1.2, Pure.R6P.alts_is]; rfl
theorem seen_next {l : List Tm} {i : Nat} {y : Tm} (h : l[i]? = some y) (h1 : 1 ≤ i) : (l.take i).drop 1 ++ [y] = (l.take (i + 1)).drop 1 := by
 have hl := (List.getElem?_eq_some_iff.1 h)
 rw [List.take_add_one, h]
 simp only [Option.toList]
 rw [List.drop_append_of_le_length (by rw [List.length_take]; have := hl.1; omega)]
theorem nameIn_drop {l : List Tm} {k i : Nat} {z y : Tm} (h : l[k]? = some z) (hk : k < i) : nameIn ((l.take i).drop k) y = (decide (z.f2.data.toList = y.f2.data.toList) || nameIn ((l.take i).drop (k + 1)) y) := by
 have hl := (List.getElem?_eq_some_iff.1 h)
 have hlen : k < (l.take i).length := by rw [List.length_take]; have := hl.1; omega
 unfold nameIn
 rw [List.drop_eq_getElem_cons hlen, List.any_cons]
 congr 2
 rw [List.getElem_take, hl.2]
def restN (x : Tm) (fr : Int) (i : Nat) : Bool := each (x.f3.drop i) fr
def rest5 (x : Tm) (fr : Int) : Nat → Bool
 | 0 => match x.f3 with | [] => true | y :: r => may y fr && alts r fr []
 | i + 1 => alts (x.f3.drop (i + 1)) fr ((x.f3.take (i + 1)).drop 1)
def mayS (x : Tm) (fr : Int) (i : Nat) : AS := ⟨tm [(7, .s (.int .i64 i)), (1, .s (.int .i64 fr)), (3, .ptr 0 0)], bm [(0, some (cX x))], bm [], 1⟩
def mayS2 (x : Tm) (fr : Int) (i k : Nat) : AS := ⟨tm [(8, .s (.int .i64 k)), (7, .s (.int .i64 i)), (1, .s (.int .i64 fr)), (3, .ptr 0 0)], bm [(0, some (cX x))], bm [], 1⟩
theorem rest5_step {x : Tm} {fr : Int} {i : Nat} {y : Tm} (hy : x.f3[i]? = some y) : rest5 x fr i = ((if decide ((i : Int) > 0) = true then may6 y fr else may y fr) && (!nameIn ((x.f3.take i).drop 1) y && rest5 x fr (i + 1))) := by
 cases i with
 | zero =>
  unfold rest5
  cases hl : x.f3 with
  | nil => rw [hl] at hy; simp at hy
  | cons u r => rw [hl] at hy; simp at hy; subst hy; simp [nameIn]
 | succ j =>
  show alts (x.f3.drop (j + 1)) fr ((x.f3.take (j + 1)).drop 1) = (_ && (_ && alts (x.f3.drop (j + 2)) fr ((x.f3.take (j + 2)).drop 1)))
  rw [alts_drop hy, seen_next hy (by omega), if_pos (by simp), Bool.and_assoc]
abbrev TMay6 (n : Nat) : Spec := fun args out => ∃ (x : Tm) (free : Int) (alt : Bool), args = [.agg (encT x), .s (.int .i64 free), .s (.bool alt)] ∧ height x < n ∧ size x ≤ 1000000000 ∧ mx x ≤ 1100000 ∧ 0 ≤ free ∧ free + 9 * (height x : Int) ≤ 9000000000000000000 ∧ out = .ret (.s (.bool (if alt then may6 x free else may x free)))
theorem may_of (x : Tm) (free : Int) (h : 0 ≤ free) : may x free = (hd1 x free && (if x.f0 = 5 then rest5 x free 0 else each x.f3 (if x.f0 = 2 then free + 1 else free))) := by
 obtain ⟨k, n, s, l⟩ := x
 rw [Pure.R6P.may_parts k n s l free h]; rfl
set_option maxHeartbeats 4000000 in
theorem c_may6 {J : JW} (hJ : JOk J) : ∀ n, Con Tryz.prog J 26 (TMay6 n)
 | 0 => fun args out ⟨x, _, _, _, h, _⟩ => by omega
 | n + 1 => by
  obtain ⟨code, h1, h2, h3, h4⟩ := k26
  refine conF (ins 2 (ins 4 c26)) (ok_cons (c_may6 hJ n) (ok_cons (c_head hJ) ok_nil)) hJ h1 h2 h3 h4 (by kernel_rfl) fun args out h => ?_
  obtain ⟨x, free, alt, rfl, hn, hs, hw, f0, f1, rfl⟩ := h
  refine ⟨rfl, by rw [Tryz.ntmps26]; simp, ?_⟩
  have s4 := mx_of x
  have s2 := height_of x
  have s5 := len_sizes x.f3
  have s6 := size_of x
  rw [encT_is]
  unfold c26
  simp only [ins]
  refine go ?_
  simp only [show ¬ free < 0 by omega, decide_false]
  refine go ?_
  refine call (T := THead) ⟨x, free, alt, by rw [encT_is], by omega, rfl⟩ ?_
  generalize hv : (if alt = true then hd6 x else hd1 x free) = v
  cases v with
  | false =>
   refine go ?_
   cases alt with
   | true => simp only [if_true] at hv ⊢; unfold may6; rw [hv]; rfl
   | false => simp only [Bool.false_eq_true, if_false] at hv ⊢; rw [may_of x free f0, hv]; rfl
  | true =>
  refine go ?_
  generalize hfr : (if x.f0 = 2 then free + 1 else if x.f0 = 6 then free + x.f1 else free) = fr
  have h6 : x.f0 = 6 → alt = true ∧ 0 ≤ x.f1 ∧ x.f1 ≤ 8 := fun h => by
   cases alt with
   | true => simp only [if_true, hd6, Bool.and_eq_true, decide_eq_true_eq] at hv; exact ⟨rfl, hv.1.1.2, hv.1.2⟩
   | false => simp [hd1, h] at hv
  have hfr0 : 0 ≤ fr ∧ fr ≤ free + 8 := by
   subst hfr
   split
   ·omega
   ·split
    ·have := h6 (by assumption); omega
    ·omega
  have hres : (if alt = true then may6 x free else may x free) = (if x.f0 = 5 then rest5 x fr 0 else restN x fr 0) := by
   cases alt with
   | true =>
    have h06 : x.f0 = 6 := by simp only [if_true, hd6, Bool.and_eq_true, decide_eq_true_eq] at hv; exact hv.1.1.1.1
    simp only [if_true] at hv ⊢
    subst hfr
    simp [may6, hv, h06, restN]
   | false =>
    have h06 : x.f0 ≠ 6 := fun h => by have := h6 h; simp at this
    simp only [Bool.false_eq_true, if_false] at hv ⊢
    subst hfr
    rw [may_of x free f0, hv, Bool.true_and]
    by_cases h5 : x.f0 = 5
    ·simp [h5]
    ·simp [h5, h06, restN]
  rw [hres]
  refine ⟨⟨tm [(1, .s (.int .i64 free)), (3, .ptr 0 0)], bm [(0, some (cX x))], bm [], 1⟩, lm [(0, 0)], ?_⟩
  refine seqS2 ⟨tm [(1, .s (.int .i64 fr)), (3, .ptr 0 0)], bm [(0, some (cX x))], bm [], 1⟩ ?_ (by
   refine go ?_
   refine both (fun hb => ?_) (fun hb => ?_)
   ·have hb' : x.f0 = 2 := by simpa using hb
    (try simp only [show (x.f0 == 6) = false by rw [hb']; rfl])
    (try refine go ?_)
    rw [wr (by omega) (by omega), ← hfr, if_pos hb']
    exact lm [(0, 0)]
   ·have hb' : x.f0 ≠ 2 := by simpa using hb
    refine both (fun hc => ?_) (fun hc => ?_)
    ·have hc' : x.f0 = 6 := by simpa using hc
     have := h6 hc'
     (try refine go ?_)
     rw [wr (by omega) (by omega), ← hfr, if_neg hb', if_pos hc']
     exact lm [(0, 0)]
    ·have hc' : x.f0 ≠ 6 := by simpa using hc
     (try refine go ?_)
     rw [← hfr, if_neg hb', if_neg hc']
     exact lm [(0, 0)])
  refine go ?_
  by_cases h5 : x.f0 = 5
  ·rw [if_pos h5]
   have e5 : (x.f0 == 5) = true := by simpa using h5
   refine countI x.f3.length (fun i (_ : Unit) => rest5 x fr i = rest5 x fr 0) (fun i _ => mayS x fr i) () rfl (lm [(0, 0)]) fun i _ hi hI => ?_
   unfold mayS
   refine go ?_
   by_cases q : (i : Int) < (encTs x.f3).length
   ·simp only [q, decide_true]
    obtain ⟨y, hy, hm, hl⟩ := part q
    have g1 := height_mem hm
    have g2 := mx_mem hm
    have g3 := sizes_mem hm
    rw [rest5_step hy] at hI
    simp only [eget hy, e5]
    refine go ?_
    refine call (T := TMay6 n) ⟨y, fr, decide ((i : Int) > 0), by rw [encT_is], by omega, by omega, by omega, by omega, by omega, rfl⟩ ?_
    generalize hmy : (if decide ((i : Int) > 0) = true then may6 y fr else may y fr) = v at hI
    cases v with
    | false =>
     (try rw [Bool.false_and] at hI)
     refine go ?_
     exact hI
    | true =>
     (try rw [Bool.true_and] at hI)
     refine go ?_
     refine loop (ι := { k : Nat // 1 ≤ k ∧ (k ≤ i ∨ k = 1) ∧ nameIn ((x.f3.take i).drop 1) y = nameIn ((x.f3.take i).drop k) y }) (fun k => mayS2 x fr i k.1) (fun k => i - k.1) ⟨1, by omega, .inr rfl, rfl⟩ (lm [(0, 0)]) fun ⟨k, hk, hk2, hk3⟩ => ?_
     unfold mayS2
     refine go ?_
     refine spl (by simp (config := { decide := true }) only [tm_hit, tm_miss, ne_eq, not_false_eq_true]; rfl) (fun hb => ?_) (fun hb => ?_) <;> simp only [hb]
     ·refine go ?_
      simp only [e5]
      refine go ?_
      have hki : k < i := by simpa using hb
      obtain ⟨z, hz⟩ : ∃ z, x.f3[k]? = some z := ⟨x.f3[k]'(by omega), by simp⟩
      rw [nameIn_drop hz hki] at hk3
      simp only [eget hz, eget hy]
      refine go ?_
      refine both (fun hc => ?_) (fun hc => ?_)
      ·(try refine go ?_)
       rw [← hI, hk3, hc]; simp
      ·have hc' : decide (z.f2.data.toList = y.f2.data.toList) = false := by rw [← ba_eq]; exact decide_eq_false hc
       rw [hc', Bool.false_or] at hk3
       (try refine go ?_)
       rw [nxt (by omega)]
       exact ⟨⟨k + 1, by omega, .inl (by omega), hk3⟩, lm [(0, 0)], by simp only; omega⟩
     ·have hki : ¬ k < i := by simpa using hb
      have hnil : (x.f3.take i).drop k = [] := List.drop_eq_nil_of_le (by rw [List.length_take]; omega)
      rw [hnil] at hk3
      rw [hk3, show nameIn [] y = false from rfl, Bool.not_false, Bool.true_and] at hI
      refine go ?_
      rw [nxt (by omega)]
      exact ⟨hl, (), hI, lm [(0, 0)]⟩
   ·simp only [q, decide_false]
    have := fin_at hi q
    subst this
    refine go ?_
    rw [← hI]
    cases hl0 : x.f3.length with
    | zero => have := List.eq_nil_of_length_eq_zero hl0; simp [rest5, this]
    | succ m => show true = alts (x.f3.drop (m + 1)) fr _; rw [show x.f3.drop (m + 1) = [] from List.drop_eq_nil_of_le (by omega)]; rfl
  ·rw [if_neg h5]
   have e5 : (x.f0 == 5) = false := by simpa using h5
   refine countI x.f3.length (fun i (_ : Unit) => restN x fr i = restN x fr 0) (fun i _ => mayS x fr i) () rfl (lm [(0, 0)]) fun i _ hi hI => ?_
   unfold mayS
   refine go ?_
   by_cases q : (i : Int) < (encTs x.f3).length
   ·simp only [q, decide_true]
    obtain ⟨y, hy, hm, hl⟩ := part q
    have g1 := height_mem hm
    have g2 := mx_mem hm
    have g3 := sizes_mem hm
    have hI' := hI
    unfold restN at hI'
    rw [each_drop hy] at hI'
    simp only [eget hy, e5]
    refine go ?_
    refine call (T := TMay6 n) ⟨y, fr, false, by rw [encT_is], by omega, by omega, by omega, by omega, by omega, rfl⟩ ?_
    simp only [Bool.false_eq_true, if_false]
    cases hmy : may y fr with
    | false =>
     rw [hmy, Bool.false_and] at hI'
     refine go ?_
     exact hI'
    | true =>
     rw [hmy, Bool.true_and] at hI'
     refine go ?_
     refine loop (ι := Unit) (fun _ => mayS2 x fr i 1) (fun _ => 0) () (lm [(0, 0)]) fun _ => ?_
     unfold mayS2
     refine go ?_
     refine spl (by simp (config := { decide := true }) only [tm_hit, tm_miss, ne_eq, not_false_eq_true]; rfl) (fun hb => ?_) (fun hb => ?_) <;> simp only [hb]
     ·refine go ?_
      simp only [e5]
      refine go ?_
      rw [nxt (by omega)]
      exact ⟨hl, (), hI', lm [(0, 0)]⟩
     ·refine go ?_
      rw [nxt (by omega)]
      exact ⟨hl, (), hI', lm [(0, 0)]⟩
   ·simp only [q, decide_false]
    have := fin_at hi q
    subst this
    refine go ?_
    rw [← hI]; unfold restN; rw [List.drop_length]; rfl
abbrev TRMay : Spec := fun args out => ∃ (x : Tm) (free : Int), args = [.agg (encT x), .s (.int .i64 free)] ∧ size x ≤ 1000000000 ∧ mx x ≤ 1100000 ∧ 0 ≤ free ∧ free + 9 * (height x : Int) ≤ 9000000000000000000 ∧ out = .ret (.s (.bool (may x free)))
theorem c_rmay {J : JW} (hJ : JOk J) : Con Tryz.prog J 17 TRMay := by
 obtain ⟨code, h1, h2, h3, h4⟩ := k17
 intro args out ho
 obtain ⟨x, free, rfl, hs, hw, f0, f1, rfl⟩ := ho
 refine con (T := fun args out => args = [.agg (encT x), .s (.int .i64 free)] ∧ out = .ret (.s (.bool (may x free)))) (ok_cons (c_may6 hJ (height x + 1)) ok_nil) hJ h1 h2 h3 h4 (fun args out h => ?_) rfl (by kernel_rfl) _ _ ⟨rfl, rfl⟩
 obtain ⟨rfl, rfl⟩ := h
 refine ⟨rfl, by rw [Tryz.ntmps17]; simp, ?_⟩
 rw [encT_is]
 unfold c17
 refine go ?_
 refine call (T := TMay6 _) ⟨x, free, false, by rw [encT_is], by omega, hs, hw, f0, f1, rfl⟩ ?_
 refine go ?_
 trivial
end Go.Proofs.YtnjmilelifmfpaaGreatDoor.Ev

namespace Go.Proofs.YtnjmilelifmfpaaGreatDoor.Pure
open Go Go.RowKit Go.Proofs.YtnjmilelifmfpaaGreatDoor.Q
open HCore HSub
set_option linter.unusedVariables false
set_option linter.unusedSimpArgs false
namespace CoreTurn
theorem len_turns (g : T → Int → T) : ∀ (l : List T) (b : Int), (turns g l b).length = l.length
 | [], _ => rfl
 | x :: r, b => by simp only [turns, List.length_cons, len_turns g r b]
theorem any_names (s : List UInt8) : ∀ (p q : List T), p.map (·.f2) = q.map (·.f2) → (p.any fun b => decide (b.f2.data.toList = s)) = (q.any fun b => decide (b.f2.data.toList = s))
 | [], [], _ => rfl
 | [], _ :: _, h => by simp at h
 | _ :: _, [], h => by simp at h
 | x :: p, y :: q, h => by
  simp only [List.map_cons, List.cons.injEq] at h
  simp only [List.any_cons, h.1, any_names s p q h.2]
structure Goes (g : T → Int → T) (a c : Int) : Prop where
 hc : 0 ≤ c
 hg : ∀ v b, 0 ≤ b → v.f0 = 1 → may v (a + b) = true → may (g v b) (c + b) = true
mutual
theorem turn_may (g : T → Int → T) (a c : Int) (H : Goes g a c) : ∀ (x : T) (b : Int), 0 ≤ b → may x (a + b) = true → may (turn g x b) (c + b) = true
 | ⟨k, n, s, l⟩, b, hb, h => by
  by_cases hk1 : k = 1
  ·have : turn g ⟨k, n, s, l⟩ b = g ⟨k, n, s, l⟩ b := by simp only [turn]; rw [if_pos hk1]
   rw [this]; exact H.hg _ b hb hk1 h
  ·have e : turn g ⟨k, n, s, l⟩ b = ⟨k, n, s, turns g l (b + more k n)⟩ := by simp only [turn]; rw [if_neg hk1]
   rw [e]
   simp only [may, len_turns] at h ⊢
   rw [if_neg hk1] at h ⊢
   by_cases h7 : k = 7
   ·simp only [h7, if_true, Bool.and_eq_true, decide_eq_true_eq] at h ⊢
    exact ⟨h.1, by have := H.hc; omega⟩
   rw [if_neg h7] at h ⊢
   by_cases h9 : k = 9
   ·simp only [h9, if_true, Bool.and_eq_true, decide_eq_true_eq] at h ⊢
    exact ⟨h.1, by have := H.hc; omega⟩
   rw [if_neg h9] at h ⊢
   by_cases h2 : k = 2
   ·subst h2
    simp only [if_true, Bool.and_eq_true, decide_eq_true_eq] at h ⊢
    have e1 : a + (b + more 2 n) = a + b + 1 := by show a + (b + 1) = _; omega
    have e2 : c + (b + more 2 n) = c + b + 1 := by show c + (b + 1) = _; omega
    have := each_turn g a c H l (b + more 2 n) (by show 0 ≤ b + 1; omega) (by rw [e1]; exact h.2)
    rw [e2] at this
    exact ⟨⟨h.1.1, by have := H.hc; omega⟩, this⟩
   rw [if_neg h2] at h ⊢
   have hm : (k = 6 → False) → b + more k n = b := fun h6 => by unfold more; rw [if_neg h2, if_neg (fun h => h6 h)]; omega
   by_cases h3 : k = 3
   ·have := hm (by omega)
    simp only [h3, if_true, Bool.and_eq_true, decide_eq_true_eq] at h ⊢
    rw [h3] at this; rw [this]
    exact ⟨h.1, each_turn g a c H l b hb h.2⟩
   rw [if_neg h3] at h ⊢
   by_cases h8 : k = 8
   ·have := hm (by omega)
    simp only [h8, if_true, Bool.and_eq_true, decide_eq_true_eq] at h ⊢
    rw [h8] at this; rw [this]
    exact ⟨h.1, each_turn g a c H l b hb h.2⟩
   rw [if_neg h8] at h ⊢
   by_cases h4 : k = 4
   ·have := hm (by omega)
    simp only [h4, if_true, Bool.and_eq_true, decide_eq_true_eq] at h ⊢
    rw [h4] at this; rw [this]
    exact ⟨⟨h.1.1, by have := H.hc; omega⟩, each_turn g a c H l b hb h.2⟩
   rw [if_neg h4] at h ⊢
   by_cases h5 : k = 5
   ·have := hm (by omega)
    simp only [h5, if_true, Bool.and_eq_true, decide_eq_true_eq] at h ⊢
    rw [h5] at this; rw [this]
    exact ⟨h.1, case_turn g a c H l b hb h.2⟩
   rw [if_neg h5] at h; cases h
theorem each_turn (g : T → Int → T) (a c : Int) (H : Goes g a c) : ∀ (l : List T) (b : Int), 0 ≤ b → each l (a + b) = true → each (turns g l b) (c + b) = true
 | [], _, _, _ => rfl
 | x :: r, b, hb, h => by
  simp only [each, turns, Bool.and_eq_true] at h ⊢
  exact ⟨turn_may g a c H x b hb h.1, each_turn g a c H r b hb h.2⟩
theorem case_turn (g : T → Int → T) (a c : Int) (H : Goes g a c) : ∀ (l : List T) (b : Int), 0 ≤ b → mayCase l (a + b) = true → mayCase (turns g l b) (c + b) = true
 | [], _, _, h => by simp [mayCase] at h
 | x :: r, b, hb, h => by
  simp only [mayCase, turns, len_turns, Bool.and_eq_true] at h ⊢
  exact ⟨⟨⟨turn_may g a c H x b hb h.1.1.1, alts_turn g a c H r b [] [] hb rfl h.1.1.2⟩, h.1.2⟩, h.2⟩
theorem alts_turn (g : T → Int → T) (a c : Int) (H : Goes g a c) : ∀ (l : List T) (b : Int) (p q : List T), 0 ≤ b → p.map (·.f2) = q.map (·.f2) → alts l (a + b) p = true → alts (turns g l b) (c + b) q = true
 | [], _, _, _, _, _, _ => rfl
 | ⟨k, n, s, l⟩ :: r, b, p, q, hb, hpq, h => by
  simp only [alts, Bool.and_eq_true, decide_eq_true_eq] at h
  have h6 : k = 6 := h.1.1.1.1.1.1.1
  have hn : 0 ≤ n := h.1.1.1.1.1.2
  have e : turn g ⟨k, n, s, l⟩ b = ⟨k, n, s, turns g l (b + n)⟩ := by
   simp only [turn]; rw [if_neg (by omega)]; rw [h6]; rfl
  simp only [turns]
  rw [e]
  simp only [alts, len_turns, Bool.and_eq_true, decide_eq_true_eq]
  have e1 : a + (b + n) = a + b + n := by omega
  have e2 : c + (b + n) = c + b + n := by omega
  have h1 := each_turn g a c H l (b + n) (by omega) (by rw [e1]; exact h.1.1.2)
  rw [e2] at h1
  have h2 := h.1.2
  rw [any_names s.data.toList p q hpq] at h2
  exact ⟨⟨⟨h.1.1.1, h1⟩, h2⟩, alts_turn g a c H r b _ _ hb (by simp [hpq]) h.2⟩
end
theorem may_var (v : T) (f : Int) (h : v.f0 = 1) : may v f = (decide (v.f3.length = 0) && decide (v.f2.data.toList = []) && decide (0 ≤ v.f1) && decide (v.f1 ≤ f - 1)) := by
 cases v; rename_i k n s l
 simp only at h
 simp only [may]; rw [if_pos h]
theorem may_bump (v : T) (m a c : Int) (h : v.f0 = 1) (hm : may v a = true) (h0 : 0 ≤ v.f1 + m) (h1 : v.f1 + m ≤ c - 1) : may (bump v m) c = true := by
 rw [may_var v a h] at hm
 rw [may_var (bump v m) c h]
 simp only [Bool.and_eq_true, decide_eq_true_eq] at hm ⊢
 exact ⟨⟨hm.1.1, h0⟩, h1⟩
theorem var_is (v : T) (a : Int) (h : v.f0 = 1) (hm : may v a = true) : 0 ≤ v.f1 ∧ v.f1 < a := by
 rw [may_var v a h] at hm
 simp only [Bool.and_eq_true, decide_eq_true_eq] at hm
 omega
theorem var_mono (v : T) (a c : Int) (h : v.f0 = 1) (hm : may v a = true) (hc : v.f1 < c) : may v c = true := by
 rw [may_var v a h] at hm
 rw [may_var v c h]
 simp only [Bool.and_eq_true, decide_eq_true_eq] at hm ⊢
 exact ⟨hm.1, by omega⟩
theorem up_may (x : T) (m fr a : Int) (ha : 0 ≤ a) (hm : 0 ≤ m) (h : may x a = true) : may (up x m fr) (a + m) = true := by
 have := turn_may (upV m fr) a (a + m) ⟨by omega, fun v b hb hv hx => by
  have := var_is v _ hv hx
  unfold upV
  split
  ·exact may_bump v m _ _ hv hx (by omega) (by omega)
  ·exact var_mono v _ _ hv hx (by omega)⟩ x 0 (by omega) (by rw [Int.add_zero]; exact h)
 rw [Int.add_zero] at this; exact this
theorem put_may (x s : T) (a : Int) (ha : 0 ≤ a) (hx : may x (a + 1) = true) (hs : may s a = true) : may (put x 0 s) a = true := by
 have := turn_may (putV 0 s) (a + 1) a ⟨ha, fun v b hb hv hm => by
  have := var_is v _ hv hm
  unfold putV
  split
  ·have h := up_may s b 0 a ha hb hs
   exact h
  ·split
   ·exact may_bump v _ _ _ hv hm (by omega) (by omega)
   ·exact var_mono v _ _ hv hm (by omega)⟩ x 0 (by omega) (by rw [Int.add_zero]; exact hx)
 rw [Int.add_zero] at this; exact this
theorem inst_may (x : T) (l : List T) (a : Int) (ha : 0 ≤ a) (hx : may x (a + l.length) = true) (hl : ∀ y ∈ l, may y a = true) : may (inst x l) a = true := by
 have := turn_may (instV l) (a + l.length) a ⟨ha, fun v b hb hv hm => by
  have := var_is v _ hv hm
  unfold instV
  split
  ·exact var_mono v _ _ hv hm (by omega)
  ·split
   ·rename_i h1 h2
    have hlt : l.length - 1 - (v.f1 - b).toNat < l.length := by omega
    have hy : may (l.getD (l.length - 1 - (v.f1 - b).toNat) ⟨0, 0, ⟨#[]⟩, []⟩) a = true := by
     rw [List.getD_eq_getElem?_getD, List.getElem?_eq_getElem hlt]
     exact hl _ (List.getElem_mem hlt)
    exact up_may _ b 0 a ha hb hy
   ·exact may_bump v _ _ _ hv hm (by omega) (by omega)⟩ x 0 (by omega) (by rw [Int.add_zero]; exact hx)
 rw [Int.add_zero] at this; exact this
end CoreTurn
end Go.Proofs.YtnjmilelifmfpaaGreatDoor.Pure

namespace Go.Proofs.YtnjmilelifmfpaaGreatDoor.Pure
open Go Go.RowKit Go.Proofs.YtnjmilelifmfpaaGreatDoor.Q
open HCore HSub
set_option linter.unusedVariables false
set_option linter.unusedSimpArgs false
namespace CoreStep
open CoreTurn
theorem may_is (k n : Int) (s : ByteArray) (l : List T) (free : Int) : may ⟨k, n, s, l⟩ free =
  (if k = 1 then decide (l.length = 0) && decide (s.data.toList = []) && decide (0 ≤ n) && decide (n ≤ free - 1)
  else if k = 7 then decide (l.length = 0) && decide (s.data.toList = []) && decide (0 ≤ free)
  else if k = 9 then decide (l.length = 0) && bare n s && decide (0 ≤ free)
  else if k = 2 then decide (l.length = 1) && bare n s && decide (0 ≤ free) && each l (free + 1)
  else if k = 3 then decide (l.length = 2) && bare n s && each l free
  else if k = 8 then decide (l.length = 2) && decide (n = 0) && oper s && each l free
  else if k = 4 then decide (l.length ≤ 8) && decide (n = 0) && con s && decide (0 ≤ free) && each l free
  else if k = 5 then decide (2 ≤ l.length) && bare n s && mayCase l free
  else false) := by rw [may]
theorem may_fail (a : Int) (ha : 0 ≤ a) : may failT a = true := by
 unfold failT; rw [may_is]; simp [bare, ha]
theorem may_num (n a : Int) (ha : 0 ≤ a) : may (num n) a = true := by
 unfold num; rw [may_is]; simp [ha]
theorem con_true : con ⟨#[84, 114, 117, 101]⟩ = true := by decide +kernel
theorem con_false : con ⟨#[70, 97, 108, 115, 101]⟩ = true := by decide +kernel
theorem may_truth (b : Bool) (a : Int) (ha : 0 ≤ a) : may (truth b) a = true := by
 unfold truth; rw [may_is]
 cases b
 ·simp [con_false, ha, each]
 ·simp [con_true, ha, each]
theorem may_compute (s : List UInt8) (p q a : Int) (ha : 0 ≤ a) : may (compute s p q).1 a = true := by
 unfold compute
 split
 ·exact may_num _ a ha
 split
 ·exact may_num _ a ha
 split
 ·exact may_num _ a ha
 split
 ·split
  ·exact may_fail a ha
  ·exact may_num _ a ha
 split
 ·exact may_truth _ a ha
 split
 ·exact may_truth _ a ha
 ·exact may_num _ a ha
theorem each_get {l : List T} {a : Int} (h : each l a = true) {x : T} (hx : x ∈ l) : may x a = true := by
 rw [each_iff] at h; exact List.all_eq_true.1 h x hx
theorem alt_get : ∀ {l : List T} {a : Int} {p : List T}, alts l a p = true → ∀ x ∈ l, x.f0 = 6 ∧ 0 ≤ x.f1 ∧ x.f1 ≤ 8 ∧ x.f3.length = 1 ∧ each x.f3 (a + x.f1) = true
 | [], _, _, _, _, hx => by cases hx
 | ⟨k, n, s, l⟩ :: r, a, p, h, x, hx => by
  simp only [alts, Bool.and_eq_true, decide_eq_true_eq] at h
  rcases List.mem_cons.1 hx with rfl | hx
  ·exact ⟨h.1.1.1.1.1.1.1, h.1.1.1.1.1.2, h.1.1.1.1.2, h.1.1.1.2, h.1.1.2⟩
  ·exact alt_get h.2 x hx
theorem find_mem {s : List UInt8} {n : Int} {a : T} : ∀ {l : List T}, find s n l = some a → a ∈ l ∧ a.f1 = n
 | [], h => by simp [find] at h
 | x :: r, h => by
  simp only [find] at h
  split at h
  ·rename_i hc; cases h; exact ⟨List.mem_cons_self .., hc.2⟩
  ·have := find_mem h; exact ⟨List.mem_cons_of_mem _ this.1, this.2⟩
theorem hd_one {l : List T} (h : l.length = 1) : ∃ x, l = [x] := by
 match l, h with
 | [x], _ => exact ⟨x, rfl⟩
theorem hd_two {l : List T} (h : l.length = 2) : ∃ x y, l = [x, y] := by
 match l, h with
 | [x, y], _ => exact ⟨x, y, rfl⟩
theorem app_is {n : Int} {s : ByteArray} {l : List T} {a : Int} (h : may ⟨3, n, s, l⟩ a = true) : ∃ x y, l = [x, y] ∧ may x a = true ∧ may y a = true ∧ bare n s = true := by
 rw [may_is] at h
 simp only [show ¬ (3 : Int) = 1 by decide, show ¬ (3 : Int) = 7 by decide, show ¬ (3 : Int) = 9 by decide, show ¬ (3 : Int) = 2 by decide, if_false, if_true, Bool.and_eq_true, decide_eq_true_eq] at h
 obtain ⟨x, y, rfl⟩ := hd_two h.1.1
 exact ⟨x, y, rfl, each_get h.2 (by simp), each_get h.2 (by simp), h.1.2⟩
theorem op_is {n : Int} {s : ByteArray} {l : List T} {a : Int} (h : may ⟨8, n, s, l⟩ a = true) : ∃ x y, l = [x, y] ∧ may x a = true ∧ may y a = true ∧ n = 0 ∧ oper s = true := by
 rw [may_is] at h
 simp only [show ¬ (8 : Int) = 1 by decide, show ¬ (8 : Int) = 7 by decide, show ¬ (8 : Int) = 9 by decide, show ¬ (8 : Int) = 2 by decide, show ¬ (8 : Int) = 3 by decide, if_false, if_true, Bool.and_eq_true, decide_eq_true_eq] at h
 obtain ⟨x, y, rfl⟩ := hd_two h.1.1.1
 exact ⟨x, y, rfl, each_get h.2 (by simp), each_get h.2 (by simp), h.1.1.2, h.1.2⟩
theorem case_is {n : Int} {s : ByteArray} {l : List T} {a : Int} (h : may ⟨5, n, s, l⟩ a = true) : ∃ x r, l = x :: r ∧ may x a = true ∧ alts r a [] = true ∧ 1 ≤ r.length ∧ r.length ≤ 8 ∧ bare n s = true := by
 rw [may_is] at h
 simp only [show ¬ (5 : Int) = 1 by decide, show ¬ (5 : Int) = 7 by decide, show ¬ (5 : Int) = 9 by decide, show ¬ (5 : Int) = 2 by decide, show ¬ (5 : Int) = 3 by decide, show ¬ (5 : Int) = 8 by decide, show ¬ (5 : Int) = 4 by decide, if_false, if_true, Bool.and_eq_true, decide_eq_true_eq] at h
 match l, h with
 | x :: r, h =>
  simp only [mayCase, Bool.and_eq_true, decide_eq_true_eq] at h
  exact ⟨x, r, rfl, h.2.1.1.1, h.2.1.1.2, h.2.1.2, h.2.2, h.1.2⟩
theorem mk_app {n : Int} {s : ByteArray} {x y : T} {a : Int} (hx : may x a = true) (hy : may y a = true) (hb : bare n s = true) : may ⟨3, n, s, [x, y]⟩ a = true := by
 rw [may_is]
 simp [hx, hy, hb, each]
theorem mk_op {s : ByteArray} {x y : T} {a : Int} (hx : may x a = true) (hy : may y a = true) (hb : oper s = true) : may ⟨8, 0, s, [x, y]⟩ a = true := by
 rw [may_is]
 simp [hx, hy, hb, each]
theorem mk_case {n : Int} {s : ByteArray} {x : T} {r : List T} {a : Int} (hx : may x a = true) (hr : alts r a [] = true) (h1 : 1 ≤ r.length) (h8 : r.length ≤ 8) (hb : bare n s = true) : may ⟨5, n, s, x :: r⟩ a = true := by
 rw [may_is]
 simp [hx, hr, hb, mayCase, h8]
 omega
theorem kinds {x : T} {a : Int} (h : may x a = true) : x.f0 = 1 ∨ x.f0 = 7 ∨ x.f0 = 9 ∨ x.f0 = 2 ∨ x.f0 = 3 ∨ x.f0 = 8 ∨ x.f0 = 4 ∨ x.f0 = 5 := by
 cases x; rename_i k n s l
 rw [may_is] at h
 show k = 1 ∨ k = 7 ∨ k = 9 ∨ k = 2 ∨ k = 3 ∨ k = 8 ∨ k = 4 ∨ k = 5
 by_cases h1 : k = 1
 ·omega
 rw [if_neg h1] at h
 by_cases h7 : k = 7
 ·omega
 rw [if_neg h7] at h
 by_cases h9 : k = 9
 ·omega
 rw [if_neg h9] at h
 by_cases h2 : k = 2
 ·omega
 rw [if_neg h2] at h
 by_cases h3 : k = 3
 ·omega
 rw [if_neg h3] at h
 by_cases h8 : k = 8
 ·omega
 rw [if_neg h8] at h
 by_cases h4 : k = 4
 ·omega
 rw [if_neg h4] at h
 by_cases h5 : k = 5
 ·omega
 rw [if_neg h5] at h; cases h
theorem lam_is {x : T} {a : Int} (h : may x a = true) (h2 : x.f0 = 2) : ∃ y, x.f3 = [y] ∧ may y (a + 1) = true := by
 cases x; rename_i k n s l
 simp only at h2; subst h2
 rw [may_is] at h
 simp only [show ¬ (2 : Int) = 1 by decide, show ¬ (2 : Int) = 7 by decide, show ¬ (2 : Int) = 9 by decide, if_false, if_true, Bool.and_eq_true, decide_eq_true_eq] at h
 obtain ⟨y, rfl⟩ := hd_one h.1.1.1
 exact ⟨y, rfl, each_get h.2 (by simp)⟩
theorem con_is {x : T} {a : Int} (h : may x a = true) (h4 : x.f0 = 4) : x.f3.length ≤ 8 ∧ x.f1 = 0 ∧ con x.f2 = true ∧ each x.f3 a = true := by
 cases x; rename_i k n s l
 simp only at h4; subst h4
 rw [may_is] at h
 simp only [show ¬ (4 : Int) = 1 by decide, show ¬ (4 : Int) = 7 by decide, show ¬ (4 : Int) = 9 by decide, show ¬ (4 : Int) = 2 by decide, show ¬ (4 : Int) = 3 by decide, show ¬ (4 : Int) = 8 by decide, if_false, if_true, Bool.and_eq_true, decide_eq_true_eq] at h
 exact ⟨h.1.1.1.1, h.1.1.1.2, h.1.1.2, h.2⟩
theorem step_is (k n : Int) (s : ByteArray) (l : List T) : hstep ⟨k, n, s, l⟩ = if k = 3 then stepApp n s l else if k = 5 then stepCase n s l else if k = 8 then stepOp n s l else (⟨k, n, s, l⟩, 0) := by rw [hstep]
theorem step_may : ∀ (q : Nat) (x : T) (a : Int), height x ≤ q → 0 ≤ a → may x a = true → may (hstep x).1 a = true
 | 0, x, a, hq, _, _ => by cases x; simp only [height] at hq; omega
 | q + 1, ⟨k, n, s, l⟩, a, hq, ha, h => by
  simp only [height] at hq
  rw [step_is]
  by_cases h3 : k = 3
  ·subst h3
   rw [if_pos rfl]
   obtain ⟨x, y, rfl, hx, hy, hb⟩ := app_is h
   have hh : height x ≤ q := by have := height_get (l := [x, y]) (x := x) (by simp); omega
   simp only [stepApp]
   by_cases c2 : x.f0 = 2
   ·rw [if_pos c2]
    obtain ⟨z, hz, hmz⟩ := lam_is hx c2
    rw [hz]
    exact put_may z y a ha hmz hy
   ·rw [if_neg c2]
    split
    ·exact may_fail a ha
    ·split
     ·exact h
     ·exact mk_app (step_may q x a hh ha hx) hy hb
  rw [if_neg h3]
  by_cases h5 : k = 5
  ·subst h5
   rw [if_pos rfl]
   obtain ⟨x, r, rfl, hx, hr, h1, h8, hb⟩ := case_is h
   have hh : height x ≤ q := by have := height_get (l := x :: r) (x := x) (by simp); omega
   simp only [stepCase]
   split
   ·exact may_fail a ha
   ·split
    ·rename_i c4
     cases hf : find x.f2.data.toList x.f3.length r with
     | none => exact may_fail a ha
     | some z =>
      obtain ⟨hm, hn⟩ := find_mem hf
      obtain ⟨_, _, _, h1', he⟩ := alt_get hr z hm
      obtain ⟨b, hb1⟩ := hd_one h1'
      simp only [hb1]
      rw [hb1, hn] at he
      exact inst_may b x.f3 a ha (each_get he (by simp)) (fun y hy => each_get (con_is hx c4).2.2.2 hy)
    ·split
     ·exact h
     ·exact mk_case (step_may q x a hh ha hx) hr h1 h8 hb
  rw [if_neg h5]
  by_cases h8 : k = 8
  ·subst h8
   rw [if_pos rfl]
   obtain ⟨x, y, rfl, hx, hy, rfl, hb⟩ := op_is h
   have hh : height x ≤ q := by have := height_get (l := [x, y]) (x := x) (by simp); omega
   have hh2 : height y ≤ q := by have := height_get (l := [x, y]) (x := y) (by simp); omega
   simp only [stepOp]
   split
   ·exact may_fail a ha
   ·split
    ·simp only [stepOp2]
     split
     ·exact may_fail a ha
     ·split
      ·exact may_compute _ _ _ a ha
      ·split
       ·exact h
       ·exact mk_op hx (step_may q y a hh2 ha hy) hb
    ·split
     ·exact h
     ·exact mk_op (step_may q x a hh ha hx) hy hb
  rw [if_neg h8]
  exact h
end CoreStep
end Go.Proofs.YtnjmilelifmfpaaGreatDoor.Pure

namespace Go.Proofs.YtnjmilelifmfpaaGreatDoor.Pure
open Go Go.RowKit Go.Proofs.YtnjmilelifmfpaaGreatDoor.Q
open HCore HSub
set_option linter.unusedVariables false
set_option linter.unusedSimpArgs false
namespace CoreRun
open CoreTurn CoreStep
theorem size_pos : ∀ x : T, 1 ≤ size x
 | ⟨_, _, _, l⟩ => by simp only [size]; omega
theorem size_mem {l : List T} {x : T} (h : x ∈ l) : size x ≤ sizes l := by
 induction l with
 | nil => cases h
 | cons y r ih =>
  simp only [sizes]
  rcases List.mem_cons.1 h with rfl | h
  ·omega
  ·have := ih h; omega
mutual
theorem size_turn (g : T → Int → T) (m : Nat) (h1 : 1 ≤ m) (hg : ∀ v b, v.f0 = 1 → size (g v b) ≤ size v * m) : ∀ (x : T) (b : Int), size (turn g x b) ≤ size x * m
 | ⟨k, n, s, l⟩, b => by
  simp only [turn]
  split
  ·rename_i hk; exact hg _ b hk
  ·have := sizes_turn g m h1 hg l (b + more k n)
   simp only [size]
   rw [Nat.add_mul]; omega
theorem sizes_turn (g : T → Int → T) (m : Nat) (h1 : 1 ≤ m) (hg : ∀ v b, v.f0 = 1 → size (g v b) ≤ size v * m) : ∀ (l : List T) (b : Int), sizes (turns g l b) ≤ sizes l * m
 | [], _ => by simp [turns, sizes]
 | x :: r, b => by
  have h2 := size_turn g m h1 hg x b
  have h3 := sizes_turn g m h1 hg r b
  simp only [turns, sizes]
  rw [Nat.add_mul]; omega
end
theorem size_bump (v : T) (m : Int) : size (bump v m) = size v := by cases v; rfl
theorem size_up (x : T) (m fr : Int) : ∀ b, size (turn (upV m fr) x b) ≤ size x := by
 intro b
 have := size_turn (upV m fr) 1 (Nat.le_refl _) (fun v b _ => by
  unfold upV; split
  ·rw [size_bump]; omega
  ·omega) x b
 omega
theorem size_put (x s : T) : size (put x 0 s) ≤ size x * size s := by
 refine size_turn (putV 0 s) (size s) (size_pos s) (fun v b _ => ?_) x 0
 have hv := size_pos v; have hs := size_pos s
 unfold putV
 split
 ·have := size_up s b 0 0
  have h2 : 1 * size s ≤ size v * size s := Nat.mul_le_mul_right _ hv
  unfold up; omega
 ·split
  ·rw [size_bump]; exact Nat.le_mul_of_pos_right _ hs
  ·exact Nat.le_mul_of_pos_right _ hs
theorem size_inst (x : T) (l : List T) : size (inst x l) ≤ size x * (sizes l + 1) := by
 refine size_turn (instV l) (sizes l + 1) (by omega) (fun v b _ => ?_) x 0
 have hv := size_pos v
 unfold instV
 split
 ·exact Nat.le_mul_of_pos_right _ (by omega)
 ·split
  ·rename_i h1 h2
   have hlt : l.length - 1 - (v.f1 - b).toNat < l.length := by omega
   rw [List.getD_eq_getElem?_getD, List.getElem?_eq_getElem hlt]
   have h3 := size_up (l[l.length - 1 - (v.f1 - b).toNat]) b 0 0
   have h4 := size_mem (List.getElem_mem hlt)
   have h5 : 1 * (sizes l + 1) ≤ size v * (sizes l + 1) := Nat.mul_le_mul_right _ hv
   simp only [Option.getD_some]
   unfold up; omega
  ·rw [size_bump]; exact Nat.le_mul_of_pos_right _ (by omega)
theorem size_is (k n : Int) (s : ByteArray) (l : List T) : size ⟨k, n, s, l⟩ = sizes l + 1 := by rw [size]
theorem size_of (x : T) : size x = sizes x.f3 + 1 := by cases x; rw [size]
theorem sq (a b : Nat) : (a + b) * (a + b) = a * a + 2 * (a * b) + b * b := by
 rw [Nat.add_mul, Nat.mul_add, Nat.mul_add, Nat.mul_comm b a]; omega
theorem size_hd (l : List T) : size (hd l) ≤ sizes l + 1 := by
 cases l with
 | nil => show 1 ≤ _; omega
 | cons x r => show size x ≤ _; simp only [sizes]; omega
theorem size_compute (s : List UInt8) (p q : Int) : size (compute s p q).1 = 1 := by
 unfold compute
 split
 ·rfl
 split
 ·rfl
 split
 ·rfl
 split
 ·split <;> rfl
 split
 ·rfl
 split
 ·rfl
 ·rfl
theorem size_step : ∀ (q : Nat) (x : T), height x ≤ q → size (hstep x).1 ≤ size x * size x
 | 0, x, hq => by cases x; simp only [height] at hq; omega
 | q + 1, ⟨k, n, s, l⟩, hq => by
  simp only [height] at hq
  have one : ∀ m : Nat, 1 ≤ (m + 1) * (m + 1) := fun m => by
   have := Nat.mul_le_mul (show 1 ≤ m + 1 by omega) (show 1 ≤ m + 1 by omega); omega
  have self : ∀ m : Nat, m + 1 ≤ (m + 1) * (m + 1) := fun m => Nat.le_mul_of_pos_right _ (by omega)
  rw [step_is, size_is]
  by_cases h3 : k = 3
  ·rw [if_pos h3]
   cases l with
   | nil => exact self _
   | cons x r =>
    have hx : height x ≤ q := by have := height_get (l := x :: r) (x := x) (by simp); omega
    have ih := size_step q x hx
    simp only [stepApp, sizes]
    split
    ·have h1 := size_put (hd x.f3) (hd r)
     have h2 := size_hd x.f3; have h3 := size_hd r; have h4 := size_of x
     have h5 := Nat.mul_le_mul (show size (hd x.f3) ≤ size x + sizes r + 1 by omega) (show size (hd r) ≤ size x + sizes r + 1 by omega)
     exact Nat.le_trans h1 h5
    ·split
     ·exact one _
     ·split
      ·simp only [size, sizes]; exact self _
      ·simp only [size, sizes]
       have h6 := sq (size x) (sizes r + 1)
       rw [← Nat.add_assoc] at h6
       have h7 := self (sizes r)
       omega
  rw [if_neg h3]
  by_cases h5 : k = 5
  ·rw [if_pos h5]
   cases l with
   | nil => exact self _
   | cons x r =>
    have hx : height x ≤ q := by have := height_get (l := x :: r) (x := x) (by simp); omega
    have ih := size_step q x hx
    simp only [stepCase, sizes]
    split
    ·exact one _
    ·split
     ·cases hf : find x.f2.data.toList x.f3.length r with
      | none => exact one _
      | some z =>
       have hm := size_mem (find_mem hf).1
       have h1 := size_inst (hd z.f3) x.f3
       have h2 := size_hd z.f3; have h4 := size_of z; have h8 := size_of x
       have h5 := Nat.mul_le_mul (show size (hd z.f3) ≤ size x + sizes r + 1 by omega) (show sizes x.f3 + 1 ≤ size x + sizes r + 1 by omega)
       exact Nat.le_trans h1 h5
     ·split
      ·simp only [size, sizes]; exact self _
      ·simp only [size, sizes]
       have h6 := sq (size x) (sizes r + 1)
       rw [← Nat.add_assoc] at h6
       have h7 := self (sizes r)
       omega
  rw [if_neg h5]
  by_cases h8 : k = 8
  ·rw [if_pos h8]
   cases l with
   | nil => exact self _
   | cons x r =>
    have hx : height x ≤ q := by have := height_get (l := x :: r) (x := x) (by simp); omega
    have ih := size_step q x hx
    simp only [stepOp, sizes]
    split
    ·exact one _
    ·split
     ·cases r with
      | nil => simp only [stepOp2, size, sizes]; exact self _
      | cons y r =>
       have hy : height y ≤ q := by have := height_get (l := x :: y :: r) (x := y) (by simp); omega
       have ihy := size_step q y hy
       simp only [stepOp2, sizes]
       split
       ·exact one _
       ·split
        ·rw [size_compute]; exact one _
        ·split
         ·simp only [size, sizes]; exact self _
         ·simp only [size, sizes]
          have h6 := sq (size y) (size x + sizes r + 1)
          rw [show size y + (size x + sizes r + 1) = size x + (size y + sizes r) + 1 by omega] at h6
          have h7 := self (size x + sizes r)
          omega
     ·split
      ·simp only [size, sizes]; exact self _
      ·simp only [size, sizes]
       have h6 := sq (size x) (sizes r + 1)
       rw [← Nat.add_assoc] at h6
       have h7 := self (sizes r)
       omega
  rw [if_neg h8]
  simp only [size]; exact self _
def steps : Nat → T → T
 | 0, x => x
 | i + 1, x => steps i (hstep x).1
theorem run_is (q : Nat) (x : T) (n : Int) (fuel : Nat) : run (q + 1) x n fuel = if 5000 < size x then (nothing, n, 91) else if (hstep x).2 = 0 then (x, n, 0) else if fuel = 0 then (nothing, n, 90) else run q (hstep x).1 (n + 1) (fuel - 1) := by rw [run]
theorem run_tells : ∀ (q : Nat) (x : T) (n : Int) (fuel : Nat), fuel < q → ∃ m : Nat, m ≤ fuel ∧ (run q x n fuel).2.1 = n + m ∧ (∀ i, i < m → (hstep (steps i x)).2 ≠ 0 ∧ size (steps i x) ≤ 5000) ∧
  ((run q x n fuel = (steps m x, n + m, 0) ∧ (hstep (steps m x)).2 = 0 ∧ size (steps m x) ≤ 5000) ∨ (run q x n fuel = (nothing, n + m, 90) ∧ m = fuel ∧ (hstep (steps m x)).2 ≠ 0 ∧ size (steps m x) ≤ 5000) ∨ (run q x n fuel = (nothing, n + m, 91) ∧ 5000 < size (steps m x)))
 | 0, _, _, _, h => by omega
 | q + 1, x, n, fuel, h => by
  rw [run_is]
  by_cases h5 : 5000 < size x
  ·rw [if_pos h5]
   exact ⟨0, by omega, by simp, fun i hi => by omega, .inr (.inr ⟨by simp, h5⟩)⟩
  rw [if_neg h5]
  by_cases h0 : (hstep x).2 = 0
  ·rw [if_pos h0]
   exact ⟨0, by omega, by simp, fun i hi => by omega, .inl ⟨by simp [steps], h0, by show size x ≤ _; omega⟩⟩
  rw [if_neg h0]
  by_cases hf : fuel = 0
  ·rw [if_pos hf]
   exact ⟨0, by omega, by simp, fun i hi => by omega, .inr (.inl ⟨by simp, hf.symm, h0, by show size x ≤ _; omega⟩)⟩
  rw [if_neg hf]
  obtain ⟨m, hm, h1, h2, h3⟩ := run_tells q (hstep x).1 (n + 1) (fuel - 1) (by omega)
  have e : n + 1 + (m : Int) = n + ((m + 1 : Nat) : Int) := by omega
  rw [e] at h1 h3
  refine ⟨m + 1, by omega, h1, fun i hi => ?_, ?_⟩
  ·cases i with
   | zero => exact ⟨h0, by show size x ≤ _; omega⟩
   | succ i => exact h2 i (by omega)
  ·rcases h3 with h3 | h3 | h3
   ·exact .inl h3
   ·exact .inr (.inl ⟨h3.1, by omega, h3.2.2⟩)
   ·exact .inr (.inr h3)
theorem run_ends : ∀ (m q : Nat) (x : T) (n : Int) (fuel : Nat), m ≤ fuel → fuel < q → (∀ i, i < m → (hstep (steps i x)).2 ≠ 0 ∧ size (steps i x) ≤ 5000) → (hstep (steps m x)).2 = 0 → size (steps m x) ≤ 5000 → run q x n fuel = (steps m x, n + m, 0)
 | 0, q, x, n, fuel, _, hq, _, h0, h5 => by
  obtain ⟨q, rfl⟩ : ∃ p, q = p + 1 := ⟨q - 1, by omega⟩
  have h0' : (hstep x).2 = 0 := h0
  have h5' : size x ≤ 5000 := h5
  rw [run_is, if_neg (by omega), if_pos h0']; simp [steps]
 | m + 1, q, x, n, fuel, hm, hq, hs, h0, h5 => by
  obtain ⟨q, rfl⟩ : ∃ p, q = p + 1 := ⟨q - 1, by omega⟩
  have h1 := hs 0 (by omega)
  have h1' : (hstep x).2 ≠ 0 ∧ size x ≤ 5000 := h1
  rw [run_is, if_neg (by omega), if_neg h1'.1, if_neg (by omega), run_ends m q (hstep x).1 (n + 1) (fuel - 1) (by omega) (by omega) (fun i hi => hs (i + 1) (by omega)) h0 h5]
  simp only [steps]
  rw [show n + 1 + (m : Int) = n + ((m + 1 : Nat) : Int) by omega]
end CoreRun
end Go.Proofs.YtnjmilelifmfpaaGreatDoor.Pure

namespace Go.Proofs.YtnjmilelifmfpaaGreatDoor.Pure.Hd
def freeT : Int := 4611686018427387904
end Go.Proofs.YtnjmilelifmfpaaGreatDoor.Pure.Hd
namespace Go.Proofs.YtnjmilelifmfpaaGreatDoor.Ev
open Go Go.RowKit
open HCore (wt wts may same height heights size sizes each)
open HSub (turn turns tame tames put inst failT num truth compute still find hstep hd)
open Go.Proofs.YtnjmilelifmfpaaGreatDoor.Pure.CoreStep
open Pure.Hd (freeT)
set_option linter.unusedSimpArgs false
set_option linter.unusedVariables false
theorem tames_of : ∀ {l : List Tm}, (∀ y ∈ l, tame y) → tames l
 | [], _ => trivial
 | x :: r, h => ⟨h x (List.mem_cons_self ..), tames_of (fun y hy => h y (List.mem_cons_of_mem _ hy))⟩
theorem tame_may : ∀ (n : Nat) (x : Tm) (a : Int), height x ≤ n → 0 ≤ a → a + 8 * (height x : Int) ≤ 5000000000000000000 → may x a = true → tame x
 | 0, x, a, hn, _, _, _ => by cases x; simp [height] at hn
 | n + 1, ⟨k, m, s, l⟩, a, hn, ha, hb, hm => by
  have hp : ∀ y ∈ l, height y + 1 ≤ height (⟨k, m, s, l⟩ : Tm) := fun y hy => by have h1 := height_mem hy; have h2 : height (⟨k, m, s, l⟩ : Tm) = heights l + 1 := rfl; omega
  have go : ∀ y ∈ l, ∀ b : Int, 0 ≤ b → b ≤ a + 1 → may y b = true → tame y := fun y hy b h0 h1 hmy => by
   have := hp y hy
   exact tame_may n y b (by omega) h0 (by omega) hmy
  show (k = 1 → 0 ≤ m ∧ m ≤ 5000000000000000000) ∧ (k = 6 → 0 ≤ m ∧ m ≤ 8) ∧ tames l
  have hk := kinds hm
  simp only at hk
  have h6 : k ≠ 6 := by omega
  refine ⟨fun h1 => ?_, fun h => absurd h h6, ?_⟩
  ·have := Pure.CoreTurn.var_is ⟨k, m, s, l⟩ a h1 hm
   simp only at this
   omega
  ·rcases hk with h | h | h | h | h | h | h | h
   ·subst h
    have := hm
    rw [Pure.CoreTurn.may_var _ _ rfl] at this
    simp only [Bool.and_eq_true, decide_eq_true_eq] at this
    rw [List.eq_nil_of_length_eq_zero this.1.1.1]; trivial
   ·subst h
    have := hm
    rw [may_is] at this
    simp at this
    rw [this.1.1]; trivial
   ·subst h
    have := hm
    rw [may_is] at this
    simp at this
    rw [this.1.1]; trivial
   ·subst h
    obtain ⟨y, hy, hmy⟩ := lam_is hm rfl
    simp only at hy
    subst hy
    exact ⟨go y (by simp) (a + 1) (by omega) (by omega) hmy, trivial⟩
   ·subst h
    obtain ⟨y, z, rfl, hy, hz, _⟩ := app_is hm
    exact ⟨go y (by simp) a ha (by omega) hy, go z (by simp) a ha (by omega) hz, trivial⟩
   ·subst h
    obtain ⟨y, z, rfl, hy, hz, _⟩ := op_is hm
    exact ⟨go y (by simp) a ha (by omega) hy, go z (by simp) a ha (by omega) hz, trivial⟩
   ·subst h
    have hc := con_is hm rfl
    exact tames_of (fun y hy => go y hy a ha (by omega) (each_get hc.2.2.2 hy))
   ·subst h
    obtain ⟨y, r, rfl, hy, hr, _, _, _⟩ := case_is hm
    refine ⟨go y (by simp) a ha (by omega) hy, tames_of (fun z hz => ?_)⟩
    obtain ⟨h60, h61, h62, h63, h64⟩ := alt_get hr z hz
    have hzh := hp z (by simp [hz])
    obtain ⟨q, hq⟩ := hd_one h63
    rw [hq] at h64
    have hmq := each_get h64 (List.mem_singleton_self q)
    obtain ⟨zk, zm, zs, zl⟩ := z
    simp only at h60 h61 h62 hq
    subst hq; subst h60
    have hqh : height q + 1 ≤ height (⟨6, zm, zs, [q]⟩ : Tm) := by simp only [height, heights]; omega
    exact ⟨fun h => by omega, fun _ => ⟨h61, h62⟩, tame_may n q (a + zm) (by omega) (by omega) (by omega) hmq, trivial⟩
abbrev TStepN (n : Nat) : Spec := fun args out => ∃ x : Tm, args = [.agg (encT x)] ∧ height x < n ∧ may x freeT = true ∧ size x ≤ 1000000 ∧ out = stepOut (hstep x)
set_option maxHeartbeats 4000000 in
theorem c_stepN : ∀ (n : Nat) (J : JW), JOk J → Con Tryz.prog J 22 (TStepN n)
 | 0, J, hJ => by rintro args out ⟨x, rfl, h, _⟩; exact absurd h (Nat.not_lt_zero _)
 | n + 1, J, hJ => by
  obtain ⟨code, h1, h2, h3, h4⟩ := k22
  refine con (E := env [(36, TApply), (37, TPick), (38, TOperate)]) (ok_cons (c_apply hJ) (ok_cons (c_pick hJ) (ok_cons (c_operate hJ) ok_nil))) hJ h1 h2 h3 h4 fun args out h => ?_
  obtain ⟨x, rfl, hh, hm, hs, rfl⟩ := h
  refine ⟨rfl, by rw [Tryz.ntmps22]; simp, ?_⟩
  have hhs := height_le_size x
  have ht : tame x := tame_may _ x freeT (Nat.le_refl _) (by decide) (by unfold freeT; omega) hm
  have sd := size_of x
  have part : ∀ y ∈ x.f3, may y freeT = true → Pure.Hd.StepC y := fun y hy hmy => by
   have hy1 := height_mem hy
   have hy2 := height_of x
   have hy3 := sizes_mem hy
   have hsq := Pure.CoreRun.size_step _ y (Nat.le_refl _)
   have hq : size y * size y ≤ 1000000 * 1000000 := Nat.mul_le_mul (by omega) (by omega)
   exact stepC_of (by omega) fun J hJ => c_stepN n J hJ _ _ ⟨y, rfl, by omega, hmy, by omega, rfl⟩
  rw [encT_is x]
  unfold c22
  refine go ?_
  cases e3 : (x.f0 == 3) with
  | true =>
   have kk : x.f0 = 3 := by simpa using e3
   have hxx : ∃ y z, x.f3 = [y, z] ∧ may y freeT = true ∧ may z freeT = true := by
    obtain ⟨k, m, s, l⟩ := x
    simp only at kk; subst kk
    obtain ⟨y, z, h, hy, hz, _⟩ := app_is hm
    exact ⟨y, z, h, hy, hz⟩
   obtain ⟨y, z, hl, my, mz⟩ := hxx
   refine go ?_
   refine call (T := TApply) ⟨x, y, z, [], by rw [encT_is x], kk, hl, ht, hs, part y (by rw [hl]; simp) my, fun h2 => ?_, rfl⟩ ?_
   ·obtain ⟨q, hq, _⟩ := lam_is my h2
    exact ⟨q, [], hq⟩
   unfold stepOut
   rw [encT_is (hstep x).1]
   refine go ?_
   trivial
  | false =>
  have n3 : ¬ x.f0 = 3 := by simpa using e3
  refine go ?_
  cases e5 : (x.f0 == 5) with
  | true =>
   have kk : x.f0 = 5 := by simpa using e5
   have hxx : ∃ y r, x.f3 = y :: r ∧ may y freeT = true ∧ (∀ z ∈ r, ∃ q r', z.f3 = q :: r') := by
    obtain ⟨k, m, s, l⟩ := x
    simp only at kk; subst kk
    obtain ⟨y, r, h, hy, hr, _⟩ := case_is hm
    refine ⟨y, r, h, hy, fun z hz => ?_⟩
    obtain ⟨q, hq⟩ := hd_one (alt_get hr z hz).2.2.2.1
    exact ⟨q, [], hq⟩
   obtain ⟨y, r, hl, my, hr⟩ := hxx
   refine go ?_
   refine call (T := TPick) ⟨x, y, r, by rw [encT_is x], kk, hl, ht, hs, part y (by rw [hl]; simp) my, hr, rfl⟩ ?_
   unfold stepOut
   rw [encT_is (hstep x).1]
   refine go ?_
   trivial
  | false =>
  have n5 : ¬ x.f0 = 5 := by simpa using e5
  refine go ?_
  cases e8 : (x.f0 == 8) with
  | true =>
   have kk : x.f0 = 8 := by simpa using e8
   have hxx : ∃ y z, x.f3 = [y, z] ∧ may y freeT = true ∧ may z freeT = true := by
    obtain ⟨k, m, s, l⟩ := x
    simp only at kk; subst kk
    obtain ⟨y, z, h, hy, hz, _⟩ := op_is hm
    exact ⟨y, z, h, hy, hz⟩
   obtain ⟨y, z, hl, my, mz⟩ := hxx
   refine go ?_
   refine call (T := TOperate) ⟨x, y, z, by rw [encT_is x], kk, hl, hs, part y (by rw [hl]; simp) my, part z (by rw [hl]; simp) mz, rfl⟩ ?_
   unfold stepOut
   rw [encT_is (hstep x).1]
   refine go ?_
   trivial
  | false =>
  have n8 : ¬ x.f0 = 8 := by simpa using e8
  refine go ?_
  have e : hstep x = (x, 0) := by
   obtain ⟨k, m, s, l⟩ := x
   simp only at n3 n5 n8
   rw [step_is, if_neg n3, if_neg n5, if_neg n8]
  rw [e]
  unfold stepOut
  rw [encT_is x]
abbrev TStep : Spec := fun args out => ∃ x : Tm, args = [.agg (encT x)] ∧ may x freeT = true ∧ size x ≤ 1000000 ∧ out = .ret (.tup [.agg (encT (hstep x).1), .s (.int .i64 (hstep x).2)])
theorem c_step {J : JW} (hJ : JOk J) : Con Tryz.prog J 22 TStep := by
 rintro args out ⟨x, rfl, hm, hs, rfl⟩
 exact c_stepN (height x + 1) J hJ _ _ ⟨x, rfl, Nat.lt_succ_self _, hm, hs, rfl⟩
end Go.Proofs.YtnjmilelifmfpaaGreatDoor.Ev

namespace Go.Proofs.YtnjmilelifmfpaaGreatDoor.Ev
open Go Go.RowKit
open HCore (wt wts may same height heights size sizes)
open HSub (hstep)
open Pure.CoreRun (run_is size_step)
set_option linter.unusedSimpArgs false
set_option linter.unusedVariables false
def stepF (x : Tm) : Tm × Int := if may x Pure.Hd.freeT = true then hstep x else (x, 0)
abbrev THStep : Spec := fun args out => ∃ x : Tm, args = [.agg (encT x)] ∧ wt x ≤ 1000000000 ∧ size x ≤ 1000000 ∧ out = .ret (.tup [.agg (encT (stepF x).1), .s (.int .i64 (stepF x).2)])
theorem c_hstep {J : JW} (hJ : JOk J) : Con Tryz.prog J 12 THStep := by
 obtain ⟨code, h1, h2, h3, h4⟩ := k12
 refine con (ok_cons (c_may hJ) (ok_cons (c_step hJ) ok_nil)) hJ h1 h2 h3 h4 fun args out h => ?_
 obtain ⟨x, rfl, hw, hs, rfl⟩ := h
 have hh := height_le_size x
 refine ⟨rfl, by rw [Tryz.ntmps12]; simp, ?_⟩
 rw [encT_is x]
 unfold c12
 refine go ?_
 refine call (T := TMay) ⟨x, 4611686018427387904, by rw [encT_is], hw, by omega, by omega, rfl⟩ ?_
 cases hm : may x 4611686018427387904 with
 | false =>
  have e : stepF x = (x, 0) := if_neg (by rw [show Pure.Hd.freeT = 4611686018427387904 from rfl, hm]; decide)
  rw [e, encT_is x]
  refine go ?_
  trivial
 | true =>
  have e : stepF x = hstep x := if_pos hm
  refine go ?_
  refine call (T := TStep) ⟨x, by rw [encT_is], hm, hs, rfl⟩ ?_
  rw [e, encT_is]
  refine go ?_
  trivial
def runF (x : Tm) (fuel : Int) : Tm × Int × Int := if may x 0 = true ∧ 0 ≤ fuel ∧ fuel ≤ 100000 then HSub.run (fuel.toNat + 1) x 0 fuel.toNat else (HSub.nothing, 0, 1)
def hRunS (y : Tm) (n : Nat) (fuel : Int) : AS := ⟨tm [(7, .s (.int .i64 n)), (1, .s (.int .i64 fuel)), (2, .ptr 0 0), (4, .ptr 1 0)], bm [(0, some (cX y)), (1, some [.s (.int .i64 0), .s (.int .i64 0), .s (.string ⟨#[]⟩), .s (.slice none 0 0)])], bm [], 2⟩
abbrev TRun : Spec := fun args out => ∃ (x : Tm) (fuel : Int), args = [.agg (encT x), .s (.int .i64 fuel)] ∧ wt x ≤ 1000000000 ∧ size x ≤ 1000000 ∧ out = .ret (.tup [.agg (encT (runF x fuel).1), .s (.int .i64 (runF x fuel).2.1), .s (.int .i64 (runF x fuel).2.2)])
theorem encT_nothing : encT HSub.nothing = [.s (.int .i64 0), .s (.int .i64 0), .s (.string ⟨#[]⟩), .row []] := rfl
set_option maxHeartbeats 4000000 in
theorem c_hrun {J : JW} (hJ : JOk J) : Con Tryz.prog J 14 TRun := by
 obtain ⟨code, h1, h2, h3, h4⟩ := k14
 refine con (ok_cons (c_may hJ) (ok_cons (c_step hJ) (ok_cons (c_size hJ 30000000) ok_nil))) hJ h1 h2 h3 h4 fun args out h => ?_
 obtain ⟨x, fuel, rfl, hw, hs, rfl⟩ := h
 have hh := height_le_size x
 refine ⟨rfl, by rw [Tryz.ntmps14]; simp, ?_⟩
 rw [encT_is x]
 unfold c14
 refine go ?_
 refine call (T := TMay) ⟨x, 0, by rw [encT_is], hw, by omega, by omega, rfl⟩ ?_
 cases hm : may x 0 with
 | false =>
  have e : runF x fuel = (HSub.nothing, 0, 1) := if_neg (by rw [hm]; simp)
  rw [e, encT_nothing]
  refine go ?_
  trivial
 | true =>
 refine go ?_
 by_cases q1 : fuel < 0
 ·have e : runF x fuel = (HSub.nothing, 0, 1) := if_neg (by omega)
  rw [e, encT_nothing]
  simp only [q1, decide_true]
  refine go ?_
  trivial
 simp only [q1, decide_false]
 refine go ?_
 by_cases q2 : fuel > 100000
 ·have e : runF x fuel = (HSub.nothing, 0, 1) := if_neg (by omega)
  rw [e, encT_nothing]
  simp only [q2, decide_true]
  refine go ?_
  trivial
 simp only [q2, decide_false]
 refine go ?_
 have e : runF x fuel = HSub.run (fuel.toNat + 1) x 0 fuel.toNat := if_pos ⟨hm, by omega, by omega⟩
 rw [e]
 refine loop (ι := { p : Tm × Nat // p.2 ≤ fuel.toNat ∧ may p.1 0 = true ∧ size p.1 ≤ 25000000 ∧ HSub.run (fuel.toNat - p.2 + 1) p.1 p.2 (fuel.toNat - p.2) = HSub.run (fuel.toNat + 1) x 0 fuel.toNat }) (fun p => hRunS p.1.1 p.1.2 fuel) (fun p => fuel.toNat - p.1.2) ⟨(x, 0), by omega, hm, by dsimp only; omega, rfl⟩ (lm [(0, 0), (1, 1)]) fun ⟨⟨y, n⟩, hn, hmy, hsy, hrun⟩ => ?_
 dsimp only at hn hmy hsy hrun
 unfold hRunS
 dsimp only
 refine go ?_
 have hhy := height_le_size y
 refine call (T := TSize _) ⟨y, by rw [encT_is], by omega, by omega, rfl⟩ ?_
 refine go ?_
 rw [← hrun, run_is]
 by_cases q3 : (size y : Int) > 5000
 ·rw [if_pos (show 5000 < size y by omega), encT_nothing]
  simp only [q3, decide_true]
  refine go ?_
  trivial
 rw [if_neg (show ¬ 5000 < size y by omega)]
 simp only [q3, decide_false]
 refine go ?_
 have hmf : may y Pure.Hd.freeT = true := Pure.CoreMono.may_mono y 0 _ (by decide) hmy
 refine call (T := TStep) ⟨y, by rw [encT_is], hmf, by omega, rfl⟩ ?_
 rw [encT_is]
 refine go ?_
 by_cases q4 : (hstep y).2 = 0
 ·rw [if_pos q4]
  simp only [show ((hstep y).2 == 0) = true by simpa using q4]
  refine go ?_
  rw [encT_is]
 rw [if_neg q4]
 simp only [show ((hstep y).2 == 0) = false by simpa using q4]
 refine go ?_
 by_cases q5 : n = fuel.toNat
 ·rw [if_pos (by omega), encT_nothing]
  simp only [show ((n : Int) == fuel) = true by simp; omega]
  refine go ?_
  trivial
 rw [if_neg (by omega)] at *
 simp only [show ((n : Int) == fuel) = false by simp; omega]
 refine go ?_
 rw [nxt (by omega)]
 have hq := size_step _ y (Nat.le_refl _)
 have hsq : size y * size y ≤ 5000 * 5000 := Nat.mul_le_mul (by omega) (by omega)
 refine ⟨⟨((hstep y).1, n + 1), by dsimp only; omega, Pure.CoreStep.step_may _ y 0 (Nat.le_refl _) (Int.le_refl 0) hmy, by dsimp only; omega, ?_⟩, lm [(0, 0), (1, 1)], by dsimp only; omega⟩
 dsimp only
 rw [show fuel.toNat - n - 1 = fuel.toNat - (n + 1) by omega, show fuel.toNat - n = fuel.toNat - (n + 1) + 1 by omega]
 rfl
end Go.Proofs.YtnjmilelifmfpaaGreatDoor.Ev
