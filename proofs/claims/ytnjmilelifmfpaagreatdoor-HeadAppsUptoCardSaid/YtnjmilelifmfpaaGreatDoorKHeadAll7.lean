-- Written for this claim: several texts in one.
import Derived.Test.YtnjmilelifmfpaaGreatDoorKHeadAll6
import Derived.Test.YtnjmilelifmfpaaGreatDoorKHeadAll5
import Derived.KernelRfl
set_option linter.unusedSimpArgs false
set_option linter.unusedVariables false
namespace Go.Proofs.YtnjmilelifmfpaaGreatDoor.Pure
open Go Go.RowKit Go.Proofs.YtnjmilelifmfpaaGreatDoor.Q Go.Proofs.YtnjmilelifmfpaaGreatDoorW.PrintWords Go.Proofs.YtnjmilelifmfpaaGreatDoorW.PrintLast Go.Proofs.YtnjmilelifmfpaaGreatDoorW.PrintMore
theorem HeadRuns_walk {w : World} (t : HCore.T) (A : Option Addr) (c : Nat) (hC : Kd.C k24 w A t.f3.length t.f3) (hl : t.f3.length ≤ c) (ok : HCore.Ok t) (hw : HCore.wt t ≤ 1048576) (a : Int) {P : Prop} (_ : P) :
  Calls Tryz.prog 4 #[.agg #[.int .i64 t.f0, .int .i64 t.f1, .string t.f2, .slice A t.f3.length c], .int .i64 a] w fun e w' => e = .returned (.bool true) ∧ Below w.heap.size w w' :=
 (Ev.c_lruns (Ev.Jof.ok w) (Ev.c_fixed (Ev.Jof.ok w)) _ _ ⟨t, a, rfl, hw, rfl⟩ (Ev.SW w) w [.agg #[.int .i64 t.f0, .int .i64 t.f1, .string t.f2, .slice A t.f3.length c], .int .i64 a] (Below.refl _ _) (Ev.SW_agr w) (.cons (.com (Ev.repT hl hC)) (.cons (.com (.cel (.pur (.s rfl)))) .nil))).mono fun e w' h => Ev.post_ret h
end Go.Proofs.YtnjmilelifmfpaaGreatDoor.Pure

namespace Go.Proofs.YtnjmilelifmfpaaGreatDoor.Ev
open Go Go.RowKit
open HCore (wt wts may same height heights size sizes each alts)
open Go.Proofs.YtnjmilelifmfpaaGreatDoor.HSub (hstep nothing turn turns upV up bump putV put instV inst more hd find)
open Go.Proofs.YtnjmilelifmfpaaGreatDoor.Pure.CoreStep
set_option linter.unusedSimpArgs false
set_option linter.unusedVariables false
theorem turns_fix {g : Tm → Int → Tm} {q : Int} : ∀ {l : List Tm}, (∀ y ∈ l, turn g y q = y) → turns g l q = l
 | [], _ => rfl
 | x :: l, h => by rw [turns, h x (by simp), turns_fix fun y hy => h y (by simp [hy])]
mutual
theorem turn_id {g : Tm → Int → Tm} (hg : ∀ v b, v.f0 = 1 → g v b = v) : ∀ (x : Tm) (b : Int), turn g x b = x
 | ⟨k, m, s, l⟩, b => by
  rw [turn]
  by_cases h : k = 1
  ·rw [if_pos h]; exact hg _ _ h
  ·rw [if_neg h, turns_id hg l]
theorem turns_id {g : Tm → Int → Tm} (hg : ∀ v b, v.f0 = 1 → g v b = v) : ∀ (l : List Tm) (b : Int), turns g l b = l
 | [], _ => rfl
 | x :: l, b => by rw [turns, turn_id hg x b, turns_id hg l b]
end
theorem up_zero (x : Tm) (fr : Int) : up x 0 fr = x := turn_id (fun v b _ => by
 unfold upV
 split
 ·cases v; simp [bump]
 ·rfl) x 0
theorem turn_closed {g : Tm → Int → Tm} (hg : ∀ v b, v.f0 = 1 → v.f1 < b → g v b = v) : ∀ (n : Nat) (x : Tm) (b : Int), height x ≤ n → 0 ≤ b → may x b = true → turn g x b = x
 | 0, x, b, hn, _, _ => by rw [height_of] at hn; omega
 | n + 1, ⟨k, m, s, l⟩, b, hn, hb, hm => by
  have hp : ∀ y ∈ l, height y ≤ n := fun y hy => by have h1 := height_mem hy; have h2 : height (⟨k, m, s, l⟩ : Tm) = heights l + 1 := rfl; omega
  rw [turn]
  by_cases h1 : k = 1
  ·rw [if_pos h1]; exact hg _ _ h1 (Pure.CoreTurn.var_is ⟨k, m, s, l⟩ b h1 hm).2
  rw [if_neg h1]
  have e : turns g l (b + more k m) = l := by
   have nil : l = [] → turns g l (b + more k m) = l := fun h => by rw [h]; rfl
   have hk := kinds hm
   simp only at hk
   rcases hk with h | h | h | h | h | h | h | h
   ·exact absurd h h1
   ·subst h
    have := hm
    rw [may_is] at this
    simp at this
    exact nil this.1.1
   ·subst h
    have := hm
    rw [may_is] at this
    simp at this
    exact nil this.1.1
   ·subst h
    obtain ⟨y, hy, hmy⟩ := lam_is hm rfl
    simp only at hy
    refine turns_fix fun z hz => turn_closed hg n z _ (hp z hz) (by simp [more]; omega) ?_
    rw [hy] at hz
    rw [List.mem_singleton.1 hz]; exact hmy
   ·subst h
    obtain ⟨y, z, hl, hy, hz, _⟩ := app_is hm
    refine turns_fix fun u hu => turn_closed hg n u _ (hp u hu) (by simp [more]; omega) ?_
    rw [hl] at hu
    rw [show b + more 3 m = b by simp [more]]
    simp at hu
    rcases hu with rfl|rfl
    ·exact hy
    ·exact hz
   ·subst h
    obtain ⟨y, z, hl, hy, hz, _⟩ := op_is hm
    refine turns_fix fun u hu => turn_closed hg n u _ (hp u hu) (by simp [more]; omega) ?_
    rw [hl] at hu
    rw [show b + more 8 m = b by simp [more]]
    simp at hu
    rcases hu with rfl|rfl
    ·exact hy
    ·exact hz
   ·subst h
    have hc := con_is hm rfl
    refine turns_fix fun u hu => turn_closed hg n u _ (hp u hu) (by simp [more]; omega) ?_
    rw [show b + more 4 m = b by simp [more]]
    exact each_get hc.2.2.2 hu
   ·subst h
    obtain ⟨y, r, hl, hy, hr, _, _, _⟩ := case_is hm
    refine turns_fix fun u hu => ?_
    have hpu := hp u hu
    rw [show b + more 5 m = b by simp [more]]
    rw [hl] at hu
    rcases List.mem_cons.1 hu with rfl | hu
    ·exact turn_closed hg n u _ hpu hb hy
    obtain ⟨h60, h61, h62, h63, h64⟩ := alt_get hr u hu
    obtain ⟨q, hq⟩ := hd_one h63
    rw [hq] at h64
    have hmq := each_get h64 (List.mem_singleton_self q)
    have hqh : height q ≤ n := by rw [height_of, hq] at hpu; simp only [heights] at hpu; omega
    rw [turn_of, if_neg (by omega), h60, show more 6 u.f1 = u.f1 by simp [more], hq]
    rw [turns_fix (l := [q]) fun z hz => by rw [List.mem_singleton.1 hz]; exact turn_closed hg n q _ hqh (by omega) hmq]
    rw [← hq, ← h60]
    cases u; rfl
  rw [e]
theorem put_closed {x z : Tm} (h : may x 0 = true) : put x 0 z = x := turn_closed (fun v b _ hv => by
 unfold putV
 rw [if_neg (by omega), if_neg (by omega)]) _ x 0 (Nat.le_refl _) (Int.le_refl 0) h
def pairT (x y : Tm) : Tm := ⟨4, 0, ⟨#[80]⟩, [x, y]⟩
def varT : Tm := ⟨1, 1, ⟨#[]⟩, []⟩
def altP : Tm := ⟨6, 2, ⟨#[80]⟩, [varT]⟩
def firstT (x y : Tm) : Tm := ⟨5, 0, ⟨#[]⟩, [pairT x y, altP]⟩
def lamT (x : Tm) : Tm := ⟨2, 0, ⟨#[]⟩, [x]⟩
def konstT (x y : Tm) : Tm := ⟨3, 0, ⟨#[]⟩, [lamT x, y]⟩
theorem con_P : HCore.con ⟨#[80]⟩ = true := by decide +kernel
theorem may_up {x : Tm} (h : may x 0 = true) {q : Int} (hq : 0 ≤ q) : may x q = true := Pure.CoreMono.may_mono x 0 q hq h
theorem may_pair {x y : Tm} (hx : may x 0 = true) (hy : may y 0 = true) {q : Int} (hq : 0 ≤ q) : may (pairT x y) q = true := by
 unfold pairT; rw [may_is]; simp [con_P, each, may_up hx hq, may_up hy hq, hq]
theorem run_pair {x y : Tm} (hx : may x 0 = true) (hy : may y 0 = true) (h : size (pairT x y) ≤ 5000) : runF (pairT x y) 0 = (pairT x y, 0, 0) := by
 unfold runF
 rw [if_pos ⟨may_pair hx hy (Int.le_refl 0), by decide, by decide⟩]
 have e : hstep (pairT x y) = (pairT x y, 0) := still_none _ (.inr (.inl rfl))
 rw [show Int.toNat 0 = 0 from rfl, Pure.CoreRun.run_is, if_neg (by omega), e]; rfl
theorem step_first {x y : Tm} (hx : may x 0 = true) (hy : may y 0 = true) : stepF (firstT x y) = (x, 2) := by
 have h0 : (0 : Int) ≤ Pure.Hd.freeT := by decide
 have ha : alts [altP] Pure.Hd.freeT [] = true := by
  unfold altP varT
  simp only [alts, each, con_P]
  rw [may_is]
  decide +kernel
 have hm : may (firstT x y) Pure.Hd.freeT = true := mk_case (may_pair hx hy h0) ha (by decide) (by decide) (by decide +kernel)
 unfold stepF
 rw [if_pos hm, case_of (t := firstT x y) rfl rfl, if_neg (by unfold pairT; simp), if_pos (show (pairT x y).f0 = 4 from rfl)]
 have hf : find (pairT x y).f2.data.toList ((pairT x y).f3.length : Int) [altP] = some altP := by
  rw [find, if_pos ⟨rfl, rfl⟩]
 rw [hf]
 show (inst varT [x, y], (2 : Int)) = (x, 2)
 have : inst varT [x, y] = x := by
  show turn (instV [x, y]) varT 0 = x
  rw [turn_of, if_pos (show varT.f0 = 1 from rfl)]
  unfold instV
  rw [if_neg (by decide), if_pos (by simp [varT])]
  exact up_zero x 0
 rw [this]
theorem step_konst {x y : Tm} (hx : may x 0 = true) (hy : may y 0 = true) : stepF (konstT x y) = (x, 1) := by
 have h0 : (0 : Int) ≤ Pure.Hd.freeT := by decide
 have hl : may (lamT x) Pure.Hd.freeT = true := by
  unfold lamT; rw [may_is]; simp [each, may_up hx (show (0 : Int) ≤ Pure.Hd.freeT + 1 by decide), h0, HCore.bare]
 have hm : may (konstT x y) Pure.Hd.freeT = true := mk_app hl (may_up hy h0) (by decide +kernel)
 unfold stepF
 rw [if_pos hm, app_of (t := konstT x y) rfl rfl, if_pos (show (lamT x).f0 = 2 from rfl)]
 show (put x 0 y, (1 : Int)) = (x, 1)
 rw [put_closed hx]
theorem encT_pair {x y : Tm} : encT (pairT x y) = [.s (.int .i64 4), .s (.int .i64 0), .s (.string ⟨#[80]⟩), .row [cX x, cX y]] := by simp only [pairT, encT, encTs, encT_is x, encT_is y]
theorem encT_first {x y : Tm} : encT (firstT x y) = [.s (.int .i64 5), .s (.int .i64 0), .s (.string ⟨#[]⟩), .row [[.s (.int .i64 4), .s (.int .i64 0), .s (.string ⟨#[80]⟩), .row [cX x, cX y]], [.s (.int .i64 6), .s (.int .i64 2), .s (.string ⟨#[80]⟩), .row [[.s (.int .i64 1), .s (.int .i64 1), .s (.string ⟨#[]⟩), .row []]]]]] := by simp only [firstT, altP, varT, pairT, encT, encTs, encT_is x, encT_is y]
theorem encT_konst {x y : Tm} : encT (konstT x y) = [.s (.int .i64 3), .s (.int .i64 0), .s (.string ⟨#[]⟩), .row [[.s (.int .i64 2), .s (.int .i64 0), .s (.string ⟨#[]⟩), .row [cX x]], cX y]] := by simp only [konstT, lamT, encT, encTs, encT_is x, encT_is y]
abbrev TLLazy : Spec := fun args out => ∃ (x y : Tm), args = [.agg (encT x), .agg (encT y)] ∧ wt x ≤ 1048576 ∧ wt y ≤ 1048576 ∧ out = .ret (.s (.bool true))
set_option maxHeartbeats 4000000 in
set_option maxRecDepth 100000 in
theorem c_llazy {J : JW} (hJ : JOk J) (hf : Con Tryz.prog J 11 TFixed) : Con Tryz.prog J 6 TLLazy := by
 obtain ⟨code, h1, h2, h3, h4⟩ := k6
 refine con (ok9 hJ hf) hJ h1 h2 h3 h4 fun args out h => ?_
 obtain ⟨x, y, rfl, hw, hw', rfl⟩ := h
 have s1 := size_le_wt x
 have s2 := height_le_size x
 have s3 := size_le_wt y
 have s4 := height_le_size y
 have s5 := mx_le_wt x
 have s6 := mx_le_wt y
 refine ⟨rfl, by rw [Tryz.ntmps6]; simp, ?_⟩
 rw [encT_is x, encT_is y]
 unfold c6
 refine hide2 fun M hM => ?_
 refine go ?_
 subst hM
 refine hide2 fun M hM => ?_
 refine go ?_
 refine call (T := TFixed) ⟨rfl, rfl⟩ ?_
 refine go ?_
 refine call (T := TSmall) ⟨x, 100, by rw [encT_is], by omega, by omega, by omega, rfl⟩ ?_
 by_cases q1 : 0 ≤ few x 100 600
 rotate_left
 ·simp only [decide_eq_false q1]
  refine go ?_
  refine call (T := TFixed) ⟨rfl, rfl⟩ ?_
  refine go ?_
  trivial
 obtain ⟨g1, g2⟩ := small_ge q1
 simp only [decide_eq_true q1]
 refine go ?_
 refine call (T := TDepth _) ⟨x, by rw [encT_is], by omega, by omega, rfl⟩ ?_
 refine go ?_
 by_cases q2 : (height x : Int) > 300
 ·simp only [q2, decide_true]
  refine go ?_
  refine call (T := TFixed) ⟨rfl, rfl⟩ ?_
  refine go ?_
  trivial
 simp only [q2, decide_false]
 refine go ?_
 refine call (T := TSmall) ⟨y, 100, by rw [encT_is], by omega, by omega, by omega, rfl⟩ ?_
 by_cases q3 : 0 ≤ few y 100 600
 rotate_left
 ·simp only [decide_eq_false q3]
  refine go ?_
  refine call (T := TFixed) ⟨rfl, rfl⟩ ?_
  refine go ?_
  trivial
 obtain ⟨f1, f2⟩ := small_ge q3
 simp only [decide_eq_true q3]
 refine go ?_
 refine call (T := TDepth _) ⟨y, by rw [encT_is], by omega, by omega, rfl⟩ ?_
 refine go ?_
 by_cases q4 : (height y : Int) > 300
 ·simp only [q4, decide_true]
  refine go ?_
  refine call (T := TFixed) ⟨rfl, rfl⟩ ?_
  refine go ?_
  trivial
 simp only [q4, decide_false]
 refine go ?_
 refine call (T := TRMay) ⟨x, 0, by rw [encT_is], by omega, by omega, by omega, by omega, rfl⟩ ?_
 cases mx0 : may x 0 with
 | false =>
  refine go ?_
  refine call (T := TFixed) ⟨rfl, rfl⟩ ?_
  refine go ?_
  trivial
 | true =>
 refine go ?_
 refine call (T := TRMay) ⟨y, 0, by rw [encT_is], by omega, by omega, by omega, by omega, rfl⟩ ?_
 cases my0 : may y 0 with
 | false =>
  refine go ?_
  refine call (T := TFixed) ⟨rfl, rfl⟩ ?_
  refine go ?_
  trivial
 | true =>
 refine go ?_
 have sp : size (pairT x y) ≤ 1000 ∧ size (firstT x y) ≤ 1000 ∧ size (konstT x y) ≤ 1000 := by simp only [pairT, firstT, konstT, lamT, altP, varT, size, sizes]; omega
 have wp : wt (pairT x y) ≤ 3000000 ∧ wt (firstT x y) ≤ 3000000 ∧ wt (konstT x y) ≤ 3000000 := by
  have e0 : ByteArray.size ⟨#[]⟩ = 0 := rfl
  have e1 : ByteArray.size ⟨#[80]⟩ = 1 := rfl
  simp only [pairT, firstT, konstT, lamT, altP, varT, wt, wts, e0, e1]; omega
 have hp := height_le_size (pairT x y)
 subst hM
 refine hide2 fun M hM => ?_
 refine go ?_
 subst hM
 refine hide2 fun M hM => ?_
 refine go ?_
 subst hM
 refine hide2 fun M hM => ?_
 refine go ?_
 subst hM
 refine hide2 fun M hM => ?_
 refine go ?_
 refine call (T := TRun) ⟨pairT x y, 0, by rw [encT_pair], by omega, by omega, rfl⟩ ?_
 rw [run_pair mx0 my0 (by omega)]
 dsimp only
 rw [encT_pair]
 refine go ?_
 subst hM
 refine hide2 fun M hM => ?_
 refine go ?_
 refine call (T := THStep) ⟨firstT x y, by rw [encT_first], by omega, by omega, rfl⟩ ?_
 rw [step_first mx0 my0]
 dsimp only
 rw [encT_is x]
 refine go ?_
 subst hM
 refine hide2 fun M hM => ?_
 refine go ?_
 refine call (T := THStep) ⟨konstT x y, by rw [encT_konst], by omega, by omega, rfl⟩ ?_
 rw [step_konst mx0 my0]
 dsimp only
 rw [encT_is x]
 refine go ?_
 subst hM
 refine go ?_
 refine call (T := TSame _) ⟨pairT x y, pairT x y, by rw [encT_pair], by omega, by omega, rfl⟩ ?_
 rw [Pure.R6P.same_refl]
 refine go ?_
 refine call (T := TSame _) ⟨x, x, by rw [encT_is], by omega, by omega, rfl⟩ ?_
 rw [Pure.R6P.same_refl]
 refine go ?_
 refine call (T := TSame _) ⟨x, x, by rw [encT_is], by omega, by omega, rfl⟩ ?_
 rw [Pure.R6P.same_refl]
 refine go ?_
 trivial
end Go.Proofs.YtnjmilelifmfpaaGreatDoor.Ev

namespace Go.Proofs.YtnjmilelifmfpaaGreatDoor.Pure
open Go Go.RowKit Go.Proofs.YtnjmilelifmfpaaGreatDoor.Q Go.Proofs.YtnjmilelifmfpaaGreatDoorW.PrintWords Go.Proofs.YtnjmilelifmfpaaGreatDoorW.PrintLast Go.Proofs.YtnjmilelifmfpaaGreatDoorW.PrintMore
theorem HeadLazy_walk {w : World} (t : HCore.T) (A : Option Addr) (c : Nat) (hC : Kd.C k24 w A t.f3.length t.f3) (hl : t.f3.length ≤ c) (ok : HCore.Ok t) (hw : HCore.wt t ≤ 1048576)
  (t' : HCore.T) (A' : Option Addr) (c' : Nat) (hC' : Kd.C k24 w A' t'.f3.length t'.f3) (hl' : t'.f3.length ≤ c') (ok' : HCore.Ok t') (hw' : HCore.wt t' ≤ 1048576) :
  Calls Tryz.prog 6 #[.agg #[.int .i64 t.f0, .int .i64 t.f1, .string t.f2, .slice A t.f3.length c], .agg #[.int .i64 t'.f0, .int .i64 t'.f1, .string t'.f2, .slice A' t'.f3.length c']] w fun e w' => e = .returned (.bool true) ∧ Below w.heap.size w w' :=
 (Ev.c_llazy (Ev.Jof.ok w) (Ev.c_fixed (Ev.Jof.ok w)) _ _ ⟨t, t', rfl, hw, hw', rfl⟩ (Ev.SW w) w [.agg #[.int .i64 t.f0, .int .i64 t.f1, .string t.f2, .slice A t.f3.length c], .agg #[.int .i64 t'.f0, .int .i64 t'.f1, .string t'.f2, .slice A' t'.f3.length c']] (Below.refl _ _) (Ev.SW_agr w) (.cons (.com (Ev.repT hl hC)) (.cons (.com (Ev.repT hl' hC')) .nil))).mono fun e w' h => Ev.post_ret h
end Go.Proofs.YtnjmilelifmfpaaGreatDoor.Pure

namespace Go.Proofs.YtnjmilelifmfpaaGreatDoor.Ev
open Go Go.RowKit
open HCore (wt wts may same height heights size sizes each alts)
open Go.Proofs.YtnjmilelifmfpaaGreatDoor.HSub (hstep nothing num)
open Go.Proofs.YtnjmilelifmfpaaGreatDoor.Pure.CoreStep
set_option linter.unusedSimpArgs false
set_option linter.unusedVariables false
def appT (x y : Tm) : Tm := ⟨3, 0, ⟨#[]⟩, [x, y]⟩
def altA (y : Tm) : Tm := ⟨6, 0, ⟨#[65]⟩, [y]⟩
def caseT (x y : Tm) : Tm := ⟨5, 0, ⟨#[]⟩, [x, altA y]⟩
def plusT (x y : Tm) : Tm := ⟨8, 0, ⟨#[43]⟩, [x, y]⟩
def lessT (x : Tm) : Tm := ⟨8, 0, ⟨#[60]⟩, [num 7, x]⟩
theorem con_A : HCore.con ⟨#[65]⟩ = true := by decide +kernel
section
variable {x y : Tm}
theorem goes (h : (hstep x).2 ≠ 0) : ¬ (x.f0 = 2 ∨ x.f0 = 4 ∨ x.f0 = 7 ∨ x.f0 = 9) := fun h' => h (by rw [still_none x h'])
theorem step_app (hx : may x 0 = true) (hy : may y 0 = true) (h : (hstep x).2 ≠ 0) : stepF (appT x y) = (appT (hstep x).1 y, (hstep x).2) := by
 have h0 : (0 : Int) ≤ Pure.Hd.freeT := by decide
 have g := goes h
 unfold stepF
 rw [if_pos (show may (appT x y) Pure.Hd.freeT = true from mk_app (may_up hx h0) (may_up hy h0) (by decide +kernel)), app_of (t := appT x y) rfl rfl, if_neg (by omega), if_neg (by omega), insideR, if_neg h]; rfl
theorem step_case (hx : may x 0 = true) (hy : may y 0 = true) (h : (hstep x).2 ≠ 0) : stepF (caseT x y) = (caseT (hstep x).1 y, (hstep x).2) := by
 have h0 : (0 : Int) ≤ Pure.Hd.freeT := by decide
 have g := goes h
 have ha : alts [altA y] Pure.Hd.freeT [] = true := by
  unfold altA
  simp only [alts, each, con_A]
  simp [may_up hy h0]
 unfold stepF
 rw [if_pos (show may (caseT x y) Pure.Hd.freeT = true from mk_case (may_up hx h0) ha (by simp) (by simp) (by decide +kernel)), case_of (t := caseT x y) rfl rfl, if_neg (by omega), if_neg (by omega), insideR, if_neg h]; rfl
theorem step_plus (hx : may x 0 = true) (hy : may y 0 = true) (h : (hstep x).2 ≠ 0) : stepF (plusT x y) = (plusT (hstep x).1 y, (hstep x).2) := by
 have h0 : (0 : Int) ≤ Pure.Hd.freeT := by decide
 have g := goes h
 unfold stepF
 rw [if_pos (show may (plusT x y) Pure.Hd.freeT = true from mk_op (may_up hx h0) (may_up hy h0) (by decide +kernel)), op_of (t := plusT x y) rfl rfl, if_neg (by unfold bad; omega), if_neg (by omega), insideR, if_neg h]; rfl
theorem step_less (hx : may x 0 = true) (h : (hstep x).2 ≠ 0) : stepF (lessT x) = (lessT (hstep x).1, (hstep x).2) := by
 have h0 : (0 : Int) ≤ Pure.Hd.freeT := by decide
 have g := goes h
 unfold stepF
 rw [if_pos (show may (lessT x) Pure.Hd.freeT = true from mk_op (may_num 7 _ h0) (may_up hx h0) (by decide +kernel)), op_of (t := lessT x) rfl rfl, if_neg (by unfold bad num; simp), if_pos (show (num 7).f0 = 7 from rfl), if_neg (by unfold bad; omega), if_neg (by omega), insideR, if_neg h]; rfl
theorem encT_app : encT (appT x y) = [.s (.int .i64 3), .s (.int .i64 0), .s (.string ⟨#[]⟩), .row [cX x, cX y]] := by simp only [appT, encT, encTs, encT_is x, encT_is y]
theorem encT_case : encT (caseT x y) = [.s (.int .i64 5), .s (.int .i64 0), .s (.string ⟨#[]⟩), .row [cX x, [.s (.int .i64 6), .s (.int .i64 0), .s (.string ⟨#[65]⟩), .row [cX y]]]] := by simp only [caseT, altA, encT, encTs, encT_is x, encT_is y]
theorem encT_plus : encT (plusT x y) = [.s (.int .i64 8), .s (.int .i64 0), .s (.string ⟨#[43]⟩), .row [cX x, cX y]] := by simp only [plusT, encT, encTs, encT_is x, encT_is y]
theorem encT_less : encT (lessT x) = [.s (.int .i64 8), .s (.int .i64 0), .s (.string ⟨#[60]⟩), .row [[.s (.int .i64 7), .s (.int .i64 7), .s (.string ⟨#[]⟩), .row []], cX x]] := by simp only [lessT, num, encT, encTs, encT_is x]
def four (x y : Tm) : List (List AV) := [[.s (.int .i64 3), .s (.int .i64 0), .s (.string ⟨#[]⟩), .row [cX x, cX y]], [.s (.int .i64 5), .s (.int .i64 0), .s (.string ⟨#[]⟩), .row [cX x, [.s (.int .i64 6), .s (.int .i64 0), .s (.string ⟨#[65]⟩), .row [cX y]]]],
 [.s (.int .i64 8), .s (.int .i64 0), .s (.string ⟨#[43]⟩), .row [cX x, cX y]], [.s (.int .i64 8), .s (.int .i64 0), .s (.string ⟨#[60]⟩), .row [[.s (.int .i64 7), .s (.int .i64 7), .s (.string ⟨#[]⟩), .row []], cX x]]]
end
def appS (x y z : Tm) (what : Int) (i : Nat) : AS := ⟨tm [(11, .s (.int .i64 (i : Int))), (9, .ref 0), (10, .ref 1), (6, .s (.int .i64 what))], bm [], bm [(0, some ⟨24, 4, four x y, true⟩), (1, some ⟨24, 4, four z y, true⟩)], 2⟩
abbrev TLApps : Spec := fun args out => ∃ (x y : Tm), args = [.agg (encT x), .agg (encT y)] ∧ wt x ≤ 1048576 ∧ wt y ≤ 1048576 ∧ out = .ret (.s (.bool true))
set_option maxHeartbeats 4000000 in
set_option maxRecDepth 100000 in
theorem c_lapps {J : JW} (hJ : JOk J) (hf : Con Tryz.prog J 11 TFixed) : Con Tryz.prog J 7 TLApps := by
 obtain ⟨code, h1, h2, h3, h4⟩ := k7
 refine con (ok9 hJ hf) hJ h1 h2 h3 h4 fun args out h => ?_
 obtain ⟨x, y, rfl, hw, hw', rfl⟩ := h
 have s1 := size_le_wt x
 have s2 := height_le_size x
 have s3 := size_le_wt y
 have s4 := height_le_size y
 have s5 := mx_le_wt x
 have s6 := mx_le_wt y
 refine ⟨rfl, by rw [Tryz.ntmps7]; simp, ?_⟩
 rw [encT_is x, encT_is y]
 unfold c7
 refine hide2 fun M hM => ?_
 refine go ?_
 subst hM
 refine hide2 fun M hM => ?_
 refine go ?_
 refine call (T := TFixed) ⟨rfl, rfl⟩ ?_
 refine go ?_
 refine call (T := TSmall) ⟨x, 100, by rw [encT_is], by omega, by omega, by omega, rfl⟩ ?_
 by_cases q1 : 0 ≤ few x 100 600
 rotate_left
 ·simp only [decide_eq_false q1]
  refine go ?_
  refine call (T := TFixed) ⟨rfl, rfl⟩ ?_
  refine go ?_
  trivial
 obtain ⟨g1, g2⟩ := small_ge q1
 simp only [decide_eq_true q1]
 refine go ?_
 refine call (T := TDepth _) ⟨x, by rw [encT_is], by omega, by omega, rfl⟩ ?_
 refine go ?_
 by_cases q2 : (height x : Int) > 200
 ·simp only [q2, decide_true]
  refine go ?_
  refine call (T := TFixed) ⟨rfl, rfl⟩ ?_
  refine go ?_
  trivial
 simp only [q2, decide_false]
 refine go ?_
 refine call (T := TSmall) ⟨y, 100, by rw [encT_is], by omega, by omega, by omega, rfl⟩ ?_
 by_cases q3 : 0 ≤ few y 100 600
 rotate_left
 ·simp only [decide_eq_false q3]
  refine go ?_
  refine call (T := TFixed) ⟨rfl, rfl⟩ ?_
  refine go ?_
  trivial
 obtain ⟨f1, f2⟩ := small_ge q3
 simp only [decide_eq_true q3]
 refine go ?_
 refine call (T := TDepth _) ⟨y, by rw [encT_is], by omega, by omega, rfl⟩ ?_
 refine go ?_
 by_cases q4 : (height y : Int) > 200
 ·simp only [q4, decide_true]
  refine go ?_
  refine call (T := TFixed) ⟨rfl, rfl⟩ ?_
  refine go ?_
  trivial
 simp only [q4, decide_false]
 refine go ?_
 refine call (T := TRMay) ⟨x, 0, by rw [encT_is], by omega, by omega, by omega, by omega, rfl⟩ ?_
 cases mx0 : may x 0 with
 | false =>
  refine go ?_
  refine call (T := TFixed) ⟨rfl, rfl⟩ ?_
  refine go ?_
  trivial
 | true =>
 refine go ?_
 refine call (T := TRMay) ⟨y, 0, by rw [encT_is], by omega, by omega, by omega, by omega, rfl⟩ ?_
 cases my0 : may y 0 with
 | false =>
  refine go ?_
  refine call (T := TFixed) ⟨rfl, rfl⟩ ?_
  refine go ?_
  trivial
 | true =>
 refine go ?_
 subst hM
 refine hide2 fun M hM => ?_
 refine go ?_
 refine call (T := THStep) ⟨x, by rw [encT_is], by omega, by omega, rfl⟩ ?_
 rw [show stepF x = hstep x from if_pos (may_up mx0 (by decide)), encT_is (hstep x).1]
 refine go ?_
 subst hM
 refine hide2 fun M hM => ?_
 refine go ?_
 cases e0 : ((hstep x).2 == 0) with
 | true =>
  refine go ?_
  trivial
 | false =>
 have h0 : (hstep x).2 ≠ 0 := by simpa using e0
 refine go ?_
 subst hM
 refine hide2 fun M hM => ?_
 refine go ?_
 subst hM
 refine hide2 fun M hM => ?_
 refine go ?_
 subst hM
 refine hide2 fun M hM => ?_
 refine go ?_
 subst hM
 refine hide2 fun M hM => ?_
 refine go ?_
 subst hM
 refine hide2 fun M hM => ?_
 refine go ?_
 have hq := Pure.CoreRun.size_step _ x (Nat.le_refl _)
 have hsq : size x * size x ≤ 300 * 300 := Nat.mul_le_mul (by omega) (by omega)
 have sp : size (appT x y) ≤ 2000 ∧ size (caseT x y) ≤ 2000 ∧ size (plusT x y) ≤ 2000 ∧ size (lessT x) ≤ 2000 := by simp only [appT, caseT, plusT, lessT, altA, num, size, sizes]; omega
 have wp : wt (appT x y) ≤ 3000000 ∧ wt (caseT x y) ≤ 3000000 ∧ wt (plusT x y) ≤ 3000000 ∧ wt (lessT x) ≤ 3000000 := by
  have e0 : ByteArray.size ⟨#[]⟩ = 0 := rfl
  have e1 : ByteArray.size ⟨#[65]⟩ = 1 := rfl
  have e2 : ByteArray.size ⟨#[43]⟩ = 1 := rfl
  have e3 : ByteArray.size ⟨#[60]⟩ = 1 := rfl
  simp only [appT, caseT, plusT, lessT, altA, num, wt, wts, e0, e1, e2, e3]; omega
 have sz : size (appT (hstep x).1 y) ≤ 2000000 ∧ size (caseT (hstep x).1 y) ≤ 2000000 ∧ size (plusT (hstep x).1 y) ≤ 2000000 ∧ size (lessT (hstep x).1) ≤ 2000000 := by simp only [appT, caseT, plusT, lessT, altA, num, size, sizes]; omega
 have hz1 := height_le_size (appT (hstep x).1 y)
 have hz2 := height_le_size (caseT (hstep x).1 y)
 have hz3 := height_le_size (plusT (hstep x).1 y)
 have hz4 := height_le_size (lessT (hstep x).1)
 refine count 4 (appS x y (hstep x).1 (hstep x).2) (lm [(0, 69), (1, 87)] (hG := by simp [gsub, onto, bm, four])) fun i hi => ?_
 unfold appS four
 match i, hi with
 | 0, _ =>
  refine hide2 fun N hN => ?_
  refine go ?_
  subst hN
  refine hideB fun N hN => ?_
  refine go ?_
  refine call (T := THStep) ⟨appT x y, by rw [encT_app], by omega, by omega, rfl⟩ ?_
  rw [step_app mx0 my0 h0]
  dsimp only
  rw [encT_app]
  refine go ?_
  subst hN
  refine go ?_
  simp only [bne_self_eq_false]
  refine go ?_
  refine call (T := TSame _) ⟨appT (hstep x).1 y, appT (hstep x).1 y, by rw [encT_app], by omega, by omega, rfl⟩ ?_
  rw [Pure.R6P.same_refl]
  refine go ?_
  rw [nxt (by omega)]
  exact lm [(0, 0), (1, 1)]
 | 1, _ =>
  refine hide2 fun N hN => ?_
  refine go ?_
  subst hN
  refine hideB fun N hN => ?_
  refine go ?_
  refine call (T := THStep) ⟨caseT x y, by rw [encT_case], by omega, by omega, rfl⟩ ?_
  rw [step_case mx0 my0 h0]
  dsimp only
  rw [encT_case]
  refine go ?_
  subst hN
  refine go ?_
  simp only [bne_self_eq_false]
  refine go ?_
  refine call (T := TSame _) ⟨caseT (hstep x).1 y, caseT (hstep x).1 y, by rw [encT_case], by omega, by omega, rfl⟩ ?_
  rw [Pure.R6P.same_refl]
  refine go ?_
  rw [nxt (by omega)]
  exact lm [(0, 0), (1, 1)]
 | 2, _ =>
  refine hide2 fun N hN => ?_
  refine go ?_
  subst hN
  refine hideB fun N hN => ?_
  refine go ?_
  refine call (T := THStep) ⟨plusT x y, by rw [encT_plus], by omega, by omega, rfl⟩ ?_
  rw [step_plus mx0 my0 h0]
  dsimp only
  rw [encT_plus]
  refine go ?_
  subst hN
  refine go ?_
  simp only [bne_self_eq_false]
  refine go ?_
  refine call (T := TSame _) ⟨plusT (hstep x).1 y, plusT (hstep x).1 y, by rw [encT_plus], by omega, by omega, rfl⟩ ?_
  rw [Pure.R6P.same_refl]
  refine go ?_
  rw [nxt (by omega)]
  exact lm [(0, 0), (1, 1)]
 | 3, _ =>
  refine hide2 fun N hN => ?_
  refine go ?_
  subst hN
  refine hideB fun N hN => ?_
  refine go ?_
  refine call (T := THStep) ⟨lessT x, by rw [encT_less], by omega, by omega, rfl⟩ ?_
  rw [step_less mx0 h0]
  dsimp only
  rw [encT_less]
  refine go ?_
  subst hN
  refine go ?_
  simp only [bne_self_eq_false]
  refine go ?_
  refine call (T := TSame _) ⟨lessT (hstep x).1, lessT (hstep x).1, by rw [encT_less], by omega, by omega, rfl⟩ ?_
  rw [Pure.R6P.same_refl]
  refine go ?_
  rw [nxt (by omega)]
  exact lm [(0, 0), (1, 1)]
 | 4, _ =>
  subst hM
  refine go ?_
  trivial
end Go.Proofs.YtnjmilelifmfpaaGreatDoor.Ev

namespace Go.Proofs.YtnjmilelifmfpaaGreatDoor.Pure
open Go Go.RowKit Go.Proofs.YtnjmilelifmfpaaGreatDoor.Q Go.Proofs.YtnjmilelifmfpaaGreatDoorW.PrintWords Go.Proofs.YtnjmilelifmfpaaGreatDoorW.PrintLast Go.Proofs.YtnjmilelifmfpaaGreatDoorW.PrintMore
theorem HeadApps_walk {w : World} (t : HCore.T) (A : Option Addr) (c : Nat) (hC : Kd.C k24 w A t.f3.length t.f3) (hl : t.f3.length ≤ c) (ok : HCore.Ok t) (hw : HCore.wt t ≤ 1048576)
  (t' : HCore.T) (A' : Option Addr) (c' : Nat) (hC' : Kd.C k24 w A' t'.f3.length t'.f3) (hl' : t'.f3.length ≤ c') (ok' : HCore.Ok t') (hw' : HCore.wt t' ≤ 1048576) :
  Calls Tryz.prog 7 #[.agg #[.int .i64 t.f0, .int .i64 t.f1, .string t.f2, .slice A t.f3.length c], .agg #[.int .i64 t'.f0, .int .i64 t'.f1, .string t'.f2, .slice A' t'.f3.length c']] w fun e w' => e = .returned (.bool true) ∧ Below w.heap.size w w' :=
 (Ev.c_lapps (Ev.Jof.ok w) (Ev.c_fixed (Ev.Jof.ok w)) _ _ ⟨t, t', rfl, hw, hw', rfl⟩ (Ev.SW w) w [.agg #[.int .i64 t.f0, .int .i64 t.f1, .string t.f2, .slice A t.f3.length c], .agg #[.int .i64 t'.f0, .int .i64 t'.f1, .string t'.f2, .slice A' t'.f3.length c']] (Below.refl _ _) (Ev.SW_agr w) (.cons (.com (Ev.repT hl hC)) (.cons (.com (Ev.repT hl' hC')) .nil))).mono fun e w' h => Ev.post_ret h
end Go.Proofs.YtnjmilelifmfpaaGreatDoor.Pure

namespace Go.Proofs.YtnjmilelifmfpaaGreatDoor.Ev
open Go Go.RowKit
open HCore (wt wts may same height heights size sizes)
open Go.Proofs.YtnjmilelifmfpaaGreatDoor.HSub (hstep nothing num truth compute failT)
set_option linter.unusedSimpArgs false
set_option linter.unusedVariables false
def opT (s : List UInt8) (x y : Int) : Tm := ⟨8, 0, ⟨s.toArray⟩, [num x, num y]⟩
theorem step_ints (s : List UInt8) (x y : Int) (hs : HCore.oper ⟨s.toArray⟩ = true) : stepF (opT s x y) = compute s x y := by
 have h1 : may (num x) Pure.Hd.freeT = true := Pure.CoreStep.may_num x _ (by decide)
 have h2 : may (num y) Pure.Hd.freeT = true := Pure.CoreStep.may_num y _ (by decide)
 have hm : may (opT s x y) Pure.Hd.freeT = true := Pure.CoreStep.mk_op h1 h2 hs
 unfold stepF
 rw [if_pos hm, op_of (t := opT s x y) rfl rfl]
 rw [if_neg (by unfold bad num; simp), if_pos (show (num x).f0 = 7 from rfl), if_neg (by unfold bad num; simp), if_pos (show (num y).f0 = 7 from rfl)]
 rfl
theorem encT_op {s : List UInt8} {x y : Int} : encT (opT s x y) = [.s (.int .i64 8), .s (.int .i64 0), .s (.string ⟨s.toArray⟩), .row [[.s (.int .i64 7), .s (.int .i64 x), .s (.string ⟨#[]⟩), .row []], [.s (.int .i64 7), .s (.int .i64 y), .s (.string ⟨#[]⟩), .row []]]] := rfl
theorem wt_op {s : List UInt8} {x y : Int} (h : s.length ≤ 8) : wt (opT s x y) ≤ 1000000000 ∧ size (opT s x y) ≤ 1000000 := by
 have : ByteArray.size ⟨s.toArray⟩ = s.length := by show s.toArray.size = _; simp
 have e : ByteArray.size ⟨#[]⟩ = 0 := rfl
 simp only [opT, num, wt, wts, size, sizes, this, e]; omega
theorem v_bneq {P : Program} {t : TypeId} {x y : Operand} {p q : Bool} (ht : P.underlying t = some .bool) : scv P (.bin .neq t) [x, y] [.bool p, .bool q] = some (.s (.bool (!(p == q)))) := by
 have : pureRun P (Sc.sem P (.bin .neq t) [x, y] [.bool p, .bool q]) = some (.bool (!(p == q))) := by
  show pureRun P (Op.equalIn (9999 + 1) t (.bool p) (.bool q) >>= fun r => pure (Value.bool !r)) = _
  rw [pureRun_bind]
  unfold Op.equalIn
  rw [pureRun_bind, pureRun_underlying, ht]
  rfl
 unfold scv; rw [this]; rfl
theorem quo_is {x y : Int} (hx : 0 ≤ x) (hy : 0 < y) (h1 : x < 9223372036854775808) : HSub.wrap (x.tdiv y) = x / y ∧ x / y * y ≤ x ∧ x < x / y * y + y ∧ 0 ≤ x / y * y ∧ x / y ≤ x := by
 have e : x.tdiv y = x / y := Int.tdiv_eq_ediv_of_nonneg hx
 have h2 : 0 ≤ x / y := Int.ediv_nonneg hx (by omega)
 have h3 : x / y ≤ x := Int.ediv_le_self _ hx
 have h4 := Int.mul_ediv_add_emod x y
 have h5 := Int.emod_nonneg x (show y ≠ 0 by omega)
 have h6 := Int.emod_lt_of_pos x hy
 have h7 : y * (x / y) = x / y * y := Int.mul_comm _ _
 refine ⟨?_, by omega, by omega, Int.mul_nonneg h2 (by omega), h3⟩
 rw [e]; unfold HSub.wrap; omega
def intS (x y : Int) (i : Nat) : AS := ⟨tm [(7, .s (.int .i64 (i : Int))), (5, .ref 0), (6, .ref 1), (0, .s (.int .i64 x)), (1, .s (.int .i64 y))], bm [],
 bm [(0, some ⟨9, 1, [[.s (.string ⟨#[43]⟩)], [.s (.string ⟨#[45]⟩)], [.s (.string ⟨#[42]⟩)], [.s (.string ⟨#[60]⟩)], [.s (.string ⟨#[61, 61]⟩)], [.s (.string ⟨#[47]⟩)]], true⟩),
  (1, some ⟨3, 1, [[.s (.int .i64 (HSub.wrap (x + y)))], [.s (.int .i64 (HSub.wrap (x - y)))], [.s (.int .i64 (HSub.wrap (x * y)))], [.s (.int .i64 0)], [.s (.int .i64 0)], [.s (.int .i64 0)]], true⟩)], 2⟩
abbrev TLInts : Spec := fun args out => ∃ (x y : Int), args = [.s (.int .i64 x), .s (.int .i64 y)] ∧ (-9223372036854775808 ≤ x ∧ x < 9223372036854775808) ∧ (-9223372036854775808 ≤ y ∧ y < 9223372036854775808) ∧ out = .ret (.s (.bool true))
set_option maxHeartbeats 4000000 in
set_option maxRecDepth 100000 in
theorem c_lints {J : JW} (hJ : JOk J) (hf : Con Tryz.prog J 11 TFixed) : Con Tryz.prog J 8 TLInts := by
 obtain ⟨code, h1, h2, h3, h4⟩ := k8
 refine con (ok9 hJ hf) hJ h1 h2 h3 h4 fun args out h => ?_
 obtain ⟨x, y, rfl, hx, hy, rfl⟩ := h
 refine ⟨rfl, by rw [Tryz.ntmps8]; simp, ?_⟩
 unfold c8
 refine go ?_
 refine call (T := TFixed) ⟨rfl, rfl⟩ ?_
 refine go ?_
 simp only [wrap_is]
 refine count 6 (intS x y) (lm [(0, 3), (1, 14)]) fun i hi => ?_
 unfold intS
 match i, hi with
 | 0, _ =>
  refine go ?_
  refine call (T := THStep) ⟨opT [43] x y, by rw [encT_op], (wt_op (by decide)).1, (wt_op (by decide)).2, rfl⟩ ?_
  rw [step_ints [43] x y (by decide +kernel), show compute [43] x y = (num (HSub.wrap (x + y)), 3) from rfl, num_is]
  refine go ?_
  simp only [bne_self_eq_false]
  refine go ?_
  rw [nxt (by omega)]
  exact lm [(0, 0), (1, 1)]
 | 1, _ =>
  refine go ?_
  refine call (T := THStep) ⟨opT [45] x y, by rw [encT_op], (wt_op (by decide)).1, (wt_op (by decide)).2, rfl⟩ ?_
  rw [step_ints [45] x y (by decide +kernel), show compute [45] x y = (num (HSub.wrap (x - y)), 3) from rfl, num_is]
  refine go ?_
  simp only [bne_self_eq_false]
  refine go ?_
  rw [nxt (by omega)]
  exact lm [(0, 0), (1, 1)]
 | 2, _ =>
  refine go ?_
  refine call (T := THStep) ⟨opT [42] x y, by rw [encT_op], (wt_op (by decide)).1, (wt_op (by decide)).2, rfl⟩ ?_
  rw [step_ints [42] x y (by decide +kernel), show compute [42] x y = (num (HSub.wrap (x * y)), 3) from rfl, num_is]
  refine go ?_
  simp only [bne_self_eq_false]
  refine go ?_
  rw [nxt (by omega)]
  exact lm [(0, 0), (1, 1)]
 | 3, _ =>
  refine go ?_
  refine call (T := THStep) ⟨opT [60] x y, by rw [encT_op], (wt_op (by decide)).1, (wt_op (by decide)).2, rfl⟩ ?_
  rw [step_ints [60] x y (by decide +kernel), show compute [60] x y = (truth (decide (x < y)), 3) from rfl, truth_is]
  refine go ?_
  simp only [v_bneq Tryz.underlying4]
  rw [show decide ((truth (decide (x < y))).f2 = ⟨#[84, 114, 117, 101]⟩) = decide (x < y) by cases decide (x < y) <;> decide +kernel, beq_self_eq_true, Bool.not_true]
  refine go ?_
  rw [nxt (by omega)]
  exact lm [(0, 0), (1, 1)]
 | 4, _ =>
  refine go ?_
  refine call (T := THStep) ⟨opT [61, 61] x y, by rw [encT_op], (wt_op (by decide)).1, (wt_op (by decide)).2, rfl⟩ ?_
  rw [step_ints [61, 61] x y (by decide +kernel), show compute [61, 61] x y = (truth (decide (x = y)), 3) from rfl, truth_is]
  refine go ?_
  simp only [v_bneq Tryz.underlying4]
  rw [show decide ((truth (decide (x = y))).f2 = ⟨#[84, 114, 117, 101]⟩) = (x == y) by rw [show (x == y) = decide (x = y) from rfl]; cases decide (x = y) <;> decide +kernel, beq_self_eq_true, Bool.not_true]
  refine go ?_
  rw [nxt (by omega)]
  exact lm [(0, 0), (1, 1)]
 | 5, _ =>
  refine go ?_
  refine call (T := THStep) ⟨opT [47] x y, by rw [encT_op], (wt_op (by decide)).1, (wt_op (by decide)).2, rfl⟩ ?_
  rw [step_ints [47] x y (by decide +kernel), show compute [47] x y = (if y = 0 then (failT, 4) else (num (HSub.wrap (x.tdiv y)), 3)) from rfl]
  cases k : (y == 0) with
  | true =>
   rw [if_pos (by simpa using k), failT_is]
   refine go ?_
   exact fun h => absurd (k.symm.trans h) (by decide)
  | false =>
  rw [if_neg (by simpa using k), num_is]
  refine go ?_
  refine ⟨fun h => absurd (k.symm.trans h) (by decide), fun _ => ?_⟩
  simp only [wrap_is]
  by_cases hc : 0 ≤ x ∧ 0 < y
  ·obtain ⟨e0, e1, e2, e3, e4⟩ := quo_is hc.1 hc.2 hx.2
   have w1 : HSub.wrap (x / y * y) = x / y * y := by unfold HSub.wrap; omega
   simp only [e0, w1, show ¬ x / y * y > x by omega, decide_false]
   refine go ?_
   simp only [wrap_is, w1]
   by_cases h5 : HSub.wrap (x / y * y + y) ≤ x
   ·simp only [h5, decide_true]
    refine go ?_
    simp only [show x ≥ 0 from hc.1, decide_true]
    refine go ?_
    simp only [show y > 0 from hc.2, decide_true]
    refine go ?_
    by_cases h6 : y < 1073741824
    ·have h7 : ¬ x < 1152921504606846976 := fun h => by
      have : HSub.wrap (x / y * y + y) = x / y * y + y := by unfold HSub.wrap; omega
      omega
     simp only [h6, decide_true]
     refine go ?_
     simp only [h7, decide_false]
     refine go ?_
     simp only [show (y == -1) = false by simp; omega]
     refine go ?_
     rw [nxt (by omega)]
     exact lm [(0, 0), (1, 1)]
    ·simp only [h6, decide_false]
     refine go ?_
     simp only [show (y == -1) = false by simp; omega]
     refine go ?_
     rw [nxt (by omega)]
     exact lm [(0, 0), (1, 1)]
   ·simp only [h5, decide_false]
    refine go ?_
    simp only [show (y == -1) = false by simp; omega]
    refine go ?_
    rw [nxt (by omega)]
    exact lm [(0, 0), (1, 1)]
  ·obtain ⟨p1, h1'⟩ : ∃ p, decide (HSub.wrap (HSub.wrap (x.tdiv y) * y) > x) = p := ⟨_, rfl⟩
   obtain ⟨p2, h2'⟩ : ∃ p, decide (x ≥ 0) = p := ⟨_, rfl⟩
   obtain ⟨p3, h3'⟩ : ∃ p, decide (HSub.wrap (HSub.wrap (HSub.wrap (x.tdiv y) * y) + y) ≤ x) = p := ⟨_, rfl⟩
   obtain ⟨p4, h4'⟩ : ∃ p, (y == -1) = p := ⟨_, rfl⟩
   have h5' : p2 = true → decide (y > 0) = false := fun h => by
    rw [h] at h2'
    have := of_decide_eq_true h2'
    exact decide_eq_false (by omega)
   have h6' : p4 = true → (HSub.wrap (x.tdiv y) != HSub.wrap (0 - x)) = false := fun h => by
    rw [h] at h4'
    have hy1 : y = -1 := by simpa using h4'
    rw [hy1, show x.tdiv (-1) = 0 - x by rw [Int.tdiv_neg, Int.tdiv_one]; omega]
    exact bne_self_eq_false _
   simp only [h1']
   cases p1 <;> cases p2 <;> cases p3 <;> cases p4 <;> (repeat (refine go ?_; simp only [wrap_is, h2', h3', h4', h5', h6'])) <;> (try refine go ?_) <;> (simp only [← wrap_is]; rw [nxt (by omega)]; exact lm [(0, 0), (1, 1)])
 | 6, _ =>
  refine go ?_
  trivial
end Go.Proofs.YtnjmilelifmfpaaGreatDoor.Ev

namespace Go.Proofs.YtnjmilelifmfpaaGreatDoor.Pure
open Go Go.RowKit Go.Proofs.YtnjmilelifmfpaaGreatDoor.Q Go.Proofs.YtnjmilelifmfpaaGreatDoorW.PrintWords Go.Proofs.YtnjmilelifmfpaaGreatDoorW.PrintLast Go.Proofs.YtnjmilelifmfpaaGreatDoorW.PrintMore
theorem HeadInts_walk (a b : Int) (ha : (Lit.int .i64 a).wf = true) (hb : (Lit.int .i64 b).wf = true) (w : World) :
  Calls Tryz.prog 8 #[.int .i64 a, .int .i64 b] w fun e w' => e = .returned (.bool true) ∧ Below w.heap.size w w' := by
 simp only [Lit.wf, Bool.and_eq_true, decide_eq_true_eq] at ha hb
 have e1 : IntKind.i64.min = -9223372036854775808 := by decide
 rw [e1, IntKind.max_i64] at ha hb
 exact (Ev.c_lints (Ev.Jof.ok w) (Ev.c_fixed (Ev.Jof.ok w)) _ _ ⟨a, b, rfl, by omega, by omega, rfl⟩ (Ev.SW w) w [.int .i64 a, .int .i64 b] (Below.refl _ _) (Ev.SW_agr w) (.cons (.com (.cel (.pur (.s rfl)))) (.cons (.com (.cel (.pur (.s rfl)))) .nil))).mono fun e w' h => Ev.post_ret h
end Go.Proofs.YtnjmilelifmfpaaGreatDoor.Pure
