-- Written for this claim: several texts in one.
import Derived.Test.YthdkjfhpbigdpaaDoorKTreeAlts0
import Derived.Test.YthdkjfhpbigdpaaDoorKTreeAlts1
import Derived.Test.YthdkjfhpbigdpaaDoorKTreeAlts3
import Derived.KernelRfl
import Derived.Test.YthdkjfhpbigdpaaDoorRows
import Derived.Deep.Slices
import Derived.ProofKit
import Derived.OpenShut
import Derived.Test.YthdkjfhpbigdpaaDoorKTreeAlts2
import Derived.Lib.LaidTab
import Derived.Lib.ItoaNum
import Derived.LaidLaws
import Derived.LaidMore
import Derived.Stop.Joined
import Derived.Stop.LaidErr
import Derived.Lay
import Derived.Shelf.Strings.Fields
set_option linter.unusedSimpArgs false
set_option linter.unusedVariables false
namespace Go.Proofs.YthdkjfhpbigdpaaDoor.Ev
open Go Go.RowKit Go.Proofs.YthdkjfhpbigdpaaDoor.Q Go.Proofs.YthdkjfhpbigdpaaDoorW.PrintWords Go.Proofs.YthdkjfhpbigdpaaDoorW.PrintLast Go.Proofs.YthdkjfhpbigdpaaDoorW.PrintMore
open HTree (wt wts whole)
set_option linter.unusedSimpArgs false
set_option linter.unusedVariables false
def aX : List AV := [.s (.int .i64 1), .s (.string ⟨#[120]⟩), .s (.int .i64 0), .s (.int .i64 0), .row []]
def St1 (x : Tr) (v m : Int) (i : Nat) : AS := ⟨tm [(8, .s (.int .i64 i)), (7, .ptr 1 0), (3, .ptr 0 0), (1, .s (.int .i64 v)), (2, .s (.int .i64 m))],
 bm [(1, some [.s (.int .i64 8), .s (.string ⟨#[65]⟩), .s (.int .i64 v), .s (.int .i64 0), .ref 2]), (0, some [.s (.int .i64 x.f0), .s (.string x.f1), .s (.int .i64 x.f2), .s (.int .i64 x.f3), .row (encTs x.f4)])],
 bm [(2, some ⟨24, 5, List.replicate i aX, true⟩)], 3⟩
abbrev cX (x : Tr) : List AV := [.s (.int .i64 x.f0), .s (.string x.f1), .s (.int .i64 x.f2), .s (.int .i64 x.f3), .row (encTs x.f4)]
abbrev cA (x : Tr) (n : Nat) : List AV := [.s (.int .i64 8), .s (.string ⟨#[65]⟩), .s (.int .i64 n), .s (.int .i64 0), .row (List.replicate n aX ++ [cX x])]
abbrev cL (n : Nat) : List AV := [.s (.int .i64 8), .s (.string ⟨#[65]⟩), .s (.int .i64 n), .s (.int .i64 0), .row (List.replicate n aX)]
def St2 (x : Tr) (n : Nat) (m : Int) (j : Nat) : AS := ⟨tm [(11, .s (.int .i64 j)), (10, .ptr 2 0), (9, .ptr 1 0), (7, .ptr 0 0), (1, .s (.int .i64 n)), (2, .s (.int .i64 m))],
 bm [(0, some [.s (.int .i64 8), .s (.string ⟨#[65]⟩), .s (.int .i64 n), .s (.int .i64 0), .ref 3]), (1, some [.s (.int .i64 7), .s (.string ⟨#[]⟩), .s (.int .i64 0), .s (.int .i64 0), .ref 4]), (2, some [.s (.int .i64 7), .s (.string ⟨#[]⟩), .s (.int .i64 0), .s (.int .i64 0), .ref 5])],
 bm [(3, some ⟨24, 5, List.replicate n aX ++ [cX x], decide (j = 0)⟩), (4, some ⟨24, 5, [cX x, cL n], true⟩), (5, some ⟨24, 5, cX x :: List.replicate j (cA x n), true⟩)], 6⟩
theorem wr {i : Nat} (h : i < 1000) : IntKind.i64.wrap ((i : Int) + 1) = ((i + 1 : Nat) : Int) := by rw [IntKind.wrap_i64]; omega
theorem enc_V : encT Pure.TreeAl.aV = aX := rfl
theorem enc_F (n : Nat) (x : Tr) : encT (Pure.TreeAl.altF n x) = cA x n := by
 rw [encT_is]; unfold Pure.TreeAl.altF
 simp only [encTs_map, List.map_append, List.map_replicate, enc_V, List.map_cons, List.map_nil, cA, cX]
 rw [encT_is, encTs_map]
theorem enc_L (n : Nat) : encT (Pure.TreeAl.altL n) = cL n := by
 rw [encT_is]; unfold Pure.TreeAl.altL
 simp only [encTs_map, List.map_replicate, enc_V, cL]
theorem enc_cas (n m : Nat) (x : Tr) : encT (Pure.TreeAl.cas x n m) = [.s (.int .i64 7), .s (.string ⟨#[]⟩), .s (.int .i64 0), .s (.int .i64 0), .row (cX x :: List.replicate m (cA x n))] := by
 rw [encT_is]; unfold Pure.TreeAl.cas
 simp only [encTs_map, List.map_cons, List.map_replicate, enc_F]
 rw [encT_is]
theorem enc_less (n : Nat) (x : Tr) : encT (Pure.TreeAl.less x n) = [.s (.int .i64 7), .s (.string ⟨#[]⟩), .s (.int .i64 0), .s (.int .i64 0), .row [cX x, cL n]] := by
 rw [encT_is]; unfold Pure.TreeAl.less
 simp only [encTs_map, List.map_cons, List.map_nil, enc_L]
 rw [encT_is]
theorem enc_lam (n : Nat) (x : Tr) : encT (Pure.TreeAl.lam x n) = [.s (.int .i64 2), .s (.string ⟨#[120]⟩), .s (.int .i64 0), .s (.int .i64 0), .row [cA x n]] := by
 rw [encT_is]; unfold Pure.TreeAl.lam
 simp only [encTs_map, List.map_cons, List.map_nil, enc_F]
theorem bb {x y : Operand} {p q : Bool} : scv Tryd.prog (.bin .eql 4) [x, y] [.bool p, .bool q] = some (.s (.bool (p == q))) := by cases p <;> cases q <;> kernel_rfl
theorem law : Con Tryd.prog LaidW 7 fun args out => ∃ (x : Tr) (v m : Int), args = [.agg (encT x), .s (.int .i64 v), .s (.int .i64 m)] ∧ wt x ≤ 1048576 ∧ HTree.Ok x ∧ out = .ret (.s (.bool true)) := by
 obtain ⟨code, h1, h2, h3, h4⟩ := k7
 refine con okTA (fun w w' hb h => h.below hb) h1 h2 h3 h4 fun args out h => ?_
 obtain ⟨x, v, m, rfl, hw, ok, rfl⟩ := h
 refine ⟨by rw [Tryd.ntmps7]; simp, ?_⟩
 rw [encT_is, start3]
 unfold c7
 refine go ?_
 obtain ⟨k, b, hk⟩ := Pure.TreeEv.small_some x (by have := Pure.TreeEv.size_wt x; omega) 100 (by omega) (by omega)
 refine ⟨_, ⟨x, k, b, by rw [encT_is], by omega, hk, rfl⟩, ?_⟩
 cases b with
 | false => refine go ?_; exact trivial
 | true =>
 refine go ?_
 by_cases q1 : v < 0
 ·simp only [q1, decide_true]; refine go ?_; exact trivial
 simp only [q1, decide_false]
 refine go ?_
 by_cases q2 : v > 10
 ·simp only [q2, decide_true]; refine go ?_; exact trivial
 simp only [q2, decide_false]
 refine go ?_
 by_cases q3 : m < 0
 ·simp only [q3, decide_true]; refine go ?_; exact trivial
 simp only [q3, decide_false]
 refine go ?_
 by_cases q4 : m > 10
 ·simp only [q4, decide_true]; refine go ?_; exact trivial
 simp only [q4, decide_false]
 refine go ?_
 refine ⟨_, ⟨x, by rw [encT_is], by omega, ok, rfl⟩, ?_⟩
 cases hb : whole x with
 | false => refine go ?_; exact trivial
 | true =>
 refine go ?_
 refine loop (ι := { i : Nat // (i : Int) ≤ v }) (fun i => St1 x v m i.1) (fun i => (v - i.1).toNat) ⟨0, by omega⟩ (le_mk [(1, 32), (0, 0)] (by decide) ?_ ?_ ?_) fun ⟨i, hi⟩ => ?_
 ·simp [tsub, subT, subC, onto, tm]
 ·simp [bsub, subs, subC, onto, bm]
 ·simp [gsub, onto, bm]
 unfold St1
 refine go ?_
 by_cases q5 : (i : Int) < v
 ·simp only [q5, decide_true]
  refine go ?_
  refine ⟨by simp [Room]; omega, ⟨i + 1, by omega⟩, le_mk [(1, 1), (0, 0), (2, 10)] (by decide) ?_ ?_ ?_, by simp only; omega⟩
  ·simp [tsub, subT, subC, onto, tm, wr (show i < 1000 by omega)]
  ·simp [bsub, subs, subC, onto, bm]
  ·simp [gsub, onto, bm, List.replicate_succ', aX]
 simp only [q5, decide_false]
 obtain rfl : v = (i : Int) := by omega
 refine go ?_
 refine ⟨by simp [aX], by simp [Room]; omega, by simp [Room]; omega, ?_⟩
 refine loop (ι := { j : Nat // (j : Int) ≤ m }) (fun j => St2 x i m j.1) (fun j => (m - j.1).toNat) ⟨0, by omega⟩ (le_mk [(0, 1), (1, 10), (2, 24), (3, 18), (4, 8), (5, 22)] (by decide) ?_ ?_ ?_) fun ⟨j, hj⟩ => ?_
 ·simp [tsub, subT, subC, onto, tm]
 ·simp [bsub, subs, subC, onto, bm]
 ·simp [gsub, onto, bm, cX, cL]
 unfold St2
 refine go ?_
 by_cases q6 : (j : Int) < m
 ·simp only [q6, decide_true]
  refine go ?_
  refine ⟨by simp [Room]; omega, ⟨j + 1, by omega⟩, le_mk [(0, 0), (1, 1), (2, 2), (3, 3), (4, 4), (5, 13)] (by decide) ?_ ?_ ?_, by simp only; omega⟩
  ·simp [tsub, subT, subC, onto, tm, wr (show j < 1000 by omega)]
  ·simp [bsub, subs, subC, onto, bm]
  ·simp [gsub, onto, bm, List.replicate_succ', cA, cX]
 simp only [q6, decide_false]
 obtain rfl : m = (j : Int) := by omega
 refine go ?_
 have wF := Pure.TreeAl.wt_cas x i j
 have wL := Pure.TreeAl.wt_less x i
 have wA := Pure.TreeAl.wt_F i x
 have wM := Pure.TreeAl.wt_lam x i
 have hm : j * (2 + (i * 2 + wt x)) ≤ 10 * (2 + (10 * 2 + 1048576)) := Nat.mul_le_mul (by omega) (by omega)
 have hcas := Pure.TreeAl.w_cas x i j hb
 refine ⟨_, ⟨Pure.TreeAl.cas x i j, by rw [enc_cas], by omega, rfl⟩, ?_⟩
 rw [hcas]
 by_cases p1 : (j : Int) ≥ 1
 ·simp only [p1, decide_true]
  refine go ?_
  by_cases p2 : (j : Int) ≤ 8
  ·simp only [p2, decide_true]
   refine go ?_
   by_cases p3 : (i : Int) ≤ 8
   ·have e : (decide (1 ≤ j) && decide (j ≤ 8) && decide (i ≤ 8)) = true := by simp; omega
    simp only [p3, decide_true, e, bb]
    refine go ?_
    refine ⟨_, ⟨Pure.TreeAl.less x i, by rw [enc_less], by omega, rfl⟩, ?_⟩
    rw [Pure.TreeAl.w_less]
    refine go ?_
    refine ⟨_, ⟨Pure.TreeAl.altF i x, by rw [enc_F], by omega, rfl⟩, ?_⟩
    rw [Pure.TreeAl.w_alt]
    refine go ?_
    refine ⟨_, ⟨Pure.TreeAl.lam x i, by rw [enc_lam], by omega, rfl⟩, ?_⟩
    rw [Pure.TreeAl.w_lam]
    refine go ?_
    exact trivial
   ·have e : (decide (1 ≤ j) && decide (j ≤ 8) && decide (i ≤ 8)) = false := by simp; omega
    simp only [p3, decide_false, e, bb]
    refine go ?_
    refine ⟨_, ⟨Pure.TreeAl.less x i, by rw [enc_less], by omega, rfl⟩, ?_⟩
    rw [Pure.TreeAl.w_less]
    refine go ?_
    refine ⟨_, ⟨Pure.TreeAl.altF i x, by rw [enc_F], by omega, rfl⟩, ?_⟩
    rw [Pure.TreeAl.w_alt]
    refine go ?_
    refine ⟨_, ⟨Pure.TreeAl.lam x i, by rw [enc_lam], by omega, rfl⟩, ?_⟩
    rw [Pure.TreeAl.w_lam]
    refine go ?_
    exact trivial
  ·have e : (decide (1 ≤ j) && decide (j ≤ 8) && decide (i ≤ 8)) = false := by simp; omega
   simp only [p2, decide_false, e]
   refine go ?_
   simp only [bb]
   refine go ?_
   refine ⟨_, ⟨Pure.TreeAl.less x i, by rw [enc_less], by omega, rfl⟩, ?_⟩
   rw [Pure.TreeAl.w_less]
   refine go ?_
   refine ⟨_, ⟨Pure.TreeAl.altF i x, by rw [enc_F], by omega, rfl⟩, ?_⟩
   rw [Pure.TreeAl.w_alt]
   refine go ?_
   refine ⟨_, ⟨Pure.TreeAl.lam x i, by rw [enc_lam], by omega, rfl⟩, ?_⟩
   rw [Pure.TreeAl.w_lam]
   refine go ?_
   exact trivial
 ·have e : (decide (1 ≤ j) && decide (j ≤ 8) && decide (i ≤ 8)) = false := by simp; omega
  simp only [p1, decide_false, e]
  refine go ?_
  simp only [bb]
  refine go ?_
  refine ⟨_, ⟨Pure.TreeAl.less x i, by rw [enc_less], by omega, rfl⟩, ?_⟩
  rw [Pure.TreeAl.w_less]
  refine go ?_
  refine ⟨_, ⟨Pure.TreeAl.altF i x, by rw [enc_F], by omega, rfl⟩, ?_⟩
  rw [Pure.TreeAl.w_alt]
  refine go ?_
  refine ⟨_, ⟨Pure.TreeAl.lam x i, by rw [enc_lam], by omega, rfl⟩, ?_⟩
  rw [Pure.TreeAl.w_lam]
  refine go ?_
  exact trivial
end Go.Proofs.YthdkjfhpbigdpaaDoor.Ev

namespace Go.Proofs.YthdkjfhpbigdpaaDoor.Pure
open Go Go.RowKit Go.Proofs.YthdkjfhpbigdpaaDoor.Q Go.Proofs.YthdkjfhpbigdpaaDoorW.PrintWords Go.Proofs.YthdkjfhpbigdpaaDoorW.PrintLast Go.Proofs.YthdkjfhpbigdpaaDoorW.PrintMore
open HTree
theorem TreeAlts_walk {w : World} (t : T) (A : Option Addr) (c : Nat) (hC : Kd.C k24 w A t.f4.length t.f4) (hl : t.f4.length ≤ c) (ok : Ok t) (hw : wt t ≤ 1048576) (v : Int) (_ : (Lit.int .i64 v).wf = true) (m : Int) (_ : (Lit.int .i64 m).wf = true) (htab : Lib.TabIs Tryd.prog w "strings.asciiSpace" .u8 Lib.asciiSpaceTab) :
  Calls Tryd.prog 7 #[.agg #[.int .i64 t.f0, .string t.f1, .int .i64 t.f2, .int .i64 t.f3, .slice A t.f4.length c], .int .i64 v, .int .i64 m] w fun e w' => e = .returned (.bool true) ∧ Below w.heap.size w w' :=
 (Ev.law _ _ ⟨t, v, m, rfl, hw, ok, rfl⟩ (Ev.SW w) w [.agg #[.int .i64 t.f0, .string t.f1, .int .i64 t.f2, .int .i64 t.f3, .slice A t.f4.length c], .int .i64 v, .int .i64 m] htab (Ev.SW_agr w) (.cons (Ev.repT hl hC) (.cons (Ev.rep_s rfl) (.cons (Ev.rep_s rfl) .nil)))).mono fun e w' h => Ev.post_ret h
end Go.Proofs.YthdkjfhpbigdpaaDoor.Pure

/- Reading an argument: what the model's reading of a value gives, kind by kind: the Lean value, its bounds, and its weight (at most the reading's bulk). -/
namespace Go.Proofs.YthdkjfhpbigdpaaDoor.HRead
open Go Go.RowKit Go.Lib Go.Proofs.YthdkjfhpbigdpaaDoorW.PrintWords Go.Proofs.YthdkjfhpbigdpaaDoorW.PrintLast Go.Proofs.YthdkjfhpbigdpaaDoorW.PrintMore
set_option linter.unusedVariables false

def Rd {α : Type} (P : Program) (d : Kd α) (t : TypeId) (ok : α → Prop) (wt : α → Nat) (n : Nat) : Prop :=
 ∀ {H : Type} (enc : TypeId × Value → H) (w : World) (base : Nat) (spare : Nat → Bool) (held : Bool) (cs : List Value) (x : DataW H × List MemPlace),
  DataW.trod enc P w base spare held n t cs = some x → ∃ y, d.K w y cs ∧ ok y ∧ wt y ≤ Rows.uptoBulk x.1
def RdF {α : Type} (P : Program) (d : Kd α) (fs : List Field) (o : Nat) (ok : α → Prop) (wt : α → Nat) (n : Nat) : Prop :=
 ∀ {H : Type} (enc : TypeId × Value → H) (w : World) (base : Nat) (spare : Nat → Bool) (held : Bool) (cs : List Value) (xs : List (DataW H × List MemPlace)), xs.length = fs.length →
  (∀ (i : Nat) (f : Field), fs[i]? = some f → DataW.trod enc P w base spare held n f.type ((cs.drop f.offset).take (P.cellsOf f.type)) = xs[i]?) →
  ∃ y, d.K w y ((cs.drop o).take d.sz) ∧ ok y ∧ wt y ≤ Rows.uptoBulkAll (xs.map (·.1))

theorem list_of {α : Type} {p : Nat → α → Prop} : ∀ n, (∀ i, i < n → ∃ y, p i y) → ∃ ys : List α, ys.length = n ∧ ∀ i y, ys[i]? = some y → p i y
 | 0, _ => ⟨[], rfl, fun i y h => by simp at h⟩
 | n + 1, h => by
  obtain ⟨ys, hl, hp⟩ := list_of n fun i hi => h i (by omega)
  obtain ⟨y, hy⟩ := h n (by omega)
  refine ⟨ys ++ [y], by simp [hl], fun i z hz => ?_⟩
  by_cases hi : i < n
  ·rw [List.getElem?_append_left (by omega)] at hz; exact hp i z hz
  ·rw [List.getElem?_append_right (by omega)] at hz
   have h0 : i - ys.length = 0 := by
    have := (List.getElem?_eq_some_iff.1 hz).1
    simp at this; omega
   rw [h0] at hz
   obtain rfl : y = z := by simpa using hz
   obtain rfl : i = n := by omega
   exact hy
theorem bulk_sum {α H : Type} (wt : α → Nat) : ∀ (ys : List α) (ds : List (DataW H)), ys.length = ds.length → (∀ (i : Nat) (y : α) (d : DataW H), ys[i]? = some y → ds[i]? = some d → wt y ≤ Rows.uptoBulk d) → (ys.map wt).sum ≤ Rows.uptoBulkAll ds
 | [], ds, _, _ => by simp
 | y :: ys, [], h, _ => by simp at h
 | y :: ys, d :: ds, h, hp => by
  have h1 := hp 0 y d rfl rfl
  have h2 := bulk_sum wt ys ds (by simpa using h) fun i z e hz he => hp (i + 1) z e hz he
  simp only [List.map_cons, List.sum_cons, Rows.uptoBulkAll]
  omega

section
variable {P : Program} {t e : TypeId} {n : Nat}
theorem rd_zero {α : Type} {d : Kd α} {ok : α → Prop} {wt : α → Nat} : Rd P d t ok wt 0 := fun enc w base spare held cs x h => by simp [DataW.trod] at h
theorem rd_int {k : IntKind} (ht : P.underlying t = some (.int k)) : Rd P (Kd.int k) t (fun m => (Lit.int k m).wf = true) (fun _ => 1) n := by
 intro H enc w base spare held cs x h
 obtain ⟨m, rfl, rfl, hw⟩ := DataW.trod_int ht h
 exact ⟨m, rfl, hw, by simp [Rows.uptoBulk]⟩
theorem rd_string (ht : P.underlying t = some .string) : Rd P Kd.string t (fun _ => True) (fun s => s.size + 1) n := by
 intro H enc w base spare held cs x h
 obtain ⟨s, rfl, rfl, hs⟩ := DataW.trod_string ht h
 exact ⟨s, rfl, trivial, by simp [Rows.uptoBulk]⟩
theorem rd_slice {α : Type} {d : Kd α} {ok : α → Prop} {wt : α → Nat} (ht : P.underlying t = some (.slice e)) (hc : P.cellsOf e = d.sz) (h : Rd P d e ok wt n) :
  Rd P (Kd.slice e d) t (fun ys => (∀ y ∈ ys, ok y) ∧ ys.length ≤ 9223372036854775807) (fun ys => (ys.map wt).sum + 1) (n + 1) := by
 intro H enc w base spare held cs x hx
 rcases DataW.trod_slice ht hx with ⟨rfl, rfl⟩ | ⟨a, len, cap, elems, rest, m, hm, rfl, rfl, hb, hl, hmax, hel, hget, _, _⟩
 ·exact ⟨[], ⟨none, 0, rfl, Nat.le_refl _, rfl, by simp, fun h0 => absurd h0 (by simp)⟩, ⟨by simp, by simp⟩, by simp [Rows.uptoBulk]⟩
 ·obtain rfl : n = m := by omega
  rw [hc] at hget
  have hmax' : cap ≤ 9223372036854775807 := hmax
  have key : ∀ i, i < len → ∃ y, ∃ cs' x', elems[i]? = some x' ∧ w.cells? base (a.add (i * d.sz)) d.sz = some cs' ∧ d.K w y cs' ∧ ok y ∧ wt y ≤ Rows.uptoBulk x'.1 := by
   intro i hi
   have h1 := hget i hi
   rw [List.getElem?_eq_getElem (by omega)] at h1
   obtain ⟨cs', h2, h3⟩ := Option.bind_eq_some_iff.1 h1
   obtain ⟨y, k1, k2, k3⟩ := h enc w base spare held cs' _ h3
   exact ⟨y, cs', _, List.getElem?_eq_getElem (by omega), h2, k1, k2, k3⟩
  obtain ⟨ys, hyl, hy⟩ := list_of len key
  refine ⟨ys, ⟨some a, cap, by rw [hyl], by omega, ?_⟩, ⟨?_, by omega⟩, ?_⟩
  ·refine ⟨rfl, by omega, fun _ => ⟨a, rfl, fun j p hj => ?_⟩⟩
   obtain ⟨cs', x', _, h2, h3, _⟩ := hy j p hj
   obtain ⟨_, h5, h6⟩ := World.cells?_some h2
   refine ⟨cs', h5, h3, fun i u hi => ?_⟩
   have hlt : i < d.sz := by
    have := (List.getElem?_eq_some_iff.1 hi).1
    omega
   rw [← add_add, h6 i hlt, hi]
  ·intro y hm
   obtain ⟨i, hi⟩ := List.getElem?_of_mem hm
   obtain ⟨_, _, _, _, _, h4, _⟩ := hy i y hi
   exact h4
  ·have := bulk_sum wt ys (elems.map (·.1)) (by simp [hyl, hel]) (fun i y dd hi hd => by
    obtain ⟨cs', x', h1, _, _, _, h5⟩ := hy i y hi
    rw [List.getElem?_map, h1] at hd
    obtain rfl : x'.1 = dd := by simpa using hd
    exact h5)
   simp only [Rows.uptoBulk]
   omega
theorem rdf_one {α : Type} {d : Kd α} {ok : α → Prop} {wt : α → Nat} {f : Field} {o : Nat} (ho : f.offset = o) (hc : P.cellsOf f.type = d.sz) (h : Rd P d f.type ok wt n) : RdF P d [f] o ok wt n := by
 intro H enc w base spare held cs xs hl hx
 match xs, hl with
 | [x], _ =>
  have h0 := hx 0 f rfl
  rw [ho, hc] at h0
  obtain ⟨y, h1, h2, h3⟩ := h enc w base spare held _ _ h0
  exact ⟨y, h1, h2, by simpa [Rows.uptoBulkAll] using h3⟩
theorem rdf_cons {α β : Type} {d : Kd α} {d2 : Kd β} {ok : α → Prop} {wt : α → Nat} {ok2 : β → Prop} {wt2 : β → Nat} {f : Field} {fs : List Field} {o : Nat} (ho : f.offset = o) (hc : P.cellsOf f.type = d.sz) (h : Rd P d f.type ok wt n) (h2 : RdF P d2 fs (o + d.sz) ok2 wt2 n) :
  RdF P (Kd.pair d d2) (f :: fs) o (fun y => ok y.1 ∧ ok2 y.2) (fun y => wt y.1 + wt2 y.2) n := by
 intro H enc w base spare held cs xs hl hx
 match xs, hl with
 | x :: xs, hl =>
  have h0 := hx 0 f rfl
  rw [ho, hc] at h0
  obtain ⟨y, k1, k2, k3⟩ := h enc w base spare held _ _ h0
  obtain ⟨z, j1, j2, j3⟩ := h2 enc w base spare held cs xs (by simpa using hl) fun i g hg => by
   have := hx (i + 1) g (by simpa using hg)
   simpa using this
  refine ⟨(y, z), ⟨_, _, ?_, k1, j1⟩, ⟨k2, j2⟩, ?_⟩
  ·show (cs.drop o).take (d.sz + d2.sz) = _
   rw [List.take_add, List.drop_drop]
  ·simp only [List.map_cons, Rows.uptoBulkAll]
   omega
theorem rd_struct {α : Type} {d : Kd α} {ok : α → Prop} {wt : α → Nat} {fs : Array Field} (ht : P.underlying t = some (.struct fs)) (hc : P.cellsOf t = d.sz) (h : RdF P d fs.toList 0 ok wt n) : Rd P d t ok (fun y => wt y + 1) (n + 1) := by
 intro H enc w base spare held cs x hx
 obtain ⟨xs, m, hm, rfl, hl, hxl, hf⟩ := DataW.trod_struct ht hx
 obtain rfl : n = m := by omega
 obtain ⟨y, h1, h2, h3⟩ := h enc w base spare held cs xs (by simpa using hxl) fun i f hi => hf i f (by simpa using hi)
 refine ⟨y, ?_, h2, by simp only [Rows.uptoBulk]; omega⟩
 rw [List.drop_zero, List.take_of_length_le (by omega)] at h1
 exact h1
end
end Go.Proofs.YthdkjfhpbigdpaaDoor.HRead

namespace Go.Proofs.YthdkjfhpbigdpaaDoor.Pure
open Go Go.RowKit Go.Proofs.YthdkjfhpbigdpaaDoor.Q Go.Proofs.YthdkjfhpbigdpaaDoorW.PrintWords Go.Proofs.YthdkjfhpbigdpaaDoorW.PrintLast Go.Proofs.YthdkjfhpbigdpaaDoorW.PrintMore
open HRead HTree Go.WideShapes
namespace TreeRd
theorem wts_sum : ∀ l : List T, wts l = (l.map wt).sum
 | [] => rfl
 | x :: r => by simp only [wts, List.map_cons, List.sum_cons, wts_sum r]
theorem oks_of : ∀ l : List T, (∀ y ∈ l, Ok y) → Oks l
 | [], _ => trivial
 | x :: r, h => ⟨h x (List.mem_cons_self ..), oks_of r fun y hy => h y (List.mem_cons_of_mem _ hy)⟩
theorem rdTree : ∀ n, (∀ m, m ≤ n → Rd Tryd.prog k24 24 Ok wt m)
 | 0 => fun m hm => by
  obtain rfl : m = 0 := by omega
  exact rd_zero
 | n + 1 => fun m hm => by
  have ih := rdTree n
  rcases Nat.lt_or_ge m (n + 1) with hlt | hge
  ·intro H enc w base spare held cs x hx
   exact ih m (by omega) enc w base spare held cs x hx
  ·obtain rfl : m = n + 1 := by omega
   have hs : Rd Tryd.prog (Kd.slice 24 k24) 22 (fun ys => (∀ y ∈ ys, Ok y) ∧ ys.length ≤ 9223372036854775807) (fun ys => (ys.map wt).sum + 1) n := by
    cases n with
    | zero => exact rd_zero
    | succ n => exact rd_slice Tryd.underlying22 (by kernel_rfl) (ih n (by omega))
   intro H enc w base spare held cs x hx
   obtain ⟨y, hK, ⟨o1, _, o2, o4, o3, _⟩, hw⟩ := rd_struct (d := Kd.pair (Kd.int .i64) (Kd.pair Kd.string (Kd.pair (Kd.int .i64) (Kd.pair (Kd.int .i64) (Kd.slice 24 k24))))) Tryd.underlying24 (by kernel_rfl) (rdf_cons rfl (by kernel_rfl) (rd_int Tryd.underlying3) (rdf_cons rfl (by kernel_rfl) (rd_string Tryd.underlying9) (rdf_cons rfl (by kernel_rfl) (rd_int Tryd.underlying3) (rdf_cons rfl (by kernel_rfl) (rd_int Tryd.underlying3) (rdf_one rfl (by kernel_rfl) hs))))) enc w base spare held cs x hx
   obtain ⟨a, s, b, p, l⟩ := y
   refine ⟨⟨a, s, b, p, l⟩, ?_, ⟨o1, o2, o4, oks_of l o3⟩, ?_⟩
   ·obtain ⟨_, _, rfl, rfl, ⟨_, _, rfl, rfl, ⟨_, _, rfl, rfl, ⟨_, _, rfl, rfl, ⟨A, c, rfl, hl, g⟩⟩⟩⟩⟩ := hK
    exact k24_mk w ⟨a, s, b, p, l⟩ hl g
   ·have e := wts_sum l
    simp only [wt]
    simp only at hw
    omega
set_option maxRecDepth 100000 in
theorem readTree {H : Type} {enc : TypeId × Value → H} {W : World} {base0 base : Nat} {spare : Nat → Bool} {held : Bool} {r : Reach} {v : Value} {D : DataW H} {ps : List MemPlace} (hval : Value.okWide Tryd.prog W r base0 24 v)
  (hd : DataW.Trod enc Tryd.prog W base spare held 24 v D ps) :
  ∃ (x : T) (A : Option Addr) (c : Nat), v = .agg #[.int .i64 x.f0, .string x.f1, .int .i64 x.f2, .int .i64 x.f3, .slice A x.f4.length c] ∧ Kd.C k24 W A x.f4.length x.f4 ∧ x.f4.length ≤ c ∧ Ok x ∧ wt x ≤ Rows.uptoBulk D := by
 obtain ⟨cs, rfl, hsz⟩ := okWide_struct Tryd.underlying24 hval
 obtain ⟨fuel, hf⟩ := hd
 obtain ⟨x, hK, hok, hw⟩ := rdTree fuel fuel (Nat.le_refl _) enc W base spare held _ _ hf
 obtain ⟨A, c, hcs, hl, hC⟩ := k24_open hK
 refine ⟨x, A, c, ?_, hC, hl, hok, hw⟩
 have : cs.toList = [.int .i64 x.f0, .string x.f1, .int .i64 x.f2, .int .i64 x.f3, .slice A x.f4.length c] := by simpa [Value.cells] using hcs
 rw [← this]
end TreeRd
end Go.Proofs.YthdkjfhpbigdpaaDoor.Pure

namespace Go.Proofs.YthdkjfhpbigdpaaDoor.Pure
open Go Go.RowKit
namespace TreeTab
theorem gTab : Tryd.prog.globalNamed "strings.asciiSpace" = some 0 := by kernel_rfl
theorem gTabType : (Tryd.prog.globals[0]?).map (·.type) = some 61 := by kernel_rfl
theorem data : (Rows.laid_strings_asciiSpace : DataW Unit) = Lib.tabData .u8 Lib.asciiSpaceTab := by kernel_rfl
theorem tab_of {W : World} (h : laidMetH Tryd.prog Rows.treeSameUptoRow.laid W) : Lib.TabIs Tryd.prog W "strings.asciiSpace" .u8 Lib.asciiSpaceTab := by
 rw [MakeChecks.laidMetH_plain _ _ _ (by kernel_rfl)] at h
 have h2 := h.tail.tail.tail.tail.tail.tail.tail
 rw [data] at h2
 exact Lib.tabIs_of_head gTab gTabType Tryd.underlying61 Tryd.underlying5 (by kernel_rfl) (by kernel_rfl) h2
end TreeTab
end Go.Proofs.YthdkjfhpbigdpaaDoor.Pure
