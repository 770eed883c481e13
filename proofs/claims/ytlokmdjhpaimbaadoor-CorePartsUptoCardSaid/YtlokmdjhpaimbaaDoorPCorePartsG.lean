-- Written for this claim: several texts in one.
import Derived.Test.YtlokmdjhpaimbaaDoorQx37
import Derived.Test.YtlokmdjhpaimbaaDoorQx38
import Derived.Test.YtlokmdjhpaimbaaDoorQx41
import Derived.Test.YtlokmdjhpaimbaaDoorQx42
import Derived.Test.YtlokmdjhpaimbaaDoorHCore
import Derived.Test.YtlokmdjhpaimbaaDoorPCoreFix
import Derived.Deep.RegionWith
import Derived.Test.YtlokmdjhpaimbaaDoorRows
import Derived.Test.YtlokmdjhpaimbaaDoorQx0
import Derived.Deep.Slices
import Derived.ProofKit
import Derived.OpenShut
import Derived.Test.YtlokmdjhpaimbaaDoorQx1
import Derived.Lib.LaidTab
import Derived.Lib.ItoaNum
import Derived.LaidLaws
import Derived.LaidMore
import Derived.Stop.Joined
import Derived.Stop.LaidErr
import Derived.Lay
-- Written for this claim.
namespace Go.Proofs.YtlokmdjhpaimbaaDoor.Pure
open Go Go.RowKit Go.Proofs.YtlokmdjhpaimbaaDoor.Q Go.Proofs.YtlokmdjhpaimbaaDoorW.PrintWords Go.Proofs.YtlokmdjhpaimbaaDoorW.PrintLast Go.Proofs.YtlokmdjhpaimbaaDoorW.PrintMore
open HCore
namespace CoreEv
theorem wrap_small {n : Int} (h0 : -9223372036854775808 ≤ n) (h1 : n < 9223372036854775808) : wrap64 n = n := by
  unfold wrap64; omega
theorem rd_at (l : List S24) (i : Nat) (t : S24) (h : l[i]? = some t) : rd_T24 l (i : Int) = t := by
  unfold rd_T24
  rw [Int.toNat_natCast, List.getD_eq_getElem?_getD, h]; rfl
theorem at_drop {l r : List T} {i : Nat} {x : T} (h : l.drop i = x :: r) : l[i]? = some x ∧ i < l.length ∧ l.drop (i + 1) = r := by
  have h0 : l[i]? = some x := by have := congrArg (fun l => l[0]?) h; simpa using this
  exact ⟨h0, (List.getElem?_eq_some_iff.1 h0).1, by rw [← List.drop_drop, h]; rfl⟩
theorem size_get {l : List T} {x : T} (h : x ∈ l) : size x ≤ sizes l := by
  induction l with
  | nil => cases h
  | cons y r ih =>
    simp only [sizes]
    rcases List.mem_cons.1 h with rfl | h
    · omega
    · have := ih h; omega
theorem size_pos : ∀ x : T, 1 ≤ size x
  | ⟨_, _, _, _⟩ => by simp only [size]; omega
theorem len_sizes : ∀ l : List T, l.length ≤ sizes l
  | [] => Nat.le_refl _
  | x :: r => by have := len_sizes r; have := size_pos x; simp only [sizes, List.length_cons]; omega
mutual
theorem height_size : ∀ x : T, height x ≤ size x
  | ⟨_, _, _, l⟩ => by have := heights_sizes l; simp only [height, size]; omega
theorem heights_sizes : ∀ l : List T, heights l ≤ sizes l
  | [] => Nat.le_refl _
  | x :: r => by have := height_size x; have := heights_sizes r; simp only [heights, sizes]; omega
end
mutual
theorem size_wt : ∀ x : T, size x ≤ wt x
  | ⟨_, _, _, l⟩ => by have := sizes_wts l; simp only [size, wt]; omega
theorem sizes_wts : ∀ l : List T, sizes l ≤ wts l
  | [] => Nat.le_refl _
  | x :: r => by have := size_wt x; have := sizes_wts r; simp only [sizes, wts]; omega
end
theorem size_loop (l : List T) (hl : l.length ≤ 1000000000) (H : ∀ x ∈ l, Ev (fun k => core_Size.f k x.f0 x.f1 x.f2 x.f3) (size x : Int)) : ∀ (r : List T) (i acc : Nat), l.drop i = r → acc + sizes r ≤ 2000000000 → Ev (fun k => core_Size.l0 k acc l l.length i) ((acc + sizes r : Nat) : Int)
  | [], i, acc, h, hb => by
    have := List.drop_eq_nil_iff.1 h
    refine Ev.step (f := fun _ => some _) (fun k => ?_) (Ev.now _)
    rw [core_Size.l0, if_neg (by omega)]; simp [sizes]
  | x :: r, i, acc, h, hb => by
    obtain ⟨h0, hi, hn⟩ := at_drop h
    simp only [sizes] at hb
    refine Ev.step (f := fun k => (core_Size.f k x.f0 x.f1 x.f2 x.f3).bind fun t => core_Size.l0 k (wrap64 (acc + t)) l l.length (wrap64 (i + 1))) (fun k => ?_) (Ev.bind (H x (List.mem_of_getElem? h0)) ?_)
    · rw [core_Size.l0, if_pos (by omega), if_pos (by omega), if_pos (by omega), rd_at l i x h0]
    · rw [wrap_small (by omega) (by omega), wrap_small (by omega) (by omega)]
      have ih := size_loop l hl H r (i + 1) (acc + size x) hn (by omega)
      have e1 : ((acc : Int) + (size x : Int)) = ((acc + size x : Nat) : Int) := by omega
      have e2 : ((i : Int) + 1) = ((i + 1 : Nat) : Int) := by omega
      rw [e1, e2]
      have e3 : acc + sizes (x :: r) = acc + size x + sizes r := by simp only [sizes]; omega
      rw [e3]; exact ih
theorem size_ev : ∀ (n : Nat) (x : T), height x ≤ n → size x ≤ 1000000000 → Ev (fun k => core_Size.f k x.f0 x.f1 x.f2 x.f3) (size x : Int)
  | 0, x, hn, _ => by cases x; simp only [height] at hn; omega
  | n + 1, x, hn, hs => by
    have hh : height x = heights x.f3 + 1 := by cases x; rfl
    have hz : size x = sizes x.f3 + 1 := by cases x; rfl
    have H : ∀ y ∈ x.f3, Ev (fun k => core_Size.f k y.f0 y.f1 y.f2 y.f3) (size y : Int) := fun y hy => size_ev n y (by have := height_get hy; omega) (by have := size_get hy; omega)
    refine Ev.step (f := fun k => core_Size.l0 k 1 x.f3 x.f3.length 0) (fun k => by rw [core_Size.f]) ?_
    have := size_loop x.f3 (by have := len_sizes x.f3; omega) H x.f3 0 1 rfl (by omega)
    rw [hz]
    have e : sizes x.f3 + 1 = 1 + sizes x.f3 := by omega
    rw [e]; exact this
theorem mx_nat (a b : Nat) : mx (a : Int) (b : Int) = ((max a b : Nat) : Int) := by
  unfold mx; omega
theorem depth_loop (l : List T) (hl : l.length ≤ 1000000000) (H : ∀ x ∈ l, Ev (fun k => core_Depth.f k x.f0 x.f1 x.f2 x.f3) (height x : Int)) : ∀ (r : List T) (i acc : Nat), l.drop i = r → acc ≤ 1000000000 → heights r ≤ 1000000000 → Ev (fun k => core_Depth.l0 k acc l l.length i) ((max acc (heights r) + 1 : Nat) : Int)
  | [], i, acc, h, ha, hb => by
    have := List.drop_eq_nil_iff.1 h
    refine Ev.step (f := fun _ => some _) (fun k => ?_) (Ev.now _)
    rw [core_Depth.l0, if_neg (by omega), wrap_small (by omega) (by omega)]; simp [heights]
  | x :: r, i, acc, h, ha, hb => by
    obtain ⟨h0, hi, hn⟩ := at_drop h
    simp only [heights] at hb
    refine Ev.step (f := fun k => (core_Depth.f k x.f0 x.f1 x.f2 x.f3).bind fun t => core_Depth.l0 k (mx acc t) l l.length (wrap64 (i + 1))) (fun k => ?_) (Ev.bind (H x (List.mem_of_getElem? h0)) ?_)
    · rw [core_Depth.l0, if_pos (by omega), if_pos (by omega), if_pos (by omega), rd_at l i x h0]
    · rw [wrap_small (by omega) (by omega), mx_nat]
      have ih := depth_loop l hl H r (i + 1) (max acc (height x)) hn (by omega) (by omega)
      have e2 : ((i : Int) + 1) = ((i + 1 : Nat) : Int) := by omega
      rw [e2]
      have e3 : max acc (heights (x :: r)) = max (max acc (height x)) (heights r) := by simp only [heights]; omega
      rw [e3]; exact ih
theorem depth_ev : ∀ (n : Nat) (x : T), height x ≤ n → size x ≤ 1000000000 → Ev (fun k => core_Depth.f k x.f0 x.f1 x.f2 x.f3) (height x : Int)
  | 0, x, hn, _ => by cases x; simp only [height] at hn; omega
  | n + 1, x, hn, hs => by
    have hh : height x = heights x.f3 + 1 := by cases x; rfl
    have hz : size x = sizes x.f3 + 1 := by cases x; rfl
    have H : ∀ y ∈ x.f3, Ev (fun k => core_Depth.f k y.f0 y.f1 y.f2 y.f3) (height y : Int) := fun y hy => depth_ev n y (by have := height_get hy; omega) (by have := size_get hy; omega)
    refine Ev.step (f := fun k => core_Depth.l0 k 0 x.f3 x.f3.length 0) (fun k => by rw [core_Depth.f]) ?_
    have hhs := heights_sizes x.f3
    have := depth_loop x.f3 (by have := len_sizes x.f3; omega) H x.f3 0 0 rfl (by omega) (by omega)
    rw [hh]
    have e : heights x.f3 + 1 = max 0 (heights x.f3) + 1 := by omega
    rw [e]; exact this
/-- Small ends. -/
theorem few_loop (x : T) (hl : x.f3.length ≤ 1000000000) (deep : Int) (hd : -1000000 ≤ deep ∧ deep ≤ 1000000) (H : ∀ y ∈ x.f3, ∀ left dp : Int, -1000000 ≤ left → left ≤ 1000000 → -1000000 ≤ dp → dp ≤ 1000000 → ∃ r : Int, -1 ≤ r ∧ r ≤ 1000000 ∧ Ev (fun k => gossamerref06_few.f k y.f0 y.f1 y.f2 y.f3 left dp) r) (hd1 : 1 ≤ deep) :
    ∀ (r : List T) (i : Nat) (left : Int), x.f3.drop i = r → 0 ≤ left → left ≤ 1000000 → ∃ q : Int, -1 ≤ q ∧ q ≤ 1000000 ∧ Ev (fun k => gossamerref06_few.l0 k left deep i x.f0 x.f1 x.f2 x.f3) q
  | [], i, left, h, h0, h1 => by
    have := List.drop_eq_nil_iff.1 h
    refine ⟨left, by omega, h1, Ev.step (f := fun _ => some _) (fun k => ?_) (Ev.now _)⟩
    rw [gossamerref06_few.l0, if_neg (by omega)]
  | y :: r, i, left, h, h0, h1 => by
    obtain ⟨hg, hi, hn⟩ := at_drop h
    obtain ⟨q, hq0, hq1, hev⟩ := H y (List.mem_of_getElem? hg) left (deep - 1) (by omega) h1 (by omega) (by omega)
    by_cases hneg : q < 0
    · refine ⟨-1, by omega, by omega, Ev.step (f := fun k => (gossamerref06_few.f k y.f0 y.f1 y.f2 y.f3 left (deep - 1)).bind fun t => if t < 0 then some (-1) else gossamerref06_few.l0 k t deep (wrap64 (i + 1)) x.f0 x.f1 x.f2 x.f3) (fun k => ?_) (Ev.bind hev ?_)⟩
      · rw [gossamerref06_few.l0, if_pos (by omega), if_pos (by omega), rd_at _ i y hg, wrap_small (n := deep - 1) (by omega) (by omega)]
      · simp only [hneg, if_true]; exact Ev.now _
    · obtain ⟨q2, a, b, hev2⟩ := few_loop x hl deep hd H hd1 r (i + 1) q hn (by omega) hq1
      refine ⟨q2, a, b, Ev.step (f := fun k => (gossamerref06_few.f k y.f0 y.f1 y.f2 y.f3 left (deep - 1)).bind fun t => if t < 0 then some (-1) else gossamerref06_few.l0 k t deep (wrap64 (i + 1)) x.f0 x.f1 x.f2 x.f3) (fun k => ?_) (Ev.bind hev ?_)⟩
      · rw [gossamerref06_few.l0, if_pos (by omega), if_pos (by omega), rd_at _ i y hg, wrap_small (n := deep - 1) (by omega) (by omega)]
      · simp only [hneg, if_false]
        rw [wrap_small (by omega) (by omega)]
        exact hev2
theorem few_ev : ∀ (n : Nat) (x : T), height x ≤ n → size x ≤ 1000000000 → ∀ left dp : Int, -1000000 ≤ left → left ≤ 1000000 → -1000000 ≤ dp → dp ≤ 1000000 → ∃ r : Int, -1 ≤ r ∧ r ≤ 1000000 ∧ Ev (fun k => gossamerref06_few.f k x.f0 x.f1 x.f2 x.f3 left dp) r
  | 0, x, hn, _, _, _, _, _, _, _ => by cases x; simp only [height] at hn; omega
  | n + 1, x, hn, hs, left, dp, h0, h1, h2, h3 => by
    have hh : height x = heights x.f3 + 1 := by cases x; rfl
    have hz : size x = sizes x.f3 + 1 := by cases x; rfl
    by_cases hc : left < 1
    · refine ⟨-1, by omega, by omega, Ev.step (f := fun k => gossamerref06_few.j0 k left dp true x.f0 x.f1 x.f2 x.f3) (fun k => by rw [gossamerref06_few.f, if_pos hc]) (Ev.step (f := fun _ => some (-1)) (fun k => by rw [gossamerref06_few.j0, if_pos rfl]) (Ev.now _))⟩
    · by_cases hc2 : dp < 1
      · refine ⟨-1, by omega, by omega, Ev.step (f := fun k => gossamerref06_few.j0 k left dp true x.f0 x.f1 x.f2 x.f3) (fun k => by rw [gossamerref06_few.f, if_neg hc, decide_eq_true hc2]) (Ev.step (f := fun _ => some (-1)) (fun k => by rw [gossamerref06_few.j0, if_pos rfl]) (Ev.now _))⟩
      · obtain ⟨q, a, b, hev⟩ := few_loop x (by have := len_sizes x.f3; omega) dp ⟨h2, h3⟩ (fun y hy l d => few_ev n y (by have := height_get hy; omega) (by have := size_get hy; omega) l d) (by omega) x.f3 0 (left - 1) rfl (by omega) (by omega)
        refine ⟨q, a, b, Ev.step (f := fun k => gossamerref06_few.j0 k left dp false x.f0 x.f1 x.f2 x.f3) (fun k => by rw [gossamerref06_few.f, if_neg hc, decide_eq_false hc2]) (Ev.step (f := fun k => gossamerref06_few.l0 k (left - 1) dp 0 x.f0 x.f1 x.f2 x.f3) (fun k => by rw [gossamerref06_few.j0, if_neg (by simp), wrap_small (by omega) (by omega)]) hev)⟩
theorem small_some (x : T) (hs : size x ≤ 1000000000) (most : Int) (h0 : 0 ≤ most) (h1 : most ≤ 1000000) : ∃ k b, gossamerref06_Small.f k x.f0 x.f1 x.f2 x.f3 most = some b := by
  obtain ⟨r, _, _, hev⟩ := few_ev (height x) x (Nat.le_refl _) hs most 600 (by omega) h1 (by omega) (by omega)
  obtain ⟨k, hk⟩ := hev.rounds
  refine ⟨k, decide (r ≥ 0), ?_⟩
  unfold gossamerref06_Small.f
  rw [hk]; rfl
end CoreEv
end Go.Proofs.YtlokmdjhpaimbaaDoor.Pure

-- Written for this claim.
namespace Go.Proofs.YtlokmdjhpaimbaaDoor.Pure
open Go Go.RowKit Go.Proofs.YtlokmdjhpaimbaaDoor.Q
open HCore
/-! Plain Lean: what may be says of a term's parts (for CoreParts). -/
namespace CorePt
theorem may_six (x : T) (free : Int) (h : x.f0 = 6) : may x free = false := by
  cases x; simp only at h; subst h; rfl
theorem each_all {l : List T} {free : Int} (h : each l free = true) : ∀ x ∈ l, may x free = true := by
  rw [each_iff] at h
  exact List.all_eq_true.1 h
theorem alts_all : ∀ (l : List T) (free : Int) (seen : List T), alts l free seen = true → ∀ x ∈ l, x.f0 = 6 ∧ 0 ≤ x.f1 ∧ x.f1 ≤ 8 ∧ ∃ y, x.f3 = [y] ∧ may y (free + x.f1) = true
  | [], _, _, _, x, hx => by cases hx
  | ⟨k, n, s, l⟩ :: r, free, seen, h, x, hx => by
    simp only [alts, Bool.and_eq_true, decide_eq_true_eq] at h
    obtain ⟨⟨⟨⟨⟨⟨⟨h1, h2⟩, h3⟩, h4⟩, h5⟩, h6⟩, h7⟩, h8⟩ := h
    rcases List.mem_cons.1 hx with rfl | hx
    · refine ⟨h1, h3, h4, ?_⟩
      obtain ⟨y, hy⟩ := List.length_eq_one_iff.1 h5
      refine ⟨y, hy, ?_⟩
      exact each_all h6 y (by rw [hy]; exact List.mem_singleton.2 rfl)
    · exact alts_all r free _ h8 x hx
/-- A case's parts. -/
theorem case_parts (t : T) (free : Int) (hk : t.f0 = 5) (h : may t free = true) : ∃ y r, t.f3 = y :: r ∧ may y free = true ∧ ∀ x ∈ r, x.f0 = 6 ∧ 0 ≤ x.f1 ∧ x.f1 ≤ 8 ∧ ∃ z, x.f3 = [z] ∧ may z (free + x.f1) = true := by
  obtain ⟨k, n, s, l⟩ := t
  simp only at hk
  subst hk
  have h2 : (decide (2 ≤ l.length) && bare n s && mayCase l free) = true := h
  simp only [Bool.and_eq_true] at h2
  cases l with
  | nil => simp [mayCase] at h2
  | cons y r =>
    have h3 := h2.2
    simp only [mayCase, Bool.and_eq_true] at h3
    exact ⟨y, r, rfl, h3.1.1.1, alts_all r free [] h3.1.1.2⟩
/-- The parts of what is no case. -/
theorem other_parts (t : T) (free : Int) (hk : t.f0 ≠ 5) (h : may t free = true) : ∀ x ∈ t.f3, may x (free + if t.f0 = 2 then 1 else 0) = true := by
  obtain ⟨k, n, s, l⟩ := t
  simp only at hk ⊢
  simp only [may] at h
  intro x hx
  split at h
  · simp only [Bool.and_eq_true, decide_eq_true_eq] at h
    have : l = [] := List.eq_nil_of_length_eq_zero h.1.1.1
    subst this; cases hx
  split at h
  · simp only [Bool.and_eq_true, decide_eq_true_eq] at h
    have : l = [] := List.eq_nil_of_length_eq_zero h.1.1
    subst this; cases hx
  split at h
  · simp only [Bool.and_eq_true, decide_eq_true_eq] at h
    have : l = [] := List.eq_nil_of_length_eq_zero h.1.1
    subst this; cases hx
  split at h
  · rename_i h2
    simp only [Bool.and_eq_true] at h
    rw [if_pos h2]; exact each_all h.2 x hx
  rename_i h2
  rw [if_neg h2, Int.add_zero]
  split at h
  · simp only [Bool.and_eq_true] at h
    exact each_all h.2 x hx
  split at h
  · simp only [Bool.and_eq_true] at h
    exact each_all h.2 x hx
  split at h
  · simp only [Bool.and_eq_true] at h
    exact each_all h.2 x hx
  first
    | (split at h
       · rename_i h5; exact absurd h5 hk
       · cases h)
    | cases h
theorem height_part (t : T) : ∀ x ∈ t.f3, height x < height t := by
  intro x hx
  have h1 := height_get hx
  have h2 : height t = heights t.f3 + 1 := by cases t; rfl
  omega
theorem size_is (t : T) : size t = sizes t.f3 + 1 := by cases t; rfl
end CorePt
end Go.Proofs.YtlokmdjhpaimbaaDoor.Pure

-- Written for this claim.
namespace Go.Proofs.YtlokmdjhpaimbaaDoor.Pure
open Go Go.RowKit Go.Lib Go.Proofs Go.Proofs.YtlokmdjhpaimbaaDoor.Q Go.Proofs.YtlokmdjhpaimbaaDoorW.PrintWords Go.Proofs.YtlokmdjhpaimbaaDoorW.PrintLast Go.Proofs.YtlokmdjhpaimbaaDoorW.PrintMore
open HCore
set_option linter.unusedVariables false
set_option linter.unusedSimpArgs false
theorem parts_take (l : List T) (k : Nat) (h : k < l.length) : sizes (l.take (k + 1)) = sizes (l.take k) + size l[k] := by
  rw [List.take_succ_eq_append_getElem h]
  have : ∀ (a b : List T), sizes (a ++ b) = sizes a + sizes b := by
    intro a b
    induction a with
    | nil => simp [sizes]
    | cons x a ih => simp only [List.cons_append, sizes, ih]; omega
  rw [this]; simp [sizes]
theorem parts_le (l : List T) (k : Nat) (h : k < l.length) : sizes (l.take k) + size l[k] ≤ sizes l := by
  rw [← parts_take l k h]
  have : ∀ (l : List T) (m : Nat), sizes (l.take m) ≤ sizes l := by
    intro l
    induction l with
    | nil => intro m; simp
    | cons x l ih => intro m; cases m with
      | zero => simp [sizes]
      | succ m => simp only [List.take_succ_cons, sizes]; have := ih m; omega
  exact this l (k + 1)
set_option maxRecDepth 100000 in
set_option maxHeartbeats 16000000 in
theorem CoreParts_walk {w : World} (t : T) (A : Option Addr) (c : Nat) (hC : Kd.C k24 w A t.f3.length t.f3) (hl : t.f3.length ≤ c) (ok : Ok t) (hw : wt t ≤ 1048576) (free : Int) (wf : (Lit.int .i64 free).wf = true) (htab : Lib.TabIs Tryd.prog w "internal/strconv.uint64pow10" .u64 Lib.pow10Tab) :
    Calls Tryd.prog 5 #[.agg #[.int .i64 t.f0, .int .i64 t.f1, .string t.f2, .slice A t.f3.length c], .int .i64 free] w fun e w' => e = .returned (.bool true) ∧ Below w.heap.size w w' := by
  have HT := Lib.hid (tabBelow_of_tabIs htab)
  clear htab
  have hsw := CoreEv.size_wt t
  have szt : size t ≤ 1000000000 := by omega
  have hlt3 : t.f3.length ≤ 1048576 := by have h1 := len_wts t.f3; have h2 : wts t.f3 ≤ wt t := by { cases t; simp only [wt]; omega }; omega
  have hgt : (height t : Int) ≤ 1048576 := by have := CoreEv.height_size t; omega
  obtain ⟨kt, bt, hst⟩ := CoreEv.small_some t szt 500 (by omega) (by omega)
  have St := Lib.hid hst
  clear hst
  have hba := below_alloc (Below.refl w.heap.size w) (Obj.cells #[.int .i64 t.f0, .int .i64 t.f1, .string t.f2, .slice A t.f3.length c] 24)
  have h1 := blk_new w (Obj.cells #[.int .i64 t.f0, .int .i64 t.f1, .string t.f2, .slice A t.f3.length c] 24)
  go_enter Tryd.func5, Tryd.ntmps5
  go_upto_region 1 with (fail)
  generalize hwq : w.alloc (Obj.cells #[.int .i64 t.f0, .int .i64 t.f1, .string t.f2, .slice A t.f3.length c] 24) = wq at hba h1 ⊢
  clear hwq
  have HB := Lib.hid hba; have Bt := Lib.hid h1; have Ct := Lib.hid (Kd.C_below hC hba)
  clear hba h1 hC
  have t0 := blk_cell Bt.out 0; have t1 := blk_cell Bt.out 1; have t2 := blk_cell Bt.out 2; have t3 := blk_cell Bt.out 3
  simp only [List.getElem?_toArray, List.getElem?_cons_zero, List.getElem?_cons_succ] at t0 t1 t2 t3
  go_wp2_with fail
  refine (CoreFix.fixed_any _ (HT.out.on HB.out).here).mono ?_
  rintro e w5 ⟨rfl, hb⟩
  have n0_ := Lib.hid (below_step HB.out hb); have n1_ := Lib.hid (Kd.C_below Ct.out hb); have n2_ := Lib.hid (blk_below Bt.out hb)
  clear HB Ct Bt hb t0 t1 t2 t3
  have HB := n0_; have Ct := n1_; have Bt := n2_
  clear n0_ n1_ n2_
  have t0 := blk_cell Bt.out 0; have t1 := blk_cell Bt.out 1; have t2 := blk_cell Bt.out 2; have t3 := blk_cell Bt.out 3
  simp only [List.getElem?_toArray, List.getElem?_cons_zero, List.getElem?_cons_succ] at t0 t1 t2 t3
  go_wp2_with fail
  refine (gossamerref06_Small.calls kt t.f0 t.f1 t.f2 A c t.f3 500 bt _ Ct.out hl St.out).mono ?_
  rintro e w5 ⟨rfl, hb⟩
  have n0_ := Lib.hid (below_step HB.out hb); have n1_ := Lib.hid (Kd.C_below Ct.out hb); have n2_ := Lib.hid (blk_below Bt.out hb)
  clear HB Ct Bt hb t0 t1 t2 t3
  have HB := n0_; have Ct := n1_; have Bt := n2_
  clear n0_ n1_ n2_
  have t0 := blk_cell Bt.out 0; have t1 := blk_cell Bt.out 1; have t2 := blk_cell Bt.out 2; have t3 := blk_cell Bt.out 3
  simp only [List.getElem?_toArray, List.getElem?_cons_zero, List.getElem?_cons_succ] at t0 t1 t2 t3
  cases bt with
  | false =>
    go_wp2_with fail
    refine (CoreFix.fixed_any _ (HT.out.on HB.out).here).mono ?_
    rintro e w5 ⟨rfl, hb⟩
    have n0_ := Lib.hid (below_step HB.out hb); have n1_ := Lib.hid (Kd.C_below Ct.out hb); have n2_ := Lib.hid (blk_below Bt.out hb)
    clear HB Ct Bt hb t0 t1 t2 t3
    have HB := n0_; have Ct := n1_; have Bt := n2_
    clear n0_ n1_ n2_
    have t0 := blk_cell Bt.out 0; have t1 := blk_cell Bt.out 1; have t2 := blk_cell Bt.out 2; have t3 := blk_cell Bt.out 3
    simp only [List.getElem?_toArray, List.getElem?_cons_zero, List.getElem?_cons_succ] at t0 t1 t2 t3
    go_wp2_with fail
    go_ret
    exact ⟨rfl, HB.out⟩
  | true =>
    rcases Classical.em (free < 0) with q | q
    · have d1 := decide_eq_true q
      have Qd1 := Lib.hid q
      clear q
      go_wp2_with fail
      refine (CoreFix.fixed_any _ (HT.out.on HB.out).here).mono ?_
      rintro e w5 ⟨rfl, hb⟩
      have n0_ := Lib.hid (below_step HB.out hb); have n1_ := Lib.hid (Kd.C_below Ct.out hb); have n2_ := Lib.hid (blk_below Bt.out hb)
      clear HB Ct Bt hb t0 t1 t2 t3
      have HB := n0_; have Ct := n1_; have Bt := n2_
      clear n0_ n1_ n2_
      have t0 := blk_cell Bt.out 0; have t1 := blk_cell Bt.out 1; have t2 := blk_cell Bt.out 2; have t3 := blk_cell Bt.out 3
      simp only [List.getElem?_toArray, List.getElem?_cons_zero, List.getElem?_cons_succ] at t0 t1 t2 t3
      go_wp2_with fail
      go_ret
      exact ⟨rfl, HB.out⟩
    · have d1 := decide_eq_false q
      have Qd1 := Lib.hid q
      clear q
      rcases Classical.em (free > 1000000) with q | q
      · have d2 := decide_eq_true q
        have Qd2 := Lib.hid q
        clear q
        go_wp2_with fail
        refine (CoreFix.fixed_any _ (HT.out.on HB.out).here).mono ?_
        rintro e w5 ⟨rfl, hb⟩
        have n0_ := Lib.hid (below_step HB.out hb); have n1_ := Lib.hid (Kd.C_below Ct.out hb); have n2_ := Lib.hid (blk_below Bt.out hb)
        clear HB Ct Bt hb t0 t1 t2 t3
        have HB := n0_; have Ct := n1_; have Bt := n2_
        clear n0_ n1_ n2_
        have t0 := blk_cell Bt.out 0; have t1 := blk_cell Bt.out 1; have t2 := blk_cell Bt.out 2; have t3 := blk_cell Bt.out 3
        simp only [List.getElem?_toArray, List.getElem?_cons_zero, List.getElem?_cons_succ] at t0 t1 t2 t3
        go_wp2_with fail
        go_ret
        exact ⟨rfl, HB.out⟩
      · have d2 := decide_eq_false q
        have Qd2 := Lib.hid q
        clear q
        obtain ⟨mt, VT⟩ : ∃ q, Hid (may t free = q) := ⟨_, Lib.hid rfl⟩
        go_wp2_with fail
        refine ((CoreMay.may_any _ t (Nat.le_refl _) (by omega) (free) (by have := Qd1.out; omega) (by have := Qd1.out; have := Qd2.out; omega) _ _ _ Ct.out hl).mono fun e w' h => (⟨h.1.trans (by rw [VT.out]), h.2⟩ : e = .returned (.bool mt) ∧ _)).mono ?_
        rintro e w5 ⟨rfl, hb⟩
        have n0_ := Lib.hid (below_step HB.out hb); have n1_ := Lib.hid (Kd.C_below Ct.out hb); have n2_ := Lib.hid (blk_below Bt.out hb)
        clear HB Ct Bt hb t0 t1 t2 t3
        have HB := n0_; have Ct := n1_; have Bt := n2_
        clear n0_ n1_ n2_
        have t0 := blk_cell Bt.out 0; have t1 := blk_cell Bt.out 1; have t2 := blk_cell Bt.out 2; have t3 := blk_cell Bt.out 3
        simp only [List.getElem?_toArray, List.getElem?_cons_zero, List.getElem?_cons_succ] at t0 t1 t2 t3
        cases mt with
        | false =>
          go_wp2_with fail
          refine (CoreFix.fixed_any _ (HT.out.on HB.out).here).mono ?_
          rintro e w5 ⟨rfl, hb⟩
          have n0_ := Lib.hid (below_step HB.out hb); have n1_ := Lib.hid (Kd.C_below Ct.out hb); have n2_ := Lib.hid (blk_below Bt.out hb)
          clear HB Ct Bt hb t0 t1 t2 t3
          have HB := n0_; have Ct := n1_; have Bt := n2_
          clear n0_ n1_ n2_
          have t0 := blk_cell Bt.out 0; have t1 := blk_cell Bt.out 1; have t2 := blk_cell Bt.out 2; have t3 := blk_cell Bt.out 3
          simp only [List.getElem?_toArray, List.getElem?_cons_zero, List.getElem?_cons_succ] at t0 t1 t2 t3
          go_wp2_with fail
          go_ret
          exact ⟨rfl, HB.out⟩
        | true =>
          go_wp2_with fail
          go_loopw [5, 6] (fun n i wr => ∃ k : Nat, k ≤ t.f3.length ∧ i = .int .i64 k ∧ n = .int .i64 ((1 + sizes (t.f3.take k) : Nat) : Int) ∧ Hid (Below w5.heap.size w5 wr)) (fun _ i _ => t.f3.length - (intOf i).toNat)
          case atStart => exact ⟨0, Nat.zero_le _, rfl, by simp [sizes], Lib.hid (Below.refl _ _)⟩
          case round =>
            obtain ⟨k, hk, rfl, rfl, HBR⟩ := hrel
            clear t0 t1 t2 t3
            have hb := HBR.out
            have n0_ := Lib.hid (below_step HB.out hb); have n1_ := Lib.hid (Kd.C_below Ct.out hb); have n2_ := Lib.hid (blk_below Bt.out hb)
            clear HB Ct Bt hb
            have HB := n0_; have Ct := n1_; have Bt := n2_
            clear n0_ n1_ n2_
            have t0 := blk_cell Bt.out 0; have t1 := blk_cell Bt.out 1; have t2 := blk_cell Bt.out 2; have t3 := blk_cell Bt.out 3
            simp only [List.getElem?_toArray, List.getElem?_cons_zero, List.getElem?_cons_succ] at t0 t1 t2 t3
            by_cases hlt : k < t.f3.length
            · obtain ⟨ad, A3, c3, rfl, x0, x1, x2, x3, hl3, hc3⟩ := at_T24 Ct.out (k : Int) (by omega) (by omega)
              simp only [Int.toNat_natCast] at x0 x1 x2 x3
              have hrk : rd_T24 t.f3 (k : Int) = t.f3[k] := by
                unfold rd_T24
                rw [Int.toNat_natCast, List.getD_eq_getElem?_getD, List.getElem?_eq_getElem hlt]; rfl
              rw [hrk] at x0 x1 x2 x3 hl3 hc3
              have hpt := parts_take t.f3 k hlt
              have hpl := parts_le t.f3 k hlt
              have hmem := List.getElem_mem hlt
              have hszt := CorePt.size_is t
              have hhy := CorePt.height_part t t.f3[k] hmem
              have hk0 : k = 0 ∨ 0 < k := by omega
              generalize hx : t.f3[k] = y at *
              have HX := Lib.hid hx; have HPT := Lib.hid hpt; have HM := Lib.hid hmem; have Cy := Lib.hid hc3
              clear hrk hx hpt hmem hc3
              have szy : size y ≤ 1000000000 := by omega
              have hwy : wt y ≤ 1048576 := by have h1 := wt_get HM.out; have h2 : wts t.f3 ≤ wt t := by { cases t; simp only [wt]; omega }; omega
              go_upto_region 8 with (fail)
              have hbb := below_alloc (Below.refl wr.heap.size wr) (Obj.cells #[.int .i64 y.f0, .int .i64 y.f1, .string y.f2, .slice A3 y.f3.length c3] 24)
              have hby := blk_new wr (Obj.cells #[.int .i64 y.f0, .int .i64 y.f1, .string y.f2, .slice A3 y.f3.length c3] 24)
              generalize hwq : wr.alloc (Obj.cells #[.int .i64 y.f0, .int .i64 y.f1, .string y.f2, .slice A3 y.f3.length c3] 24) = wq at hbb hby ⊢
              clear hwq x0 x1 x2 x3
              have By := Lib.hid hby
              have hb := hbb
              clear hbb hby
              have n4_ := Lib.hid (below_step HBR.out hb); have n5_ := Lib.hid (Kd.C_below Cy.out hb)
              clear HBR Cy
              have HBR := n4_; have Cy := n5_
              clear n4_ n5_
              have y0 := blk_cell By.out 0; have y1 := blk_cell By.out 1; have y2 := blk_cell By.out 2; have y3 := blk_cell By.out 3
              simp only [List.getElem?_toArray, List.getElem?_cons_zero, List.getElem?_cons_succ] at y0 y1 y2 y3
              have n0_ := Lib.hid (below_step HB.out hb); have n1_ := Lib.hid (Kd.C_below Ct.out hb); have n2_ := Lib.hid (blk_below Bt.out hb)
              clear HB Ct Bt hb t0 t1 t2 t3
              have HB := n0_; have Ct := n1_; have Bt := n2_
              clear n0_ n1_ n2_
              have t0 := blk_cell Bt.out 0; have t1 := blk_cell Bt.out 1; have t2 := blk_cell Bt.out 2; have t3 := blk_cell Bt.out 3
              simp only [List.getElem?_toArray, List.getElem?_cons_zero, List.getElem?_cons_succ] at t0 t1 t2 t3
              obtain ⟨kk, hkk⟩ := (CoreEv.size_ev _ y (Nat.le_refl _) szy).rounds
              have hwr : IntKind.i64.wrap (((1 + sizes (t.f3.take k) : Nat) : Int) + (size y : Int)) = ((1 + sizes (t.f3.take k) : Nat) : Int) + (size y : Int) := CoreMay.wrap_i64_small (by omega) (by omega)
              go_wp2_with fail
              refine (core_Size.calls kk y.f0 y.f1 y.f2 _ _ y.f3 _ _ Cy.out hl3 hkk).mono ?_
              rintro e w6 ⟨rfl, hb⟩
              clear hkk
              have n3_ := Lib.hid (blk_below By.out hb); have n4_ := Lib.hid (below_step HBR.out hb); have n5_ := Lib.hid (Kd.C_below Cy.out hb)
              clear By HBR Cy y0 y1 y2 y3
              have By := n3_; have HBR := n4_; have Cy := n5_
              clear n3_ n4_ n5_
              have y0 := blk_cell By.out 0; have y1 := blk_cell By.out 1; have y2 := blk_cell By.out 2; have y3 := blk_cell By.out 3
              simp only [List.getElem?_toArray, List.getElem?_cons_zero, List.getElem?_cons_succ] at y0 y1 y2 y3
              have n0_ := Lib.hid (below_step HB.out hb); have n1_ := Lib.hid (Kd.C_below Ct.out hb); have n2_ := Lib.hid (blk_below Bt.out hb)
              clear HB Ct Bt hb t0 t1 t2 t3
              have HB := n0_; have Ct := n1_; have Bt := n2_
              clear n0_ n1_ n2_
              have t0 := blk_cell Bt.out 0; have t1 := blk_cell Bt.out 1; have t2 := blk_cell Bt.out 2; have t3 := blk_cell Bt.out 3
              simp only [List.getElem?_toArray, List.getElem?_cons_zero, List.getElem?_cons_succ] at t0 t1 t2 t3
              go_upto_region 9 with (fail)
              refine wp_region_held_drew (S := (fun w' => w'.cell? ⟨wr.heap.size, 0, none⟩ = some (.int .i64 y.f0) ∧ w'.cell? ⟨wr.heap.size, 1, none⟩ = some (.int .i64 y.f1) ∧ w'.cell? ⟨wr.heap.size, 2, none⟩ = some (.string y.f2) ∧ w'.cell? ⟨wr.heap.size, 3, none⟩ = some (.slice A3 y.f3.length c3) ∧ w'.cell? ⟨w.heap.size, 0, none⟩ = some (.int .i64 t.f0) ∧ w'.cell? ⟨w.heap.size, 1, none⟩ = some (.int .i64 t.f1) ∧ w'.cell? ⟨w.heap.size, 2, none⟩ = some (.string t.f2) ∧ w'.cell? ⟨w.heap.size, 3, none⟩ = some (.slice (some ad) t.f3.length c) ∧ Below w6.heap.size w6 w')) (by kernel_rfl) (by (try dsimp only); exact CoreMay.keep8 ⟨y0, y1, y2, y3, t0, t1, t2, t3, Below.refl _ _⟩ (below_drew1 (Below.refl _ _))) (fun hHeld => ?_)
              refine wpAnyH_take (i := 0) (v := ?_) rfl (by kernel_rfl) (by kernel_rfl) (by kernel_rfl) (fun _ _ _ h => h) (Or.inl ⟨by rfl, ?_⟩) (by assumption) ?_
              rotate_left 1
              · (intro w hSw; (try dsimp only at hSw); (try simp only [List.getElem_toArray, List.getElem_cons_succ, List.getElem_cons_zero]); go_simp; (try with_reducible rfl))
              (try simp only [Act.put, List.getElem_toArray, List.getElem_cons_succ, List.getElem_cons_zero, List.setIfInBounds_toArray, List.set_cons_zero, List.set_cons_succ])
              refine wpAnyH_take (i := 2) (v := ?_) rfl (by kernel_rfl) (by kernel_rfl) (by kernel_rfl) (fun _ _ _ h => h) (Or.inl ⟨by rfl, ?_⟩) (by assumption) ?_
              rotate_left 1
              · (intro w hSw; (try dsimp only at hSw); (try simp only [List.getElem_toArray, List.getElem_cons_succ, List.getElem_cons_zero]); go_simp; (try with_reducible rfl))
              (try simp only [Act.put, List.getElem_toArray, List.getElem_cons_succ, List.getElem_cons_zero, List.setIfInBounds_toArray, List.set_cons_zero, List.set_cons_succ])
              refine wpAnyH_ready (rs := [1]) (by kernel_rfl) (by simp) ?_
              refine AllReadyH.cons rfl (fun K hK => ?_) AllReadyH.nil
              (try simp only [List.getElem_toArray, List.getElem_cons_succ, List.getElem_cons_zero])
              go_simp
              obtain ⟨kk, hkk⟩ := (CoreEv.depth_ev _ y (Nat.le_refl _) szy).rounds
              refine (core_Depth.calls kk y.f0 y.f1 y.f2 _ _ y.f3 _ _ (Kd.C_below Cy.out hHeld.2.2.2.2.2.2.2.2) hl3 hkk).mono ?_
              rintro e w9 ⟨rfl, hb⟩
              clear hkk
              simp only []
              refine hK.out _ _ ?_ (fun hHeld => ?_)
              · (try dsimp only); exact CoreMay.keep8 hHeld hb
              clear hK K
              (try simp only [Act.put, List.getElem_toArray, List.getElem_cons_succ, List.getElem_cons_zero, List.setIfInBounds_toArray, List.set_cons_zero, List.set_cons_succ])
              refine wpAnyH_ready (rs := [3]) (by kernel_rfl) (by simp) ?_
              refine AllReadyH.cons rfl (fun K hK => ?_) AllReadyH.nil
              (try simp only [List.getElem_toArray, List.getElem_cons_succ, List.getElem_cons_zero])
              go_simp
              obtain ⟨kk, hkk⟩ := (CoreEv.depth_ev _ t (Nat.le_refl _) szt).rounds
              refine (core_Depth.calls kk t.f0 t.f1 t.f2 _ _ t.f3 _ _ (Kd.C_below Ct.out hHeld.2.2.2.2.2.2.2.2) hl hkk).mono ?_
              rintro e w9 ⟨rfl, hb⟩
              clear hkk
              simp only []
              refine hK.out _ _ ?_ (fun hHeld => ?_)
              · (try dsimp only); exact CoreMay.keep8 hHeld hb
              clear hK K
              (try simp only [Act.put, List.getElem_toArray, List.getElem_cons_succ, List.getElem_cons_zero, List.setIfInBounds_toArray, List.set_cons_zero, List.set_cons_succ])
              refine wpAnyH_take (i := 4) (v := ?_) rfl (by kernel_rfl) (by kernel_rfl) (by kernel_rfl) (fun _ _ _ h => h) (Or.inl ⟨by rfl, ?_⟩) (by assumption) ?_
              rotate_left 1
              · (intro w hSw; (try dsimp only at hSw); (try simp only [List.getElem_toArray, List.getElem_cons_succ, List.getElem_cons_zero]); go_simp; (try with_reducible rfl))
              (try simp only [Act.put, List.getElem_toArray, List.getElem_cons_succ, List.getElem_cons_zero, List.setIfInBounds_toArray, List.set_cons_zero, List.set_cons_succ])
              refine wpAnyH_done (by kernel_rfl) ?_ _
              have hb := hHeld.2.2.2.2.2.2.2.2
              clear hHeld
              have n3_ := Lib.hid (blk_below By.out hb); have n4_ := Lib.hid (below_step HBR.out hb); have n5_ := Lib.hid (Kd.C_below Cy.out hb)
              clear By HBR Cy y0 y1 y2 y3
              have By := n3_; have HBR := n4_; have Cy := n5_
              clear n3_ n4_ n5_
              have y0 := blk_cell By.out 0; have y1 := blk_cell By.out 1; have y2 := blk_cell By.out 2; have y3 := blk_cell By.out 3
              simp only [List.getElem?_toArray, List.getElem?_cons_zero, List.getElem?_cons_succ] at y0 y1 y2 y3
              have n0_ := Lib.hid (below_step HB.out hb); have n1_ := Lib.hid (Kd.C_below Ct.out hb); have n2_ := Lib.hid (blk_below Bt.out hb)
              clear HB Ct Bt hb t0 t1 t2 t3
              have HB := n0_; have Ct := n1_; have Bt := n2_
              clear n0_ n1_ n2_
              have t0 := blk_cell Bt.out 0; have t1 := blk_cell Bt.out 1; have t2 := blk_cell Bt.out 2; have t3 := blk_cell Bt.out 3
              simp only [List.getElem?_toArray, List.getElem?_cons_zero, List.getElem?_cons_succ] at t0 t1 t2 t3
              have dh : decide ((height y : Int) ≥ (height t : Int)) = false := decide_eq_false (by omega)
              rcases Classical.em (t.f0 = 5) with q | q
              · have b5 : (t.f0 == 5) = true := beq_iff_eq.2 q
                have Q5 := Lib.hid q
                clear q
                rcases hk0 with q | q
                · have bk : decide ((k : Int) > 0) = false := decide_eq_false (by omega)
                  have bk1 : decide (0 < k) = false := decide_eq_false (by omega)
                  have bk2 : decide ((0 : Int) < (k : Int)) = false := decide_eq_false (by omega)
                  have QK := Lib.hid q
                  clear q
                  have b2 : (t.f0 == 2) = false := beq_eq_false_iff_ne.2 (by have := Q5.out; omega)
                  have HMY := Lib.hid (by obtain ⟨y', r, h1, h2, _⟩ := CorePt.case_parts t free Q5.out VT.out; have h3 := HX.out; simp only [h1, QK.out] at h3; rw [← show y' = y from h3]; exact h2 : may y free = true)
                  have hwf : IntKind.i64.wrap free = free := CoreMay.wrap_i64_small (by have := Qd1.out; have := Qd2.out; omega) (by have := Qd1.out; have := Qd2.out; omega)
                  have hwf2 : wrap64 free = free := IntWalk.wrap64_in _ ⟨by have := Qd1.out; omega, by have := Qd2.out; omega⟩
                  go_wp2_with fail
                  refine ((CoreMay.may_any _ y (Nat.le_refl _) (by omega) free (by have := Qd1.out; omega) (by have := Qd1.out; have := Qd2.out; have := hhy; omega) _ _ _ Cy.out hl3).mono fun e w' h => (⟨h.1.trans (by rw [HMY.out]), h.2⟩ : e = .returned (.bool true) ∧ _)).mono ?_
                  rintro e w7 ⟨rfl, hb⟩
                  have HBR7 := Lib.hid (below_step HBR.out hb)
                  clear hb
                  go_wp2_with fail
                  exact ⟨⟨k + 1, by omega, by first | rfl | go_num, by rw [HPT.out]; exact congrArg (Value.int IntKind.i64) (by omega), HBR7⟩, by simp [intOf]; omega⟩
                · have QK := Lib.hid q
                  clear q
                  have bk : decide ((k : Int) > 0) = true := decide_eq_true (by have := QK.out; omega)
                  have bk1 : decide (0 < k) = true := decide_eq_true QK.out
                  have bk2 : decide ((0 : Int) < (k : Int)) = true := decide_eq_true (by have := QK.out; omega)
                  have HCS : Hid (y.f0 = 6 ∧ 0 ≤ y.f1 ∧ y.f1 ≤ 8 ∧ ∃ z, y.f3 = [z] ∧ may z (free + y.f1) = true) := Lib.hid (by
                    obtain ⟨y', r, h1, _, h2⟩ := CorePt.case_parts t free Q5.out VT.out
                    refine h2 y ?_
                    have h3 := HX.out
                    have h4 := QK.out
                    obtain ⟨k', rfl⟩ : ∃ k', k = k' + 1 := ⟨k - 1, by omega⟩
                    simp only [h1, List.getElem_cons_succ] at h3
                    rw [← h3]; exact List.getElem_mem _)
                  obtain ⟨z, hz, hmz⟩ := HCS.out.2.2.2
                  have HMZ := Lib.hid hmz
                  have HY6 : Hid (may y free = false) := Lib.hid (CorePt.may_six y free HCS.out.1)
                  have hylen : y.f3.length = 1 := by rw [hz]; rfl
                  have hpos : 0 < y.f3.length := by omega
                  have hlen' : ((y.f3.length : Int) != 1) = false := by simp; omega
                  obtain ⟨ad5, A6, c6, rfl, e0, e1, e2, e3, hl6, hc6⟩ := at_T24 Cy.out (0 : Int) (by omega) (by omega)
                  have hr0 : rd_T24 y.f3 0 = z := by rw [hz]; rfl
                  have had : ad5.add ((0 : Int).toNat * 4) = ad5 := by simp [Addr.add]
                  rw [hr0] at e0 e1 e2 e3 hl6 hc6
                  rw [had] at e0 e1 e2 e3
                  have C6 := Lib.hid hc6
                  have HLEN := Lib.hid hylen
                  have hwz : wt z ≤ 1048576 := by have h1 := wt_get (l := y.f3) (x := z) (by rw [hz]; exact List.mem_singleton.2 rfl); have h2 : wts y.f3 ≤ wt y := by { cases y; simp only [wt]; omega }; omega
                  have hhz : height z < height y := CorePt.height_part y z (by rw [hz]; exact List.mem_singleton.2 rfl)
                  have hwr2 : IntKind.i64.wrap (free + y.f1) = free + y.f1 := CoreMay.wrap_i64_small (by have := Qd1.out; have := HCS.out.2.1; omega) (by have := Qd2.out; have := HCS.out.2.2.1; omega)
                  have hwf0 : IntKind.i64.wrap free = free := CoreMay.wrap_i64_small (by have := Qd1.out; omega) (by have := Qd2.out; omega)
                  clear hz hmz hylen hr0 had hc6
                  go_upto_region 12 with (fail)
                  refine wp_region_held_drew (S := (fun w' => w'.cell? ⟨wr.heap.size, 0, none⟩ = some (.int .i64 y.f0) ∧ w'.cell? ⟨wr.heap.size, 1, none⟩ = some (.int .i64 y.f1) ∧ w'.cell? ⟨wr.heap.size, 2, none⟩ = some (.string y.f2) ∧ w'.cell? ⟨wr.heap.size, 3, none⟩ = some (.slice (some ad5) y.f3.length c3) ∧ w'.cell? ad5 = some (.int .i64 z.f0) ∧ w'.cell? ⟨ad5.block, ad5.off + 1, none⟩ = some (.int .i64 z.f1) ∧ w'.cell? ⟨ad5.block, ad5.off + 2, none⟩ = some (.string z.f2) ∧ w'.cell? ⟨ad5.block, ad5.off + 3, none⟩ = some (.slice A6 z.f3.length c6) ∧ Below w9.heap.size w9 w')) (by kernel_rfl) (by (try dsimp only); exact CoreMay.keep8 ⟨y0, y1, y2, y3, e0, e1, e2, e3, Below.refl _ _⟩ (below_drew1 (Below.refl _ _))) (fun hHeld => ?_)
                  refine wpAnyH_take (i := 0) (v := ?_) rfl (by kernel_rfl) (by kernel_rfl) (by kernel_rfl) (fun _ _ _ h => h) (Or.inl ⟨by rfl, ?_⟩) (by assumption) ?_
                  rotate_left 1
                  · (intro w hSw; (try dsimp only at hSw); (try simp only [List.getElem_toArray, List.getElem_cons_succ, List.getElem_cons_zero]); go_simp; (try with_reducible rfl))
                  (try simp only [Act.put, List.getElem_toArray, List.getElem_cons_succ, List.getElem_cons_zero, List.setIfInBounds_toArray, List.set_cons_zero, List.set_cons_succ])
                  refine wpAnyH_take (i := 1) (v := ?_) rfl (by kernel_rfl) (by kernel_rfl) (by kernel_rfl) (fun _ _ _ h => h) (Or.inl ⟨by rfl, ?_⟩) (by assumption) ?_
                  rotate_left 1
                  · (intro w hSw; (try dsimp only at hSw); (try simp only [List.getElem_toArray, List.getElem_cons_succ, List.getElem_cons_zero]); go_simp; (try with_reducible rfl))
                  (try simp only [Act.put, List.getElem_toArray, List.getElem_cons_succ, List.getElem_cons_zero, List.setIfInBounds_toArray, List.set_cons_zero, List.set_cons_succ])
                  refine wpAnyH_ready (rs := [2]) (by kernel_rfl) (by simp) ?_
                  refine AllReadyH.cons rfl (fun K hK => ?_) AllReadyH.nil
                  (try simp only [List.getElem_toArray, List.getElem_cons_succ, List.getElem_cons_zero])
                  go_simp
                  refine ((CoreMay.may_any _ y (Nat.le_refl _) (by omega) free (by have := Qd1.out; omega) (by have := Qd1.out; have := Qd2.out; have := hhy; omega) _ _ _ (Kd.C_below Cy.out hHeld.2.2.2.2.2.2.2.2) hl3).mono fun e w' h => (⟨h.1.trans (by rw [HY6.out]), h.2⟩ : e = .returned (.bool false) ∧ _)).mono ?_
                  rintro e w8 ⟨rfl, hb⟩
                  simp only []
                  refine hK.out _ _ ?_ (fun hHeld => ?_)
                  · (try dsimp only); exact CoreMay.keep8 hHeld hb
                  clear hK K
                  (try simp only [Act.put, List.getElem_toArray, List.getElem_cons_succ, List.getElem_cons_zero, List.setIfInBounds_toArray, List.set_cons_zero, List.set_cons_succ])
                  refine wpAnyH_take (i := 3) (v := ?_) rfl (by kernel_rfl) (by kernel_rfl) (by kernel_rfl) (fun _ _ _ h => h) (Or.inl ⟨by rfl, ?_⟩) (by assumption) ?_
                  rotate_left 1
                  · (intro w hSw; (try dsimp only at hSw); (try simp only [List.getElem_toArray, List.getElem_cons_succ, List.getElem_cons_zero]); go_simp; (try with_reducible rfl))
                  (try simp only [Act.put, List.getElem_toArray, List.getElem_cons_succ, List.getElem_cons_zero, List.setIfInBounds_toArray, List.set_cons_zero, List.set_cons_succ])
                  refine wpAnyH_take (i := 4) (v := ?_) rfl (by kernel_rfl) (by kernel_rfl) (by kernel_rfl) (fun _ _ _ h => h) (Or.inl ⟨by rfl, ?_⟩) (by assumption) ?_
                  rotate_left 1
                  · (intro w hSw; (try dsimp only at hSw); (try simp only [List.getElem_toArray, List.getElem_cons_succ, List.getElem_cons_zero]); go_simp; (try with_reducible rfl))
                  (try simp only [Act.put, List.getElem_toArray, List.getElem_cons_succ, List.getElem_cons_zero, List.setIfInBounds_toArray, List.set_cons_zero, List.set_cons_succ])
                  refine wpAnyH_take (i := 5) (v := ?_) rfl (by kernel_rfl) (by kernel_rfl) (by kernel_rfl) (fun _ _ _ h => h) (Or.inl ⟨by rfl, ?_⟩) (by assumption) ?_
                  rotate_left 1
                  · (intro w hSw; (try dsimp only at hSw); (try simp only [List.getElem_toArray, List.getElem_cons_succ, List.getElem_cons_zero]); go_simp; (try with_reducible rfl))
                  (try simp only [Act.put, List.getElem_toArray, List.getElem_cons_succ, List.getElem_cons_zero, List.setIfInBounds_toArray, List.set_cons_zero, List.set_cons_succ])
                  refine wpAnyH_take (i := 6) (v := ?_) rfl (by kernel_rfl) (by kernel_rfl) (by kernel_rfl) (fun _ _ _ h => h) (Or.inl ⟨by rfl, ?_⟩) (by assumption) ?_
                  rotate_left 1
                  · (intro w hSw; (try dsimp only at hSw); (try simp only [List.getElem_toArray, List.getElem_cons_succ, List.getElem_cons_zero]); go_simp; (try with_reducible rfl))
                  (try simp only [Act.put, List.getElem_toArray, List.getElem_cons_succ, List.getElem_cons_zero, List.setIfInBounds_toArray, List.set_cons_zero, List.set_cons_succ])
                  refine wpAnyH_take (i := 7) (v := ?_) rfl (by kernel_rfl) (by kernel_rfl) (by kernel_rfl) (fun _ _ _ h => h) (Or.inl ⟨by rfl, ?_⟩) (by assumption) ?_
                  rotate_left 1
                  · (intro w hSw; (try dsimp only at hSw); (try simp only [List.getElem_toArray, List.getElem_cons_succ, List.getElem_cons_zero]); go_simp; (try with_reducible rfl))
                  (try simp only [Act.put, List.getElem_toArray, List.getElem_cons_succ, List.getElem_cons_zero, List.setIfInBounds_toArray, List.set_cons_zero, List.set_cons_succ])
                  refine wpAnyH_take (i := 8) (v := ?_) rfl (by kernel_rfl) (by kernel_rfl) (by kernel_rfl) (fun _ _ _ h => h) (Or.inl ⟨by rfl, ?_⟩) (by assumption) ?_
                  rotate_left 1
                  · (intro w hSw; (try dsimp only at hSw); (try simp only [List.getElem_toArray, List.getElem_cons_succ, List.getElem_cons_zero]); go_simp; (try with_reducible rfl))
                  (try simp only [Act.put, List.getElem_toArray, List.getElem_cons_succ, List.getElem_cons_zero, List.setIfInBounds_toArray, List.set_cons_zero, List.set_cons_succ])
                  refine wpAnyH_take (i := 9) (v := ?_) rfl (by kernel_rfl) (by kernel_rfl) (by kernel_rfl) (fun _ _ _ h => h) (Or.inl ⟨by rfl, ?_⟩) (by assumption) ?_
                  rotate_left 1
                  · (intro w hSw; (try dsimp only at hSw); (try simp only [List.getElem_toArray, List.getElem_cons_succ, List.getElem_cons_zero]); go_simp; (try with_reducible rfl))
                  (try simp only [Act.put, List.getElem_toArray, List.getElem_cons_succ, List.getElem_cons_zero, List.setIfInBounds_toArray, List.set_cons_zero, List.set_cons_succ])
                  refine wpAnyH_take (i := 10) (v := ?_) rfl (by kernel_rfl) (by kernel_rfl) (by kernel_rfl) (fun _ _ _ h => h) (Or.inl ⟨by rfl, ?_⟩) (by assumption) ?_
                  rotate_left 1
                  · (intro w hSw; (try dsimp only at hSw); (try simp only [List.getElem_toArray, List.getElem_cons_succ, List.getElem_cons_zero]); go_simp; (try with_reducible rfl))
                  (try simp only [Act.put, List.getElem_toArray, List.getElem_cons_succ, List.getElem_cons_zero, List.setIfInBounds_toArray, List.set_cons_zero, List.set_cons_succ])
                  refine wpAnyH_take (i := 11) (v := ?_) rfl (by kernel_rfl) (by kernel_rfl) (by kernel_rfl) (fun _ _ _ h => h) (Or.inl ⟨by rfl, ?_⟩) (by assumption) ?_
                  rotate_left 1
                  · (intro w hSw; (try dsimp only at hSw); (try simp only [List.getElem_toArray, List.getElem_cons_succ, List.getElem_cons_zero]); go_simp; (try with_reducible rfl))
                  (try simp only [Act.put, List.getElem_toArray, List.getElem_cons_succ, List.getElem_cons_zero, List.setIfInBounds_toArray, List.set_cons_zero, List.set_cons_succ])
                  refine wpAnyH_take (i := 12) (v := ?_) rfl (by kernel_rfl) (by kernel_rfl) (by kernel_rfl) (fun _ _ _ h => h) (Or.inl ⟨by rfl, ?_⟩) (by assumption) ?_
                  rotate_left 1
                  · (intro w hSw; (try dsimp only at hSw); (try simp only [List.getElem_toArray, List.getElem_cons_succ, List.getElem_cons_zero]); go_simp; (try with_reducible rfl))
                  (try simp only [Act.put, List.getElem_toArray, List.getElem_cons_succ, List.getElem_cons_zero, List.setIfInBounds_toArray, List.set_cons_zero, List.set_cons_succ])
                  refine wpAnyH_take (i := 13) (v := ?_) rfl (by kernel_rfl) (by kernel_rfl) (by kernel_rfl) (fun _ _ _ h => h) (Or.inl ⟨by rfl, ?_⟩) (by assumption) ?_
                  rotate_left 1
                  · (intro w hSw; (try dsimp only at hSw); (try simp only [List.getElem_toArray, List.getElem_cons_succ, List.getElem_cons_zero]); go_simp; (try with_reducible rfl))
                  (try simp only [Act.put, List.getElem_toArray, List.getElem_cons_succ, List.getElem_cons_zero, List.setIfInBounds_toArray, List.set_cons_zero, List.set_cons_succ])
                  refine wpAnyH_take (i := 14) (v := ?_) rfl (by kernel_rfl) (by kernel_rfl) (by kernel_rfl) (fun _ _ _ h => h) (Or.inl ⟨by rfl, ?_⟩) (by assumption) ?_
                  rotate_left 1
                  · (intro w hSw; (try dsimp only at hSw); (try simp only [List.getElem_toArray, List.getElem_cons_succ, List.getElem_cons_zero]); go_simp; (try with_reducible rfl))
                  (try simp only [Act.put, List.getElem_toArray, List.getElem_cons_succ, List.getElem_cons_zero, List.setIfInBounds_toArray, List.set_cons_zero, List.set_cons_succ])
                  refine wpAnyH_take (i := 15) (v := ?_) rfl (by kernel_rfl) (by kernel_rfl) (by kernel_rfl) (fun _ _ _ h => h) (Or.inl ⟨by rfl, ?_⟩) (by assumption) ?_
                  rotate_left 1
                  · (intro w hSw; (try dsimp only at hSw); (try simp only [List.getElem_toArray, List.getElem_cons_succ, List.getElem_cons_zero]); go_simp; (try with_reducible rfl))
                  (try simp only [Act.put, List.getElem_toArray, List.getElem_cons_succ, List.getElem_cons_zero, List.setIfInBounds_toArray, List.set_cons_zero, List.set_cons_succ])
                  refine wpAnyH_take (i := 16) (v := ?_) rfl (by kernel_rfl) (by kernel_rfl) (by kernel_rfl) (fun _ _ _ h => h) (Or.inl ⟨by rfl, ?_⟩) (by assumption) ?_
                  rotate_left 1
                  · (intro w hSw; (try dsimp only at hSw); (try simp only [List.getElem_toArray, List.getElem_cons_succ, List.getElem_cons_zero]); go_simp; (try with_reducible rfl))
                  (try simp only [Act.put, List.getElem_toArray, List.getElem_cons_succ, List.getElem_cons_zero, List.setIfInBounds_toArray, List.set_cons_zero, List.set_cons_succ])
                  refine wpAnyH_take (i := 17) (v := ?_) rfl (by kernel_rfl) (by kernel_rfl) (by kernel_rfl) (fun _ _ _ h => h) (Or.inl ⟨by rfl, ?_⟩) (by assumption) ?_
                  rotate_left 1
                  · (intro w hSw; (try dsimp only at hSw); (try simp only [List.getElem_toArray, List.getElem_cons_succ, List.getElem_cons_zero]); go_simp; (try with_reducible rfl))
                  (try simp only [Act.put, List.getElem_toArray, List.getElem_cons_succ, List.getElem_cons_zero, List.setIfInBounds_toArray, List.set_cons_zero, List.set_cons_succ])
                  refine wpAnyH_ready (rs := [18]) (by kernel_rfl) (by simp) ?_
                  refine AllReadyH.cons rfl (fun K hK => ?_) AllReadyH.nil
                  (try simp only [List.getElem_toArray, List.getElem_cons_succ, List.getElem_cons_zero])
                  go_simp
                  refine ((CoreMay.may_any _ z (Nat.le_refl _) (by omega) (free + y.f1) (by have := Qd1.out; have := HCS.out.2.1; omega) (by have := Qd1.out; have := Qd2.out; have := HCS.out.2.2.1; have := hhy; omega) _ _ _ (Kd.C_below C6.out hHeld.2.2.2.2.2.2.2.2) hl6).mono fun e w' h => (⟨h.1.trans (by rw [HMZ.out]), h.2⟩ : e = .returned (.bool true) ∧ _)).mono ?_
                  rintro e w8 ⟨rfl, hb⟩
                  simp only []
                  refine hK.out _ _ ?_ (fun hHeld => ?_)
                  · (try dsimp only); exact CoreMay.keep8 hHeld hb
                  clear hK K
                  (try simp only [Act.put, List.getElem_toArray, List.getElem_cons_succ, List.getElem_cons_zero, List.setIfInBounds_toArray, List.set_cons_zero, List.set_cons_succ])
                  refine wpAnyH_take (i := 19) (v := ?_) rfl (by kernel_rfl) (by kernel_rfl) (by kernel_rfl) (fun _ _ _ h => h) (Or.inl ⟨by rfl, ?_⟩) (by assumption) ?_
                  rotate_left 1
                  · (intro w hSw; (try dsimp only at hSw); (try simp only [List.getElem_toArray, List.getElem_cons_succ, List.getElem_cons_zero]); go_simp; (try with_reducible rfl))
                  (try simp only [Act.put, List.getElem_toArray, List.getElem_cons_succ, List.getElem_cons_zero, List.setIfInBounds_toArray, List.set_cons_zero, List.set_cons_succ])
                  refine wpAnyH_take (i := 20) (v := ?_) rfl (by kernel_rfl) (by kernel_rfl) (by kernel_rfl) (fun _ _ _ h => h) (Or.inl ⟨by rfl, ?_⟩) (by assumption) ?_
                  rotate_left 1
                  · (intro w hSw; (try dsimp only at hSw); (try simp only [List.getElem_toArray, List.getElem_cons_succ, List.getElem_cons_zero]); go_simp; (try with_reducible rfl))
                  (try simp only [Act.put, List.getElem_toArray, List.getElem_cons_succ, List.getElem_cons_zero, List.setIfInBounds_toArray, List.set_cons_zero, List.set_cons_succ])
                  refine wpAnyH_done (by kernel_rfl) ?_ _
                  have HBR7 := Lib.hid (below_step HBR.out hHeld.2.2.2.2.2.2.2.2)
                  clear hHeld
                  go_wp2_with fail
                  exact ⟨⟨k + 1, by omega, by first | rfl | go_num, by rw [HPT.out]; exact congrArg (Value.int IntKind.i64) (by omega), HBR7⟩, by simp [intOf]; omega⟩
              · have b5 : (t.f0 == 5) = false := beq_eq_false_iff_ne.2 q
                have Q5 := Lib.hid q
                clear q
                rcases Classical.em (t.f0 = 2) with q | q
                · have Q2 := Lib.hid q
                  have b2 : (t.f0 == 2) = true := beq_iff_eq.2 q
                  clear q
                  have HMY := Lib.hid (by have h := CorePt.other_parts t free Q5.out VT.out y HM.out; rw [if_pos Q2.out] at h; exact h : may y (free + 1) = true)
                  have hwf : IntKind.i64.wrap (free + 1) = (free + 1) := CoreMay.wrap_i64_small (by have := Qd1.out; have := Qd2.out; omega) (by have := Qd1.out; have := Qd2.out; omega)
                  have hwf2 : wrap64 (free + 1) = (free + 1) := IntWalk.wrap64_in _ ⟨by have := Qd1.out; omega, by have := Qd2.out; omega⟩
                  go_wp2_with fail
                  refine ((CoreMay.may_any _ y (Nat.le_refl _) (by omega) (free + 1) (by have := Qd1.out; omega) (by have := Qd1.out; have := Qd2.out; have := hhy; omega) _ _ _ Cy.out hl3).mono fun e w' h => (⟨h.1.trans (by rw [HMY.out]), h.2⟩ : e = .returned (.bool true) ∧ _)).mono ?_
                  rintro e w7 ⟨rfl, hb⟩
                  have HBR7 := Lib.hid (below_step HBR.out hb)
                  clear hb
                  go_wp2_with fail
                  exact ⟨⟨k + 1, by omega, by first | rfl | go_num, by rw [HPT.out]; exact congrArg (Value.int IntKind.i64) (by omega), HBR7⟩, by simp [intOf]; omega⟩
                · have Q2 := Lib.hid q
                  have b2 : (t.f0 == 2) = false := beq_eq_false_iff_ne.2 q
                  clear q
                  have HMY := Lib.hid (by have h := CorePt.other_parts t free Q5.out VT.out y HM.out; rw [if_neg Q2.out, Int.add_zero] at h; exact h : may y free = true)
                  have hwf : IntKind.i64.wrap free = free := CoreMay.wrap_i64_small (by have := Qd1.out; have := Qd2.out; omega) (by have := Qd1.out; have := Qd2.out; omega)
                  have hwf2 : wrap64 free = free := IntWalk.wrap64_in _ ⟨by have := Qd1.out; omega, by have := Qd2.out; omega⟩
                  go_wp2_with fail
                  refine ((CoreMay.may_any _ y (Nat.le_refl _) (by omega) free (by have := Qd1.out; omega) (by have := Qd1.out; have := Qd2.out; have := hhy; omega) _ _ _ Cy.out hl3).mono fun e w' h => (⟨h.1.trans (by rw [HMY.out]), h.2⟩ : e = .returned (.bool true) ∧ _)).mono ?_
                  rintro e w7 ⟨rfl, hb⟩
                  have HBR7 := Lib.hid (below_step HBR.out hb)
                  clear hb
                  go_wp2_with fail
                  exact ⟨⟨k + 1, by omega, by first | rfl | go_num, by rw [HPT.out]; exact congrArg (Value.int IntKind.i64) (by omega), HBR7⟩, by simp [intOf]; omega⟩
            · have hke : k = t.f3.length := by omega
              have HSZ : Hid (size t = 1 + sizes (t.f3.take k)) := Lib.hid (by rw [hke, List.take_length]; have := CorePt.size_is t; omega)
              have bs1 : ((size t : Int) == 1 + (sizes (t.f3.take k) : Int)) = true := beq_iff_eq.2 (by have := HSZ.out; omega)
              clear hke
              obtain ⟨kk, hkk⟩ := (CoreEv.size_ev _ t (Nat.le_refl _) szt).rounds
              have KK := Lib.hid hkk
              clear hkk
              go_wp2_with fail
              refine (core_Size.calls kk t.f0 t.f1 t.f2 _ _ t.f3 _ _ Ct.out hl KK.out).mono ?_
              rintro e w9 ⟨rfl, hb⟩
              have HB9 := Lib.hid (below_step HB.out hb)
              clear hb
              go_wp2_with fail
              go_ret
              exact ⟨rfl, HB9.out⟩
end Go.Proofs.YtlokmdjhpaimbaaDoor.Pure

/- Reading an argument: what the model's reading of a value gives, kind by kind: the Lean value, its bounds, and its weight (at most the reading's bulk). -/
namespace Go.Proofs.YtlokmdjhpaimbaaDoor.HRead
open Go Go.RowKit Go.Lib Go.Proofs.YtlokmdjhpaimbaaDoorW.PrintWords Go.Proofs.YtlokmdjhpaimbaaDoorW.PrintLast Go.Proofs.YtlokmdjhpaimbaaDoorW.PrintMore
set_option linter.unusedVariables false

/-- At fuel n every reading of type t is a value of kind d. -/
def Rd {α : Type} (P : Program) (d : Kd α) (t : TypeId) (ok : α → Prop) (wt : α → Nat) (n : Nat) : Prop :=
  ∀ {H : Type} (enc : TypeId × Value → H) (w : World) (base : Nat) (spare : Nat → Bool) (held : Bool) (cs : List Value) (x : DataW H × List MemPlace),
    DataW.trod enc P w base spare held n t cs = some x → ∃ y, d.K w y cs ∧ ok y ∧ wt y ≤ Rows.uptoBulk x.1
def RdF {α : Type} (P : Program) (d : Kd α) (fs : List Field) (o : Nat) (ok : α → Prop) (wt : α → Nat) (n : Nat) : Prop :=
  ∀ {H : Type} (enc : TypeId × Value → H) (w : World) (base : Nat) (spare : Nat → Bool) (held : Bool) (cs : List Value) (xs : List (DataW H × List MemPlace)), xs.length = fs.length →
    (∀ (i : Nat) (f : Field), fs[i]? = some f → DataW.trod enc P w base spare held n f.type ((cs.drop f.offset).take (P.cellsOf f.type)) = xs[i]?) →
    ∃ y, d.K w y ((cs.drop o).take d.sz) ∧ ok y ∧ wt y ≤ Rows.uptoBulkAll (xs.map (·.1))

theorem list_of {α : Type} {p : Nat → α → Prop} : ∀ n, (∀ i, i < n → ∃ y, p i y) → ∃ ys : List α, ys.length = n ∧ ∀ i y, ys[i]? = some y → p i y
  | 0, _ => ⟨[], rfl, fun i y h => by simp at h⟩
  | n + 1, h => by
    obtain ⟨ys, hl, hp⟩ := list_of n fun i hi => h i (by omega)
    obtain ⟨y, hy⟩ := h n (by omega)
    refine ⟨ys ++ [y], by simp [hl], fun i z hz => ?_⟩
    by_cases hi : i < n
    · rw [List.getElem?_append_left (by omega)] at hz; exact hp i z hz
    · rw [List.getElem?_append_right (by omega)] at hz
      have h0 : i - ys.length = 0 := by
        have := (List.getElem?_eq_some_iff.1 hz).1
        simp at this; omega
      rw [h0] at hz
      obtain rfl : y = z := by simpa using hz
      obtain rfl : i = n := by omega
      exact hy
theorem bulk_sum {α H : Type} (wt : α → Nat) : ∀ (ys : List α) (ds : List (DataW H)), ys.length = ds.length → (∀ (i : Nat) (y : α) (d : DataW H), ys[i]? = some y → ds[i]? = some d → wt y ≤ Rows.uptoBulk d) → (ys.map wt).sum ≤ Rows.uptoBulkAll ds
  | [], ds, _, _ => by simp
  | y :: ys, [], h, _ => by simp at h
  | y :: ys, d :: ds, h, hp => by
    have h1 := hp 0 y d rfl rfl
    have h2 := bulk_sum wt ys ds (by simpa using h) fun i z e hz he => hp (i + 1) z e hz he
    simp only [List.map_cons, List.sum_cons, Rows.uptoBulkAll]
    omega

section
variable {P : Program} {t e : TypeId} {n : Nat}
theorem rd_zero {α : Type} {d : Kd α} {ok : α → Prop} {wt : α → Nat} : Rd P d t ok wt 0 := fun enc w base spare held cs x h => by simp [DataW.trod] at h
theorem rd_int {k : IntKind} (ht : P.underlying t = some (.int k)) : Rd P (Kd.int k) t (fun m => (Lit.int k m).wf = true) (fun _ => 1) n := by
  intro H enc w base spare held cs x h
  obtain ⟨m, rfl, rfl, hw⟩ := DataW.trod_int ht h
  exact ⟨m, rfl, hw, by simp [Rows.uptoBulk]⟩
theorem rd_bool (ht : P.underlying t = some .bool) : Rd P Kd.bool t (fun _ => True) (fun _ => 1) n := by
  intro H enc w base spare held cs x h
  obtain ⟨b, rfl, rfl⟩ := DataW.trod_bool ht h
  exact ⟨b, rfl, trivial, by simp [Rows.uptoBulk]⟩
theorem rd_string (ht : P.underlying t = some .string) : Rd P Kd.string t (fun _ => True) (fun s => s.size + 1) n := by
  intro H enc w base spare held cs x h
  obtain ⟨s, rfl, rfl, hs⟩ := DataW.trod_string ht h
  exact ⟨s, rfl, trivial, by simp [Rows.uptoBulk]⟩
theorem rd_slice {α : Type} {d : Kd α} {ok : α → Prop} {wt : α → Nat} (ht : P.underlying t = some (.slice e)) (hc : P.cellsOf e = d.sz) (h : Rd P d e ok wt n) :
    Rd P (Kd.slice e d) t (fun ys => (∀ y ∈ ys, ok y) ∧ ys.length ≤ 9223372036854775807) (fun ys => (ys.map wt).sum + 1) (n + 1) := by
  intro H enc w base spare held cs x hx
  rcases DataW.trod_slice ht hx with ⟨rfl, rfl⟩ | ⟨a, len, cap, elems, rest, m, hm, rfl, rfl, hb, hl, hmax, hel, hget, _, _⟩
  · exact ⟨[], ⟨none, 0, rfl, Nat.le_refl _, rfl, by simp, fun h0 => absurd h0 (by simp)⟩, ⟨by simp, by simp⟩, by simp [Rows.uptoBulk]⟩
  · obtain rfl : n = m := by omega
    rw [hc] at hget
    have hmax' : cap ≤ 9223372036854775807 := hmax
    have key : ∀ i, i < len → ∃ y, ∃ cs' x', elems[i]? = some x' ∧ w.cells? base (a.add (i * d.sz)) d.sz = some cs' ∧ d.K w y cs' ∧ ok y ∧ wt y ≤ Rows.uptoBulk x'.1 := by
      intro i hi
      have h1 := hget i hi
      rw [List.getElem?_eq_getElem (by omega)] at h1
      obtain ⟨cs', h2, h3⟩ := Option.bind_eq_some_iff.1 h1
      obtain ⟨y, k1, k2, k3⟩ := h enc w base spare held cs' _ h3
      exact ⟨y, cs', _, List.getElem?_eq_getElem (by omega), h2, k1, k2, k3⟩
    obtain ⟨ys, hyl, hy⟩ := list_of len key
    refine ⟨ys, ⟨some a, cap, by rw [hyl], by omega, ?_⟩, ⟨?_, by omega⟩, ?_⟩
    · refine ⟨rfl, by omega, fun _ => ⟨a, rfl, fun j p hj => ?_⟩⟩
      obtain ⟨cs', x', _, h2, h3, _⟩ := hy j p hj
      obtain ⟨_, h5, h6⟩ := World.cells?_some h2
      refine ⟨cs', h5, h3, fun i u hi => ?_⟩
      have hlt : i < d.sz := by
        have := (List.getElem?_eq_some_iff.1 hi).1
        omega
      rw [← add_add, h6 i hlt, hi]
    · intro y hm
      obtain ⟨i, hi⟩ := List.getElem?_of_mem hm
      obtain ⟨_, _, _, _, _, h4, _⟩ := hy i y hi
      exact h4
    · have := bulk_sum wt ys (elems.map (·.1)) (by simp [hyl, hel]) (fun i y dd hi hd => by
        obtain ⟨cs', x', h1, _, _, _, h5⟩ := hy i y hi
        rw [List.getElem?_map, h1] at hd
        obtain rfl : x'.1 = dd := by simpa using hd
        exact h5)
      simp only [Rows.uptoBulk]
      omega
theorem rdf_one {α : Type} {d : Kd α} {ok : α → Prop} {wt : α → Nat} {f : Field} {o : Nat} (ho : f.offset = o) (hc : P.cellsOf f.type = d.sz) (h : Rd P d f.type ok wt n) : RdF P d [f] o ok wt n := by
  intro H enc w base spare held cs xs hl hx
  match xs, hl with
  | [x], _ =>
    have h0 := hx 0 f rfl
    rw [ho, hc] at h0
    obtain ⟨y, h1, h2, h3⟩ := h enc w base spare held _ _ h0
    exact ⟨y, h1, h2, by simpa [Rows.uptoBulkAll] using h3⟩
theorem rdf_cons {α β : Type} {d : Kd α} {d2 : Kd β} {ok : α → Prop} {wt : α → Nat} {ok2 : β → Prop} {wt2 : β → Nat} {f : Field} {fs : List Field} {o : Nat} (ho : f.offset = o) (hc : P.cellsOf f.type = d.sz) (h : Rd P d f.type ok wt n) (h2 : RdF P d2 fs (o + d.sz) ok2 wt2 n) :
    RdF P (Kd.pair d d2) (f :: fs) o (fun y => ok y.1 ∧ ok2 y.2) (fun y => wt y.1 + wt2 y.2) n := by
  intro H enc w base spare held cs xs hl hx
  match xs, hl with
  | x :: xs, hl =>
    have h0 := hx 0 f rfl
    rw [ho, hc] at h0
    obtain ⟨y, k1, k2, k3⟩ := h enc w base spare held _ _ h0
    obtain ⟨z, j1, j2, j3⟩ := h2 enc w base spare held cs xs (by simpa using hl) fun i g hg => by
      have := hx (i + 1) g (by simpa using hg)
      simpa using this
    refine ⟨(y, z), ⟨_, _, ?_, k1, j1⟩, ⟨k2, j2⟩, ?_⟩
    · show (cs.drop o).take (d.sz + d2.sz) = _
      rw [List.take_add, List.drop_drop]
    · simp only [List.map_cons, Rows.uptoBulkAll]
      omega
theorem rd_struct {α : Type} {d : Kd α} {ok : α → Prop} {wt : α → Nat} {fs : Array Field} (ht : P.underlying t = some (.struct fs)) (hc : P.cellsOf t = d.sz) (h : RdF P d fs.toList 0 ok wt n) : Rd P d t ok (fun y => wt y + 1) (n + 1) := by
  intro H enc w base spare held cs x hx
  obtain ⟨xs, m, hm, rfl, hl, hxl, hf⟩ := DataW.trod_struct ht hx
  obtain rfl : n = m := by omega
  obtain ⟨y, h1, h2, h3⟩ := h enc w base spare held cs xs (by simpa using hxl) fun i f hi => hf i f (by simpa using hi)
  refine ⟨y, ?_, h2, by simp only [Rows.uptoBulk]; omega⟩
  rw [List.drop_zero, List.take_of_length_le (by omega)] at h1
  exact h1
theorem rd_iso {α β : Type} {d : Kd α} {ok : α → Prop} {wt : α → Nat} (f : β → α) (g : α → β) (hfg : ∀ a, f (g a) = a) {ok' : β → Prop} {wt' : β → Nat} (hok : ∀ a, ok a → ok' (g a)) (hwt : ∀ a, wt' (g a) ≤ wt a) (h : Rd P d t ok wt n) : Rd P (Kd.iso d f) t ok' wt' n := by
  intro H enc w base spare held cs x hx
  obtain ⟨y, h1, h2, h3⟩ := h enc w base spare held cs x hx
  exact ⟨g y, by show d.K w (f (g y)) cs; rw [hfg]; exact h1, hok _ h2, Nat.le_trans (hwt _) h3⟩
/-- A slice argument: its row. -/
theorem read_slice {α : Type} {d : Kd α} {ok : List α → Prop} {wt : α → Nat} {H : Type} {enc : TypeId × Value → H} {w : World} {base : Nat} {spare : Nat → Bool} {held : Bool} {v : Value} {D : DataW H} {ps : List MemPlace} (ht : P.underlying t = some (.slice e))
    (h : ∀ n, Rd P (Kd.slice e d) t ok (fun ys => (ys.map wt).sum + 1) n) (hv : v.cells.toList = [v]) (hd : DataW.Trod enc P w base spare held t v D ps) :
    ∃ (ys : List α) (A : Option Addr) (c : Nat), v = .slice A ys.length c ∧ ys.length ≤ c ∧ d.C w A ys.length ys ∧ ok ys ∧ (ys.map wt).sum + 1 ≤ Rows.uptoBulk D := by
  obtain ⟨fuel, hf⟩ := hd
  obtain ⟨ys, ⟨A, c, h1, h2, h3⟩, h4, h5⟩ := h fuel enc w base spare held _ _ hf
  rw [hv] at h1
  exact ⟨ys, A, c, by simpa using h1, h2, h3, h4, h5⟩
end
end Go.Proofs.YtlokmdjhpaimbaaDoor.HRead

-- Written for this claim.
namespace Go.Proofs.YtlokmdjhpaimbaaDoor.Pure
open Go Go.RowKit Go.Proofs.YtlokmdjhpaimbaaDoor.Q Go.Proofs.YtlokmdjhpaimbaaDoorW.PrintWords Go.Proofs.YtlokmdjhpaimbaaDoorW.PrintLast Go.Proofs.YtlokmdjhpaimbaaDoorW.PrintMore
open HRead HCore Go.WideShapes
namespace CoreRd
theorem wts_sum : ∀ l : List T, wts l = (l.map wt).sum
  | [] => rfl
  | x :: r => by simp only [wts, List.map_cons, List.sum_cons, wts_sum r]
theorem oks_of : ∀ l : List T, (∀ y ∈ l, Ok y) → Oks l
  | [], _ => trivial
  | x :: r, h => ⟨h x (List.mem_cons_self ..), oks_of r fun y hy => h y (List.mem_cons_of_mem _ hy)⟩
theorem rdTerm : ∀ n, (∀ m, m ≤ n → Rd Tryd.prog k24 24 Ok wt m)
  | 0 => fun m hm => by obtain rfl : m = 0 := by omega
                        exact rd_zero
  | n + 1 => fun m hm => by
    have ih := rdTerm n
    rcases Nat.lt_or_ge m (n + 1) with hlt | hge
    · intro H enc w base spare held cs x hx
      exact ih m (by omega) enc w base spare held cs x hx
    · obtain rfl : m = n + 1 := by omega
      have hs : Rd Tryd.prog (Kd.slice 24 k24) 22 (fun ys => (∀ y ∈ ys, Ok y) ∧ ys.length ≤ 9223372036854775807) (fun ys => (ys.map wt).sum + 1) n := by
        cases n with
        | zero => exact rd_zero
        | succ n => exact rd_slice Tryd.underlying22 (by kernel_rfl) (ih n (by omega))
      intro H enc w base spare held cs x hx
      obtain ⟨y, hK, ⟨o1, o2, _, o3, _⟩, hw⟩ := rd_struct (d := Kd.pair (Kd.int .i64) (Kd.pair (Kd.int .i64) (Kd.pair Kd.string (Kd.slice 24 k24)))) Tryd.underlying24 (by kernel_rfl) (rdf_cons rfl (by kernel_rfl) (rd_int Tryd.underlying3) (rdf_cons rfl (by kernel_rfl) (rd_int Tryd.underlying3) (rdf_cons rfl (by kernel_rfl) (rd_string Tryd.underlying9) (rdf_one rfl (by kernel_rfl) hs)))) enc w base spare held cs x hx
      obtain ⟨a, b, s, l⟩ := y
      refine ⟨⟨a, b, s, l⟩, ?_, ⟨o1, o2, oks_of l o3⟩, ?_⟩
      · obtain ⟨_, _, rfl, rfl, ⟨_, _, rfl, rfl, ⟨_, _, rfl, rfl, ⟨A, c, rfl, hl, g⟩⟩⟩⟩ := hK
        exact k24_mk w ⟨a, b, s, l⟩ hl g
      · have e := wts_sum l
        simp only [wt]
        simp only at hw
        omega
set_option maxRecDepth 100000 in
/-- A term that came in. -/
theorem readTerm {H : Type} {enc : TypeId × Value → H} {W : World} {base0 base : Nat} {spare : Nat → Bool} {held : Bool} {r : Reach} {v : Value} {D : DataW H} {ps : List MemPlace} (hval : Value.okWide Tryd.prog W r base0 24 v)
    (hd : DataW.Trod enc Tryd.prog W base spare held 24 v D ps) :
    ∃ (x : T) (A : Option Addr) (c : Nat), v = .agg #[.int .i64 x.f0, .int .i64 x.f1, .string x.f2, .slice A x.f3.length c] ∧ Kd.C k24 W A x.f3.length x.f3 ∧ x.f3.length ≤ c ∧ Ok x ∧ wt x ≤ Rows.uptoBulk D := by
  obtain ⟨cs, rfl, hsz⟩ := okWide_struct Tryd.underlying24 hval
  obtain ⟨fuel, hf⟩ := hd
  obtain ⟨x, hK, hok, hw⟩ := rdTerm fuel fuel (Nat.le_refl _) enc W base spare held _ _ hf
  obtain ⟨A, c, hcs, hl, hC⟩ := k24_open hK
  refine ⟨x, A, c, ?_, hC, hl, hok, hw⟩
  have : cs.toList = [.int .i64 x.f0, .int .i64 x.f1, .string x.f2, .slice A x.f3.length c] := by simpa [Value.cells] using hcs
  rw [← this]
end CoreRd
end Go.Proofs.YtlokmdjhpaimbaaDoor.Pure

-- Written for this claim.
namespace Go.Proofs.YtlokmdjhpaimbaaDoor.Pure
open Go Go.RowKit
namespace CoreTab
theorem gTab : Tryd.prog.globalNamed "internal/strconv.uint64pow10" = some 0 := by kernel_rfl
theorem gTabType : (Tryd.prog.globals[0]?).map (·.type) = some 102 := by kernel_rfl
theorem data : (Rows.laid_internal_strconv_uint64pow10 : DataW Unit) = Lib.tabData .u64 Lib.pow10Tab := by kernel_rfl
theorem tab_of {W : World} (h : laidMetH Tryd.prog Rows.coreSameUptoRow.laid W) : Lib.TabIs Tryd.prog W "internal/strconv.uint64pow10" .u64 Lib.pow10Tab := by
  rw [MakeChecks.laidMetH_plain _ _ _ (by kernel_rfl)] at h
  have h2 := h.tail.tail
  rw [data] at h2
  exact Lib.tabIs_of_head gTab gTabType Tryd.underlying102 Tryd.underlying93 (by kernel_rfl) (by kernel_rfl) h2
end CoreTab
end Go.Proofs.YtlokmdjhpaimbaaDoor.Pure
