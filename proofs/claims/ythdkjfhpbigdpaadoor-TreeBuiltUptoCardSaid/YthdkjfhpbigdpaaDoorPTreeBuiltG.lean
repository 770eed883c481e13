-- Written for this claim: several texts in one.
import Derived.Test.YthdkjfhpbigdpaaDoorQx5
import Derived.Test.YthdkjfhpbigdpaaDoorQx4
import Derived.Test.YthdkjfhpbigdpaaDoorQx24
import Derived.Test.YthdkjfhpbigdpaaDoorQx25
import Derived.Test.YthdkjfhpbigdpaaDoorHTree
import Derived.Test.YthdkjfhpbigdpaaDoorPTreeC
import Derived.Test.YthdkjfhpbigdpaaDoorPTreeFix
import Derived.Deep.RegionWith
import Derived.Test.YthdkjfhpbigdpaaDoorHRead
import Derived.Test.YthdkjfhpbigdpaaDoorRows
import Derived.Lib.LaidTab
import Derived.Lib.ItoaNum
import Derived.LaidLaws
import Derived.LaidMore
import Derived.Stop.Joined
import Derived.Stop.LaidErr
import Derived.Lay
import Derived.Shelf.Strings.Fields
-- Written for this claim.
namespace Go.Proofs.YthdkjfhpbigdpaaDoor.Pure
open Go Go.RowKit Go.Proofs.YthdkjfhpbigdpaaDoor.Q Go.Proofs.YthdkjfhpbigdpaaDoorW.PrintWords Go.Proofs.YthdkjfhpbigdpaaDoorW.PrintLast Go.Proofs.YthdkjfhpbigdpaaDoorW.PrintMore
open HTree
namespace TreeEv
theorem wrap_small {n : Int} (h0 : -9223372036854775808 ≤ n) (h1 : n < 9223372036854775808) : wrap64 n = n := by
  unfold wrap64; omega
theorem rd_at (l : List S24) (i : Nat) (t : S24) (h : l[i]? = some t) : rd_T24 l (i : Int) = t := by
  unfold rd_T24
  rw [Int.toNat_natCast, List.getD_eq_getElem?_getD, h]; rfl
theorem at_drop {l r : List T} {i : Nat} {x : T} (h : l.drop i = x :: r) : l[i]? = some x ∧ i < l.length ∧ l.drop (i + 1) = r := by
  have h0 : l[i]? = some x := by have := congrArg (fun l => l[0]?) h; simpa using this
  exact ⟨h0, (List.getElem?_eq_some_iff.1 h0).1, by rw [← List.drop_drop, h]; rfl⟩
theorem size_get {l : List T} {x : T} (h : x ∈ l) : size x ≤ sizes l := by
  induction l with
  | nil => cases h
  | cons y r ih =>
    simp only [sizes]
    rcases List.mem_cons.1 h with rfl | h
    · omega
    · have := ih h; omega
theorem size_pos : ∀ x : T, 1 ≤ size x
  | ⟨_, _, _, _, _⟩ => by simp only [size]; omega
theorem len_sizes : ∀ l : List T, l.length ≤ sizes l
  | [] => Nat.le_refl _
  | x :: r => by have := len_sizes r; have := size_pos x; simp only [sizes, List.length_cons]; omega
mutual
theorem height_size : ∀ x : T, height x ≤ size x
  | ⟨_, _, _, _, l⟩ => by have := heights_sizes l; simp only [height, size]; omega
theorem heights_sizes : ∀ l : List T, heights l ≤ sizes l
  | [] => Nat.le_refl _
  | x :: r => by have := height_size x; have := heights_sizes r; simp only [heights, sizes]; omega
end
mutual
theorem size_wt : ∀ x : T, size x ≤ wt x
  | ⟨_, _, _, _, l⟩ => by have := sizes_wts l; simp only [size, wt]; omega
theorem sizes_wts : ∀ l : List T, sizes l ≤ wts l
  | [] => Nat.le_refl _
  | x :: r => by have := size_wt x; have := sizes_wts r; simp only [sizes, wts]; omega
end
theorem size_loop (l : List T) (hl : l.length ≤ 1000000000) (H : ∀ x ∈ l, Ev (fun k => tree_Size.f k x.f0 x.f1 x.f2 x.f3 x.f4) (size x : Int)) : ∀ (r : List T) (i acc : Nat), l.drop i = r → acc + sizes r ≤ 2000000000 → Ev (fun k => tree_Size.l0 k acc l l.length i) ((acc + sizes r : Nat) : Int)
  | [], i, acc, h, hb => by
    have := List.drop_eq_nil_iff.1 h
    refine Ev.step (f := fun _ => some _) (fun k => ?_) (Ev.now _)
    rw [tree_Size.l0, if_neg (by omega)]; simp [sizes]
  | x :: r, i, acc, h, hb => by
    obtain ⟨h0, hi, hn⟩ := at_drop h
    simp only [sizes] at hb
    refine Ev.step (f := fun k => (tree_Size.f k x.f0 x.f1 x.f2 x.f3 x.f4).bind fun t => tree_Size.l0 k (wrap64 (acc + t)) l l.length (wrap64 (i + 1))) (fun k => ?_) (Ev.bind (H x (List.mem_of_getElem? h0)) ?_)
    · rw [tree_Size.l0, if_pos (by omega), if_pos (by omega), if_pos (by omega), rd_at l i x h0]
    · rw [wrap_small (by omega) (by omega), wrap_small (by omega) (by omega)]
      have ih := size_loop l hl H r (i + 1) (acc + size x) hn (by omega)
      have e1 : ((acc : Int) + (size x : Int)) = ((acc + size x : Nat) : Int) := by omega
      have e2 : ((i : Int) + 1) = ((i + 1 : Nat) : Int) := by omega
      rw [e1, e2]
      have e3 : acc + sizes (x :: r) = acc + size x + sizes r := by simp only [sizes]; omega
      rw [e3]; exact ih
theorem size_ev : ∀ (n : Nat) (x : T), height x ≤ n → size x ≤ 1000000000 → Ev (fun k => tree_Size.f k x.f0 x.f1 x.f2 x.f3 x.f4) (size x : Int)
  | 0, x, hn, _ => by cases x; simp only [height] at hn; omega
  | n + 1, x, hn, hs => by
    have hh : height x = heights x.f4 + 1 := by cases x; rfl
    have hz : size x = sizes x.f4 + 1 := by cases x; rfl
    have H : ∀ y ∈ x.f4, Ev (fun k => tree_Size.f k y.f0 y.f1 y.f2 y.f3 y.f4) (size y : Int) := fun y hy => size_ev n y (by have := height_get hy; omega) (by have := size_get hy; omega)
    refine Ev.step (f := fun k => tree_Size.l0 k 1 x.f4 x.f4.length 0) (fun k => by rw [tree_Size.f]) ?_
    have := size_loop x.f4 (by have := len_sizes x.f4; omega) H x.f4 0 1 rfl (by omega)
    rw [hz]
    have e : sizes x.f4 + 1 = 1 + sizes x.f4 := by omega
    rw [e]; exact this
theorem mx_nat (a b : Nat) : mx (a : Int) (b : Int) = ((max a b : Nat) : Int) := by
  unfold mx; omega
theorem depth_loop (l : List T) (hl : l.length ≤ 1000000000) (H : ∀ x ∈ l, Ev (fun k => tree_Depth.f k x.f0 x.f1 x.f2 x.f3 x.f4) (height x : Int)) : ∀ (r : List T) (i acc : Nat), l.drop i = r → acc ≤ 1000000000 → heights r ≤ 1000000000 → Ev (fun k => tree_Depth.l0 k acc l l.length i) ((max acc (heights r) + 1 : Nat) : Int)
  | [], i, acc, h, ha, hb => by
    have := List.drop_eq_nil_iff.1 h
    refine Ev.step (f := fun _ => some _) (fun k => ?_) (Ev.now _)
    rw [tree_Depth.l0, if_neg (by omega), wrap_small (by omega) (by omega)]; simp [heights]
  | x :: r, i, acc, h, ha, hb => by
    obtain ⟨h0, hi, hn⟩ := at_drop h
    simp only [heights] at hb
    refine Ev.step (f := fun k => (tree_Depth.f k x.f0 x.f1 x.f2 x.f3 x.f4).bind fun t => tree_Depth.l0 k (mx acc t) l l.length (wrap64 (i + 1))) (fun k => ?_) (Ev.bind (H x (List.mem_of_getElem? h0)) ?_)
    · rw [tree_Depth.l0, if_pos (by omega), if_pos (by omega), if_pos (by omega), rd_at l i x h0]
    · rw [wrap_small (by omega) (by omega), mx_nat]
      have ih := depth_loop l hl H r (i + 1) (max acc (height x)) hn (by omega) (by omega)
      have e2 : ((i : Int) + 1) = ((i + 1 : Nat) : Int) := by omega
      rw [e2]
      have e3 : max acc (heights (x :: r)) = max (max acc (height x)) (heights r) := by simp only [heights]; omega
      rw [e3]; exact ih
theorem depth_ev : ∀ (n : Nat) (x : T), height x ≤ n → size x ≤ 1000000000 → Ev (fun k => tree_Depth.f k x.f0 x.f1 x.f2 x.f3 x.f4) (height x : Int)
  | 0, x, hn, _ => by cases x; simp only [height] at hn; omega
  | n + 1, x, hn, hs => by
    have hh : height x = heights x.f4 + 1 := by cases x; rfl
    have hz : size x = sizes x.f4 + 1 := by cases x; rfl
    have H : ∀ y ∈ x.f4, Ev (fun k => tree_Depth.f k y.f0 y.f1 y.f2 y.f3 y.f4) (height y : Int) := fun y hy => depth_ev n y (by have := height_get hy; omega) (by have := size_get hy; omega)
    refine Ev.step (f := fun k => tree_Depth.l0 k 0 x.f4 x.f4.length 0) (fun k => by rw [tree_Depth.f]) ?_
    have hhs := heights_sizes x.f4
    have := depth_loop x.f4 (by have := len_sizes x.f4; omega) H x.f4 0 0 rfl (by omega) (by omega)
    rw [hh]
    have e : heights x.f4 + 1 = max 0 (heights x.f4) + 1 := by omega
    rw [e]; exact this
/-- Small ends. -/
theorem few_loop (x : T) (hl : x.f4.length ≤ 1000000000) (deep : Int) (hd : -1000000 ≤ deep ∧ deep ≤ 1000000) (H : ∀ y ∈ x.f4, ∀ left dp : Int, -1000000 ≤ left → left ≤ 1000000 → -1000000 ≤ dp → dp ≤ 1000000 → ∃ r : Int, -1 ≤ r ∧ r ≤ 1000000 ∧ Ev (fun k => gossamerref02_few.f k y.f0 y.f1 y.f2 y.f3 y.f4 left dp) r) (hd1 : 1 ≤ deep) :
    ∀ (r : List T) (i : Nat) (left : Int), x.f4.drop i = r → 0 ≤ left → left ≤ 1000000 → ∃ q : Int, -1 ≤ q ∧ q ≤ 1000000 ∧ Ev (fun k => gossamerref02_few.l0 k left deep i x.f0 x.f1 x.f2 x.f3 x.f4) q
  | [], i, left, h, h0, h1 => by
    have := List.drop_eq_nil_iff.1 h
    refine ⟨left, by omega, h1, Ev.step (f := fun _ => some _) (fun k => ?_) (Ev.now _)⟩
    rw [gossamerref02_few.l0, if_neg (by omega)]
  | y :: r, i, left, h, h0, h1 => by
    obtain ⟨hg, hi, hn⟩ := at_drop h
    obtain ⟨q, hq0, hq1, hev⟩ := H y (List.mem_of_getElem? hg) left (deep - 1) (by omega) h1 (by omega) (by omega)
    by_cases hneg : q < 0
    · refine ⟨-1, by omega, by omega, Ev.step (f := fun k => (gossamerref02_few.f k y.f0 y.f1 y.f2 y.f3 y.f4 left (deep - 1)).bind fun t => if t < 0 then some (-1) else gossamerref02_few.l0 k t deep (wrap64 (i + 1)) x.f0 x.f1 x.f2 x.f3 x.f4) (fun k => ?_) (Ev.bind hev ?_)⟩
      · rw [gossamerref02_few.l0, if_pos (by omega), if_pos (by omega), rd_at _ i y hg, wrap_small (n := deep - 1) (by omega) (by omega)]
      · simp only [hneg, if_true]; exact Ev.now _
    · obtain ⟨q2, a, b, hev2⟩ := few_loop x hl deep hd H hd1 r (i + 1) q hn (by omega) hq1
      refine ⟨q2, a, b, Ev.step (f := fun k => (gossamerref02_few.f k y.f0 y.f1 y.f2 y.f3 y.f4 left (deep - 1)).bind fun t => if t < 0 then some (-1) else gossamerref02_few.l0 k t deep (wrap64 (i + 1)) x.f0 x.f1 x.f2 x.f3 x.f4) (fun k => ?_) (Ev.bind hev ?_)⟩
      · rw [gossamerref02_few.l0, if_pos (by omega), if_pos (by omega), rd_at _ i y hg, wrap_small (n := deep - 1) (by omega) (by omega)]
      · simp only [hneg, if_false]
        rw [wrap_small (by omega) (by omega)]
        exact hev2
theorem few_ev : ∀ (n : Nat) (x : T), height x ≤ n → size x ≤ 1000000000 → ∀ left dp : Int, -1000000 ≤ left → left ≤ 1000000 → -1000000 ≤ dp → dp ≤ 1000000 → ∃ r : Int, -1 ≤ r ∧ r ≤ 1000000 ∧ Ev (fun k => gossamerref02_few.f k x.f0 x.f1 x.f2 x.f3 x.f4 left dp) r
  | 0, x, hn, _, _, _, _, _, _, _ => by cases x; simp only [height] at hn; omega
  | n + 1, x, hn, hs, left, dp, h0, h1, h2, h3 => by
    have hh : height x = heights x.f4 + 1 := by cases x; rfl
    have hz : size x = sizes x.f4 + 1 := by cases x; rfl
    by_cases hc : left < 1
    · refine ⟨-1, by omega, by omega, Ev.step (f := fun k => gossamerref02_few.j0 k left dp true x.f0 x.f1 x.f2 x.f3 x.f4) (fun k => by rw [gossamerref02_few.f, if_pos hc]) (Ev.step (f := fun _ => some (-1)) (fun k => by rw [gossamerref02_few.j0, if_pos rfl]) (Ev.now _))⟩
    · by_cases hc2 : dp < 1
      · refine ⟨-1, by omega, by omega, Ev.step (f := fun k => gossamerref02_few.j0 k left dp true x.f0 x.f1 x.f2 x.f3 x.f4) (fun k => by rw [gossamerref02_few.f, if_neg hc, decide_eq_true hc2]) (Ev.step (f := fun _ => some (-1)) (fun k => by rw [gossamerref02_few.j0, if_pos rfl]) (Ev.now _))⟩
      · obtain ⟨q, a, b, hev⟩ := few_loop x (by have := len_sizes x.f4; omega) dp ⟨h2, h3⟩ (fun y hy l d => few_ev n y (by have := height_get hy; omega) (by have := size_get hy; omega) l d) (by omega) x.f4 0 (left - 1) rfl (by omega) (by omega)
        refine ⟨q, a, b, Ev.step (f := fun k => gossamerref02_few.j0 k left dp false x.f0 x.f1 x.f2 x.f3 x.f4) (fun k => by rw [gossamerref02_few.f, if_neg hc, decide_eq_false hc2]) (Ev.step (f := fun k => gossamerref02_few.l0 k (left - 1) dp 0 x.f0 x.f1 x.f2 x.f3 x.f4) (fun k => by rw [gossamerref02_few.j0, if_neg (by simp), wrap_small (by omega) (by omega)]) hev)⟩
theorem small_some (x : T) (hs : size x ≤ 1000000000) (most : Int) (h0 : 0 ≤ most) (h1 : most ≤ 1000000) : ∃ k b, gossamerref02_Small.f k x.f0 x.f1 x.f2 x.f3 x.f4 most = some b := by
  obtain ⟨r, _, _, hev⟩ := few_ev (height x) x (Nat.le_refl _) hs most 200 (by omega) h1 (by omega) (by omega)
  obtain ⟨k, hk⟩ := hev.rounds
  refine ⟨k, decide (r ≥ 0), ?_⟩
  unfold gossamerref02_Small.f
  rw [hk]; rfl
end TreeEv
end Go.Proofs.YthdkjfhpbigdpaaDoor.Pure

-- Written for this claim.
namespace Go.Proofs.YthdkjfhpbigdpaaDoor.Pure
open Go Go.RowKit Go.Lib Go.Proofs Go.Proofs.YthdkjfhpbigdpaaDoor.Q Go.Proofs.YthdkjfhpbigdpaaDoorW.PrintWords Go.Proofs.YthdkjfhpbigdpaaDoorW.PrintLast Go.Proofs.YthdkjfhpbigdpaaDoorW.PrintMore
open HTree
set_option linter.unusedSimpArgs false
set_option linter.unusedVariables false
/-! What is made of two trees may be if they may (for TreeBuilt); a literal row of trees. -/
namespace TreeBt
def bL (s : ByteArray) (a : T) : T := ⟨2, s, 0, 0, [a]⟩
def bA (a b : T) : T := ⟨3, ⟨#[]⟩, 0, 0, [a, b]⟩
def bT (s : ByteArray) (a b : T) : T := ⟨4, s, 0, 0, [a, b]⟩
def bR (s : ByteArray) (a b : T) : T := ⟨5, s, 0, 0, [a, b]⟩
def bC (a b : T) : T := ⟨6, ⟨#[65, 98]⟩, 0, 0, [a, b]⟩
def bO (a b : T) : T := ⟨10, ⟨#[42]⟩, 0, 0, [a, b]⟩
def bV (s : ByteArray) : T := ⟨1, s, 0, 0, []⟩
def lst (s : ByteArray) (a b : T) : List T := [bL s a, bA a b, bT s a b, bR s a b, bC a b, bO a b]
theorem nC : named ⟨#[65, 98]⟩ 2 = true := by decide +kernel
theorem nO : named ⟨#[42]⟩ 3 = true := by decide +kernel
theorem nA : named ⟨#[]⟩ 0 = true := by decide +kernel
theorem whole_part (x : T) : (decide (x.f0 ≠ 8) && may x) = whole x := rfl
theorem w_V (s : ByteArray) : whole (bV s) = named s 1 := by
  have e : whole (bV s) = (decide ((1 : Int) ≠ 8) && (decide ((1 : Int) ≤ 1) && decide ((1 : Int) ≤ 10) && decide ((0 : Int) ≤ 0) && decide ((0 : Int) ≤ 0) && named s 1 && decide ((0 : Int) = 0) && decide ((0 : Int) ≤ 0) && true)) := rfl
  rw [e]; simp
theorem p_one (k : Int) (x : T) (h7 : ¬ k = 7) (h8 : ¬ k = 8) : parts k 0 [x] 0 = whole x := by
  rw [parts_cons]; unfold HTree.part
  rw [if_neg (fun h => h7 h.1), if_neg (fun h => h8 h.1), whole_part]
  simp [parts]
theorem p_two (k : Int) (x y : T) (h7 : ¬ k = 7) (h8 : ¬ k = 8) : parts k 0 [x, y] 0 = (whole x && whole y) := by
  rw [parts_cons, parts_cons]; unfold HTree.part
  rw [if_neg (fun h => h7 h.1), if_neg (fun h => h8 h.1), if_neg (fun h => h7 h.1), if_neg (fun h => h8 h.1), whole_part, whole_part]
  simp [parts]
theorem w_L (s : ByteArray) (a : T) : whole (bL s a) = (whole a && named s 1) := by
  have e : whole (bL s a) = (decide ((2 : Int) ≠ 8) && (decide ((1 : Int) ≤ 2) && decide ((2 : Int) ≤ 10) && decide ((1 : Int) ≤ 1) && decide ((1 : Int) ≤ 1) && named s 1 && decide ((0 : Int) = 0) && decide ((0 : Int) ≤ 0) && parts 2 0 [a] 0)) := rfl
  rw [e, p_one 2 a (by omega) (by omega)]; simp [Bool.and_comm]
theorem w_A (a b : T) : whole (bA a b) = (whole a && whole b) := by
  have e : whole (bA a b) = (decide ((3 : Int) ≠ 8) && (decide ((1 : Int) ≤ 3) && decide ((3 : Int) ≤ 10) && decide ((2 : Int) ≤ 2) && decide ((2 : Int) ≤ 2) && named ⟨#[]⟩ 0 && decide ((0 : Int) = 0) && decide ((0 : Int) ≤ 0) && parts 3 0 [a, b] 0)) := rfl
  rw [e, p_two 3 a b (by omega) (by omega), nA]; simp
theorem w_T (s : ByteArray) (a b : T) : whole (bT s a b) = (whole a && whole b && named s 1) := by
  have e : whole (bT s a b) = (decide ((4 : Int) ≠ 8) && (decide ((1 : Int) ≤ 4) && decide ((4 : Int) ≤ 10) && decide ((2 : Int) ≤ 2) && decide ((2 : Int) ≤ 2) && named s 1 && decide ((0 : Int) = 0) && decide ((0 : Int) ≤ 0) && parts 4 0 [a, b] 0)) := rfl
  rw [e, p_two 4 a b (by omega) (by omega)]; simp [Bool.and_comm]
theorem w_R (s : ByteArray) (a b : T) : whole (bR s a b) = (whole a && whole b && named s 1) := by
  have e : whole (bR s a b) = (decide ((5 : Int) ≠ 8) && (decide ((1 : Int) ≤ 5) && decide ((5 : Int) ≤ 10) && decide ((2 : Int) ≤ 2) && decide ((2 : Int) ≤ 2) && named s 1 && decide ((0 : Int) = 0) && decide ((0 : Int) ≤ 0) && parts 5 0 [a, b] 0)) := rfl
  rw [e, p_two 5 a b (by omega) (by omega)]; simp [Bool.and_comm]
theorem w_C (a b : T) : whole (bC a b) = (whole a && whole b) := by
  have e : whole (bC a b) = (decide ((6 : Int) ≠ 8) && (decide ((1 : Int) ≤ 6) && decide ((6 : Int) ≤ 10) && decide ((0 : Int) ≤ 2) && decide ((2 : Int) ≤ 8) && named ⟨#[65, 98]⟩ 2 && decide ((0 : Int) = 0) && decide ((0 : Int) ≤ 0) && parts 6 0 [a, b] 0)) := rfl
  rw [e, p_two 6 a b (by omega) (by omega), nC]; simp
theorem w_O (a b : T) : whole (bO a b) = (whole a && whole b) := by
  have e : whole (bO a b) = (decide ((10 : Int) ≠ 8) && (decide ((1 : Int) ≤ 10) && decide ((10 : Int) ≤ 10) && decide ((2 : Int) ≤ 2) && decide ((2 : Int) ≤ 2) && named ⟨#[42]⟩ 3 && decide ((0 : Int) = 0) && decide ((0 : Int) ≤ 0) && parts 10 0 [a, b] 0)) := rfl
  rw [e, p_two 10 a b (by omega) (by omega), nO]; simp
/-- What each of the six is. -/
theorem w_lst (s : ByteArray) (a b : T) (k : Nat) (h : k < (lst s a b).length) : whole (lst s a b)[k] = ((whole a && (decide (k = 0) || whole b)) && (named s 1 || decide (k = 1) || decide (3 < k))) := by
  have : k = 0 ∨ k = 1 ∨ k = 2 ∨ k = 3 ∨ k = 4 ∨ k = 5 := by simp only [lst, List.length_cons, List.length_nil] at h; omega
  rcases this with rfl | rfl | rfl | rfl | rfl | rfl
  · show whole (bL s a) = _; rw [w_L]; simp
  · show whole (bA a b) = _; rw [w_A]; simp
  · show whole (bT s a b) = _; rw [w_T]; simp
  · show whole (bR s a b) = _; rw [w_R]; simp
  · show whole (bC a b) = _; rw [w_C]; simp
  · show whole (bO a b) = _; rw [w_O]; simp
theorem len_lst (s : ByteArray) (a b : T) (k : Nat) (h : k < (lst s a b).length) : (lst s a b)[k].f4.length = if k = 0 then 1 else 2 := by
  have : k = 0 ∨ k = 1 ∨ k = 2 ∨ k = 3 ∨ k = 4 ∨ k = 5 := by simp only [lst, List.length_cons, List.length_nil] at h; omega
  rcases this with rfl | rfl | rfl | rfl | rfl | rfl <;> rfl
theorem size_lst (s : ByteArray) (a b : T) : ∀ x ∈ lst s a b, size a < size x ∧ size x ≤ size a + size b + 1 := by
  intro x hx
  simp only [lst, List.mem_cons, List.mem_nil_iff, or_false] at hx
  rcases hx with rfl | rfl | rfl | rfl | rfl | rfl <;> simp only [bL, bA, bT, bR, bC, bO, size, sizes] <;> omega
theorem height_lst (s : ByteArray) (a b : T) : ∀ x ∈ lst s a b, height a < height x ∧ height x ≤ height a + height b + 1 := by
  intro x hx
  simp only [lst, List.mem_cons, List.mem_nil_iff, or_false] at hx
  rcases hx with rfl | rfl | rfl | rfl | rfl | rfl <;> simp only [bL, bA, bT, bR, bC, bO, height, heights] <;> omega
theorem wt_lst (s : ByteArray) (a b : T) : ∀ x ∈ lst s a b, wt x ≤ wt a + wt b + s.size + 3 := by
  have h2 : (⟨#[65, 98]⟩ : ByteArray).size = 2 := rfl
  have h1 : (⟨#[42]⟩ : ByteArray).size = 1 := rfl
  have h0 : (⟨#[]⟩ : ByteArray).size = 0 := rfl
  intro x hx
  simp only [lst, List.mem_cons, List.mem_nil_iff, or_false] at hx
  rcases hx with rfl | rfl | rfl | rfl | rfl | rfl <;> simp only [bL, bA, bT, bR, bC, bO, wt, wts, h0, h1, h2] <;> omega
theorem flat_get : ∀ (css : List (List Value)), (∀ cs ∈ css, cs.length = 5) → ∀ (j : Nat) (cs : List Value) (i : Nat), css[j]? = some cs → i < 5 → css.flatten[j * 5 + i]? = cs[i]?
  | [], _, j, cs, i, h, _ => by simp at h
  | c :: r, hl, 0, cs, i, h, hi => by
    have e : c = cs := by simpa using h
    subst e
    have := hl c (List.mem_cons_self ..)
    rw [List.flatten_cons, Nat.zero_mul, Nat.zero_add, List.getElem?_append_left (by omega)]
  | c :: r, hl, j + 1, cs, i, h, hi => by
    have h5 := hl c (List.mem_cons_self ..)
    have h2 : r[j]? = some cs := by simpa using h
    rw [List.flatten_cons, List.getElem?_append_right (by omega), h5, show (j + 1) * 5 + i - 5 = j * 5 + i by omega]
    exact flat_get r (fun cs hc => hl cs (List.mem_cons_of_mem _ hc)) j cs i h2 hi
/-- A literal row of trees. -/
theorem Crow {W : World} (xs : List T) (css : List (List Value)) (hn : 0 < xs.length) (hb : xs.length ≤ 1000000) (h : ∀ (j : Nat) (x : T), xs[j]? = some x → ∃ cs, css[j]? = some cs ∧ k24.K W x cs) (h5 : ∀ cs ∈ css, cs.length = 5) : Kd.C k24 (W.alloc (.cells css.flatten.toArray 24)) (some ⟨W.heap.size, 0, none⟩) xs.length xs := by
  have hbb := below_alloc (Below.refl W.heap.size W) (.cells css.flatten.toArray 24)
  have hnw := blk_new W (.cells css.flatten.toArray 24)
  refine ⟨rfl, by omega, fun _ => ⟨_, rfl, fun j p hj => ?_⟩⟩
  obtain ⟨cs, hc, hK⟩ := h j p hj
  have hl : cs.length = 5 := h5 cs (List.mem_of_getElem? hc)
  refine ⟨cs, k24.K_len hK, k24.K_below hbb hK, fun i u hi => ?_⟩
  have hlt := (List.getElem?_eq_some_iff.1 hi).1
  have e : (⟨W.heap.size, 0, none⟩ : Addr).add (j * k24.sz + i) = ⟨W.heap.size, j * 5 + i, none⟩ := by
    rw [show k24.sz = 5 from rfl]; simp only [Addr.add]; split <;> simp_all
  rw [e, blk_cell hnw, List.getElem?_toArray, flat_get css h5 j cs i hc (by omega)]
  exact hi
end TreeBt
end Go.Proofs.YthdkjfhpbigdpaaDoor.Pure

-- Written for this claim.
namespace Go.Proofs.YthdkjfhpbigdpaaDoor.Pure
open Go Go.RowKit Go.Lib Go.Proofs Go.Proofs.YthdkjfhpbigdpaaDoor.Q Go.Proofs.YthdkjfhpbigdpaaDoorW.PrintWords Go.Proofs.YthdkjfhpbigdpaaDoorW.PrintLast Go.Proofs.YthdkjfhpbigdpaaDoorW.PrintMore
open HTree TreeBt
set_option linter.unusedVariables false
set_option linter.unusedSimpArgs false
set_option maxRecDepth 100000 in
set_option maxHeartbeats 32000000 in
theorem TreeBuilt_walk {w : World} (a : T) (Aa : Option Addr) (ca : Nat) (hCa : Kd.C k24 w Aa a.f4.length a.f4) (hla : a.f4.length ≤ ca) (oka : Ok a) (hwa : wt a ≤ 1048576) (b : T) (Ab : Option Addr) (cb : Nat) (hCb : Kd.C k24 w Ab b.f4.length b.f4) (hlb : b.f4.length ≤ cb) (okb : Ok b) (hwb : wt b ≤ 1048576)
    (s : ByteArray) (htab : Lib.TabIs Tryd.prog w "strings.asciiSpace" .u8 Lib.asciiSpaceTab) :
    Calls Tryd.prog 5 #[.agg #[.int .i64 a.f0, .string a.f1, .int .i64 a.f2, .int .i64 a.f3, .slice Aa a.f4.length ca], .agg #[.int .i64 b.f0, .string b.f1, .int .i64 b.f2, .int .i64 b.f3, .slice Ab b.f4.length cb], .string s] w fun e w' => e = .returned (.bool true) ∧ Below w.heap.size w w' := by
  have HT := Lib.hid (tabBelow_of_tabIs htab)
  clear htab
  have sza : size a ≤ 1048576 := by have := TreeEv.size_wt a; omega
  have hga : height a ≤ 1048576 := by have := TreeEv.height_size a; omega
  obtain ⟨ka, ba, hsa⟩ := TreeEv.small_some a (by omega) 300 (by omega) (by omega)
  have Sa := Lib.hid hsa
  clear hsa
  have szb : size b ≤ 1048576 := by have := TreeEv.size_wt b; omega
  have hgb : height b ≤ 1048576 := by have := TreeEv.height_size b; omega
  obtain ⟨kb, bb, hsb⟩ := TreeEv.small_some b (by omega) 300 (by omega) (by omega)
  have Sb := Lib.hid hsb
  clear hsb
  have hba := below_alloc (below_alloc (Below.refl w.heap.size w) (Obj.cells #[.int .i64 a.f0, .string a.f1, .int .i64 a.f2, .int .i64 a.f3, .slice Aa a.f4.length ca] 24)) (Obj.cells #[.int .i64 b.f0, .string b.f1, .int .i64 b.f2, .int .i64 b.f3, .slice Ab b.f4.length cb] 24)
  have h1 := blk_alloc (blk_new w (Obj.cells #[.int .i64 a.f0, .string a.f1, .int .i64 a.f2, .int .i64 a.f3, .slice Aa a.f4.length ca] 24)) (Obj.cells #[.int .i64 b.f0, .string b.f1, .int .i64 b.f2, .int .i64 b.f3, .slice Ab b.f4.length cb] 24)
  have h2 := blk_new (w.alloc (Obj.cells #[.int .i64 a.f0, .string a.f1, .int .i64 a.f2, .int .i64 a.f3, .slice Aa a.f4.length ca] 24)) (Obj.cells #[.int .i64 b.f0, .string b.f1, .int .i64 b.f2, .int .i64 b.f3, .slice Ab b.f4.length cb] 24)
  rw [World.size_alloc] at h2
  go_enter Tryd.func5, Tryd.ntmps5
  go_upto_region 1 with (fail)
  generalize hwq : (w.alloc (Obj.cells #[.int .i64 a.f0, .string a.f1, .int .i64 a.f2, .int .i64 a.f3, .slice Aa a.f4.length ca] 24)).alloc (Obj.cells #[.int .i64 b.f0, .string b.f1, .int .i64 b.f2, .int .i64 b.f3, .slice Ab b.f4.length cb] 24) = wq at hba h1 h2 ⊢
  clear hwq
  have HB := Lib.hid hba; have Ba := Lib.hid h1; have Bb := Lib.hid h2
  have Ca := Lib.hid (Kd.C_below hCa hba)
  have Cb := Lib.hid (Kd.C_below hCb hba)
  clear hba h1 h2 hCa hCb
  have a0 := blk_cell Ba.out 0
  have a1 := blk_cell Ba.out 1
  have a2 := blk_cell Ba.out 2
  have a3 := blk_cell Ba.out 3
  have a4 := blk_cell Ba.out 4
  have b0 := blk_cell Bb.out 0
  have b1 := blk_cell Bb.out 1
  have b2 := blk_cell Bb.out 2
  have b3 := blk_cell Bb.out 3
  have b4 := blk_cell Bb.out 4
  simp only [List.getElem?_toArray, List.getElem?_cons_zero, List.getElem?_cons_succ] at a0 a1 a2 a3 a4 b0 b1 b2 b3 b4
  go_wp2_with fail
  refine (TreeFix.fixed_any _ (HT.out.on HB.out).here).mono ?_
  rintro e w5 ⟨rfl, hb⟩
  have n0_ := Lib.hid (below_step HB.out hb)
  have nCa := Lib.hid (Kd.C_below Ca.out hb); have nBa := Lib.hid (blk_below Ba.out hb)
  have nCb := Lib.hid (Kd.C_below Cb.out hb); have nBb := Lib.hid (blk_below Bb.out hb)
  clear HB hb Ca Ba Cb Bb a0 a1 a2 a3 a4 b0 b1 b2 b3 b4
  have HB := n0_
  have Ca := nCa; have Ba := nBa
  have Cb := nCb; have Bb := nBb
  clear n0_ nCa nBa nCb nBb
  have a0 := blk_cell Ba.out 0
  have a1 := blk_cell Ba.out 1
  have a2 := blk_cell Ba.out 2
  have a3 := blk_cell Ba.out 3
  have a4 := blk_cell Ba.out 4
  have b0 := blk_cell Bb.out 0
  have b1 := blk_cell Bb.out 1
  have b2 := blk_cell Bb.out 2
  have b3 := blk_cell Bb.out 3
  have b4 := blk_cell Bb.out 4
  simp only [List.getElem?_toArray, List.getElem?_cons_zero, List.getElem?_cons_succ] at a0 a1 a2 a3 a4 b0 b1 b2 b3 b4
  go_wp2_with fail
  refine (gossamerref02_Small.calls ka a.f0 a.f1 a.f2 a.f3 Aa ca a.f4 300 ba _ Ca.out hla Sa.out).mono ?_
  rintro e w5 ⟨rfl, hb⟩
  have n0_ := Lib.hid (below_step HB.out hb)
  have nCa := Lib.hid (Kd.C_below Ca.out hb); have nBa := Lib.hid (blk_below Ba.out hb)
  have nCb := Lib.hid (Kd.C_below Cb.out hb); have nBb := Lib.hid (blk_below Bb.out hb)
  clear HB hb Ca Ba Cb Bb a0 a1 a2 a3 a4 b0 b1 b2 b3 b4
  have HB := n0_
  have Ca := nCa; have Ba := nBa
  have Cb := nCb; have Bb := nBb
  clear n0_ nCa nBa nCb nBb
  have a0 := blk_cell Ba.out 0
  have a1 := blk_cell Ba.out 1
  have a2 := blk_cell Ba.out 2
  have a3 := blk_cell Ba.out 3
  have a4 := blk_cell Ba.out 4
  have b0 := blk_cell Bb.out 0
  have b1 := blk_cell Bb.out 1
  have b2 := blk_cell Bb.out 2
  have b3 := blk_cell Bb.out 3
  have b4 := blk_cell Bb.out 4
  simp only [List.getElem?_toArray, List.getElem?_cons_zero, List.getElem?_cons_succ] at a0 a1 a2 a3 a4 b0 b1 b2 b3 b4
  cases ba with
  | false =>
    go_wp2_with fail
    refine (TreeFix.fixed_any _ (HT.out.on HB.out).here).mono ?_
    rintro e w5 ⟨rfl, hb⟩
    have n0_ := Lib.hid (below_step HB.out hb)
    have nCa := Lib.hid (Kd.C_below Ca.out hb); have nBa := Lib.hid (blk_below Ba.out hb)
    have nCb := Lib.hid (Kd.C_below Cb.out hb); have nBb := Lib.hid (blk_below Bb.out hb)
    clear HB hb Ca Ba Cb Bb a0 a1 a2 a3 a4 b0 b1 b2 b3 b4
    have HB := n0_
    have Ca := nCa; have Ba := nBa
    have Cb := nCb; have Bb := nBb
    clear n0_ nCa nBa nCb nBb
    have a0 := blk_cell Ba.out 0
    have a1 := blk_cell Ba.out 1
    have a2 := blk_cell Ba.out 2
    have a3 := blk_cell Ba.out 3
    have a4 := blk_cell Ba.out 4
    have b0 := blk_cell Bb.out 0
    have b1 := blk_cell Bb.out 1
    have b2 := blk_cell Bb.out 2
    have b3 := blk_cell Bb.out 3
    have b4 := blk_cell Bb.out 4
    simp only [List.getElem?_toArray, List.getElem?_cons_zero, List.getElem?_cons_succ] at a0 a1 a2 a3 a4 b0 b1 b2 b3 b4
    go_wp2_with fail
    go_ret
    exact ⟨rfl, HB.out⟩
  | true =>
    go_wp2_with fail
    refine (gossamerref02_Small.calls kb b.f0 b.f1 b.f2 b.f3 Ab cb b.f4 300 bb _ Cb.out hlb Sb.out).mono ?_
    rintro e w5 ⟨rfl, hb⟩
    have n0_ := Lib.hid (below_step HB.out hb)
    have nCa := Lib.hid (Kd.C_below Ca.out hb); have nBa := Lib.hid (blk_below Ba.out hb)
    have nCb := Lib.hid (Kd.C_below Cb.out hb); have nBb := Lib.hid (blk_below Bb.out hb)
    clear HB hb Ca Ba Cb Bb a0 a1 a2 a3 a4 b0 b1 b2 b3 b4
    have HB := n0_
    have Ca := nCa; have Ba := nBa
    have Cb := nCb; have Bb := nBb
    clear n0_ nCa nBa nCb nBb
    have a0 := blk_cell Ba.out 0
    have a1 := blk_cell Ba.out 1
    have a2 := blk_cell Ba.out 2
    have a3 := blk_cell Ba.out 3
    have a4 := blk_cell Ba.out 4
    have b0 := blk_cell Bb.out 0
    have b1 := blk_cell Bb.out 1
    have b2 := blk_cell Bb.out 2
    have b3 := blk_cell Bb.out 3
    have b4 := blk_cell Bb.out 4
    simp only [List.getElem?_toArray, List.getElem?_cons_zero, List.getElem?_cons_succ] at a0 a1 a2 a3 a4 b0 b1 b2 b3 b4
    cases bb with
    | false =>
      go_wp2_with fail
      refine (TreeFix.fixed_any _ (HT.out.on HB.out).here).mono ?_
      rintro e w5 ⟨rfl, hb⟩
      have n0_ := Lib.hid (below_step HB.out hb)
      have nCa := Lib.hid (Kd.C_below Ca.out hb); have nBa := Lib.hid (blk_below Ba.out hb)
      have nCb := Lib.hid (Kd.C_below Cb.out hb); have nBb := Lib.hid (blk_below Bb.out hb)
      clear HB hb Ca Ba Cb Bb a0 a1 a2 a3 a4 b0 b1 b2 b3 b4
      have HB := n0_
      have Ca := nCa; have Ba := nBa
      have Cb := nCb; have Bb := nBb
      clear n0_ nCa nBa nCb nBb
      have a0 := blk_cell Ba.out 0
      have a1 := blk_cell Ba.out 1
      have a2 := blk_cell Ba.out 2
      have a3 := blk_cell Ba.out 3
      have a4 := blk_cell Ba.out 4
      have b0 := blk_cell Bb.out 0
      have b1 := blk_cell Bb.out 1
      have b2 := blk_cell Bb.out 2
      have b3 := blk_cell Bb.out 3
      have b4 := blk_cell Bb.out 4
      simp only [List.getElem?_toArray, List.getElem?_cons_zero, List.getElem?_cons_succ] at a0 a1 a2 a3 a4 b0 b1 b2 b3 b4
      go_wp2_with fail
      go_ret
      exact ⟨rfl, HB.out⟩
    | true =>
      rcases Classical.em ((s.size : Int) > 50) with q | q
      · have d1 := decide_eq_true q
        have d2 : decide ((50 : Int) < (s.size : Int)) = true := decide_eq_true q
        have d3 : decide (50 < s.size) = true := decide_eq_true (by omega)
        have Q1 := Lib.hid q
        clear q
        go_wp2_with fail
        refine (TreeFix.fixed_any _ (HT.out.on HB.out).here).mono ?_
        rintro e w5 ⟨rfl, hb⟩
        have n0_ := Lib.hid (below_step HB.out hb)
        have nCa := Lib.hid (Kd.C_below Ca.out hb); have nBa := Lib.hid (blk_below Ba.out hb)
        have nCb := Lib.hid (Kd.C_below Cb.out hb); have nBb := Lib.hid (blk_below Bb.out hb)
        clear HB hb Ca Ba Cb Bb a0 a1 a2 a3 a4 b0 b1 b2 b3 b4
        have HB := n0_
        have Ca := nCa; have Ba := nBa
        have Cb := nCb; have Bb := nBb
        clear n0_ nCa nBa nCb nBb
        have a0 := blk_cell Ba.out 0
        have a1 := blk_cell Ba.out 1
        have a2 := blk_cell Ba.out 2
        have a3 := blk_cell Ba.out 3
        have a4 := blk_cell Ba.out 4
        have b0 := blk_cell Bb.out 0
        have b1 := blk_cell Bb.out 1
        have b2 := blk_cell Bb.out 2
        have b3 := blk_cell Bb.out 3
        have b4 := blk_cell Bb.out 4
        simp only [List.getElem?_toArray, List.getElem?_cons_zero, List.getElem?_cons_succ] at a0 a1 a2 a3 a4 b0 b1 b2 b3 b4
        go_wp2_with fail
        go_ret
        exact ⟨rfl, HB.out⟩
      · have d1 := decide_eq_false q
        have d2 : decide ((50 : Int) < (s.size : Int)) = false := decide_eq_false q
        have d3 : decide (50 < s.size) = false := decide_eq_false (by omega)
        have hss : s.size ≤ 50 := by omega
        have Q1 := Lib.hid q; have QS := Lib.hid hss
        clear q hss
        go_upto_region 4 with (fail)
        have bv := blk_new w5 (Obj.cells #[.int .i64 1, .string s, .int .i64 0, .int .i64 0, .slice none 0 0] 24)
        have hb := below_alloc (Below.refl w5.heap.size w5) (Obj.cells #[.int .i64 1, .string s, .int .i64 0, .int .i64 0, .slice none 0 0] 24)
        generalize w5.alloc (Obj.cells #[.int .i64 1, .string s, .int .i64 0, .int .i64 0, .slice none 0 0] 24) = wv at bv hb ⊢
        have v0 := blk_cell bv 0; have v1 := blk_cell bv 1; have v2 := blk_cell bv 2; have v3 := blk_cell bv 3; have v4 := blk_cell bv 4
        simp only [List.getElem?_toArray, List.getElem?_cons_zero, List.getElem?_cons_succ] at v0 v1 v2 v3 v4
        have n0_ := Lib.hid (below_step HB.out hb)
        have nCa := Lib.hid (Kd.C_below Ca.out hb); have nBa := Lib.hid (blk_below Ba.out hb)
        have nCb := Lib.hid (Kd.C_below Cb.out hb); have nBb := Lib.hid (blk_below Bb.out hb)
        clear HB hb Ca Ba Cb Bb a0 a1 a2 a3 a4 b0 b1 b2 b3 b4
        have HB := n0_
        have Ca := nCa; have Ba := nBa
        have Cb := nCb; have Bb := nBb
        clear n0_ nCa nBa nCb nBb
        have a0 := blk_cell Ba.out 0
        have a1 := blk_cell Ba.out 1
        have a2 := blk_cell Ba.out 2
        have a3 := blk_cell Ba.out 3
        have a4 := blk_cell Ba.out 4
        have b0 := blk_cell Bb.out 0
        have b1 := blk_cell Bb.out 1
        have b2 := blk_cell Bb.out 2
        have b3 := blk_cell Bb.out 3
        have b4 := blk_cell Bb.out 4
        simp only [List.getElem?_toArray, List.getElem?_cons_zero, List.getElem?_cons_succ] at a0 a1 a2 a3 a4 b0 b1 b2 b3 b4
        obtain ⟨nm, VN⟩ : ∃ q, Hid (named s 1 = q) := ⟨_, Lib.hid rfl⟩
        have HV : Hid (whole (bV s) = nm) := Lib.hid (by rw [w_V, VN.out])
        go_wp2_with fail
        refine ((TreeMay.whole_any (bV s) (by show s.size + 1 + 0 ≤ _; have := QS.out; omega) _ _ _ (TreeFix.C0 _) (Nat.le_refl 0) (HT.out.on HB.out).here).mono fun e w' h => (⟨h.1.trans (by rw [HV.out]), h.2⟩ : e = .returned (.bool nm) ∧ _)).mono ?_
        rintro e w5 ⟨rfl, hb⟩
        clear bv v0 v1 v2 v3 v4
        have n0_ := Lib.hid (below_step HB.out hb)
        have nCa := Lib.hid (Kd.C_below Ca.out hb); have nBa := Lib.hid (blk_below Ba.out hb)
        have nCb := Lib.hid (Kd.C_below Cb.out hb); have nBb := Lib.hid (blk_below Bb.out hb)
        clear HB hb Ca Ba Cb Bb a0 a1 a2 a3 a4 b0 b1 b2 b3 b4
        have HB := n0_
        have Ca := nCa; have Ba := nBa
        have Cb := nCb; have Bb := nBb
        clear n0_ nCa nBa nCb nBb
        have a0 := blk_cell Ba.out 0
        have a1 := blk_cell Ba.out 1
        have a2 := blk_cell Ba.out 2
        have a3 := blk_cell Ba.out 3
        have a4 := blk_cell Ba.out 4
        have b0 := blk_cell Bb.out 0
        have b1 := blk_cell Bb.out 1
        have b2 := blk_cell Bb.out 2
        have b3 := blk_cell Bb.out 3
        have b4 := blk_cell Bb.out 4
        simp only [List.getElem?_toArray, List.getElem?_cons_zero, List.getElem?_cons_succ] at a0 a1 a2 a3 a4 b0 b1 b2 b3 b4
        have f1a0 := fun (o0 : Obj) => ((below_alloc (Below.refl w5.heap.size w5) o0).cell (World.block_lt_of_cell? _ _ a0)).trans a0
        have f1a1 := fun (o0 : Obj) => ((below_alloc (Below.refl w5.heap.size w5) o0).cell (World.block_lt_of_cell? _ _ a1)).trans a1
        have f1a2 := fun (o0 : Obj) => ((below_alloc (Below.refl w5.heap.size w5) o0).cell (World.block_lt_of_cell? _ _ a2)).trans a2
        have f1a3 := fun (o0 : Obj) => ((below_alloc (Below.refl w5.heap.size w5) o0).cell (World.block_lt_of_cell? _ _ a3)).trans a3
        have f1a4 := fun (o0 : Obj) => ((below_alloc (Below.refl w5.heap.size w5) o0).cell (World.block_lt_of_cell? _ _ a4)).trans a4
        have f1b0 := fun (o0 : Obj) => ((below_alloc (Below.refl w5.heap.size w5) o0).cell (World.block_lt_of_cell? _ _ b0)).trans b0
        have f1b1 := fun (o0 : Obj) => ((below_alloc (Below.refl w5.heap.size w5) o0).cell (World.block_lt_of_cell? _ _ b1)).trans b1
        have f1b2 := fun (o0 : Obj) => ((below_alloc (Below.refl w5.heap.size w5) o0).cell (World.block_lt_of_cell? _ _ b2)).trans b2
        have f1b3 := fun (o0 : Obj) => ((below_alloc (Below.refl w5.heap.size w5) o0).cell (World.block_lt_of_cell? _ _ b3)).trans b3
        have f1b4 := fun (o0 : Obj) => ((below_alloc (Below.refl w5.heap.size w5) o0).cell (World.block_lt_of_cell? _ _ b4)).trans b4
        have f2a0 := fun (o0 : Obj) (o1 : Obj) => ((below_step (below_alloc (Below.refl w5.heap.size w5) o0) (below_alloc (Below.refl (w5.alloc o0).heap.size (w5.alloc o0)) o1)).cell (World.block_lt_of_cell? _ _ a0)).trans a0
        have f2a1 := fun (o0 : Obj) (o1 : Obj) => ((below_step (below_alloc (Below.refl w5.heap.size w5) o0) (below_alloc (Below.refl (w5.alloc o0).heap.size (w5.alloc o0)) o1)).cell (World.block_lt_of_cell? _ _ a1)).trans a1
        have f2a2 := fun (o0 : Obj) (o1 : Obj) => ((below_step (below_alloc (Below.refl w5.heap.size w5) o0) (below_alloc (Below.refl (w5.alloc o0).heap.size (w5.alloc o0)) o1)).cell (World.block_lt_of_cell? _ _ a2)).trans a2
        have f2a3 := fun (o0 : Obj) (o1 : Obj) => ((below_step (below_alloc (Below.refl w5.heap.size w5) o0) (below_alloc (Below.refl (w5.alloc o0).heap.size (w5.alloc o0)) o1)).cell (World.block_lt_of_cell? _ _ a3)).trans a3
        have f2a4 := fun (o0 : Obj) (o1 : Obj) => ((below_step (below_alloc (Below.refl w5.heap.size w5) o0) (below_alloc (Below.refl (w5.alloc o0).heap.size (w5.alloc o0)) o1)).cell (World.block_lt_of_cell? _ _ a4)).trans a4
        have f2b0 := fun (o0 : Obj) (o1 : Obj) => ((below_step (below_alloc (Below.refl w5.heap.size w5) o0) (below_alloc (Below.refl (w5.alloc o0).heap.size (w5.alloc o0)) o1)).cell (World.block_lt_of_cell? _ _ b0)).trans b0
        have f2b1 := fun (o0 : Obj) (o1 : Obj) => ((below_step (below_alloc (Below.refl w5.heap.size w5) o0) (below_alloc (Below.refl (w5.alloc o0).heap.size (w5.alloc o0)) o1)).cell (World.block_lt_of_cell? _ _ b1)).trans b1
        have f2b2 := fun (o0 : Obj) (o1 : Obj) => ((below_step (below_alloc (Below.refl w5.heap.size w5) o0) (below_alloc (Below.refl (w5.alloc o0).heap.size (w5.alloc o0)) o1)).cell (World.block_lt_of_cell? _ _ b2)).trans b2
        have f2b3 := fun (o0 : Obj) (o1 : Obj) => ((below_step (below_alloc (Below.refl w5.heap.size w5) o0) (below_alloc (Below.refl (w5.alloc o0).heap.size (w5.alloc o0)) o1)).cell (World.block_lt_of_cell? _ _ b3)).trans b3
        have f2b4 := fun (o0 : Obj) (o1 : Obj) => ((below_step (below_alloc (Below.refl w5.heap.size w5) o0) (below_alloc (Below.refl (w5.alloc o0).heap.size (w5.alloc o0)) o1)).cell (World.block_lt_of_cell? _ _ b4)).trans b4
        have f3a0 := fun (o0 : Obj) (o1 : Obj) (o2 : Obj) => ((below_step (below_step (below_alloc (Below.refl w5.heap.size w5) o0) (below_alloc (Below.refl (w5.alloc o0).heap.size (w5.alloc o0)) o1)) (below_alloc (Below.refl ((w5.alloc o0).alloc o1).heap.size ((w5.alloc o0).alloc o1)) o2)).cell (World.block_lt_of_cell? _ _ a0)).trans a0
        have f3a1 := fun (o0 : Obj) (o1 : Obj) (o2 : Obj) => ((below_step (below_step (below_alloc (Below.refl w5.heap.size w5) o0) (below_alloc (Below.refl (w5.alloc o0).heap.size (w5.alloc o0)) o1)) (below_alloc (Below.refl ((w5.alloc o0).alloc o1).heap.size ((w5.alloc o0).alloc o1)) o2)).cell (World.block_lt_of_cell? _ _ a1)).trans a1
        have f3a2 := fun (o0 : Obj) (o1 : Obj) (o2 : Obj) => ((below_step (below_step (below_alloc (Below.refl w5.heap.size w5) o0) (below_alloc (Below.refl (w5.alloc o0).heap.size (w5.alloc o0)) o1)) (below_alloc (Below.refl ((w5.alloc o0).alloc o1).heap.size ((w5.alloc o0).alloc o1)) o2)).cell (World.block_lt_of_cell? _ _ a2)).trans a2
        have f3a3 := fun (o0 : Obj) (o1 : Obj) (o2 : Obj) => ((below_step (below_step (below_alloc (Below.refl w5.heap.size w5) o0) (below_alloc (Below.refl (w5.alloc o0).heap.size (w5.alloc o0)) o1)) (below_alloc (Below.refl ((w5.alloc o0).alloc o1).heap.size ((w5.alloc o0).alloc o1)) o2)).cell (World.block_lt_of_cell? _ _ a3)).trans a3
        have f3a4 := fun (o0 : Obj) (o1 : Obj) (o2 : Obj) => ((below_step (below_step (below_alloc (Below.refl w5.heap.size w5) o0) (below_alloc (Below.refl (w5.alloc o0).heap.size (w5.alloc o0)) o1)) (below_alloc (Below.refl ((w5.alloc o0).alloc o1).heap.size ((w5.alloc o0).alloc o1)) o2)).cell (World.block_lt_of_cell? _ _ a4)).trans a4
        have f3b0 := fun (o0 : Obj) (o1 : Obj) (o2 : Obj) => ((below_step (below_step (below_alloc (Below.refl w5.heap.size w5) o0) (below_alloc (Below.refl (w5.alloc o0).heap.size (w5.alloc o0)) o1)) (below_alloc (Below.refl ((w5.alloc o0).alloc o1).heap.size ((w5.alloc o0).alloc o1)) o2)).cell (World.block_lt_of_cell? _ _ b0)).trans b0
        have f3b1 := fun (o0 : Obj) (o1 : Obj) (o2 : Obj) => ((below_step (below_step (below_alloc (Below.refl w5.heap.size w5) o0) (below_alloc (Below.refl (w5.alloc o0).heap.size (w5.alloc o0)) o1)) (below_alloc (Below.refl ((w5.alloc o0).alloc o1).heap.size ((w5.alloc o0).alloc o1)) o2)).cell (World.block_lt_of_cell? _ _ b1)).trans b1
        have f3b2 := fun (o0 : Obj) (o1 : Obj) (o2 : Obj) => ((below_step (below_step (below_alloc (Below.refl w5.heap.size w5) o0) (below_alloc (Below.refl (w5.alloc o0).heap.size (w5.alloc o0)) o1)) (below_alloc (Below.refl ((w5.alloc o0).alloc o1).heap.size ((w5.alloc o0).alloc o1)) o2)).cell (World.block_lt_of_cell? _ _ b2)).trans b2
        have f3b3 := fun (o0 : Obj) (o1 : Obj) (o2 : Obj) => ((below_step (below_step (below_alloc (Below.refl w5.heap.size w5) o0) (below_alloc (Below.refl (w5.alloc o0).heap.size (w5.alloc o0)) o1)) (below_alloc (Below.refl ((w5.alloc o0).alloc o1).heap.size ((w5.alloc o0).alloc o1)) o2)).cell (World.block_lt_of_cell? _ _ b3)).trans b3
        have f3b4 := fun (o0 : Obj) (o1 : Obj) (o2 : Obj) => ((below_step (below_step (below_alloc (Below.refl w5.heap.size w5) o0) (below_alloc (Below.refl (w5.alloc o0).heap.size (w5.alloc o0)) o1)) (below_alloc (Below.refl ((w5.alloc o0).alloc o1).heap.size ((w5.alloc o0).alloc o1)) o2)).cell (World.block_lt_of_cell? _ _ b4)).trans b4
        have f4a0 := fun (o0 : Obj) (o1 : Obj) (o2 : Obj) (o3 : Obj) => ((below_step (below_step (below_step (below_alloc (Below.refl w5.heap.size w5) o0) (below_alloc (Below.refl (w5.alloc o0).heap.size (w5.alloc o0)) o1)) (below_alloc (Below.refl ((w5.alloc o0).alloc o1).heap.size ((w5.alloc o0).alloc o1)) o2)) (below_alloc (Below.refl (((w5.alloc o0).alloc o1).alloc o2).heap.size (((w5.alloc o0).alloc o1).alloc o2)) o3)).cell (World.block_lt_of_cell? _ _ a0)).trans a0
        have f4a1 := fun (o0 : Obj) (o1 : Obj) (o2 : Obj) (o3 : Obj) => ((below_step (below_step (below_step (below_alloc (Below.refl w5.heap.size w5) o0) (below_alloc (Below.refl (w5.alloc o0).heap.size (w5.alloc o0)) o1)) (below_alloc (Below.refl ((w5.alloc o0).alloc o1).heap.size ((w5.alloc o0).alloc o1)) o2)) (below_alloc (Below.refl (((w5.alloc o0).alloc o1).alloc o2).heap.size (((w5.alloc o0).alloc o1).alloc o2)) o3)).cell (World.block_lt_of_cell? _ _ a1)).trans a1
        have f4a2 := fun (o0 : Obj) (o1 : Obj) (o2 : Obj) (o3 : Obj) => ((below_step (below_step (below_step (below_alloc (Below.refl w5.heap.size w5) o0) (below_alloc (Below.refl (w5.alloc o0).heap.size (w5.alloc o0)) o1)) (below_alloc (Below.refl ((w5.alloc o0).alloc o1).heap.size ((w5.alloc o0).alloc o1)) o2)) (below_alloc (Below.refl (((w5.alloc o0).alloc o1).alloc o2).heap.size (((w5.alloc o0).alloc o1).alloc o2)) o3)).cell (World.block_lt_of_cell? _ _ a2)).trans a2
        have f4a3 := fun (o0 : Obj) (o1 : Obj) (o2 : Obj) (o3 : Obj) => ((below_step (below_step (below_step (below_alloc (Below.refl w5.heap.size w5) o0) (below_alloc (Below.refl (w5.alloc o0).heap.size (w5.alloc o0)) o1)) (below_alloc (Below.refl ((w5.alloc o0).alloc o1).heap.size ((w5.alloc o0).alloc o1)) o2)) (below_alloc (Below.refl (((w5.alloc o0).alloc o1).alloc o2).heap.size (((w5.alloc o0).alloc o1).alloc o2)) o3)).cell (World.block_lt_of_cell? _ _ a3)).trans a3
        have f4a4 := fun (o0 : Obj) (o1 : Obj) (o2 : Obj) (o3 : Obj) => ((below_step (below_step (below_step (below_alloc (Below.refl w5.heap.size w5) o0) (below_alloc (Below.refl (w5.alloc o0).heap.size (w5.alloc o0)) o1)) (below_alloc (Below.refl ((w5.alloc o0).alloc o1).heap.size ((w5.alloc o0).alloc o1)) o2)) (below_alloc (Below.refl (((w5.alloc o0).alloc o1).alloc o2).heap.size (((w5.alloc o0).alloc o1).alloc o2)) o3)).cell (World.block_lt_of_cell? _ _ a4)).trans a4
        have f4b0 := fun (o0 : Obj) (o1 : Obj) (o2 : Obj) (o3 : Obj) => ((below_step (below_step (below_step (below_alloc (Below.refl w5.heap.size w5) o0) (below_alloc (Below.refl (w5.alloc o0).heap.size (w5.alloc o0)) o1)) (below_alloc (Below.refl ((w5.alloc o0).alloc o1).heap.size ((w5.alloc o0).alloc o1)) o2)) (below_alloc (Below.refl (((w5.alloc o0).alloc o1).alloc o2).heap.size (((w5.alloc o0).alloc o1).alloc o2)) o3)).cell (World.block_lt_of_cell? _ _ b0)).trans b0
        have f4b1 := fun (o0 : Obj) (o1 : Obj) (o2 : Obj) (o3 : Obj) => ((below_step (below_step (below_step (below_alloc (Below.refl w5.heap.size w5) o0) (below_alloc (Below.refl (w5.alloc o0).heap.size (w5.alloc o0)) o1)) (below_alloc (Below.refl ((w5.alloc o0).alloc o1).heap.size ((w5.alloc o0).alloc o1)) o2)) (below_alloc (Below.refl (((w5.alloc o0).alloc o1).alloc o2).heap.size (((w5.alloc o0).alloc o1).alloc o2)) o3)).cell (World.block_lt_of_cell? _ _ b1)).trans b1
        have f4b2 := fun (o0 : Obj) (o1 : Obj) (o2 : Obj) (o3 : Obj) => ((below_step (below_step (below_step (below_alloc (Below.refl w5.heap.size w5) o0) (below_alloc (Below.refl (w5.alloc o0).heap.size (w5.alloc o0)) o1)) (below_alloc (Below.refl ((w5.alloc o0).alloc o1).heap.size ((w5.alloc o0).alloc o1)) o2)) (below_alloc (Below.refl (((w5.alloc o0).alloc o1).alloc o2).heap.size (((w5.alloc o0).alloc o1).alloc o2)) o3)).cell (World.block_lt_of_cell? _ _ b2)).trans b2
        have f4b3 := fun (o0 : Obj) (o1 : Obj) (o2 : Obj) (o3 : Obj) => ((below_step (below_step (below_step (below_alloc (Below.refl w5.heap.size w5) o0) (below_alloc (Below.refl (w5.alloc o0).heap.size (w5.alloc o0)) o1)) (below_alloc (Below.refl ((w5.alloc o0).alloc o1).heap.size ((w5.alloc o0).alloc o1)) o2)) (below_alloc (Below.refl (((w5.alloc o0).alloc o1).alloc o2).heap.size (((w5.alloc o0).alloc o1).alloc o2)) o3)).cell (World.block_lt_of_cell? _ _ b3)).trans b3
        have f4b4 := fun (o0 : Obj) (o1 : Obj) (o2 : Obj) (o3 : Obj) => ((below_step (below_step (below_step (below_alloc (Below.refl w5.heap.size w5) o0) (below_alloc (Below.refl (w5.alloc o0).heap.size (w5.alloc o0)) o1)) (below_alloc (Below.refl ((w5.alloc o0).alloc o1).heap.size ((w5.alloc o0).alloc o1)) o2)) (below_alloc (Below.refl (((w5.alloc o0).alloc o1).alloc o2).heap.size (((w5.alloc o0).alloc o1).alloc o2)) o3)).cell (World.block_lt_of_cell? _ _ b4)).trans b4
        have f5a0 := fun (o0 : Obj) (o1 : Obj) (o2 : Obj) (o3 : Obj) (o4 : Obj) => ((below_step (below_step (below_step (below_step (below_alloc (Below.refl w5.heap.size w5) o0) (below_alloc (Below.refl (w5.alloc o0).heap.size (w5.alloc o0)) o1)) (below_alloc (Below.refl ((w5.alloc o0).alloc o1).heap.size ((w5.alloc o0).alloc o1)) o2)) (below_alloc (Below.refl (((w5.alloc o0).alloc o1).alloc o2).heap.size (((w5.alloc o0).alloc o1).alloc o2)) o3)) (below_alloc (Below.refl ((((w5.alloc o0).alloc o1).alloc o2).alloc o3).heap.size ((((w5.alloc o0).alloc o1).alloc o2).alloc o3)) o4)).cell (World.block_lt_of_cell? _ _ a0)).trans a0
        have f5a1 := fun (o0 : Obj) (o1 : Obj) (o2 : Obj) (o3 : Obj) (o4 : Obj) => ((below_step (below_step (below_step (below_step (below_alloc (Below.refl w5.heap.size w5) o0) (below_alloc (Below.refl (w5.alloc o0).heap.size (w5.alloc o0)) o1)) (below_alloc (Below.refl ((w5.alloc o0).alloc o1).heap.size ((w5.alloc o0).alloc o1)) o2)) (below_alloc (Below.refl (((w5.alloc o0).alloc o1).alloc o2).heap.size (((w5.alloc o0).alloc o1).alloc o2)) o3)) (below_alloc (Below.refl ((((w5.alloc o0).alloc o1).alloc o2).alloc o3).heap.size ((((w5.alloc o0).alloc o1).alloc o2).alloc o3)) o4)).cell (World.block_lt_of_cell? _ _ a1)).trans a1
        have f5a2 := fun (o0 : Obj) (o1 : Obj) (o2 : Obj) (o3 : Obj) (o4 : Obj) => ((below_step (below_step (below_step (below_step (below_alloc (Below.refl w5.heap.size w5) o0) (below_alloc (Below.refl (w5.alloc o0).heap.size (w5.alloc o0)) o1)) (below_alloc (Below.refl ((w5.alloc o0).alloc o1).heap.size ((w5.alloc o0).alloc o1)) o2)) (below_alloc (Below.refl (((w5.alloc o0).alloc o1).alloc o2).heap.size (((w5.alloc o0).alloc o1).alloc o2)) o3)) (below_alloc (Below.refl ((((w5.alloc o0).alloc o1).alloc o2).alloc o3).heap.size ((((w5.alloc o0).alloc o1).alloc o2).alloc o3)) o4)).cell (World.block_lt_of_cell? _ _ a2)).trans a2
        have f5a3 := fun (o0 : Obj) (o1 : Obj) (o2 : Obj) (o3 : Obj) (o4 : Obj) => ((below_step (below_step (below_step (below_step (below_alloc (Below.refl w5.heap.size w5) o0) (below_alloc (Below.refl (w5.alloc o0).heap.size (w5.alloc o0)) o1)) (below_alloc (Below.refl ((w5.alloc o0).alloc o1).heap.size ((w5.alloc o0).alloc o1)) o2)) (below_alloc (Below.refl (((w5.alloc o0).alloc o1).alloc o2).heap.size (((w5.alloc o0).alloc o1).alloc o2)) o3)) (below_alloc (Below.refl ((((w5.alloc o0).alloc o1).alloc o2).alloc o3).heap.size ((((w5.alloc o0).alloc o1).alloc o2).alloc o3)) o4)).cell (World.block_lt_of_cell? _ _ a3)).trans a3
        have f5a4 := fun (o0 : Obj) (o1 : Obj) (o2 : Obj) (o3 : Obj) (o4 : Obj) => ((below_step (below_step (below_step (below_step (below_alloc (Below.refl w5.heap.size w5) o0) (below_alloc (Below.refl (w5.alloc o0).heap.size (w5.alloc o0)) o1)) (below_alloc (Below.refl ((w5.alloc o0).alloc o1).heap.size ((w5.alloc o0).alloc o1)) o2)) (below_alloc (Below.refl (((w5.alloc o0).alloc o1).alloc o2).heap.size (((w5.alloc o0).alloc o1).alloc o2)) o3)) (below_alloc (Below.refl ((((w5.alloc o0).alloc o1).alloc o2).alloc o3).heap.size ((((w5.alloc o0).alloc o1).alloc o2).alloc o3)) o4)).cell (World.block_lt_of_cell? _ _ a4)).trans a4
        have f5b0 := fun (o0 : Obj) (o1 : Obj) (o2 : Obj) (o3 : Obj) (o4 : Obj) => ((below_step (below_step (below_step (below_step (below_alloc (Below.refl w5.heap.size w5) o0) (below_alloc (Below.refl (w5.alloc o0).heap.size (w5.alloc o0)) o1)) (below_alloc (Below.refl ((w5.alloc o0).alloc o1).heap.size ((w5.alloc o0).alloc o1)) o2)) (below_alloc (Below.refl (((w5.alloc o0).alloc o1).alloc o2).heap.size (((w5.alloc o0).alloc o1).alloc o2)) o3)) (below_alloc (Below.refl ((((w5.alloc o0).alloc o1).alloc o2).alloc o3).heap.size ((((w5.alloc o0).alloc o1).alloc o2).alloc o3)) o4)).cell (World.block_lt_of_cell? _ _ b0)).trans b0
        have f5b1 := fun (o0 : Obj) (o1 : Obj) (o2 : Obj) (o3 : Obj) (o4 : Obj) => ((below_step (below_step (below_step (below_step (below_alloc (Below.refl w5.heap.size w5) o0) (below_alloc (Below.refl (w5.alloc o0).heap.size (w5.alloc o0)) o1)) (below_alloc (Below.refl ((w5.alloc o0).alloc o1).heap.size ((w5.alloc o0).alloc o1)) o2)) (below_alloc (Below.refl (((w5.alloc o0).alloc o1).alloc o2).heap.size (((w5.alloc o0).alloc o1).alloc o2)) o3)) (below_alloc (Below.refl ((((w5.alloc o0).alloc o1).alloc o2).alloc o3).heap.size ((((w5.alloc o0).alloc o1).alloc o2).alloc o3)) o4)).cell (World.block_lt_of_cell? _ _ b1)).trans b1
        have f5b2 := fun (o0 : Obj) (o1 : Obj) (o2 : Obj) (o3 : Obj) (o4 : Obj) => ((below_step (below_step (below_step (below_step (below_alloc (Below.refl w5.heap.size w5) o0) (below_alloc (Below.refl (w5.alloc o0).heap.size (w5.alloc o0)) o1)) (below_alloc (Below.refl ((w5.alloc o0).alloc o1).heap.size ((w5.alloc o0).alloc o1)) o2)) (below_alloc (Below.refl (((w5.alloc o0).alloc o1).alloc o2).heap.size (((w5.alloc o0).alloc o1).alloc o2)) o3)) (below_alloc (Below.refl ((((w5.alloc o0).alloc o1).alloc o2).alloc o3).heap.size ((((w5.alloc o0).alloc o1).alloc o2).alloc o3)) o4)).cell (World.block_lt_of_cell? _ _ b2)).trans b2
        have f5b3 := fun (o0 : Obj) (o1 : Obj) (o2 : Obj) (o3 : Obj) (o4 : Obj) => ((below_step (below_step (below_step (below_step (below_alloc (Below.refl w5.heap.size w5) o0) (below_alloc (Below.refl (w5.alloc o0).heap.size (w5.alloc o0)) o1)) (below_alloc (Below.refl ((w5.alloc o0).alloc o1).heap.size ((w5.alloc o0).alloc o1)) o2)) (below_alloc (Below.refl (((w5.alloc o0).alloc o1).alloc o2).heap.size (((w5.alloc o0).alloc o1).alloc o2)) o3)) (below_alloc (Below.refl ((((w5.alloc o0).alloc o1).alloc o2).alloc o3).heap.size ((((w5.alloc o0).alloc o1).alloc o2).alloc o3)) o4)).cell (World.block_lt_of_cell? _ _ b3)).trans b3
        have f5b4 := fun (o0 : Obj) (o1 : Obj) (o2 : Obj) (o3 : Obj) (o4 : Obj) => ((below_step (below_step (below_step (below_step (below_alloc (Below.refl w5.heap.size w5) o0) (below_alloc (Below.refl (w5.alloc o0).heap.size (w5.alloc o0)) o1)) (below_alloc (Below.refl ((w5.alloc o0).alloc o1).heap.size ((w5.alloc o0).alloc o1)) o2)) (below_alloc (Below.refl (((w5.alloc o0).alloc o1).alloc o2).heap.size (((w5.alloc o0).alloc o1).alloc o2)) o3)) (below_alloc (Below.refl ((((w5.alloc o0).alloc o1).alloc o2).alloc o3).heap.size ((((w5.alloc o0).alloc o1).alloc o2).alloc o3)) o4)).cell (World.block_lt_of_cell? _ _ b4)).trans b4
        go_upto_region 7 with (fail)
        clear f1a0 f1a1 f1a2 f1a3 f1a4 f1b0 f1b1 f1b2 f1b3 f1b4 f2a0 f2a1 f2a2 f2a3 f2a4 f2b0 f2b1 f2b2 f2b3 f2b4 f3a0 f3a1 f3a2 f3a3 f3a4 f3b0 f3b1 f3b2 f3b3 f3b4 f4a0 f4a1 f4a2 f4a3 f4a4 f4b0 f4b1 f4b2 f4b3 f4b4 f5a0 f5a1 f5a2 f5a3 f5a4 f5b0 f5b1 f5b2 f5b3 f5b4
        have CaT := Ca; have CbT := Cb
        have HBT := Lib.hid (Below.refl w5.heap.size w5)
        have cr0 := TreeFix.C1 (k24_mk w5 a (A4 := Aa) (c4 := ca) hla CaT.out)
        change Kd.C k24 (w5.alloc (Obj.cells #[.int .i64 a.f0, .string a.f1, .int .i64 a.f2, .int .i64 a.f3, .slice Aa a.f4.length ca] 24)) _ 1 [a] at cr0
        have hr := below_alloc (Below.refl w5.heap.size w5) (Obj.cells #[.int .i64 a.f0, .string a.f1, .int .i64 a.f2, .int .i64 a.f3, .slice Aa a.f4.length ca] 24)
        have sr0 := World.size_alloc w5 (Obj.cells #[.int .i64 a.f0, .string a.f1, .int .i64 a.f2, .int .i64 a.f3, .slice Aa a.f4.length ca] 24)
        generalize w5.alloc (Obj.cells #[.int .i64 a.f0, .string a.f1, .int .i64 a.f2, .int .i64 a.f3, .slice Aa a.f4.length ca] 24) = u0 at cr0 hr sr0 ⊢
        have CR0 := Lib.hid cr0
        clear cr0
        have nA := Lib.hid (Kd.C_below CaT.out hr); have nB := Lib.hid (Kd.C_below CbT.out hr); have nT := Lib.hid (below_step HBT.out hr)
        clear CaT CbT HBT hr 
        have CaT := nA; have CbT := nB; have HBT := nT
        clear nA nB nT 
        have cr1 := TreeFix.C2 (k24_mk u0 a (A4 := Aa) (c4 := ca) hla CaT.out) (k24_mk u0 b (A4 := Ab) (c4 := cb) hlb CbT.out)
        change Kd.C k24 (u0.alloc (Obj.cells #[.int .i64 a.f0, .string a.f1, .int .i64 a.f2, .int .i64 a.f3, .slice Aa a.f4.length ca, .int .i64 b.f0, .string b.f1, .int .i64 b.f2, .int .i64 b.f3, .slice Ab b.f4.length cb] 24)) _ 2 [a, b] at cr1
        have hr := below_alloc (Below.refl u0.heap.size u0) (Obj.cells #[.int .i64 a.f0, .string a.f1, .int .i64 a.f2, .int .i64 a.f3, .slice Aa a.f4.length ca, .int .i64 b.f0, .string b.f1, .int .i64 b.f2, .int .i64 b.f3, .slice Ab b.f4.length cb] 24)
        have sr1 := World.size_alloc u0 (Obj.cells #[.int .i64 a.f0, .string a.f1, .int .i64 a.f2, .int .i64 a.f3, .slice Aa a.f4.length ca, .int .i64 b.f0, .string b.f1, .int .i64 b.f2, .int .i64 b.f3, .slice Ab b.f4.length cb] 24)
        generalize u0.alloc (Obj.cells #[.int .i64 a.f0, .string a.f1, .int .i64 a.f2, .int .i64 a.f3, .slice Aa a.f4.length ca, .int .i64 b.f0, .string b.f1, .int .i64 b.f2, .int .i64 b.f3, .slice Ab b.f4.length cb] 24) = u1 at cr1 hr sr1 ⊢
        rw [sr0] at cr1
        have CR1 := Lib.hid cr1
        clear cr1
        have nA := Lib.hid (Kd.C_below CaT.out hr); have nB := Lib.hid (Kd.C_below CbT.out hr); have nT := Lib.hid (below_step HBT.out hr)
        have nR0 := Lib.hid (Kd.C_below CR0.out hr)
        clear CaT CbT HBT hr CR0
        have CaT := nA; have CbT := nB; have HBT := nT
        have CR0 := nR0
        clear nA nB nT nR0
        have cr2 := TreeFix.C2 (k24_mk u1 a (A4 := Aa) (c4 := ca) hla CaT.out) (k24_mk u1 b (A4 := Ab) (c4 := cb) hlb CbT.out)
        change Kd.C k24 (u1.alloc (Obj.cells #[.int .i64 a.f0, .string a.f1, .int .i64 a.f2, .int .i64 a.f3, .slice Aa a.f4.length ca, .int .i64 b.f0, .string b.f1, .int .i64 b.f2, .int .i64 b.f3, .slice Ab b.f4.length cb] 24)) _ 2 [a, b] at cr2
        have hr := below_alloc (Below.refl u1.heap.size u1) (Obj.cells #[.int .i64 a.f0, .string a.f1, .int .i64 a.f2, .int .i64 a.f3, .slice Aa a.f4.length ca, .int .i64 b.f0, .string b.f1, .int .i64 b.f2, .int .i64 b.f3, .slice Ab b.f4.length cb] 24)
        have sr2 := World.size_alloc u1 (Obj.cells #[.int .i64 a.f0, .string a.f1, .int .i64 a.f2, .int .i64 a.f3, .slice Aa a.f4.length ca, .int .i64 b.f0, .string b.f1, .int .i64 b.f2, .int .i64 b.f3, .slice Ab b.f4.length cb] 24)
        generalize u1.alloc (Obj.cells #[.int .i64 a.f0, .string a.f1, .int .i64 a.f2, .int .i64 a.f3, .slice Aa a.f4.length ca, .int .i64 b.f0, .string b.f1, .int .i64 b.f2, .int .i64 b.f3, .slice Ab b.f4.length cb] 24) = u2 at cr2 hr sr2 ⊢
        rw [sr1, sr0] at cr2
        have CR2 := Lib.hid cr2
        clear cr2
        have nA := Lib.hid (Kd.C_below CaT.out hr); have nB := Lib.hid (Kd.C_below CbT.out hr); have nT := Lib.hid (below_step HBT.out hr)
        have nR0 := Lib.hid (Kd.C_below CR0.out hr)
        have nR1 := Lib.hid (Kd.C_below CR1.out hr)
        clear CaT CbT HBT hr CR0 CR1
        have CaT := nA; have CbT := nB; have HBT := nT
        have CR0 := nR0
        have CR1 := nR1
        clear nA nB nT nR0 nR1
        have cr3 := TreeFix.C2 (k24_mk u2 a (A4 := Aa) (c4 := ca) hla CaT.out) (k24_mk u2 b (A4 := Ab) (c4 := cb) hlb CbT.out)
        change Kd.C k24 (u2.alloc (Obj.cells #[.int .i64 a.f0, .string a.f1, .int .i64 a.f2, .int .i64 a.f3, .slice Aa a.f4.length ca, .int .i64 b.f0, .string b.f1, .int .i64 b.f2, .int .i64 b.f3, .slice Ab b.f4.length cb] 24)) _ 2 [a, b] at cr3
        have hr := below_alloc (Below.refl u2.heap.size u2) (Obj.cells #[.int .i64 a.f0, .string a.f1, .int .i64 a.f2, .int .i64 a.f3, .slice Aa a.f4.length ca, .int .i64 b.f0, .string b.f1, .int .i64 b.f2, .int .i64 b.f3, .slice Ab b.f4.length cb] 24)
        have sr3 := World.size_alloc u2 (Obj.cells #[.int .i64 a.f0, .string a.f1, .int .i64 a.f2, .int .i64 a.f3, .slice Aa a.f4.length ca, .int .i64 b.f0, .string b.f1, .int .i64 b.f2, .int .i64 b.f3, .slice Ab b.f4.length cb] 24)
        generalize u2.alloc (Obj.cells #[.int .i64 a.f0, .string a.f1, .int .i64 a.f2, .int .i64 a.f3, .slice Aa a.f4.length ca, .int .i64 b.f0, .string b.f1, .int .i64 b.f2, .int .i64 b.f3, .slice Ab b.f4.length cb] 24) = u3 at cr3 hr sr3 ⊢
        rw [sr2, sr1, sr0] at cr3
        have CR3 := Lib.hid cr3
        clear cr3
        have nA := Lib.hid (Kd.C_below CaT.out hr); have nB := Lib.hid (Kd.C_below CbT.out hr); have nT := Lib.hid (below_step HBT.out hr)
        have nR0 := Lib.hid (Kd.C_below CR0.out hr)
        have nR1 := Lib.hid (Kd.C_below CR1.out hr)
        have nR2 := Lib.hid (Kd.C_below CR2.out hr)
        clear CaT CbT HBT hr CR0 CR1 CR2
        have CaT := nA; have CbT := nB; have HBT := nT
        have CR0 := nR0
        have CR1 := nR1
        have CR2 := nR2
        clear nA nB nT nR0 nR1 nR2
        have cr4 := TreeFix.C2 (k24_mk u3 a (A4 := Aa) (c4 := ca) hla CaT.out) (k24_mk u3 b (A4 := Ab) (c4 := cb) hlb CbT.out)
        change Kd.C k24 (u3.alloc (Obj.cells #[.int .i64 a.f0, .string a.f1, .int .i64 a.f2, .int .i64 a.f3, .slice Aa a.f4.length ca, .int .i64 b.f0, .string b.f1, .int .i64 b.f2, .int .i64 b.f3, .slice Ab b.f4.length cb] 24)) _ 2 [a, b] at cr4
        have hr := below_alloc (Below.refl u3.heap.size u3) (Obj.cells #[.int .i64 a.f0, .string a.f1, .int .i64 a.f2, .int .i64 a.f3, .slice Aa a.f4.length ca, .int .i64 b.f0, .string b.f1, .int .i64 b.f2, .int .i64 b.f3, .slice Ab b.f4.length cb] 24)
        have sr4 := World.size_alloc u3 (Obj.cells #[.int .i64 a.f0, .string a.f1, .int .i64 a.f2, .int .i64 a.f3, .slice Aa a.f4.length ca, .int .i64 b.f0, .string b.f1, .int .i64 b.f2, .int .i64 b.f3, .slice Ab b.f4.length cb] 24)
        generalize u3.alloc (Obj.cells #[.int .i64 a.f0, .string a.f1, .int .i64 a.f2, .int .i64 a.f3, .slice Aa a.f4.length ca, .int .i64 b.f0, .string b.f1, .int .i64 b.f2, .int .i64 b.f3, .slice Ab b.f4.length cb] 24) = u4 at cr4 hr sr4 ⊢
        rw [sr3, sr2, sr1, sr0] at cr4
        have CR4 := Lib.hid cr4
        clear cr4
        have nA := Lib.hid (Kd.C_below CaT.out hr); have nB := Lib.hid (Kd.C_below CbT.out hr); have nT := Lib.hid (below_step HBT.out hr)
        have nR0 := Lib.hid (Kd.C_below CR0.out hr)
        have nR1 := Lib.hid (Kd.C_below CR1.out hr)
        have nR2 := Lib.hid (Kd.C_below CR2.out hr)
        have nR3 := Lib.hid (Kd.C_below CR3.out hr)
        clear CaT CbT HBT hr CR0 CR1 CR2 CR3
        have CaT := nA; have CbT := nB; have HBT := nT
        have CR0 := nR0
        have CR1 := nR1
        have CR2 := nR2
        have CR3 := nR3
        clear nA nB nT nR0 nR1 nR2 nR3
        have cr5 := TreeFix.C2 (k24_mk u4 a (A4 := Aa) (c4 := ca) hla CaT.out) (k24_mk u4 b (A4 := Ab) (c4 := cb) hlb CbT.out)
        change Kd.C k24 (u4.alloc (Obj.cells #[.int .i64 a.f0, .string a.f1, .int .i64 a.f2, .int .i64 a.f3, .slice Aa a.f4.length ca, .int .i64 b.f0, .string b.f1, .int .i64 b.f2, .int .i64 b.f3, .slice Ab b.f4.length cb] 24)) _ 2 [a, b] at cr5
        have hr := below_alloc (Below.refl u4.heap.size u4) (Obj.cells #[.int .i64 a.f0, .string a.f1, .int .i64 a.f2, .int .i64 a.f3, .slice Aa a.f4.length ca, .int .i64 b.f0, .string b.f1, .int .i64 b.f2, .int .i64 b.f3, .slice Ab b.f4.length cb] 24)
        have sr5 := World.size_alloc u4 (Obj.cells #[.int .i64 a.f0, .string a.f1, .int .i64 a.f2, .int .i64 a.f3, .slice Aa a.f4.length ca, .int .i64 b.f0, .string b.f1, .int .i64 b.f2, .int .i64 b.f3, .slice Ab b.f4.length cb] 24)
        generalize u4.alloc (Obj.cells #[.int .i64 a.f0, .string a.f1, .int .i64 a.f2, .int .i64 a.f3, .slice Aa a.f4.length ca, .int .i64 b.f0, .string b.f1, .int .i64 b.f2, .int .i64 b.f3, .slice Ab b.f4.length cb] 24) = u5 at cr5 hr sr5 ⊢
        rw [sr4, sr3, sr2, sr1, sr0] at cr5
        have CR5 := Lib.hid cr5
        clear cr5
        have nA := Lib.hid (Kd.C_below CaT.out hr); have nB := Lib.hid (Kd.C_below CbT.out hr); have nT := Lib.hid (below_step HBT.out hr)
        have nR0 := Lib.hid (Kd.C_below CR0.out hr)
        have nR1 := Lib.hid (Kd.C_below CR1.out hr)
        have nR2 := Lib.hid (Kd.C_below CR2.out hr)
        have nR3 := Lib.hid (Kd.C_below CR3.out hr)
        have nR4 := Lib.hid (Kd.C_below CR4.out hr)
        clear CaT CbT HBT hr CR0 CR1 CR2 CR3 CR4
        have CaT := nA; have CbT := nB; have HBT := nT
        have CR0 := nR0
        have CR1 := nR1
        have CR2 := nR2
        have CR3 := nR3
        have CR4 := nR4
        clear nA nB nT nR0 nR1 nR2 nR3 nR4
        have cr6 := Crow (W := u5) (lst s a b) [[.int .i64 2, .string s, .int .i64 0, .int .i64 0, .slice (some ⟨w5.heap.size, 0, none⟩) 1 1], [.int .i64 3, .string ⟨#[]⟩, .int .i64 0, .int .i64 0, .slice (some ⟨w5.heap.size + 1, 0, none⟩) 2 2], [.int .i64 4, .string s, .int .i64 0, .int .i64 0, .slice (some ⟨w5.heap.size + 1 + 1, 0, none⟩) 2 2], [.int .i64 5, .string s, .int .i64 0, .int .i64 0, .slice (some ⟨w5.heap.size + 1 + 1 + 1, 0, none⟩) 2 2], [.int .i64 6, .string ⟨#[65, 98]⟩, .int .i64 0, .int .i64 0, .slice (some ⟨w5.heap.size + 1 + 1 + 1 + 1, 0, none⟩) 2 2], [.int .i64 10, .string ⟨#[42]⟩, .int .i64 0, .int .i64 0, .slice (some ⟨w5.heap.size + 1 + 1 + 1 + 1 + 1, 0, none⟩) 2 2]] (by show 0 < 6; omega) (by show 6 ≤ 1000000; omega) (by
          intro j x hx
          match j, hx with
          | 0, hx => exact ⟨_, rfl, by obtain rfl : bL s a = x := (by simpa [lst] using hx); exact k24_mk u5 (bL s a) (A4 := some ⟨w5.heap.size, 0, none⟩) (c4 := 1) (Nat.le_refl _) CR0.out⟩
          | 1, hx => exact ⟨_, rfl, by obtain rfl : bA a b = x := (by simpa [lst] using hx); exact k24_mk u5 (bA a b) (A4 := some ⟨w5.heap.size + 1, 0, none⟩) (c4 := 2) (Nat.le_refl _) CR1.out⟩
          | 2, hx => exact ⟨_, rfl, by obtain rfl : bT s a b = x := (by simpa [lst] using hx); exact k24_mk u5 (bT s a b) (A4 := some ⟨w5.heap.size + 1 + 1, 0, none⟩) (c4 := 2) (Nat.le_refl _) CR2.out⟩
          | 3, hx => exact ⟨_, rfl, by obtain rfl : bR s a b = x := (by simpa [lst] using hx); exact k24_mk u5 (bR s a b) (A4 := some ⟨w5.heap.size + 1 + 1 + 1, 0, none⟩) (c4 := 2) (Nat.le_refl _) CR3.out⟩
          | 4, hx => exact ⟨_, rfl, by obtain rfl : bC a b = x := (by simpa [lst] using hx); exact k24_mk u5 (bC a b) (A4 := some ⟨w5.heap.size + 1 + 1 + 1 + 1, 0, none⟩) (c4 := 2) (Nat.le_refl _) CR4.out⟩
          | 5, hx => exact ⟨_, rfl, by obtain rfl : bO a b = x := (by simpa [lst] using hx); exact k24_mk u5 (bO a b) (A4 := some ⟨w5.heap.size + 1 + 1 + 1 + 1 + 1, 0, none⟩) (c4 := 2) (Nat.le_refl _) CR5.out⟩
          | j + 6, hx => simp [lst] at hx) (by intro cs hcs; simp only [List.mem_cons, List.mem_nil_iff, or_false] at hcs; rcases hcs with rfl | rfl | rfl | rfl | rfl | rfl <;> rfl)
        change Kd.C k24 (u5.alloc (Obj.cells #[.int .i64 2, .string s, .int .i64 0, .int .i64 0, .slice (some ⟨w5.heap.size, 0, none⟩) 1 1, .int .i64 3, .string ⟨#[]⟩, .int .i64 0, .int .i64 0, .slice (some ⟨w5.heap.size + 1, 0, none⟩) 2 2, .int .i64 4, .string s, .int .i64 0, .int .i64 0, .slice (some ⟨w5.heap.size + 1 + 1, 0, none⟩) 2 2, .int .i64 5, .string s, .int .i64 0, .int .i64 0, .slice (some ⟨w5.heap.size + 1 + 1 + 1, 0, none⟩) 2 2, .int .i64 6, .string ⟨#[65, 98]⟩, .int .i64 0, .int .i64 0, .slice (some ⟨w5.heap.size + 1 + 1 + 1 + 1, 0, none⟩) 2 2, .int .i64 10, .string ⟨#[42]⟩, .int .i64 0, .int .i64 0, .slice (some ⟨w5.heap.size + 1 + 1 + 1 + 1 + 1, 0, none⟩) 2 2] 24)) _ 6 (lst s a b) at cr6
        have hr := below_alloc (Below.refl u5.heap.size u5) (Obj.cells #[.int .i64 2, .string s, .int .i64 0, .int .i64 0, .slice (some ⟨w5.heap.size, 0, none⟩) 1 1, .int .i64 3, .string ⟨#[]⟩, .int .i64 0, .int .i64 0, .slice (some ⟨w5.heap.size + 1, 0, none⟩) 2 2, .int .i64 4, .string s, .int .i64 0, .int .i64 0, .slice (some ⟨w5.heap.size + 1 + 1, 0, none⟩) 2 2, .int .i64 5, .string s, .int .i64 0, .int .i64 0, .slice (some ⟨w5.heap.size + 1 + 1 + 1, 0, none⟩) 2 2, .int .i64 6, .string ⟨#[65, 98]⟩, .int .i64 0, .int .i64 0, .slice (some ⟨w5.heap.size + 1 + 1 + 1 + 1, 0, none⟩) 2 2, .int .i64 10, .string ⟨#[42]⟩, .int .i64 0, .int .i64 0, .slice (some ⟨w5.heap.size + 1 + 1 + 1 + 1 + 1, 0, none⟩) 2 2] 24)
        rw [sr5, sr4, sr3, sr2, sr1, sr0] at cr6
        generalize u5.alloc (Obj.cells #[.int .i64 2, .string s, .int .i64 0, .int .i64 0, .slice (some ⟨w5.heap.size, 0, none⟩) 1 1, .int .i64 3, .string ⟨#[]⟩, .int .i64 0, .int .i64 0, .slice (some ⟨w5.heap.size + 1, 0, none⟩) 2 2, .int .i64 4, .string s, .int .i64 0, .int .i64 0, .slice (some ⟨w5.heap.size + 1 + 1, 0, none⟩) 2 2, .int .i64 5, .string s, .int .i64 0, .int .i64 0, .slice (some ⟨w5.heap.size + 1 + 1 + 1, 0, none⟩) 2 2, .int .i64 6, .string ⟨#[65, 98]⟩, .int .i64 0, .int .i64 0, .slice (some ⟨w5.heap.size + 1 + 1 + 1 + 1, 0, none⟩) 2 2, .int .i64 10, .string ⟨#[42]⟩, .int .i64 0, .int .i64 0, .slice (some ⟨w5.heap.size + 1 + 1 + 1 + 1 + 1, 0, none⟩) 2 2] 24) = ue at cr6 hr ⊢
        have hb := below_step HBT.out hr
        clear hr HBT CaT CbT CR0 CR1 CR2 CR3 CR4 CR5 sr0 sr1 sr2 sr3 sr4 sr5
        have n0_ := Lib.hid (below_step HB.out hb)
        have nCa := Lib.hid (Kd.C_below Ca.out hb); have nBa := Lib.hid (blk_below Ba.out hb)
        have nCb := Lib.hid (Kd.C_below Cb.out hb); have nBb := Lib.hid (blk_below Bb.out hb)
        clear HB hb Ca Ba Cb Bb a0 a1 a2 a3 a4 b0 b1 b2 b3 b4
        have HB := n0_
        have Ca := nCa; have Ba := nBa
        have Cb := nCb; have Bb := nBb
        clear n0_ nCa nBa nCb nBb
        have a0 := blk_cell Ba.out 0
        have a1 := blk_cell Ba.out 1
        have a2 := blk_cell Ba.out 2
        have a3 := blk_cell Ba.out 3
        have a4 := blk_cell Ba.out 4
        have b0 := blk_cell Bb.out 0
        have b1 := blk_cell Bb.out 1
        have b2 := blk_cell Bb.out 2
        have b3 := blk_cell Bb.out 3
        have b4 := blk_cell Bb.out 4
        simp only [List.getElem?_toArray, List.getElem?_cons_zero, List.getElem?_cons_succ] at a0 a1 a2 a3 a4 b0 b1 b2 b3 b4
        generalize w5.heap.size = g5 at *
        generalize (⟨g5 + 1 + 1 + 1 + 1 + 1 + 1, 0, none⟩ : Addr) = adq at cr6 ⊢
        have Cq := Lib.hid cr6
        clear cr6
        obtain ⟨pa, PA⟩ : ∃ q, Hid (whole a = q) := ⟨_, Lib.hid rfl⟩
        obtain ⟨pb, PB⟩ : ∃ q, Hid (whole b = q) := ⟨_, Lib.hid rfl⟩
        go_wp2_with fail
        go_loopw [10] (fun i wr => ∃ k : Nat, k ≤ 6 ∧ i = .int .i64 k ∧ Hid (Below ue.heap.size ue wr)) (fun i _ => 6 - (intOf i).toNat)
        case atStart => exact ⟨0, by omega, rfl, Lib.hid (Below.refl _ _)⟩
        case round =>
          obtain ⟨k, hk, rfl, HBR⟩ := hrel
          have hb := HBR.out
          have n0_ := Lib.hid (below_step HB.out hb)
          have nCa := Lib.hid (Kd.C_below Ca.out hb); have nBa := Lib.hid (blk_below Ba.out hb)
          have nCb := Lib.hid (Kd.C_below Cb.out hb); have nBb := Lib.hid (blk_below Bb.out hb)
          clear HB hb Ca Ba Cb Bb a0 a1 a2 a3 a4 b0 b1 b2 b3 b4
          have HB := n0_
          have Ca := nCa; have Ba := nBa
          have Cb := nCb; have Bb := nBb
          clear n0_ nCa nBa nCb nBb
          have a0 := blk_cell Ba.out 0
          have a1 := blk_cell Ba.out 1
          have a2 := blk_cell Ba.out 2
          have a3 := blk_cell Ba.out 3
          have a4 := blk_cell Ba.out 4
          have b0 := blk_cell Bb.out 0
          have b1 := blk_cell Bb.out 1
          have b2 := blk_cell Bb.out 2
          have b3 := blk_cell Bb.out 3
          have b4 := blk_cell Bb.out 4
          simp only [List.getElem?_toArray, List.getElem?_cons_zero, List.getElem?_cons_succ] at a0 a1 a2 a3 a4 b0 b1 b2 b3 b4
          have nq := Lib.hid (Kd.C_below Cq.out HBR.out)
          clear Cq
          have Cq := nq
          clear nq
          have hl6 : (lst s a b).length = 6 := rfl
          by_cases hlt : k < 6
          · obtain ⟨ad, A3, c3, he, x0, x1, x2, x3, x4, hl3, hc3⟩ := at_T24 Cq.out (k : Int) (by omega) (by omega)
            cases he
            simp only [Int.toNat_natCast] at x0 x1 x2 x3 x4
            have hrk : rd_T24 (lst s a b) (k : Int) = (lst s a b)[k]'(by rw [hl6]; exact hlt) := by
              unfold rd_T24
              rw [Int.toNat_natCast, List.getD_eq_getElem?_getD, List.getElem?_eq_getElem (by rw [hl6]; exact hlt)]; rfl
            rw [hrk] at x0 x1 x2 x3 x4 hl3 hc3
            have hmem := List.getElem_mem (l := lst s a b) (n := k) (by rw [hl6]; exact hlt)
            have hwl := w_lst s a b k (by rw [hl6]; exact hlt)
            have hyl := len_lst s a b k (by rw [hl6]; exact hlt)
            have hsy := size_lst s a b _ hmem; have hhy := height_lst s a b _ hmem; have hwy := wt_lst s a b _ hmem
            rw [PA.out, PB.out, VN.out] at hwl
            generalize (lst s a b)[k]'(by rw [hl6]; exact hlt) = y at *
            have WL := Lib.hid hwl; have YL := Lib.hid hyl; have Cy := Lib.hid hc3
            clear hrk hmem hwl hyl hc3
            have hwy2 : wt y ≤ 1000000000 := by have := QS.out; omega
            go_upto_region 10 with (fail)
            have hby := blk_new wr (Obj.cells #[.int .i64 y.f0, .string y.f1, .int .i64 y.f2, .int .i64 y.f3, .slice A3 y.f4.length c3] 24)
            have hb := below_alloc (Below.refl wr.heap.size wr) (Obj.cells #[.int .i64 y.f0, .string y.f1, .int .i64 y.f2, .int .i64 y.f3, .slice A3 y.f4.length c3] 24)
            generalize wr.alloc (Obj.cells #[.int .i64 y.f0, .string y.f1, .int .i64 y.f2, .int .i64 y.f3, .slice A3 y.f4.length c3] 24) = wy at hby hb ⊢
            have By := Lib.hid hby
            have n4_ := Lib.hid (below_step HBR.out hb); have n5_ := Lib.hid (Kd.C_below Cy.out hb)
            clear HBR Cy hby x0 x1 x2 x3 x4
            have HBR := n4_; have Cy := n5_
            clear n4_ n5_
            have y0 := blk_cell By.out 0; have y1 := blk_cell By.out 1; have y2 := blk_cell By.out 2; have y3 := blk_cell By.out 3; have y4 := blk_cell By.out 4
            simp only [List.getElem?_toArray, List.getElem?_cons_zero, List.getElem?_cons_succ] at y0 y1 y2 y3 y4
            have n0_ := Lib.hid (below_step HB.out hb)
            have nCa := Lib.hid (Kd.C_below Ca.out hb); have nBa := Lib.hid (blk_below Ba.out hb)
            have nCb := Lib.hid (Kd.C_below Cb.out hb); have nBb := Lib.hid (blk_below Bb.out hb)
            clear HB hb Ca Ba Cb Bb a0 a1 a2 a3 a4 b0 b1 b2 b3 b4
            have HB := n0_
            have Ca := nCa; have Ba := nBa
            have Cb := nCb; have Bb := nBb
            clear n0_ nCa nBa nCb nBb
            have a0 := blk_cell Ba.out 0
            have a1 := blk_cell Ba.out 1
            have a2 := blk_cell Ba.out 2
            have a3 := blk_cell Ba.out 3
            have a4 := blk_cell Ba.out 4
            have b0 := blk_cell Bb.out 0
            have b1 := blk_cell Bb.out 1
            have b2 := blk_cell Bb.out 2
            have b3 := blk_cell Bb.out 3
            have b4 := blk_cell Bb.out 4
            simp only [List.getElem?_toArray, List.getElem?_cons_zero, List.getElem?_cons_succ] at a0 a1 a2 a3 a4 b0 b1 b2 b3 b4
            go_wp2_with fail
            refine ((TreeMay.whole_any a (by omega) _ _ _ Ca.out hla (HT.out.on HB.out).here).mono fun e w' h => (⟨h.1.trans (by rw [PA.out]), h.2⟩ : e = .returned (.bool pa) ∧ _)).mono ?_
            rintro e w6 ⟨rfl, hb⟩
            have n3_ := Lib.hid (blk_below By.out hb); have n4_ := Lib.hid (below_step HBR.out hb); have n5_ := Lib.hid (Kd.C_below Cy.out hb)
            clear By HBR Cy y0 y1 y2 y3 y4
            have By := n3_; have HBR := n4_; have Cy := n5_
            clear n3_ n4_ n5_
            have y0 := blk_cell By.out 0; have y1 := blk_cell By.out 1; have y2 := blk_cell By.out 2; have y3 := blk_cell By.out 3; have y4 := blk_cell By.out 4
            simp only [List.getElem?_toArray, List.getElem?_cons_zero, List.getElem?_cons_succ] at y0 y1 y2 y3 y4
            have n0_ := Lib.hid (below_step HB.out hb)
            have nCa := Lib.hid (Kd.C_below Ca.out hb); have nBa := Lib.hid (blk_below Ba.out hb)
            have nCb := Lib.hid (Kd.C_below Cb.out hb); have nBb := Lib.hid (blk_below Bb.out hb)
            clear HB hb Ca Ba Cb Bb a0 a1 a2 a3 a4 b0 b1 b2 b3 b4
            have HB := n0_
            have Ca := nCa; have Ba := nBa
            have Cb := nCb; have Bb := nBb
            clear n0_ nCa nBa nCb nBb
            have a0 := blk_cell Ba.out 0
            have a1 := blk_cell Ba.out 1
            have a2 := blk_cell Ba.out 2
            have a3 := blk_cell Ba.out 3
            have a4 := blk_cell Ba.out 4
            have b0 := blk_cell Bb.out 0
            have b1 := blk_cell Bb.out 1
            have b2 := blk_cell Bb.out 2
            have b3 := blk_cell Bb.out 3
            have b4 := blk_cell Bb.out 4
            simp only [List.getElem?_toArray, List.getElem?_cons_zero, List.getElem?_cons_succ] at a0 a1 a2 a3 a4 b0 b1 b2 b3 b4
            cases pa with
            | false =>
              go_upto_region 11 with (fail)
              have HR : Hid (whole y = false) := Lib.hid (by rw [WL.out, Bool.false_and, Bool.false_and]; (try simp))
              have z1 : decide ((size y : Int) ≤ (size a : Int)) = false := decide_eq_false (by omega)
              have z1b : decide (size y ≤ size a) = false := decide_eq_false (by omega)
              have z2 : decide ((height y : Int) ≤ (height a : Int)) = false := decide_eq_false (by omega)
              have z2b : decide (height y ≤ height a) = false := decide_eq_false (by omega)
              refine wp_region_held_drew (S := (fun w' => w'.cell? ⟨w.heap.size, 0, none⟩ = some (.int .i64 a.f0) ∧ w'.cell? ⟨w.heap.size, 1, none⟩ = some (.string a.f1) ∧ w'.cell? ⟨w.heap.size, 2, none⟩ = some (.int .i64 a.f2) ∧ w'.cell? ⟨w.heap.size, 3, none⟩ = some (.int .i64 a.f3) ∧ w'.cell? ⟨w.heap.size, 4, none⟩ = some (.slice Aa a.f4.length ca) ∧ w'.cell? ⟨wr.heap.size, 0, none⟩ = some (.int .i64 y.f0) ∧ w'.cell? ⟨wr.heap.size, 1, none⟩ = some (.string y.f1) ∧ w'.cell? ⟨wr.heap.size, 2, none⟩ = some (.int .i64 y.f2) ∧ w'.cell? ⟨wr.heap.size, 3, none⟩ = some (.int .i64 y.f3) ∧ w'.cell? ⟨wr.heap.size, 4, none⟩ = some (.slice A3 y.f4.length c3) ∧ Below w6.heap.size w6 w')) (by kernel_rfl) (by (try dsimp only); exact TreeFix.keep10 ⟨a0, a1, a2, a3, a4, y0, y1, y2, y3, y4, Below.refl _ _⟩ (below_drew1 (Below.refl _ _))) (fun hHeld => ?_)
              change wpAnyH _ _ _ _ _ 29 #[false, false, false, false, false, false, false, false, false, false, false, false, false, false, false, false, false, false, false, false, false, false, false, false, false, false, false, false, false] _ _
              refine wpAnyH_take (i := 0) (v := ?_) rfl (by kernel_rfl) (by kernel_rfl) (by kernel_rfl) (fun _ _ _ h => h) (Or.inl ⟨by kernel_rfl, ?_⟩) (by assumption) ?_
              rotate_left 1
              · (intro w hSw; (try dsimp only at hSw); (try simp only [List.getElem_toArray, List.getElem_cons_succ, List.getElem_cons_zero]); go_simp; (try with_reducible rfl))
              (try simp only [Act.put, List.getElem_toArray, List.getElem_cons_succ, List.getElem_cons_zero, List.setIfInBounds_toArray, List.set_cons_zero, List.set_cons_succ])
              refine wpAnyH_take (i := 2) (v := ?_) rfl (by kernel_rfl) (by kernel_rfl) (by kernel_rfl) (fun _ _ _ h => h) (Or.inl ⟨by kernel_rfl, ?_⟩) (by assumption) ?_
              rotate_left 1
              · (intro w hSw; (try dsimp only at hSw); (try simp only [List.getElem_toArray, List.getElem_cons_succ, List.getElem_cons_zero]); go_simp; (try with_reducible rfl))
              (try simp only [Act.put, List.getElem_toArray, List.getElem_cons_succ, List.getElem_cons_zero, List.setIfInBounds_toArray, List.set_cons_zero, List.set_cons_succ])
              refine wpAnyH_ready (rs := [1]) (by kernel_rfl) (by simp) ?_
              refine AllReadyH.cons rfl (fun K hK => ?_) AllReadyH.nil
              (try simp only [List.getElem_toArray, List.getElem_cons_succ, List.getElem_cons_zero])
              go_simp
              refine ((TreeMay.whole_any y hwy2 _ _ _ (Kd.C_below Cy.out hHeld.2.2.2.2.2.2.2.2.2.2) hl3 (HT.out.on (below_step HB.out hHeld.2.2.2.2.2.2.2.2.2.2)).here).mono fun e w' h => (⟨h.1.trans (by rw [HR.out]), h.2⟩ : e = .returned (.bool false) ∧ _)).mono ?_
              rintro e w9 ⟨rfl, hb⟩
              simp only []
              refine hK.out _ _ ?_ (fun hHeld => ?_)
              · (try dsimp only); exact TreeFix.keep10 hHeld hb
              clear hK K
              (try simp only [Act.put, List.getElem_toArray, List.getElem_cons_succ, List.getElem_cons_zero, List.setIfInBounds_toArray, List.set_cons_zero, List.set_cons_succ])
              refine wpAnyH_take (i := 3) (v := ?_) rfl (by kernel_rfl) (by kernel_rfl) (by kernel_rfl) (fun _ _ _ h => h) (Or.inl ⟨by kernel_rfl, ?_⟩) (by assumption) ?_
              rotate_left 1
              · (intro w hSw; (try dsimp only at hSw); (try simp only [List.getElem_toArray, List.getElem_cons_succ, List.getElem_cons_zero]); go_simp; (try with_reducible rfl))
              (try simp only [Act.put, List.getElem_toArray, List.getElem_cons_succ, List.getElem_cons_zero, List.setIfInBounds_toArray, List.set_cons_zero, List.set_cons_succ])
              refine wpAnyH_take (i := 4) (v := undef) rfl (by kernel_rfl) (by kernel_rfl) (by kernel_rfl) (fun _ _ _ h => h) (Or.inr ⟨by rfl, rfl⟩) (by assumption) ?_
              (try simp only [Act.put, List.getElem_toArray, List.getElem_cons_succ, List.getElem_cons_zero, List.setIfInBounds_toArray, List.set_cons_zero, List.set_cons_succ])
              refine wpAnyH_take (i := 5) (v := undef) rfl (by kernel_rfl) (by kernel_rfl) (by kernel_rfl) (fun _ _ _ h => h) (Or.inr ⟨by rfl, rfl⟩) (by assumption) ?_
              (try simp only [Act.put, List.getElem_toArray, List.getElem_cons_succ, List.getElem_cons_zero, List.setIfInBounds_toArray, List.set_cons_zero, List.set_cons_succ])
              refine wpAnyH_take (i := 6) (v := undef) rfl (by kernel_rfl) (by kernel_rfl) (by kernel_rfl) (fun _ _ _ h => h) (Or.inr ⟨by rfl, rfl⟩) (by assumption) ?_
              (try simp only [Act.put, List.getElem_toArray, List.getElem_cons_succ, List.getElem_cons_zero, List.setIfInBounds_toArray, List.set_cons_zero, List.set_cons_succ])
              refine wpAnyH_take (i := 7) (v := undef) rfl (by kernel_rfl) (by kernel_rfl) (by kernel_rfl) (fun _ _ _ h => h) (Or.inr ⟨by rfl, rfl⟩) (by assumption) ?_
              (try simp only [Act.put, List.getElem_toArray, List.getElem_cons_succ, List.getElem_cons_zero, List.setIfInBounds_toArray, List.set_cons_zero, List.set_cons_succ])
              refine wpAnyH_take (i := 8) (v := undef) rfl (by kernel_rfl) (by kernel_rfl) (by kernel_rfl) (fun _ _ _ h => h) (Or.inr ⟨by rfl, rfl⟩) (by assumption) ?_
              (try simp only [Act.put, List.getElem_toArray, List.getElem_cons_succ, List.getElem_cons_zero, List.setIfInBounds_toArray, List.set_cons_zero, List.set_cons_succ])
              refine wpAnyH_take (i := 9) (v := undef) rfl (by kernel_rfl) (by kernel_rfl) (by kernel_rfl) (fun _ _ _ h => h) (Or.inr ⟨by rfl, rfl⟩) (by assumption) ?_
              (try simp only [Act.put, List.getElem_toArray, List.getElem_cons_succ, List.getElem_cons_zero, List.setIfInBounds_toArray, List.set_cons_zero, List.set_cons_succ])
              refine wpAnyH_take (i := 10) (v := undef) rfl (by kernel_rfl) (by kernel_rfl) (by kernel_rfl) (fun _ _ _ h => h) (Or.inr ⟨by rfl, rfl⟩) (by assumption) ?_
              (try simp only [Act.put, List.getElem_toArray, List.getElem_cons_succ, List.getElem_cons_zero, List.setIfInBounds_toArray, List.set_cons_zero, List.set_cons_succ])
              refine wpAnyH_take (i := 11) (v := undef) rfl (by kernel_rfl) (by kernel_rfl) (by kernel_rfl) (fun _ _ _ h => h) (Or.inr ⟨by rfl, rfl⟩) (by assumption) ?_
              (try simp only [Act.put, List.getElem_toArray, List.getElem_cons_succ, List.getElem_cons_zero, List.setIfInBounds_toArray, List.set_cons_zero, List.set_cons_succ])
              refine wpAnyH_take (i := 12) (v := undef) rfl (by kernel_rfl) (by kernel_rfl) (by kernel_rfl) (fun _ _ _ h => h) (Or.inr ⟨by rfl, rfl⟩) (by assumption) ?_
              (try simp only [Act.put, List.getElem_toArray, List.getElem_cons_succ, List.getElem_cons_zero, List.setIfInBounds_toArray, List.set_cons_zero, List.set_cons_succ])
              refine wpAnyH_take (i := 13) (v := ?_) rfl (by kernel_rfl) (by kernel_rfl) (by kernel_rfl) (fun _ _ _ h => h) (Or.inl ⟨by kernel_rfl, ?_⟩) (by assumption) ?_
              rotate_left 1
              · (intro w hSw; (try dsimp only at hSw); (try simp only [List.getElem_toArray, List.getElem_cons_succ, List.getElem_cons_zero]); go_simp; (try with_reducible rfl))
              (try simp only [Act.put, List.getElem_toArray, List.getElem_cons_succ, List.getElem_cons_zero, List.setIfInBounds_toArray, List.set_cons_zero, List.set_cons_succ])
              refine wpAnyH_take (i := 14) (v := ?_) rfl (by kernel_rfl) (by kernel_rfl) (by kernel_rfl) (fun _ _ _ h => h) (Or.inl ⟨by kernel_rfl, ?_⟩) (by assumption) ?_
              rotate_left 1
              · (intro w hSw; (try dsimp only at hSw); (try simp only [List.getElem_toArray, List.getElem_cons_succ, List.getElem_cons_zero]); go_simp; (try with_reducible rfl))
              (try simp only [Act.put, List.getElem_toArray, List.getElem_cons_succ, List.getElem_cons_zero, List.setIfInBounds_toArray, List.set_cons_zero, List.set_cons_succ])
              refine wpAnyH_take (i := 15) (v := ?_) rfl (by kernel_rfl) (by kernel_rfl) (by kernel_rfl) (fun _ _ _ h => h) (Or.inl ⟨by kernel_rfl, ?_⟩) (by assumption) ?_
              rotate_left 1
              · (intro w hSw; (try dsimp only at hSw); (try simp only [List.getElem_toArray, List.getElem_cons_succ, List.getElem_cons_zero]); go_simp; (try with_reducible rfl))
              (try simp only [Act.put, List.getElem_toArray, List.getElem_cons_succ, List.getElem_cons_zero, List.setIfInBounds_toArray, List.set_cons_zero, List.set_cons_succ])
              refine wpAnyH_take (i := 16) (v := ?_) rfl (by kernel_rfl) (by kernel_rfl) (by kernel_rfl) (fun _ _ _ h => h) (Or.inl ⟨by kernel_rfl, ?_⟩) (by assumption) ?_
              rotate_left 1
              · (intro w hSw; (try dsimp only at hSw); (try simp only [List.getElem_toArray, List.getElem_cons_succ, List.getElem_cons_zero]); go_simp; (try with_reducible rfl))
              (try simp only [Act.put, List.getElem_toArray, List.getElem_cons_succ, List.getElem_cons_zero, List.setIfInBounds_toArray, List.set_cons_zero, List.set_cons_succ])
              refine wpAnyH_take (i := 18) (v := ?_) rfl (by kernel_rfl) (by kernel_rfl) (by kernel_rfl) (fun _ _ _ h => h) (Or.inl ⟨by kernel_rfl, ?_⟩) (by assumption) ?_
              rotate_left 1
              · (intro w hSw; (try dsimp only at hSw); (try simp only [List.getElem_toArray, List.getElem_cons_succ, List.getElem_cons_zero]); go_simp; (try with_reducible rfl))
              (try simp only [Act.put, List.getElem_toArray, List.getElem_cons_succ, List.getElem_cons_zero, List.setIfInBounds_toArray, List.set_cons_zero, List.set_cons_succ])
              refine wpAnyH_ready (rs := [17]) (by kernel_rfl) (by simp) ?_
              refine AllReadyH.cons rfl (fun K hK => ?_) AllReadyH.nil
              (try simp only [List.getElem_toArray, List.getElem_cons_succ, List.getElem_cons_zero])
              go_simp
              obtain ⟨kk, hkk⟩ := (TreeEv.size_ev _ y (Nat.le_refl _) (by omega)).rounds
              refine (tree_Size.calls kk y.f0 y.f1 y.f2 y.f3 _ _ y.f4 _ _ (Kd.C_below Cy.out hHeld.2.2.2.2.2.2.2.2.2.2) hl3 hkk).mono ?_
              rintro e w9 ⟨rfl, hb⟩
              clear hkk
              simp only []
              refine hK.out _ _ ?_ (fun hHeld => ?_)
              · (try dsimp only); exact TreeFix.keep10 hHeld hb
              clear hK K
              (try simp only [Act.put, List.getElem_toArray, List.getElem_cons_succ, List.getElem_cons_zero, List.setIfInBounds_toArray, List.set_cons_zero, List.set_cons_succ])
              refine wpAnyH_ready (rs := [19]) (by kernel_rfl) (by simp) ?_
              refine AllReadyH.cons rfl (fun K hK => ?_) AllReadyH.nil
              (try simp only [List.getElem_toArray, List.getElem_cons_succ, List.getElem_cons_zero])
              go_simp
              obtain ⟨kk, hkk⟩ := (TreeEv.size_ev _ a (Nat.le_refl _) (by omega)).rounds
              refine (tree_Size.calls kk a.f0 a.f1 a.f2 a.f3 _ _ a.f4 _ _ (Kd.C_below Ca.out hHeld.2.2.2.2.2.2.2.2.2.2) hla hkk).mono ?_
              rintro e w9 ⟨rfl, hb⟩
              clear hkk
              simp only []
              refine hK.out _ _ ?_ (fun hHeld => ?_)
              · (try dsimp only); exact TreeFix.keep10 hHeld hb
              clear hK K
              (try simp only [Act.put, List.getElem_toArray, List.getElem_cons_succ, List.getElem_cons_zero, List.setIfInBounds_toArray, List.set_cons_zero, List.set_cons_succ])
              refine wpAnyH_take (i := 20) (v := ?_) rfl (by kernel_rfl) (by kernel_rfl) (by kernel_rfl) (fun _ _ _ h => h) (Or.inl ⟨by kernel_rfl, ?_⟩) (by assumption) ?_
              rotate_left 1
              · (intro w hSw; (try dsimp only at hSw); (try simp only [List.getElem_toArray, List.getElem_cons_succ, List.getElem_cons_zero]); go_simp; (try with_reducible rfl))
              (try simp only [Act.put, List.getElem_toArray, List.getElem_cons_succ, List.getElem_cons_zero, List.setIfInBounds_toArray, List.set_cons_zero, List.set_cons_succ])
              refine wpAnyH_take (i := 21) (v := ?_) rfl (by kernel_rfl) (by kernel_rfl) (by kernel_rfl) (fun _ _ _ h => h) (Or.inl ⟨by kernel_rfl, ?_⟩) (by assumption) ?_
              rotate_left 1
              · (intro w hSw; (try dsimp only at hSw); (try simp only [List.getElem_toArray, List.getElem_cons_succ, List.getElem_cons_zero]); go_simp; (try with_reducible rfl))
              (try simp only [Act.put, List.getElem_toArray, List.getElem_cons_succ, List.getElem_cons_zero, List.setIfInBounds_toArray, List.set_cons_zero, List.set_cons_succ])
              refine wpAnyH_take (i := 22) (v := ?_) rfl (by kernel_rfl) (by kernel_rfl) (by kernel_rfl) (fun _ _ _ h => h) (Or.inl ⟨by kernel_rfl, ?_⟩) (by assumption) ?_
              rotate_left 1
              · (intro w hSw; (try dsimp only at hSw); (try simp only [List.getElem_toArray, List.getElem_cons_succ, List.getElem_cons_zero]); go_simp; (try with_reducible rfl))
              (try simp only [Act.put, List.getElem_toArray, List.getElem_cons_succ, List.getElem_cons_zero, List.setIfInBounds_toArray, List.set_cons_zero, List.set_cons_succ])
              refine wpAnyH_take (i := 23) (v := ?_) rfl (by kernel_rfl) (by kernel_rfl) (by kernel_rfl) (fun _ _ _ h => h) (Or.inl ⟨by kernel_rfl, ?_⟩) (by assumption) ?_
              rotate_left 1
              · (intro w hSw; (try dsimp only at hSw); (try simp only [List.getElem_toArray, List.getElem_cons_succ, List.getElem_cons_zero]); go_simp; (try with_reducible rfl))
              (try simp only [Act.put, List.getElem_toArray, List.getElem_cons_succ, List.getElem_cons_zero, List.setIfInBounds_toArray, List.set_cons_zero, List.set_cons_succ])
              refine wpAnyH_take (i := 25) (v := ?_) rfl (by kernel_rfl) (by kernel_rfl) (by kernel_rfl) (fun _ _ _ h => h) (Or.inl ⟨by kernel_rfl, ?_⟩) (by assumption) ?_
              rotate_left 1
              · (intro w hSw; (try dsimp only at hSw); (try simp only [List.getElem_toArray, List.getElem_cons_succ, List.getElem_cons_zero]); go_simp; (try with_reducible rfl))
              (try simp only [Act.put, List.getElem_toArray, List.getElem_cons_succ, List.getElem_cons_zero, List.setIfInBounds_toArray, List.set_cons_zero, List.set_cons_succ])
              refine wpAnyH_ready (rs := [24]) (by kernel_rfl) (by simp) ?_
              refine AllReadyH.cons rfl (fun K hK => ?_) AllReadyH.nil
              (try simp only [List.getElem_toArray, List.getElem_cons_succ, List.getElem_cons_zero])
              go_simp
              obtain ⟨kk, hkk⟩ := (TreeEv.depth_ev _ y (Nat.le_refl _) (by omega)).rounds
              refine (tree_Depth.calls kk y.f0 y.f1 y.f2 y.f3 _ _ y.f4 _ _ (Kd.C_below Cy.out hHeld.2.2.2.2.2.2.2.2.2.2) hl3 hkk).mono ?_
              rintro e w9 ⟨rfl, hb⟩
              clear hkk
              simp only []
              refine hK.out _ _ ?_ (fun hHeld => ?_)
              · (try dsimp only); exact TreeFix.keep10 hHeld hb
              clear hK K
              (try simp only [Act.put, List.getElem_toArray, List.getElem_cons_succ, List.getElem_cons_zero, List.setIfInBounds_toArray, List.set_cons_zero, List.set_cons_succ])
              refine wpAnyH_ready (rs := [26]) (by kernel_rfl) (by simp) ?_
              refine AllReadyH.cons rfl (fun K hK => ?_) AllReadyH.nil
              (try simp only [List.getElem_toArray, List.getElem_cons_succ, List.getElem_cons_zero])
              go_simp
              obtain ⟨kk, hkk⟩ := (TreeEv.depth_ev _ a (Nat.le_refl _) (by omega)).rounds
              refine (tree_Depth.calls kk a.f0 a.f1 a.f2 a.f3 _ _ a.f4 _ _ (Kd.C_below Ca.out hHeld.2.2.2.2.2.2.2.2.2.2) hla hkk).mono ?_
              rintro e w9 ⟨rfl, hb⟩
              clear hkk
              simp only []
              refine hK.out _ _ ?_ (fun hHeld => ?_)
              · (try dsimp only); exact TreeFix.keep10 hHeld hb
              clear hK K
              (try simp only [Act.put, List.getElem_toArray, List.getElem_cons_succ, List.getElem_cons_zero, List.setIfInBounds_toArray, List.set_cons_zero, List.set_cons_succ])
              refine wpAnyH_take (i := 27) (v := ?_) rfl (by kernel_rfl) (by kernel_rfl) (by kernel_rfl) (fun _ _ _ h => h) (Or.inl ⟨by kernel_rfl, ?_⟩) (by assumption) ?_
              rotate_left 1
              · (intro w hSw; (try dsimp only at hSw); (try simp only [List.getElem_toArray, List.getElem_cons_succ, List.getElem_cons_zero]); go_simp; (try with_reducible rfl))
              (try simp only [Act.put, List.getElem_toArray, List.getElem_cons_succ, List.getElem_cons_zero, List.setIfInBounds_toArray, List.set_cons_zero, List.set_cons_succ])
              refine wpAnyH_take (i := 28) (v := ?_) rfl (by kernel_rfl) (by kernel_rfl) (by kernel_rfl) (fun _ _ _ h => h) (Or.inl ⟨by kernel_rfl, ?_⟩) (by assumption) ?_
              rotate_left 1
              · (intro w hSw; (try dsimp only at hSw); (try simp only [List.getElem_toArray, List.getElem_cons_succ, List.getElem_cons_zero]); go_simp; (try with_reducible rfl))
              (try simp only [Act.put, List.getElem_toArray, List.getElem_cons_succ, List.getElem_cons_zero, List.setIfInBounds_toArray, List.set_cons_zero, List.set_cons_succ])
              refine wpAnyH_done (by kernel_rfl) ?_ _
              have HBR9 := Lib.hid (below_step HBR.out hHeld.2.2.2.2.2.2.2.2.2.2)
              clear hHeld
              go_wp2_with fail
              exact ⟨⟨k + 1, by omega, by first | rfl | go_num, HBR9⟩, by simp [intOf]; omega⟩
            | true =>
              rcases Classical.em (k = 0) with q | q
              · have K0 := Lib.hid q
                clear q
                have bk0 : ((y.f4.length : Int) == 1) = true := by rw [YL.out, if_pos K0.out]; rfl
                have K1f : Hid (¬ k = 1) := Lib.hid (by have := K0.out; omega)
                have K3f : Hid (¬ 3 < k) := Lib.hid (by have := K0.out; omega)
                have b1 : ((k : Int) == 1) = false := beq_eq_false_iff_ne.2 (by have := K0.out; omega)
                have b3 : decide ((k : Int) > 3) = false := decide_eq_false (by have := K0.out; omega)
                have b3a : decide ((3 : Int) < (k : Int)) = false := decide_eq_false (by have := K0.out; omega)
                have b3b : decide (3 < k) = false := decide_eq_false (by have := K0.out; omega)
                go_upto_region 11 with (fail)
                cases nm with
                | true =>
                  have HR : Hid (whole y = true) := Lib.hid (by rw [WL.out, decide_eq_true K0.out]; (try simp))
                  have z1 : decide ((size y : Int) ≤ (size a : Int)) = false := decide_eq_false (by omega)
                  have z1b : decide (size y ≤ size a) = false := decide_eq_false (by omega)
                  have z2 : decide ((height y : Int) ≤ (height a : Int)) = false := decide_eq_false (by omega)
                  have z2b : decide (height y ≤ height a) = false := decide_eq_false (by omega)
                  refine wp_region_held_drew (S := (fun w' => w'.cell? ⟨w.heap.size, 0, none⟩ = some (.int .i64 a.f0) ∧ w'.cell? ⟨w.heap.size, 1, none⟩ = some (.string a.f1) ∧ w'.cell? ⟨w.heap.size, 2, none⟩ = some (.int .i64 a.f2) ∧ w'.cell? ⟨w.heap.size, 3, none⟩ = some (.int .i64 a.f3) ∧ w'.cell? ⟨w.heap.size, 4, none⟩ = some (.slice Aa a.f4.length ca) ∧ w'.cell? ⟨wr.heap.size, 0, none⟩ = some (.int .i64 y.f0) ∧ w'.cell? ⟨wr.heap.size, 1, none⟩ = some (.string y.f1) ∧ w'.cell? ⟨wr.heap.size, 2, none⟩ = some (.int .i64 y.f2) ∧ w'.cell? ⟨wr.heap.size, 3, none⟩ = some (.int .i64 y.f3) ∧ w'.cell? ⟨wr.heap.size, 4, none⟩ = some (.slice A3 y.f4.length c3) ∧ Below w6.heap.size w6 w')) (by kernel_rfl) (by (try dsimp only); exact TreeFix.keep10 ⟨a0, a1, a2, a3, a4, y0, y1, y2, y3, y4, Below.refl _ _⟩ (below_drew1 (Below.refl _ _))) (fun hHeld => ?_)
                  change wpAnyH _ _ _ _ _ 29 #[false, false, false, false, false, false, false, false, false, false, false, false, false, false, false, false, false, false, false, false, false, false, false, false, false, false, false, false, false] _ _
                  refine wpAnyH_take (i := 0) (v := ?_) rfl (by kernel_rfl) (by kernel_rfl) (by kernel_rfl) (fun _ _ _ h => h) (Or.inl ⟨by kernel_rfl, ?_⟩) (by assumption) ?_
                  rotate_left 1
                  · (intro w hSw; (try dsimp only at hSw); (try simp only [List.getElem_toArray, List.getElem_cons_succ, List.getElem_cons_zero]); go_simp; (try with_reducible rfl))
                  (try simp only [Act.put, List.getElem_toArray, List.getElem_cons_succ, List.getElem_cons_zero, List.setIfInBounds_toArray, List.set_cons_zero, List.set_cons_succ])
                  refine wpAnyH_take (i := 2) (v := ?_) rfl (by kernel_rfl) (by kernel_rfl) (by kernel_rfl) (fun _ _ _ h => h) (Or.inl ⟨by kernel_rfl, ?_⟩) (by assumption) ?_
                  rotate_left 1
                  · (intro w hSw; (try dsimp only at hSw); (try simp only [List.getElem_toArray, List.getElem_cons_succ, List.getElem_cons_zero]); go_simp; (try with_reducible rfl))
                  (try simp only [Act.put, List.getElem_toArray, List.getElem_cons_succ, List.getElem_cons_zero, List.setIfInBounds_toArray, List.set_cons_zero, List.set_cons_succ])
                  refine wpAnyH_ready (rs := [1]) (by kernel_rfl) (by simp) ?_
                  refine AllReadyH.cons rfl (fun K hK => ?_) AllReadyH.nil
                  (try simp only [List.getElem_toArray, List.getElem_cons_succ, List.getElem_cons_zero])
                  go_simp
                  refine ((TreeMay.whole_any y hwy2 _ _ _ (Kd.C_below Cy.out hHeld.2.2.2.2.2.2.2.2.2.2) hl3 (HT.out.on (below_step HB.out hHeld.2.2.2.2.2.2.2.2.2.2)).here).mono fun e w' h => (⟨h.1.trans (by rw [HR.out]), h.2⟩ : e = .returned (.bool true) ∧ _)).mono ?_
                  rintro e w9 ⟨rfl, hb⟩
                  simp only []
                  refine hK.out _ _ ?_ (fun hHeld => ?_)
                  · (try dsimp only); exact TreeFix.keep10 hHeld hb
                  clear hK K
                  (try simp only [Act.put, List.getElem_toArray, List.getElem_cons_succ, List.getElem_cons_zero, List.setIfInBounds_toArray, List.set_cons_zero, List.set_cons_succ])
                  refine wpAnyH_take (i := 3) (v := ?_) rfl (by kernel_rfl) (by kernel_rfl) (by kernel_rfl) (fun _ _ _ h => h) (Or.inl ⟨by kernel_rfl, ?_⟩) (by assumption) ?_
                  rotate_left 1
                  · (intro w hSw; (try dsimp only at hSw); (try simp only [List.getElem_toArray, List.getElem_cons_succ, List.getElem_cons_zero]); go_simp; (try with_reducible rfl))
                  (try simp only [Act.put, List.getElem_toArray, List.getElem_cons_succ, List.getElem_cons_zero, List.setIfInBounds_toArray, List.set_cons_zero, List.set_cons_succ])
                  refine wpAnyH_take (i := 4) (v := ?_) rfl (by kernel_rfl) (by kernel_rfl) (by kernel_rfl) (fun _ _ _ h => h) (Or.inl ⟨by kernel_rfl, ?_⟩) (by assumption) ?_
                  rotate_left 1
                  · (intro w hSw; (try dsimp only at hSw); (try simp only [List.getElem_toArray, List.getElem_cons_succ, List.getElem_cons_zero]); go_simp; (try with_reducible rfl))
                  (try simp only [Act.put, List.getElem_toArray, List.getElem_cons_succ, List.getElem_cons_zero, List.setIfInBounds_toArray, List.set_cons_zero, List.set_cons_succ])
                  refine wpAnyH_take (i := 5) (v := ?_) rfl (by kernel_rfl) (by kernel_rfl) (by kernel_rfl) (fun _ _ _ h => h) (Or.inl ⟨by kernel_rfl, ?_⟩) (by assumption) ?_
                  rotate_left 1
                  · (intro w hSw; (try dsimp only at hSw); (try simp only [List.getElem_toArray, List.getElem_cons_succ, List.getElem_cons_zero]); go_simp; (try with_reducible rfl))
                  (try simp only [Act.put, List.getElem_toArray, List.getElem_cons_succ, List.getElem_cons_zero, List.setIfInBounds_toArray, List.set_cons_zero, List.set_cons_succ])
                  refine wpAnyH_take (i := 6) (v := undef) rfl (by kernel_rfl) (by kernel_rfl) (by kernel_rfl) (fun _ _ _ h => h) (Or.inr ⟨by rfl, rfl⟩) (by assumption) ?_
                  (try simp only [Act.put, List.getElem_toArray, List.getElem_cons_succ, List.getElem_cons_zero, List.setIfInBounds_toArray, List.set_cons_zero, List.set_cons_succ])
                  refine wpAnyH_take (i := 7) (v := undef) rfl (by kernel_rfl) (by kernel_rfl) (by kernel_rfl) (fun _ _ _ h => h) (Or.inr ⟨by rfl, rfl⟩) (by assumption) ?_
                  (try simp only [Act.put, List.getElem_toArray, List.getElem_cons_succ, List.getElem_cons_zero, List.setIfInBounds_toArray, List.set_cons_zero, List.set_cons_succ])
                  refine wpAnyH_take (i := 8) (v := ?_) rfl (by kernel_rfl) (by kernel_rfl) (by kernel_rfl) (fun _ _ _ h => h) (Or.inl ⟨by kernel_rfl, ?_⟩) (by assumption) ?_
                  rotate_left 1
                  · (intro w hSw; (try dsimp only at hSw); (try simp only [List.getElem_toArray, List.getElem_cons_succ, List.getElem_cons_zero]); go_simp; (try with_reducible rfl))
                  (try simp only [Act.put, List.getElem_toArray, List.getElem_cons_succ, List.getElem_cons_zero, List.setIfInBounds_toArray, List.set_cons_zero, List.set_cons_succ])
                  refine wpAnyH_take (i := 9) (v := ?_) rfl (by kernel_rfl) (by kernel_rfl) (by kernel_rfl) (fun _ _ _ h => h) (Or.inl ⟨by kernel_rfl, ?_⟩) (by assumption) ?_
                  rotate_left 1
                  · (intro w hSw; (try dsimp only at hSw); (try simp only [List.getElem_toArray, List.getElem_cons_succ, List.getElem_cons_zero]); go_simp; (try with_reducible rfl))
                  (try simp only [Act.put, List.getElem_toArray, List.getElem_cons_succ, List.getElem_cons_zero, List.setIfInBounds_toArray, List.set_cons_zero, List.set_cons_succ])
                  refine wpAnyH_take (i := 10) (v := undef) rfl (by kernel_rfl) (by kernel_rfl) (by kernel_rfl) (fun _ _ _ h => h) (Or.inr ⟨by rfl, rfl⟩) (by assumption) ?_
                  (try simp only [Act.put, List.getElem_toArray, List.getElem_cons_succ, List.getElem_cons_zero, List.setIfInBounds_toArray, List.set_cons_zero, List.set_cons_succ])
                  refine wpAnyH_take (i := 11) (v := undef) rfl (by kernel_rfl) (by kernel_rfl) (by kernel_rfl) (fun _ _ _ h => h) (Or.inr ⟨by rfl, rfl⟩) (by assumption) ?_
                  (try simp only [Act.put, List.getElem_toArray, List.getElem_cons_succ, List.getElem_cons_zero, List.setIfInBounds_toArray, List.set_cons_zero, List.set_cons_succ])
                  refine wpAnyH_take (i := 12) (v := ?_) rfl (by kernel_rfl) (by kernel_rfl) (by kernel_rfl) (fun _ _ _ h => h) (Or.inl ⟨by kernel_rfl, ?_⟩) (by assumption) ?_
                  rotate_left 1
                  · (intro w hSw; (try dsimp only at hSw); (try simp only [List.getElem_toArray, List.getElem_cons_succ, List.getElem_cons_zero]); go_simp; (try with_reducible rfl))
                  (try simp only [Act.put, List.getElem_toArray, List.getElem_cons_succ, List.getElem_cons_zero, List.setIfInBounds_toArray, List.set_cons_zero, List.set_cons_succ])
                  refine wpAnyH_take (i := 13) (v := ?_) rfl (by kernel_rfl) (by kernel_rfl) (by kernel_rfl) (fun _ _ _ h => h) (Or.inl ⟨by kernel_rfl, ?_⟩) (by assumption) ?_
                  rotate_left 1
                  · (intro w hSw; (try dsimp only at hSw); (try simp only [List.getElem_toArray, List.getElem_cons_succ, List.getElem_cons_zero]); go_simp; (try with_reducible rfl))
                  (try simp only [Act.put, List.getElem_toArray, List.getElem_cons_succ, List.getElem_cons_zero, List.setIfInBounds_toArray, List.set_cons_zero, List.set_cons_succ])
                  refine wpAnyH_take (i := 14) (v := ?_) rfl (by kernel_rfl) (by kernel_rfl) (by kernel_rfl) (fun _ _ _ h => h) (Or.inl ⟨by kernel_rfl, ?_⟩) (by assumption) ?_
                  rotate_left 1
                  · (intro w hSw; (try dsimp only at hSw); (try simp only [List.getElem_toArray, List.getElem_cons_succ, List.getElem_cons_zero]); go_simp; (try with_reducible rfl))
                  (try simp only [Act.put, List.getElem_toArray, List.getElem_cons_succ, List.getElem_cons_zero, List.setIfInBounds_toArray, List.set_cons_zero, List.set_cons_succ])
                  refine wpAnyH_take (i := 15) (v := ?_) rfl (by kernel_rfl) (by kernel_rfl) (by kernel_rfl) (fun _ _ _ h => h) (Or.inl ⟨by kernel_rfl, ?_⟩) (by assumption) ?_
                  rotate_left 1
                  · (intro w hSw; (try dsimp only at hSw); (try simp only [List.getElem_toArray, List.getElem_cons_succ, List.getElem_cons_zero]); go_simp; (try with_reducible rfl))
                  (try simp only [Act.put, List.getElem_toArray, List.getElem_cons_succ, List.getElem_cons_zero, List.setIfInBounds_toArray, List.set_cons_zero, List.set_cons_succ])
                  refine wpAnyH_take (i := 16) (v := ?_) rfl (by kernel_rfl) (by kernel_rfl) (by kernel_rfl) (fun _ _ _ h => h) (Or.inl ⟨by kernel_rfl, ?_⟩) (by assumption) ?_
                  rotate_left 1
                  · (intro w hSw; (try dsimp only at hSw); (try simp only [List.getElem_toArray, List.getElem_cons_succ, List.getElem_cons_zero]); go_simp; (try with_reducible rfl))
                  (try simp only [Act.put, List.getElem_toArray, List.getElem_cons_succ, List.getElem_cons_zero, List.setIfInBounds_toArray, List.set_cons_zero, List.set_cons_succ])
                  refine wpAnyH_take (i := 18) (v := ?_) rfl (by kernel_rfl) (by kernel_rfl) (by kernel_rfl) (fun _ _ _ h => h) (Or.inl ⟨by kernel_rfl, ?_⟩) (by assumption) ?_
                  rotate_left 1
                  · (intro w hSw; (try dsimp only at hSw); (try simp only [List.getElem_toArray, List.getElem_cons_succ, List.getElem_cons_zero]); go_simp; (try with_reducible rfl))
                  (try simp only [Act.put, List.getElem_toArray, List.getElem_cons_succ, List.getElem_cons_zero, List.setIfInBounds_toArray, List.set_cons_zero, List.set_cons_succ])
                  refine wpAnyH_ready (rs := [17]) (by kernel_rfl) (by simp) ?_
                  refine AllReadyH.cons rfl (fun K hK => ?_) AllReadyH.nil
                  (try simp only [List.getElem_toArray, List.getElem_cons_succ, List.getElem_cons_zero])
                  go_simp
                  obtain ⟨kk, hkk⟩ := (TreeEv.size_ev _ y (Nat.le_refl _) (by omega)).rounds
                  refine (tree_Size.calls kk y.f0 y.f1 y.f2 y.f3 _ _ y.f4 _ _ (Kd.C_below Cy.out hHeld.2.2.2.2.2.2.2.2.2.2) hl3 hkk).mono ?_
                  rintro e w9 ⟨rfl, hb⟩
                  clear hkk
                  simp only []
                  refine hK.out _ _ ?_ (fun hHeld => ?_)
                  · (try dsimp only); exact TreeFix.keep10 hHeld hb
                  clear hK K
                  (try simp only [Act.put, List.getElem_toArray, List.getElem_cons_succ, List.getElem_cons_zero, List.setIfInBounds_toArray, List.set_cons_zero, List.set_cons_succ])
                  refine wpAnyH_ready (rs := [19]) (by kernel_rfl) (by simp) ?_
                  refine AllReadyH.cons rfl (fun K hK => ?_) AllReadyH.nil
                  (try simp only [List.getElem_toArray, List.getElem_cons_succ, List.getElem_cons_zero])
                  go_simp
                  obtain ⟨kk, hkk⟩ := (TreeEv.size_ev _ a (Nat.le_refl _) (by omega)).rounds
                  refine (tree_Size.calls kk a.f0 a.f1 a.f2 a.f3 _ _ a.f4 _ _ (Kd.C_below Ca.out hHeld.2.2.2.2.2.2.2.2.2.2) hla hkk).mono ?_
                  rintro e w9 ⟨rfl, hb⟩
                  clear hkk
                  simp only []
                  refine hK.out _ _ ?_ (fun hHeld => ?_)
                  · (try dsimp only); exact TreeFix.keep10 hHeld hb
                  clear hK K
                  (try simp only [Act.put, List.getElem_toArray, List.getElem_cons_succ, List.getElem_cons_zero, List.setIfInBounds_toArray, List.set_cons_zero, List.set_cons_succ])
                  refine wpAnyH_take (i := 20) (v := ?_) rfl (by kernel_rfl) (by kernel_rfl) (by kernel_rfl) (fun _ _ _ h => h) (Or.inl ⟨by kernel_rfl, ?_⟩) (by assumption) ?_
                  rotate_left 1
                  · (intro w hSw; (try dsimp only at hSw); (try simp only [List.getElem_toArray, List.getElem_cons_succ, List.getElem_cons_zero]); go_simp; (try with_reducible rfl))
                  (try simp only [Act.put, List.getElem_toArray, List.getElem_cons_succ, List.getElem_cons_zero, List.setIfInBounds_toArray, List.set_cons_zero, List.set_cons_succ])
                  refine wpAnyH_take (i := 21) (v := ?_) rfl (by kernel_rfl) (by kernel_rfl) (by kernel_rfl) (fun _ _ _ h => h) (Or.inl ⟨by kernel_rfl, ?_⟩) (by assumption) ?_
                  rotate_left 1
                  · (intro w hSw; (try dsimp only at hSw); (try simp only [List.getElem_toArray, List.getElem_cons_succ, List.getElem_cons_zero]); go_simp; (try with_reducible rfl))
                  (try simp only [Act.put, List.getElem_toArray, List.getElem_cons_succ, List.getElem_cons_zero, List.setIfInBounds_toArray, List.set_cons_zero, List.set_cons_succ])
                  refine wpAnyH_take (i := 22) (v := ?_) rfl (by kernel_rfl) (by kernel_rfl) (by kernel_rfl) (fun _ _ _ h => h) (Or.inl ⟨by kernel_rfl, ?_⟩) (by assumption) ?_
                  rotate_left 1
                  · (intro w hSw; (try dsimp only at hSw); (try simp only [List.getElem_toArray, List.getElem_cons_succ, List.getElem_cons_zero]); go_simp; (try with_reducible rfl))
                  (try simp only [Act.put, List.getElem_toArray, List.getElem_cons_succ, List.getElem_cons_zero, List.setIfInBounds_toArray, List.set_cons_zero, List.set_cons_succ])
                  refine wpAnyH_take (i := 23) (v := ?_) rfl (by kernel_rfl) (by kernel_rfl) (by kernel_rfl) (fun _ _ _ h => h) (Or.inl ⟨by kernel_rfl, ?_⟩) (by assumption) ?_
                  rotate_left 1
                  · (intro w hSw; (try dsimp only at hSw); (try simp only [List.getElem_toArray, List.getElem_cons_succ, List.getElem_cons_zero]); go_simp; (try with_reducible rfl))
                  (try simp only [Act.put, List.getElem_toArray, List.getElem_cons_succ, List.getElem_cons_zero, List.setIfInBounds_toArray, List.set_cons_zero, List.set_cons_succ])
                  refine wpAnyH_take (i := 25) (v := ?_) rfl (by kernel_rfl) (by kernel_rfl) (by kernel_rfl) (fun _ _ _ h => h) (Or.inl ⟨by kernel_rfl, ?_⟩) (by assumption) ?_
                  rotate_left 1
                  · (intro w hSw; (try dsimp only at hSw); (try simp only [List.getElem_toArray, List.getElem_cons_succ, List.getElem_cons_zero]); go_simp; (try with_reducible rfl))
                  (try simp only [Act.put, List.getElem_toArray, List.getElem_cons_succ, List.getElem_cons_zero, List.setIfInBounds_toArray, List.set_cons_zero, List.set_cons_succ])
                  refine wpAnyH_ready (rs := [24]) (by kernel_rfl) (by simp) ?_
                  refine AllReadyH.cons rfl (fun K hK => ?_) AllReadyH.nil
                  (try simp only [List.getElem_toArray, List.getElem_cons_succ, List.getElem_cons_zero])
                  go_simp
                  obtain ⟨kk, hkk⟩ := (TreeEv.depth_ev _ y (Nat.le_refl _) (by omega)).rounds
                  refine (tree_Depth.calls kk y.f0 y.f1 y.f2 y.f3 _ _ y.f4 _ _ (Kd.C_below Cy.out hHeld.2.2.2.2.2.2.2.2.2.2) hl3 hkk).mono ?_
                  rintro e w9 ⟨rfl, hb⟩
                  clear hkk
                  simp only []
                  refine hK.out _ _ ?_ (fun hHeld => ?_)
                  · (try dsimp only); exact TreeFix.keep10 hHeld hb
                  clear hK K
                  (try simp only [Act.put, List.getElem_toArray, List.getElem_cons_succ, List.getElem_cons_zero, List.setIfInBounds_toArray, List.set_cons_zero, List.set_cons_succ])
                  refine wpAnyH_ready (rs := [26]) (by kernel_rfl) (by simp) ?_
                  refine AllReadyH.cons rfl (fun K hK => ?_) AllReadyH.nil
                  (try simp only [List.getElem_toArray, List.getElem_cons_succ, List.getElem_cons_zero])
                  go_simp
                  obtain ⟨kk, hkk⟩ := (TreeEv.depth_ev _ a (Nat.le_refl _) (by omega)).rounds
                  refine (tree_Depth.calls kk a.f0 a.f1 a.f2 a.f3 _ _ a.f4 _ _ (Kd.C_below Ca.out hHeld.2.2.2.2.2.2.2.2.2.2) hla hkk).mono ?_
                  rintro e w9 ⟨rfl, hb⟩
                  clear hkk
                  simp only []
                  refine hK.out _ _ ?_ (fun hHeld => ?_)
                  · (try dsimp only); exact TreeFix.keep10 hHeld hb
                  clear hK K
                  (try simp only [Act.put, List.getElem_toArray, List.getElem_cons_succ, List.getElem_cons_zero, List.setIfInBounds_toArray, List.set_cons_zero, List.set_cons_succ])
                  refine wpAnyH_take (i := 27) (v := ?_) rfl (by kernel_rfl) (by kernel_rfl) (by kernel_rfl) (fun _ _ _ h => h) (Or.inl ⟨by kernel_rfl, ?_⟩) (by assumption) ?_
                  rotate_left 1
                  · (intro w hSw; (try dsimp only at hSw); (try simp only [List.getElem_toArray, List.getElem_cons_succ, List.getElem_cons_zero]); go_simp; (try with_reducible rfl))
                  (try simp only [Act.put, List.getElem_toArray, List.getElem_cons_succ, List.getElem_cons_zero, List.setIfInBounds_toArray, List.set_cons_zero, List.set_cons_succ])
                  refine wpAnyH_take (i := 28) (v := ?_) rfl (by kernel_rfl) (by kernel_rfl) (by kernel_rfl) (fun _ _ _ h => h) (Or.inl ⟨by kernel_rfl, ?_⟩) (by assumption) ?_
                  rotate_left 1
                  · (intro w hSw; (try dsimp only at hSw); (try simp only [List.getElem_toArray, List.getElem_cons_succ, List.getElem_cons_zero]); go_simp; (try with_reducible rfl))
                  (try simp only [Act.put, List.getElem_toArray, List.getElem_cons_succ, List.getElem_cons_zero, List.setIfInBounds_toArray, List.set_cons_zero, List.set_cons_succ])
                  refine wpAnyH_done (by kernel_rfl) ?_ _
                  have HBR9 := Lib.hid (below_step HBR.out hHeld.2.2.2.2.2.2.2.2.2.2)
                  clear hHeld
                  go_wp2_with fail
                  exact ⟨⟨k + 1, by omega, by first | rfl | go_num, HBR9⟩, by simp [intOf]; omega⟩
                | false =>
                  have HR : Hid (whole y = false) := Lib.hid (by rw [WL.out, decide_eq_true K0.out, decide_eq_false K1f.out, decide_eq_false K3f.out]; (try simp))
                  have z1 : decide ((size y : Int) ≤ (size a : Int)) = false := decide_eq_false (by omega)
                  have z1b : decide (size y ≤ size a) = false := decide_eq_false (by omega)
                  have z2 : decide ((height y : Int) ≤ (height a : Int)) = false := decide_eq_false (by omega)
                  have z2b : decide (height y ≤ height a) = false := decide_eq_false (by omega)
                  refine wp_region_held_drew (S := (fun w' => w'.cell? ⟨w.heap.size, 0, none⟩ = some (.int .i64 a.f0) ∧ w'.cell? ⟨w.heap.size, 1, none⟩ = some (.string a.f1) ∧ w'.cell? ⟨w.heap.size, 2, none⟩ = some (.int .i64 a.f2) ∧ w'.cell? ⟨w.heap.size, 3, none⟩ = some (.int .i64 a.f3) ∧ w'.cell? ⟨w.heap.size, 4, none⟩ = some (.slice Aa a.f4.length ca) ∧ w'.cell? ⟨wr.heap.size, 0, none⟩ = some (.int .i64 y.f0) ∧ w'.cell? ⟨wr.heap.size, 1, none⟩ = some (.string y.f1) ∧ w'.cell? ⟨wr.heap.size, 2, none⟩ = some (.int .i64 y.f2) ∧ w'.cell? ⟨wr.heap.size, 3, none⟩ = some (.int .i64 y.f3) ∧ w'.cell? ⟨wr.heap.size, 4, none⟩ = some (.slice A3 y.f4.length c3) ∧ Below w6.heap.size w6 w')) (by kernel_rfl) (by (try dsimp only); exact TreeFix.keep10 ⟨a0, a1, a2, a3, a4, y0, y1, y2, y3, y4, Below.refl _ _⟩ (below_drew1 (Below.refl _ _))) (fun hHeld => ?_)
                  change wpAnyH _ _ _ _ _ 29 #[false, false, false, false, false, false, false, false, false, false, false, false, false, false, false, false, false, false, false, false, false, false, false, false, false, false, false, false, false] _ _
                  refine wpAnyH_take (i := 0) (v := ?_) rfl (by kernel_rfl) (by kernel_rfl) (by kernel_rfl) (fun _ _ _ h => h) (Or.inl ⟨by kernel_rfl, ?_⟩) (by assumption) ?_
                  rotate_left 1
                  · (intro w hSw; (try dsimp only at hSw); (try simp only [List.getElem_toArray, List.getElem_cons_succ, List.getElem_cons_zero]); go_simp; (try with_reducible rfl))
                  (try simp only [Act.put, List.getElem_toArray, List.getElem_cons_succ, List.getElem_cons_zero, List.setIfInBounds_toArray, List.set_cons_zero, List.set_cons_succ])
                  refine wpAnyH_take (i := 2) (v := ?_) rfl (by kernel_rfl) (by kernel_rfl) (by kernel_rfl) (fun _ _ _ h => h) (Or.inl ⟨by kernel_rfl, ?_⟩) (by assumption) ?_
                  rotate_left 1
                  · (intro w hSw; (try dsimp only at hSw); (try simp only [List.getElem_toArray, List.getElem_cons_succ, List.getElem_cons_zero]); go_simp; (try with_reducible rfl))
                  (try simp only [Act.put, List.getElem_toArray, List.getElem_cons_succ, List.getElem_cons_zero, List.setIfInBounds_toArray, List.set_cons_zero, List.set_cons_succ])
                  refine wpAnyH_ready (rs := [1]) (by kernel_rfl) (by simp) ?_
                  refine AllReadyH.cons rfl (fun K hK => ?_) AllReadyH.nil
                  (try simp only [List.getElem_toArray, List.getElem_cons_succ, List.getElem_cons_zero])
                  go_simp
                  refine ((TreeMay.whole_any y hwy2 _ _ _ (Kd.C_below Cy.out hHeld.2.2.2.2.2.2.2.2.2.2) hl3 (HT.out.on (below_step HB.out hHeld.2.2.2.2.2.2.2.2.2.2)).here).mono fun e w' h => (⟨h.1.trans (by rw [HR.out]), h.2⟩ : e = .returned (.bool false) ∧ _)).mono ?_
                  rintro e w9 ⟨rfl, hb⟩
                  simp only []
                  refine hK.out _ _ ?_ (fun hHeld => ?_)
                  · (try dsimp only); exact TreeFix.keep10 hHeld hb
                  clear hK K
                  (try simp only [Act.put, List.getElem_toArray, List.getElem_cons_succ, List.getElem_cons_zero, List.setIfInBounds_toArray, List.set_cons_zero, List.set_cons_succ])
                  refine wpAnyH_take (i := 3) (v := ?_) rfl (by kernel_rfl) (by kernel_rfl) (by kernel_rfl) (fun _ _ _ h => h) (Or.inl ⟨by kernel_rfl, ?_⟩) (by assumption) ?_
                  rotate_left 1
                  · (intro w hSw; (try dsimp only at hSw); (try simp only [List.getElem_toArray, List.getElem_cons_succ, List.getElem_cons_zero]); go_simp; (try with_reducible rfl))
                  (try simp only [Act.put, List.getElem_toArray, List.getElem_cons_succ, List.getElem_cons_zero, List.setIfInBounds_toArray, List.set_cons_zero, List.set_cons_succ])
                  refine wpAnyH_take (i := 4) (v := ?_) rfl (by kernel_rfl) (by kernel_rfl) (by kernel_rfl) (fun _ _ _ h => h) (Or.inl ⟨by kernel_rfl, ?_⟩) (by assumption) ?_
                  rotate_left 1
                  · (intro w hSw; (try dsimp only at hSw); (try simp only [List.getElem_toArray, List.getElem_cons_succ, List.getElem_cons_zero]); go_simp; (try with_reducible rfl))
                  (try simp only [Act.put, List.getElem_toArray, List.getElem_cons_succ, List.getElem_cons_zero, List.setIfInBounds_toArray, List.set_cons_zero, List.set_cons_succ])
                  refine wpAnyH_take (i := 5) (v := ?_) rfl (by kernel_rfl) (by kernel_rfl) (by kernel_rfl) (fun _ _ _ h => h) (Or.inl ⟨by kernel_rfl, ?_⟩) (by assumption) ?_
                  rotate_left 1
                  · (intro w hSw; (try dsimp only at hSw); (try simp only [List.getElem_toArray, List.getElem_cons_succ, List.getElem_cons_zero]); go_simp; (try with_reducible rfl))
                  (try simp only [Act.put, List.getElem_toArray, List.getElem_cons_succ, List.getElem_cons_zero, List.setIfInBounds_toArray, List.set_cons_zero, List.set_cons_succ])
                  refine wpAnyH_take (i := 6) (v := ?_) rfl (by kernel_rfl) (by kernel_rfl) (by kernel_rfl) (fun _ _ _ h => h) (Or.inl ⟨by kernel_rfl, ?_⟩) (by assumption) ?_
                  rotate_left 1
                  · (intro w hSw; (try dsimp only at hSw); (try simp only [List.getElem_toArray, List.getElem_cons_succ, List.getElem_cons_zero]); go_simp; (try with_reducible rfl))
                  (try simp only [Act.put, List.getElem_toArray, List.getElem_cons_succ, List.getElem_cons_zero, List.setIfInBounds_toArray, List.set_cons_zero, List.set_cons_succ])
                  refine wpAnyH_take (i := 7) (v := ?_) rfl (by kernel_rfl) (by kernel_rfl) (by kernel_rfl) (fun _ _ _ h => h) (Or.inl ⟨by kernel_rfl, ?_⟩) (by assumption) ?_
                  rotate_left 1
                  · (intro w hSw; (try dsimp only at hSw); (try simp only [List.getElem_toArray, List.getElem_cons_succ, List.getElem_cons_zero]); go_simp; (try with_reducible rfl))
                  (try simp only [Act.put, List.getElem_toArray, List.getElem_cons_succ, List.getElem_cons_zero, List.setIfInBounds_toArray, List.set_cons_zero, List.set_cons_succ])
                  refine wpAnyH_take (i := 8) (v := ?_) rfl (by kernel_rfl) (by kernel_rfl) (by kernel_rfl) (fun _ _ _ h => h) (Or.inl ⟨by kernel_rfl, ?_⟩) (by assumption) ?_
                  rotate_left 1
                  · (intro w hSw; (try dsimp only at hSw); (try simp only [List.getElem_toArray, List.getElem_cons_succ, List.getElem_cons_zero]); go_simp; (try with_reducible rfl))
                  (try simp only [Act.put, List.getElem_toArray, List.getElem_cons_succ, List.getElem_cons_zero, List.setIfInBounds_toArray, List.set_cons_zero, List.set_cons_succ])
                  refine wpAnyH_take (i := 9) (v := ?_) rfl (by kernel_rfl) (by kernel_rfl) (by kernel_rfl) (fun _ _ _ h => h) (Or.inl ⟨by kernel_rfl, ?_⟩) (by assumption) ?_
                  rotate_left 1
                  · (intro w hSw; (try dsimp only at hSw); (try simp only [List.getElem_toArray, List.getElem_cons_succ, List.getElem_cons_zero]); go_simp; (try with_reducible rfl))
                  (try simp only [Act.put, List.getElem_toArray, List.getElem_cons_succ, List.getElem_cons_zero, List.setIfInBounds_toArray, List.set_cons_zero, List.set_cons_succ])
                  refine wpAnyH_take (i := 10) (v := ?_) rfl (by kernel_rfl) (by kernel_rfl) (by kernel_rfl) (fun _ _ _ h => h) (Or.inl ⟨by kernel_rfl, ?_⟩) (by assumption) ?_
                  rotate_left 1
                  · (intro w hSw; (try dsimp only at hSw); (try simp only [List.getElem_toArray, List.getElem_cons_succ, List.getElem_cons_zero]); go_simp; (try with_reducible rfl))
                  (try simp only [Act.put, List.getElem_toArray, List.getElem_cons_succ, List.getElem_cons_zero, List.setIfInBounds_toArray, List.set_cons_zero, List.set_cons_succ])
                  refine wpAnyH_take (i := 11) (v := ?_) rfl (by kernel_rfl) (by kernel_rfl) (by kernel_rfl) (fun _ _ _ h => h) (Or.inl ⟨by kernel_rfl, ?_⟩) (by assumption) ?_
                  rotate_left 1
                  · (intro w hSw; (try dsimp only at hSw); (try simp only [List.getElem_toArray, List.getElem_cons_succ, List.getElem_cons_zero]); go_simp; (try with_reducible rfl))
                  (try simp only [Act.put, List.getElem_toArray, List.getElem_cons_succ, List.getElem_cons_zero, List.setIfInBounds_toArray, List.set_cons_zero, List.set_cons_succ])
                  refine wpAnyH_take (i := 12) (v := ?_) rfl (by kernel_rfl) (by kernel_rfl) (by kernel_rfl) (fun _ _ _ h => h) (Or.inl ⟨by kernel_rfl, ?_⟩) (by assumption) ?_
                  rotate_left 1
                  · (intro w hSw; (try dsimp only at hSw); (try simp only [List.getElem_toArray, List.getElem_cons_succ, List.getElem_cons_zero]); go_simp; (try with_reducible rfl))
                  (try simp only [Act.put, List.getElem_toArray, List.getElem_cons_succ, List.getElem_cons_zero, List.setIfInBounds_toArray, List.set_cons_zero, List.set_cons_succ])
                  refine wpAnyH_take (i := 13) (v := ?_) rfl (by kernel_rfl) (by kernel_rfl) (by kernel_rfl) (fun _ _ _ h => h) (Or.inl ⟨by kernel_rfl, ?_⟩) (by assumption) ?_
                  rotate_left 1
                  · (intro w hSw; (try dsimp only at hSw); (try simp only [List.getElem_toArray, List.getElem_cons_succ, List.getElem_cons_zero]); go_simp; (try with_reducible rfl))
                  (try simp only [Act.put, List.getElem_toArray, List.getElem_cons_succ, List.getElem_cons_zero, List.setIfInBounds_toArray, List.set_cons_zero, List.set_cons_succ])
                  refine wpAnyH_take (i := 14) (v := ?_) rfl (by kernel_rfl) (by kernel_rfl) (by kernel_rfl) (fun _ _ _ h => h) (Or.inl ⟨by kernel_rfl, ?_⟩) (by assumption) ?_
                  rotate_left 1
                  · (intro w hSw; (try dsimp only at hSw); (try simp only [List.getElem_toArray, List.getElem_cons_succ, List.getElem_cons_zero]); go_simp; (try with_reducible rfl))
                  (try simp only [Act.put, List.getElem_toArray, List.getElem_cons_succ, List.getElem_cons_zero, List.setIfInBounds_toArray, List.set_cons_zero, List.set_cons_succ])
                  refine wpAnyH_take (i := 15) (v := ?_) rfl (by kernel_rfl) (by kernel_rfl) (by kernel_rfl) (fun _ _ _ h => h) (Or.inl ⟨by kernel_rfl, ?_⟩) (by assumption) ?_
                  rotate_left 1
                  · (intro w hSw; (try dsimp only at hSw); (try simp only [List.getElem_toArray, List.getElem_cons_succ, List.getElem_cons_zero]); go_simp; (try with_reducible rfl))
                  (try simp only [Act.put, List.getElem_toArray, List.getElem_cons_succ, List.getElem_cons_zero, List.setIfInBounds_toArray, List.set_cons_zero, List.set_cons_succ])
                  refine wpAnyH_take (i := 16) (v := ?_) rfl (by kernel_rfl) (by kernel_rfl) (by kernel_rfl) (fun _ _ _ h => h) (Or.inl ⟨by kernel_rfl, ?_⟩) (by assumption) ?_
                  rotate_left 1
                  · (intro w hSw; (try dsimp only at hSw); (try simp only [List.getElem_toArray, List.getElem_cons_succ, List.getElem_cons_zero]); go_simp; (try with_reducible rfl))
                  (try simp only [Act.put, List.getElem_toArray, List.getElem_cons_succ, List.getElem_cons_zero, List.setIfInBounds_toArray, List.set_cons_zero, List.set_cons_succ])
                  refine wpAnyH_take (i := 18) (v := ?_) rfl (by kernel_rfl) (by kernel_rfl) (by kernel_rfl) (fun _ _ _ h => h) (Or.inl ⟨by kernel_rfl, ?_⟩) (by assumption) ?_
                  rotate_left 1
                  · (intro w hSw; (try dsimp only at hSw); (try simp only [List.getElem_toArray, List.getElem_cons_succ, List.getElem_cons_zero]); go_simp; (try with_reducible rfl))
                  (try simp only [Act.put, List.getElem_toArray, List.getElem_cons_succ, List.getElem_cons_zero, List.setIfInBounds_toArray, List.set_cons_zero, List.set_cons_succ])
                  refine wpAnyH_ready (rs := [17]) (by kernel_rfl) (by simp) ?_
                  refine AllReadyH.cons rfl (fun K hK => ?_) AllReadyH.nil
                  (try simp only [List.getElem_toArray, List.getElem_cons_succ, List.getElem_cons_zero])
                  go_simp
                  obtain ⟨kk, hkk⟩ := (TreeEv.size_ev _ y (Nat.le_refl _) (by omega)).rounds
                  refine (tree_Size.calls kk y.f0 y.f1 y.f2 y.f3 _ _ y.f4 _ _ (Kd.C_below Cy.out hHeld.2.2.2.2.2.2.2.2.2.2) hl3 hkk).mono ?_
                  rintro e w9 ⟨rfl, hb⟩
                  clear hkk
                  simp only []
                  refine hK.out _ _ ?_ (fun hHeld => ?_)
                  · (try dsimp only); exact TreeFix.keep10 hHeld hb
                  clear hK K
                  (try simp only [Act.put, List.getElem_toArray, List.getElem_cons_succ, List.getElem_cons_zero, List.setIfInBounds_toArray, List.set_cons_zero, List.set_cons_succ])
                  refine wpAnyH_ready (rs := [19]) (by kernel_rfl) (by simp) ?_
                  refine AllReadyH.cons rfl (fun K hK => ?_) AllReadyH.nil
                  (try simp only [List.getElem_toArray, List.getElem_cons_succ, List.getElem_cons_zero])
                  go_simp
                  obtain ⟨kk, hkk⟩ := (TreeEv.size_ev _ a (Nat.le_refl _) (by omega)).rounds
                  refine (tree_Size.calls kk a.f0 a.f1 a.f2 a.f3 _ _ a.f4 _ _ (Kd.C_below Ca.out hHeld.2.2.2.2.2.2.2.2.2.2) hla hkk).mono ?_
                  rintro e w9 ⟨rfl, hb⟩
                  clear hkk
                  simp only []
                  refine hK.out _ _ ?_ (fun hHeld => ?_)
                  · (try dsimp only); exact TreeFix.keep10 hHeld hb
                  clear hK K
                  (try simp only [Act.put, List.getElem_toArray, List.getElem_cons_succ, List.getElem_cons_zero, List.setIfInBounds_toArray, List.set_cons_zero, List.set_cons_succ])
                  refine wpAnyH_take (i := 20) (v := ?_) rfl (by kernel_rfl) (by kernel_rfl) (by kernel_rfl) (fun _ _ _ h => h) (Or.inl ⟨by kernel_rfl, ?_⟩) (by assumption) ?_
                  rotate_left 1
                  · (intro w hSw; (try dsimp only at hSw); (try simp only [List.getElem_toArray, List.getElem_cons_succ, List.getElem_cons_zero]); go_simp; (try with_reducible rfl))
                  (try simp only [Act.put, List.getElem_toArray, List.getElem_cons_succ, List.getElem_cons_zero, List.setIfInBounds_toArray, List.set_cons_zero, List.set_cons_succ])
                  refine wpAnyH_take (i := 21) (v := ?_) rfl (by kernel_rfl) (by kernel_rfl) (by kernel_rfl) (fun _ _ _ h => h) (Or.inl ⟨by kernel_rfl, ?_⟩) (by assumption) ?_
                  rotate_left 1
                  · (intro w hSw; (try dsimp only at hSw); (try simp only [List.getElem_toArray, List.getElem_cons_succ, List.getElem_cons_zero]); go_simp; (try with_reducible rfl))
                  (try simp only [Act.put, List.getElem_toArray, List.getElem_cons_succ, List.getElem_cons_zero, List.setIfInBounds_toArray, List.set_cons_zero, List.set_cons_succ])
                  refine wpAnyH_take (i := 22) (v := ?_) rfl (by kernel_rfl) (by kernel_rfl) (by kernel_rfl) (fun _ _ _ h => h) (Or.inl ⟨by kernel_rfl, ?_⟩) (by assumption) ?_
                  rotate_left 1
                  · (intro w hSw; (try dsimp only at hSw); (try simp only [List.getElem_toArray, List.getElem_cons_succ, List.getElem_cons_zero]); go_simp; (try with_reducible rfl))
                  (try simp only [Act.put, List.getElem_toArray, List.getElem_cons_succ, List.getElem_cons_zero, List.setIfInBounds_toArray, List.set_cons_zero, List.set_cons_succ])
                  refine wpAnyH_take (i := 23) (v := ?_) rfl (by kernel_rfl) (by kernel_rfl) (by kernel_rfl) (fun _ _ _ h => h) (Or.inl ⟨by kernel_rfl, ?_⟩) (by assumption) ?_
                  rotate_left 1
                  · (intro w hSw; (try dsimp only at hSw); (try simp only [List.getElem_toArray, List.getElem_cons_succ, List.getElem_cons_zero]); go_simp; (try with_reducible rfl))
                  (try simp only [Act.put, List.getElem_toArray, List.getElem_cons_succ, List.getElem_cons_zero, List.setIfInBounds_toArray, List.set_cons_zero, List.set_cons_succ])
                  refine wpAnyH_take (i := 25) (v := ?_) rfl (by kernel_rfl) (by kernel_rfl) (by kernel_rfl) (fun _ _ _ h => h) (Or.inl ⟨by kernel_rfl, ?_⟩) (by assumption) ?_
                  rotate_left 1
                  · (intro w hSw; (try dsimp only at hSw); (try simp only [List.getElem_toArray, List.getElem_cons_succ, List.getElem_cons_zero]); go_simp; (try with_reducible rfl))
                  (try simp only [Act.put, List.getElem_toArray, List.getElem_cons_succ, List.getElem_cons_zero, List.setIfInBounds_toArray, List.set_cons_zero, List.set_cons_succ])
                  refine wpAnyH_ready (rs := [24]) (by kernel_rfl) (by simp) ?_
                  refine AllReadyH.cons rfl (fun K hK => ?_) AllReadyH.nil
                  (try simp only [List.getElem_toArray, List.getElem_cons_succ, List.getElem_cons_zero])
                  go_simp
                  obtain ⟨kk, hkk⟩ := (TreeEv.depth_ev _ y (Nat.le_refl _) (by omega)).rounds
                  refine (tree_Depth.calls kk y.f0 y.f1 y.f2 y.f3 _ _ y.f4 _ _ (Kd.C_below Cy.out hHeld.2.2.2.2.2.2.2.2.2.2) hl3 hkk).mono ?_
                  rintro e w9 ⟨rfl, hb⟩
                  clear hkk
                  simp only []
                  refine hK.out _ _ ?_ (fun hHeld => ?_)
                  · (try dsimp only); exact TreeFix.keep10 hHeld hb
                  clear hK K
                  (try simp only [Act.put, List.getElem_toArray, List.getElem_cons_succ, List.getElem_cons_zero, List.setIfInBounds_toArray, List.set_cons_zero, List.set_cons_succ])
                  refine wpAnyH_ready (rs := [26]) (by kernel_rfl) (by simp) ?_
                  refine AllReadyH.cons rfl (fun K hK => ?_) AllReadyH.nil
                  (try simp only [List.getElem_toArray, List.getElem_cons_succ, List.getElem_cons_zero])
                  go_simp
                  obtain ⟨kk, hkk⟩ := (TreeEv.depth_ev _ a (Nat.le_refl _) (by omega)).rounds
                  refine (tree_Depth.calls kk a.f0 a.f1 a.f2 a.f3 _ _ a.f4 _ _ (Kd.C_below Ca.out hHeld.2.2.2.2.2.2.2.2.2.2) hla hkk).mono ?_
                  rintro e w9 ⟨rfl, hb⟩
                  clear hkk
                  simp only []
                  refine hK.out _ _ ?_ (fun hHeld => ?_)
                  · (try dsimp only); exact TreeFix.keep10 hHeld hb
                  clear hK K
                  (try simp only [Act.put, List.getElem_toArray, List.getElem_cons_succ, List.getElem_cons_zero, List.setIfInBounds_toArray, List.set_cons_zero, List.set_cons_succ])
                  refine wpAnyH_take (i := 27) (v := ?_) rfl (by kernel_rfl) (by kernel_rfl) (by kernel_rfl) (fun _ _ _ h => h) (Or.inl ⟨by kernel_rfl, ?_⟩) (by assumption) ?_
                  rotate_left 1
                  · (intro w hSw; (try dsimp only at hSw); (try simp only [List.getElem_toArray, List.getElem_cons_succ, List.getElem_cons_zero]); go_simp; (try with_reducible rfl))
                  (try simp only [Act.put, List.getElem_toArray, List.getElem_cons_succ, List.getElem_cons_zero, List.setIfInBounds_toArray, List.set_cons_zero, List.set_cons_succ])
                  refine wpAnyH_take (i := 28) (v := ?_) rfl (by kernel_rfl) (by kernel_rfl) (by kernel_rfl) (fun _ _ _ h => h) (Or.inl ⟨by kernel_rfl, ?_⟩) (by assumption) ?_
                  rotate_left 1
                  · (intro w hSw; (try dsimp only at hSw); (try simp only [List.getElem_toArray, List.getElem_cons_succ, List.getElem_cons_zero]); go_simp; (try with_reducible rfl))
                  (try simp only [Act.put, List.getElem_toArray, List.getElem_cons_succ, List.getElem_cons_zero, List.setIfInBounds_toArray, List.set_cons_zero, List.set_cons_succ])
                  refine wpAnyH_done (by kernel_rfl) ?_ _
                  have HBR9 := Lib.hid (below_step HBR.out hHeld.2.2.2.2.2.2.2.2.2.2)
                  clear hHeld
                  go_wp2_with fail
                  exact ⟨⟨k + 1, by omega, by first | rfl | go_num, HBR9⟩, by simp [intOf]; omega⟩
              · have K0 := Lib.hid q
                clear q
                have bk0 : ((y.f4.length : Int) == 1) = false := by rw [YL.out, if_neg K0.out]; rfl
                go_wp2_with fail
                refine ((TreeMay.whole_any b (by omega) _ _ _ Cb.out hlb (HT.out.on HB.out).here).mono fun e w' h => (⟨h.1.trans (by rw [PB.out]), h.2⟩ : e = .returned (.bool pb) ∧ _)).mono ?_
                rintro e w6 ⟨rfl, hb⟩
                have n3_ := Lib.hid (blk_below By.out hb); have n4_ := Lib.hid (below_step HBR.out hb); have n5_ := Lib.hid (Kd.C_below Cy.out hb)
                clear By HBR Cy y0 y1 y2 y3 y4
                have By := n3_; have HBR := n4_; have Cy := n5_
                clear n3_ n4_ n5_
                have y0 := blk_cell By.out 0; have y1 := blk_cell By.out 1; have y2 := blk_cell By.out 2; have y3 := blk_cell By.out 3; have y4 := blk_cell By.out 4
                simp only [List.getElem?_toArray, List.getElem?_cons_zero, List.getElem?_cons_succ] at y0 y1 y2 y3 y4
                have n0_ := Lib.hid (below_step HB.out hb)
                have nCa := Lib.hid (Kd.C_below Ca.out hb); have nBa := Lib.hid (blk_below Ba.out hb)
                have nCb := Lib.hid (Kd.C_below Cb.out hb); have nBb := Lib.hid (blk_below Bb.out hb)
                clear HB hb Ca Ba Cb Bb a0 a1 a2 a3 a4 b0 b1 b2 b3 b4
                have HB := n0_
                have Ca := nCa; have Ba := nBa
                have Cb := nCb; have Bb := nBb
                clear n0_ nCa nBa nCb nBb
                have a0 := blk_cell Ba.out 0
                have a1 := blk_cell Ba.out 1
                have a2 := blk_cell Ba.out 2
                have a3 := blk_cell Ba.out 3
                have a4 := blk_cell Ba.out 4
                have b0 := blk_cell Bb.out 0
                have b1 := blk_cell Bb.out 1
                have b2 := blk_cell Bb.out 2
                have b3 := blk_cell Bb.out 3
                have b4 := blk_cell Bb.out 4
                simp only [List.getElem?_toArray, List.getElem?_cons_zero, List.getElem?_cons_succ] at a0 a1 a2 a3 a4 b0 b1 b2 b3 b4
                cases pb with
                | false =>
                  go_upto_region 11 with (fail)
                  have HR : Hid (whole y = false) := Lib.hid (by rw [WL.out, decide_eq_false K0.out]; (try simp))
                  have z1 : decide ((size y : Int) ≤ (size a : Int)) = false := decide_eq_false (by omega)
                  have z1b : decide (size y ≤ size a) = false := decide_eq_false (by omega)
                  have z2 : decide ((height y : Int) ≤ (height a : Int)) = false := decide_eq_false (by omega)
                  have z2b : decide (height y ≤ height a) = false := decide_eq_false (by omega)
                  refine wp_region_held_drew (S := (fun w' => w'.cell? ⟨w.heap.size, 0, none⟩ = some (.int .i64 a.f0) ∧ w'.cell? ⟨w.heap.size, 1, none⟩ = some (.string a.f1) ∧ w'.cell? ⟨w.heap.size, 2, none⟩ = some (.int .i64 a.f2) ∧ w'.cell? ⟨w.heap.size, 3, none⟩ = some (.int .i64 a.f3) ∧ w'.cell? ⟨w.heap.size, 4, none⟩ = some (.slice Aa a.f4.length ca) ∧ w'.cell? ⟨wr.heap.size, 0, none⟩ = some (.int .i64 y.f0) ∧ w'.cell? ⟨wr.heap.size, 1, none⟩ = some (.string y.f1) ∧ w'.cell? ⟨wr.heap.size, 2, none⟩ = some (.int .i64 y.f2) ∧ w'.cell? ⟨wr.heap.size, 3, none⟩ = some (.int .i64 y.f3) ∧ w'.cell? ⟨wr.heap.size, 4, none⟩ = some (.slice A3 y.f4.length c3) ∧ Below w6.heap.size w6 w')) (by kernel_rfl) (by (try dsimp only); exact TreeFix.keep10 ⟨a0, a1, a2, a3, a4, y0, y1, y2, y3, y4, Below.refl _ _⟩ (below_drew1 (Below.refl _ _))) (fun hHeld => ?_)
                  change wpAnyH _ _ _ _ _ 29 #[false, false, false, false, false, false, false, false, false, false, false, false, false, false, false, false, false, false, false, false, false, false, false, false, false, false, false, false, false] _ _
                  refine wpAnyH_take (i := 0) (v := ?_) rfl (by kernel_rfl) (by kernel_rfl) (by kernel_rfl) (fun _ _ _ h => h) (Or.inl ⟨by kernel_rfl, ?_⟩) (by assumption) ?_
                  rotate_left 1
                  · (intro w hSw; (try dsimp only at hSw); (try simp only [List.getElem_toArray, List.getElem_cons_succ, List.getElem_cons_zero]); go_simp; (try with_reducible rfl))
                  (try simp only [Act.put, List.getElem_toArray, List.getElem_cons_succ, List.getElem_cons_zero, List.setIfInBounds_toArray, List.set_cons_zero, List.set_cons_succ])
                  refine wpAnyH_take (i := 2) (v := ?_) rfl (by kernel_rfl) (by kernel_rfl) (by kernel_rfl) (fun _ _ _ h => h) (Or.inl ⟨by kernel_rfl, ?_⟩) (by assumption) ?_
                  rotate_left 1
                  · (intro w hSw; (try dsimp only at hSw); (try simp only [List.getElem_toArray, List.getElem_cons_succ, List.getElem_cons_zero]); go_simp; (try with_reducible rfl))
                  (try simp only [Act.put, List.getElem_toArray, List.getElem_cons_succ, List.getElem_cons_zero, List.setIfInBounds_toArray, List.set_cons_zero, List.set_cons_succ])
                  refine wpAnyH_ready (rs := [1]) (by kernel_rfl) (by simp) ?_
                  refine AllReadyH.cons rfl (fun K hK => ?_) AllReadyH.nil
                  (try simp only [List.getElem_toArray, List.getElem_cons_succ, List.getElem_cons_zero])
                  go_simp
                  refine ((TreeMay.whole_any y hwy2 _ _ _ (Kd.C_below Cy.out hHeld.2.2.2.2.2.2.2.2.2.2) hl3 (HT.out.on (below_step HB.out hHeld.2.2.2.2.2.2.2.2.2.2)).here).mono fun e w' h => (⟨h.1.trans (by rw [HR.out]), h.2⟩ : e = .returned (.bool false) ∧ _)).mono ?_
                  rintro e w9 ⟨rfl, hb⟩
                  simp only []
                  refine hK.out _ _ ?_ (fun hHeld => ?_)
                  · (try dsimp only); exact TreeFix.keep10 hHeld hb
                  clear hK K
                  (try simp only [Act.put, List.getElem_toArray, List.getElem_cons_succ, List.getElem_cons_zero, List.setIfInBounds_toArray, List.set_cons_zero, List.set_cons_succ])
                  refine wpAnyH_take (i := 3) (v := ?_) rfl (by kernel_rfl) (by kernel_rfl) (by kernel_rfl) (fun _ _ _ h => h) (Or.inl ⟨by kernel_rfl, ?_⟩) (by assumption) ?_
                  rotate_left 1
                  · (intro w hSw; (try dsimp only at hSw); (try simp only [List.getElem_toArray, List.getElem_cons_succ, List.getElem_cons_zero]); go_simp; (try with_reducible rfl))
                  (try simp only [Act.put, List.getElem_toArray, List.getElem_cons_succ, List.getElem_cons_zero, List.setIfInBounds_toArray, List.set_cons_zero, List.set_cons_succ])
                  refine wpAnyH_take (i := 4) (v := undef) rfl (by kernel_rfl) (by kernel_rfl) (by kernel_rfl) (fun _ _ _ h => h) (Or.inr ⟨by rfl, rfl⟩) (by assumption) ?_
                  (try simp only [Act.put, List.getElem_toArray, List.getElem_cons_succ, List.getElem_cons_zero, List.setIfInBounds_toArray, List.set_cons_zero, List.set_cons_succ])
                  refine wpAnyH_take (i := 5) (v := undef) rfl (by kernel_rfl) (by kernel_rfl) (by kernel_rfl) (fun _ _ _ h => h) (Or.inr ⟨by rfl, rfl⟩) (by assumption) ?_
                  (try simp only [Act.put, List.getElem_toArray, List.getElem_cons_succ, List.getElem_cons_zero, List.setIfInBounds_toArray, List.set_cons_zero, List.set_cons_succ])
                  refine wpAnyH_take (i := 6) (v := undef) rfl (by kernel_rfl) (by kernel_rfl) (by kernel_rfl) (fun _ _ _ h => h) (Or.inr ⟨by rfl, rfl⟩) (by assumption) ?_
                  (try simp only [Act.put, List.getElem_toArray, List.getElem_cons_succ, List.getElem_cons_zero, List.setIfInBounds_toArray, List.set_cons_zero, List.set_cons_succ])
                  refine wpAnyH_take (i := 7) (v := undef) rfl (by kernel_rfl) (by kernel_rfl) (by kernel_rfl) (fun _ _ _ h => h) (Or.inr ⟨by rfl, rfl⟩) (by assumption) ?_
                  (try simp only [Act.put, List.getElem_toArray, List.getElem_cons_succ, List.getElem_cons_zero, List.setIfInBounds_toArray, List.set_cons_zero, List.set_cons_succ])
                  refine wpAnyH_take (i := 8) (v := undef) rfl (by kernel_rfl) (by kernel_rfl) (by kernel_rfl) (fun _ _ _ h => h) (Or.inr ⟨by rfl, rfl⟩) (by assumption) ?_
                  (try simp only [Act.put, List.getElem_toArray, List.getElem_cons_succ, List.getElem_cons_zero, List.setIfInBounds_toArray, List.set_cons_zero, List.set_cons_succ])
                  refine wpAnyH_take (i := 9) (v := undef) rfl (by kernel_rfl) (by kernel_rfl) (by kernel_rfl) (fun _ _ _ h => h) (Or.inr ⟨by rfl, rfl⟩) (by assumption) ?_
                  (try simp only [Act.put, List.getElem_toArray, List.getElem_cons_succ, List.getElem_cons_zero, List.setIfInBounds_toArray, List.set_cons_zero, List.set_cons_succ])
                  refine wpAnyH_take (i := 10) (v := undef) rfl (by kernel_rfl) (by kernel_rfl) (by kernel_rfl) (fun _ _ _ h => h) (Or.inr ⟨by rfl, rfl⟩) (by assumption) ?_
                  (try simp only [Act.put, List.getElem_toArray, List.getElem_cons_succ, List.getElem_cons_zero, List.setIfInBounds_toArray, List.set_cons_zero, List.set_cons_succ])
                  refine wpAnyH_take (i := 11) (v := undef) rfl (by kernel_rfl) (by kernel_rfl) (by kernel_rfl) (fun _ _ _ h => h) (Or.inr ⟨by rfl, rfl⟩) (by assumption) ?_
                  (try simp only [Act.put, List.getElem_toArray, List.getElem_cons_succ, List.getElem_cons_zero, List.setIfInBounds_toArray, List.set_cons_zero, List.set_cons_succ])
                  refine wpAnyH_take (i := 12) (v := undef) rfl (by kernel_rfl) (by kernel_rfl) (by kernel_rfl) (fun _ _ _ h => h) (Or.inr ⟨by rfl, rfl⟩) (by assumption) ?_
                  (try simp only [Act.put, List.getElem_toArray, List.getElem_cons_succ, List.getElem_cons_zero, List.setIfInBounds_toArray, List.set_cons_zero, List.set_cons_succ])
                  refine wpAnyH_take (i := 13) (v := ?_) rfl (by kernel_rfl) (by kernel_rfl) (by kernel_rfl) (fun _ _ _ h => h) (Or.inl ⟨by kernel_rfl, ?_⟩) (by assumption) ?_
                  rotate_left 1
                  · (intro w hSw; (try dsimp only at hSw); (try simp only [List.getElem_toArray, List.getElem_cons_succ, List.getElem_cons_zero]); go_simp; (try with_reducible rfl))
                  (try simp only [Act.put, List.getElem_toArray, List.getElem_cons_succ, List.getElem_cons_zero, List.setIfInBounds_toArray, List.set_cons_zero, List.set_cons_succ])
                  refine wpAnyH_take (i := 14) (v := ?_) rfl (by kernel_rfl) (by kernel_rfl) (by kernel_rfl) (fun _ _ _ h => h) (Or.inl ⟨by kernel_rfl, ?_⟩) (by assumption) ?_
                  rotate_left 1
                  · (intro w hSw; (try dsimp only at hSw); (try simp only [List.getElem_toArray, List.getElem_cons_succ, List.getElem_cons_zero]); go_simp; (try with_reducible rfl))
                  (try simp only [Act.put, List.getElem_toArray, List.getElem_cons_succ, List.getElem_cons_zero, List.setIfInBounds_toArray, List.set_cons_zero, List.set_cons_succ])
                  refine wpAnyH_take (i := 15) (v := ?_) rfl (by kernel_rfl) (by kernel_rfl) (by kernel_rfl) (fun _ _ _ h => h) (Or.inl ⟨by kernel_rfl, ?_⟩) (by assumption) ?_
                  rotate_left 1
                  · (intro w hSw; (try dsimp only at hSw); (try simp only [List.getElem_toArray, List.getElem_cons_succ, List.getElem_cons_zero]); go_simp; (try with_reducible rfl))
                  (try simp only [Act.put, List.getElem_toArray, List.getElem_cons_succ, List.getElem_cons_zero, List.setIfInBounds_toArray, List.set_cons_zero, List.set_cons_succ])
                  refine wpAnyH_take (i := 16) (v := ?_) rfl (by kernel_rfl) (by kernel_rfl) (by kernel_rfl) (fun _ _ _ h => h) (Or.inl ⟨by kernel_rfl, ?_⟩) (by assumption) ?_
                  rotate_left 1
                  · (intro w hSw; (try dsimp only at hSw); (try simp only [List.getElem_toArray, List.getElem_cons_succ, List.getElem_cons_zero]); go_simp; (try with_reducible rfl))
                  (try simp only [Act.put, List.getElem_toArray, List.getElem_cons_succ, List.getElem_cons_zero, List.setIfInBounds_toArray, List.set_cons_zero, List.set_cons_succ])
                  refine wpAnyH_take (i := 18) (v := ?_) rfl (by kernel_rfl) (by kernel_rfl) (by kernel_rfl) (fun _ _ _ h => h) (Or.inl ⟨by kernel_rfl, ?_⟩) (by assumption) ?_
                  rotate_left 1
                  · (intro w hSw; (try dsimp only at hSw); (try simp only [List.getElem_toArray, List.getElem_cons_succ, List.getElem_cons_zero]); go_simp; (try with_reducible rfl))
                  (try simp only [Act.put, List.getElem_toArray, List.getElem_cons_succ, List.getElem_cons_zero, List.setIfInBounds_toArray, List.set_cons_zero, List.set_cons_succ])
                  refine wpAnyH_ready (rs := [17]) (by kernel_rfl) (by simp) ?_
                  refine AllReadyH.cons rfl (fun K hK => ?_) AllReadyH.nil
                  (try simp only [List.getElem_toArray, List.getElem_cons_succ, List.getElem_cons_zero])
                  go_simp
                  obtain ⟨kk, hkk⟩ := (TreeEv.size_ev _ y (Nat.le_refl _) (by omega)).rounds
                  refine (tree_Size.calls kk y.f0 y.f1 y.f2 y.f3 _ _ y.f4 _ _ (Kd.C_below Cy.out hHeld.2.2.2.2.2.2.2.2.2.2) hl3 hkk).mono ?_
                  rintro e w9 ⟨rfl, hb⟩
                  clear hkk
                  simp only []
                  refine hK.out _ _ ?_ (fun hHeld => ?_)
                  · (try dsimp only); exact TreeFix.keep10 hHeld hb
                  clear hK K
                  (try simp only [Act.put, List.getElem_toArray, List.getElem_cons_succ, List.getElem_cons_zero, List.setIfInBounds_toArray, List.set_cons_zero, List.set_cons_succ])
                  refine wpAnyH_ready (rs := [19]) (by kernel_rfl) (by simp) ?_
                  refine AllReadyH.cons rfl (fun K hK => ?_) AllReadyH.nil
                  (try simp only [List.getElem_toArray, List.getElem_cons_succ, List.getElem_cons_zero])
                  go_simp
                  obtain ⟨kk, hkk⟩ := (TreeEv.size_ev _ a (Nat.le_refl _) (by omega)).rounds
                  refine (tree_Size.calls kk a.f0 a.f1 a.f2 a.f3 _ _ a.f4 _ _ (Kd.C_below Ca.out hHeld.2.2.2.2.2.2.2.2.2.2) hla hkk).mono ?_
                  rintro e w9 ⟨rfl, hb⟩
                  clear hkk
                  simp only []
                  refine hK.out _ _ ?_ (fun hHeld => ?_)
                  · (try dsimp only); exact TreeFix.keep10 hHeld hb
                  clear hK K
                  (try simp only [Act.put, List.getElem_toArray, List.getElem_cons_succ, List.getElem_cons_zero, List.setIfInBounds_toArray, List.set_cons_zero, List.set_cons_succ])
                  refine wpAnyH_take (i := 20) (v := ?_) rfl (by kernel_rfl) (by kernel_rfl) (by kernel_rfl) (fun _ _ _ h => h) (Or.inl ⟨by kernel_rfl, ?_⟩) (by assumption) ?_
                  rotate_left 1
                  · (intro w hSw; (try dsimp only at hSw); (try simp only [List.getElem_toArray, List.getElem_cons_succ, List.getElem_cons_zero]); go_simp; (try with_reducible rfl))
                  (try simp only [Act.put, List.getElem_toArray, List.getElem_cons_succ, List.getElem_cons_zero, List.setIfInBounds_toArray, List.set_cons_zero, List.set_cons_succ])
                  refine wpAnyH_take (i := 21) (v := ?_) rfl (by kernel_rfl) (by kernel_rfl) (by kernel_rfl) (fun _ _ _ h => h) (Or.inl ⟨by kernel_rfl, ?_⟩) (by assumption) ?_
                  rotate_left 1
                  · (intro w hSw; (try dsimp only at hSw); (try simp only [List.getElem_toArray, List.getElem_cons_succ, List.getElem_cons_zero]); go_simp; (try with_reducible rfl))
                  (try simp only [Act.put, List.getElem_toArray, List.getElem_cons_succ, List.getElem_cons_zero, List.setIfInBounds_toArray, List.set_cons_zero, List.set_cons_succ])
                  refine wpAnyH_take (i := 22) (v := ?_) rfl (by kernel_rfl) (by kernel_rfl) (by kernel_rfl) (fun _ _ _ h => h) (Or.inl ⟨by kernel_rfl, ?_⟩) (by assumption) ?_
                  rotate_left 1
                  · (intro w hSw; (try dsimp only at hSw); (try simp only [List.getElem_toArray, List.getElem_cons_succ, List.getElem_cons_zero]); go_simp; (try with_reducible rfl))
                  (try simp only [Act.put, List.getElem_toArray, List.getElem_cons_succ, List.getElem_cons_zero, List.setIfInBounds_toArray, List.set_cons_zero, List.set_cons_succ])
                  refine wpAnyH_take (i := 23) (v := ?_) rfl (by kernel_rfl) (by kernel_rfl) (by kernel_rfl) (fun _ _ _ h => h) (Or.inl ⟨by kernel_rfl, ?_⟩) (by assumption) ?_
                  rotate_left 1
                  · (intro w hSw; (try dsimp only at hSw); (try simp only [List.getElem_toArray, List.getElem_cons_succ, List.getElem_cons_zero]); go_simp; (try with_reducible rfl))
                  (try simp only [Act.put, List.getElem_toArray, List.getElem_cons_succ, List.getElem_cons_zero, List.setIfInBounds_toArray, List.set_cons_zero, List.set_cons_succ])
                  refine wpAnyH_take (i := 25) (v := ?_) rfl (by kernel_rfl) (by kernel_rfl) (by kernel_rfl) (fun _ _ _ h => h) (Or.inl ⟨by kernel_rfl, ?_⟩) (by assumption) ?_
                  rotate_left 1
                  · (intro w hSw; (try dsimp only at hSw); (try simp only [List.getElem_toArray, List.getElem_cons_succ, List.getElem_cons_zero]); go_simp; (try with_reducible rfl))
                  (try simp only [Act.put, List.getElem_toArray, List.getElem_cons_succ, List.getElem_cons_zero, List.setIfInBounds_toArray, List.set_cons_zero, List.set_cons_succ])
                  refine wpAnyH_ready (rs := [24]) (by kernel_rfl) (by simp) ?_
                  refine AllReadyH.cons rfl (fun K hK => ?_) AllReadyH.nil
                  (try simp only [List.getElem_toArray, List.getElem_cons_succ, List.getElem_cons_zero])
                  go_simp
                  obtain ⟨kk, hkk⟩ := (TreeEv.depth_ev _ y (Nat.le_refl _) (by omega)).rounds
                  refine (tree_Depth.calls kk y.f0 y.f1 y.f2 y.f3 _ _ y.f4 _ _ (Kd.C_below Cy.out hHeld.2.2.2.2.2.2.2.2.2.2) hl3 hkk).mono ?_
                  rintro e w9 ⟨rfl, hb⟩
                  clear hkk
                  simp only []
                  refine hK.out _ _ ?_ (fun hHeld => ?_)
                  · (try dsimp only); exact TreeFix.keep10 hHeld hb
                  clear hK K
                  (try simp only [Act.put, List.getElem_toArray, List.getElem_cons_succ, List.getElem_cons_zero, List.setIfInBounds_toArray, List.set_cons_zero, List.set_cons_succ])
                  refine wpAnyH_ready (rs := [26]) (by kernel_rfl) (by simp) ?_
                  refine AllReadyH.cons rfl (fun K hK => ?_) AllReadyH.nil
                  (try simp only [List.getElem_toArray, List.getElem_cons_succ, List.getElem_cons_zero])
                  go_simp
                  obtain ⟨kk, hkk⟩ := (TreeEv.depth_ev _ a (Nat.le_refl _) (by omega)).rounds
                  refine (tree_Depth.calls kk a.f0 a.f1 a.f2 a.f3 _ _ a.f4 _ _ (Kd.C_below Ca.out hHeld.2.2.2.2.2.2.2.2.2.2) hla hkk).mono ?_
                  rintro e w9 ⟨rfl, hb⟩
                  clear hkk
                  simp only []
                  refine hK.out _ _ ?_ (fun hHeld => ?_)
                  · (try dsimp only); exact TreeFix.keep10 hHeld hb
                  clear hK K
                  (try simp only [Act.put, List.getElem_toArray, List.getElem_cons_succ, List.getElem_cons_zero, List.setIfInBounds_toArray, List.set_cons_zero, List.set_cons_succ])
                  refine wpAnyH_take (i := 27) (v := ?_) rfl (by kernel_rfl) (by kernel_rfl) (by kernel_rfl) (fun _ _ _ h => h) (Or.inl ⟨by kernel_rfl, ?_⟩) (by assumption) ?_
                  rotate_left 1
                  · (intro w hSw; (try dsimp only at hSw); (try simp only [List.getElem_toArray, List.getElem_cons_succ, List.getElem_cons_zero]); go_simp; (try with_reducible rfl))
                  (try simp only [Act.put, List.getElem_toArray, List.getElem_cons_succ, List.getElem_cons_zero, List.setIfInBounds_toArray, List.set_cons_zero, List.set_cons_succ])
                  refine wpAnyH_take (i := 28) (v := ?_) rfl (by kernel_rfl) (by kernel_rfl) (by kernel_rfl) (fun _ _ _ h => h) (Or.inl ⟨by kernel_rfl, ?_⟩) (by assumption) ?_
                  rotate_left 1
                  · (intro w hSw; (try dsimp only at hSw); (try simp only [List.getElem_toArray, List.getElem_cons_succ, List.getElem_cons_zero]); go_simp; (try with_reducible rfl))
                  (try simp only [Act.put, List.getElem_toArray, List.getElem_cons_succ, List.getElem_cons_zero, List.setIfInBounds_toArray, List.set_cons_zero, List.set_cons_succ])
                  refine wpAnyH_done (by kernel_rfl) ?_ _
                  have HBR9 := Lib.hid (below_step HBR.out hHeld.2.2.2.2.2.2.2.2.2.2)
                  clear hHeld
                  go_wp2_with fail
                  exact ⟨⟨k + 1, by omega, by first | rfl | go_num, HBR9⟩, by simp [intOf]; omega⟩
                | true =>
                  cases nm with
                  | true =>
                    go_upto_region 11 with (fail)
                    have HR : Hid (whole y = true) := Lib.hid (by rw [WL.out, decide_eq_false K0.out]; (try simp))
                    have z1 : decide ((size y : Int) ≤ (size a : Int)) = false := decide_eq_false (by omega)
                    have z1b : decide (size y ≤ size a) = false := decide_eq_false (by omega)
                    have z2 : decide ((height y : Int) ≤ (height a : Int)) = false := decide_eq_false (by omega)
                    have z2b : decide (height y ≤ height a) = false := decide_eq_false (by omega)
                    refine wp_region_held_drew (S := (fun w' => w'.cell? ⟨w.heap.size, 0, none⟩ = some (.int .i64 a.f0) ∧ w'.cell? ⟨w.heap.size, 1, none⟩ = some (.string a.f1) ∧ w'.cell? ⟨w.heap.size, 2, none⟩ = some (.int .i64 a.f2) ∧ w'.cell? ⟨w.heap.size, 3, none⟩ = some (.int .i64 a.f3) ∧ w'.cell? ⟨w.heap.size, 4, none⟩ = some (.slice Aa a.f4.length ca) ∧ w'.cell? ⟨wr.heap.size, 0, none⟩ = some (.int .i64 y.f0) ∧ w'.cell? ⟨wr.heap.size, 1, none⟩ = some (.string y.f1) ∧ w'.cell? ⟨wr.heap.size, 2, none⟩ = some (.int .i64 y.f2) ∧ w'.cell? ⟨wr.heap.size, 3, none⟩ = some (.int .i64 y.f3) ∧ w'.cell? ⟨wr.heap.size, 4, none⟩ = some (.slice A3 y.f4.length c3) ∧ Below w6.heap.size w6 w')) (by kernel_rfl) (by (try dsimp only); exact TreeFix.keep10 ⟨a0, a1, a2, a3, a4, y0, y1, y2, y3, y4, Below.refl _ _⟩ (below_drew1 (Below.refl _ _))) (fun hHeld => ?_)
                    change wpAnyH _ _ _ _ _ 29 #[false, false, false, false, false, false, false, false, false, false, false, false, false, false, false, false, false, false, false, false, false, false, false, false, false, false, false, false, false] _ _
                    refine wpAnyH_take (i := 0) (v := ?_) rfl (by kernel_rfl) (by kernel_rfl) (by kernel_rfl) (fun _ _ _ h => h) (Or.inl ⟨by kernel_rfl, ?_⟩) (by assumption) ?_
                    rotate_left 1
                    · (intro w hSw; (try dsimp only at hSw); (try simp only [List.getElem_toArray, List.getElem_cons_succ, List.getElem_cons_zero]); go_simp; (try with_reducible rfl))
                    (try simp only [Act.put, List.getElem_toArray, List.getElem_cons_succ, List.getElem_cons_zero, List.setIfInBounds_toArray, List.set_cons_zero, List.set_cons_succ])
                    refine wpAnyH_take (i := 2) (v := ?_) rfl (by kernel_rfl) (by kernel_rfl) (by kernel_rfl) (fun _ _ _ h => h) (Or.inl ⟨by kernel_rfl, ?_⟩) (by assumption) ?_
                    rotate_left 1
                    · (intro w hSw; (try dsimp only at hSw); (try simp only [List.getElem_toArray, List.getElem_cons_succ, List.getElem_cons_zero]); go_simp; (try with_reducible rfl))
                    (try simp only [Act.put, List.getElem_toArray, List.getElem_cons_succ, List.getElem_cons_zero, List.setIfInBounds_toArray, List.set_cons_zero, List.set_cons_succ])
                    refine wpAnyH_ready (rs := [1]) (by kernel_rfl) (by simp) ?_
                    refine AllReadyH.cons rfl (fun K hK => ?_) AllReadyH.nil
                    (try simp only [List.getElem_toArray, List.getElem_cons_succ, List.getElem_cons_zero])
                    go_simp
                    refine ((TreeMay.whole_any y hwy2 _ _ _ (Kd.C_below Cy.out hHeld.2.2.2.2.2.2.2.2.2.2) hl3 (HT.out.on (below_step HB.out hHeld.2.2.2.2.2.2.2.2.2.2)).here).mono fun e w' h => (⟨h.1.trans (by rw [HR.out]), h.2⟩ : e = .returned (.bool true) ∧ _)).mono ?_
                    rintro e w9 ⟨rfl, hb⟩
                    simp only []
                    refine hK.out _ _ ?_ (fun hHeld => ?_)
                    · (try dsimp only); exact TreeFix.keep10 hHeld hb
                    clear hK K
                    (try simp only [Act.put, List.getElem_toArray, List.getElem_cons_succ, List.getElem_cons_zero, List.setIfInBounds_toArray, List.set_cons_zero, List.set_cons_succ])
                    refine wpAnyH_take (i := 3) (v := ?_) rfl (by kernel_rfl) (by kernel_rfl) (by kernel_rfl) (fun _ _ _ h => h) (Or.inl ⟨by kernel_rfl, ?_⟩) (by assumption) ?_
                    rotate_left 1
                    · (intro w hSw; (try dsimp only at hSw); (try simp only [List.getElem_toArray, List.getElem_cons_succ, List.getElem_cons_zero]); go_simp; (try with_reducible rfl))
                    (try simp only [Act.put, List.getElem_toArray, List.getElem_cons_succ, List.getElem_cons_zero, List.setIfInBounds_toArray, List.set_cons_zero, List.set_cons_succ])
                    refine wpAnyH_take (i := 4) (v := ?_) rfl (by kernel_rfl) (by kernel_rfl) (by kernel_rfl) (fun _ _ _ h => h) (Or.inl ⟨by kernel_rfl, ?_⟩) (by assumption) ?_
                    rotate_left 1
                    · (intro w hSw; (try dsimp only at hSw); (try simp only [List.getElem_toArray, List.getElem_cons_succ, List.getElem_cons_zero]); go_simp; (try with_reducible rfl))
                    (try simp only [Act.put, List.getElem_toArray, List.getElem_cons_succ, List.getElem_cons_zero, List.setIfInBounds_toArray, List.set_cons_zero, List.set_cons_succ])
                    refine wpAnyH_take (i := 5) (v := ?_) rfl (by kernel_rfl) (by kernel_rfl) (by kernel_rfl) (fun _ _ _ h => h) (Or.inl ⟨by kernel_rfl, ?_⟩) (by assumption) ?_
                    rotate_left 1
                    · (intro w hSw; (try dsimp only at hSw); (try simp only [List.getElem_toArray, List.getElem_cons_succ, List.getElem_cons_zero]); go_simp; (try with_reducible rfl))
                    (try simp only [Act.put, List.getElem_toArray, List.getElem_cons_succ, List.getElem_cons_zero, List.setIfInBounds_toArray, List.set_cons_zero, List.set_cons_succ])
                    refine wpAnyH_take (i := 6) (v := undef) rfl (by kernel_rfl) (by kernel_rfl) (by kernel_rfl) (fun _ _ _ h => h) (Or.inr ⟨by rfl, rfl⟩) (by assumption) ?_
                    (try simp only [Act.put, List.getElem_toArray, List.getElem_cons_succ, List.getElem_cons_zero, List.setIfInBounds_toArray, List.set_cons_zero, List.set_cons_succ])
                    refine wpAnyH_take (i := 7) (v := undef) rfl (by kernel_rfl) (by kernel_rfl) (by kernel_rfl) (fun _ _ _ h => h) (Or.inr ⟨by rfl, rfl⟩) (by assumption) ?_
                    (try simp only [Act.put, List.getElem_toArray, List.getElem_cons_succ, List.getElem_cons_zero, List.setIfInBounds_toArray, List.set_cons_zero, List.set_cons_succ])
                    refine wpAnyH_take (i := 8) (v := ?_) rfl (by kernel_rfl) (by kernel_rfl) (by kernel_rfl) (fun _ _ _ h => h) (Or.inl ⟨by kernel_rfl, ?_⟩) (by assumption) ?_
                    rotate_left 1
                    · (intro w hSw; (try dsimp only at hSw); (try simp only [List.getElem_toArray, List.getElem_cons_succ, List.getElem_cons_zero]); go_simp; (try with_reducible rfl))
                    (try simp only [Act.put, List.getElem_toArray, List.getElem_cons_succ, List.getElem_cons_zero, List.setIfInBounds_toArray, List.set_cons_zero, List.set_cons_succ])
                    refine wpAnyH_take (i := 9) (v := ?_) rfl (by kernel_rfl) (by kernel_rfl) (by kernel_rfl) (fun _ _ _ h => h) (Or.inl ⟨by kernel_rfl, ?_⟩) (by assumption) ?_
                    rotate_left 1
                    · (intro w hSw; (try dsimp only at hSw); (try simp only [List.getElem_toArray, List.getElem_cons_succ, List.getElem_cons_zero]); go_simp; (try with_reducible rfl))
                    (try simp only [Act.put, List.getElem_toArray, List.getElem_cons_succ, List.getElem_cons_zero, List.setIfInBounds_toArray, List.set_cons_zero, List.set_cons_succ])
                    refine wpAnyH_take (i := 10) (v := undef) rfl (by kernel_rfl) (by kernel_rfl) (by kernel_rfl) (fun _ _ _ h => h) (Or.inr ⟨by rfl, rfl⟩) (by assumption) ?_
                    (try simp only [Act.put, List.getElem_toArray, List.getElem_cons_succ, List.getElem_cons_zero, List.setIfInBounds_toArray, List.set_cons_zero, List.set_cons_succ])
                    refine wpAnyH_take (i := 11) (v := undef) rfl (by kernel_rfl) (by kernel_rfl) (by kernel_rfl) (fun _ _ _ h => h) (Or.inr ⟨by rfl, rfl⟩) (by assumption) ?_
                    (try simp only [Act.put, List.getElem_toArray, List.getElem_cons_succ, List.getElem_cons_zero, List.setIfInBounds_toArray, List.set_cons_zero, List.set_cons_succ])
                    refine wpAnyH_take (i := 12) (v := ?_) rfl (by kernel_rfl) (by kernel_rfl) (by kernel_rfl) (fun _ _ _ h => h) (Or.inl ⟨by kernel_rfl, ?_⟩) (by assumption) ?_
                    rotate_left 1
                    · (intro w hSw; (try dsimp only at hSw); (try simp only [List.getElem_toArray, List.getElem_cons_succ, List.getElem_cons_zero]); go_simp; (try with_reducible rfl))
                    (try simp only [Act.put, List.getElem_toArray, List.getElem_cons_succ, List.getElem_cons_zero, List.setIfInBounds_toArray, List.set_cons_zero, List.set_cons_succ])
                    refine wpAnyH_take (i := 13) (v := ?_) rfl (by kernel_rfl) (by kernel_rfl) (by kernel_rfl) (fun _ _ _ h => h) (Or.inl ⟨by kernel_rfl, ?_⟩) (by assumption) ?_
                    rotate_left 1
                    · (intro w hSw; (try dsimp only at hSw); (try simp only [List.getElem_toArray, List.getElem_cons_succ, List.getElem_cons_zero]); go_simp; (try with_reducible rfl))
                    (try simp only [Act.put, List.getElem_toArray, List.getElem_cons_succ, List.getElem_cons_zero, List.setIfInBounds_toArray, List.set_cons_zero, List.set_cons_succ])
                    refine wpAnyH_take (i := 14) (v := ?_) rfl (by kernel_rfl) (by kernel_rfl) (by kernel_rfl) (fun _ _ _ h => h) (Or.inl ⟨by kernel_rfl, ?_⟩) (by assumption) ?_
                    rotate_left 1
                    · (intro w hSw; (try dsimp only at hSw); (try simp only [List.getElem_toArray, List.getElem_cons_succ, List.getElem_cons_zero]); go_simp; (try with_reducible rfl))
                    (try simp only [Act.put, List.getElem_toArray, List.getElem_cons_succ, List.getElem_cons_zero, List.setIfInBounds_toArray, List.set_cons_zero, List.set_cons_succ])
                    refine wpAnyH_take (i := 15) (v := ?_) rfl (by kernel_rfl) (by kernel_rfl) (by kernel_rfl) (fun _ _ _ h => h) (Or.inl ⟨by kernel_rfl, ?_⟩) (by assumption) ?_
                    rotate_left 1
                    · (intro w hSw; (try dsimp only at hSw); (try simp only [List.getElem_toArray, List.getElem_cons_succ, List.getElem_cons_zero]); go_simp; (try with_reducible rfl))
                    (try simp only [Act.put, List.getElem_toArray, List.getElem_cons_succ, List.getElem_cons_zero, List.setIfInBounds_toArray, List.set_cons_zero, List.set_cons_succ])
                    refine wpAnyH_take (i := 16) (v := ?_) rfl (by kernel_rfl) (by kernel_rfl) (by kernel_rfl) (fun _ _ _ h => h) (Or.inl ⟨by kernel_rfl, ?_⟩) (by assumption) ?_
                    rotate_left 1
                    · (intro w hSw; (try dsimp only at hSw); (try simp only [List.getElem_toArray, List.getElem_cons_succ, List.getElem_cons_zero]); go_simp; (try with_reducible rfl))
                    (try simp only [Act.put, List.getElem_toArray, List.getElem_cons_succ, List.getElem_cons_zero, List.setIfInBounds_toArray, List.set_cons_zero, List.set_cons_succ])
                    refine wpAnyH_take (i := 18) (v := ?_) rfl (by kernel_rfl) (by kernel_rfl) (by kernel_rfl) (fun _ _ _ h => h) (Or.inl ⟨by kernel_rfl, ?_⟩) (by assumption) ?_
                    rotate_left 1
                    · (intro w hSw; (try dsimp only at hSw); (try simp only [List.getElem_toArray, List.getElem_cons_succ, List.getElem_cons_zero]); go_simp; (try with_reducible rfl))
                    (try simp only [Act.put, List.getElem_toArray, List.getElem_cons_succ, List.getElem_cons_zero, List.setIfInBounds_toArray, List.set_cons_zero, List.set_cons_succ])
                    refine wpAnyH_ready (rs := [17]) (by kernel_rfl) (by simp) ?_
                    refine AllReadyH.cons rfl (fun K hK => ?_) AllReadyH.nil
                    (try simp only [List.getElem_toArray, List.getElem_cons_succ, List.getElem_cons_zero])
                    go_simp
                    obtain ⟨kk, hkk⟩ := (TreeEv.size_ev _ y (Nat.le_refl _) (by omega)).rounds
                    refine (tree_Size.calls kk y.f0 y.f1 y.f2 y.f3 _ _ y.f4 _ _ (Kd.C_below Cy.out hHeld.2.2.2.2.2.2.2.2.2.2) hl3 hkk).mono ?_
                    rintro e w9 ⟨rfl, hb⟩
                    clear hkk
                    simp only []
                    refine hK.out _ _ ?_ (fun hHeld => ?_)
                    · (try dsimp only); exact TreeFix.keep10 hHeld hb
                    clear hK K
                    (try simp only [Act.put, List.getElem_toArray, List.getElem_cons_succ, List.getElem_cons_zero, List.setIfInBounds_toArray, List.set_cons_zero, List.set_cons_succ])
                    refine wpAnyH_ready (rs := [19]) (by kernel_rfl) (by simp) ?_
                    refine AllReadyH.cons rfl (fun K hK => ?_) AllReadyH.nil
                    (try simp only [List.getElem_toArray, List.getElem_cons_succ, List.getElem_cons_zero])
                    go_simp
                    obtain ⟨kk, hkk⟩ := (TreeEv.size_ev _ a (Nat.le_refl _) (by omega)).rounds
                    refine (tree_Size.calls kk a.f0 a.f1 a.f2 a.f3 _ _ a.f4 _ _ (Kd.C_below Ca.out hHeld.2.2.2.2.2.2.2.2.2.2) hla hkk).mono ?_
                    rintro e w9 ⟨rfl, hb⟩
                    clear hkk
                    simp only []
                    refine hK.out _ _ ?_ (fun hHeld => ?_)
                    · (try dsimp only); exact TreeFix.keep10 hHeld hb
                    clear hK K
                    (try simp only [Act.put, List.getElem_toArray, List.getElem_cons_succ, List.getElem_cons_zero, List.setIfInBounds_toArray, List.set_cons_zero, List.set_cons_succ])
                    refine wpAnyH_take (i := 20) (v := ?_) rfl (by kernel_rfl) (by kernel_rfl) (by kernel_rfl) (fun _ _ _ h => h) (Or.inl ⟨by kernel_rfl, ?_⟩) (by assumption) ?_
                    rotate_left 1
                    · (intro w hSw; (try dsimp only at hSw); (try simp only [List.getElem_toArray, List.getElem_cons_succ, List.getElem_cons_zero]); go_simp; (try with_reducible rfl))
                    (try simp only [Act.put, List.getElem_toArray, List.getElem_cons_succ, List.getElem_cons_zero, List.setIfInBounds_toArray, List.set_cons_zero, List.set_cons_succ])
                    refine wpAnyH_take (i := 21) (v := ?_) rfl (by kernel_rfl) (by kernel_rfl) (by kernel_rfl) (fun _ _ _ h => h) (Or.inl ⟨by kernel_rfl, ?_⟩) (by assumption) ?_
                    rotate_left 1
                    · (intro w hSw; (try dsimp only at hSw); (try simp only [List.getElem_toArray, List.getElem_cons_succ, List.getElem_cons_zero]); go_simp; (try with_reducible rfl))
                    (try simp only [Act.put, List.getElem_toArray, List.getElem_cons_succ, List.getElem_cons_zero, List.setIfInBounds_toArray, List.set_cons_zero, List.set_cons_succ])
                    refine wpAnyH_take (i := 22) (v := ?_) rfl (by kernel_rfl) (by kernel_rfl) (by kernel_rfl) (fun _ _ _ h => h) (Or.inl ⟨by kernel_rfl, ?_⟩) (by assumption) ?_
                    rotate_left 1
                    · (intro w hSw; (try dsimp only at hSw); (try simp only [List.getElem_toArray, List.getElem_cons_succ, List.getElem_cons_zero]); go_simp; (try with_reducible rfl))
                    (try simp only [Act.put, List.getElem_toArray, List.getElem_cons_succ, List.getElem_cons_zero, List.setIfInBounds_toArray, List.set_cons_zero, List.set_cons_succ])
                    refine wpAnyH_take (i := 23) (v := ?_) rfl (by kernel_rfl) (by kernel_rfl) (by kernel_rfl) (fun _ _ _ h => h) (Or.inl ⟨by kernel_rfl, ?_⟩) (by assumption) ?_
                    rotate_left 1
                    · (intro w hSw; (try dsimp only at hSw); (try simp only [List.getElem_toArray, List.getElem_cons_succ, List.getElem_cons_zero]); go_simp; (try with_reducible rfl))
                    (try simp only [Act.put, List.getElem_toArray, List.getElem_cons_succ, List.getElem_cons_zero, List.setIfInBounds_toArray, List.set_cons_zero, List.set_cons_succ])
                    refine wpAnyH_take (i := 25) (v := ?_) rfl (by kernel_rfl) (by kernel_rfl) (by kernel_rfl) (fun _ _ _ h => h) (Or.inl ⟨by kernel_rfl, ?_⟩) (by assumption) ?_
                    rotate_left 1
                    · (intro w hSw; (try dsimp only at hSw); (try simp only [List.getElem_toArray, List.getElem_cons_succ, List.getElem_cons_zero]); go_simp; (try with_reducible rfl))
                    (try simp only [Act.put, List.getElem_toArray, List.getElem_cons_succ, List.getElem_cons_zero, List.setIfInBounds_toArray, List.set_cons_zero, List.set_cons_succ])
                    refine wpAnyH_ready (rs := [24]) (by kernel_rfl) (by simp) ?_
                    refine AllReadyH.cons rfl (fun K hK => ?_) AllReadyH.nil
                    (try simp only [List.getElem_toArray, List.getElem_cons_succ, List.getElem_cons_zero])
                    go_simp
                    obtain ⟨kk, hkk⟩ := (TreeEv.depth_ev _ y (Nat.le_refl _) (by omega)).rounds
                    refine (tree_Depth.calls kk y.f0 y.f1 y.f2 y.f3 _ _ y.f4 _ _ (Kd.C_below Cy.out hHeld.2.2.2.2.2.2.2.2.2.2) hl3 hkk).mono ?_
                    rintro e w9 ⟨rfl, hb⟩
                    clear hkk
                    simp only []
                    refine hK.out _ _ ?_ (fun hHeld => ?_)
                    · (try dsimp only); exact TreeFix.keep10 hHeld hb
                    clear hK K
                    (try simp only [Act.put, List.getElem_toArray, List.getElem_cons_succ, List.getElem_cons_zero, List.setIfInBounds_toArray, List.set_cons_zero, List.set_cons_succ])
                    refine wpAnyH_ready (rs := [26]) (by kernel_rfl) (by simp) ?_
                    refine AllReadyH.cons rfl (fun K hK => ?_) AllReadyH.nil
                    (try simp only [List.getElem_toArray, List.getElem_cons_succ, List.getElem_cons_zero])
                    go_simp
                    obtain ⟨kk, hkk⟩ := (TreeEv.depth_ev _ a (Nat.le_refl _) (by omega)).rounds
                    refine (tree_Depth.calls kk a.f0 a.f1 a.f2 a.f3 _ _ a.f4 _ _ (Kd.C_below Ca.out hHeld.2.2.2.2.2.2.2.2.2.2) hla hkk).mono ?_
                    rintro e w9 ⟨rfl, hb⟩
                    clear hkk
                    simp only []
                    refine hK.out _ _ ?_ (fun hHeld => ?_)
                    · (try dsimp only); exact TreeFix.keep10 hHeld hb
                    clear hK K
                    (try simp only [Act.put, List.getElem_toArray, List.getElem_cons_succ, List.getElem_cons_zero, List.setIfInBounds_toArray, List.set_cons_zero, List.set_cons_succ])
                    refine wpAnyH_take (i := 27) (v := ?_) rfl (by kernel_rfl) (by kernel_rfl) (by kernel_rfl) (fun _ _ _ h => h) (Or.inl ⟨by kernel_rfl, ?_⟩) (by assumption) ?_
                    rotate_left 1
                    · (intro w hSw; (try dsimp only at hSw); (try simp only [List.getElem_toArray, List.getElem_cons_succ, List.getElem_cons_zero]); go_simp; (try with_reducible rfl))
                    (try simp only [Act.put, List.getElem_toArray, List.getElem_cons_succ, List.getElem_cons_zero, List.setIfInBounds_toArray, List.set_cons_zero, List.set_cons_succ])
                    refine wpAnyH_take (i := 28) (v := ?_) rfl (by kernel_rfl) (by kernel_rfl) (by kernel_rfl) (fun _ _ _ h => h) (Or.inl ⟨by kernel_rfl, ?_⟩) (by assumption) ?_
                    rotate_left 1
                    · (intro w hSw; (try dsimp only at hSw); (try simp only [List.getElem_toArray, List.getElem_cons_succ, List.getElem_cons_zero]); go_simp; (try with_reducible rfl))
                    (try simp only [Act.put, List.getElem_toArray, List.getElem_cons_succ, List.getElem_cons_zero, List.setIfInBounds_toArray, List.set_cons_zero, List.set_cons_succ])
                    refine wpAnyH_done (by kernel_rfl) ?_ _
                    have HBR9 := Lib.hid (below_step HBR.out hHeld.2.2.2.2.2.2.2.2.2.2)
                    clear hHeld
                    go_wp2_with fail
                    exact ⟨⟨k + 1, by omega, by first | rfl | go_num, HBR9⟩, by simp [intOf]; omega⟩
                  | false =>
                    rcases Classical.em (k = 1) with q | q
                    · have b1 : ((k : Int) == 1) = true := beq_iff_eq.2 (by omega)
                      have K1 := Lib.hid q
                      clear q
                      go_upto_region 11 with (fail)
                      have HR : Hid (whole y = true) := Lib.hid (by rw [WL.out, decide_eq_false K0.out, decide_eq_true K1.out]; (try simp))
                      have z1 : decide ((size y : Int) ≤ (size a : Int)) = false := decide_eq_false (by omega)
                      have z1b : decide (size y ≤ size a) = false := decide_eq_false (by omega)
                      have z2 : decide ((height y : Int) ≤ (height a : Int)) = false := decide_eq_false (by omega)
                      have z2b : decide (height y ≤ height a) = false := decide_eq_false (by omega)
                      refine wp_region_held_drew (S := (fun w' => w'.cell? ⟨w.heap.size, 0, none⟩ = some (.int .i64 a.f0) ∧ w'.cell? ⟨w.heap.size, 1, none⟩ = some (.string a.f1) ∧ w'.cell? ⟨w.heap.size, 2, none⟩ = some (.int .i64 a.f2) ∧ w'.cell? ⟨w.heap.size, 3, none⟩ = some (.int .i64 a.f3) ∧ w'.cell? ⟨w.heap.size, 4, none⟩ = some (.slice Aa a.f4.length ca) ∧ w'.cell? ⟨wr.heap.size, 0, none⟩ = some (.int .i64 y.f0) ∧ w'.cell? ⟨wr.heap.size, 1, none⟩ = some (.string y.f1) ∧ w'.cell? ⟨wr.heap.size, 2, none⟩ = some (.int .i64 y.f2) ∧ w'.cell? ⟨wr.heap.size, 3, none⟩ = some (.int .i64 y.f3) ∧ w'.cell? ⟨wr.heap.size, 4, none⟩ = some (.slice A3 y.f4.length c3) ∧ Below w6.heap.size w6 w')) (by kernel_rfl) (by (try dsimp only); exact TreeFix.keep10 ⟨a0, a1, a2, a3, a4, y0, y1, y2, y3, y4, Below.refl _ _⟩ (below_drew1 (Below.refl _ _))) (fun hHeld => ?_)
                      change wpAnyH _ _ _ _ _ 29 #[false, false, false, false, false, false, false, false, false, false, false, false, false, false, false, false, false, false, false, false, false, false, false, false, false, false, false, false, false] _ _
                      refine wpAnyH_take (i := 0) (v := ?_) rfl (by kernel_rfl) (by kernel_rfl) (by kernel_rfl) (fun _ _ _ h => h) (Or.inl ⟨by kernel_rfl, ?_⟩) (by assumption) ?_
                      rotate_left 1
                      · (intro w hSw; (try dsimp only at hSw); (try simp only [List.getElem_toArray, List.getElem_cons_succ, List.getElem_cons_zero]); go_simp; (try with_reducible rfl))
                      (try simp only [Act.put, List.getElem_toArray, List.getElem_cons_succ, List.getElem_cons_zero, List.setIfInBounds_toArray, List.set_cons_zero, List.set_cons_succ])
                      refine wpAnyH_take (i := 2) (v := ?_) rfl (by kernel_rfl) (by kernel_rfl) (by kernel_rfl) (fun _ _ _ h => h) (Or.inl ⟨by kernel_rfl, ?_⟩) (by assumption) ?_
                      rotate_left 1
                      · (intro w hSw; (try dsimp only at hSw); (try simp only [List.getElem_toArray, List.getElem_cons_succ, List.getElem_cons_zero]); go_simp; (try with_reducible rfl))
                      (try simp only [Act.put, List.getElem_toArray, List.getElem_cons_succ, List.getElem_cons_zero, List.setIfInBounds_toArray, List.set_cons_zero, List.set_cons_succ])
                      refine wpAnyH_ready (rs := [1]) (by kernel_rfl) (by simp) ?_
                      refine AllReadyH.cons rfl (fun K hK => ?_) AllReadyH.nil
                      (try simp only [List.getElem_toArray, List.getElem_cons_succ, List.getElem_cons_zero])
                      go_simp
                      refine ((TreeMay.whole_any y hwy2 _ _ _ (Kd.C_below Cy.out hHeld.2.2.2.2.2.2.2.2.2.2) hl3 (HT.out.on (below_step HB.out hHeld.2.2.2.2.2.2.2.2.2.2)).here).mono fun e w' h => (⟨h.1.trans (by rw [HR.out]), h.2⟩ : e = .returned (.bool true) ∧ _)).mono ?_
                      rintro e w9 ⟨rfl, hb⟩
                      simp only []
                      refine hK.out _ _ ?_ (fun hHeld => ?_)
                      · (try dsimp only); exact TreeFix.keep10 hHeld hb
                      clear hK K
                      (try simp only [Act.put, List.getElem_toArray, List.getElem_cons_succ, List.getElem_cons_zero, List.setIfInBounds_toArray, List.set_cons_zero, List.set_cons_succ])
                      refine wpAnyH_take (i := 3) (v := ?_) rfl (by kernel_rfl) (by kernel_rfl) (by kernel_rfl) (fun _ _ _ h => h) (Or.inl ⟨by kernel_rfl, ?_⟩) (by assumption) ?_
                      rotate_left 1
                      · (intro w hSw; (try dsimp only at hSw); (try simp only [List.getElem_toArray, List.getElem_cons_succ, List.getElem_cons_zero]); go_simp; (try with_reducible rfl))
                      (try simp only [Act.put, List.getElem_toArray, List.getElem_cons_succ, List.getElem_cons_zero, List.setIfInBounds_toArray, List.set_cons_zero, List.set_cons_succ])
                      refine wpAnyH_take (i := 4) (v := ?_) rfl (by kernel_rfl) (by kernel_rfl) (by kernel_rfl) (fun _ _ _ h => h) (Or.inl ⟨by kernel_rfl, ?_⟩) (by assumption) ?_
                      rotate_left 1
                      · (intro w hSw; (try dsimp only at hSw); (try simp only [List.getElem_toArray, List.getElem_cons_succ, List.getElem_cons_zero]); go_simp; (try with_reducible rfl))
                      (try simp only [Act.put, List.getElem_toArray, List.getElem_cons_succ, List.getElem_cons_zero, List.setIfInBounds_toArray, List.set_cons_zero, List.set_cons_succ])
                      refine wpAnyH_take (i := 5) (v := ?_) rfl (by kernel_rfl) (by kernel_rfl) (by kernel_rfl) (fun _ _ _ h => h) (Or.inl ⟨by kernel_rfl, ?_⟩) (by assumption) ?_
                      rotate_left 1
                      · (intro w hSw; (try dsimp only at hSw); (try simp only [List.getElem_toArray, List.getElem_cons_succ, List.getElem_cons_zero]); go_simp; (try with_reducible rfl))
                      (try simp only [Act.put, List.getElem_toArray, List.getElem_cons_succ, List.getElem_cons_zero, List.setIfInBounds_toArray, List.set_cons_zero, List.set_cons_succ])
                      refine wpAnyH_take (i := 6) (v := ?_) rfl (by kernel_rfl) (by kernel_rfl) (by kernel_rfl) (fun _ _ _ h => h) (Or.inl ⟨by kernel_rfl, ?_⟩) (by assumption) ?_
                      rotate_left 1
                      · (intro w hSw; (try dsimp only at hSw); (try simp only [List.getElem_toArray, List.getElem_cons_succ, List.getElem_cons_zero]); go_simp; (try with_reducible rfl))
                      (try simp only [Act.put, List.getElem_toArray, List.getElem_cons_succ, List.getElem_cons_zero, List.setIfInBounds_toArray, List.set_cons_zero, List.set_cons_succ])
                      refine wpAnyH_take (i := 7) (v := ?_) rfl (by kernel_rfl) (by kernel_rfl) (by kernel_rfl) (fun _ _ _ h => h) (Or.inl ⟨by kernel_rfl, ?_⟩) (by assumption) ?_
                      rotate_left 1
                      · (intro w hSw; (try dsimp only at hSw); (try simp only [List.getElem_toArray, List.getElem_cons_succ, List.getElem_cons_zero]); go_simp; (try with_reducible rfl))
                      (try simp only [Act.put, List.getElem_toArray, List.getElem_cons_succ, List.getElem_cons_zero, List.setIfInBounds_toArray, List.set_cons_zero, List.set_cons_succ])
                      refine wpAnyH_take (i := 8) (v := ?_) rfl (by kernel_rfl) (by kernel_rfl) (by kernel_rfl) (fun _ _ _ h => h) (Or.inl ⟨by kernel_rfl, ?_⟩) (by assumption) ?_
                      rotate_left 1
                      · (intro w hSw; (try dsimp only at hSw); (try simp only [List.getElem_toArray, List.getElem_cons_succ, List.getElem_cons_zero]); go_simp; (try with_reducible rfl))
                      (try simp only [Act.put, List.getElem_toArray, List.getElem_cons_succ, List.getElem_cons_zero, List.setIfInBounds_toArray, List.set_cons_zero, List.set_cons_succ])
                      refine wpAnyH_take (i := 9) (v := ?_) rfl (by kernel_rfl) (by kernel_rfl) (by kernel_rfl) (fun _ _ _ h => h) (Or.inl ⟨by kernel_rfl, ?_⟩) (by assumption) ?_
                      rotate_left 1
                      · (intro w hSw; (try dsimp only at hSw); (try simp only [List.getElem_toArray, List.getElem_cons_succ, List.getElem_cons_zero]); go_simp; (try with_reducible rfl))
                      (try simp only [Act.put, List.getElem_toArray, List.getElem_cons_succ, List.getElem_cons_zero, List.setIfInBounds_toArray, List.set_cons_zero, List.set_cons_succ])
                      refine wpAnyH_take (i := 10) (v := undef) rfl (by kernel_rfl) (by kernel_rfl) (by kernel_rfl) (fun _ _ _ h => h) (Or.inr ⟨by rfl, rfl⟩) (by assumption) ?_
                      (try simp only [Act.put, List.getElem_toArray, List.getElem_cons_succ, List.getElem_cons_zero, List.setIfInBounds_toArray, List.set_cons_zero, List.set_cons_succ])
                      refine wpAnyH_take (i := 11) (v := undef) rfl (by kernel_rfl) (by kernel_rfl) (by kernel_rfl) (fun _ _ _ h => h) (Or.inr ⟨by rfl, rfl⟩) (by assumption) ?_
                      (try simp only [Act.put, List.getElem_toArray, List.getElem_cons_succ, List.getElem_cons_zero, List.setIfInBounds_toArray, List.set_cons_zero, List.set_cons_succ])
                      refine wpAnyH_take (i := 12) (v := ?_) rfl (by kernel_rfl) (by kernel_rfl) (by kernel_rfl) (fun _ _ _ h => h) (Or.inl ⟨by kernel_rfl, ?_⟩) (by assumption) ?_
                      rotate_left 1
                      · (intro w hSw; (try dsimp only at hSw); (try simp only [List.getElem_toArray, List.getElem_cons_succ, List.getElem_cons_zero]); go_simp; (try with_reducible rfl))
                      (try simp only [Act.put, List.getElem_toArray, List.getElem_cons_succ, List.getElem_cons_zero, List.setIfInBounds_toArray, List.set_cons_zero, List.set_cons_succ])
                      refine wpAnyH_take (i := 13) (v := ?_) rfl (by kernel_rfl) (by kernel_rfl) (by kernel_rfl) (fun _ _ _ h => h) (Or.inl ⟨by kernel_rfl, ?_⟩) (by assumption) ?_
                      rotate_left 1
                      · (intro w hSw; (try dsimp only at hSw); (try simp only [List.getElem_toArray, List.getElem_cons_succ, List.getElem_cons_zero]); go_simp; (try with_reducible rfl))
                      (try simp only [Act.put, List.getElem_toArray, List.getElem_cons_succ, List.getElem_cons_zero, List.setIfInBounds_toArray, List.set_cons_zero, List.set_cons_succ])
                      refine wpAnyH_take (i := 14) (v := ?_) rfl (by kernel_rfl) (by kernel_rfl) (by kernel_rfl) (fun _ _ _ h => h) (Or.inl ⟨by kernel_rfl, ?_⟩) (by assumption) ?_
                      rotate_left 1
                      · (intro w hSw; (try dsimp only at hSw); (try simp only [List.getElem_toArray, List.getElem_cons_succ, List.getElem_cons_zero]); go_simp; (try with_reducible rfl))
                      (try simp only [Act.put, List.getElem_toArray, List.getElem_cons_succ, List.getElem_cons_zero, List.setIfInBounds_toArray, List.set_cons_zero, List.set_cons_succ])
                      refine wpAnyH_take (i := 15) (v := ?_) rfl (by kernel_rfl) (by kernel_rfl) (by kernel_rfl) (fun _ _ _ h => h) (Or.inl ⟨by kernel_rfl, ?_⟩) (by assumption) ?_
                      rotate_left 1
                      · (intro w hSw; (try dsimp only at hSw); (try simp only [List.getElem_toArray, List.getElem_cons_succ, List.getElem_cons_zero]); go_simp; (try with_reducible rfl))
                      (try simp only [Act.put, List.getElem_toArray, List.getElem_cons_succ, List.getElem_cons_zero, List.setIfInBounds_toArray, List.set_cons_zero, List.set_cons_succ])
                      refine wpAnyH_take (i := 16) (v := ?_) rfl (by kernel_rfl) (by kernel_rfl) (by kernel_rfl) (fun _ _ _ h => h) (Or.inl ⟨by kernel_rfl, ?_⟩) (by assumption) ?_
                      rotate_left 1
                      · (intro w hSw; (try dsimp only at hSw); (try simp only [List.getElem_toArray, List.getElem_cons_succ, List.getElem_cons_zero]); go_simp; (try with_reducible rfl))
                      (try simp only [Act.put, List.getElem_toArray, List.getElem_cons_succ, List.getElem_cons_zero, List.setIfInBounds_toArray, List.set_cons_zero, List.set_cons_succ])
                      refine wpAnyH_take (i := 18) (v := ?_) rfl (by kernel_rfl) (by kernel_rfl) (by kernel_rfl) (fun _ _ _ h => h) (Or.inl ⟨by kernel_rfl, ?_⟩) (by assumption) ?_
                      rotate_left 1
                      · (intro w hSw; (try dsimp only at hSw); (try simp only [List.getElem_toArray, List.getElem_cons_succ, List.getElem_cons_zero]); go_simp; (try with_reducible rfl))
                      (try simp only [Act.put, List.getElem_toArray, List.getElem_cons_succ, List.getElem_cons_zero, List.setIfInBounds_toArray, List.set_cons_zero, List.set_cons_succ])
                      refine wpAnyH_ready (rs := [17]) (by kernel_rfl) (by simp) ?_
                      refine AllReadyH.cons rfl (fun K hK => ?_) AllReadyH.nil
                      (try simp only [List.getElem_toArray, List.getElem_cons_succ, List.getElem_cons_zero])
                      go_simp
                      obtain ⟨kk, hkk⟩ := (TreeEv.size_ev _ y (Nat.le_refl _) (by omega)).rounds
                      refine (tree_Size.calls kk y.f0 y.f1 y.f2 y.f3 _ _ y.f4 _ _ (Kd.C_below Cy.out hHeld.2.2.2.2.2.2.2.2.2.2) hl3 hkk).mono ?_
                      rintro e w9 ⟨rfl, hb⟩
                      clear hkk
                      simp only []
                      refine hK.out _ _ ?_ (fun hHeld => ?_)
                      · (try dsimp only); exact TreeFix.keep10 hHeld hb
                      clear hK K
                      (try simp only [Act.put, List.getElem_toArray, List.getElem_cons_succ, List.getElem_cons_zero, List.setIfInBounds_toArray, List.set_cons_zero, List.set_cons_succ])
                      refine wpAnyH_ready (rs := [19]) (by kernel_rfl) (by simp) ?_
                      refine AllReadyH.cons rfl (fun K hK => ?_) AllReadyH.nil
                      (try simp only [List.getElem_toArray, List.getElem_cons_succ, List.getElem_cons_zero])
                      go_simp
                      obtain ⟨kk, hkk⟩ := (TreeEv.size_ev _ a (Nat.le_refl _) (by omega)).rounds
                      refine (tree_Size.calls kk a.f0 a.f1 a.f2 a.f3 _ _ a.f4 _ _ (Kd.C_below Ca.out hHeld.2.2.2.2.2.2.2.2.2.2) hla hkk).mono ?_
                      rintro e w9 ⟨rfl, hb⟩
                      clear hkk
                      simp only []
                      refine hK.out _ _ ?_ (fun hHeld => ?_)
                      · (try dsimp only); exact TreeFix.keep10 hHeld hb
                      clear hK K
                      (try simp only [Act.put, List.getElem_toArray, List.getElem_cons_succ, List.getElem_cons_zero, List.setIfInBounds_toArray, List.set_cons_zero, List.set_cons_succ])
                      refine wpAnyH_take (i := 20) (v := ?_) rfl (by kernel_rfl) (by kernel_rfl) (by kernel_rfl) (fun _ _ _ h => h) (Or.inl ⟨by kernel_rfl, ?_⟩) (by assumption) ?_
                      rotate_left 1
                      · (intro w hSw; (try dsimp only at hSw); (try simp only [List.getElem_toArray, List.getElem_cons_succ, List.getElem_cons_zero]); go_simp; (try with_reducible rfl))
                      (try simp only [Act.put, List.getElem_toArray, List.getElem_cons_succ, List.getElem_cons_zero, List.setIfInBounds_toArray, List.set_cons_zero, List.set_cons_succ])
                      refine wpAnyH_take (i := 21) (v := ?_) rfl (by kernel_rfl) (by kernel_rfl) (by kernel_rfl) (fun _ _ _ h => h) (Or.inl ⟨by kernel_rfl, ?_⟩) (by assumption) ?_
                      rotate_left 1
                      · (intro w hSw; (try dsimp only at hSw); (try simp only [List.getElem_toArray, List.getElem_cons_succ, List.getElem_cons_zero]); go_simp; (try with_reducible rfl))
                      (try simp only [Act.put, List.getElem_toArray, List.getElem_cons_succ, List.getElem_cons_zero, List.setIfInBounds_toArray, List.set_cons_zero, List.set_cons_succ])
                      refine wpAnyH_take (i := 22) (v := ?_) rfl (by kernel_rfl) (by kernel_rfl) (by kernel_rfl) (fun _ _ _ h => h) (Or.inl ⟨by kernel_rfl, ?_⟩) (by assumption) ?_
                      rotate_left 1
                      · (intro w hSw; (try dsimp only at hSw); (try simp only [List.getElem_toArray, List.getElem_cons_succ, List.getElem_cons_zero]); go_simp; (try with_reducible rfl))
                      (try simp only [Act.put, List.getElem_toArray, List.getElem_cons_succ, List.getElem_cons_zero, List.setIfInBounds_toArray, List.set_cons_zero, List.set_cons_succ])
                      refine wpAnyH_take (i := 23) (v := ?_) rfl (by kernel_rfl) (by kernel_rfl) (by kernel_rfl) (fun _ _ _ h => h) (Or.inl ⟨by kernel_rfl, ?_⟩) (by assumption) ?_
                      rotate_left 1
                      · (intro w hSw; (try dsimp only at hSw); (try simp only [List.getElem_toArray, List.getElem_cons_succ, List.getElem_cons_zero]); go_simp; (try with_reducible rfl))
                      (try simp only [Act.put, List.getElem_toArray, List.getElem_cons_succ, List.getElem_cons_zero, List.setIfInBounds_toArray, List.set_cons_zero, List.set_cons_succ])
                      refine wpAnyH_take (i := 25) (v := ?_) rfl (by kernel_rfl) (by kernel_rfl) (by kernel_rfl) (fun _ _ _ h => h) (Or.inl ⟨by kernel_rfl, ?_⟩) (by assumption) ?_
                      rotate_left 1
                      · (intro w hSw; (try dsimp only at hSw); (try simp only [List.getElem_toArray, List.getElem_cons_succ, List.getElem_cons_zero]); go_simp; (try with_reducible rfl))
                      (try simp only [Act.put, List.getElem_toArray, List.getElem_cons_succ, List.getElem_cons_zero, List.setIfInBounds_toArray, List.set_cons_zero, List.set_cons_succ])
                      refine wpAnyH_ready (rs := [24]) (by kernel_rfl) (by simp) ?_
                      refine AllReadyH.cons rfl (fun K hK => ?_) AllReadyH.nil
                      (try simp only [List.getElem_toArray, List.getElem_cons_succ, List.getElem_cons_zero])
                      go_simp
                      obtain ⟨kk, hkk⟩ := (TreeEv.depth_ev _ y (Nat.le_refl _) (by omega)).rounds
                      refine (tree_Depth.calls kk y.f0 y.f1 y.f2 y.f3 _ _ y.f4 _ _ (Kd.C_below Cy.out hHeld.2.2.2.2.2.2.2.2.2.2) hl3 hkk).mono ?_
                      rintro e w9 ⟨rfl, hb⟩
                      clear hkk
                      simp only []
                      refine hK.out _ _ ?_ (fun hHeld => ?_)
                      · (try dsimp only); exact TreeFix.keep10 hHeld hb
                      clear hK K
                      (try simp only [Act.put, List.getElem_toArray, List.getElem_cons_succ, List.getElem_cons_zero, List.setIfInBounds_toArray, List.set_cons_zero, List.set_cons_succ])
                      refine wpAnyH_ready (rs := [26]) (by kernel_rfl) (by simp) ?_
                      refine AllReadyH.cons rfl (fun K hK => ?_) AllReadyH.nil
                      (try simp only [List.getElem_toArray, List.getElem_cons_succ, List.getElem_cons_zero])
                      go_simp
                      obtain ⟨kk, hkk⟩ := (TreeEv.depth_ev _ a (Nat.le_refl _) (by omega)).rounds
                      refine (tree_Depth.calls kk a.f0 a.f1 a.f2 a.f3 _ _ a.f4 _ _ (Kd.C_below Ca.out hHeld.2.2.2.2.2.2.2.2.2.2) hla hkk).mono ?_
                      rintro e w9 ⟨rfl, hb⟩
                      clear hkk
                      simp only []
                      refine hK.out _ _ ?_ (fun hHeld => ?_)
                      · (try dsimp only); exact TreeFix.keep10 hHeld hb
                      clear hK K
                      (try simp only [Act.put, List.getElem_toArray, List.getElem_cons_succ, List.getElem_cons_zero, List.setIfInBounds_toArray, List.set_cons_zero, List.set_cons_succ])
                      refine wpAnyH_take (i := 27) (v := ?_) rfl (by kernel_rfl) (by kernel_rfl) (by kernel_rfl) (fun _ _ _ h => h) (Or.inl ⟨by kernel_rfl, ?_⟩) (by assumption) ?_
                      rotate_left 1
                      · (intro w hSw; (try dsimp only at hSw); (try simp only [List.getElem_toArray, List.getElem_cons_succ, List.getElem_cons_zero]); go_simp; (try with_reducible rfl))
                      (try simp only [Act.put, List.getElem_toArray, List.getElem_cons_succ, List.getElem_cons_zero, List.setIfInBounds_toArray, List.set_cons_zero, List.set_cons_succ])
                      refine wpAnyH_take (i := 28) (v := ?_) rfl (by kernel_rfl) (by kernel_rfl) (by kernel_rfl) (fun _ _ _ h => h) (Or.inl ⟨by kernel_rfl, ?_⟩) (by assumption) ?_
                      rotate_left 1
                      · (intro w hSw; (try dsimp only at hSw); (try simp only [List.getElem_toArray, List.getElem_cons_succ, List.getElem_cons_zero]); go_simp; (try with_reducible rfl))
                      (try simp only [Act.put, List.getElem_toArray, List.getElem_cons_succ, List.getElem_cons_zero, List.setIfInBounds_toArray, List.set_cons_zero, List.set_cons_succ])
                      refine wpAnyH_done (by kernel_rfl) ?_ _
                      have HBR9 := Lib.hid (below_step HBR.out hHeld.2.2.2.2.2.2.2.2.2.2)
                      clear hHeld
                      go_wp2_with fail
                      exact ⟨⟨k + 1, by omega, by first | rfl | go_num, HBR9⟩, by simp [intOf]; omega⟩
                    · have b1 : ((k : Int) == 1) = false := beq_eq_false_iff_ne.2 (by omega)
                      have K1 := Lib.hid q
                      clear q
                      rcases Classical.em (3 < k) with q | q
                      · have b3 : decide ((k : Int) > 3) = true := decide_eq_true (by omega)
                        have b3a : decide ((3 : Int) < (k : Int)) = true := decide_eq_true (by omega)
                        have b3b : decide (3 < k) = true := decide_eq_true q
                        have K3 := Lib.hid q
                        clear q
                        go_upto_region 11 with (fail)
                        have HR : Hid (whole y = true) := Lib.hid (by rw [WL.out, decide_eq_false K0.out, decide_eq_true K3.out]; (try simp))
                        have z1 : decide ((size y : Int) ≤ (size a : Int)) = false := decide_eq_false (by omega)
                        have z1b : decide (size y ≤ size a) = false := decide_eq_false (by omega)
                        have z2 : decide ((height y : Int) ≤ (height a : Int)) = false := decide_eq_false (by omega)
                        have z2b : decide (height y ≤ height a) = false := decide_eq_false (by omega)
                        refine wp_region_held_drew (S := (fun w' => w'.cell? ⟨w.heap.size, 0, none⟩ = some (.int .i64 a.f0) ∧ w'.cell? ⟨w.heap.size, 1, none⟩ = some (.string a.f1) ∧ w'.cell? ⟨w.heap.size, 2, none⟩ = some (.int .i64 a.f2) ∧ w'.cell? ⟨w.heap.size, 3, none⟩ = some (.int .i64 a.f3) ∧ w'.cell? ⟨w.heap.size, 4, none⟩ = some (.slice Aa a.f4.length ca) ∧ w'.cell? ⟨wr.heap.size, 0, none⟩ = some (.int .i64 y.f0) ∧ w'.cell? ⟨wr.heap.size, 1, none⟩ = some (.string y.f1) ∧ w'.cell? ⟨wr.heap.size, 2, none⟩ = some (.int .i64 y.f2) ∧ w'.cell? ⟨wr.heap.size, 3, none⟩ = some (.int .i64 y.f3) ∧ w'.cell? ⟨wr.heap.size, 4, none⟩ = some (.slice A3 y.f4.length c3) ∧ Below w6.heap.size w6 w')) (by kernel_rfl) (by (try dsimp only); exact TreeFix.keep10 ⟨a0, a1, a2, a3, a4, y0, y1, y2, y3, y4, Below.refl _ _⟩ (below_drew1 (Below.refl _ _))) (fun hHeld => ?_)
                        change wpAnyH _ _ _ _ _ 29 #[false, false, false, false, false, false, false, false, false, false, false, false, false, false, false, false, false, false, false, false, false, false, false, false, false, false, false, false, false] _ _
                        refine wpAnyH_take (i := 0) (v := ?_) rfl (by kernel_rfl) (by kernel_rfl) (by kernel_rfl) (fun _ _ _ h => h) (Or.inl ⟨by kernel_rfl, ?_⟩) (by assumption) ?_
                        rotate_left 1
                        · (intro w hSw; (try dsimp only at hSw); (try simp only [List.getElem_toArray, List.getElem_cons_succ, List.getElem_cons_zero]); go_simp; (try with_reducible rfl))
                        (try simp only [Act.put, List.getElem_toArray, List.getElem_cons_succ, List.getElem_cons_zero, List.setIfInBounds_toArray, List.set_cons_zero, List.set_cons_succ])
                        refine wpAnyH_take (i := 2) (v := ?_) rfl (by kernel_rfl) (by kernel_rfl) (by kernel_rfl) (fun _ _ _ h => h) (Or.inl ⟨by kernel_rfl, ?_⟩) (by assumption) ?_
                        rotate_left 1
                        · (intro w hSw; (try dsimp only at hSw); (try simp only [List.getElem_toArray, List.getElem_cons_succ, List.getElem_cons_zero]); go_simp; (try with_reducible rfl))
                        (try simp only [Act.put, List.getElem_toArray, List.getElem_cons_succ, List.getElem_cons_zero, List.setIfInBounds_toArray, List.set_cons_zero, List.set_cons_succ])
                        refine wpAnyH_ready (rs := [1]) (by kernel_rfl) (by simp) ?_
                        refine AllReadyH.cons rfl (fun K hK => ?_) AllReadyH.nil
                        (try simp only [List.getElem_toArray, List.getElem_cons_succ, List.getElem_cons_zero])
                        go_simp
                        refine ((TreeMay.whole_any y hwy2 _ _ _ (Kd.C_below Cy.out hHeld.2.2.2.2.2.2.2.2.2.2) hl3 (HT.out.on (below_step HB.out hHeld.2.2.2.2.2.2.2.2.2.2)).here).mono fun e w' h => (⟨h.1.trans (by rw [HR.out]), h.2⟩ : e = .returned (.bool true) ∧ _)).mono ?_
                        rintro e w9 ⟨rfl, hb⟩
                        simp only []
                        refine hK.out _ _ ?_ (fun hHeld => ?_)
                        · (try dsimp only); exact TreeFix.keep10 hHeld hb
                        clear hK K
                        (try simp only [Act.put, List.getElem_toArray, List.getElem_cons_succ, List.getElem_cons_zero, List.setIfInBounds_toArray, List.set_cons_zero, List.set_cons_succ])
                        refine wpAnyH_take (i := 3) (v := ?_) rfl (by kernel_rfl) (by kernel_rfl) (by kernel_rfl) (fun _ _ _ h => h) (Or.inl ⟨by kernel_rfl, ?_⟩) (by assumption) ?_
                        rotate_left 1
                        · (intro w hSw; (try dsimp only at hSw); (try simp only [List.getElem_toArray, List.getElem_cons_succ, List.getElem_cons_zero]); go_simp; (try with_reducible rfl))
                        (try simp only [Act.put, List.getElem_toArray, List.getElem_cons_succ, List.getElem_cons_zero, List.setIfInBounds_toArray, List.set_cons_zero, List.set_cons_succ])
                        refine wpAnyH_take (i := 4) (v := ?_) rfl (by kernel_rfl) (by kernel_rfl) (by kernel_rfl) (fun _ _ _ h => h) (Or.inl ⟨by kernel_rfl, ?_⟩) (by assumption) ?_
                        rotate_left 1
                        · (intro w hSw; (try dsimp only at hSw); (try simp only [List.getElem_toArray, List.getElem_cons_succ, List.getElem_cons_zero]); go_simp; (try with_reducible rfl))
                        (try simp only [Act.put, List.getElem_toArray, List.getElem_cons_succ, List.getElem_cons_zero, List.setIfInBounds_toArray, List.set_cons_zero, List.set_cons_succ])
                        refine wpAnyH_take (i := 5) (v := ?_) rfl (by kernel_rfl) (by kernel_rfl) (by kernel_rfl) (fun _ _ _ h => h) (Or.inl ⟨by kernel_rfl, ?_⟩) (by assumption) ?_
                        rotate_left 1
                        · (intro w hSw; (try dsimp only at hSw); (try simp only [List.getElem_toArray, List.getElem_cons_succ, List.getElem_cons_zero]); go_simp; (try with_reducible rfl))
                        (try simp only [Act.put, List.getElem_toArray, List.getElem_cons_succ, List.getElem_cons_zero, List.setIfInBounds_toArray, List.set_cons_zero, List.set_cons_succ])
                        refine wpAnyH_take (i := 6) (v := ?_) rfl (by kernel_rfl) (by kernel_rfl) (by kernel_rfl) (fun _ _ _ h => h) (Or.inl ⟨by kernel_rfl, ?_⟩) (by assumption) ?_
                        rotate_left 1
                        · (intro w hSw; (try dsimp only at hSw); (try simp only [List.getElem_toArray, List.getElem_cons_succ, List.getElem_cons_zero]); go_simp; (try with_reducible rfl))
                        (try simp only [Act.put, List.getElem_toArray, List.getElem_cons_succ, List.getElem_cons_zero, List.setIfInBounds_toArray, List.set_cons_zero, List.set_cons_succ])
                        refine wpAnyH_take (i := 7) (v := ?_) rfl (by kernel_rfl) (by kernel_rfl) (by kernel_rfl) (fun _ _ _ h => h) (Or.inl ⟨by kernel_rfl, ?_⟩) (by assumption) ?_
                        rotate_left 1
                        · (intro w hSw; (try dsimp only at hSw); (try simp only [List.getElem_toArray, List.getElem_cons_succ, List.getElem_cons_zero]); go_simp; (try with_reducible rfl))
                        (try simp only [Act.put, List.getElem_toArray, List.getElem_cons_succ, List.getElem_cons_zero, List.setIfInBounds_toArray, List.set_cons_zero, List.set_cons_succ])
                        refine wpAnyH_take (i := 8) (v := ?_) rfl (by kernel_rfl) (by kernel_rfl) (by kernel_rfl) (fun _ _ _ h => h) (Or.inl ⟨by kernel_rfl, ?_⟩) (by assumption) ?_
                        rotate_left 1
                        · (intro w hSw; (try dsimp only at hSw); (try simp only [List.getElem_toArray, List.getElem_cons_succ, List.getElem_cons_zero]); go_simp; (try with_reducible rfl))
                        (try simp only [Act.put, List.getElem_toArray, List.getElem_cons_succ, List.getElem_cons_zero, List.setIfInBounds_toArray, List.set_cons_zero, List.set_cons_succ])
                        refine wpAnyH_take (i := 9) (v := ?_) rfl (by kernel_rfl) (by kernel_rfl) (by kernel_rfl) (fun _ _ _ h => h) (Or.inl ⟨by kernel_rfl, ?_⟩) (by assumption) ?_
                        rotate_left 1
                        · (intro w hSw; (try dsimp only at hSw); (try simp only [List.getElem_toArray, List.getElem_cons_succ, List.getElem_cons_zero]); go_simp; (try with_reducible rfl))
                        (try simp only [Act.put, List.getElem_toArray, List.getElem_cons_succ, List.getElem_cons_zero, List.setIfInBounds_toArray, List.set_cons_zero, List.set_cons_succ])
                        refine wpAnyH_take (i := 10) (v := ?_) rfl (by kernel_rfl) (by kernel_rfl) (by kernel_rfl) (fun _ _ _ h => h) (Or.inl ⟨by kernel_rfl, ?_⟩) (by assumption) ?_
                        rotate_left 1
                        · (intro w hSw; (try dsimp only at hSw); (try simp only [List.getElem_toArray, List.getElem_cons_succ, List.getElem_cons_zero]); go_simp; (try with_reducible rfl))
                        (try simp only [Act.put, List.getElem_toArray, List.getElem_cons_succ, List.getElem_cons_zero, List.setIfInBounds_toArray, List.set_cons_zero, List.set_cons_succ])
                        refine wpAnyH_take (i := 11) (v := ?_) rfl (by kernel_rfl) (by kernel_rfl) (by kernel_rfl) (fun _ _ _ h => h) (Or.inl ⟨by kernel_rfl, ?_⟩) (by assumption) ?_
                        rotate_left 1
                        · (intro w hSw; (try dsimp only at hSw); (try simp only [List.getElem_toArray, List.getElem_cons_succ, List.getElem_cons_zero]); go_simp; (try with_reducible rfl))
                        (try simp only [Act.put, List.getElem_toArray, List.getElem_cons_succ, List.getElem_cons_zero, List.setIfInBounds_toArray, List.set_cons_zero, List.set_cons_succ])
                        refine wpAnyH_take (i := 12) (v := ?_) rfl (by kernel_rfl) (by kernel_rfl) (by kernel_rfl) (fun _ _ _ h => h) (Or.inl ⟨by kernel_rfl, ?_⟩) (by assumption) ?_
                        rotate_left 1
                        · (intro w hSw; (try dsimp only at hSw); (try simp only [List.getElem_toArray, List.getElem_cons_succ, List.getElem_cons_zero]); go_simp; (try with_reducible rfl))
                        (try simp only [Act.put, List.getElem_toArray, List.getElem_cons_succ, List.getElem_cons_zero, List.setIfInBounds_toArray, List.set_cons_zero, List.set_cons_succ])
                        refine wpAnyH_take (i := 13) (v := ?_) rfl (by kernel_rfl) (by kernel_rfl) (by kernel_rfl) (fun _ _ _ h => h) (Or.inl ⟨by kernel_rfl, ?_⟩) (by assumption) ?_
                        rotate_left 1
                        · (intro w hSw; (try dsimp only at hSw); (try simp only [List.getElem_toArray, List.getElem_cons_succ, List.getElem_cons_zero]); go_simp; (try with_reducible rfl))
                        (try simp only [Act.put, List.getElem_toArray, List.getElem_cons_succ, List.getElem_cons_zero, List.setIfInBounds_toArray, List.set_cons_zero, List.set_cons_succ])
                        refine wpAnyH_take (i := 14) (v := ?_) rfl (by kernel_rfl) (by kernel_rfl) (by kernel_rfl) (fun _ _ _ h => h) (Or.inl ⟨by kernel_rfl, ?_⟩) (by assumption) ?_
                        rotate_left 1
                        · (intro w hSw; (try dsimp only at hSw); (try simp only [List.getElem_toArray, List.getElem_cons_succ, List.getElem_cons_zero]); go_simp; (try with_reducible rfl))
                        (try simp only [Act.put, List.getElem_toArray, List.getElem_cons_succ, List.getElem_cons_zero, List.setIfInBounds_toArray, List.set_cons_zero, List.set_cons_succ])
                        refine wpAnyH_take (i := 15) (v := ?_) rfl (by kernel_rfl) (by kernel_rfl) (by kernel_rfl) (fun _ _ _ h => h) (Or.inl ⟨by kernel_rfl, ?_⟩) (by assumption) ?_
                        rotate_left 1
                        · (intro w hSw; (try dsimp only at hSw); (try simp only [List.getElem_toArray, List.getElem_cons_succ, List.getElem_cons_zero]); go_simp; (try with_reducible rfl))
                        (try simp only [Act.put, List.getElem_toArray, List.getElem_cons_succ, List.getElem_cons_zero, List.setIfInBounds_toArray, List.set_cons_zero, List.set_cons_succ])
                        refine wpAnyH_take (i := 16) (v := ?_) rfl (by kernel_rfl) (by kernel_rfl) (by kernel_rfl) (fun _ _ _ h => h) (Or.inl ⟨by kernel_rfl, ?_⟩) (by assumption) ?_
                        rotate_left 1
                        · (intro w hSw; (try dsimp only at hSw); (try simp only [List.getElem_toArray, List.getElem_cons_succ, List.getElem_cons_zero]); go_simp; (try with_reducible rfl))
                        (try simp only [Act.put, List.getElem_toArray, List.getElem_cons_succ, List.getElem_cons_zero, List.setIfInBounds_toArray, List.set_cons_zero, List.set_cons_succ])
                        refine wpAnyH_take (i := 18) (v := ?_) rfl (by kernel_rfl) (by kernel_rfl) (by kernel_rfl) (fun _ _ _ h => h) (Or.inl ⟨by kernel_rfl, ?_⟩) (by assumption) ?_
                        rotate_left 1
                        · (intro w hSw; (try dsimp only at hSw); (try simp only [List.getElem_toArray, List.getElem_cons_succ, List.getElem_cons_zero]); go_simp; (try with_reducible rfl))
                        (try simp only [Act.put, List.getElem_toArray, List.getElem_cons_succ, List.getElem_cons_zero, List.setIfInBounds_toArray, List.set_cons_zero, List.set_cons_succ])
                        refine wpAnyH_ready (rs := [17]) (by kernel_rfl) (by simp) ?_
                        refine AllReadyH.cons rfl (fun K hK => ?_) AllReadyH.nil
                        (try simp only [List.getElem_toArray, List.getElem_cons_succ, List.getElem_cons_zero])
                        go_simp
                        obtain ⟨kk, hkk⟩ := (TreeEv.size_ev _ y (Nat.le_refl _) (by omega)).rounds
                        refine (tree_Size.calls kk y.f0 y.f1 y.f2 y.f3 _ _ y.f4 _ _ (Kd.C_below Cy.out hHeld.2.2.2.2.2.2.2.2.2.2) hl3 hkk).mono ?_
                        rintro e w9 ⟨rfl, hb⟩
                        clear hkk
                        simp only []
                        refine hK.out _ _ ?_ (fun hHeld => ?_)
                        · (try dsimp only); exact TreeFix.keep10 hHeld hb
                        clear hK K
                        (try simp only [Act.put, List.getElem_toArray, List.getElem_cons_succ, List.getElem_cons_zero, List.setIfInBounds_toArray, List.set_cons_zero, List.set_cons_succ])
                        refine wpAnyH_ready (rs := [19]) (by kernel_rfl) (by simp) ?_
                        refine AllReadyH.cons rfl (fun K hK => ?_) AllReadyH.nil
                        (try simp only [List.getElem_toArray, List.getElem_cons_succ, List.getElem_cons_zero])
                        go_simp
                        obtain ⟨kk, hkk⟩ := (TreeEv.size_ev _ a (Nat.le_refl _) (by omega)).rounds
                        refine (tree_Size.calls kk a.f0 a.f1 a.f2 a.f3 _ _ a.f4 _ _ (Kd.C_below Ca.out hHeld.2.2.2.2.2.2.2.2.2.2) hla hkk).mono ?_
                        rintro e w9 ⟨rfl, hb⟩
                        clear hkk
                        simp only []
                        refine hK.out _ _ ?_ (fun hHeld => ?_)
                        · (try dsimp only); exact TreeFix.keep10 hHeld hb
                        clear hK K
                        (try simp only [Act.put, List.getElem_toArray, List.getElem_cons_succ, List.getElem_cons_zero, List.setIfInBounds_toArray, List.set_cons_zero, List.set_cons_succ])
                        refine wpAnyH_take (i := 20) (v := ?_) rfl (by kernel_rfl) (by kernel_rfl) (by kernel_rfl) (fun _ _ _ h => h) (Or.inl ⟨by kernel_rfl, ?_⟩) (by assumption) ?_
                        rotate_left 1
                        · (intro w hSw; (try dsimp only at hSw); (try simp only [List.getElem_toArray, List.getElem_cons_succ, List.getElem_cons_zero]); go_simp; (try with_reducible rfl))
                        (try simp only [Act.put, List.getElem_toArray, List.getElem_cons_succ, List.getElem_cons_zero, List.setIfInBounds_toArray, List.set_cons_zero, List.set_cons_succ])
                        refine wpAnyH_take (i := 21) (v := ?_) rfl (by kernel_rfl) (by kernel_rfl) (by kernel_rfl) (fun _ _ _ h => h) (Or.inl ⟨by kernel_rfl, ?_⟩) (by assumption) ?_
                        rotate_left 1
                        · (intro w hSw; (try dsimp only at hSw); (try simp only [List.getElem_toArray, List.getElem_cons_succ, List.getElem_cons_zero]); go_simp; (try with_reducible rfl))
                        (try simp only [Act.put, List.getElem_toArray, List.getElem_cons_succ, List.getElem_cons_zero, List.setIfInBounds_toArray, List.set_cons_zero, List.set_cons_succ])
                        refine wpAnyH_take (i := 22) (v := ?_) rfl (by kernel_rfl) (by kernel_rfl) (by kernel_rfl) (fun _ _ _ h => h) (Or.inl ⟨by kernel_rfl, ?_⟩) (by assumption) ?_
                        rotate_left 1
                        · (intro w hSw; (try dsimp only at hSw); (try simp only [List.getElem_toArray, List.getElem_cons_succ, List.getElem_cons_zero]); go_simp; (try with_reducible rfl))
                        (try simp only [Act.put, List.getElem_toArray, List.getElem_cons_succ, List.getElem_cons_zero, List.setIfInBounds_toArray, List.set_cons_zero, List.set_cons_succ])
                        refine wpAnyH_take (i := 23) (v := ?_) rfl (by kernel_rfl) (by kernel_rfl) (by kernel_rfl) (fun _ _ _ h => h) (Or.inl ⟨by kernel_rfl, ?_⟩) (by assumption) ?_
                        rotate_left 1
                        · (intro w hSw; (try dsimp only at hSw); (try simp only [List.getElem_toArray, List.getElem_cons_succ, List.getElem_cons_zero]); go_simp; (try with_reducible rfl))
                        (try simp only [Act.put, List.getElem_toArray, List.getElem_cons_succ, List.getElem_cons_zero, List.setIfInBounds_toArray, List.set_cons_zero, List.set_cons_succ])
                        refine wpAnyH_take (i := 25) (v := ?_) rfl (by kernel_rfl) (by kernel_rfl) (by kernel_rfl) (fun _ _ _ h => h) (Or.inl ⟨by kernel_rfl, ?_⟩) (by assumption) ?_
                        rotate_left 1
                        · (intro w hSw; (try dsimp only at hSw); (try simp only [List.getElem_toArray, List.getElem_cons_succ, List.getElem_cons_zero]); go_simp; (try with_reducible rfl))
                        (try simp only [Act.put, List.getElem_toArray, List.getElem_cons_succ, List.getElem_cons_zero, List.setIfInBounds_toArray, List.set_cons_zero, List.set_cons_succ])
                        refine wpAnyH_ready (rs := [24]) (by kernel_rfl) (by simp) ?_
                        refine AllReadyH.cons rfl (fun K hK => ?_) AllReadyH.nil
                        (try simp only [List.getElem_toArray, List.getElem_cons_succ, List.getElem_cons_zero])
                        go_simp
                        obtain ⟨kk, hkk⟩ := (TreeEv.depth_ev _ y (Nat.le_refl _) (by omega)).rounds
                        refine (tree_Depth.calls kk y.f0 y.f1 y.f2 y.f3 _ _ y.f4 _ _ (Kd.C_below Cy.out hHeld.2.2.2.2.2.2.2.2.2.2) hl3 hkk).mono ?_
                        rintro e w9 ⟨rfl, hb⟩
                        clear hkk
                        simp only []
                        refine hK.out _ _ ?_ (fun hHeld => ?_)
                        · (try dsimp only); exact TreeFix.keep10 hHeld hb
                        clear hK K
                        (try simp only [Act.put, List.getElem_toArray, List.getElem_cons_succ, List.getElem_cons_zero, List.setIfInBounds_toArray, List.set_cons_zero, List.set_cons_succ])
                        refine wpAnyH_ready (rs := [26]) (by kernel_rfl) (by simp) ?_
                        refine AllReadyH.cons rfl (fun K hK => ?_) AllReadyH.nil
                        (try simp only [List.getElem_toArray, List.getElem_cons_succ, List.getElem_cons_zero])
                        go_simp
                        obtain ⟨kk, hkk⟩ := (TreeEv.depth_ev _ a (Nat.le_refl _) (by omega)).rounds
                        refine (tree_Depth.calls kk a.f0 a.f1 a.f2 a.f3 _ _ a.f4 _ _ (Kd.C_below Ca.out hHeld.2.2.2.2.2.2.2.2.2.2) hla hkk).mono ?_
                        rintro e w9 ⟨rfl, hb⟩
                        clear hkk
                        simp only []
                        refine hK.out _ _ ?_ (fun hHeld => ?_)
                        · (try dsimp only); exact TreeFix.keep10 hHeld hb
                        clear hK K
                        (try simp only [Act.put, List.getElem_toArray, List.getElem_cons_succ, List.getElem_cons_zero, List.setIfInBounds_toArray, List.set_cons_zero, List.set_cons_succ])
                        refine wpAnyH_take (i := 27) (v := ?_) rfl (by kernel_rfl) (by kernel_rfl) (by kernel_rfl) (fun _ _ _ h => h) (Or.inl ⟨by kernel_rfl, ?_⟩) (by assumption) ?_
                        rotate_left 1
                        · (intro w hSw; (try dsimp only at hSw); (try simp only [List.getElem_toArray, List.getElem_cons_succ, List.getElem_cons_zero]); go_simp; (try with_reducible rfl))
                        (try simp only [Act.put, List.getElem_toArray, List.getElem_cons_succ, List.getElem_cons_zero, List.setIfInBounds_toArray, List.set_cons_zero, List.set_cons_succ])
                        refine wpAnyH_take (i := 28) (v := ?_) rfl (by kernel_rfl) (by kernel_rfl) (by kernel_rfl) (fun _ _ _ h => h) (Or.inl ⟨by kernel_rfl, ?_⟩) (by assumption) ?_
                        rotate_left 1
                        · (intro w hSw; (try dsimp only at hSw); (try simp only [List.getElem_toArray, List.getElem_cons_succ, List.getElem_cons_zero]); go_simp; (try with_reducible rfl))
                        (try simp only [Act.put, List.getElem_toArray, List.getElem_cons_succ, List.getElem_cons_zero, List.setIfInBounds_toArray, List.set_cons_zero, List.set_cons_succ])
                        refine wpAnyH_done (by kernel_rfl) ?_ _
                        have HBR9 := Lib.hid (below_step HBR.out hHeld.2.2.2.2.2.2.2.2.2.2)
                        clear hHeld
                        go_wp2_with fail
                        exact ⟨⟨k + 1, by omega, by first | rfl | go_num, HBR9⟩, by simp [intOf]; omega⟩
                      · have b3 : decide ((k : Int) > 3) = false := decide_eq_false (by omega)
                        have b3a : decide ((3 : Int) < (k : Int)) = false := decide_eq_false (by omega)
                        have b3b : decide (3 < k) = false := decide_eq_false q
                        have K3 := Lib.hid q
                        clear q
                        go_upto_region 11 with (fail)
                        have HR : Hid (whole y = false) := Lib.hid (by rw [WL.out, decide_eq_false K0.out, decide_eq_false K1.out, decide_eq_false K3.out]; (try simp))
                        have z1 : decide ((size y : Int) ≤ (size a : Int)) = false := decide_eq_false (by omega)
                        have z1b : decide (size y ≤ size a) = false := decide_eq_false (by omega)
                        have z2 : decide ((height y : Int) ≤ (height a : Int)) = false := decide_eq_false (by omega)
                        have z2b : decide (height y ≤ height a) = false := decide_eq_false (by omega)
                        refine wp_region_held_drew (S := (fun w' => w'.cell? ⟨w.heap.size, 0, none⟩ = some (.int .i64 a.f0) ∧ w'.cell? ⟨w.heap.size, 1, none⟩ = some (.string a.f1) ∧ w'.cell? ⟨w.heap.size, 2, none⟩ = some (.int .i64 a.f2) ∧ w'.cell? ⟨w.heap.size, 3, none⟩ = some (.int .i64 a.f3) ∧ w'.cell? ⟨w.heap.size, 4, none⟩ = some (.slice Aa a.f4.length ca) ∧ w'.cell? ⟨wr.heap.size, 0, none⟩ = some (.int .i64 y.f0) ∧ w'.cell? ⟨wr.heap.size, 1, none⟩ = some (.string y.f1) ∧ w'.cell? ⟨wr.heap.size, 2, none⟩ = some (.int .i64 y.f2) ∧ w'.cell? ⟨wr.heap.size, 3, none⟩ = some (.int .i64 y.f3) ∧ w'.cell? ⟨wr.heap.size, 4, none⟩ = some (.slice A3 y.f4.length c3) ∧ Below w6.heap.size w6 w')) (by kernel_rfl) (by (try dsimp only); exact TreeFix.keep10 ⟨a0, a1, a2, a3, a4, y0, y1, y2, y3, y4, Below.refl _ _⟩ (below_drew1 (Below.refl _ _))) (fun hHeld => ?_)
                        change wpAnyH _ _ _ _ _ 29 #[false, false, false, false, false, false, false, false, false, false, false, false, false, false, false, false, false, false, false, false, false, false, false, false, false, false, false, false, false] _ _
                        refine wpAnyH_take (i := 0) (v := ?_) rfl (by kernel_rfl) (by kernel_rfl) (by kernel_rfl) (fun _ _ _ h => h) (Or.inl ⟨by kernel_rfl, ?_⟩) (by assumption) ?_
                        rotate_left 1
                        · (intro w hSw; (try dsimp only at hSw); (try simp only [List.getElem_toArray, List.getElem_cons_succ, List.getElem_cons_zero]); go_simp; (try with_reducible rfl))
                        (try simp only [Act.put, List.getElem_toArray, List.getElem_cons_succ, List.getElem_cons_zero, List.setIfInBounds_toArray, List.set_cons_zero, List.set_cons_succ])
                        refine wpAnyH_take (i := 2) (v := ?_) rfl (by kernel_rfl) (by kernel_rfl) (by kernel_rfl) (fun _ _ _ h => h) (Or.inl ⟨by kernel_rfl, ?_⟩) (by assumption) ?_
                        rotate_left 1
                        · (intro w hSw; (try dsimp only at hSw); (try simp only [List.getElem_toArray, List.getElem_cons_succ, List.getElem_cons_zero]); go_simp; (try with_reducible rfl))
                        (try simp only [Act.put, List.getElem_toArray, List.getElem_cons_succ, List.getElem_cons_zero, List.setIfInBounds_toArray, List.set_cons_zero, List.set_cons_succ])
                        refine wpAnyH_ready (rs := [1]) (by kernel_rfl) (by simp) ?_
                        refine AllReadyH.cons rfl (fun K hK => ?_) AllReadyH.nil
                        (try simp only [List.getElem_toArray, List.getElem_cons_succ, List.getElem_cons_zero])
                        go_simp
                        refine ((TreeMay.whole_any y hwy2 _ _ _ (Kd.C_below Cy.out hHeld.2.2.2.2.2.2.2.2.2.2) hl3 (HT.out.on (below_step HB.out hHeld.2.2.2.2.2.2.2.2.2.2)).here).mono fun e w' h => (⟨h.1.trans (by rw [HR.out]), h.2⟩ : e = .returned (.bool false) ∧ _)).mono ?_
                        rintro e w9 ⟨rfl, hb⟩
                        simp only []
                        refine hK.out _ _ ?_ (fun hHeld => ?_)
                        · (try dsimp only); exact TreeFix.keep10 hHeld hb
                        clear hK K
                        (try simp only [Act.put, List.getElem_toArray, List.getElem_cons_succ, List.getElem_cons_zero, List.setIfInBounds_toArray, List.set_cons_zero, List.set_cons_succ])
                        refine wpAnyH_take (i := 3) (v := ?_) rfl (by kernel_rfl) (by kernel_rfl) (by kernel_rfl) (fun _ _ _ h => h) (Or.inl ⟨by kernel_rfl, ?_⟩) (by assumption) ?_
                        rotate_left 1
                        · (intro w hSw; (try dsimp only at hSw); (try simp only [List.getElem_toArray, List.getElem_cons_succ, List.getElem_cons_zero]); go_simp; (try with_reducible rfl))
                        (try simp only [Act.put, List.getElem_toArray, List.getElem_cons_succ, List.getElem_cons_zero, List.setIfInBounds_toArray, List.set_cons_zero, List.set_cons_succ])
                        refine wpAnyH_take (i := 4) (v := ?_) rfl (by kernel_rfl) (by kernel_rfl) (by kernel_rfl) (fun _ _ _ h => h) (Or.inl ⟨by kernel_rfl, ?_⟩) (by assumption) ?_
                        rotate_left 1
                        · (intro w hSw; (try dsimp only at hSw); (try simp only [List.getElem_toArray, List.getElem_cons_succ, List.getElem_cons_zero]); go_simp; (try with_reducible rfl))
                        (try simp only [Act.put, List.getElem_toArray, List.getElem_cons_succ, List.getElem_cons_zero, List.setIfInBounds_toArray, List.set_cons_zero, List.set_cons_succ])
                        refine wpAnyH_take (i := 5) (v := ?_) rfl (by kernel_rfl) (by kernel_rfl) (by kernel_rfl) (fun _ _ _ h => h) (Or.inl ⟨by kernel_rfl, ?_⟩) (by assumption) ?_
                        rotate_left 1
                        · (intro w hSw; (try dsimp only at hSw); (try simp only [List.getElem_toArray, List.getElem_cons_succ, List.getElem_cons_zero]); go_simp; (try with_reducible rfl))
                        (try simp only [Act.put, List.getElem_toArray, List.getElem_cons_succ, List.getElem_cons_zero, List.setIfInBounds_toArray, List.set_cons_zero, List.set_cons_succ])
                        refine wpAnyH_take (i := 6) (v := ?_) rfl (by kernel_rfl) (by kernel_rfl) (by kernel_rfl) (fun _ _ _ h => h) (Or.inl ⟨by kernel_rfl, ?_⟩) (by assumption) ?_
                        rotate_left 1
                        · (intro w hSw; (try dsimp only at hSw); (try simp only [List.getElem_toArray, List.getElem_cons_succ, List.getElem_cons_zero]); go_simp; (try with_reducible rfl))
                        (try simp only [Act.put, List.getElem_toArray, List.getElem_cons_succ, List.getElem_cons_zero, List.setIfInBounds_toArray, List.set_cons_zero, List.set_cons_succ])
                        refine wpAnyH_take (i := 7) (v := ?_) rfl (by kernel_rfl) (by kernel_rfl) (by kernel_rfl) (fun _ _ _ h => h) (Or.inl ⟨by kernel_rfl, ?_⟩) (by assumption) ?_
                        rotate_left 1
                        · (intro w hSw; (try dsimp only at hSw); (try simp only [List.getElem_toArray, List.getElem_cons_succ, List.getElem_cons_zero]); go_simp; (try with_reducible rfl))
                        (try simp only [Act.put, List.getElem_toArray, List.getElem_cons_succ, List.getElem_cons_zero, List.setIfInBounds_toArray, List.set_cons_zero, List.set_cons_succ])
                        refine wpAnyH_take (i := 8) (v := ?_) rfl (by kernel_rfl) (by kernel_rfl) (by kernel_rfl) (fun _ _ _ h => h) (Or.inl ⟨by kernel_rfl, ?_⟩) (by assumption) ?_
                        rotate_left 1
                        · (intro w hSw; (try dsimp only at hSw); (try simp only [List.getElem_toArray, List.getElem_cons_succ, List.getElem_cons_zero]); go_simp; (try with_reducible rfl))
                        (try simp only [Act.put, List.getElem_toArray, List.getElem_cons_succ, List.getElem_cons_zero, List.setIfInBounds_toArray, List.set_cons_zero, List.set_cons_succ])
                        refine wpAnyH_take (i := 9) (v := ?_) rfl (by kernel_rfl) (by kernel_rfl) (by kernel_rfl) (fun _ _ _ h => h) (Or.inl ⟨by kernel_rfl, ?_⟩) (by assumption) ?_
                        rotate_left 1
                        · (intro w hSw; (try dsimp only at hSw); (try simp only [List.getElem_toArray, List.getElem_cons_succ, List.getElem_cons_zero]); go_simp; (try with_reducible rfl))
                        (try simp only [Act.put, List.getElem_toArray, List.getElem_cons_succ, List.getElem_cons_zero, List.setIfInBounds_toArray, List.set_cons_zero, List.set_cons_succ])
                        refine wpAnyH_take (i := 10) (v := ?_) rfl (by kernel_rfl) (by kernel_rfl) (by kernel_rfl) (fun _ _ _ h => h) (Or.inl ⟨by kernel_rfl, ?_⟩) (by assumption) ?_
                        rotate_left 1
                        · (intro w hSw; (try dsimp only at hSw); (try simp only [List.getElem_toArray, List.getElem_cons_succ, List.getElem_cons_zero]); go_simp; (try with_reducible rfl))
                        (try simp only [Act.put, List.getElem_toArray, List.getElem_cons_succ, List.getElem_cons_zero, List.setIfInBounds_toArray, List.set_cons_zero, List.set_cons_succ])
                        refine wpAnyH_take (i := 11) (v := ?_) rfl (by kernel_rfl) (by kernel_rfl) (by kernel_rfl) (fun _ _ _ h => h) (Or.inl ⟨by kernel_rfl, ?_⟩) (by assumption) ?_
                        rotate_left 1
                        · (intro w hSw; (try dsimp only at hSw); (try simp only [List.getElem_toArray, List.getElem_cons_succ, List.getElem_cons_zero]); go_simp; (try with_reducible rfl))
                        (try simp only [Act.put, List.getElem_toArray, List.getElem_cons_succ, List.getElem_cons_zero, List.setIfInBounds_toArray, List.set_cons_zero, List.set_cons_succ])
                        refine wpAnyH_take (i := 12) (v := ?_) rfl (by kernel_rfl) (by kernel_rfl) (by kernel_rfl) (fun _ _ _ h => h) (Or.inl ⟨by kernel_rfl, ?_⟩) (by assumption) ?_
                        rotate_left 1
                        · (intro w hSw; (try dsimp only at hSw); (try simp only [List.getElem_toArray, List.getElem_cons_succ, List.getElem_cons_zero]); go_simp; (try with_reducible rfl))
                        (try simp only [Act.put, List.getElem_toArray, List.getElem_cons_succ, List.getElem_cons_zero, List.setIfInBounds_toArray, List.set_cons_zero, List.set_cons_succ])
                        refine wpAnyH_take (i := 13) (v := ?_) rfl (by kernel_rfl) (by kernel_rfl) (by kernel_rfl) (fun _ _ _ h => h) (Or.inl ⟨by kernel_rfl, ?_⟩) (by assumption) ?_
                        rotate_left 1
                        · (intro w hSw; (try dsimp only at hSw); (try simp only [List.getElem_toArray, List.getElem_cons_succ, List.getElem_cons_zero]); go_simp; (try with_reducible rfl))
                        (try simp only [Act.put, List.getElem_toArray, List.getElem_cons_succ, List.getElem_cons_zero, List.setIfInBounds_toArray, List.set_cons_zero, List.set_cons_succ])
                        refine wpAnyH_take (i := 14) (v := ?_) rfl (by kernel_rfl) (by kernel_rfl) (by kernel_rfl) (fun _ _ _ h => h) (Or.inl ⟨by kernel_rfl, ?_⟩) (by assumption) ?_
                        rotate_left 1
                        · (intro w hSw; (try dsimp only at hSw); (try simp only [List.getElem_toArray, List.getElem_cons_succ, List.getElem_cons_zero]); go_simp; (try with_reducible rfl))
                        (try simp only [Act.put, List.getElem_toArray, List.getElem_cons_succ, List.getElem_cons_zero, List.setIfInBounds_toArray, List.set_cons_zero, List.set_cons_succ])
                        refine wpAnyH_take (i := 15) (v := ?_) rfl (by kernel_rfl) (by kernel_rfl) (by kernel_rfl) (fun _ _ _ h => h) (Or.inl ⟨by kernel_rfl, ?_⟩) (by assumption) ?_
                        rotate_left 1
                        · (intro w hSw; (try dsimp only at hSw); (try simp only [List.getElem_toArray, List.getElem_cons_succ, List.getElem_cons_zero]); go_simp; (try with_reducible rfl))
                        (try simp only [Act.put, List.getElem_toArray, List.getElem_cons_succ, List.getElem_cons_zero, List.setIfInBounds_toArray, List.set_cons_zero, List.set_cons_succ])
                        refine wpAnyH_take (i := 16) (v := ?_) rfl (by kernel_rfl) (by kernel_rfl) (by kernel_rfl) (fun _ _ _ h => h) (Or.inl ⟨by kernel_rfl, ?_⟩) (by assumption) ?_
                        rotate_left 1
                        · (intro w hSw; (try dsimp only at hSw); (try simp only [List.getElem_toArray, List.getElem_cons_succ, List.getElem_cons_zero]); go_simp; (try with_reducible rfl))
                        (try simp only [Act.put, List.getElem_toArray, List.getElem_cons_succ, List.getElem_cons_zero, List.setIfInBounds_toArray, List.set_cons_zero, List.set_cons_succ])
                        refine wpAnyH_take (i := 18) (v := ?_) rfl (by kernel_rfl) (by kernel_rfl) (by kernel_rfl) (fun _ _ _ h => h) (Or.inl ⟨by kernel_rfl, ?_⟩) (by assumption) ?_
                        rotate_left 1
                        · (intro w hSw; (try dsimp only at hSw); (try simp only [List.getElem_toArray, List.getElem_cons_succ, List.getElem_cons_zero]); go_simp; (try with_reducible rfl))
                        (try simp only [Act.put, List.getElem_toArray, List.getElem_cons_succ, List.getElem_cons_zero, List.setIfInBounds_toArray, List.set_cons_zero, List.set_cons_succ])
                        refine wpAnyH_ready (rs := [17]) (by kernel_rfl) (by simp) ?_
                        refine AllReadyH.cons rfl (fun K hK => ?_) AllReadyH.nil
                        (try simp only [List.getElem_toArray, List.getElem_cons_succ, List.getElem_cons_zero])
                        go_simp
                        obtain ⟨kk, hkk⟩ := (TreeEv.size_ev _ y (Nat.le_refl _) (by omega)).rounds
                        refine (tree_Size.calls kk y.f0 y.f1 y.f2 y.f3 _ _ y.f4 _ _ (Kd.C_below Cy.out hHeld.2.2.2.2.2.2.2.2.2.2) hl3 hkk).mono ?_
                        rintro e w9 ⟨rfl, hb⟩
                        clear hkk
                        simp only []
                        refine hK.out _ _ ?_ (fun hHeld => ?_)
                        · (try dsimp only); exact TreeFix.keep10 hHeld hb
                        clear hK K
                        (try simp only [Act.put, List.getElem_toArray, List.getElem_cons_succ, List.getElem_cons_zero, List.setIfInBounds_toArray, List.set_cons_zero, List.set_cons_succ])
                        refine wpAnyH_ready (rs := [19]) (by kernel_rfl) (by simp) ?_
                        refine AllReadyH.cons rfl (fun K hK => ?_) AllReadyH.nil
                        (try simp only [List.getElem_toArray, List.getElem_cons_succ, List.getElem_cons_zero])
                        go_simp
                        obtain ⟨kk, hkk⟩ := (TreeEv.size_ev _ a (Nat.le_refl _) (by omega)).rounds
                        refine (tree_Size.calls kk a.f0 a.f1 a.f2 a.f3 _ _ a.f4 _ _ (Kd.C_below Ca.out hHeld.2.2.2.2.2.2.2.2.2.2) hla hkk).mono ?_
                        rintro e w9 ⟨rfl, hb⟩
                        clear hkk
                        simp only []
                        refine hK.out _ _ ?_ (fun hHeld => ?_)
                        · (try dsimp only); exact TreeFix.keep10 hHeld hb
                        clear hK K
                        (try simp only [Act.put, List.getElem_toArray, List.getElem_cons_succ, List.getElem_cons_zero, List.setIfInBounds_toArray, List.set_cons_zero, List.set_cons_succ])
                        refine wpAnyH_take (i := 20) (v := ?_) rfl (by kernel_rfl) (by kernel_rfl) (by kernel_rfl) (fun _ _ _ h => h) (Or.inl ⟨by kernel_rfl, ?_⟩) (by assumption) ?_
                        rotate_left 1
                        · (intro w hSw; (try dsimp only at hSw); (try simp only [List.getElem_toArray, List.getElem_cons_succ, List.getElem_cons_zero]); go_simp; (try with_reducible rfl))
                        (try simp only [Act.put, List.getElem_toArray, List.getElem_cons_succ, List.getElem_cons_zero, List.setIfInBounds_toArray, List.set_cons_zero, List.set_cons_succ])
                        refine wpAnyH_take (i := 21) (v := ?_) rfl (by kernel_rfl) (by kernel_rfl) (by kernel_rfl) (fun _ _ _ h => h) (Or.inl ⟨by kernel_rfl, ?_⟩) (by assumption) ?_
                        rotate_left 1
                        · (intro w hSw; (try dsimp only at hSw); (try simp only [List.getElem_toArray, List.getElem_cons_succ, List.getElem_cons_zero]); go_simp; (try with_reducible rfl))
                        (try simp only [Act.put, List.getElem_toArray, List.getElem_cons_succ, List.getElem_cons_zero, List.setIfInBounds_toArray, List.set_cons_zero, List.set_cons_succ])
                        refine wpAnyH_take (i := 22) (v := ?_) rfl (by kernel_rfl) (by kernel_rfl) (by kernel_rfl) (fun _ _ _ h => h) (Or.inl ⟨by kernel_rfl, ?_⟩) (by assumption) ?_
                        rotate_left 1
                        · (intro w hSw; (try dsimp only at hSw); (try simp only [List.getElem_toArray, List.getElem_cons_succ, List.getElem_cons_zero]); go_simp; (try with_reducible rfl))
                        (try simp only [Act.put, List.getElem_toArray, List.getElem_cons_succ, List.getElem_cons_zero, List.setIfInBounds_toArray, List.set_cons_zero, List.set_cons_succ])
                        refine wpAnyH_take (i := 23) (v := ?_) rfl (by kernel_rfl) (by kernel_rfl) (by kernel_rfl) (fun _ _ _ h => h) (Or.inl ⟨by kernel_rfl, ?_⟩) (by assumption) ?_
                        rotate_left 1
                        · (intro w hSw; (try dsimp only at hSw); (try simp only [List.getElem_toArray, List.getElem_cons_succ, List.getElem_cons_zero]); go_simp; (try with_reducible rfl))
                        (try simp only [Act.put, List.getElem_toArray, List.getElem_cons_succ, List.getElem_cons_zero, List.setIfInBounds_toArray, List.set_cons_zero, List.set_cons_succ])
                        refine wpAnyH_take (i := 25) (v := ?_) rfl (by kernel_rfl) (by kernel_rfl) (by kernel_rfl) (fun _ _ _ h => h) (Or.inl ⟨by kernel_rfl, ?_⟩) (by assumption) ?_
                        rotate_left 1
                        · (intro w hSw; (try dsimp only at hSw); (try simp only [List.getElem_toArray, List.getElem_cons_succ, List.getElem_cons_zero]); go_simp; (try with_reducible rfl))
                        (try simp only [Act.put, List.getElem_toArray, List.getElem_cons_succ, List.getElem_cons_zero, List.setIfInBounds_toArray, List.set_cons_zero, List.set_cons_succ])
                        refine wpAnyH_ready (rs := [24]) (by kernel_rfl) (by simp) ?_
                        refine AllReadyH.cons rfl (fun K hK => ?_) AllReadyH.nil
                        (try simp only [List.getElem_toArray, List.getElem_cons_succ, List.getElem_cons_zero])
                        go_simp
                        obtain ⟨kk, hkk⟩ := (TreeEv.depth_ev _ y (Nat.le_refl _) (by omega)).rounds
                        refine (tree_Depth.calls kk y.f0 y.f1 y.f2 y.f3 _ _ y.f4 _ _ (Kd.C_below Cy.out hHeld.2.2.2.2.2.2.2.2.2.2) hl3 hkk).mono ?_
                        rintro e w9 ⟨rfl, hb⟩
                        clear hkk
                        simp only []
                        refine hK.out _ _ ?_ (fun hHeld => ?_)
                        · (try dsimp only); exact TreeFix.keep10 hHeld hb
                        clear hK K
                        (try simp only [Act.put, List.getElem_toArray, List.getElem_cons_succ, List.getElem_cons_zero, List.setIfInBounds_toArray, List.set_cons_zero, List.set_cons_succ])
                        refine wpAnyH_ready (rs := [26]) (by kernel_rfl) (by simp) ?_
                        refine AllReadyH.cons rfl (fun K hK => ?_) AllReadyH.nil
                        (try simp only [List.getElem_toArray, List.getElem_cons_succ, List.getElem_cons_zero])
                        go_simp
                        obtain ⟨kk, hkk⟩ := (TreeEv.depth_ev _ a (Nat.le_refl _) (by omega)).rounds
                        refine (tree_Depth.calls kk a.f0 a.f1 a.f2 a.f3 _ _ a.f4 _ _ (Kd.C_below Ca.out hHeld.2.2.2.2.2.2.2.2.2.2) hla hkk).mono ?_
                        rintro e w9 ⟨rfl, hb⟩
                        clear hkk
                        simp only []
                        refine hK.out _ _ ?_ (fun hHeld => ?_)
                        · (try dsimp only); exact TreeFix.keep10 hHeld hb
                        clear hK K
                        (try simp only [Act.put, List.getElem_toArray, List.getElem_cons_succ, List.getElem_cons_zero, List.setIfInBounds_toArray, List.set_cons_zero, List.set_cons_succ])
                        refine wpAnyH_take (i := 27) (v := ?_) rfl (by kernel_rfl) (by kernel_rfl) (by kernel_rfl) (fun _ _ _ h => h) (Or.inl ⟨by kernel_rfl, ?_⟩) (by assumption) ?_
                        rotate_left 1
                        · (intro w hSw; (try dsimp only at hSw); (try simp only [List.getElem_toArray, List.getElem_cons_succ, List.getElem_cons_zero]); go_simp; (try with_reducible rfl))
                        (try simp only [Act.put, List.getElem_toArray, List.getElem_cons_succ, List.getElem_cons_zero, List.setIfInBounds_toArray, List.set_cons_zero, List.set_cons_succ])
                        refine wpAnyH_take (i := 28) (v := ?_) rfl (by kernel_rfl) (by kernel_rfl) (by kernel_rfl) (fun _ _ _ h => h) (Or.inl ⟨by kernel_rfl, ?_⟩) (by assumption) ?_
                        rotate_left 1
                        · (intro w hSw; (try dsimp only at hSw); (try simp only [List.getElem_toArray, List.getElem_cons_succ, List.getElem_cons_zero]); go_simp; (try with_reducible rfl))
                        (try simp only [Act.put, List.getElem_toArray, List.getElem_cons_succ, List.getElem_cons_zero, List.setIfInBounds_toArray, List.set_cons_zero, List.set_cons_succ])
                        refine wpAnyH_done (by kernel_rfl) ?_ _
                        have HBR9 := Lib.hid (below_step HBR.out hHeld.2.2.2.2.2.2.2.2.2.2)
                        clear hHeld
                        go_wp2_with fail
                        exact ⟨⟨k + 1, by omega, by first | rfl | go_num, HBR9⟩, by simp [intOf]; omega⟩
          · go_wp2_with fail
            go_ret
            exact ⟨rfl, HB.out⟩
end Go.Proofs.YthdkjfhpbigdpaaDoor.Pure

-- Written for this claim.
namespace Go.Proofs.YthdkjfhpbigdpaaDoor.Pure
open Go Go.RowKit Go.Proofs.YthdkjfhpbigdpaaDoor.Q Go.Proofs.YthdkjfhpbigdpaaDoorW.PrintWords Go.Proofs.YthdkjfhpbigdpaaDoorW.PrintLast Go.Proofs.YthdkjfhpbigdpaaDoorW.PrintMore
open HRead HTree Go.WideShapes
namespace TreeRd
theorem wts_sum : ∀ l : List T, wts l = (l.map wt).sum
  | [] => rfl
  | x :: r => by simp only [wts, List.map_cons, List.sum_cons, wts_sum r]
theorem oks_of : ∀ l : List T, (∀ y ∈ l, Ok y) → Oks l
  | [], _ => trivial
  | x :: r, h => ⟨h x (List.mem_cons_self ..), oks_of r fun y hy => h y (List.mem_cons_of_mem _ hy)⟩
theorem rdTree : ∀ n, (∀ m, m ≤ n → Rd Tryd.prog k24 24 Ok wt m)
  | 0 => fun m hm => by obtain rfl : m = 0 := by omega
                        exact rd_zero
  | n + 1 => fun m hm => by
    have ih := rdTree n
    rcases Nat.lt_or_ge m (n + 1) with hlt | hge
    · intro H enc w base spare held cs x hx
      exact ih m (by omega) enc w base spare held cs x hx
    · obtain rfl : m = n + 1 := by omega
      have hs : Rd Tryd.prog (Kd.slice 24 k24) 22 (fun ys => (∀ y ∈ ys, Ok y) ∧ ys.length ≤ 9223372036854775807) (fun ys => (ys.map wt).sum + 1) n := by
        cases n with
        | zero => exact rd_zero
        | succ n => exact rd_slice Tryd.underlying22 (by kernel_rfl) (ih n (by omega))
      intro H enc w base spare held cs x hx
      obtain ⟨y, hK, ⟨o1, _, o2, o4, o3, _⟩, hw⟩ := rd_struct (d := Kd.pair (Kd.int .i64) (Kd.pair Kd.string (Kd.pair (Kd.int .i64) (Kd.pair (Kd.int .i64) (Kd.slice 24 k24))))) Tryd.underlying24 (by kernel_rfl) (rdf_cons rfl (by kernel_rfl) (rd_int Tryd.underlying3) (rdf_cons rfl (by kernel_rfl) (rd_string Tryd.underlying9) (rdf_cons rfl (by kernel_rfl) (rd_int Tryd.underlying3) (rdf_cons rfl (by kernel_rfl) (rd_int Tryd.underlying3) (rdf_one rfl (by kernel_rfl) hs))))) enc w base spare held cs x hx
      obtain ⟨a, s, b, p, l⟩ := y
      refine ⟨⟨a, s, b, p, l⟩, ?_, ⟨o1, o2, o4, oks_of l o3⟩, ?_⟩
      · obtain ⟨_, _, rfl, rfl, ⟨_, _, rfl, rfl, ⟨_, _, rfl, rfl, ⟨_, _, rfl, rfl, ⟨A, c, rfl, hl, g⟩⟩⟩⟩⟩ := hK
        exact k24_mk w ⟨a, s, b, p, l⟩ hl g
      · have e := wts_sum l
        simp only [wt]
        simp only at hw
        omega
set_option maxRecDepth 100000 in
/-- A tree that came in. -/
theorem readTree {H : Type} {enc : TypeId × Value → H} {W : World} {base0 base : Nat} {spare : Nat → Bool} {held : Bool} {r : Reach} {v : Value} {D : DataW H} {ps : List MemPlace} (hval : Value.okWide Tryd.prog W r base0 24 v)
    (hd : DataW.Trod enc Tryd.prog W base spare held 24 v D ps) :
    ∃ (x : T) (A : Option Addr) (c : Nat), v = .agg #[.int .i64 x.f0, .string x.f1, .int .i64 x.f2, .int .i64 x.f3, .slice A x.f4.length c] ∧ Kd.C k24 W A x.f4.length x.f4 ∧ x.f4.length ≤ c ∧ Ok x ∧ wt x ≤ Rows.uptoBulk D := by
  obtain ⟨cs, rfl, hsz⟩ := okWide_struct Tryd.underlying24 hval
  obtain ⟨fuel, hf⟩ := hd
  obtain ⟨x, hK, hok, hw⟩ := rdTree fuel fuel (Nat.le_refl _) enc W base spare held _ _ hf
  obtain ⟨A, c, hcs, hl, hC⟩ := k24_open hK
  refine ⟨x, A, c, ?_, hC, hl, hok, hw⟩
  have : cs.toList = [.int .i64 x.f0, .string x.f1, .int .i64 x.f2, .int .i64 x.f3, .slice A x.f4.length c] := by simpa [Value.cells] using hcs
  rw [← this]
end TreeRd
end Go.Proofs.YthdkjfhpbigdpaaDoor.Pure

-- Written for this claim.
namespace Go.Proofs.YthdkjfhpbigdpaaDoor.Pure
open Go Go.RowKit
namespace TreeTab
theorem gTab : Tryd.prog.globalNamed "strings.asciiSpace" = some 0 := by kernel_rfl
theorem gTabType : (Tryd.prog.globals[0]?).map (·.type) = some 61 := by kernel_rfl
theorem data : (Rows.laid_strings_asciiSpace : DataW Unit) = Lib.tabData .u8 Lib.asciiSpaceTab := by kernel_rfl
theorem tab_of {W : World} (h : laidMetH Tryd.prog Rows.treeSameUptoRow.laid W) : Lib.TabIs Tryd.prog W "strings.asciiSpace" .u8 Lib.asciiSpaceTab := by
  rw [MakeChecks.laidMetH_plain _ _ _ (by kernel_rfl)] at h
  have h2 := h.tail.tail.tail.tail.tail.tail.tail
  rw [data] at h2
  exact Lib.tabIs_of_head gTab gTabType Tryd.underlying61 Tryd.underlying5 (by kernel_rfl) (by kernel_rfl) h2
end TreeTab
end Go.Proofs.YthdkjfhpbigdpaaDoor.Pure
