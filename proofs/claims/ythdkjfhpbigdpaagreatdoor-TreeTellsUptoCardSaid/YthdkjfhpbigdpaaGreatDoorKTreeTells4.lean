-- Written for this claim: several texts in one.
import Derived.Test.YthdkjfhpbigdpaaGreatDoorKTreeTells0
import Derived.Test.YthdkjfhpbigdpaaGreatDoorKTreeTells1
import Derived.Test.YthdkjfhpbigdpaaGreatDoorKTreeTells3
import Derived.Test.YthdkjfhpbigdpaaGreatDoorKTreeTells2
import Derived.Test.YthdkjfhpbigdpaaGreatDoorRows
import Derived.Deep.Slices
import Derived.ProofKit
import Derived.OpenShut
import Derived.Lib.LaidTab
import Derived.Lib.ItoaNum
import Derived.LaidLaws
import Derived.LaidMore
import Derived.Stop.Joined
import Derived.Stop.LaidErr
import Derived.Lay
import Derived.Shelf.Strings.Fields
namespace Go.Proofs.YthdkjfhpbigdpaaGreatDoor.Pure
open Go Go.RowKit Go.Proofs.YthdkjfhpbigdpaaGreatDoor.Q Go.Proofs.YthdkjfhpbigdpaaGreatDoorW.PrintWords Go.Proofs.YthdkjfhpbigdpaaGreatDoorW.PrintLast Go.Proofs.YthdkjfhpbigdpaaGreatDoorW.PrintMore
open HTree
namespace TreeEv
theorem wrap_small {n : Int} (h0 : -9223372036854775808 ≤ n) (h1 : n < 9223372036854775808) : wrap64 n = n := by
 unfold wrap64; omega
theorem rd_at (l : List S24) (i : Nat) (t : S24) (h : l[i]? = some t) : rd_T24 l (i : Int) = t := by
 unfold rd_T24
 rw [Int.toNat_natCast, List.getD_eq_getElem?_getD, h]; rfl
theorem at_drop {l r : List T} {i : Nat} {x : T} (h : l.drop i = x :: r) : l[i]? = some x ∧ i < l.length ∧ l.drop (i + 1) = r := by
 have h0 : l[i]? = some x := by have := congrArg (fun l => l[0]?) h; simpa using this
 exact ⟨h0, (List.getElem?_eq_some_iff.1 h0).1, by rw [← List.drop_drop, h]; rfl⟩
theorem size_get {l : List T} {x : T} (h : x ∈ l) : size x ≤ sizes l := by
 induction l with
 | nil => cases h
 | cons y r ih =>
  simp only [sizes]
  rcases List.mem_cons.1 h with rfl | h
  ·omega
  ·have := ih h; omega
theorem size_pos : ∀ x : T, 1 ≤ size x
 | ⟨_, _, _, _, _⟩ => by simp only [size]; omega
theorem len_sizes : ∀ l : List T, l.length ≤ sizes l
 | [] => Nat.le_refl _
 | x :: r => by have := len_sizes r; have := size_pos x; simp only [sizes, List.length_cons]; omega
mutual
theorem height_size : ∀ x : T, height x ≤ size x
 | ⟨_, _, _, _, l⟩ => by have := heights_sizes l; simp only [height, size]; omega
theorem heights_sizes : ∀ l : List T, heights l ≤ sizes l
 | [] => Nat.le_refl _
 | x :: r => by have := height_size x; have := heights_sizes r; simp only [heights, sizes]; omega
end
mutual
theorem size_wt : ∀ x : T, size x ≤ wt x
 | ⟨_, _, _, _, l⟩ => by have := sizes_wts l; simp only [size, wt]; omega
theorem sizes_wts : ∀ l : List T, sizes l ≤ wts l
 | [] => Nat.le_refl _
 | x :: r => by have := size_wt x; have := sizes_wts r; simp only [sizes, wts]; omega
end
theorem size_loop (l : List T) (hl : l.length ≤ 1000000000) (H : ∀ x ∈ l, Ev (fun k => tree_Size.f k x.f0 x.f1 x.f2 x.f3 x.f4) (size x : Int)) : ∀ (r : List T) (i acc : Nat), l.drop i = r → acc + sizes r ≤ 2000000000 → Ev (fun k => tree_Size.l0 k acc l l.length i) ((acc + sizes r : Nat) : Int)
 | [], i, acc, h, hb => by
  have := List.drop_eq_nil_iff.1 h
  refine Ev.step (f := fun _ => some _) (fun k => ?_) (Ev.now _)
  rw [tree_Size.l0, if_neg (by omega)]; simp [sizes]
 | x :: r, i, acc, h, hb => by
  obtain ⟨h0, hi, hn⟩ := at_drop h
  simp only [sizes] at hb
  refine Ev.step (f := fun k => (tree_Size.f k x.f0 x.f1 x.f2 x.f3 x.f4).bind fun t => tree_Size.l0 k (wrap64 (acc + t)) l l.length (wrap64 (i + 1))) (fun k => ?_) (Ev.bind (H x (List.mem_of_getElem? h0)) ?_)
  ·rw [tree_Size.l0, if_pos (by omega), if_pos (by omega), if_pos (by omega), rd_at l i x h0]
  ·rw [wrap_small (by omega) (by omega), wrap_small (by omega) (by omega)]
   have ih := size_loop l hl H r (i + 1) (acc + size x) hn (by omega)
   have e1 : ((acc : Int) + (size x : Int)) = ((acc + size x : Nat) : Int) := by omega
   have e2 : ((i : Int) + 1) = ((i + 1 : Nat) : Int) := by omega
   rw [e1, e2]
   have e3 : acc + sizes (x :: r) = acc + size x + sizes r := by simp only [sizes]; omega
   rw [e3]; exact ih
theorem size_ev : ∀ (n : Nat) (x : T), height x ≤ n → size x ≤ 1000000000 → Ev (fun k => tree_Size.f k x.f0 x.f1 x.f2 x.f3 x.f4) (size x : Int)
 | 0, x, hn, _ => by cases x; simp only [height] at hn; omega
 | n + 1, x, hn, hs => by
  have hh : height x = heights x.f4 + 1 := by cases x; rfl
  have hz : size x = sizes x.f4 + 1 := by cases x; rfl
  have H : ∀ y ∈ x.f4, Ev (fun k => tree_Size.f k y.f0 y.f1 y.f2 y.f3 y.f4) (size y : Int) := fun y hy => size_ev n y (by have := height_get hy; omega) (by have := size_get hy; omega)
  refine Ev.step (f := fun k => tree_Size.l0 k 1 x.f4 x.f4.length 0) (fun k => by rw [tree_Size.f]) ?_
  have := size_loop x.f4 (by have := len_sizes x.f4; omega) H x.f4 0 1 rfl (by omega)
  rw [hz]
  have e : sizes x.f4 + 1 = 1 + sizes x.f4 := by omega
  rw [e]; exact this
theorem mx_nat (a b : Nat) : mx (a : Int) (b : Int) = ((max a b : Nat) : Int) := by
 unfold mx; omega
theorem depth_loop (l : List T) (hl : l.length ≤ 1000000000) (H : ∀ x ∈ l, Ev (fun k => tree_Depth.f k x.f0 x.f1 x.f2 x.f3 x.f4) (height x : Int)) : ∀ (r : List T) (i acc : Nat), l.drop i = r → acc ≤ 1000000000 → heights r ≤ 1000000000 → Ev (fun k => tree_Depth.l0 k acc l l.length i) ((max acc (heights r) + 1 : Nat) : Int)
 | [], i, acc, h, ha, hb => by
  have := List.drop_eq_nil_iff.1 h
  refine Ev.step (f := fun _ => some _) (fun k => ?_) (Ev.now _)
  rw [tree_Depth.l0, if_neg (by omega), wrap_small (by omega) (by omega)]; simp [heights]
 | x :: r, i, acc, h, ha, hb => by
  obtain ⟨h0, hi, hn⟩ := at_drop h
  simp only [heights] at hb
  refine Ev.step (f := fun k => (tree_Depth.f k x.f0 x.f1 x.f2 x.f3 x.f4).bind fun t => tree_Depth.l0 k (mx acc t) l l.length (wrap64 (i + 1))) (fun k => ?_) (Ev.bind (H x (List.mem_of_getElem? h0)) ?_)
  ·rw [tree_Depth.l0, if_pos (by omega), if_pos (by omega), if_pos (by omega), rd_at l i x h0]
  ·rw [wrap_small (by omega) (by omega), mx_nat]
   have ih := depth_loop l hl H r (i + 1) (max acc (height x)) hn (by omega) (by omega)
   have e2 : ((i : Int) + 1) = ((i + 1 : Nat) : Int) := by omega
   rw [e2]
   have e3 : max acc (heights (x :: r)) = max (max acc (height x)) (heights r) := by simp only [heights]; omega
   rw [e3]; exact ih
theorem depth_ev : ∀ (n : Nat) (x : T), height x ≤ n → size x ≤ 1000000000 → Ev (fun k => tree_Depth.f k x.f0 x.f1 x.f2 x.f3 x.f4) (height x : Int)
 | 0, x, hn, _ => by cases x; simp only [height] at hn; omega
 | n + 1, x, hn, hs => by
  have hh : height x = heights x.f4 + 1 := by cases x; rfl
  have hz : size x = sizes x.f4 + 1 := by cases x; rfl
  have H : ∀ y ∈ x.f4, Ev (fun k => tree_Depth.f k y.f0 y.f1 y.f2 y.f3 y.f4) (height y : Int) := fun y hy => depth_ev n y (by have := height_get hy; omega) (by have := size_get hy; omega)
  refine Ev.step (f := fun k => tree_Depth.l0 k 0 x.f4 x.f4.length 0) (fun k => by rw [tree_Depth.f]) ?_
  have hhs := heights_sizes x.f4
  have := depth_loop x.f4 (by have := len_sizes x.f4; omega) H x.f4 0 0 rfl (by omega) (by omega)
  rw [hh]
  have e : heights x.f4 + 1 = max 0 (heights x.f4) + 1 := by omega
  rw [e]; exact this
theorem few_loop (x : T) (hl : x.f4.length ≤ 1000000000) (deep : Int) (hd : -1000000 ≤ deep ∧ deep ≤ 1000000) (H : ∀ y ∈ x.f4, ∀ left dp : Int, -1000000 ≤ left → left ≤ 1000000 → -1000000 ≤ dp → dp ≤ 1000000 → ∃ r : Int, -1 ≤ r ∧ r ≤ 1000000 ∧ Ev (fun k => gossamerref02_few.f k y.f0 y.f1 y.f2 y.f3 y.f4 left dp) r) (hd1 : 1 ≤ deep) :
  ∀ (r : List T) (i : Nat) (left : Int), x.f4.drop i = r → 0 ≤ left → left ≤ 1000000 → ∃ q : Int, -1 ≤ q ∧ q ≤ 1000000 ∧ Ev (fun k => gossamerref02_few.l0 k left deep i x.f0 x.f1 x.f2 x.f3 x.f4) q
 | [], i, left, h, h0, h1 => by
  have := List.drop_eq_nil_iff.1 h
  refine ⟨left, by omega, h1, Ev.step (f := fun _ => some _) (fun k => ?_) (Ev.now _)⟩
  rw [gossamerref02_few.l0, if_neg (by omega)]
 | y :: r, i, left, h, h0, h1 => by
  obtain ⟨hg, hi, hn⟩ := at_drop h
  obtain ⟨q, hq0, hq1, hev⟩ := H y (List.mem_of_getElem? hg) left (deep - 1) (by omega) h1 (by omega) (by omega)
  by_cases hneg : q < 0
  ·refine ⟨-1, by omega, by omega, Ev.step (f := fun k => (gossamerref02_few.f k y.f0 y.f1 y.f2 y.f3 y.f4 left (deep - 1)).bind fun t => if t < 0 then some (-1) else gossamerref02_few.l0 k t deep (wrap64 (i + 1)) x.f0 x.f1 x.f2 x.f3 x.f4) (fun k => ?_) (Ev.bind hev ?_)⟩
   ·rw [gossamerref02_few.l0, if_pos (by omega), if_pos (by omega), rd_at _ i y hg, wrap_small (n := deep - 1) (by omega) (by omega)]
   ·simp only [hneg, if_true]; exact Ev.now _
  ·obtain ⟨q2, a, b, hev2⟩ := few_loop x hl deep hd H hd1 r (i + 1) q hn (by omega) hq1
   refine ⟨q2, a, b, Ev.step (f := fun k => (gossamerref02_few.f k y.f0 y.f1 y.f2 y.f3 y.f4 left (deep - 1)).bind fun t => if t < 0 then some (-1) else gossamerref02_few.l0 k t deep (wrap64 (i + 1)) x.f0 x.f1 x.f2 x.f3 x.f4) (fun k => ?_) (Ev.bind hev ?_)⟩
   ·rw [gossamerref02_few.l0, if_pos (by omega), if_pos (by omega), rd_at _ i y hg, wrap_small (n := deep - 1) (by omega) (by omega)]
   ·simp only [hneg, if_false]
    rw [wrap_small (by omega) (by omega)]
    exact hev2
theorem few_ev : ∀ (n : Nat) (x : T), height x ≤ n → size x ≤ 1000000000 → ∀ left dp : Int, -1000000 ≤ left → left ≤ 1000000 → -1000000 ≤ dp → dp ≤ 1000000 → ∃ r : Int, -1 ≤ r ∧ r ≤ 1000000 ∧ Ev (fun k => gossamerref02_few.f k x.f0 x.f1 x.f2 x.f3 x.f4 left dp) r
 | 0, x, hn, _, _, _, _, _, _, _ => by cases x; simp only [height] at hn; omega
 | n + 1, x, hn, hs, left, dp, h0, h1, h2, h3 => by
  have hh : height x = heights x.f4 + 1 := by cases x; rfl
  have hz : size x = sizes x.f4 + 1 := by cases x; rfl
  by_cases hc : left < 1
  ·refine ⟨-1, by omega, by omega, Ev.step (f := fun k => gossamerref02_few.j0 k left dp true x.f0 x.f1 x.f2 x.f3 x.f4) (fun k => by rw [gossamerref02_few.f, if_pos hc]) (Ev.step (f := fun _ => some (-1)) (fun k => by rw [gossamerref02_few.j0, if_pos rfl]) (Ev.now _))⟩
  ·by_cases hc2 : dp < 1
   ·refine ⟨-1, by omega, by omega, Ev.step (f := fun k => gossamerref02_few.j0 k left dp true x.f0 x.f1 x.f2 x.f3 x.f4) (fun k => by rw [gossamerref02_few.f, if_neg hc, decide_eq_true hc2]) (Ev.step (f := fun _ => some (-1)) (fun k => by rw [gossamerref02_few.j0, if_pos rfl]) (Ev.now _))⟩
   ·obtain ⟨q, a, b, hev⟩ := few_loop x (by have := len_sizes x.f4; omega) dp ⟨h2, h3⟩ (fun y hy l d => few_ev n y (by have := height_get hy; omega) (by have := size_get hy; omega) l d) (by omega) x.f4 0 (left - 1) rfl (by omega) (by omega)
    refine ⟨q, a, b, Ev.step (f := fun k => gossamerref02_few.j0 k left dp false x.f0 x.f1 x.f2 x.f3 x.f4) (fun k => by rw [gossamerref02_few.f, if_neg hc, decide_eq_false hc2]) (Ev.step (f := fun k => gossamerref02_few.l0 k (left - 1) dp 0 x.f0 x.f1 x.f2 x.f3 x.f4) (fun k => by rw [gossamerref02_few.j0, if_neg (by simp), wrap_small (by omega) (by omega)]) hev)⟩
theorem small_some (x : T) (hs : size x ≤ 1000000000) (most : Int) (h0 : 0 ≤ most) (h1 : most ≤ 1000000) : ∃ k b, gossamerref02_Small.f k x.f0 x.f1 x.f2 x.f3 x.f4 most = some b := by
 obtain ⟨r, _, _, hev⟩ := few_ev (height x) x (Nat.le_refl _) hs most 200 (by omega) h1 (by omega) (by omega)
 obtain ⟨k, hk⟩ := hev.rounds
 refine ⟨k, decide (r ≥ 0), ?_⟩
 unfold gossamerref02_Small.f
 rw [hk]; rfl
end TreeEv
end Go.Proofs.YthdkjfhpbigdpaaGreatDoor.Pure

namespace Go.Proofs.YthdkjfhpbigdpaaGreatDoor.Pure
open Go Go.RowKit Go.Proofs.YthdkjfhpbigdpaaGreatDoor.Q Go.Proofs.YthdkjfhpbigdpaaGreatDoorW.PrintWords Go.Proofs.YthdkjfhpbigdpaaGreatDoorW.PrintLast Go.Proofs.YthdkjfhpbigdpaaGreatDoorW.PrintMore
open HTree TreeEv
namespace TreeOne
theorem one_loop (x y : T) (hl : x.f4.length ≤ 1000000000) (hlen : x.f4.length = y.f4.length) (H : ∀ a ∈ x.f4, ∀ b : T, Ev (fun k => gossamerref02_One.f k a.f0 a.f1 a.f2 a.f3 a.f4 b.f0 b.f1 b.f2 b.f3 b.f4) (one a b)) :
  ∀ (r r' : List T) (i : Nat), x.f4.drop i = r → y.f4.drop i = r' → Ev (fun k => gossamerref02_One.l0 k i x.f0 x.f1 x.f2 x.f3 x.f4 y.f0 y.f1 y.f2 y.f3 y.f4) (ones r r')
 | [], r', i, h, h' => by
  have h1 := List.drop_eq_nil_iff.1 h
  have : r' = [] := by rw [← h']; exact List.drop_eq_nil_of_le (by omega)
  subst this
  refine Ev.step (f := fun _ => some _) (fun k => ?_) (Ev.now _)
  rw [gossamerref02_One.l0, if_neg (by omega)]; rfl
 | a :: r, r', i, h, h' => by
  obtain ⟨hg, hi, hn⟩ := at_drop h
  cases r' with
  | nil => have := List.drop_eq_nil_iff.1 h'; omega
  | cons b r' =>
   obtain ⟨hg', hi', hn'⟩ := at_drop h'
   refine Ev.step (f := fun k => (gossamerref02_One.f k a.f0 a.f1 a.f2 a.f3 a.f4 b.f0 b.f1 b.f2 b.f3 b.f4).bind fun t => if t = true then gossamerref02_One.l0 k (wrap64 (i + 1)) x.f0 x.f1 x.f2 x.f3 x.f4 y.f0 y.f1 y.f2 y.f3 y.f4 else some false) (fun k => ?_) (Ev.bind (H a (List.mem_of_getElem? hg) b) ?_)
   ·rw [gossamerref02_One.l0, if_pos (by omega), if_pos (by omega), if_pos (by omega), rd_at _ i a hg, rd_at _ i b hg']
   ·simp only [ones]
    cases one a b with
    | true =>
     simp only [if_true, Bool.true_and]
     rw [TreeEv.wrap_small (by omega) (by omega)]
     have ih := one_loop x y hl hlen H r r' (i + 1) hn hn'
     have e2 : ((i : Int) + 1) = ((i + 1 : Nat) : Int) := by omega
     rw [e2]; exact ih
    | false => simp only [Bool.false_eq_true, if_false, Bool.false_and]; exact Ev.now _
theorem one_no (x y : T) : Ev (fun k => gossamerref02_One.j0 k true x.f0 x.f1 x.f2 x.f3 x.f4 y.f0 y.f1 y.f2 y.f3 y.f4) false := Ev.step (f := fun _ => some false) (fun k => by rw [gossamerref02_One.j0, if_pos rfl]) (Ev.now _)
theorem ones_len : ∀ l l' : List T, ¬ l.length = l'.length → ones l l' = false
 | [], [], h => absurd rfl h
 | [], _ :: _, _ => rfl
 | _ :: _, [], _ => rfl
 | x :: l, y :: l', h => by
  simp only [List.length_cons] at h
  simp only [ones, ones_len l l' (by omega), Bool.and_false]
theorem one_is (x y : T) : one x y = (decide (x.f0 = y.f0) && decide (x.f1.data.toList = y.f1.data.toList) && decide (x.f2 = y.f2) && decide (x.f3 = y.f3) && ones x.f4 y.f4) := by cases x; cases y; rfl
theorem one_ev : ∀ (n : Nat) (x : T), height x ≤ n → size x ≤ 1000000000 → ∀ y : T, Ev (fun k => gossamerref02_One.f k x.f0 x.f1 x.f2 x.f3 x.f4 y.f0 y.f1 y.f2 y.f3 y.f4) (one x y)
 | 0, x, hn, _, _ => by cases x; simp only [height] at hn; omega
 | n + 1, x, hn, hs, y => by
  have hh : height x = heights x.f4 + 1 := by cases x; rfl
  have hz : size x = sizes x.f4 + 1 := by cases x; rfl
  have H : ∀ a ∈ x.f4, ∀ b : T, Ev (fun k => gossamerref02_One.f k a.f0 a.f1 a.f2 a.f3 a.f4 b.f0 b.f1 b.f2 b.f3 b.f4) (one a b) := fun a ha b => one_ev n a (by have := height_get ha; omega) (by have := size_get ha; omega) b
  rw [one_is]
  by_cases h0 : x.f0 = y.f0
  ·by_cases h1 : x.f1.data.toList = y.f1.data.toList
   ·have h1' : x.f1.toList = y.f1.toList := by rw [Lib.toList_data, Lib.toList_data]; exact h1
    by_cases h2 : x.f2 = y.f2
    ·by_cases h3 : x.f3 = y.f3
     ·rw [decide_eq_true h0, decide_eq_true h1, decide_eq_true h2, decide_eq_true h3]
      refine Ev.step (f := fun k => gossamerref02_One.j0 k ((x.f4.length : Int) != (y.f4.length : Int)) x.f0 x.f1 x.f2 x.f3 x.f4 y.f0 y.f1 y.f2 y.f3 y.f4) (fun k => by rw [gossamerref02_One.f, if_pos h0, if_pos h1', if_pos h2, if_pos h3]) ?_
      by_cases hl : x.f4.length = y.f4.length
      ·have e : ((x.f4.length : Int) != (y.f4.length : Int)) = false := bne_eq_false_iff_eq.2 (by omega)
       rw [e]
       refine Ev.step (f := fun k => gossamerref02_One.l0 k 0 x.f0 x.f1 x.f2 x.f3 x.f4 y.f0 y.f1 y.f2 y.f3 y.f4) (fun k => by rw [gossamerref02_One.j0, if_neg (by simp)]) ?_
       have := one_loop x y (by have := len_sizes x.f4; omega) hl H x.f4 y.f4 0 rfl rfl
       simpa using this
      ·have e : ((x.f4.length : Int) != (y.f4.length : Int)) = true := bne_iff_ne.2 (by omega)
       rw [e, ones_len _ _ hl]; exact one_no x y
     ·rw [decide_eq_false h3, Bool.and_false, Bool.false_and]
      exact Ev.step (f := fun k => gossamerref02_One.j0 k true x.f0 x.f1 x.f2 x.f3 x.f4 y.f0 y.f1 y.f2 y.f3 y.f4) (fun k => by rw [gossamerref02_One.f, if_pos h0, if_pos h1', if_pos h2, if_neg h3]) (one_no x y)
    ·rw [decide_eq_false h2, Bool.and_false, Bool.false_and, Bool.false_and]
     exact Ev.step (f := fun k => gossamerref02_One.j0 k true x.f0 x.f1 x.f2 x.f3 x.f4 y.f0 y.f1 y.f2 y.f3 y.f4) (fun k => by rw [gossamerref02_One.f, if_pos h0, if_pos h1', if_neg h2]) (one_no x y)
   ·have h1' : ¬ x.f1.toList = y.f1.toList := by rw [Lib.toList_data, Lib.toList_data]; exact h1
    rw [decide_eq_false h1, Bool.and_false, Bool.false_and, Bool.false_and, Bool.false_and]
    exact Ev.step (f := fun k => gossamerref02_One.j0 k true x.f0 x.f1 x.f2 x.f3 x.f4 y.f0 y.f1 y.f2 y.f3 y.f4) (fun k => by rw [gossamerref02_One.f, if_pos h0, if_neg h1']) (one_no x y)
  ·rw [decide_eq_false h0, Bool.false_and, Bool.false_and, Bool.false_and, Bool.false_and]
   exact Ev.step (f := fun k => gossamerref02_One.j0 k true x.f0 x.f1 x.f2 x.f3 x.f4 y.f0 y.f1 y.f2 y.f3 y.f4) (fun k => by rw [gossamerref02_One.f, if_neg h0]) (one_no x y)
def flat (x : T) : Int × ByteArray × Int × Int × List T := (x.f0, x.f1, x.f2, x.f3, x.f4)
theorem bare_loop (x : T) (hl : x.f4.length ≤ 1000000000) (H : ∀ a ∈ x.f4, Ev (fun k => tree_Bare.f k a.f0 a.f1 a.f2 a.f3 a.f4) (flat (bare a))) :
  ∀ (r : List T) (i : Nat) (acc : List T), x.f4.drop i = r → acc.length = i → Ev (fun k => tree_Bare.l0 k acc x.f4 x.f4.length i x.f0 x.f1 x.f2 x.f3 x.f4) (x.f0, x.f1, x.f2, 0, acc ++ bares r)
 | [], i, acc, h, ha => by
  have := List.drop_eq_nil_iff.1 h
  refine Ev.step (f := fun _ => some _) (fun k => ?_) (Ev.now _)
  rw [tree_Bare.l0, if_neg (by omega)]; simp [bares]
 | a :: r, i, acc, h, ha => by
  obtain ⟨hg, hi, hn⟩ := at_drop h
  refine Ev.step (f := fun k => (tree_Bare.f k a.f0 a.f1 a.f2 a.f3 a.f4).bind fun bt => if acc.length < 2199023255552 then tree_Bare.l0 k (acc ++ [⟨bt.1, bt.2.1, bt.2.2.1, bt.2.2.2.1, bt.2.2.2.2⟩]) x.f4 x.f4.length (wrap64 (i + 1)) x.f0 x.f1 x.f2 x.f3 x.f4 else none) (fun k => ?_) (Ev.bind (H a (List.mem_of_getElem? hg)) ?_)
  ·rw [tree_Bare.l0, if_pos (by omega), if_pos (by omega), if_pos (by omega), rd_at _ i a hg]
  ·have e2 : ((i : Int) + 1) = ((i + 1 : Nat) : Int) := by omega
   have ih := bare_loop x hl H r (i + 1) (acc ++ [bare a]) hn (by simp [ha])
   have e3 : acc ++ [bare a] ++ bares r = acc ++ bares (a :: r) := by simp [bares]
   rw [e3] at ih
   have e4 : acc.length < 2199023255552 := by omega
   have e5 : (⟨(bare a).f0, (bare a).f1, (bare a).f2, (bare a).f3, (bare a).f4⟩ : T) = bare a := by cases bare a; rfl
   simp only [e4, if_true, flat]
   rw [e5]
   rw [TreeEv.wrap_small (by omega) (by omega), e2]; exact ih
theorem bare_ev : ∀ (n : Nat) (x : T), height x ≤ n → size x ≤ 1000000000 → Ev (fun k => tree_Bare.f k x.f0 x.f1 x.f2 x.f3 x.f4) (flat (bare x))
 | 0, x, hn, _ => by cases x; simp only [height] at hn; omega
 | n + 1, x, hn, hs => by
  have hh : height x = heights x.f4 + 1 := by cases x; rfl
  have hz : size x = sizes x.f4 + 1 := by cases x; rfl
  have H : ∀ a ∈ x.f4, Ev (fun k => tree_Bare.f k a.f0 a.f1 a.f2 a.f3 a.f4) (flat (bare a)) := fun a ha => bare_ev n a (by have := height_get ha; omega) (by have := size_get ha; omega)
  refine Ev.step (f := fun k => tree_Bare.l0 k [] x.f4 x.f4.length 0 x.f0 x.f1 x.f2 x.f3 x.f4) (fun k => by rw [tree_Bare.f]) ?_
  have := bare_loop x (by have := len_sizes x.f4; omega) H x.f4 0 [] rfl rfl
  have e : flat (bare x) = (x.f0, x.f1, x.f2, 0, [] ++ bares x.f4) := by cases x; rfl
  rw [e]; exact this
mutual
theorem one_bare : ∀ x y : T, one (bare x) (bare y) = same x y
 | ⟨k, s, n, a, l⟩, ⟨k', s', n', a', l'⟩ => by simp [bare, one, same, ones_bares l l']
theorem ones_bares : ∀ l l' : List T, ones (bares l) (bares l') = sames l l'
 | [], [] => rfl
 | [], _ :: _ => rfl
 | _ :: _, [] => rfl
 | x :: l, y :: l' => by simp [bares, ones, sames, one_bare x y, ones_bares l l']
end
mutual
theorem bare_bare : ∀ x : T, bare (bare x) = bare x
 | ⟨k, s, n, a, l⟩ => by simp [bare, bares_bares l]
theorem bares_bares : ∀ l : List T, bares (bares l) = bares l
 | [] => rfl
 | x :: l => by simp [bares, bare_bare x, bares_bares l]
end
mutual
theorem one_eq : ∀ x y : T, one x y = true → x = y
 | ⟨k, s, n, a, l⟩, ⟨k', s', n', a', l'⟩, h => by
  simp only [one, Bool.and_eq_true, decide_eq_true_eq] at h
  obtain ⟨⟨⟨⟨h1, h2⟩, h3⟩, h4⟩, h5⟩ := h
  have e := ones_eq l l' h5
  have es : s = s' := (HLexC.bytes_eq_iff _ _).2 h2
  subst h1; subst h3; subst h4; subst e; subst es; rfl
theorem ones_eq : ∀ l l' : List T, ones l l' = true → l = l'
 | [], [], _ => rfl
 | [], _ :: _, h => by simp [ones] at h
 | _ :: _, [], h => by simp [ones] at h
 | x :: l, y :: l', h => by
  simp only [ones, Bool.and_eq_true] at h
  rw [one_eq x y h.1, ones_eq l l' h.2]
end
mutual
theorem one_refl : ∀ x : T, one x x = true
 | ⟨k, s, n, a, l⟩ => by simp [one, ones_refl l]
theorem ones_refl : ∀ l : List T, ones l l = true
 | [] => rfl
 | x :: l => by simp [ones, one_refl x, ones_refl l]
end
theorem same_bare_eq {x y : T} (h : same x y = true) : bare x = bare y := one_eq _ _ (by rw [one_bare]; exact h)
theorem same_of_bare {x y : T} (h : bare x = bare y) : same x y = true := by rw [← one_bare, h]; exact one_refl _
theorem same_comm (x y : T) : same y x = same x y := by
 cases h : same x y with
 | true => exact same_of_bare (same_bare_eq h).symm
 | false =>
  cases h2 : same y x with
  | false => rfl
  | true => rw [same_of_bare (same_bare_eq h2).symm] at h; cases h
theorem same_bare (x : T) : same x (bare x) = true := same_of_bare (bare_bare x).symm
mutual
theorem height_bare : ∀ x : T, height (bare x) = height x
 | ⟨k, s, n, a, l⟩ => by simp [bare, height, heights_bares l]
theorem heights_bares : ∀ l : List T, heights (bares l) = heights l
 | [] => rfl
 | x :: l => by simp [bares, heights, height_bare x, heights_bares l]
end
mutual
theorem size_bare : ∀ x : T, size (bare x) = size x
 | ⟨k, s, n, a, l⟩ => by simp [bare, size, sizes_bares l]
theorem sizes_bares : ∀ l : List T, sizes (bares l) = sizes l
 | [] => rfl
 | x :: l => by simp [bares, sizes, size_bare x, sizes_bares l]
end
mutual
theorem wt_bare : ∀ x : T, wt (bare x) = wt x
 | ⟨k, s, n, a, l⟩ => by simp [bare, wt, wts_bares l]
theorem wts_bares : ∀ l : List T, wts (bares l) = wts l
 | [] => rfl
 | x :: l => by simp [bares, wts, wt_bare x, wts_bares l]
end
end TreeOne
end Go.Proofs.YthdkjfhpbigdpaaGreatDoor.Pure

namespace Go.Proofs.YthdkjfhpbigdpaaGreatDoor.Pure
open Go.Proofs.YthdkjfhpbigdpaaGreatDoor
open HLex
namespace TreeNa
theorem nb {r t : List UInt8} {k n : Nat} (h : first r = .ok (k, t, n)) (c : UInt8) (r' : List UInt8) (he : r = c :: r') : HLex.blank c = false := by
 cases hc : HLex.blank c with
 | false => rfl
 | true =>
  exfalso
  have hn := blank_not hc
  have hp := first_pre h
  cases first_is h with
  | word h1 h2 =>
   apply h1
   rw [he, List.takeWhile_cons, if_neg (by rw [hn.1]; simp)]
  | sign h1 h2 =>
   cases t with
   | nil => exact hp.2 rfl
   | cons d t' =>
    have h3 := hp.1
    rw [he, List.cons_prefix_cons] at h3
    exact hn.2 _ (List.mem_of_find?_eq_some h2) (by rw [h3.1]; exact List.mem_cons_self ..)
theorem tok_to {L : List UInt8} {k n : Nat} (h : first L = .ok (k, L, n)) : ∃ p, lex L = .ok [⟨k, L, n, p⟩] := by
 have hp := first_pre h
 have hb : L.dropWhile HLex.blank = L := by
  cases L with
  | nil => exact absurd rfl hp.2
  | cons c r => exact dw_self (nb h c r rfl)
 have h1 : first (L.dropWhile HLex.blank) = .ok (k, L, n) := by rw [hb]; exact h
 refine ⟨0 + (L.length - L.length), ?_⟩
 rw [lex_lexs, lexs_tok 0 (by rw [hb]; exact hp.2) h1, hb, List.drop_length, lexs_nil _ rfl]
 rfl
theorem tok_from {L : List UInt8} {t : Tok} (h : lex L = .ok [t]) (ht : t.text = L) : first L = .ok (t.kind, L, t.n) := by
 rw [lex_lexs] at h
 by_cases hd : L.dropWhile HLex.blank = []
 ·rw [lexs_nil _ hd] at h; cases h
 ·cases hf : first (L.dropWhile HLex.blank) with
  | error e => rw [lexs_err 0 hd hf] at h; cases h
  | ok x =>
   obtain ⟨k, tx, n⟩ := x
   rw [lexs_tok 0 hd hf] at h
   cases hr : lexs (0 + (L.length - (L.dropWhile HLex.blank).length) + tx.length) ((L.dropWhile HLex.blank).drop tx.length) with
   | error e => rw [hr] at h; cases h
   | ok us =>
    rw [hr] at h
    simp only [more, Except.ok.injEq, List.cons.injEq] at h
    obtain ⟨h1, _⟩ := h
    rw [← h1] at ht ⊢
    simp only at ht ⊢
    have hp := first_pre hf
    rw [ht] at hf hp
    have hl := hp.1.length_le
    have hs : L.dropWhile HLex.blank <:+ L := List.dropWhile_suffix _
    have he : L.dropWhile HLex.blank = L := hs.eq_of_length (by have := hs.length_le; omega)
    rw [he] at hf
    exact hf
theorem token_is (s : ByteArray) (k : Nat) : HTree.token s k = (match first (s.data.toList ++ [32]) with | .ok (k', t, _) => decide (k' = k) && decide (t = s.data.toList) | .error _ => false) := by
 rw [first_app (c := 32) rfl s.data.toList []]
 unfold HTree.token
 cases hf : first s.data.toList with
 | error e =>
  cases hl : lex s.data.toList with
  | error x => rfl
  | ok ts =>
   match ts, hl with
   | [], _ => rfl
   | [t], hl =>
    by_cases ht : t.text = s.data.toList
    ·rw [tok_from hl ht] at hf; cases hf
    ·simp [ht]
   | t :: u :: r, _ => rfl
 | ok x =>
  obtain ⟨k', t, n⟩ := x
  by_cases ht : t = s.data.toList
  ·subst ht
   obtain ⟨p, hp⟩ := tok_to hf
   rw [hp]
  ·have hno : ∀ u, lex s.data.toList = .ok [u] → u.text ≠ s.data.toList := by
    intro u hu hx
    rw [tok_from hu hx] at hf
    simp only [Except.ok.injEq, Prod.mk.injEq] at hf
    exact ht hf.2.1.symm
   cases hl : lex s.data.toList with
   | error x => simp [ht]
   | ok ts =>
    match ts, hl with
    | [], _ => simp [ht]
    | [u], hl => simp [ht, hno u hl]
    | t :: u :: r, _ => simp [ht]
end TreeNa
end Go.Proofs.YthdkjfhpbigdpaaGreatDoor.Pure

namespace Go.Proofs.YthdkjfhpbigdpaaGreatDoor.Pure
open Go Go.RowKit Go.Proofs.YthdkjfhpbigdpaaGreatDoor.Q Go.Proofs.YthdkjfhpbigdpaaGreatDoorW.PrintWords Go.Proofs.YthdkjfhpbigdpaaGreatDoorW.PrintLast Go.Proofs.YthdkjfhpbigdpaaGreatDoorW.PrintMore
open HTree TreeEv
set_option linter.unusedSimpArgs false
namespace CoreBeq
theorem beq_decide (l l' : List UInt8) : (l == l') = decide (l = l') := by
 cases h : decide (l = l') with
 | true => exact beq_iff_eq.2 (of_decide_eq_true h)
 | false => exact beq_eq_false_iff_ne.2 (of_decide_eq_false h)
end CoreBeq
namespace TreeRm
theorem token_is (s : ByteArray) (hs : s.size ≤ 1100000) (m k : Nat) : gossamerref02_token.f k s (m : Int) = some (HTree.token s m) := by
 unfold gossamerref02_token.f
 rw [TreeNa.token_is, HLex.first_app (c := 32) rfl s.data.toList []]
 by_cases h0 : s.toList = []
 ·rw [if_pos h0]
  rw [Lib.toList_data] at h0
  rw [h0]
  rfl
 ·rw [if_neg h0]
  have hsz : 0 < s.size := by
   rw [Lib.toList_data] at h0
   have := List.length_pos_iff.2 h0
   simpa using this
  unfold gossamerref01_One.f
  rw [if_pos ⟨hs, by omega, by simpa using hsz⟩]
  simp only [Int.toNat_zero, List.drop_zero]
  cases hf : HLex.first s.data.toList with
  | error er =>
   have he := HLex.first_err hf
   have : ¬ (er : Int) = 0 := by omega
   have h2 : ¬ er = 0 := by omega
   simp [this, h2]
  | ok x =>
   obtain ⟨k', t, n⟩ := x
   simp only [Option.bind_some, if_true]
   by_cases hk : k' = m
   ·have : (k' : Int) = (m : Int) := by omega
    simp [hk, Lib.toList_data, CoreBeq.beq_decide]
   ·have : ¬ (k' : Int) = (m : Int) := by omega
    simp [hk, this]
theorem name_is (s : ByteArray) (hs : s.size ≤ 1100000) (k0 n a : Int) (l : List T) (k : Nat) : gossamerref02_name.f (k + 2) k0 s n a l = some (named s (what k0)) := by
 have t1 : ∀ k, gossamerref02_token.f k s 1 = some (HTree.token s 1) := fun k => token_is s hs 1 k
 have t2 : ∀ k, gossamerref02_token.f k s 2 = some (HTree.token s 2) := fun k => token_is s hs 2 k
 unfold gossamerref02_name.f
 by_cases e1 : k0 = 1
 ·subst e1; simp [gossamerref02_name.j0, t1, named, what]
 by_cases e2 : k0 = 2
 ·subst e2; simp [gossamerref02_name.j0, t1, named, what]
 by_cases e4 : k0 = 4
 ·subst e4; simp [gossamerref02_name.j0, t1, named, what]
 by_cases e5 : k0 = 5
 ·subst e5; simp [gossamerref02_name.j0, t1, named, what]
 have b5 : (k0 == 5) = false := beq_eq_false_iff_ne.2 e5
 rw [if_neg e1, if_neg e2, if_neg e4, b5, gossamerref02_name.j0, if_neg (by simp)]
 by_cases e6 : k0 = 6
 ·subst e6; simp [gossamerref02_name.j1, t2, named, what]
 by_cases e8 : k0 = 8
 ·subst e8; simp [gossamerref02_name.j1, t2, named, what]
 have b8 : (k0 == 8) = false := beq_eq_false_iff_ne.2 e8
 rw [if_neg e6, b8, gossamerref02_name.j1, if_neg (by simp)]
 simp only [Lib.toList_data]
 by_cases e10 : k0 = 10
 ·subst e10
  rw [if_pos rfl]
  have hw : named s (what 10) = oper s := rfl
  rw [hw]
  unfold oper
  by_cases h1 : s.data.toList = [43]
  ·simp [h1]
  by_cases h2 : s.data.toList = [45]
  ·simp [h2]
  by_cases h3 : s.data.toList = [42]
  ·simp [h3]
  by_cases h4 : s.data.toList = [47]
  ·simp [h4]
  by_cases h5 : s.data.toList = [60]
  ·simp [h5]
  by_cases h6 : s.data.toList = [61, 61]
  ·simp [h6]
  ·simp [h1, h2, h3, h4, h5, h6]
 ·rw [if_neg e10]
  have hw : what k0 = 0 := by unfold what; rw [if_neg (by omega), if_neg (by omega), if_neg e10]
  rw [hw]
  show _ = some (decide (s.data.toList = []))
  rw [CoreBeq.beq_decide]
def known (k : Int) : Bool := decide (1 ≤ k) && decide (k ≤ 10)
theorem ite_some {p : Prop} [Decidable p] (q : Bool) : (if p then some q else some false) = some (decide p && q) := by split <;> simp_all
theorem parts_is (s : ByteArray) (k0 n a : Int) (l : List T) (hl : l.length ≤ 1000000000) (hn : -9223372036854775808 ≤ n ∧ n ≤ 9223372036854775807) (k : Nat) : gossamerref02_parts.f (k + 1) k0 s n a l = some (known k0 && decide (least k0 ≤ (l.length : Int)) && decide ((l.length : Int) ≤ most k0) && number k0 n l.length) := by
 by_cases e1 : k0 = 1
 ·subst e1
  simp only [gossamerref02_parts.f, gossamerref02_parts.j0, ite_some]
  refine congrArg some ?_
  rw [Bool.eq_iff_iff]
  simp [known, least, most, number]
  try omega
 by_cases e2 : k0 = 2
 ·subst e2
  simp only [gossamerref02_parts.f, gossamerref02_parts.j0, ite_some]
  refine congrArg some ?_
  rw [Bool.eq_iff_iff]
  simp [known, least, most, number]
  try omega
 by_cases e3 : k0 = 3
 ·subst e3
  simp only [gossamerref02_parts.f, gossamerref02_parts.j0, ite_some]
  refine congrArg some ?_
  rw [Bool.eq_iff_iff]
  simp [known, least, most, number]
  try omega
 by_cases e4 : k0 = 4
 ·subst e4
  simp only [gossamerref02_parts.f, gossamerref02_parts.j0, ite_some]
  refine congrArg some ?_
  rw [Bool.eq_iff_iff]
  simp [known, least, most, number]
  try omega
 by_cases e5 : k0 = 5
 ·subst e5
  simp only [gossamerref02_parts.f, gossamerref02_parts.j0, ite_some]
  refine congrArg some ?_
  rw [Bool.eq_iff_iff]
  simp [known, least, most, number]
  try omega
 by_cases e6 : k0 = 6
 ·subst e6
  simp only [gossamerref02_parts.f, gossamerref02_parts.j0, ite_some]
  refine congrArg some ?_
  rw [Bool.eq_iff_iff]
  simp [known, least, most, number]
  try omega
 by_cases e7 : k0 = 7
 ·subst e7
  simp only [gossamerref02_parts.f, gossamerref02_parts.j0, ite_some]
  refine congrArg some ?_
  rw [Bool.eq_iff_iff]
  simp [known, least, most, number]
  try omega
 by_cases e9 : k0 = 9
 ·subst e9
  simp only [gossamerref02_parts.f, gossamerref02_parts.j0, ite_some]
  refine congrArg some ?_
  rw [Bool.eq_iff_iff]
  simp [known, least, most, number]
  try omega
 by_cases e10 : k0 = 10
 ·subst e10
  simp only [gossamerref02_parts.f, gossamerref02_parts.j0, ite_some]
  refine congrArg some ?_
  rw [Bool.eq_iff_iff]
  simp [known, least, most, number]
  try omega
 by_cases e8 : k0 = 8
 ·subst e8
  by_cases hq : 0 ≤ n ∧ n ≤ 8
  ·have hw : wrap64 (n + 1) = n + 1 := TreeEv.wrap_small (by omega) (by omega)
   simp only [gossamerref02_parts.f, gossamerref02_parts.j0, ite_some, hw]
   refine congrArg some ?_
   rw [Bool.eq_iff_iff]
   simp [known, least, most, number]
   try omega
  ·simp only [gossamerref02_parts.f, gossamerref02_parts.j0, ite_some]
   refine congrArg some ?_
   rw [Bool.eq_iff_iff]
   simp [known, least, most, number]
   try omega
 have b10 : (k0 == 10) = false := beq_eq_false_iff_ne.2 e10
 have hk : known k0 = false := by unfold known; by_cases h1 : 1 ≤ k0 <;> simp [h1] <;> omega
 rw [hk]
 unfold gossamerref02_parts.f
 rw [if_neg e1, if_neg e2, if_neg e3, if_neg e4, if_neg e5, b10, gossamerref02_parts.j0, if_neg (by simp), if_neg e6, if_neg e7, if_neg e8, if_neg e9]
 rfl
def mayA (x : T) (alt : Bool) : Bool := (decide (x.f0 = 8) == alt) && HTree.may x
theorem part_as (k n : Int) (x : T) (i : Int) : HTree.part k n x i = if k = 8 ∧ i < n ∧ x.f0 ≠ 1 then false else mayA x (decide (k = 7) && decide (0 < i)) := by
 unfold HTree.part mayA
 by_cases h7 : k = 7
 ·subst h7
  by_cases hi : 0 < i
  ·simp [hi]
  ·simp [hi]
 ·by_cases h8 : k = 8 ∧ i < n ∧ x.f0 ≠ 1
  ·rw [if_neg (fun h => h7 h.1), if_pos h8, if_pos h8]
  ·rw [if_neg (fun h => h7 h.1), if_neg h8, if_neg h8]
   simp [h7]
theorem may_loop (x : T) (hl : x.f4.length ≤ 1000000000) (H : ∀ y ∈ x.f4, ∀ alt : Bool, Ev (fun k => gossamerref02_may.f k y.f0 y.f1 y.f2 y.f3 y.f4 alt) (mayA y alt)) :
  ∀ (r : List T) (i : Nat), x.f4.drop i = r → Ev (fun k => gossamerref02_may.l0 k i x.f0 x.f1 x.f2 x.f3 x.f4) (parts x.f0 x.f2 r i)
 | [], i, h => by
  have := List.drop_eq_nil_iff.1 h
  refine Ev.step (f := fun _ => some _) (fun k => ?_) (Ev.now _)
  rw [gossamerref02_may.l0, if_neg (by omega)]; rfl
 | y :: r, i, h => by
  obtain ⟨hg, hi, hn⟩ := at_drop h
  have e2 : ((i : Int) + 1) = ((i + 1 : Nat) : Int) := by omega
  have ih := may_loop x hl H r (i + 1) hn
  rw [parts_cons, part_as]
  by_cases h8 : x.f0 = 8 ∧ (i : Int) < x.f2 ∧ y.f0 ≠ 1
  ·rw [if_pos h8, Bool.false_and]
   refine Ev.step (f := fun k => gossamerref02_may.j2 k i true x.f0 x.f1 x.f2 x.f3 x.f4) (fun k => ?_) (Ev.step (f := fun _ => some false) (fun k => by rw [gossamerref02_may.j2, if_pos rfl]) (Ev.now _))
   rw [gossamerref02_may.l0, if_pos (by omega), if_pos h8.1, if_pos h8.2.1, if_pos (by omega), rd_at _ i y hg, bne_iff_ne.2 h8.2.2]
  ·rw [if_neg h8]
   refine Ev.step (f := fun k => gossamerref02_may.j2 k i false x.f0 x.f1 x.f2 x.f3 x.f4) (fun k => ?_) ?_
   ·rw [gossamerref02_may.l0, if_pos (by omega)]
    by_cases a1 : x.f0 = 8
    ·rw [if_pos a1]
     by_cases a2 : (i : Int) < x.f2
     ·have a3 : y.f0 = 1 := Classical.byContradiction fun q => h8 ⟨a1, a2, q⟩
      rw [if_pos a2, if_pos (by omega), rd_at _ i y hg, a3]; rfl
     ·rw [if_neg a2]
    ·rw [if_neg a1]
   ·refine Ev.step (f := fun k => (gossamerref02_may.f k y.f0 y.f1 y.f2 y.f3 y.f4 (decide (x.f0 = 7) && decide (0 < (i : Int)))).bind fun t => if t = true then gossamerref02_may.l0 k (wrap64 (i + 1)) x.f0 x.f1 x.f2 x.f3 x.f4 else some false) (fun k => ?_) (Ev.bind (H y (List.mem_of_getElem? hg) _) ?_)
    ·rw [gossamerref02_may.j2, if_neg (by simp), if_pos (by omega), if_pos (by omega), rd_at _ i y hg]
     by_cases h7 : x.f0 = 7
     ·rw [if_pos h7, decide_eq_true h7, Bool.true_and]
     ·rw [if_neg h7, decide_eq_false h7, Bool.false_and]
    ·cases mayA y (decide (x.f0 = 7) && decide (0 < (i : Int))) with
     | true =>
      simp only [if_true, Bool.true_and]
      rw [TreeEv.wrap_small (by omega) (by omega), e2]; exact ih
     | false => simp only [Bool.false_eq_true, if_false, Bool.false_and]; exact Ev.now _
theorem name_ev (x : T) (hs : x.f1.size ≤ 1100000) : Ev (fun k => gossamerref02_name.f k x.f0 x.f1 x.f2 x.f3 x.f4) (named x.f1 (what x.f0)) :=
 Ev.step (f := fun k => gossamerref02_name.f (k + 1) x.f0 x.f1 x.f2 x.f3 x.f4) (fun _ => rfl) (Ev.step (f := fun _ => some _) (fun k => name_is x.f1 hs x.f0 x.f2 x.f3 x.f4 k) (Ev.now _))
def pq (x : T) : Bool := known x.f0 && decide (least x.f0 ≤ (x.f4.length : Int)) && decide ((x.f4.length : Int) ≤ most x.f0) && number x.f0 x.f2 x.f4.length
theorem parts_ev (x : T) (hl : x.f4.length ≤ 1000000000) (hn : -9223372036854775808 ≤ x.f2 ∧ x.f2 ≤ 9223372036854775807) : Ev (fun k => gossamerref02_parts.f k x.f0 x.f1 x.f2 x.f3 x.f4) (pq x) :=
 Ev.step (f := fun _ => some _) (fun k => parts_is x.f1 x.f0 x.f2 x.f3 x.f4 hl hn k) (Ev.now _)
theorem may_pq (x : T) : HTree.may x = (named x.f1 (what x.f0) && (pq x && (decide (0 ≤ x.f3) && parts x.f0 x.f2 x.f4 0))) := by
 have e : HTree.may x = (known x.f0 && decide (least x.f0 ≤ (x.f4.length : Int)) && decide ((x.f4.length : Int) ≤ most x.f0) && named x.f1 (what x.f0) && number x.f0 x.f2 x.f4.length && decide (0 ≤ x.f3) && parts x.f0 x.f2 x.f4 0) := by cases x; rfl
 rw [e]; unfold pq
 generalize known x.f0 = b1
 generalize decide (least x.f0 ≤ (x.f4.length : Int)) = b2
 generalize decide ((x.f4.length : Int) ≤ most x.f0) = b3
 generalize named x.f1 (what x.f0) = b4
 generalize number x.f0 x.f2 x.f4.length = b5
 generalize decide (0 ≤ x.f3) = b6
 generalize parts x.f0 x.f2 x.f4 0 = b7
 revert b1 b2 b3 b4 b5 b6 b7; decide
theorem ok_get : ∀ (l : List T), Oks l → ∀ y ∈ l, Ok y
 | [], _, y, hy => by cases hy
 | x :: r, h, y, hy => by
  rcases List.mem_cons.1 hy with rfl | hy
  ·exact h.1
  ·exact ok_get r h.2 y hy
theorem no_ev (x : T) : Ev (fun k => gossamerref02_may.j0 k true x.f0 x.f1 x.f2 x.f3 x.f4) false := Ev.step (f := fun _ => some false) (fun k => by rw [gossamerref02_may.j0, if_pos rfl]) (Ev.now _)
theorem may_ev : ∀ (n : Nat) (x : T), height x ≤ n → wt x ≤ 1100000 → Ok x → ∀ alt : Bool, Ev (fun k => gossamerref02_may.f k x.f0 x.f1 x.f2 x.f3 x.f4 alt) (mayA x alt)
 | 0, x, hn, _, _, _ => by cases x; simp only [height] at hn; omega
 | n + 1, x, hn, hw, ok, alt => by
  have hh : height x = heights x.f4 + 1 := by cases x; rfl
  have hwx : x.f1.size + 1 + wts x.f4 = wt x := by cases x; rfl
  have hl := len_wts x.f4
  have hok : (Lit.int .i64 x.f2).wf = true ∧ Oks x.f4 := by cases x; exact ⟨ok.2.1, ok.2.2.2⟩
  have hn2 : -9223372036854775808 ≤ x.f2 ∧ x.f2 ≤ 9223372036854775807 := by
   have := hok.1
   simp only [Lit.wf, Bool.and_eq_true, decide_eq_true_eq] at this
   exact this
  have H : ∀ y ∈ x.f4, ∀ alt : Bool, Ev (fun k => gossamerref02_may.f k y.f0 y.f1 y.f2 y.f3 y.f4 alt) (mayA y alt) := fun y hy alt => may_ev n y (by have := height_get hy; omega) (by have := wt_get hy; omega) (ok_get _ hok.2 y hy) alt
  have e8 : (x.f0 == 8) = decide (x.f0 = 8) := by
   cases h : decide (x.f0 = 8) with
   | true => exact beq_iff_eq.2 (of_decide_eq_true h)
   | false => exact beq_eq_false_iff_ne.2 (of_decide_eq_false h)
  by_cases hm : ((x.f0 == 8) != alt) = true
  ·have ef : mayA x alt = false := by
    unfold mayA
    rw [← e8]
    have : ((x.f0 == 8) == alt) = false := by revert hm; cases (x.f0 == 8) <;> cases alt <;> decide
    rw [this]; rfl
   rw [ef]
   exact Ev.step (f := fun k => gossamerref02_may.j0 k true x.f0 x.f1 x.f2 x.f3 x.f4) (fun k => by rw [gossamerref02_may.f, if_pos hm]) (no_ev x)
  ·have ef : mayA x alt = HTree.may x := by
    unfold mayA
    rw [← e8]
    have : ((x.f0 == 8) == alt) = true := by revert hm; cases (x.f0 == 8) <;> cases alt <;> decide
    rw [this]; rfl
   rw [ef, may_pq]
   refine Ev.step (f := fun k => (gossamerref02_name.f k x.f0 x.f1 x.f2 x.f3 x.f4).bind fun t201 => if t201 = true then ((gossamerref02_parts.f k x.f0 x.f1 x.f2 x.f3 x.f4).bind fun t202 => if t202 = true then gossamerref02_may.j0 k (decide (x.f3 < 0)) x.f0 x.f1 x.f2 x.f3 x.f4 else gossamerref02_may.j0 k true x.f0 x.f1 x.f2 x.f3 x.f4) else gossamerref02_may.j0 k true x.f0 x.f1 x.f2 x.f3 x.f4) (fun k => by rw [gossamerref02_may.f, if_neg hm]) (Ev.bind (name_ev x (by omega)) ?_)
   cases named x.f1 (what x.f0) with
   | false => simp only [Bool.false_eq_true, if_false, Bool.false_and]; exact no_ev x
   | true =>
    simp only [if_true, Bool.true_and]
    refine Ev.bind (parts_ev x (by omega) hn2) ?_
    cases pq x with
    | false => simp only [Bool.false_eq_true, if_false, Bool.false_and]; exact no_ev x
    | true =>
     simp only [if_true, Bool.true_and]
     by_cases ha : x.f3 < 0
     ·rw [decide_eq_true ha, decide_eq_false (show ¬ 0 ≤ x.f3 by omega), Bool.false_and]; exact no_ev x
     ·rw [decide_eq_false ha, decide_eq_true (show 0 ≤ x.f3 by omega), Bool.true_and]
      refine Ev.step (f := fun k => gossamerref02_may.l0 k 0 x.f0 x.f1 x.f2 x.f3 x.f4) (fun k => by rw [gossamerref02_may.j0, if_neg (by simp)]) ?_
      have := may_loop x (by omega) H x.f4 0 rfl
      simpa using this
theorem May_ev (x : T) (hw : wt x ≤ 1100000) (ok : Ok x) : Ev (fun k => gossamerref02_May.f k x.f0 x.f1 x.f2 x.f3 x.f4) (whole x) := by
 have h := may_ev _ x (Nat.le_refl _) hw ok false
 have e : mayA x false = whole x := by unfold mayA whole; cases h : decide (x.f0 = 8) <;> simp_all
 rw [e] at h
 have : (fun k => gossamerref02_May.f k x.f0 x.f1 x.f2 x.f3 x.f4) = fun k => gossamerref02_may.f k x.f0 x.f1 x.f2 x.f3 x.f4 false := by
  funext k; unfold gossamerref02_May.f; cases gossamerref02_may.f k x.f0 x.f1 x.f2 x.f3 x.f4 false <;> rfl
 rw [this]; exact h
end TreeRm
end Go.Proofs.YthdkjfhpbigdpaaGreatDoor.Pure

namespace Go.Proofs.YthdkjfhpbigdpaaGreatDoor.Pure
open Go Go.RowKit Go.Lib Go.Proofs Go.Proofs.YthdkjfhpbigdpaaGreatDoor.Q Go.Proofs.YthdkjfhpbigdpaaGreatDoorW.PrintWords Go.Proofs.YthdkjfhpbigdpaaGreatDoorW.PrintLast Go.Proofs.YthdkjfhpbigdpaaGreatDoorW.PrintMore
open HTree
set_option linter.unusedVariables false
namespace TreeTl
open TreeEv TreeOne
theorem size_loop (x : T) (hl : x.f4.length ≤ 1000000000) (H : ∀ y ∈ x.f4, Ev (fun k => gossamerref02_Size.f k y.f0 y.f1 y.f2 y.f3 y.f4) (size y : Int)) : ∀ (r : List T) (i acc : Nat), x.f4.drop i = r → acc + sizes r ≤ 2000000000 → Ev (fun k => gossamerref02_Size.l0 k acc i x.f0 x.f1 x.f2 x.f3 x.f4) ((acc + sizes r : Nat) : Int)
 | [], i, acc, h, hb => by
  have := List.drop_eq_nil_iff.1 h
  refine Ev.step (f := fun _ => some _) (fun k => ?_) (Ev.now _)
  rw [gossamerref02_Size.l0, if_neg (by omega)]; simp [sizes]
 | y :: r, i, acc, h, hb => by
  obtain ⟨h0, hi, hn⟩ := at_drop h
  simp only [sizes] at hb
  refine Ev.step (f := fun k => (gossamerref02_Size.f k y.f0 y.f1 y.f2 y.f3 y.f4).bind fun t => gossamerref02_Size.l0 k (wrap64 (acc + t)) (wrap64 (i + 1)) x.f0 x.f1 x.f2 x.f3 x.f4) (fun k => ?_) (Ev.bind (H y (List.mem_of_getElem? h0)) ?_)
  ·rw [gossamerref02_Size.l0, if_pos (by omega), if_pos (by omega), rd_at x.f4 i y h0]
  ·rw [wrap_small (by omega) (by omega), wrap_small (by omega) (by omega)]
   have ih := size_loop x hl H r (i + 1) (acc + size y) hn (by omega)
   have e1 : ((acc : Int) + (size y : Int)) = ((acc + size y : Nat) : Int) := by omega
   have e2 : ((i : Int) + 1) = ((i + 1 : Nat) : Int) := by omega
   rw [e1, e2]
   have e3 : acc + sizes (y :: r) = acc + size y + sizes r := by simp only [sizes]; omega
   rw [e3]; exact ih
theorem size_ev : ∀ (n : Nat) (x : T), height x ≤ n → size x ≤ 1000000000 → Ev (fun k => gossamerref02_Size.f k x.f0 x.f1 x.f2 x.f3 x.f4) (size x : Int)
 | 0, x, hn, _ => by cases x; simp only [height] at hn; omega
 | n + 1, x, hn, hs => by
  have hh : height x = heights x.f4 + 1 := by cases x; rfl
  have hz : size x = sizes x.f4 + 1 := by cases x; rfl
  have H : ∀ y ∈ x.f4, Ev (fun k => gossamerref02_Size.f k y.f0 y.f1 y.f2 y.f3 y.f4) (size y : Int) := fun y hy => size_ev n y (by have := height_get hy; omega) (by have := size_get hy; omega)
  refine Ev.step (f := fun k => gossamerref02_Size.l0 k 1 0 x.f0 x.f1 x.f2 x.f3 x.f4) (fun k => by rw [gossamerref02_Size.f]) ?_
  have := size_loop x (by have := len_sizes x.f4; omega) H x.f4 0 1 rfl (by omega)
  rw [hz]
  have e : sizes x.f4 + 1 = 1 + sizes x.f4 := by omega
  rw [e]; exact this
theorem depth_loop (x : T) (hl : x.f4.length ≤ 1000000000) (H : ∀ y ∈ x.f4, Ev (fun k => gossamerref02_Depth.f k y.f0 y.f1 y.f2 y.f3 y.f4) (height y : Int)) : ∀ (r : List T) (i acc : Nat), x.f4.drop i = r → acc ≤ 1000000000 → heights r ≤ 1000000000 → Ev (fun k => gossamerref02_Depth.l0 k acc i x.f0 x.f1 x.f2 x.f3 x.f4) ((max acc (heights r) + 1 : Nat) : Int)
 | [], i, acc, h, ha, hb => by
  have := List.drop_eq_nil_iff.1 h
  refine Ev.step (f := fun _ => some _) (fun k => ?_) (Ev.now _)
  rw [gossamerref02_Depth.l0, if_neg (by omega), wrap_small (by omega) (by omega)]; simp [heights]
 | y :: r, i, acc, h, ha, hb => by
  obtain ⟨h0, hi, hn⟩ := at_drop h
  simp only [heights] at hb
  refine Ev.step (f := fun k => (gossamerref02_Depth.f k y.f0 y.f1 y.f2 y.f3 y.f4).bind fun t => gossamerref02_Depth.l0 k (mx acc t) (wrap64 (i + 1)) x.f0 x.f1 x.f2 x.f3 x.f4) (fun k => ?_) (Ev.bind (H y (List.mem_of_getElem? h0)) ?_)
  ·rw [gossamerref02_Depth.l0, if_pos (by omega), if_pos (by omega), rd_at x.f4 i y h0]
  ·rw [wrap_small (by omega) (by omega), mx_nat]
   have ih := depth_loop x hl H r (i + 1) (max acc (height y)) hn (by omega) (by omega)
   have e2 : ((i : Int) + 1) = ((i + 1 : Nat) : Int) := by omega
   rw [e2]
   have e3 : max acc (heights (y :: r)) = max (max acc (height y)) (heights r) := by simp only [heights]; omega
   rw [e3]; exact ih
theorem depth_ev : ∀ (n : Nat) (x : T), height x ≤ n → size x ≤ 1000000000 → Ev (fun k => gossamerref02_Depth.f k x.f0 x.f1 x.f2 x.f3 x.f4) (height x : Int)
 | 0, x, hn, _ => by cases x; simp only [height] at hn; omega
 | n + 1, x, hn, hs => by
  have hh : height x = heights x.f4 + 1 := by cases x; rfl
  have hz : size x = sizes x.f4 + 1 := by cases x; rfl
  have H : ∀ y ∈ x.f4, Ev (fun k => gossamerref02_Depth.f k y.f0 y.f1 y.f2 y.f3 y.f4) (height y : Int) := fun y hy => depth_ev n y (by have := height_get hy; omega) (by have := size_get hy; omega)
  refine Ev.step (f := fun k => gossamerref02_Depth.l0 k 0 0 x.f0 x.f1 x.f2 x.f3 x.f4) (fun k => by rw [gossamerref02_Depth.f]) ?_
  have hhs := heights_sizes x.f4
  have := depth_loop x (by have := len_sizes x.f4; omega) H x.f4 0 0 rfl (by omega) (by omega)
  rw [hh]
  have e : heights x.f4 + 1 = max 0 (heights x.f4) + 1 := by omega
  rw [e]; exact this
theorem bare_loop (x : T) (hl : x.f4.length ≤ 1000000000) (H : ∀ a ∈ x.f4, Ev (fun k => gossamerref02_Bare.f k a.f0 a.f1 a.f2 a.f3 a.f4) (flat (bare a))) :
  ∀ (r : List T) (i : Nat) (acc : List T), x.f4.drop i = r → acc.length = i → Ev (fun k => gossamerref02_Bare.l0 k i x.f0 x.f1 x.f2 x.f3 x.f4 x.f0 x.f1 x.f2 0 acc) (x.f0, x.f1, x.f2, 0, acc ++ bares r)
 | [], i, acc, h, ha => by
  have := List.drop_eq_nil_iff.1 h
  refine Ev.step (f := fun _ => some _) (fun k => ?_) (Ev.now _)
  rw [gossamerref02_Bare.l0, if_neg (by omega)]; simp [bares]
 | a :: r, i, acc, h, ha => by
  obtain ⟨hg, hi, hn⟩ := at_drop h
  refine Ev.step (f := fun k => (gossamerref02_Bare.f k a.f0 a.f1 a.f2 a.f3 a.f4).bind fun bt => if acc.length < 2199023255552 then gossamerref02_Bare.l0 k (wrap64 (i + 1)) x.f0 x.f1 x.f2 x.f3 x.f4 x.f0 x.f1 x.f2 0 (acc ++ [⟨bt.1, bt.2.1, bt.2.2.1, bt.2.2.2.1, bt.2.2.2.2⟩]) else none) (fun k => ?_) (Ev.bind (H a (List.mem_of_getElem? hg)) ?_)
  ·rw [gossamerref02_Bare.l0, if_pos (by omega), if_pos (by omega), rd_at _ i a hg]
  ·have e2 : ((i : Int) + 1) = ((i + 1 : Nat) : Int) := by omega
   have ih := bare_loop x hl H r (i + 1) (acc ++ [bare a]) hn (by simp [ha])
   have e3 : acc ++ [bare a] ++ bares r = acc ++ bares (a :: r) := by simp [bares]
   rw [e3] at ih
   have e4 : acc.length < 2199023255552 := by omega
   have e5 : (⟨(bare a).f0, (bare a).f1, (bare a).f2, (bare a).f3, (bare a).f4⟩ : T) = bare a := by cases bare a; rfl
   simp only [e4, if_true, flat]
   rw [e5]
   rw [TreeEv.wrap_small (by omega) (by omega), e2]; exact ih
theorem bare_ev : ∀ (n : Nat) (x : T), height x ≤ n → size x ≤ 1000000000 → Ev (fun k => gossamerref02_Bare.f k x.f0 x.f1 x.f2 x.f3 x.f4) (flat (bare x))
 | 0, x, hn, _ => by cases x; simp only [height] at hn; omega
 | n + 1, x, hn, hs => by
  have hh : height x = heights x.f4 + 1 := by cases x; rfl
  have hz : size x = sizes x.f4 + 1 := by cases x; rfl
  have H : ∀ a ∈ x.f4, Ev (fun k => gossamerref02_Bare.f k a.f0 a.f1 a.f2 a.f3 a.f4) (flat (bare a)) := fun a ha => bare_ev n a (by have := height_get ha; omega) (by have := size_get ha; omega)
  refine Ev.step (f := fun k => gossamerref02_Bare.l0 k 0 x.f0 x.f1 x.f2 x.f3 x.f4 x.f0 x.f1 x.f2 0 []) (fun k => by rw [gossamerref02_Bare.f]) ?_
  have := bare_loop x (by have := len_sizes x.f4; omega) H x.f4 0 [] rfl rfl
  have e : flat (bare x) = (x.f0, x.f1, x.f2, 0, [] ++ bares x.f4) := by cases x; rfl
  rw [e]; exact this
theorem small_ev (x : T) (hs : size x ≤ 1000000000) (most : Int) (h0 : 0 ≤ most) (h1 : most ≤ 1000000) : ∃ b, Ev (fun k => gossamerref02_Small.f k x.f0 x.f1 x.f2 x.f3 x.f4 most) b := by
 obtain ⟨k, b, h⟩ := small_some x hs most h0 h1
 exact ⟨b, Ev.of (fun k => gossamerref02_Small.mono _ _ _ _ _ _ k) h⟩
theorem may_f (x : T) (hw : wt x ≤ 1000000000) : tree_May.f x.f0 x.f1 x.f2 x.f3 x.f4 = some (whole x) := by
 have e : (⟨x.f0, x.f1, x.f2, x.f3, x.f4⟩ : T) = x := by cases x; rfl
 unfold tree_May.f
 rw [e, if_pos hw]
theorem law (t : T) (ok : Ok t) (hw : wt t ≤ 1048576) : ∃ k, gossamerlaw02_TreeTells.f k t.f0 t.f1 t.f2 t.f3 t.f4 = some true := by
 have hs : size t ≤ 1000000000 := by have := size_wt t; omega
 refine Ev.rounds ?_
 obtain ⟨b, hb⟩ := small_ev t hs 500 (by omega) (by omega)
 refine Ev.congr (fun k => gossamerlaw02_TreeTells.f.eq_1 k _ _ _ _ _) (Ev.bind hb ?_)
 cases b with
 | false => exact ⟨0, fun k _ => rfl⟩
 | true =>
  have hf : ∀ k : Nat, gossamerlaw02_fixed.f = some true := fun _ => rfl
  refine Ev.congr (fun k => if_pos rfl) ?_
  refine Ev.bind (a := true) ⟨0, fun k _ => rfl⟩ (Ev.congr (fun k => if_pos rfl) ?_)
  refine Ev.bind (a := whole t) ⟨0, fun k _ => may_f t (by omega)⟩ ?_
  refine Ev.bind (TreeRm.May_ev t (by omega) ok) (Ev.congr (fun k => if_pos (beq_self_eq_true _)) ?_)
  refine Ev.bind (TreeEv.depth_ev _ t (Nat.le_refl _) hs) ?_
  refine Ev.bind (depth_ev _ t (Nat.le_refl _) hs) (Ev.congr (fun k => if_pos rfl) ?_)
  refine Ev.bind (TreeEv.size_ev _ t (Nat.le_refl _) hs) ?_
  refine Ev.bind (size_ev _ t (Nat.le_refl _) hs) (Ev.congr (fun k => if_pos rfl) ?_)
  refine Ev.bind (TreeOne.bare_ev _ t (Nat.le_refl _) hs) ?_
  refine Ev.bind (bare_ev _ t (Nat.le_refl _) hs) ?_
  have h1 := TreeOne.one_ev _ (bare t) (Nat.le_refl _) (by rw [size_bare]; exact hs) (bare t)
  rw [one_refl] at h1
  exact Ev.bind h1 (Ev.now _)
end TreeTl
theorem TreeTells_walk {w : World} (t : T) (A : Option Addr) (c : Nat) (hC : Kd.C k24 w A t.f4.length t.f4) (hl : t.f4.length ≤ c) (ok : Ok t) (hw : wt t ≤ 1048576) (htab : Lib.TabIs Tryz.prog w "strings.asciiSpace" .u8 Lib.asciiSpaceTab) :
  Calls Tryz.prog 3 #[.agg #[.int .i64 t.f0, .string t.f1, .int .i64 t.f2, .int .i64 t.f3, .slice A t.f4.length c]] w fun e w' => e = .returned (.bool true) ∧ Below w.heap.size w w' := by
 obtain ⟨k, hk⟩ := TreeTl.law t ok hw
 exact gossamerlaw02_TreeTells.calls k t.f0 t.f1 t.f2 t.f3 A c t.f4 true w htab hC hl hk
end Go.Proofs.YthdkjfhpbigdpaaGreatDoor.Pure

/- Reading an argument: what the model's reading of a value gives, kind by kind: the Lean value, its bounds, and its weight (at most the reading's bulk). -/
namespace Go.Proofs.YthdkjfhpbigdpaaGreatDoor.HRead
open Go Go.RowKit Go.Lib Go.Proofs.YthdkjfhpbigdpaaGreatDoorW.PrintWords Go.Proofs.YthdkjfhpbigdpaaGreatDoorW.PrintLast Go.Proofs.YthdkjfhpbigdpaaGreatDoorW.PrintMore
set_option linter.unusedVariables false

def Rd {α : Type} (P : Program) (d : Kd α) (t : TypeId) (ok : α → Prop) (wt : α → Nat) (n : Nat) : Prop :=
 ∀ {H : Type} (enc : TypeId × Value → H) (w : World) (base : Nat) (spare : Nat → Bool) (held : Bool) (cs : List Value) (x : DataW H × List MemPlace),
  DataW.trod enc P w base spare held n t cs = some x → ∃ y, d.K w y cs ∧ ok y ∧ wt y ≤ Rows.uptoBulk x.1
def RdF {α : Type} (P : Program) (d : Kd α) (fs : List Field) (o : Nat) (ok : α → Prop) (wt : α → Nat) (n : Nat) : Prop :=
 ∀ {H : Type} (enc : TypeId × Value → H) (w : World) (base : Nat) (spare : Nat → Bool) (held : Bool) (cs : List Value) (xs : List (DataW H × List MemPlace)), xs.length = fs.length →
  (∀ (i : Nat) (f : Field), fs[i]? = some f → DataW.trod enc P w base spare held n f.type ((cs.drop f.offset).take (P.cellsOf f.type)) = xs[i]?) →
  ∃ y, d.K w y ((cs.drop o).take d.sz) ∧ ok y ∧ wt y ≤ Rows.uptoBulkAll (xs.map (·.1))

theorem list_of {α : Type} {p : Nat → α → Prop} : ∀ n, (∀ i, i < n → ∃ y, p i y) → ∃ ys : List α, ys.length = n ∧ ∀ i y, ys[i]? = some y → p i y
 | 0, _ => ⟨[], rfl, fun i y h => by simp at h⟩
 | n + 1, h => by
  obtain ⟨ys, hl, hp⟩ := list_of n fun i hi => h i (by omega)
  obtain ⟨y, hy⟩ := h n (by omega)
  refine ⟨ys ++ [y], by simp [hl], fun i z hz => ?_⟩
  by_cases hi : i < n
  ·rw [List.getElem?_append_left (by omega)] at hz; exact hp i z hz
  ·rw [List.getElem?_append_right (by omega)] at hz
   have h0 : i - ys.length = 0 := by
    have := (List.getElem?_eq_some_iff.1 hz).1
    simp at this; omega
   rw [h0] at hz
   obtain rfl : y = z := by simpa using hz
   obtain rfl : i = n := by omega
   exact hy
theorem bulk_sum {α H : Type} (wt : α → Nat) : ∀ (ys : List α) (ds : List (DataW H)), ys.length = ds.length → (∀ (i : Nat) (y : α) (d : DataW H), ys[i]? = some y → ds[i]? = some d → wt y ≤ Rows.uptoBulk d) → (ys.map wt).sum ≤ Rows.uptoBulkAll ds
 | [], ds, _, _ => by simp
 | y :: ys, [], h, _ => by simp at h
 | y :: ys, d :: ds, h, hp => by
  have h1 := hp 0 y d rfl rfl
  have h2 := bulk_sum wt ys ds (by simpa using h) fun i z e hz he => hp (i + 1) z e hz he
  simp only [List.map_cons, List.sum_cons, Rows.uptoBulkAll]
  omega

section
variable {P : Program} {t e : TypeId} {n : Nat}
theorem rd_zero {α : Type} {d : Kd α} {ok : α → Prop} {wt : α → Nat} : Rd P d t ok wt 0 := fun enc w base spare held cs x h => by simp [DataW.trod] at h
theorem rd_int {k : IntKind} (ht : P.underlying t = some (.int k)) : Rd P (Kd.int k) t (fun m => (Lit.int k m).wf = true) (fun _ => 1) n := by
 intro H enc w base spare held cs x h
 obtain ⟨m, rfl, rfl, hw⟩ := DataW.trod_int ht h
 exact ⟨m, rfl, hw, by simp [Rows.uptoBulk]⟩
theorem rd_bool (ht : P.underlying t = some .bool) : Rd P Kd.bool t (fun _ => True) (fun _ => 1) n := by
 intro H enc w base spare held cs x h
 obtain ⟨b, rfl, rfl⟩ := DataW.trod_bool ht h
 exact ⟨b, rfl, trivial, by simp [Rows.uptoBulk]⟩
theorem rd_string (ht : P.underlying t = some .string) : Rd P Kd.string t (fun _ => True) (fun s => s.size + 1) n := by
 intro H enc w base spare held cs x h
 obtain ⟨s, rfl, rfl, hs⟩ := DataW.trod_string ht h
 exact ⟨s, rfl, trivial, by simp [Rows.uptoBulk]⟩
theorem rd_slice {α : Type} {d : Kd α} {ok : α → Prop} {wt : α → Nat} (ht : P.underlying t = some (.slice e)) (hc : P.cellsOf e = d.sz) (h : Rd P d e ok wt n) :
  Rd P (Kd.slice e d) t (fun ys => (∀ y ∈ ys, ok y) ∧ ys.length ≤ 9223372036854775807) (fun ys => (ys.map wt).sum + 1) (n + 1) := by
 intro H enc w base spare held cs x hx
 rcases DataW.trod_slice ht hx with ⟨rfl, rfl⟩ | ⟨a, len, cap, elems, rest, m, hm, rfl, rfl, hb, hl, hmax, hel, hget, _, _⟩
 ·exact ⟨[], ⟨none, 0, rfl, Nat.le_refl _, rfl, by simp, fun h0 => absurd h0 (by simp)⟩, ⟨by simp, by simp⟩, by simp [Rows.uptoBulk]⟩
 ·obtain rfl : n = m := by omega
  rw [hc] at hget
  have hmax' : cap ≤ 9223372036854775807 := hmax
  have key : ∀ i, i < len → ∃ y, ∃ cs' x', elems[i]? = some x' ∧ w.cells? base (a.add (i * d.sz)) d.sz = some cs' ∧ d.K w y cs' ∧ ok y ∧ wt y ≤ Rows.uptoBulk x'.1 := by
   intro i hi
   have h1 := hget i hi
   rw [List.getElem?_eq_getElem (by omega)] at h1
   obtain ⟨cs', h2, h3⟩ := Option.bind_eq_some_iff.1 h1
   obtain ⟨y, k1, k2, k3⟩ := h enc w base spare held cs' _ h3
   exact ⟨y, cs', _, List.getElem?_eq_getElem (by omega), h2, k1, k2, k3⟩
  obtain ⟨ys, hyl, hy⟩ := list_of len key
  refine ⟨ys, ⟨some a, cap, by rw [hyl], by omega, ?_⟩, ⟨?_, by omega⟩, ?_⟩
  ·refine ⟨rfl, by omega, fun _ => ⟨a, rfl, fun j p hj => ?_⟩⟩
   obtain ⟨cs', x', _, h2, h3, _⟩ := hy j p hj
   obtain ⟨_, h5, h6⟩ := World.cells?_some h2
   refine ⟨cs', h5, h3, fun i u hi => ?_⟩
   have hlt : i < d.sz := by
    have := (List.getElem?_eq_some_iff.1 hi).1
    omega
   rw [← add_add, h6 i hlt, hi]
  ·intro y hm
   obtain ⟨i, hi⟩ := List.getElem?_of_mem hm
   obtain ⟨_, _, _, _, _, h4, _⟩ := hy i y hi
   exact h4
  ·have := bulk_sum wt ys (elems.map (·.1)) (by simp [hyl, hel]) (fun i y dd hi hd => by
    obtain ⟨cs', x', h1, _, _, _, h5⟩ := hy i y hi
    rw [List.getElem?_map, h1] at hd
    obtain rfl : x'.1 = dd := by simpa using hd
    exact h5)
   simp only [Rows.uptoBulk]
   omega
theorem rdf_one {α : Type} {d : Kd α} {ok : α → Prop} {wt : α → Nat} {f : Field} {o : Nat} (ho : f.offset = o) (hc : P.cellsOf f.type = d.sz) (h : Rd P d f.type ok wt n) : RdF P d [f] o ok wt n := by
 intro H enc w base spare held cs xs hl hx
 match xs, hl with
 | [x], _ =>
  have h0 := hx 0 f rfl
  rw [ho, hc] at h0
  obtain ⟨y, h1, h2, h3⟩ := h enc w base spare held _ _ h0
  exact ⟨y, h1, h2, by simpa [Rows.uptoBulkAll] using h3⟩
theorem rdf_cons {α β : Type} {d : Kd α} {d2 : Kd β} {ok : α → Prop} {wt : α → Nat} {ok2 : β → Prop} {wt2 : β → Nat} {f : Field} {fs : List Field} {o : Nat} (ho : f.offset = o) (hc : P.cellsOf f.type = d.sz) (h : Rd P d f.type ok wt n) (h2 : RdF P d2 fs (o + d.sz) ok2 wt2 n) :
  RdF P (Kd.pair d d2) (f :: fs) o (fun y => ok y.1 ∧ ok2 y.2) (fun y => wt y.1 + wt2 y.2) n := by
 intro H enc w base spare held cs xs hl hx
 match xs, hl with
 | x :: xs, hl =>
  have h0 := hx 0 f rfl
  rw [ho, hc] at h0
  obtain ⟨y, k1, k2, k3⟩ := h enc w base spare held _ _ h0
  obtain ⟨z, j1, j2, j3⟩ := h2 enc w base spare held cs xs (by simpa using hl) fun i g hg => by
   have := hx (i + 1) g (by simpa using hg)
   simpa using this
  refine ⟨(y, z), ⟨_, _, ?_, k1, j1⟩, ⟨k2, j2⟩, ?_⟩
  ·show (cs.drop o).take (d.sz + d2.sz) = _
   rw [List.take_add, List.drop_drop]
  ·simp only [List.map_cons, Rows.uptoBulkAll]
   omega
theorem rd_struct {α : Type} {d : Kd α} {ok : α → Prop} {wt : α → Nat} {fs : Array Field} (ht : P.underlying t = some (.struct fs)) (hc : P.cellsOf t = d.sz) (h : RdF P d fs.toList 0 ok wt n) : Rd P d t ok (fun y => wt y + 1) (n + 1) := by
 intro H enc w base spare held cs x hx
 obtain ⟨xs, m, hm, rfl, hl, hxl, hf⟩ := DataW.trod_struct ht hx
 obtain rfl : n = m := by omega
 obtain ⟨y, h1, h2, h3⟩ := h enc w base spare held cs xs (by simpa using hxl) fun i f hi => hf i f (by simpa using hi)
 refine ⟨y, ?_, h2, by simp only [Rows.uptoBulk]; omega⟩
 rw [List.drop_zero, List.take_of_length_le (by omega)] at h1
 exact h1
theorem rd_iso {α β : Type} {d : Kd α} {ok : α → Prop} {wt : α → Nat} (f : β → α) (g : α → β) (hfg : ∀ a, f (g a) = a) {ok' : β → Prop} {wt' : β → Nat} (hok : ∀ a, ok a → ok' (g a)) (hwt : ∀ a, wt' (g a) ≤ wt a) (h : Rd P d t ok wt n) : Rd P (Kd.iso d f) t ok' wt' n := by
 intro H enc w base spare held cs x hx
 obtain ⟨y, h1, h2, h3⟩ := h enc w base spare held cs x hx
 exact ⟨g y, by show d.K w (f (g y)) cs; rw [hfg]; exact h1, hok _ h2, Nat.le_trans (hwt _) h3⟩
theorem read_slice {α : Type} {d : Kd α} {ok : List α → Prop} {wt : α → Nat} {H : Type} {enc : TypeId × Value → H} {w : World} {base : Nat} {spare : Nat → Bool} {held : Bool} {v : Value} {D : DataW H} {ps : List MemPlace} (ht : P.underlying t = some (.slice e))
  (h : ∀ n, Rd P (Kd.slice e d) t ok (fun ys => (ys.map wt).sum + 1) n) (hv : v.cells.toList = [v]) (hd : DataW.Trod enc P w base spare held t v D ps) :
  ∃ (ys : List α) (A : Option Addr) (c : Nat), v = .slice A ys.length c ∧ ys.length ≤ c ∧ d.C w A ys.length ys ∧ ok ys ∧ (ys.map wt).sum + 1 ≤ Rows.uptoBulk D := by
 obtain ⟨fuel, hf⟩ := hd
 obtain ⟨ys, ⟨A, c, h1, h2, h3⟩, h4, h5⟩ := h fuel enc w base spare held _ _ hf
 rw [hv] at h1
 exact ⟨ys, A, c, by simpa using h1, h2, h3, h4, h5⟩
end
end Go.Proofs.YthdkjfhpbigdpaaGreatDoor.HRead

namespace Go.Proofs.YthdkjfhpbigdpaaGreatDoor.Pure
open Go Go.RowKit Go.Proofs.YthdkjfhpbigdpaaGreatDoor.Q Go.Proofs.YthdkjfhpbigdpaaGreatDoorW.PrintWords Go.Proofs.YthdkjfhpbigdpaaGreatDoorW.PrintLast Go.Proofs.YthdkjfhpbigdpaaGreatDoorW.PrintMore
open HRead HTree Go.WideShapes
namespace TreeRd
theorem wts_sum : ∀ l : List T, wts l = (l.map wt).sum
 | [] => rfl
 | x :: r => by simp only [wts, List.map_cons, List.sum_cons, wts_sum r]
theorem oks_of : ∀ l : List T, (∀ y ∈ l, Ok y) → Oks l
 | [], _ => trivial
 | x :: r, h => ⟨h x (List.mem_cons_self ..), oks_of r fun y hy => h y (List.mem_cons_of_mem _ hy)⟩
theorem rdTree : ∀ n, (∀ m, m ≤ n → Rd Tryz.prog k24 24 Ok wt m)
 | 0 => fun m hm => by
  obtain rfl : m = 0 := by omega
  exact rd_zero
 | n + 1 => fun m hm => by
  have ih := rdTree n
  rcases Nat.lt_or_ge m (n + 1) with hlt | hge
  ·intro H enc w base spare held cs x hx
   exact ih m (by omega) enc w base spare held cs x hx
  ·obtain rfl : m = n + 1 := by omega
   have hs : Rd Tryz.prog (Kd.slice 24 k24) 22 (fun ys => (∀ y ∈ ys, Ok y) ∧ ys.length ≤ 9223372036854775807) (fun ys => (ys.map wt).sum + 1) n := by
    cases n with
    | zero => exact rd_zero
    | succ n => exact rd_slice Tryz.underlying22 (by kernel_rfl) (ih n (by omega))
   intro H enc w base spare held cs x hx
   obtain ⟨y, hK, ⟨o1, _, o2, o4, o3, _⟩, hw⟩ := rd_struct (d := Kd.pair (Kd.int .i64) (Kd.pair Kd.string (Kd.pair (Kd.int .i64) (Kd.pair (Kd.int .i64) (Kd.slice 24 k24))))) Tryz.underlying24 (by kernel_rfl) (rdf_cons rfl (by kernel_rfl) (rd_int Tryz.underlying3) (rdf_cons rfl (by kernel_rfl) (rd_string Tryz.underlying9) (rdf_cons rfl (by kernel_rfl) (rd_int Tryz.underlying3) (rdf_cons rfl (by kernel_rfl) (rd_int Tryz.underlying3) (rdf_one rfl (by kernel_rfl) hs))))) enc w base spare held cs x hx
   obtain ⟨a, s, b, p, l⟩ := y
   refine ⟨⟨a, s, b, p, l⟩, ?_, ⟨o1, o2, o4, oks_of l o3⟩, ?_⟩
   ·obtain ⟨_, _, rfl, rfl, ⟨_, _, rfl, rfl, ⟨_, _, rfl, rfl, ⟨_, _, rfl, rfl, ⟨A, c, rfl, hl, g⟩⟩⟩⟩⟩ := hK
    exact k24_mk w ⟨a, s, b, p, l⟩ hl g
   ·have e := wts_sum l
    simp only [wt]
    simp only at hw
    omega
set_option maxRecDepth 100000 in
theorem readTree {H : Type} {enc : TypeId × Value → H} {W : World} {base0 base : Nat} {spare : Nat → Bool} {held : Bool} {r : Reach} {v : Value} {D : DataW H} {ps : List MemPlace} (hval : Value.okWide Tryz.prog W r base0 24 v)
  (hd : DataW.Trod enc Tryz.prog W base spare held 24 v D ps) :
  ∃ (x : T) (A : Option Addr) (c : Nat), v = .agg #[.int .i64 x.f0, .string x.f1, .int .i64 x.f2, .int .i64 x.f3, .slice A x.f4.length c] ∧ Kd.C k24 W A x.f4.length x.f4 ∧ x.f4.length ≤ c ∧ Ok x ∧ wt x ≤ Rows.uptoBulk D := by
 obtain ⟨cs, rfl, hsz⟩ := okWide_struct Tryz.underlying24 hval
 obtain ⟨fuel, hf⟩ := hd
 obtain ⟨x, hK, hok, hw⟩ := rdTree fuel fuel (Nat.le_refl _) enc W base spare held _ _ hf
 obtain ⟨A, c, hcs, hl, hC⟩ := k24_open hK
 refine ⟨x, A, c, ?_, hC, hl, hok, hw⟩
 have : cs.toList = [.int .i64 x.f0, .string x.f1, .int .i64 x.f2, .int .i64 x.f3, .slice A x.f4.length c] := by simpa [Value.cells] using hcs
 rw [← this]
end TreeRd
end Go.Proofs.YthdkjfhpbigdpaaGreatDoor.Pure

namespace Go.Proofs.YthdkjfhpbigdpaaGreatDoor.Pure
open Go Go.RowKit
namespace TreeTab
theorem gTab : Tryz.prog.globalNamed "strings.asciiSpace" = some 0 := by kernel_rfl
theorem gTabType : (Tryz.prog.globals[0]?).map (·.type) = some 51 := by kernel_rfl
theorem data : (Rows.laid_strings_asciiSpace : DataW Unit) = Lib.tabData .u8 Lib.asciiSpaceTab := by kernel_rfl
theorem tab_of {W : World} (h : laidMetH Tryz.prog Rows.treeTellsUptoRow.laid W) : Lib.TabIs Tryz.prog W "strings.asciiSpace" .u8 Lib.asciiSpaceTab := by
 rw [MakeChecks.laidMetH_plain _ _ _ (by kernel_rfl)] at h
 have h2 := h.tail.tail.tail.tail.tail.tail.tail
 rw [data] at h2
 exact Lib.tabIs_of_head gTab gTabType Tryz.underlying51 Tryz.underlying5 (by kernel_rfl) (by kernel_rfl) h2
end TreeTab
end Go.Proofs.YthdkjfhpbigdpaaGreatDoor.Pure
