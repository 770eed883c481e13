-- Written for this claim.
import Derived.Test.YthdkjfhpbigdpaaDoorQx5
import Derived.Test.YthdkjfhpbigdpaaDoorQx4
import Derived.Test.YthdkjfhpbigdpaaDoorQx24
import Derived.Test.YthdkjfhpbigdpaaDoorQx25
import Derived.Test.YthdkjfhpbigdpaaDoorHTree
namespace Go.Proofs.YthdkjfhpbigdpaaDoor.Pure
open Go Go.RowKit Go.Proofs.YthdkjfhpbigdpaaDoor.Q Go.Proofs.YthdkjfhpbigdpaaDoorW.PrintWords Go.Proofs.YthdkjfhpbigdpaaDoorW.PrintLast Go.Proofs.YthdkjfhpbigdpaaDoorW.PrintMore
open HTree
namespace TreeEv
theorem wrap_small {n : Int} (h0 : -9223372036854775808 ≤ n) (h1 : n < 9223372036854775808) : wrap64 n = n := by
  unfold wrap64; omega
theorem rd_at (l : List S24) (i : Nat) (t : S24) (h : l[i]? = some t) : rd_T24 l (i : Int) = t := by
  unfold rd_T24
  rw [Int.toNat_natCast, List.getD_eq_getElem?_getD, h]; rfl
theorem at_drop {l r : List T} {i : Nat} {x : T} (h : l.drop i = x :: r) : l[i]? = some x ∧ i < l.length ∧ l.drop (i + 1) = r := by
  have h0 : l[i]? = some x := by have := congrArg (fun l => l[0]?) h; simpa using this
  exact ⟨h0, (List.getElem?_eq_some_iff.1 h0).1, by rw [← List.drop_drop, h]; rfl⟩
theorem size_get {l : List T} {x : T} (h : x ∈ l) : size x ≤ sizes l := by
  induction l with
  | nil => cases h
  | cons y r ih =>
    simp only [sizes]
    rcases List.mem_cons.1 h with rfl | h
    · omega
    · have := ih h; omega
theorem size_pos : ∀ x : T, 1 ≤ size x
  | ⟨_, _, _, _, _⟩ => by simp only [size]; omega
theorem len_sizes : ∀ l : List T, l.length ≤ sizes l
  | [] => Nat.le_refl _
  | x :: r => by have := len_sizes r; have := size_pos x; simp only [sizes, List.length_cons]; omega
mutual
theorem height_size : ∀ x : T, height x ≤ size x
  | ⟨_, _, _, _, l⟩ => by have := heights_sizes l; simp only [height, size]; omega
theorem heights_sizes : ∀ l : List T, heights l ≤ sizes l
  | [] => Nat.le_refl _
  | x :: r => by have := height_size x; have := heights_sizes r; simp only [heights, sizes]; omega
end
mutual
theorem size_wt : ∀ x : T, size x ≤ wt x
  | ⟨_, _, _, _, l⟩ => by have := sizes_wts l; simp only [size, wt]; omega
theorem sizes_wts : ∀ l : List T, sizes l ≤ wts l
  | [] => Nat.le_refl _
  | x :: r => by have := size_wt x; have := sizes_wts r; simp only [sizes, wts]; omega
end
theorem size_loop (l : List T) (hl : l.length ≤ 1000000000) (H : ∀ x ∈ l, Ev (fun k => tree_Size.f k x.f0 x.f1 x.f2 x.f3 x.f4) (size x : Int)) : ∀ (r : List T) (i acc : Nat), l.drop i = r → acc + sizes r ≤ 2000000000 → Ev (fun k => tree_Size.l0 k acc l l.length i) ((acc + sizes r : Nat) : Int)
  | [], i, acc, h, hb => by
    have := List.drop_eq_nil_iff.1 h
    refine Ev.step (f := fun _ => some _) (fun k => ?_) (Ev.now _)
    rw [tree_Size.l0, if_neg (by omega)]; simp [sizes]
  | x :: r, i, acc, h, hb => by
    obtain ⟨h0, hi, hn⟩ := at_drop h
    simp only [sizes] at hb
    refine Ev.step (f := fun k => (tree_Size.f k x.f0 x.f1 x.f2 x.f3 x.f4).bind fun t => tree_Size.l0 k (wrap64 (acc + t)) l l.length (wrap64 (i + 1))) (fun k => ?_) (Ev.bind (H x (List.mem_of_getElem? h0)) ?_)
    · rw [tree_Size.l0, if_pos (by omega), if_pos (by omega), if_pos (by omega), rd_at l i x h0]
    · rw [wrap_small (by omega) (by omega), wrap_small (by omega) (by omega)]
      have ih := size_loop l hl H r (i + 1) (acc + size x) hn (by omega)
      have e1 : ((acc : Int) + (size x : Int)) = ((acc + size x : Nat) : Int) := by omega
      have e2 : ((i : Int) + 1) = ((i + 1 : Nat) : Int) := by omega
      rw [e1, e2]
      have e3 : acc + sizes (x :: r) = acc + size x + sizes r := by simp only [sizes]; omega
      rw [e3]; exact ih
theorem size_ev : ∀ (n : Nat) (x : T), height x ≤ n → size x ≤ 1000000000 → Ev (fun k => tree_Size.f k x.f0 x.f1 x.f2 x.f3 x.f4) (size x : Int)
  | 0, x, hn, _ => by cases x; simp only [height] at hn; omega
  | n + 1, x, hn, hs => by
    have hh : height x = heights x.f4 + 1 := by cases x; rfl
    have hz : size x = sizes x.f4 + 1 := by cases x; rfl
    have H : ∀ y ∈ x.f4, Ev (fun k => tree_Size.f k y.f0 y.f1 y.f2 y.f3 y.f4) (size y : Int) := fun y hy => size_ev n y (by have := height_get hy; omega) (by have := size_get hy; omega)
    refine Ev.step (f := fun k => tree_Size.l0 k 1 x.f4 x.f4.length 0) (fun k => by rw [tree_Size.f]) ?_
    have := size_loop x.f4 (by have := len_sizes x.f4; omega) H x.f4 0 1 rfl (by omega)
    rw [hz]
    have e : sizes x.f4 + 1 = 1 + sizes x.f4 := by omega
    rw [e]; exact this
theorem mx_nat (a b : Nat) : mx (a : Int) (b : Int) = ((max a b : Nat) : Int) := by
  unfold mx; omega
theorem depth_loop (l : List T) (hl : l.length ≤ 1000000000) (H : ∀ x ∈ l, Ev (fun k => tree_Depth.f k x.f0 x.f1 x.f2 x.f3 x.f4) (height x : Int)) : ∀ (r : List T) (i acc : Nat), l.drop i = r → acc ≤ 1000000000 → heights r ≤ 1000000000 → Ev (fun k => tree_Depth.l0 k acc l l.length i) ((max acc (heights r) + 1 : Nat) : Int)
  | [], i, acc, h, ha, hb => by
    have := List.drop_eq_nil_iff.1 h
    refine Ev.step (f := fun _ => some _) (fun k => ?_) (Ev.now _)
    rw [tree_Depth.l0, if_neg (by omega), wrap_small (by omega) (by omega)]; simp [heights]
  | x :: r, i, acc, h, ha, hb => by
    obtain ⟨h0, hi, hn⟩ := at_drop h
    simp only [heights] at hb
    refine Ev.step (f := fun k => (tree_Depth.f k x.f0 x.f1 x.f2 x.f3 x.f4).bind fun t => tree_Depth.l0 k (mx acc t) l l.length (wrap64 (i + 1))) (fun k => ?_) (Ev.bind (H x (List.mem_of_getElem? h0)) ?_)
    · rw [tree_Depth.l0, if_pos (by omega), if_pos (by omega), if_pos (by omega), rd_at l i x h0]
    · rw [wrap_small (by omega) (by omega), mx_nat]
      have ih := depth_loop l hl H r (i + 1) (max acc (height x)) hn (by omega) (by omega)
      have e2 : ((i : Int) + 1) = ((i + 1 : Nat) : Int) := by omega
      rw [e2]
      have e3 : max acc (heights (x :: r)) = max (max acc (height x)) (heights r) := by simp only [heights]; omega
      rw [e3]; exact ih
theorem depth_ev : ∀ (n : Nat) (x : T), height x ≤ n → size x ≤ 1000000000 → Ev (fun k => tree_Depth.f k x.f0 x.f1 x.f2 x.f3 x.f4) (height x : Int)
  | 0, x, hn, _ => by cases x; simp only [height] at hn; omega
  | n + 1, x, hn, hs => by
    have hh : height x = heights x.f4 + 1 := by cases x; rfl
    have hz : size x = sizes x.f4 + 1 := by cases x; rfl
    have H : ∀ y ∈ x.f4, Ev (fun k => tree_Depth.f k y.f0 y.f1 y.f2 y.f3 y.f4) (height y : Int) := fun y hy => depth_ev n y (by have := height_get hy; omega) (by have := size_get hy; omega)
    refine Ev.step (f := fun k => tree_Depth.l0 k 0 x.f4 x.f4.length 0) (fun k => by rw [tree_Depth.f]) ?_
    have hhs := heights_sizes x.f4
    have := depth_loop x.f4 (by have := len_sizes x.f4; omega) H x.f4 0 0 rfl (by omega) (by omega)
    rw [hh]
    have e : heights x.f4 + 1 = max 0 (heights x.f4) + 1 := by omega
    rw [e]; exact this
/-- Small ends. -/
theorem few_loop (x : T) (hl : x.f4.length ≤ 1000000000) (deep : Int) (hd : -1000000 ≤ deep ∧ deep ≤ 1000000) (H : ∀ y ∈ x.f4, ∀ left dp : Int, -1000000 ≤ left → left ≤ 1000000 → -1000000 ≤ dp → dp ≤ 1000000 → ∃ r : Int, -1 ≤ r ∧ r ≤ 1000000 ∧ Ev (fun k => gossamerref02_few.f k y.f0 y.f1 y.f2 y.f3 y.f4 left dp) r) (hd1 : 1 ≤ deep) :
    ∀ (r : List T) (i : Nat) (left : Int), x.f4.drop i = r → 0 ≤ left → left ≤ 1000000 → ∃ q : Int, -1 ≤ q ∧ q ≤ 1000000 ∧ Ev (fun k => gossamerref02_few.l0 k left deep i x.f0 x.f1 x.f2 x.f3 x.f4) q
  | [], i, left, h, h0, h1 => by
    have := List.drop_eq_nil_iff.1 h
    refine ⟨left, by omega, h1, Ev.step (f := fun _ => some _) (fun k => ?_) (Ev.now _)⟩
    rw [gossamerref02_few.l0, if_neg (by omega)]
  | y :: r, i, left, h, h0, h1 => by
    obtain ⟨hg, hi, hn⟩ := at_drop h
    obtain ⟨q, hq0, hq1, hev⟩ := H y (List.mem_of_getElem? hg) left (deep - 1) (by omega) h1 (by omega) (by omega)
    by_cases hneg : q < 0
    · refine ⟨-1, by omega, by omega, Ev.step (f := fun k => (gossamerref02_few.f k y.f0 y.f1 y.f2 y.f3 y.f4 left (deep - 1)).bind fun t => if t < 0 then some (-1) else gossamerref02_few.l0 k t deep (wrap64 (i + 1)) x.f0 x.f1 x.f2 x.f3 x.f4) (fun k => ?_) (Ev.bind hev ?_)⟩
      · rw [gossamerref02_few.l0, if_pos (by omega), if_pos (by omega), rd_at _ i y hg, wrap_small (n := deep - 1) (by omega) (by omega)]
      · simp only [hneg, if_true]; exact Ev.now _
    · obtain ⟨q2, a, b, hev2⟩ := few_loop x hl deep hd H hd1 r (i + 1) q hn (by omega) hq1
      refine ⟨q2, a, b, Ev.step (f := fun k => (gossamerref02_few.f k y.f0 y.f1 y.f2 y.f3 y.f4 left (deep - 1)).bind fun t => if t < 0 then some (-1) else gossamerref02_few.l0 k t deep (wrap64 (i + 1)) x.f0 x.f1 x.f2 x.f3 x.f4) (fun k => ?_) (Ev.bind hev ?_)⟩
      · rw [gossamerref02_few.l0, if_pos (by omega), if_pos (by omega), rd_at _ i y hg, wrap_small (n := deep - 1) (by omega) (by omega)]
      · simp only [hneg, if_false]
        rw [wrap_small (by omega) (by omega)]
        exact hev2
theorem few_ev : ∀ (n : Nat) (x : T), height x ≤ n → size x ≤ 1000000000 → ∀ left dp : Int, -1000000 ≤ left → left ≤ 1000000 → -1000000 ≤ dp → dp ≤ 1000000 → ∃ r : Int, -1 ≤ r ∧ r ≤ 1000000 ∧ Ev (fun k => gossamerref02_few.f k x.f0 x.f1 x.f2 x.f3 x.f4 left dp) r
  | 0, x, hn, _, _, _, _, _, _, _ => by cases x; simp only [height] at hn; omega
  | n + 1, x, hn, hs, left, dp, h0, h1, h2, h3 => by
    have hh : height x = heights x.f4 + 1 := by cases x; rfl
    have hz : size x = sizes x.f4 + 1 := by cases x; rfl
    by_cases hc : left < 1
    · refine ⟨-1, by omega, by omega, Ev.step (f := fun k => gossamerref02_few.j0 k left dp true x.f0 x.f1 x.f2 x.f3 x.f4) (fun k => by rw [gossamerref02_few.f, if_pos hc]) (Ev.step (f := fun _ => some (-1)) (fun k => by rw [gossamerref02_few.j0, if_pos rfl]) (Ev.now _))⟩
    · by_cases hc2 : dp < 1
      · refine ⟨-1, by omega, by omega, Ev.step (f := fun k => gossamerref02_few.j0 k left dp true x.f0 x.f1 x.f2 x.f3 x.f4) (fun k => by rw [gossamerref02_few.f, if_neg hc, decide_eq_true hc2]) (Ev.step (f := fun _ => some (-1)) (fun k => by rw [gossamerref02_few.j0, if_pos rfl]) (Ev.now _))⟩
      · obtain ⟨q, a, b, hev⟩ := few_loop x (by have := len_sizes x.f4; omega) dp ⟨h2, h3⟩ (fun y hy l d => few_ev n y (by have := height_get hy; omega) (by have := size_get hy; omega) l d) (by omega) x.f4 0 (left - 1) rfl (by omega) (by omega)
        refine ⟨q, a, b, Ev.step (f := fun k => gossamerref02_few.j0 k left dp false x.f0 x.f1 x.f2 x.f3 x.f4) (fun k => by rw [gossamerref02_few.f, if_neg hc, decide_eq_false hc2]) (Ev.step (f := fun k => gossamerref02_few.l0 k (left - 1) dp 0 x.f0 x.f1 x.f2 x.f3 x.f4) (fun k => by rw [gossamerref02_few.j0, if_neg (by simp), wrap_small (by omega) (by omega)]) hev)⟩
theorem small_some (x : T) (hs : size x ≤ 1000000000) (most : Int) (h0 : 0 ≤ most) (h1 : most ≤ 1000000) : ∃ k b, gossamerref02_Small.f k x.f0 x.f1 x.f2 x.f3 x.f4 most = some b := by
  obtain ⟨r, _, _, hev⟩ := few_ev (height x) x (Nat.le_refl _) hs most 200 (by omega) h1 (by omega) (by omega)
  obtain ⟨k, hk⟩ := hev.rounds
  refine ⟨k, decide (r ≥ 0), ?_⟩
  unfold gossamerref02_Small.f
  rw [hk]; rfl
end TreeEv
end Go.Proofs.YthdkjfhpbigdpaaDoor.Pure
