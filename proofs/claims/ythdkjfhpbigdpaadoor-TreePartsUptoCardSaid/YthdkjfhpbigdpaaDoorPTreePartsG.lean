-- Written for this claim: several texts in one.
import Derived.Test.YthdkjfhpbigdpaaDoorQx5
import Derived.Test.YthdkjfhpbigdpaaDoorQx4
import Derived.Test.YthdkjfhpbigdpaaDoorQx24
import Derived.Test.YthdkjfhpbigdpaaDoorQx25
import Derived.Test.YthdkjfhpbigdpaaDoorHTree
import Derived.Test.YthdkjfhpbigdpaaDoorPTreeFix
import Derived.Deep.RegionWith
import Derived.Test.YthdkjfhpbigdpaaDoorHRead
import Derived.Test.YthdkjfhpbigdpaaDoorRows
import Derived.Lib.LaidTab
import Derived.Lib.ItoaNum
import Derived.LaidLaws
import Derived.LaidMore
import Derived.Stop.Joined
import Derived.Stop.LaidErr
import Derived.Lay
import Derived.Shelf.Strings.Fields
-- Written for this claim.
namespace Go.Proofs.YthdkjfhpbigdpaaDoor.Pure
open Go Go.RowKit Go.Proofs.YthdkjfhpbigdpaaDoor.Q Go.Proofs.YthdkjfhpbigdpaaDoorW.PrintWords Go.Proofs.YthdkjfhpbigdpaaDoorW.PrintLast Go.Proofs.YthdkjfhpbigdpaaDoorW.PrintMore
open HTree
namespace TreeEv
theorem wrap_small {n : Int} (h0 : -9223372036854775808 ≤ n) (h1 : n < 9223372036854775808) : wrap64 n = n := by
  unfold wrap64; omega
theorem rd_at (l : List S24) (i : Nat) (t : S24) (h : l[i]? = some t) : rd_T24 l (i : Int) = t := by
  unfold rd_T24
  rw [Int.toNat_natCast, List.getD_eq_getElem?_getD, h]; rfl
theorem at_drop {l r : List T} {i : Nat} {x : T} (h : l.drop i = x :: r) : l[i]? = some x ∧ i < l.length ∧ l.drop (i + 1) = r := by
  have h0 : l[i]? = some x := by have := congrArg (fun l => l[0]?) h; simpa using this
  exact ⟨h0, (List.getElem?_eq_some_iff.1 h0).1, by rw [← List.drop_drop, h]; rfl⟩
theorem size_get {l : List T} {x : T} (h : x ∈ l) : size x ≤ sizes l := by
  induction l with
  | nil => cases h
  | cons y r ih =>
    simp only [sizes]
    rcases List.mem_cons.1 h with rfl | h
    · omega
    · have := ih h; omega
theorem size_pos : ∀ x : T, 1 ≤ size x
  | ⟨_, _, _, _, _⟩ => by simp only [size]; omega
theorem len_sizes : ∀ l : List T, l.length ≤ sizes l
  | [] => Nat.le_refl _
  | x :: r => by have := len_sizes r; have := size_pos x; simp only [sizes, List.length_cons]; omega
mutual
theorem height_size : ∀ x : T, height x ≤ size x
  | ⟨_, _, _, _, l⟩ => by have := heights_sizes l; simp only [height, size]; omega
theorem heights_sizes : ∀ l : List T, heights l ≤ sizes l
  | [] => Nat.le_refl _
  | x :: r => by have := height_size x; have := heights_sizes r; simp only [heights, sizes]; omega
end
mutual
theorem size_wt : ∀ x : T, size x ≤ wt x
  | ⟨_, _, _, _, l⟩ => by have := sizes_wts l; simp only [size, wt]; omega
theorem sizes_wts : ∀ l : List T, sizes l ≤ wts l
  | [] => Nat.le_refl _
  | x :: r => by have := size_wt x; have := sizes_wts r; simp only [sizes, wts]; omega
end
theorem size_loop (l : List T) (hl : l.length ≤ 1000000000) (H : ∀ x ∈ l, Ev (fun k => tree_Size.f k x.f0 x.f1 x.f2 x.f3 x.f4) (size x : Int)) : ∀ (r : List T) (i acc : Nat), l.drop i = r → acc + sizes r ≤ 2000000000 → Ev (fun k => tree_Size.l0 k acc l l.length i) ((acc + sizes r : Nat) : Int)
  | [], i, acc, h, hb => by
    have := List.drop_eq_nil_iff.1 h
    refine Ev.step (f := fun _ => some _) (fun k => ?_) (Ev.now _)
    rw [tree_Size.l0, if_neg (by omega)]; simp [sizes]
  | x :: r, i, acc, h, hb => by
    obtain ⟨h0, hi, hn⟩ := at_drop h
    simp only [sizes] at hb
    refine Ev.step (f := fun k => (tree_Size.f k x.f0 x.f1 x.f2 x.f3 x.f4).bind fun t => tree_Size.l0 k (wrap64 (acc + t)) l l.length (wrap64 (i + 1))) (fun k => ?_) (Ev.bind (H x (List.mem_of_getElem? h0)) ?_)
    · rw [tree_Size.l0, if_pos (by omega), if_pos (by omega), if_pos (by omega), rd_at l i x h0]
    · rw [wrap_small (by omega) (by omega), wrap_small (by omega) (by omega)]
      have ih := size_loop l hl H r (i + 1) (acc + size x) hn (by omega)
      have e1 : ((acc : Int) + (size x : Int)) = ((acc + size x : Nat) : Int) := by omega
      have e2 : ((i : Int) + 1) = ((i + 1 : Nat) : Int) := by omega
      rw [e1, e2]
      have e3 : acc + sizes (x :: r) = acc + size x + sizes r := by simp only [sizes]; omega
      rw [e3]; exact ih
theorem size_ev : ∀ (n : Nat) (x : T), height x ≤ n → size x ≤ 1000000000 → Ev (fun k => tree_Size.f k x.f0 x.f1 x.f2 x.f3 x.f4) (size x : Int)
  | 0, x, hn, _ => by cases x; simp only [height] at hn; omega
  | n + 1, x, hn, hs => by
    have hh : height x = heights x.f4 + 1 := by cases x; rfl
    have hz : size x = sizes x.f4 + 1 := by cases x; rfl
    have H : ∀ y ∈ x.f4, Ev (fun k => tree_Size.f k y.f0 y.f1 y.f2 y.f3 y.f4) (size y : Int) := fun y hy => size_ev n y (by have := height_get hy; omega) (by have := size_get hy; omega)
    refine Ev.step (f := fun k => tree_Size.l0 k 1 x.f4 x.f4.length 0) (fun k => by rw [tree_Size.f]) ?_
    have := size_loop x.f4 (by have := len_sizes x.f4; omega) H x.f4 0 1 rfl (by omega)
    rw [hz]
    have e : sizes x.f4 + 1 = 1 + sizes x.f4 := by omega
    rw [e]; exact this
theorem mx_nat (a b : Nat) : mx (a : Int) (b : Int) = ((max a b : Nat) : Int) := by
  unfold mx; omega
theorem depth_loop (l : List T) (hl : l.length ≤ 1000000000) (H : ∀ x ∈ l, Ev (fun k => tree_Depth.f k x.f0 x.f1 x.f2 x.f3 x.f4) (height x : Int)) : ∀ (r : List T) (i acc : Nat), l.drop i = r → acc ≤ 1000000000 → heights r ≤ 1000000000 → Ev (fun k => tree_Depth.l0 k acc l l.length i) ((max acc (heights r) + 1 : Nat) : Int)
  | [], i, acc, h, ha, hb => by
    have := List.drop_eq_nil_iff.1 h
    refine Ev.step (f := fun _ => some _) (fun k => ?_) (Ev.now _)
    rw [tree_Depth.l0, if_neg (by omega), wrap_small (by omega) (by omega)]; simp [heights]
  | x :: r, i, acc, h, ha, hb => by
    obtain ⟨h0, hi, hn⟩ := at_drop h
    simp only [heights] at hb
    refine Ev.step (f := fun k => (tree_Depth.f k x.f0 x.f1 x.f2 x.f3 x.f4).bind fun t => tree_Depth.l0 k (mx acc t) l l.length (wrap64 (i + 1))) (fun k => ?_) (Ev.bind (H x (List.mem_of_getElem? h0)) ?_)
    · rw [tree_Depth.l0, if_pos (by omega), if_pos (by omega), if_pos (by omega), rd_at l i x h0]
    · rw [wrap_small (by omega) (by omega), mx_nat]
      have ih := depth_loop l hl H r (i + 1) (max acc (height x)) hn (by omega) (by omega)
      have e2 : ((i : Int) + 1) = ((i + 1 : Nat) : Int) := by omega
      rw [e2]
      have e3 : max acc (heights (x :: r)) = max (max acc (height x)) (heights r) := by simp only [heights]; omega
      rw [e3]; exact ih
theorem depth_ev : ∀ (n : Nat) (x : T), height x ≤ n → size x ≤ 1000000000 → Ev (fun k => tree_Depth.f k x.f0 x.f1 x.f2 x.f3 x.f4) (height x : Int)
  | 0, x, hn, _ => by cases x; simp only [height] at hn; omega
  | n + 1, x, hn, hs => by
    have hh : height x = heights x.f4 + 1 := by cases x; rfl
    have hz : size x = sizes x.f4 + 1 := by cases x; rfl
    have H : ∀ y ∈ x.f4, Ev (fun k => tree_Depth.f k y.f0 y.f1 y.f2 y.f3 y.f4) (height y : Int) := fun y hy => depth_ev n y (by have := height_get hy; omega) (by have := size_get hy; omega)
    refine Ev.step (f := fun k => tree_Depth.l0 k 0 x.f4 x.f4.length 0) (fun k => by rw [tree_Depth.f]) ?_
    have hhs := heights_sizes x.f4
    have := depth_loop x.f4 (by have := len_sizes x.f4; omega) H x.f4 0 0 rfl (by omega) (by omega)
    rw [hh]
    have e : heights x.f4 + 1 = max 0 (heights x.f4) + 1 := by omega
    rw [e]; exact this
/-- Small ends. -/
theorem few_loop (x : T) (hl : x.f4.length ≤ 1000000000) (deep : Int) (hd : -1000000 ≤ deep ∧ deep ≤ 1000000) (H : ∀ y ∈ x.f4, ∀ left dp : Int, -1000000 ≤ left → left ≤ 1000000 → -1000000 ≤ dp → dp ≤ 1000000 → ∃ r : Int, -1 ≤ r ∧ r ≤ 1000000 ∧ Ev (fun k => gossamerref02_few.f k y.f0 y.f1 y.f2 y.f3 y.f4 left dp) r) (hd1 : 1 ≤ deep) :
    ∀ (r : List T) (i : Nat) (left : Int), x.f4.drop i = r → 0 ≤ left → left ≤ 1000000 → ∃ q : Int, -1 ≤ q ∧ q ≤ 1000000 ∧ Ev (fun k => gossamerref02_few.l0 k left deep i x.f0 x.f1 x.f2 x.f3 x.f4) q
  | [], i, left, h, h0, h1 => by
    have := List.drop_eq_nil_iff.1 h
    refine ⟨left, by omega, h1, Ev.step (f := fun _ => some _) (fun k => ?_) (Ev.now _)⟩
    rw [gossamerref02_few.l0, if_neg (by omega)]
  | y :: r, i, left, h, h0, h1 => by
    obtain ⟨hg, hi, hn⟩ := at_drop h
    obtain ⟨q, hq0, hq1, hev⟩ := H y (List.mem_of_getElem? hg) left (deep - 1) (by omega) h1 (by omega) (by omega)
    by_cases hneg : q < 0
    · refine ⟨-1, by omega, by omega, Ev.step (f := fun k => (gossamerref02_few.f k y.f0 y.f1 y.f2 y.f3 y.f4 left (deep - 1)).bind fun t => if t < 0 then some (-1) else gossamerref02_few.l0 k t deep (wrap64 (i + 1)) x.f0 x.f1 x.f2 x.f3 x.f4) (fun k => ?_) (Ev.bind hev ?_)⟩
      · rw [gossamerref02_few.l0, if_pos (by omega), if_pos (by omega), rd_at _ i y hg, wrap_small (n := deep - 1) (by omega) (by omega)]
      · simp only [hneg, if_true]; exact Ev.now _
    · obtain ⟨q2, a, b, hev2⟩ := few_loop x hl deep hd H hd1 r (i + 1) q hn (by omega) hq1
      refine ⟨q2, a, b, Ev.step (f := fun k => (gossamerref02_few.f k y.f0 y.f1 y.f2 y.f3 y.f4 left (deep - 1)).bind fun t => if t < 0 then some (-1) else gossamerref02_few.l0 k t deep (wrap64 (i + 1)) x.f0 x.f1 x.f2 x.f3 x.f4) (fun k => ?_) (Ev.bind hev ?_)⟩
      · rw [gossamerref02_few.l0, if_pos (by omega), if_pos (by omega), rd_at _ i y hg, wrap_small (n := deep - 1) (by omega) (by omega)]
      · simp only [hneg, if_false]
        rw [wrap_small (by omega) (by omega)]
        exact hev2
theorem few_ev : ∀ (n : Nat) (x : T), height x ≤ n → size x ≤ 1000000000 → ∀ left dp : Int, -1000000 ≤ left → left ≤ 1000000 → -1000000 ≤ dp → dp ≤ 1000000 → ∃ r : Int, -1 ≤ r ∧ r ≤ 1000000 ∧ Ev (fun k => gossamerref02_few.f k x.f0 x.f1 x.f2 x.f3 x.f4 left dp) r
  | 0, x, hn, _, _, _, _, _, _, _ => by cases x; simp only [height] at hn; omega
  | n + 1, x, hn, hs, left, dp, h0, h1, h2, h3 => by
    have hh : height x = heights x.f4 + 1 := by cases x; rfl
    have hz : size x = sizes x.f4 + 1 := by cases x; rfl
    by_cases hc : left < 1
    · refine ⟨-1, by omega, by omega, Ev.step (f := fun k => gossamerref02_few.j0 k left dp true x.f0 x.f1 x.f2 x.f3 x.f4) (fun k => by rw [gossamerref02_few.f, if_pos hc]) (Ev.step (f := fun _ => some (-1)) (fun k => by rw [gossamerref02_few.j0, if_pos rfl]) (Ev.now _))⟩
    · by_cases hc2 : dp < 1
      · refine ⟨-1, by omega, by omega, Ev.step (f := fun k => gossamerref02_few.j0 k left dp true x.f0 x.f1 x.f2 x.f3 x.f4) (fun k => by rw [gossamerref02_few.f, if_neg hc, decide_eq_true hc2]) (Ev.step (f := fun _ => some (-1)) (fun k => by rw [gossamerref02_few.j0, if_pos rfl]) (Ev.now _))⟩
      · obtain ⟨q, a, b, hev⟩ := few_loop x (by have := len_sizes x.f4; omega) dp ⟨h2, h3⟩ (fun y hy l d => few_ev n y (by have := height_get hy; omega) (by have := size_get hy; omega) l d) (by omega) x.f4 0 (left - 1) rfl (by omega) (by omega)
        refine ⟨q, a, b, Ev.step (f := fun k => gossamerref02_few.j0 k left dp false x.f0 x.f1 x.f2 x.f3 x.f4) (fun k => by rw [gossamerref02_few.f, if_neg hc, decide_eq_false hc2]) (Ev.step (f := fun k => gossamerref02_few.l0 k (left - 1) dp 0 x.f0 x.f1 x.f2 x.f3 x.f4) (fun k => by rw [gossamerref02_few.j0, if_neg (by simp), wrap_small (by omega) (by omega)]) hev)⟩
theorem small_some (x : T) (hs : size x ≤ 1000000000) (most : Int) (h0 : 0 ≤ most) (h1 : most ≤ 1000000) : ∃ k b, gossamerref02_Small.f k x.f0 x.f1 x.f2 x.f3 x.f4 most = some b := by
  obtain ⟨r, _, _, hev⟩ := few_ev (height x) x (Nat.le_refl _) hs most 200 (by omega) h1 (by omega) (by omega)
  obtain ⟨k, hk⟩ := hev.rounds
  refine ⟨k, decide (r ≥ 0), ?_⟩
  unfold gossamerref02_Small.f
  rw [hk]; rfl
end TreeEv
end Go.Proofs.YthdkjfhpbigdpaaDoor.Pure

-- Written for this claim.
namespace Go.Proofs.YthdkjfhpbigdpaaDoor.Pure
open Go Go.RowKit Go.Lib Go.Proofs Go.Proofs.YthdkjfhpbigdpaaDoor.Q Go.Proofs.YthdkjfhpbigdpaaDoorW.PrintWords Go.Proofs.YthdkjfhpbigdpaaDoorW.PrintLast Go.Proofs.YthdkjfhpbigdpaaDoorW.PrintMore
open HTree
set_option linter.unusedVariables false
set_option linter.unusedSimpArgs false
namespace TreePt
theorem sizes_take (l : List T) (k : Nat) (h : k < l.length) : sizes (l.take (k + 1)) = sizes (l.take k) + size l[k] := by
  rw [List.take_succ_eq_append_getElem h]
  have : ∀ (a b : List T), sizes (a ++ b) = sizes a + sizes b := by
    intro a b
    induction a with
    | nil => simp [sizes]
    | cons x a ih => simp only [List.cons_append, sizes, ih]; omega
  rw [this]; simp [sizes]
theorem sizes_le (l : List T) (k : Nat) (h : k < l.length) : sizes (l.take k) + size l[k] ≤ sizes l := by
  rw [← sizes_take l k h]
  have : ∀ (l : List T) (m : Nat), sizes (l.take m) ≤ sizes l := by
    intro l
    induction l with
    | nil => intro m; simp
    | cons x l ih => intro m; cases m with
      | zero => simp [sizes]
      | succ m => simp only [List.take_succ_cons, sizes]; have := ih m; omega
  exact this l (k + 1)
theorem heights_take (l : List T) (k : Nat) (h : k < l.length) : heights (l.take (k + 1)) = max (heights (l.take k)) (height l[k]) := by
  rw [List.take_succ_eq_append_getElem h]
  have : ∀ (a b : List T), heights (a ++ b) = max (heights a) (heights b) := by
    intro a b
    induction a with
    | nil => simp [heights]
    | cons x a ih => simp only [List.cons_append, heights, ih]; omega
  rw [this]; simp [heights]
theorem heights_le (l : List T) (k : Nat) : heights (l.take k) ≤ heights l := by
  induction l generalizing k with
  | nil => simp
  | cons x l ih => cases k with
    | zero => simp [heights]
    | succ m => simp only [List.take_succ_cons, heights]; have := ih m; omega
theorem size_is (t : T) : size t = sizes t.f4 + 1 := by cases t; rfl
theorem height_is (t : T) : height t = heights t.f4 + 1 := by cases t; rfl
theorem parts_part (k n : Int) : ∀ (l : List T) (i : Int), parts k n l i = true → ∀ (j : Nat) (h : j < l.length), HTree.part k n l[j] (i + j) = true
  | [], _, _, j, h => by simp at h
  | x :: r, i, hp, j, h => by
    rw [parts_cons, Bool.and_eq_true] at hp
    cases j with
    | zero => simpa using hp.1
    | succ j =>
      have := parts_part k n r (i + 1) hp.2 j (by simpa using h)
      simp only [List.getElem_cons_succ]
      rw [show i + ((j + 1 : Nat) : Int) = i + 1 + (j : Int) by omega]; exact this
/-- A part of what may be may be, but for alternatives. -/
theorem part_whole (t : T) (ht : whole t = true) (j : Nat) (h : j < t.f4.length) : whole t.f4[j] = decide (t.f4[j].f0 ≠ 8) := by
  unfold whole at ht
  simp only [Bool.and_eq_true, decide_eq_true_eq] at ht
  obtain ⟨h8, hm⟩ := ht
  rw [TreeMay.may_is, Bool.and_eq_true] at hm
  have hp := parts_part _ _ _ 0 hm.2 j h
  rw [Int.zero_add] at hp
  unfold HTree.part at hp
  unfold whole
  split at hp
  · simp only [Bool.and_eq_true, decide_eq_true_eq] at hp
    simp [hp.1]
  · rw [if_neg (fun q => h8 q.1)] at hp
    simp only [Bool.and_eq_true, decide_eq_true_eq] at hp
    simp [hp.1, hp.2]
end TreePt
set_option maxRecDepth 100000 in
set_option maxHeartbeats 16000000 in
theorem TreeParts_walk {w : World} (t : T) (A : Option Addr) (c : Nat) (hC : Kd.C k24 w A t.f4.length t.f4) (hl : t.f4.length ≤ c) (ok : Ok t) (hw : wt t ≤ 1048576) (htab : Lib.TabIs Tryd.prog w "strings.asciiSpace" .u8 Lib.asciiSpaceTab) :
    Calls Tryd.prog 4 #[.agg #[.int .i64 t.f0, .string t.f1, .int .i64 t.f2, .int .i64 t.f3, .slice A t.f4.length c]] w fun e w' => e = .returned (.bool true) ∧ Below w.heap.size w w' := by
  have HT := Lib.hid (tabBelow_of_tabIs htab)
  clear htab
  have hsw := TreeEv.size_wt t
  have szt : size t ≤ 1000000000 := by omega
  have hlt3 : t.f4.length ≤ 1048576 := by have h1 := len_wts t.f4; have h2 : wts t.f4 ≤ wt t := by { cases t; simp only [wt]; omega }; omega
  have hgt : height t ≤ 1048576 := by have := TreeEv.height_size t; omega
  obtain ⟨kt, bt, hst⟩ := TreeEv.small_some t szt 500 (by omega) (by omega)
  have St := Lib.hid hst
  clear hst
  have hba := below_alloc (Below.refl w.heap.size w) (Obj.cells #[.int .i64 t.f0, .string t.f1, .int .i64 t.f2, .int .i64 t.f3, .slice A t.f4.length c] 24)
  have h1 := blk_new w (Obj.cells #[.int .i64 t.f0, .string t.f1, .int .i64 t.f2, .int .i64 t.f3, .slice A t.f4.length c] 24)
  go_enter Tryd.func4, Tryd.ntmps4
  go_upto_region 1 with (fail)
  generalize hwq : w.alloc (Obj.cells #[.int .i64 t.f0, .string t.f1, .int .i64 t.f2, .int .i64 t.f3, .slice A t.f4.length c] 24) = wq at hba h1 ⊢
  clear hwq
  have HB := Lib.hid hba; have Bt := Lib.hid h1; have Ct := Lib.hid (Kd.C_below hC hba)
  clear hba h1 hC
  have t0 := blk_cell Bt.out 0; have t1 := blk_cell Bt.out 1; have t2 := blk_cell Bt.out 2; have t3 := blk_cell Bt.out 3; have t4 := blk_cell Bt.out 4
  simp only [List.getElem?_toArray, List.getElem?_cons_zero, List.getElem?_cons_succ] at t0 t1 t2 t3 t4
  go_wp2_with fail
  refine (TreeFix.fixed_any _ (HT.out.on HB.out).here).mono ?_
  rintro e w5 ⟨rfl, hb⟩
  have n0_ := Lib.hid (below_step HB.out hb); have n1_ := Lib.hid (Kd.C_below Ct.out hb); have n2_ := Lib.hid (blk_below Bt.out hb)
  clear HB Ct Bt hb t0 t1 t2 t3 t4
  have HB := n0_; have Ct := n1_; have Bt := n2_
  clear n0_ n1_ n2_
  have t0 := blk_cell Bt.out 0; have t1 := blk_cell Bt.out 1; have t2 := blk_cell Bt.out 2; have t3 := blk_cell Bt.out 3; have t4 := blk_cell Bt.out 4
  simp only [List.getElem?_toArray, List.getElem?_cons_zero, List.getElem?_cons_succ] at t0 t1 t2 t3 t4
  go_wp2_with fail
  refine (gossamerref02_Small.calls kt t.f0 t.f1 t.f2 t.f3 A c t.f4 500 bt _ Ct.out hl St.out).mono ?_
  rintro e w5 ⟨rfl, hb⟩
  have n0_ := Lib.hid (below_step HB.out hb); have n1_ := Lib.hid (Kd.C_below Ct.out hb); have n2_ := Lib.hid (blk_below Bt.out hb)
  clear HB Ct Bt hb t0 t1 t2 t3 t4
  have HB := n0_; have Ct := n1_; have Bt := n2_
  clear n0_ n1_ n2_
  have t0 := blk_cell Bt.out 0; have t1 := blk_cell Bt.out 1; have t2 := blk_cell Bt.out 2; have t3 := blk_cell Bt.out 3; have t4 := blk_cell Bt.out 4
  simp only [List.getElem?_toArray, List.getElem?_cons_zero, List.getElem?_cons_succ] at t0 t1 t2 t3 t4
  cases bt with
  | false =>
    go_wp2_with fail
    refine (TreeFix.fixed_any _ (HT.out.on HB.out).here).mono ?_
    rintro e w5 ⟨rfl, hb⟩
    have n0_ := Lib.hid (below_step HB.out hb); have n1_ := Lib.hid (Kd.C_below Ct.out hb); have n2_ := Lib.hid (blk_below Bt.out hb)
    clear HB Ct Bt hb t0 t1 t2 t3 t4
    have HB := n0_; have Ct := n1_; have Bt := n2_
    clear n0_ n1_ n2_
    have t0 := blk_cell Bt.out 0; have t1 := blk_cell Bt.out 1; have t2 := blk_cell Bt.out 2; have t3 := blk_cell Bt.out 3; have t4 := blk_cell Bt.out 4
    simp only [List.getElem?_toArray, List.getElem?_cons_zero, List.getElem?_cons_succ] at t0 t1 t2 t3 t4
    go_wp2_with fail
    go_ret
    exact ⟨rfl, HB.out⟩
  | true =>
    obtain ⟨mt, VT⟩ : ∃ q, Hid (whole t = q) := ⟨_, Lib.hid rfl⟩
    go_wp2_with fail
    go_loopw [3, 4, 5] (fun d n i wr => ∃ k : Nat, k ≤ t.f4.length ∧ i = .int .i64 k ∧ d = .int .i64 (heights (t.f4.take k) : Int) ∧ n = .int .i64 (sizes (t.f4.take k) : Int) ∧ Hid (Below w5.heap.size w5 wr)) (fun _ _ i _ => t.f4.length - (intOf i).toNat)
    case atStart => exact ⟨0, Nat.zero_le _, rfl, by simp [heights], by simp [sizes], Lib.hid (Below.refl _ _)⟩
    case round =>
      obtain ⟨k, hk, rfl, rfl, rfl, HBR⟩ := hrel
      clear t0 t1 t2 t3 t4
      have hb := HBR.out
      have n0_ := Lib.hid (below_step HB.out hb); have n1_ := Lib.hid (Kd.C_below Ct.out hb); have n2_ := Lib.hid (blk_below Bt.out hb)
      clear HB Ct Bt hb
      have HB := n0_; have Ct := n1_; have Bt := n2_
      clear n0_ n1_ n2_
      have t0 := blk_cell Bt.out 0; have t1 := blk_cell Bt.out 1; have t2 := blk_cell Bt.out 2; have t3 := blk_cell Bt.out 3; have t4 := blk_cell Bt.out 4
      simp only [List.getElem?_toArray, List.getElem?_cons_zero, List.getElem?_cons_succ] at t0 t1 t2 t3 t4
      by_cases hlt : k < t.f4.length
      · obtain ⟨ad, A3, c3, rfl, x0, x1, x2, x3, x4, hl3, hc3⟩ := at_T24 Ct.out (k : Int) (by omega) (by omega)
        simp only [Int.toNat_natCast] at x0 x1 x2 x3 x4
        have hrk : rd_T24 t.f4 (k : Int) = t.f4[k] := by
          unfold rd_T24
          rw [Int.toNat_natCast, List.getD_eq_getElem?_getD, List.getElem?_eq_getElem hlt]; rfl
        rw [hrk] at x0 x1 x2 x3 x4 hl3 hc3
        have hpt := TreePt.sizes_take t.f4 k hlt
        have hpl := TreePt.sizes_le t.f4 k hlt
        have hht := TreePt.heights_take t.f4 k hlt
        have hhl := TreePt.heights_le t.f4 k
        have hmem := List.getElem_mem hlt
        have hszt := TreePt.size_is t
        have hhe := TreePt.height_is t
        have hhy := height_get hmem
        have hwh := TreePt.part_whole t
        have hwh : mt = true → whole t.f4[k] = decide (t.f4[k].f0 ≠ 8) := fun q => hwh (VT.out.trans q) k hlt
        generalize hx : t.f4[k] = y at *
        have HX := Lib.hid hx; have HPT := Lib.hid hpt; have HHT := Lib.hid hht; have HM := Lib.hid hmem; have Cy := Lib.hid hc3; have HWH := Lib.hid hwh
        clear hrk hx hpt hht hmem hc3 hwh
        have szy : size y ≤ 1000000000 := by omega
        have hwy : wt y ≤ 1048576 := by have h1 := wt_get HM.out; have h2 : wts t.f4 ≤ wt t := by { cases t; simp only [wt]; omega }; omega
        go_upto_region 8 with (fail)
        have hbb := below_alloc (Below.refl wr.heap.size wr) (Obj.cells #[.int .i64 y.f0, .string y.f1, .int .i64 y.f2, .int .i64 y.f3, .slice A3 y.f4.length c3] 24)
        have hby := blk_new wr (Obj.cells #[.int .i64 y.f0, .string y.f1, .int .i64 y.f2, .int .i64 y.f3, .slice A3 y.f4.length c3] 24)
        generalize hwq : wr.alloc (Obj.cells #[.int .i64 y.f0, .string y.f1, .int .i64 y.f2, .int .i64 y.f3, .slice A3 y.f4.length c3] 24) = wq at hbb hby ⊢
        clear hwq x0 x1 x2 x3 x4
        have By := Lib.hid hby
        have hb := hbb
        clear hbb hby
        have n4_ := Lib.hid (below_step HBR.out hb); have n5_ := Lib.hid (Kd.C_below Cy.out hb)
        clear HBR Cy
        have HBR := n4_; have Cy := n5_
        clear n4_ n5_
        have y0 := blk_cell By.out 0; have y1 := blk_cell By.out 1; have y2 := blk_cell By.out 2; have y3 := blk_cell By.out 3; have y4 := blk_cell By.out 4
        simp only [List.getElem?_toArray, List.getElem?_cons_zero, List.getElem?_cons_succ] at y0 y1 y2 y3 y4
        have n0_ := Lib.hid (below_step HB.out hb); have n1_ := Lib.hid (Kd.C_below Ct.out hb); have n2_ := Lib.hid (blk_below Bt.out hb)
        clear HB Ct Bt hb t0 t1 t2 t3 t4
        have HB := n0_; have Ct := n1_; have Bt := n2_
        clear n0_ n1_ n2_
        have t0 := blk_cell Bt.out 0; have t1 := blk_cell Bt.out 1; have t2 := blk_cell Bt.out 2; have t3 := blk_cell Bt.out 3; have t4 := blk_cell Bt.out 4
        simp only [List.getElem?_toArray, List.getElem?_cons_zero, List.getElem?_cons_succ] at t0 t1 t2 t3 t4
        obtain ⟨kk, hkk⟩ := (TreeEv.depth_ev _ y (Nat.le_refl _) szy).rounds
        have KK := Lib.hid hkk
        clear hkk
        go_wp2_with fail
        refine (tree_Depth.calls kk y.f0 y.f1 y.f2 y.f3 _ _ y.f4 _ _ Cy.out hl3 KK.out).mono ?_
        rintro e w6 ⟨rfl, hb⟩
        clear KK
        have n3_ := Lib.hid (blk_below By.out hb); have n4_ := Lib.hid (below_step HBR.out hb); have n5_ := Lib.hid (Kd.C_below Cy.out hb)
        clear By HBR Cy y0 y1 y2 y3 y4
        have By := n3_; have HBR := n4_; have Cy := n5_
        clear n3_ n4_ n5_
        have y0 := blk_cell By.out 0; have y1 := blk_cell By.out 1; have y2 := blk_cell By.out 2; have y3 := blk_cell By.out 3; have y4 := blk_cell By.out 4
        simp only [List.getElem?_toArray, List.getElem?_cons_zero, List.getElem?_cons_succ] at y0 y1 y2 y3 y4
        have n0_ := Lib.hid (below_step HB.out hb); have n1_ := Lib.hid (Kd.C_below Ct.out hb); have n2_ := Lib.hid (blk_below Bt.out hb)
        clear HB Ct Bt hb t0 t1 t2 t3 t4
        have HB := n0_; have Ct := n1_; have Bt := n2_
        clear n0_ n1_ n2_
        have t0 := blk_cell Bt.out 0; have t1 := blk_cell Bt.out 1; have t2 := blk_cell Bt.out 2; have t3 := blk_cell Bt.out 3; have t4 := blk_cell Bt.out 4
        simp only [List.getElem?_toArray, List.getElem?_cons_zero, List.getElem?_cons_succ] at t0 t1 t2 t3 t4
        have hwr : wrap64 ((sizes (t.f4.take k) : Int) + (size y : Int)) = (sizes (t.f4.take k) : Int) + (size y : Int) := IntWalk.wrap64_in _ ⟨by omega, by omega⟩
        obtain ⟨kk, hkk⟩ := (TreeEv.size_ev _ y (Nat.le_refl _) szy).rounds
        have KK := Lib.hid hkk
        clear hkk
        go_wp2_with fail
        refine (tree_Size.calls kk y.f0 y.f1 y.f2 y.f3 _ _ y.f4 _ _ Cy.out hl3 KK.out).mono ?_
        rintro e w6 ⟨rfl, hb⟩
        clear KK
        have n3_ := Lib.hid (blk_below By.out hb); have n4_ := Lib.hid (below_step HBR.out hb); have n5_ := Lib.hid (Kd.C_below Cy.out hb)
        clear By HBR Cy y0 y1 y2 y3 y4
        have By := n3_; have HBR := n4_; have Cy := n5_
        clear n3_ n4_ n5_
        have y0 := blk_cell By.out 0; have y1 := blk_cell By.out 1; have y2 := blk_cell By.out 2; have y3 := blk_cell By.out 3; have y4 := blk_cell By.out 4
        simp only [List.getElem?_toArray, List.getElem?_cons_zero, List.getElem?_cons_succ] at y0 y1 y2 y3 y4
        have n0_ := Lib.hid (below_step HB.out hb); have n1_ := Lib.hid (Kd.C_below Ct.out hb); have n2_ := Lib.hid (blk_below Bt.out hb)
        clear HB Ct Bt hb t0 t1 t2 t3 t4
        have HB := n0_; have Ct := n1_; have Bt := n2_
        clear n0_ n1_ n2_
        have t0 := blk_cell Bt.out 0; have t1 := blk_cell Bt.out 1; have t2 := blk_cell Bt.out 2; have t3 := blk_cell Bt.out 3; have t4 := blk_cell Bt.out 4
        simp only [List.getElem?_toArray, List.getElem?_cons_zero, List.getElem?_cons_succ] at t0 t1 t2 t3 t4
        go_upto_region 10 with (fail)
        cases mt with
        | false =>
          refine wp_region_held_drew (S := (fun w' => w'.cell? ⟨w.heap.size, 0, none⟩ = some (.int .i64 t.f0) ∧ w'.cell? ⟨w.heap.size, 1, none⟩ = some (.string t.f1) ∧ w'.cell? ⟨w.heap.size, 2, none⟩ = some (.int .i64 t.f2) ∧ w'.cell? ⟨w.heap.size, 3, none⟩ = some (.int .i64 t.f3) ∧ w'.cell? ⟨w.heap.size, 4, none⟩ = some (.slice (some ad) t.f4.length c) ∧ w'.cell? ⟨wr.heap.size, 0, none⟩ = some (.int .i64 y.f0) ∧ w'.cell? ⟨wr.heap.size, 1, none⟩ = some (.string y.f1) ∧ w'.cell? ⟨wr.heap.size, 2, none⟩ = some (.int .i64 y.f2) ∧ w'.cell? ⟨wr.heap.size, 3, none⟩ = some (.int .i64 y.f3) ∧ w'.cell? ⟨wr.heap.size, 4, none⟩ = some (.slice A3 y.f4.length c3) ∧ Below w6.heap.size w6 w')) (by kernel_rfl) (by (try dsimp only); exact TreeFix.keep10 ⟨t0, t1, t2, t3, t4, y0, y1, y2, y3, y4, Below.refl _ _⟩ (below_drew1 (Below.refl _ _))) (fun hHeld => ?_)
          change wpAnyH _ _ _ _ _ 10 #[false, false, false, false, false, false, false, false, false, false] _ _
          refine wpAnyH_take (i := 0) (v := ?_) rfl (by kernel_rfl) (by kernel_rfl) (by kernel_rfl) (fun _ _ _ h => h) (Or.inl ⟨by kernel_rfl, ?_⟩) (by assumption) ?_
          rotate_left 1
          · (intro w hSw; (try dsimp only at hSw); (try simp only [List.getElem_toArray, List.getElem_cons_succ, List.getElem_cons_zero]); go_simp; (try with_reducible rfl))
          (try simp only [Act.put, List.getElem_toArray, List.getElem_cons_succ, List.getElem_cons_zero, List.setIfInBounds_toArray, List.set_cons_zero, List.set_cons_succ])
          refine wpAnyH_ready (rs := [1]) (by kernel_rfl) (by simp) ?_
          refine AllReadyH.cons rfl (fun K hK => ?_) AllReadyH.nil
          (try simp only [List.getElem_toArray, List.getElem_cons_succ, List.getElem_cons_zero])
          go_simp
          refine ((TreeMay.whole_any t (by omega) _ _ _ (Kd.C_below Ct.out hHeld.2.2.2.2.2.2.2.2.2.2) hl (HT.out.on (below_step HB.out hHeld.2.2.2.2.2.2.2.2.2.2)).here).mono fun e w' h => (⟨h.1.trans (by rw [VT.out]), h.2⟩ : e = .returned (.bool false) ∧ _)).mono ?_
          rintro e w9 ⟨rfl, hb⟩
          simp only []
          refine hK.out _ _ ?_ (fun hHeld => ?_)
          · (try dsimp only); exact TreeFix.keep10 hHeld hb
          clear hK K
          (try simp only [Act.put, List.getElem_toArray, List.getElem_cons_succ, List.getElem_cons_zero, List.setIfInBounds_toArray, List.set_cons_zero, List.set_cons_succ])
          refine wpAnyH_take (i := 2) (v := ?_) rfl (by kernel_rfl) (by kernel_rfl) (by kernel_rfl) (fun _ _ _ h => h) (Or.inl ⟨by kernel_rfl, ?_⟩) (by assumption) ?_
          rotate_left 1
          · (intro w hSw; (try dsimp only at hSw); (try simp only [List.getElem_toArray, List.getElem_cons_succ, List.getElem_cons_zero]); go_simp; (try with_reducible rfl))
          (try simp only [Act.put, List.getElem_toArray, List.getElem_cons_succ, List.getElem_cons_zero, List.setIfInBounds_toArray, List.set_cons_zero, List.set_cons_succ])
          refine wpAnyH_take (i := 3) (v := undef) rfl (by kernel_rfl) (by kernel_rfl) (by kernel_rfl) (fun _ _ _ h => h) (Or.inr ⟨by rfl, rfl⟩) (by assumption) ?_
          (try simp only [Act.put, List.getElem_toArray, List.getElem_cons_succ, List.getElem_cons_zero, List.setIfInBounds_toArray, List.set_cons_zero, List.set_cons_succ])
          refine wpAnyH_take (i := 4) (v := undef) rfl (by kernel_rfl) (by kernel_rfl) (by kernel_rfl) (fun _ _ _ h => h) (Or.inr ⟨by rfl, rfl⟩) (by assumption) ?_
          (try simp only [Act.put, List.getElem_toArray, List.getElem_cons_succ, List.getElem_cons_zero, List.setIfInBounds_toArray, List.set_cons_zero, List.set_cons_succ])
          refine wpAnyH_take (i := 5) (v := undef) rfl (by kernel_rfl) (by kernel_rfl) (by kernel_rfl) (fun _ _ _ h => h) (Or.inr ⟨by rfl, rfl⟩) (by assumption) ?_
          (try simp only [Act.put, List.getElem_toArray, List.getElem_cons_succ, List.getElem_cons_zero, List.setIfInBounds_toArray, List.set_cons_zero, List.set_cons_succ])
          refine wpAnyH_take (i := 6) (v := undef) rfl (by kernel_rfl) (by kernel_rfl) (by kernel_rfl) (fun _ _ _ h => h) (Or.inr ⟨by rfl, rfl⟩) (by assumption) ?_
          (try simp only [Act.put, List.getElem_toArray, List.getElem_cons_succ, List.getElem_cons_zero, List.setIfInBounds_toArray, List.set_cons_zero, List.set_cons_succ])
          refine wpAnyH_take (i := 7) (v := undef) rfl (by kernel_rfl) (by kernel_rfl) (by kernel_rfl) (fun _ _ _ h => h) (Or.inr ⟨by rfl, rfl⟩) (by assumption) ?_
          (try simp only [Act.put, List.getElem_toArray, List.getElem_cons_succ, List.getElem_cons_zero, List.setIfInBounds_toArray, List.set_cons_zero, List.set_cons_succ])
          refine wpAnyH_take (i := 8) (v := undef) rfl (by kernel_rfl) (by kernel_rfl) (by kernel_rfl) (fun _ _ _ h => h) (Or.inr ⟨by rfl, rfl⟩) (by assumption) ?_
          (try simp only [Act.put, List.getElem_toArray, List.getElem_cons_succ, List.getElem_cons_zero, List.setIfInBounds_toArray, List.set_cons_zero, List.set_cons_succ])
          refine wpAnyH_take (i := 9) (v := ?_) rfl (by kernel_rfl) (by kernel_rfl) (by kernel_rfl) (fun _ _ _ h => h) (Or.inl ⟨by kernel_rfl, ?_⟩) (by assumption) ?_
          rotate_left 1
          · (intro w hSw; (try dsimp only at hSw); (try simp only [List.getElem_toArray, List.getElem_cons_succ, List.getElem_cons_zero]); go_simp; (try with_reducible rfl))
          (try simp only [Act.put, List.getElem_toArray, List.getElem_cons_succ, List.getElem_cons_zero, List.setIfInBounds_toArray, List.set_cons_zero, List.set_cons_succ])
          refine wpAnyH_done (by kernel_rfl) ?_ _
          have HBR9 := Lib.hid (below_step HBR.out hHeld.2.2.2.2.2.2.2.2.2.2)
          clear hHeld
          go_wp2_with fail
          exact ⟨⟨k + 1, by omega, by first | rfl | go_num, by rw [HHT.out]; exact congrArg (Value.int IntKind.i64) (by omega), by rw [HPT.out]; exact congrArg (Value.int IntKind.i64) (by omega), HBR9⟩, by simp [intOf]; omega⟩
        | true =>
          obtain ⟨wb, VY⟩ : ∃ q, Hid (whole y = q) := ⟨_, Lib.hid rfl⟩
          have hq : decide (y.f0 ≠ 8) = wb := by rw [← VY.out, HWH.out rfl]
          have bw : (y.f0 != 8) = wb := by rw [← hq]; by_cases q : y.f0 = 8 <;> simp [q]
          clear hq
          cases wb with
          | false =>
            refine wp_region_held_drew (S := (fun w' => w'.cell? ⟨w.heap.size, 0, none⟩ = some (.int .i64 t.f0) ∧ w'.cell? ⟨w.heap.size, 1, none⟩ = some (.string t.f1) ∧ w'.cell? ⟨w.heap.size, 2, none⟩ = some (.int .i64 t.f2) ∧ w'.cell? ⟨w.heap.size, 3, none⟩ = some (.int .i64 t.f3) ∧ w'.cell? ⟨w.heap.size, 4, none⟩ = some (.slice (some ad) t.f4.length c) ∧ w'.cell? ⟨wr.heap.size, 0, none⟩ = some (.int .i64 y.f0) ∧ w'.cell? ⟨wr.heap.size, 1, none⟩ = some (.string y.f1) ∧ w'.cell? ⟨wr.heap.size, 2, none⟩ = some (.int .i64 y.f2) ∧ w'.cell? ⟨wr.heap.size, 3, none⟩ = some (.int .i64 y.f3) ∧ w'.cell? ⟨wr.heap.size, 4, none⟩ = some (.slice A3 y.f4.length c3) ∧ Below w6.heap.size w6 w')) (by kernel_rfl) (by (try dsimp only); exact TreeFix.keep10 ⟨t0, t1, t2, t3, t4, y0, y1, y2, y3, y4, Below.refl _ _⟩ (below_drew1 (Below.refl _ _))) (fun hHeld => ?_)
            change wpAnyH _ _ _ _ _ 10 #[false, false, false, false, false, false, false, false, false, false] _ _
            refine wpAnyH_take (i := 0) (v := ?_) rfl (by kernel_rfl) (by kernel_rfl) (by kernel_rfl) (fun _ _ _ h => h) (Or.inl ⟨by kernel_rfl, ?_⟩) (by assumption) ?_
            rotate_left 1
            · (intro w hSw; (try dsimp only at hSw); (try simp only [List.getElem_toArray, List.getElem_cons_succ, List.getElem_cons_zero]); go_simp; (try with_reducible rfl))
            (try simp only [Act.put, List.getElem_toArray, List.getElem_cons_succ, List.getElem_cons_zero, List.setIfInBounds_toArray, List.set_cons_zero, List.set_cons_succ])
            refine wpAnyH_ready (rs := [1]) (by kernel_rfl) (by simp) ?_
            refine AllReadyH.cons rfl (fun K hK => ?_) AllReadyH.nil
            (try simp only [List.getElem_toArray, List.getElem_cons_succ, List.getElem_cons_zero])
            go_simp
            refine ((TreeMay.whole_any t (by omega) _ _ _ (Kd.C_below Ct.out hHeld.2.2.2.2.2.2.2.2.2.2) hl (HT.out.on (below_step HB.out hHeld.2.2.2.2.2.2.2.2.2.2)).here).mono fun e w' h => (⟨h.1.trans (by rw [VT.out]), h.2⟩ : e = .returned (.bool true) ∧ _)).mono ?_
            rintro e w9 ⟨rfl, hb⟩
            simp only []
            refine hK.out _ _ ?_ (fun hHeld => ?_)
            · (try dsimp only); exact TreeFix.keep10 hHeld hb
            clear hK K
            (try simp only [Act.put, List.getElem_toArray, List.getElem_cons_succ, List.getElem_cons_zero, List.setIfInBounds_toArray, List.set_cons_zero, List.set_cons_succ])
            refine wpAnyH_take (i := 2) (v := ?_) rfl (by kernel_rfl) (by kernel_rfl) (by kernel_rfl) (fun _ _ _ h => h) (Or.inl ⟨by kernel_rfl, ?_⟩) (by assumption) ?_
            rotate_left 1
            · (intro w hSw; (try dsimp only at hSw); (try simp only [List.getElem_toArray, List.getElem_cons_succ, List.getElem_cons_zero]); go_simp; (try with_reducible rfl))
            (try simp only [Act.put, List.getElem_toArray, List.getElem_cons_succ, List.getElem_cons_zero, List.setIfInBounds_toArray, List.set_cons_zero, List.set_cons_succ])
            refine wpAnyH_take (i := 3) (v := ?_) rfl (by kernel_rfl) (by kernel_rfl) (by kernel_rfl) (fun _ _ _ h => h) (Or.inl ⟨by kernel_rfl, ?_⟩) (by assumption) ?_
            rotate_left 1
            · (intro w hSw; (try dsimp only at hSw); (try simp only [List.getElem_toArray, List.getElem_cons_succ, List.getElem_cons_zero]); go_simp; (try with_reducible rfl))
            (try simp only [Act.put, List.getElem_toArray, List.getElem_cons_succ, List.getElem_cons_zero, List.setIfInBounds_toArray, List.set_cons_zero, List.set_cons_succ])
            refine wpAnyH_take (i := 5) (v := ?_) rfl (by kernel_rfl) (by kernel_rfl) (by kernel_rfl) (fun _ _ _ h => h) (Or.inl ⟨by kernel_rfl, ?_⟩) (by assumption) ?_
            rotate_left 1
            · (intro w hSw; (try dsimp only at hSw); (try simp only [List.getElem_toArray, List.getElem_cons_succ, List.getElem_cons_zero]); go_simp; (try with_reducible rfl))
            (try simp only [Act.put, List.getElem_toArray, List.getElem_cons_succ, List.getElem_cons_zero, List.setIfInBounds_toArray, List.set_cons_zero, List.set_cons_succ])
            refine wpAnyH_take (i := 6) (v := ?_) rfl (by kernel_rfl) (by kernel_rfl) (by kernel_rfl) (fun _ _ _ h => h) (Or.inl ⟨by kernel_rfl, ?_⟩) (by assumption) ?_
            rotate_left 1
            · (intro w hSw; (try dsimp only at hSw); (try simp only [List.getElem_toArray, List.getElem_cons_succ, List.getElem_cons_zero]); go_simp; (try with_reducible rfl))
            (try simp only [Act.put, List.getElem_toArray, List.getElem_cons_succ, List.getElem_cons_zero, List.setIfInBounds_toArray, List.set_cons_zero, List.set_cons_succ])
            refine wpAnyH_take (i := 7) (v := ?_) rfl (by kernel_rfl) (by kernel_rfl) (by kernel_rfl) (fun _ _ _ h => h) (Or.inl ⟨by kernel_rfl, ?_⟩) (by assumption) ?_
            rotate_left 1
            · (intro w hSw; (try dsimp only at hSw); (try simp only [List.getElem_toArray, List.getElem_cons_succ, List.getElem_cons_zero]); go_simp; (try with_reducible rfl))
            (try simp only [Act.put, List.getElem_toArray, List.getElem_cons_succ, List.getElem_cons_zero, List.setIfInBounds_toArray, List.set_cons_zero, List.set_cons_succ])
            refine wpAnyH_ready (rs := [4]) (by kernel_rfl) (by simp) ?_
            refine AllReadyH.cons rfl (fun K hK => ?_) AllReadyH.nil
            (try simp only [List.getElem_toArray, List.getElem_cons_succ, List.getElem_cons_zero])
            go_simp
            refine ((TreeMay.whole_any y (by omega) _ _ _ (Kd.C_below Cy.out hHeld.2.2.2.2.2.2.2.2.2.2) hl3 (HT.out.on (below_step HB.out hHeld.2.2.2.2.2.2.2.2.2.2)).here).mono fun e w' h => (⟨h.1.trans (by rw [VY.out]), h.2⟩ : e = .returned (.bool false) ∧ _)).mono ?_
            rintro e w9 ⟨rfl, hb⟩
            simp only []
            refine hK.out _ _ ?_ (fun hHeld => ?_)
            · (try dsimp only); exact TreeFix.keep10 hHeld hb
            clear hK K
            (try simp only [Act.put, List.getElem_toArray, List.getElem_cons_succ, List.getElem_cons_zero, List.setIfInBounds_toArray, List.set_cons_zero, List.set_cons_succ])
            refine wpAnyH_take (i := 8) (v := ?_) rfl (by kernel_rfl) (by kernel_rfl) (by kernel_rfl) (fun _ _ _ h => h) (Or.inl ⟨by kernel_rfl, ?_⟩) (by assumption) ?_
            rotate_left 1
            · (intro w hSw; (try dsimp only at hSw); (try simp only [List.getElem_toArray, List.getElem_cons_succ, List.getElem_cons_zero]); go_simp; (try with_reducible rfl))
            (try simp only [Act.put, List.getElem_toArray, List.getElem_cons_succ, List.getElem_cons_zero, List.setIfInBounds_toArray, List.set_cons_zero, List.set_cons_succ])
            refine wpAnyH_take (i := 9) (v := ?_) rfl (by kernel_rfl) (by kernel_rfl) (by kernel_rfl) (fun _ _ _ h => h) (Or.inl ⟨by kernel_rfl, ?_⟩) (by assumption) ?_
            rotate_left 1
            · (intro w hSw; (try dsimp only at hSw); (try simp only [List.getElem_toArray, List.getElem_cons_succ, List.getElem_cons_zero]); go_simp; (try with_reducible rfl))
            (try simp only [Act.put, List.getElem_toArray, List.getElem_cons_succ, List.getElem_cons_zero, List.setIfInBounds_toArray, List.set_cons_zero, List.set_cons_succ])
            refine wpAnyH_done (by kernel_rfl) ?_ _
            have HBR9 := Lib.hid (below_step HBR.out hHeld.2.2.2.2.2.2.2.2.2.2)
            clear hHeld
            go_wp2_with fail
            exact ⟨⟨k + 1, by omega, by first | rfl | go_num, by rw [HHT.out]; exact congrArg (Value.int IntKind.i64) (by omega), by rw [HPT.out]; exact congrArg (Value.int IntKind.i64) (by omega), HBR9⟩, by simp [intOf]; omega⟩
          | true =>
            refine wp_region_held_drew (S := (fun w' => w'.cell? ⟨w.heap.size, 0, none⟩ = some (.int .i64 t.f0) ∧ w'.cell? ⟨w.heap.size, 1, none⟩ = some (.string t.f1) ∧ w'.cell? ⟨w.heap.size, 2, none⟩ = some (.int .i64 t.f2) ∧ w'.cell? ⟨w.heap.size, 3, none⟩ = some (.int .i64 t.f3) ∧ w'.cell? ⟨w.heap.size, 4, none⟩ = some (.slice (some ad) t.f4.length c) ∧ w'.cell? ⟨wr.heap.size, 0, none⟩ = some (.int .i64 y.f0) ∧ w'.cell? ⟨wr.heap.size, 1, none⟩ = some (.string y.f1) ∧ w'.cell? ⟨wr.heap.size, 2, none⟩ = some (.int .i64 y.f2) ∧ w'.cell? ⟨wr.heap.size, 3, none⟩ = some (.int .i64 y.f3) ∧ w'.cell? ⟨wr.heap.size, 4, none⟩ = some (.slice A3 y.f4.length c3) ∧ Below w6.heap.size w6 w')) (by kernel_rfl) (by (try dsimp only); exact TreeFix.keep10 ⟨t0, t1, t2, t3, t4, y0, y1, y2, y3, y4, Below.refl _ _⟩ (below_drew1 (Below.refl _ _))) (fun hHeld => ?_)
            change wpAnyH _ _ _ _ _ 10 #[false, false, false, false, false, false, false, false, false, false] _ _
            refine wpAnyH_take (i := 0) (v := ?_) rfl (by kernel_rfl) (by kernel_rfl) (by kernel_rfl) (fun _ _ _ h => h) (Or.inl ⟨by kernel_rfl, ?_⟩) (by assumption) ?_
            rotate_left 1
            · (intro w hSw; (try dsimp only at hSw); (try simp only [List.getElem_toArray, List.getElem_cons_succ, List.getElem_cons_zero]); go_simp; (try with_reducible rfl))
            (try simp only [Act.put, List.getElem_toArray, List.getElem_cons_succ, List.getElem_cons_zero, List.setIfInBounds_toArray, List.set_cons_zero, List.set_cons_succ])
            refine wpAnyH_ready (rs := [1]) (by kernel_rfl) (by simp) ?_
            refine AllReadyH.cons rfl (fun K hK => ?_) AllReadyH.nil
            (try simp only [List.getElem_toArray, List.getElem_cons_succ, List.getElem_cons_zero])
            go_simp
            refine ((TreeMay.whole_any t (by omega) _ _ _ (Kd.C_below Ct.out hHeld.2.2.2.2.2.2.2.2.2.2) hl (HT.out.on (below_step HB.out hHeld.2.2.2.2.2.2.2.2.2.2)).here).mono fun e w' h => (⟨h.1.trans (by rw [VT.out]), h.2⟩ : e = .returned (.bool true) ∧ _)).mono ?_
            rintro e w9 ⟨rfl, hb⟩
            simp only []
            refine hK.out _ _ ?_ (fun hHeld => ?_)
            · (try dsimp only); exact TreeFix.keep10 hHeld hb
            clear hK K
            (try simp only [Act.put, List.getElem_toArray, List.getElem_cons_succ, List.getElem_cons_zero, List.setIfInBounds_toArray, List.set_cons_zero, List.set_cons_succ])
            refine wpAnyH_take (i := 2) (v := ?_) rfl (by kernel_rfl) (by kernel_rfl) (by kernel_rfl) (fun _ _ _ h => h) (Or.inl ⟨by kernel_rfl, ?_⟩) (by assumption) ?_
            rotate_left 1
            · (intro w hSw; (try dsimp only at hSw); (try simp only [List.getElem_toArray, List.getElem_cons_succ, List.getElem_cons_zero]); go_simp; (try with_reducible rfl))
            (try simp only [Act.put, List.getElem_toArray, List.getElem_cons_succ, List.getElem_cons_zero, List.setIfInBounds_toArray, List.set_cons_zero, List.set_cons_succ])
            refine wpAnyH_take (i := 3) (v := ?_) rfl (by kernel_rfl) (by kernel_rfl) (by kernel_rfl) (fun _ _ _ h => h) (Or.inl ⟨by kernel_rfl, ?_⟩) (by assumption) ?_
            rotate_left 1
            · (intro w hSw; (try dsimp only at hSw); (try simp only [List.getElem_toArray, List.getElem_cons_succ, List.getElem_cons_zero]); go_simp; (try with_reducible rfl))
            (try simp only [Act.put, List.getElem_toArray, List.getElem_cons_succ, List.getElem_cons_zero, List.setIfInBounds_toArray, List.set_cons_zero, List.set_cons_succ])
            refine wpAnyH_take (i := 5) (v := ?_) rfl (by kernel_rfl) (by kernel_rfl) (by kernel_rfl) (fun _ _ _ h => h) (Or.inl ⟨by kernel_rfl, ?_⟩) (by assumption) ?_
            rotate_left 1
            · (intro w hSw; (try dsimp only at hSw); (try simp only [List.getElem_toArray, List.getElem_cons_succ, List.getElem_cons_zero]); go_simp; (try with_reducible rfl))
            (try simp only [Act.put, List.getElem_toArray, List.getElem_cons_succ, List.getElem_cons_zero, List.setIfInBounds_toArray, List.set_cons_zero, List.set_cons_succ])
            refine wpAnyH_take (i := 6) (v := ?_) rfl (by kernel_rfl) (by kernel_rfl) (by kernel_rfl) (fun _ _ _ h => h) (Or.inl ⟨by kernel_rfl, ?_⟩) (by assumption) ?_
            rotate_left 1
            · (intro w hSw; (try dsimp only at hSw); (try simp only [List.getElem_toArray, List.getElem_cons_succ, List.getElem_cons_zero]); go_simp; (try with_reducible rfl))
            (try simp only [Act.put, List.getElem_toArray, List.getElem_cons_succ, List.getElem_cons_zero, List.setIfInBounds_toArray, List.set_cons_zero, List.set_cons_succ])
            refine wpAnyH_take (i := 7) (v := ?_) rfl (by kernel_rfl) (by kernel_rfl) (by kernel_rfl) (fun _ _ _ h => h) (Or.inl ⟨by kernel_rfl, ?_⟩) (by assumption) ?_
            rotate_left 1
            · (intro w hSw; (try dsimp only at hSw); (try simp only [List.getElem_toArray, List.getElem_cons_succ, List.getElem_cons_zero]); go_simp; (try with_reducible rfl))
            (try simp only [Act.put, List.getElem_toArray, List.getElem_cons_succ, List.getElem_cons_zero, List.setIfInBounds_toArray, List.set_cons_zero, List.set_cons_succ])
            refine wpAnyH_ready (rs := [4]) (by kernel_rfl) (by simp) ?_
            refine AllReadyH.cons rfl (fun K hK => ?_) AllReadyH.nil
            (try simp only [List.getElem_toArray, List.getElem_cons_succ, List.getElem_cons_zero])
            go_simp
            refine ((TreeMay.whole_any y (by omega) _ _ _ (Kd.C_below Cy.out hHeld.2.2.2.2.2.2.2.2.2.2) hl3 (HT.out.on (below_step HB.out hHeld.2.2.2.2.2.2.2.2.2.2)).here).mono fun e w' h => (⟨h.1.trans (by rw [VY.out]), h.2⟩ : e = .returned (.bool true) ∧ _)).mono ?_
            rintro e w9 ⟨rfl, hb⟩
            simp only []
            refine hK.out _ _ ?_ (fun hHeld => ?_)
            · (try dsimp only); exact TreeFix.keep10 hHeld hb
            clear hK K
            (try simp only [Act.put, List.getElem_toArray, List.getElem_cons_succ, List.getElem_cons_zero, List.setIfInBounds_toArray, List.set_cons_zero, List.set_cons_succ])
            refine wpAnyH_take (i := 8) (v := ?_) rfl (by kernel_rfl) (by kernel_rfl) (by kernel_rfl) (fun _ _ _ h => h) (Or.inl ⟨by kernel_rfl, ?_⟩) (by assumption) ?_
            rotate_left 1
            · (intro w hSw; (try dsimp only at hSw); (try simp only [List.getElem_toArray, List.getElem_cons_succ, List.getElem_cons_zero]); go_simp; (try with_reducible rfl))
            (try simp only [Act.put, List.getElem_toArray, List.getElem_cons_succ, List.getElem_cons_zero, List.setIfInBounds_toArray, List.set_cons_zero, List.set_cons_succ])
            refine wpAnyH_take (i := 9) (v := ?_) rfl (by kernel_rfl) (by kernel_rfl) (by kernel_rfl) (fun _ _ _ h => h) (Or.inl ⟨by kernel_rfl, ?_⟩) (by assumption) ?_
            rotate_left 1
            · (intro w hSw; (try dsimp only at hSw); (try simp only [List.getElem_toArray, List.getElem_cons_succ, List.getElem_cons_zero]); go_simp; (try with_reducible rfl))
            (try simp only [Act.put, List.getElem_toArray, List.getElem_cons_succ, List.getElem_cons_zero, List.setIfInBounds_toArray, List.set_cons_zero, List.set_cons_succ])
            refine wpAnyH_done (by kernel_rfl) ?_ _
            have HBR9 := Lib.hid (below_step HBR.out hHeld.2.2.2.2.2.2.2.2.2.2)
            clear hHeld
            go_wp2_with fail
            exact ⟨⟨k + 1, by omega, by first | rfl | go_num, by rw [HHT.out]; exact congrArg (Value.int IntKind.i64) (by omega), by rw [HPT.out]; exact congrArg (Value.int IntKind.i64) (by omega), HBR9⟩, by simp [intOf]; omega⟩
      · have hke : k = t.f4.length := by omega
        have HSZ : Hid (size t = sizes (t.f4.take k) + 1) := Lib.hid (by rw [hke, List.take_length]; exact TreePt.size_is t)
        have HHE : Hid (height t = heights (t.f4.take k) + 1) := Lib.hid (by rw [hke, List.take_length]; exact TreePt.height_is t)
        have bs1 : ((size t : Int) == (sizes (t.f4.take k) : Int) + 1) = true := beq_iff_eq.2 (by have := HSZ.out; omega)
        have bs2 : ((height t : Int) == (heights (t.f4.take k) : Int) + 1) = true := beq_iff_eq.2 (by have := HHE.out; omega)
        have hw1 : wrap64 ((sizes (t.f4.take k) : Int) + 1) = (sizes (t.f4.take k) : Int) + 1 := IntWalk.wrap64_in _ ⟨by omega, by have := HSZ.out; omega⟩
        have hw2 : wrap64 ((heights (t.f4.take k) : Int) + 1) = (heights (t.f4.take k) : Int) + 1 := IntWalk.wrap64_in _ ⟨by omega, by have := HHE.out; omega⟩
        clear hke
        obtain ⟨kk, hkk⟩ := (TreeEv.depth_ev _ t (Nat.le_refl _) szt).rounds
        have KK := Lib.hid hkk
        clear hkk
        go_wp2_with fail
        refine (tree_Depth.calls kk t.f0 t.f1 t.f2 t.f3 _ _ t.f4 _ _ Ct.out hl KK.out).mono ?_
        rintro e w6 ⟨rfl, hb⟩
        clear KK
        have n0_ := Lib.hid (below_step HB.out hb); have n1_ := Lib.hid (Kd.C_below Ct.out hb); have n2_ := Lib.hid (blk_below Bt.out hb)
        clear HB Ct Bt hb t0 t1 t2 t3 t4
        have HB := n0_; have Ct := n1_; have Bt := n2_
        clear n0_ n1_ n2_
        have t0 := blk_cell Bt.out 0; have t1 := blk_cell Bt.out 1; have t2 := blk_cell Bt.out 2; have t3 := blk_cell Bt.out 3; have t4 := blk_cell Bt.out 4
        simp only [List.getElem?_toArray, List.getElem?_cons_zero, List.getElem?_cons_succ] at t0 t1 t2 t3 t4
        obtain ⟨kk, hkk⟩ := (TreeEv.size_ev _ t (Nat.le_refl _) szt).rounds
        have KK := Lib.hid hkk
        clear hkk
        go_wp2_with fail
        refine (tree_Size.calls kk t.f0 t.f1 t.f2 t.f3 _ _ t.f4 _ _ Ct.out hl KK.out).mono ?_
        rintro e w6 ⟨rfl, hb⟩
        clear KK
        have n0_ := Lib.hid (below_step HB.out hb); have n1_ := Lib.hid (Kd.C_below Ct.out hb); have n2_ := Lib.hid (blk_below Bt.out hb)
        clear HB Ct Bt hb t0 t1 t2 t3 t4
        have HB := n0_; have Ct := n1_; have Bt := n2_
        clear n0_ n1_ n2_
        have t0 := blk_cell Bt.out 0; have t1 := blk_cell Bt.out 1; have t2 := blk_cell Bt.out 2; have t3 := blk_cell Bt.out 3; have t4 := blk_cell Bt.out 4
        simp only [List.getElem?_toArray, List.getElem?_cons_zero, List.getElem?_cons_succ] at t0 t1 t2 t3 t4
        go_wp2_with fail
        go_ret
        exact ⟨rfl, HB.out⟩
end Go.Proofs.YthdkjfhpbigdpaaDoor.Pure

-- Written for this claim.
namespace Go.Proofs.YthdkjfhpbigdpaaDoor.Pure
open Go Go.RowKit Go.Proofs.YthdkjfhpbigdpaaDoor.Q Go.Proofs.YthdkjfhpbigdpaaDoorW.PrintWords Go.Proofs.YthdkjfhpbigdpaaDoorW.PrintLast Go.Proofs.YthdkjfhpbigdpaaDoorW.PrintMore
open HRead HTree Go.WideShapes
namespace TreeRd
theorem wts_sum : ∀ l : List T, wts l = (l.map wt).sum
  | [] => rfl
  | x :: r => by simp only [wts, List.map_cons, List.sum_cons, wts_sum r]
theorem oks_of : ∀ l : List T, (∀ y ∈ l, Ok y) → Oks l
  | [], _ => trivial
  | x :: r, h => ⟨h x (List.mem_cons_self ..), oks_of r fun y hy => h y (List.mem_cons_of_mem _ hy)⟩
theorem rdTree : ∀ n, (∀ m, m ≤ n → Rd Tryd.prog k24 24 Ok wt m)
  | 0 => fun m hm => by obtain rfl : m = 0 := by omega
                        exact rd_zero
  | n + 1 => fun m hm => by
    have ih := rdTree n
    rcases Nat.lt_or_ge m (n + 1) with hlt | hge
    · intro H enc w base spare held cs x hx
      exact ih m (by omega) enc w base spare held cs x hx
    · obtain rfl : m = n + 1 := by omega
      have hs : Rd Tryd.prog (Kd.slice 24 k24) 22 (fun ys => (∀ y ∈ ys, Ok y) ∧ ys.length ≤ 9223372036854775807) (fun ys => (ys.map wt).sum + 1) n := by
        cases n with
        | zero => exact rd_zero
        | succ n => exact rd_slice Tryd.underlying22 (by kernel_rfl) (ih n (by omega))
      intro H enc w base spare held cs x hx
      obtain ⟨y, hK, ⟨o1, _, o2, o4, o3, _⟩, hw⟩ := rd_struct (d := Kd.pair (Kd.int .i64) (Kd.pair Kd.string (Kd.pair (Kd.int .i64) (Kd.pair (Kd.int .i64) (Kd.slice 24 k24))))) Tryd.underlying24 (by kernel_rfl) (rdf_cons rfl (by kernel_rfl) (rd_int Tryd.underlying3) (rdf_cons rfl (by kernel_rfl) (rd_string Tryd.underlying9) (rdf_cons rfl (by kernel_rfl) (rd_int Tryd.underlying3) (rdf_cons rfl (by kernel_rfl) (rd_int Tryd.underlying3) (rdf_one rfl (by kernel_rfl) hs))))) enc w base spare held cs x hx
      obtain ⟨a, s, b, p, l⟩ := y
      refine ⟨⟨a, s, b, p, l⟩, ?_, ⟨o1, o2, o4, oks_of l o3⟩, ?_⟩
      · obtain ⟨_, _, rfl, rfl, ⟨_, _, rfl, rfl, ⟨_, _, rfl, rfl, ⟨_, _, rfl, rfl, ⟨A, c, rfl, hl, g⟩⟩⟩⟩⟩ := hK
        exact k24_mk w ⟨a, s, b, p, l⟩ hl g
      · have e := wts_sum l
        simp only [wt]
        simp only at hw
        omega
set_option maxRecDepth 100000 in
/-- A tree that came in. -/
theorem readTree {H : Type} {enc : TypeId × Value → H} {W : World} {base0 base : Nat} {spare : Nat → Bool} {held : Bool} {r : Reach} {v : Value} {D : DataW H} {ps : List MemPlace} (hval : Value.okWide Tryd.prog W r base0 24 v)
    (hd : DataW.Trod enc Tryd.prog W base spare held 24 v D ps) :
    ∃ (x : T) (A : Option Addr) (c : Nat), v = .agg #[.int .i64 x.f0, .string x.f1, .int .i64 x.f2, .int .i64 x.f3, .slice A x.f4.length c] ∧ Kd.C k24 W A x.f4.length x.f4 ∧ x.f4.length ≤ c ∧ Ok x ∧ wt x ≤ Rows.uptoBulk D := by
  obtain ⟨cs, rfl, hsz⟩ := okWide_struct Tryd.underlying24 hval
  obtain ⟨fuel, hf⟩ := hd
  obtain ⟨x, hK, hok, hw⟩ := rdTree fuel fuel (Nat.le_refl _) enc W base spare held _ _ hf
  obtain ⟨A, c, hcs, hl, hC⟩ := k24_open hK
  refine ⟨x, A, c, ?_, hC, hl, hok, hw⟩
  have : cs.toList = [.int .i64 x.f0, .string x.f1, .int .i64 x.f2, .int .i64 x.f3, .slice A x.f4.length c] := by simpa [Value.cells] using hcs
  rw [← this]
end TreeRd
end Go.Proofs.YthdkjfhpbigdpaaDoor.Pure

-- Written for this claim.
namespace Go.Proofs.YthdkjfhpbigdpaaDoor.Pure
open Go Go.RowKit
namespace TreeTab
theorem gTab : Tryd.prog.globalNamed "strings.asciiSpace" = some 0 := by kernel_rfl
theorem gTabType : (Tryd.prog.globals[0]?).map (·.type) = some 61 := by kernel_rfl
theorem data : (Rows.laid_strings_asciiSpace : DataW Unit) = Lib.tabData .u8 Lib.asciiSpaceTab := by kernel_rfl
theorem tab_of {W : World} (h : laidMetH Tryd.prog Rows.treeSameUptoRow.laid W) : Lib.TabIs Tryd.prog W "strings.asciiSpace" .u8 Lib.asciiSpaceTab := by
  rw [MakeChecks.laidMetH_plain _ _ _ (by kernel_rfl)] at h
  have h2 := h.tail.tail.tail.tail.tail.tail.tail
  rw [data] at h2
  exact Lib.tabIs_of_head gTab gTabType Tryd.underlying61 Tryd.underlying5 (by kernel_rfl) (by kernel_rfl) h2
end TreeTab
end Go.Proofs.YthdkjfhpbigdpaaDoor.Pure
