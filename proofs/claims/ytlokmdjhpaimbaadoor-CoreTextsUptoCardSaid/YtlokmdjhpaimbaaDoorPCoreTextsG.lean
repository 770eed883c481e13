-- Written for this claim: several texts in one.
import Derived.Test.YtlokmdjhpaimbaaDoorQx37
import Derived.Test.YtlokmdjhpaimbaaDoorQx38
import Derived.Test.YtlokmdjhpaimbaaDoorQx41
import Derived.Test.YtlokmdjhpaimbaaDoorQx42
import Derived.Test.YtlokmdjhpaimbaaDoorHCore
import Derived.Test.YtlokmdjhpaimbaaDoorPCoreText
import Derived.Test.YtlokmdjhpaimbaaDoorPCoreFix
import Derived.Deep.RegionWith
import Derived.Test.YtlokmdjhpaimbaaDoorRows
import Derived.Test.YtlokmdjhpaimbaaDoorQx0
import Derived.Deep.Slices
import Derived.ProofKit
import Derived.OpenShut
import Derived.Test.YtlokmdjhpaimbaaDoorQx1
import Derived.Lib.LaidTab
import Derived.Lib.ItoaNum
import Derived.LaidLaws
import Derived.LaidMore
import Derived.Stop.Joined
import Derived.Stop.LaidErr
import Derived.Lay
-- Written for this claim.
namespace Go.Proofs.YtlokmdjhpaimbaaDoor.Pure
open Go Go.RowKit Go.Proofs.YtlokmdjhpaimbaaDoor.Q Go.Proofs.YtlokmdjhpaimbaaDoorW.PrintWords Go.Proofs.YtlokmdjhpaimbaaDoorW.PrintLast Go.Proofs.YtlokmdjhpaimbaaDoorW.PrintMore
open HCore
namespace CoreEv
theorem wrap_small {n : Int} (h0 : -9223372036854775808 ≤ n) (h1 : n < 9223372036854775808) : wrap64 n = n := by
  unfold wrap64; omega
theorem rd_at (l : List S24) (i : Nat) (t : S24) (h : l[i]? = some t) : rd_T24 l (i : Int) = t := by
  unfold rd_T24
  rw [Int.toNat_natCast, List.getD_eq_getElem?_getD, h]; rfl
theorem at_drop {l r : List T} {i : Nat} {x : T} (h : l.drop i = x :: r) : l[i]? = some x ∧ i < l.length ∧ l.drop (i + 1) = r := by
  have h0 : l[i]? = some x := by have := congrArg (fun l => l[0]?) h; simpa using this
  exact ⟨h0, (List.getElem?_eq_some_iff.1 h0).1, by rw [← List.drop_drop, h]; rfl⟩
theorem size_get {l : List T} {x : T} (h : x ∈ l) : size x ≤ sizes l := by
  induction l with
  | nil => cases h
  | cons y r ih =>
    simp only [sizes]
    rcases List.mem_cons.1 h with rfl | h
    · omega
    · have := ih h; omega
theorem size_pos : ∀ x : T, 1 ≤ size x
  | ⟨_, _, _, _⟩ => by simp only [size]; omega
theorem len_sizes : ∀ l : List T, l.length ≤ sizes l
  | [] => Nat.le_refl _
  | x :: r => by have := len_sizes r; have := size_pos x; simp only [sizes, List.length_cons]; omega
mutual
theorem height_size : ∀ x : T, height x ≤ size x
  | ⟨_, _, _, l⟩ => by have := heights_sizes l; simp only [height, size]; omega
theorem heights_sizes : ∀ l : List T, heights l ≤ sizes l
  | [] => Nat.le_refl _
  | x :: r => by have := height_size x; have := heights_sizes r; simp only [heights, sizes]; omega
end
mutual
theorem size_wt : ∀ x : T, size x ≤ wt x
  | ⟨_, _, _, l⟩ => by have := sizes_wts l; simp only [size, wt]; omega
theorem sizes_wts : ∀ l : List T, sizes l ≤ wts l
  | [] => Nat.le_refl _
  | x :: r => by have := size_wt x; have := sizes_wts r; simp only [sizes, wts]; omega
end
theorem size_loop (l : List T) (hl : l.length ≤ 1000000000) (H : ∀ x ∈ l, Ev (fun k => core_Size.f k x.f0 x.f1 x.f2 x.f3) (size x : Int)) : ∀ (r : List T) (i acc : Nat), l.drop i = r → acc + sizes r ≤ 2000000000 → Ev (fun k => core_Size.l0 k acc l l.length i) ((acc + sizes r : Nat) : Int)
  | [], i, acc, h, hb => by
    have := List.drop_eq_nil_iff.1 h
    refine Ev.step (f := fun _ => some _) (fun k => ?_) (Ev.now _)
    rw [core_Size.l0, if_neg (by omega)]; simp [sizes]
  | x :: r, i, acc, h, hb => by
    obtain ⟨h0, hi, hn⟩ := at_drop h
    simp only [sizes] at hb
    refine Ev.step (f := fun k => (core_Size.f k x.f0 x.f1 x.f2 x.f3).bind fun t => core_Size.l0 k (wrap64 (acc + t)) l l.length (wrap64 (i + 1))) (fun k => ?_) (Ev.bind (H x (List.mem_of_getElem? h0)) ?_)
    · rw [core_Size.l0, if_pos (by omega), if_pos (by omega), if_pos (by omega), rd_at l i x h0]
    · rw [wrap_small (by omega) (by omega), wrap_small (by omega) (by omega)]
      have ih := size_loop l hl H r (i + 1) (acc + size x) hn (by omega)
      have e1 : ((acc : Int) + (size x : Int)) = ((acc + size x : Nat) : Int) := by omega
      have e2 : ((i : Int) + 1) = ((i + 1 : Nat) : Int) := by omega
      rw [e1, e2]
      have e3 : acc + sizes (x :: r) = acc + size x + sizes r := by simp only [sizes]; omega
      rw [e3]; exact ih
theorem size_ev : ∀ (n : Nat) (x : T), height x ≤ n → size x ≤ 1000000000 → Ev (fun k => core_Size.f k x.f0 x.f1 x.f2 x.f3) (size x : Int)
  | 0, x, hn, _ => by cases x; simp only [height] at hn; omega
  | n + 1, x, hn, hs => by
    have hh : height x = heights x.f3 + 1 := by cases x; rfl
    have hz : size x = sizes x.f3 + 1 := by cases x; rfl
    have H : ∀ y ∈ x.f3, Ev (fun k => core_Size.f k y.f0 y.f1 y.f2 y.f3) (size y : Int) := fun y hy => size_ev n y (by have := height_get hy; omega) (by have := size_get hy; omega)
    refine Ev.step (f := fun k => core_Size.l0 k 1 x.f3 x.f3.length 0) (fun k => by rw [core_Size.f]) ?_
    have := size_loop x.f3 (by have := len_sizes x.f3; omega) H x.f3 0 1 rfl (by omega)
    rw [hz]
    have e : sizes x.f3 + 1 = 1 + sizes x.f3 := by omega
    rw [e]; exact this
theorem mx_nat (a b : Nat) : mx (a : Int) (b : Int) = ((max a b : Nat) : Int) := by
  unfold mx; omega
theorem depth_loop (l : List T) (hl : l.length ≤ 1000000000) (H : ∀ x ∈ l, Ev (fun k => core_Depth.f k x.f0 x.f1 x.f2 x.f3) (height x : Int)) : ∀ (r : List T) (i acc : Nat), l.drop i = r → acc ≤ 1000000000 → heights r ≤ 1000000000 → Ev (fun k => core_Depth.l0 k acc l l.length i) ((max acc (heights r) + 1 : Nat) : Int)
  | [], i, acc, h, ha, hb => by
    have := List.drop_eq_nil_iff.1 h
    refine Ev.step (f := fun _ => some _) (fun k => ?_) (Ev.now _)
    rw [core_Depth.l0, if_neg (by omega), wrap_small (by omega) (by omega)]; simp [heights]
  | x :: r, i, acc, h, ha, hb => by
    obtain ⟨h0, hi, hn⟩ := at_drop h
    simp only [heights] at hb
    refine Ev.step (f := fun k => (core_Depth.f k x.f0 x.f1 x.f2 x.f3).bind fun t => core_Depth.l0 k (mx acc t) l l.length (wrap64 (i + 1))) (fun k => ?_) (Ev.bind (H x (List.mem_of_getElem? h0)) ?_)
    · rw [core_Depth.l0, if_pos (by omega), if_pos (by omega), if_pos (by omega), rd_at l i x h0]
    · rw [wrap_small (by omega) (by omega), mx_nat]
      have ih := depth_loop l hl H r (i + 1) (max acc (height x)) hn (by omega) (by omega)
      have e2 : ((i : Int) + 1) = ((i + 1 : Nat) : Int) := by omega
      rw [e2]
      have e3 : max acc (heights (x :: r)) = max (max acc (height x)) (heights r) := by simp only [heights]; omega
      rw [e3]; exact ih
theorem depth_ev : ∀ (n : Nat) (x : T), height x ≤ n → size x ≤ 1000000000 → Ev (fun k => core_Depth.f k x.f0 x.f1 x.f2 x.f3) (height x : Int)
  | 0, x, hn, _ => by cases x; simp only [height] at hn; omega
  | n + 1, x, hn, hs => by
    have hh : height x = heights x.f3 + 1 := by cases x; rfl
    have hz : size x = sizes x.f3 + 1 := by cases x; rfl
    have H : ∀ y ∈ x.f3, Ev (fun k => core_Depth.f k y.f0 y.f1 y.f2 y.f3) (height y : Int) := fun y hy => depth_ev n y (by have := height_get hy; omega) (by have := size_get hy; omega)
    refine Ev.step (f := fun k => core_Depth.l0 k 0 x.f3 x.f3.length 0) (fun k => by rw [core_Depth.f]) ?_
    have hhs := heights_sizes x.f3
    have := depth_loop x.f3 (by have := len_sizes x.f3; omega) H x.f3 0 0 rfl (by omega) (by omega)
    rw [hh]
    have e : heights x.f3 + 1 = max 0 (heights x.f3) + 1 := by omega
    rw [e]; exact this
/-- Small ends. -/
theorem few_loop (x : T) (hl : x.f3.length ≤ 1000000000) (deep : Int) (hd : -1000000 ≤ deep ∧ deep ≤ 1000000) (H : ∀ y ∈ x.f3, ∀ left dp : Int, -1000000 ≤ left → left ≤ 1000000 → -1000000 ≤ dp → dp ≤ 1000000 → ∃ r : Int, -1 ≤ r ∧ r ≤ 1000000 ∧ Ev (fun k => gossamerref06_few.f k y.f0 y.f1 y.f2 y.f3 left dp) r) (hd1 : 1 ≤ deep) :
    ∀ (r : List T) (i : Nat) (left : Int), x.f3.drop i = r → 0 ≤ left → left ≤ 1000000 → ∃ q : Int, -1 ≤ q ∧ q ≤ 1000000 ∧ Ev (fun k => gossamerref06_few.l0 k left deep i x.f0 x.f1 x.f2 x.f3) q
  | [], i, left, h, h0, h1 => by
    have := List.drop_eq_nil_iff.1 h
    refine ⟨left, by omega, h1, Ev.step (f := fun _ => some _) (fun k => ?_) (Ev.now _)⟩
    rw [gossamerref06_few.l0, if_neg (by omega)]
  | y :: r, i, left, h, h0, h1 => by
    obtain ⟨hg, hi, hn⟩ := at_drop h
    obtain ⟨q, hq0, hq1, hev⟩ := H y (List.mem_of_getElem? hg) left (deep - 1) (by omega) h1 (by omega) (by omega)
    by_cases hneg : q < 0
    · refine ⟨-1, by omega, by omega, Ev.step (f := fun k => (gossamerref06_few.f k y.f0 y.f1 y.f2 y.f3 left (deep - 1)).bind fun t => if t < 0 then some (-1) else gossamerref06_few.l0 k t deep (wrap64 (i + 1)) x.f0 x.f1 x.f2 x.f3) (fun k => ?_) (Ev.bind hev ?_)⟩
      · rw [gossamerref06_few.l0, if_pos (by omega), if_pos (by omega), rd_at _ i y hg, wrap_small (n := deep - 1) (by omega) (by omega)]
      · simp only [hneg, if_true]; exact Ev.now _
    · obtain ⟨q2, a, b, hev2⟩ := few_loop x hl deep hd H hd1 r (i + 1) q hn (by omega) hq1
      refine ⟨q2, a, b, Ev.step (f := fun k => (gossamerref06_few.f k y.f0 y.f1 y.f2 y.f3 left (deep - 1)).bind fun t => if t < 0 then some (-1) else gossamerref06_few.l0 k t deep (wrap64 (i + 1)) x.f0 x.f1 x.f2 x.f3) (fun k => ?_) (Ev.bind hev ?_)⟩
      · rw [gossamerref06_few.l0, if_pos (by omega), if_pos (by omega), rd_at _ i y hg, wrap_small (n := deep - 1) (by omega) (by omega)]
      · simp only [hneg, if_false]
        rw [wrap_small (by omega) (by omega)]
        exact hev2
theorem few_ev : ∀ (n : Nat) (x : T), height x ≤ n → size x ≤ 1000000000 → ∀ left dp : Int, -1000000 ≤ left → left ≤ 1000000 → -1000000 ≤ dp → dp ≤ 1000000 → ∃ r : Int, -1 ≤ r ∧ r ≤ 1000000 ∧ Ev (fun k => gossamerref06_few.f k x.f0 x.f1 x.f2 x.f3 left dp) r
  | 0, x, hn, _, _, _, _, _, _, _ => by cases x; simp only [height] at hn; omega
  | n + 1, x, hn, hs, left, dp, h0, h1, h2, h3 => by
    have hh : height x = heights x.f3 + 1 := by cases x; rfl
    have hz : size x = sizes x.f3 + 1 := by cases x; rfl
    by_cases hc : left < 1
    · refine ⟨-1, by omega, by omega, Ev.step (f := fun k => gossamerref06_few.j0 k left dp true x.f0 x.f1 x.f2 x.f3) (fun k => by rw [gossamerref06_few.f, if_pos hc]) (Ev.step (f := fun _ => some (-1)) (fun k => by rw [gossamerref06_few.j0, if_pos rfl]) (Ev.now _))⟩
    · by_cases hc2 : dp < 1
      · refine ⟨-1, by omega, by omega, Ev.step (f := fun k => gossamerref06_few.j0 k left dp true x.f0 x.f1 x.f2 x.f3) (fun k => by rw [gossamerref06_few.f, if_neg hc, decide_eq_true hc2]) (Ev.step (f := fun _ => some (-1)) (fun k => by rw [gossamerref06_few.j0, if_pos rfl]) (Ev.now _))⟩
      · obtain ⟨q, a, b, hev⟩ := few_loop x (by have := len_sizes x.f3; omega) dp ⟨h2, h3⟩ (fun y hy l d => few_ev n y (by have := height_get hy; omega) (by have := size_get hy; omega) l d) (by omega) x.f3 0 (left - 1) rfl (by omega) (by omega)
        refine ⟨q, a, b, Ev.step (f := fun k => gossamerref06_few.j0 k left dp false x.f0 x.f1 x.f2 x.f3) (fun k => by rw [gossamerref06_few.f, if_neg hc, decide_eq_false hc2]) (Ev.step (f := fun k => gossamerref06_few.l0 k (left - 1) dp 0 x.f0 x.f1 x.f2 x.f3) (fun k => by rw [gossamerref06_few.j0, if_neg (by simp), wrap_small (by omega) (by omega)]) hev)⟩
theorem small_some (x : T) (hs : size x ≤ 1000000000) (most : Int) (h0 : 0 ≤ most) (h1 : most ≤ 1000000) : ∃ k b, gossamerref06_Small.f k x.f0 x.f1 x.f2 x.f3 most = some b := by
  obtain ⟨r, _, _, hev⟩ := few_ev (height x) x (Nat.le_refl _) hs most 600 (by omega) h1 (by omega) (by omega)
  obtain ⟨k, hk⟩ := hev.rounds
  refine ⟨k, decide (r ≥ 0), ?_⟩
  unfold gossamerref06_Small.f
  rw [hk]; rfl
end CoreEv
end Go.Proofs.YtlokmdjhpaimbaaDoor.Pure

-- Written for this claim.
namespace Go.Proofs.YtlokmdjhpaimbaaDoor.Pure
open Go Go.RowKit Go.Proofs.YtlokmdjhpaimbaaDoor.Q
open HCore CoreText
namespace CoreTxl
mutual
theorem same_iff : ∀ x y : T, same x y = true → x = y
  | ⟨k, n, s, l⟩, ⟨k', n', s', l'⟩, h => by
    simp only [same, Bool.and_eq_true, decide_eq_true_eq] at h
    obtain ⟨⟨⟨h1, h2⟩, h3⟩, h4⟩ := h
    have e := sames_iff l l' h4
    have es : s = s' := (HLexC.bytes_eq_iff _ _).2 h2
    subst h1; subst h3; subst e; subst es; rfl
theorem sames_iff : ∀ l l' : List T, sames l l' = true → l = l'
  | [], [], _ => rfl
  | [], _ :: _, h => by simp [sames] at h
  | _ :: _, [], h => by simp [sames] at h
  | x :: l, y :: l', h => by
    simp only [sames, Bool.and_eq_true] at h
    rw [same_iff x y h.1, sames_iff l l' h.2]
end
mutual
theorem same_refl : ∀ x : T, same x x = true
  | ⟨k, n, s, l⟩ => by simp [same, sames_refl l]
theorem sames_refl : ∀ l : List T, sames l l = true
  | [] => rfl
  | x :: l => by simp [sames, same_refl x, sames_refl l]
end
theorem same_eq {a b : T} (h : same a b = true) : a = b := same_iff a b h
theorem same_comm (a b : T) : same b a = same a b := by
  cases h : same a b with
  | true => rw [same_eq h]; exact same_refl b
  | false =>
    cases h2 : same b a with
    | false => rfl
    | true => rw [same_eq h2, same_refl] at h; cases h
theorem word_len (x : T) (ok : Ok x) : (word x).length ≤ x.f2.size + 22 := by
  obtain ⟨k, n, s, l⟩ := x
  obtain ⟨h0, h1⟩ := wf_bounds ok.2.1
  have := itoa_len n h0 h1
  have hs : s.data.toList.length = s.size := by simp
  simp only [word]
  split
  · simp
  split
  · simp
  split
  · simp
  split
  · omega
  split
  · omega
  split
  · rw [List.length_append, List.length_cons]; omega
  · simp
mutual
theorem text_len0 : ∀ x : T, Ok x → (text x).length + 1 ≤ 60 * wt x
  | ⟨k, n, s, l⟩, ok => by
    have hl := texts_len0 l ok.2.2
    obtain ⟨h0, h1⟩ := wf_bounds ok.2.1
    have hi := itoa_len n h0 h1
    have hw := word_len ⟨k, n, s, l⟩ ok
    simp only at hw
    simp only [text, wt]
    split
    · simp; omega
    split
    · omega
    split
    · simp; omega
    · simp only [List.length_cons, List.length_append, List.length_nil]; omega
theorem texts_len0 : ∀ l : List T, Oks l → (texts l).length ≤ 60 * wts l
  | [], _ => by simp [texts]
  | x :: r, ok => by
    have h1 := text_len0 x ok.1
    have h2 := texts_len0 r ok.2
    simp only [texts, wts, List.length_cons, List.length_append]; omega
end
theorem text_len (x : T) (ok : Ok x) : (text x).length ≤ 60 * wt x := by have := text_len0 x ok; omega
end CoreTxl
end Go.Proofs.YtlokmdjhpaimbaaDoor.Pure

-- Written for this claim.
namespace Go.Proofs.YtlokmdjhpaimbaaDoor.Pure
open Go Go.RowKit Go.Proofs.YtlokmdjhpaimbaaDoor.Q
open HCore
namespace CoreMono
mutual
theorem may_mono : ∀ (x : T) (a b : Int), a ≤ b → may x a = true → may x b = true
  | ⟨k, n, s, l⟩, a, b, hab, h => by
    simp only [may] at h ⊢
    split
    · rename_i hk
      simp only [hk, if_true, Bool.and_eq_true, decide_eq_true_eq] at h ⊢
      exact ⟨h.1, by omega⟩
    · rename_i h1
      rw [if_neg h1] at h
      split
      · rename_i hk
        simp only [hk, if_true, Bool.and_eq_true, decide_eq_true_eq] at h ⊢
        exact ⟨h.1, by omega⟩
      · rename_i h7
        rw [if_neg h7] at h
        split
        · rename_i hk
          simp only [hk, if_true, Bool.and_eq_true, decide_eq_true_eq] at h ⊢
          exact ⟨h.1, by omega⟩
        · rename_i h9
          rw [if_neg h9] at h
          split
          · rename_i hk
            simp only [hk, if_true, Bool.and_eq_true, decide_eq_true_eq] at h ⊢
            exact ⟨⟨h.1.1, by omega⟩, each_mono l (a + 1) (b + 1) (by omega) h.2⟩
          · rename_i h2
            rw [if_neg h2] at h
            split
            · rename_i hk
              simp only [hk, if_true, Bool.and_eq_true, decide_eq_true_eq] at h ⊢
              exact ⟨h.1, each_mono l a b hab h.2⟩
            · rename_i h3
              rw [if_neg h3] at h
              split
              · rename_i hk
                simp only [hk, if_true, Bool.and_eq_true, decide_eq_true_eq] at h ⊢
                exact ⟨h.1, each_mono l a b hab h.2⟩
              · rename_i h8
                rw [if_neg h8] at h
                split
                · rename_i hk
                  simp only [hk, if_true, Bool.and_eq_true, decide_eq_true_eq] at h ⊢
                  exact ⟨⟨h.1.1, by omega⟩, each_mono l a b hab h.2⟩
                · rename_i h4
                  rw [if_neg h4] at h
                  split
                  · rename_i hk
                    simp only [hk, if_true, Bool.and_eq_true, decide_eq_true_eq] at h ⊢
                    exact ⟨h.1, case_mono l a b hab h.2⟩
                  · rename_i h5
                    rw [if_neg h5] at h; cases h
theorem each_mono : ∀ (l : List T) (a b : Int), a ≤ b → each l a = true → each l b = true
  | [], _, _, _, _ => rfl
  | x :: r, a, b, hab, h => by
    simp only [each, Bool.and_eq_true] at h ⊢
    exact ⟨may_mono x a b hab h.1, each_mono r a b hab h.2⟩
theorem case_mono : ∀ (l : List T) (a b : Int), a ≤ b → mayCase l a = true → mayCase l b = true
  | [], _, _, _, h => by simp [mayCase] at h
  | x :: r, a, b, hab, h => by
    simp only [mayCase, Bool.and_eq_true] at h ⊢
    exact ⟨⟨⟨may_mono x a b hab h.1.1.1, alts_mono r a b [] hab h.1.1.2⟩, h.1.2⟩, h.2⟩
theorem alts_mono : ∀ (l : List T) (a b : Int) (seen : List T), a ≤ b → alts l a seen = true → alts l b seen = true
  | [], _, _, _, _, _ => rfl
  | ⟨k, n, s, l⟩ :: r, a, b, seen, hab, h => by
    simp only [alts, Bool.and_eq_true] at h ⊢
    exact ⟨⟨⟨h.1.1.1, each_mono l (a + n) (b + n) (by omega) h.1.1.2⟩, h.1.2⟩, alts_mono r a b _ hab h.2⟩
end
end CoreMono
end Go.Proofs.YtlokmdjhpaimbaaDoor.Pure

-- Written for this claim.
namespace Go.Proofs.YtlokmdjhpaimbaaDoor.Pure
open Go Go.RowKit Go.Proofs.YtlokmdjhpaimbaaDoor.Q
open HCore CoreText
/-! Plain Lean: terms that may be have unlike texts if they are unlike (for CoreTexts). -/
namespace CoreInj
/-- Neither a blank nor the sign that closes. -/
def inner (c : UInt8) : Bool := !(c == 32) && !(c == 41)
theorem split_eq (p : UInt8 → Bool) : ∀ (w w' R R' : List UInt8), (∀ c ∈ w, p c = true) → (∀ c ∈ w', p c = true) → (∀ c, R.head? = some c → p c = false) → (∀ c, R'.head? = some c → p c = false) → w ++ R = w' ++ R' → w = w' ∧ R = R'
  | [], [], R, R', _, _, _, _, h => ⟨rfl, h⟩
  | [], c :: w', R, R', _, h2, h3, _, h => by
    have h1 := h3 c (by rw [List.nil_append] at h; rw [h]; rfl)
    rw [h2 c (List.mem_cons_self ..)] at h1; cases h1
  | c :: w, [], R, R', h1, _, _, h4, h => by
    have h2 := h4 c (by rw [List.nil_append] at h; rw [← h]; rfl)
    rw [h1 c (List.mem_cons_self ..)] at h2; cases h2
  | c :: w, d :: w', R, R', h1, h2, h3, h4, h => by
    simp only [List.cons_append, List.cons.injEq] at h
    obtain ⟨e1, e2⟩ := split_eq p w w' R R' (fun x hx => h1 x (List.mem_cons_of_mem _ hx)) (fun x hx => h2 x (List.mem_cons_of_mem _ hx)) h3 h4 h.2
    exact ⟨by rw [h.1, e1], e2⟩
theorem dig_val {k : Nat} (h : k < 10) : (UInt8.ofNat (48 + k)).toNat = 48 + k := by
  rw [UInt8.toNat_ofNat']; omega
theorem dec_digit (u : Nat) : ∀ c ∈ Lib.decDigits u, HLex.digit c = true := by
  induction u using Nat.strongRecOn with
  | _ u ih =>
    by_cases h : u < 10
    · rw [Lib.decDigits, dif_pos h]
      intro c hc
      rw [List.mem_singleton] at hc; subst hc
      simp only [HLex.digit, dig_val h, Bool.and_eq_true, decide_eq_true_eq]; omega
    · rw [Lib.decDigits, dif_neg h]
      intro c hc
      rcases List.mem_append.1 hc with hc | hc
      · exact ih (u / 10) (by omega) c hc
      · rw [List.mem_singleton] at hc; subst hc
        simp only [HLex.digit, dig_val (show u % 10 < 10 by omega), Bool.and_eq_true, decide_eq_true_eq]; omega
theorem dec_num (u : Nat) : HLex.num (Lib.decDigits u) = u := by
  induction u using Nat.strongRecOn with
  | _ u ih =>
    by_cases h : u < 10
    · rw [Lib.decDigits, dif_pos h]
      simp only [HLex.num, List.foldl_cons, List.foldl_nil, dig_val h]; omega
    · rw [Lib.decDigits, dif_neg h]
      have : HLex.num (Lib.decDigits (u / 10) ++ [UInt8.ofNat (48 + u % 10)]) = 10 * HLex.num (Lib.decDigits (u / 10)) + ((UInt8.ofNat (48 + u % 10)).toNat - 48) := by
        unfold HLex.num; rw [List.foldl_append]; rfl
      rw [this, ih (u / 10) (by omega), dig_val (show u % 10 < 10 by omega)]; omega
theorem dec_ne (u : Nat) : Lib.decDigits u ≠ [] := by
  intro h
  have h1 := Lib.decDigits_length u
  have h2 := Lib.nDigits_pos u
  rw [h] at h1; simp only [List.length_nil] at h1; omega
def numeral (c : UInt8) : Bool := HLex.digit c || c == 45
theorem itoa_all (n : Int) : ∀ c ∈ Lib.itoa n, numeral c = true := by
  intro c hc
  unfold Lib.itoa at hc
  split at hc
  · rcases List.mem_cons.1 hc with rfl | hc
    · rfl
    · simp only [numeral, dec_digit _ c hc, Bool.true_or]
  · simp only [numeral, dec_digit _ c hc, Bool.true_or]
theorem itoa_ne (n : Int) : Lib.itoa n ≠ [] := by
  unfold Lib.itoa
  split
  · simp
  · exact dec_ne _
theorem itoa_inj {n m : Int} (h : Lib.itoa n = Lib.itoa m) : n = m := by
  unfold Lib.itoa at h
  split at h <;> split at h
  · simp only [List.cons.injEq, true_and] at h
    have := congrArg HLex.num h
    rw [dec_num, dec_num] at this; omega
  · exfalso
    have := dec_digit m.toNat 45 (by rw [← h]; exact List.mem_cons_self ..)
    revert this; decide
  · exfalso
    have := dec_digit n.toNat 45 (by rw [h]; exact List.mem_cons_self ..)
    revert this; decide
  · have := congrArg HLex.num h
    rw [dec_num, dec_num] at this; omega
theorem tw_all (p : UInt8 → Bool) : ∀ (l : List UInt8), ∀ c ∈ l.takeWhile p, p c = true
  | [], c, h => by cases h
  | x :: l, c, h => by
    rw [List.takeWhile_cons] at h
    split at h
    · rcases List.mem_cons.1 h with rfl | h
      · assumption
      · exact tw_all p l c h
    · cases h
theorem ite_err {P : Prop} {d : Decidable P} {x : Nat} {y z : Nat × Nat} (h : (@ite (Except Nat (Nat × Nat)) P d (.error x) (.ok y)) = .ok z) : y = z := by
  cases d with
  | isTrue h1 => cases h
  | isFalse h1 => exact Except.ok.inj h
/-- A constructor's name. -/
theorem con_is {s : ByteArray} (h : con s = true) : ∃ c r, s.data.toList = c :: r ∧ HLex.upper c = true ∧ ∀ d ∈ s.data.toList, HLex.wordly d = true := by
  unfold con at h
  split at h
  · rename_i t ht
    simp only [Bool.and_eq_true, decide_eq_true_eq] at h
    rw [← h.2]
    unfold HLex.lex at ht
    rw [HLex.lexFrom] at ht
    (try simp only at ht)
    split at ht
    · cases ht
    split at ht
    · cases ht
    rename_i k tx n hf
    split at ht
    · simp only [Except.ok.injEq, List.cons.injEq] at ht
      rw [← ht.1] at h ⊢
      simp only at h ⊢
      have hk := h.1
      unfold HLex.first at hf
      simp only at hf
      split at hf
      · split at hf
        · simp only [Except.ok.injEq, Prod.mk.injEq] at hf; omega
        · cases hf
      · rename_i hw
        split at hf
        · rename_i k2 n2 hn
          simp only [Except.ok.injEq, Prod.mk.injEq] at hf
          obtain ⟨e1, e2, e3⟩ := hf
          rw [← e2]
          generalize hq : List.takeWhile HLex.wordly (List.dropWhile HLex.blank s.data.toList) = q at *
          have hall : ∀ d ∈ q, HLex.wordly d = true := by rw [← hq]; exact tw_all _ _
          cases q with
          | nil => exact absurd rfl hw
          | cons c r =>
            refine ⟨c, r, rfl, ?_, hall⟩
            unfold HLex.named at hn
            simp only [List.head?_cons, Option.map_some, Option.getD_some] at hn
            by_cases hd : HLex.digit c = true
            · simp only [hd, if_true] at hn
              by_cases h1 : ((c :: r).any fun c => decide (57 < c.toNat)) = true
              · rw [if_pos h1] at hn; cases hn
              rw [if_neg h1] at hn
              have hn := ite_err hn
              simp only [Prod.mk.injEq] at hn; omega
            simp only [Bool.not_eq_true] at hd
            simp only [hd, Bool.false_eq_true, if_false] at hn
            by_cases h1 : 16 < (c :: r).length
            · rw [if_pos h1] at hn; cases hn
            rw [if_neg h1] at hn
            by_cases h2 : HLex.isWord (c :: r) = true
            · rw [if_pos h2] at hn; simp only [Except.ok.injEq, Prod.mk.injEq] at hn; omega
            rw [if_neg h2] at hn
            by_cases hu : HLex.upper c = true
            · exact hu
            · simp only [Bool.not_eq_true] at hu; simp only [hu, Bool.false_eq_true, if_false] at hn; simp only [Except.ok.injEq, Prod.mk.injEq] at hn; omega
        · cases hf
    · cases ht
  · cases h
theorem up_low {c : UInt8} (h : HLex.upper c = true) : 65 ≤ c.toNat ∧ c.toNat ≤ 90 := by
  simpa [HLex.upper] using h
/-- How a term is made, its parts apart. -/
def Shape (k n : Int) (s : ByteArray) : Prop :=
  (k = 1 ∧ s.data.toList = []) ∨ (k = 7 ∧ s.data.toList = []) ∨ (k = 9 ∧ n = 0 ∧ s.data.toList = []) ∨ (k = 2 ∧ n = 0 ∧ s.data.toList = []) ∨ (k = 3 ∧ n = 0 ∧ s.data.toList = []) ∨ (k = 5 ∧ n = 0 ∧ s.data.toList = []) ∨ (k = 8 ∧ n = 0 ∧ oper s = true) ∨ (k = 4 ∧ n = 0 ∧ con s = true) ∨ (k = 6 ∧ con s = true)
def leaf (k : Int) : Bool := decide (k = 1) || decide (k = 7) || decide (k = 9)
mutual
def Fine : T → Prop
  | ⟨k, n, s, l⟩ => Shape k n s ∧ (leaf k = true → l = []) ∧ Fines l
def Fines : List T → Prop
  | [] => True
  | x :: r => Fine x ∧ Fines r
end
theorem len0 {l : List T} (h : l.length = 0) : l = [] := List.eq_nil_of_length_eq_zero h
theorem leaf_no {k : Int} {l : List T} (h : leaf k = false) : leaf k = true → l = [] := by intro h1; rw [h] at h1; cases h1
mutual
theorem fine_of : ∀ (x : T) (a : Int), may x a = true → Fine x
  | ⟨k, n, s, l⟩, a, h => by
    simp only [may, bare] at h
    simp only [Fine]
    split at h
    · rename_i hk
      simp only [Bool.and_eq_true, decide_eq_true_eq] at h
      have e := len0 h.1.1.1; subst e
      exact ⟨.inl ⟨hk, h.1.1.2⟩, fun _ => rfl, trivial⟩
    split at h
    · rename_i hk
      simp only [Bool.and_eq_true, decide_eq_true_eq] at h
      have e := len0 h.1.1; subst e
      exact ⟨.inr (.inl ⟨hk, h.1.2⟩), fun _ => rfl, trivial⟩
    split at h
    · rename_i hk
      simp only [Bool.and_eq_true, decide_eq_true_eq] at h
      have e := len0 h.1.1; subst e
      exact ⟨.inr (.inr (.inl ⟨hk, h.1.2.2, h.1.2.1⟩)), fun _ => rfl, trivial⟩
    split at h
    · rename_i hk
      simp only [Bool.and_eq_true, decide_eq_true_eq] at h
      exact ⟨.inr (.inr (.inr (.inl ⟨hk, h.1.1.2.2, h.1.1.2.1⟩))), leaf_no (by rw [hk]; rfl), fines_of l _ h.2⟩
    split at h
    · rename_i hk
      simp only [Bool.and_eq_true, decide_eq_true_eq] at h
      exact ⟨.inr (.inr (.inr (.inr (.inl ⟨hk, h.1.2.2, h.1.2.1⟩)))), leaf_no (by rw [hk]; rfl), fines_of l _ h.2⟩
    split at h
    · rename_i hk
      simp only [Bool.and_eq_true, decide_eq_true_eq] at h
      exact ⟨.inr (.inr (.inr (.inr (.inr (.inr (.inl ⟨hk, h.1.1.2, h.1.2⟩)))))), leaf_no (by rw [hk]; rfl), fines_of l _ h.2⟩
    split at h
    · rename_i hk
      simp only [Bool.and_eq_true, decide_eq_true_eq] at h
      exact ⟨.inr (.inr (.inr (.inr (.inr (.inr (.inr (.inl ⟨hk, h.1.1.1.2, h.1.1.2⟩))))))), leaf_no (by rw [hk]; rfl), fines_of l _ h.2⟩
    split at h
    · rename_i hk
      simp only [Bool.and_eq_true, decide_eq_true_eq] at h
      exact ⟨.inr (.inr (.inr (.inr (.inr (.inl ⟨hk, h.1.2.2, h.1.2.1⟩))))), leaf_no (by rw [hk]; rfl), fine_case l _ h.2⟩
    · cases h
theorem fines_of : ∀ (l : List T) (a : Int), each l a = true → Fines l
  | [], _, _ => trivial
  | x :: r, a, h => by
    simp only [each, Bool.and_eq_true] at h
    exact ⟨fine_of x a h.1, fines_of r a h.2⟩
theorem fine_case : ∀ (l : List T) (a : Int), mayCase l a = true → Fines l
  | [], _, h => by simp [mayCase] at h
  | x :: r, a, h => by
    simp only [mayCase, Bool.and_eq_true] at h
    exact ⟨fine_of x a h.1.1.1, fine_alts r a [] h.1.1.2⟩
theorem fine_alts : ∀ (l : List T) (a : Int) (seen : List T), alts l a seen = true → Fines l
  | [], _, _, _ => trivial
  | ⟨k, n, s, l⟩ :: r, a, seen, h => by
    simp only [alts, Bool.and_eq_true, decide_eq_true_eq] at h
    obtain ⟨⟨⟨⟨⟨⟨⟨h1, h2⟩, h3⟩, h4⟩, h5⟩, h6⟩, h7⟩, h8⟩ := h
    exact ⟨⟨.inr (.inr (.inr (.inr (.inr (.inr (.inr (.inr ⟨h1, h2⟩))))))), leaf_no (by rw [h1]; rfl), fines_of l _ h6⟩, fine_alts r a _ h8⟩
end
/-- What stands ahead of its parts. -/
def hd (k n : Int) (s : ByteArray) : List UInt8 := if k = 1 then 35 :: Lib.itoa n else if k = 7 then Lib.itoa n else if k = 9 then [33] else 40 :: word ⟨k, n, s, []⟩
/-- The kind that stands ahead. -/
def kindOf : List UInt8 → Int
  | 35 :: _ => 1
  | 33 :: _ => 9
  | 40 :: 92 :: _ => 2
  | 40 :: 64 :: _ => 3
  | 40 :: 63 :: _ => 5
  | 40 :: c :: r => if HLex.upper c then (if r.contains 58 then 6 else 4) else 8
  | _ => 7
theorem word_eq (k n : Int) (s : ByteArray) (l : List T) : word ⟨k, n, s, l⟩ = word ⟨k, n, s, []⟩ := rfl
theorem kind_up {c : UInt8} (r : List UInt8) (h : HLex.upper c = true) : kindOf (40 :: c :: r) = if r.contains 58 then 6 else 4 := by
  have h1 := up_low h
  have e1 : c ≠ 92 := by rintro rfl; revert h; decide
  have e2 : c ≠ 64 := by rintro rfl; revert h; decide
  have e3 : c ≠ 63 := by rintro rfl; revert h; decide
  unfold kindOf
  split
  · simp_all
  · simp_all
  · rename_i h9; simp only [List.cons.injEq] at h9; exact absurd h9.2.1 e1
  · rename_i h9; simp only [List.cons.injEq] at h9; exact absurd h9.2.1 e2
  · rename_i h9; simp only [List.cons.injEq] at h9; exact absurd h9.2.1 e3
  · rename_i h9; simp only [List.cons.injEq, true_and] at h9
    rw [← h9.1, ← h9.2, if_pos h]
  · rename_i h9; exact absurd rfl (h9 _ _)
theorem oper_is {s : ByteArray} (h : oper s = true) : s.data.toList = [43] ∨ s.data.toList = [45] ∨ s.data.toList = [42] ∨ s.data.toList = [47] ∨ s.data.toList = [60] ∨ s.data.toList = [61, 61] := by
  unfold oper at h
  rw [List.contains_iff_mem] at h
  simpa using h
theorem kind_hd {k n : Int} {s : ByteArray} (h : Shape k n s) : kindOf (hd k n s) = k := by
  rcases h with ⟨rfl, h⟩ | ⟨rfl, h⟩ | ⟨rfl, _, h⟩ | ⟨rfl, _, h⟩ | ⟨rfl, _, h⟩ | ⟨rfl, _, h⟩ | ⟨rfl, _, h⟩ | ⟨rfl, _, h⟩ | ⟨rfl, h⟩
  · rfl
  · show kindOf (Lib.itoa n) = 7
    have ha := itoa_all n
    generalize Lib.itoa n = q at ha
    unfold kindOf
    split
    · exact absurd (ha 35 (List.mem_cons_self ..)) (by decide)
    · exact absurd (ha 33 (List.mem_cons_self ..)) (by decide)
    · exact absurd (ha 40 (List.mem_cons_self ..)) (by decide)
    · exact absurd (ha 40 (List.mem_cons_self ..)) (by decide)
    · exact absurd (ha 40 (List.mem_cons_self ..)) (by decide)
    · exact absurd (ha 40 (List.mem_cons_self ..)) (by decide)
    · rfl
  · rfl
  · rfl
  · rfl
  · rfl
  · show kindOf (40 :: s.data.toList) = 8
    rcases oper_is h with h | h | h | h | h | h <;> rw [h] <;> rfl
  · show kindOf (40 :: s.data.toList) = 4
    obtain ⟨c, r, h1, h2, h3⟩ := con_is h
    rw [h1, kind_up r h2, if_neg]
    intro h4
    rw [List.contains_iff_mem] at h4
    have := h3 58 (by rw [h1]; exact List.mem_cons_of_mem _ h4)
    revert this; decide
  · show kindOf (40 :: (s.data.toList ++ 58 :: Lib.itoa n)) = 6
    obtain ⟨c, r, h1, h2, h3⟩ := con_is h
    rw [h1, List.cons_append, kind_up _ h2, if_pos]
    rw [List.contains_iff_mem]
    exact List.mem_append_right _ (List.mem_cons_self ..)
theorem empty_is {s : ByteArray} (h : s.data.toList = []) : s = ByteArray.empty := (HLexC.bytes_eq_iff _ _).2 (by rw [h]; rfl)
theorem hd_inj {k n k' n' : Int} {s s' : ByteArray} (h : Shape k n s) (h' : Shape k' n' s') (e : hd k n s = hd k' n' s') : k = k' ∧ n = n' ∧ s = s' := by
  have ek : k = k' := by rw [← kind_hd h, ← kind_hd h', e]
  subst ek
  refine ⟨rfl, ?_⟩
  rcases h with ⟨rfl, h⟩ | ⟨rfl, h⟩ | ⟨rfl, hn, h⟩ | ⟨rfl, hn, h⟩ | ⟨rfl, hn, h⟩ | ⟨rfl, hn, h⟩ | ⟨rfl, hn, h⟩ | ⟨rfl, hn, h⟩ | ⟨rfl, h⟩ <;>
    rcases h' with ⟨q, h'⟩ | ⟨q, h'⟩ | ⟨q, hn', h'⟩ | ⟨q, hn', h'⟩ | ⟨q, hn', h'⟩ | ⟨q, hn', h'⟩ | ⟨q, hn', h'⟩ | ⟨q, hn', h'⟩ | ⟨q, h'⟩ <;> first | (exfalso; revert q; decide) | skip
  · have e2 : 35 :: Lib.itoa n = 35 :: Lib.itoa n' := e
    simp only [List.cons.injEq, true_and] at e2
    exact ⟨itoa_inj e2, by rw [empty_is h, empty_is h']⟩
  · have e2 : Lib.itoa n = Lib.itoa n' := e
    exact ⟨itoa_inj e2, by rw [empty_is h, empty_is h']⟩
  · exact ⟨by rw [hn, hn'], by rw [empty_is h, empty_is h']⟩
  · exact ⟨by rw [hn, hn'], by rw [empty_is h, empty_is h']⟩
  · exact ⟨by rw [hn, hn'], by rw [empty_is h, empty_is h']⟩
  · exact ⟨by rw [hn, hn'], by rw [empty_is h, empty_is h']⟩
  · have e2 : 40 :: s.data.toList = 40 :: s'.data.toList := e
    simp only [List.cons.injEq, true_and] at e2
    exact ⟨by rw [hn, hn'], (HLexC.bytes_eq_iff _ _).2 e2⟩
  · have e2 : 40 :: s.data.toList = 40 :: s'.data.toList := e
    simp only [List.cons.injEq, true_and] at e2
    exact ⟨by rw [hn, hn'], (HLexC.bytes_eq_iff _ _).2 e2⟩
  · have e2 : 40 :: (s.data.toList ++ 58 :: Lib.itoa n) = 40 :: (s'.data.toList ++ 58 :: Lib.itoa n') := e
    simp only [List.cons.injEq, true_and] at e2
    obtain ⟨_, _, _, _, h3⟩ := con_is h
    obtain ⟨_, _, _, _, h3'⟩ := con_is h'
    obtain ⟨f1, f2⟩ := split_eq HLex.wordly _ _ _ _ h3 h3' (by intro c hc; cases hc; rfl) (by intro c hc; cases hc; rfl) e2
    simp only [List.cons.injEq, true_and] at f2
    exact ⟨itoa_inj f2, (HLexC.bytes_eq_iff _ _).2 f1⟩
theorem wordly_inner {c : UInt8} (h : HLex.wordly c = true) : inner c = true := by
  have e1 : c ≠ 32 := by rintro rfl; revert h; decide
  have e2 : c ≠ 41 := by rintro rfl; revert h; decide
  simp [inner, e1, e2]
theorem numeral_inner {c : UInt8} (h : numeral c = true) : inner c = true := by
  have e1 : c ≠ 32 := by rintro rfl; revert h; decide
  have e2 : c ≠ 41 := by rintro rfl; revert h; decide
  simp [inner, e1, e2]
theorem hd_inner {k n : Int} {s : ByteArray} (h : Shape k n s) : ∀ c ∈ hd k n s, inner c = true := by
  rcases h with ⟨rfl, h⟩ | ⟨rfl, h⟩ | ⟨rfl, hn, h⟩ | ⟨rfl, hn, h⟩ | ⟨rfl, hn, h⟩ | ⟨rfl, hn, h⟩ | ⟨rfl, hn, h⟩ | ⟨rfl, hn, h⟩ | ⟨rfl, h⟩
  · intro c hc
    rcases List.mem_cons.1 (show c ∈ 35 :: Lib.itoa n from hc) with rfl | hc
    · rfl
    · exact numeral_inner (itoa_all n c hc)
  · intro c hc; exact numeral_inner (itoa_all n c hc)
  · intro c hc; rcases List.mem_singleton.1 (show c ∈ [33] from hc) with rfl; rfl
  · intro c hc
    rcases List.mem_cons.1 (show c ∈ [40, 92] from hc) with rfl | hc
    · rfl
    · rcases List.mem_singleton.1 hc with rfl; rfl
  · intro c hc
    rcases List.mem_cons.1 (show c ∈ [40, 64] from hc) with rfl | hc
    · rfl
    · rcases List.mem_singleton.1 hc with rfl; rfl
  · intro c hc
    rcases List.mem_cons.1 (show c ∈ [40, 63] from hc) with rfl | hc
    · rfl
    · rcases List.mem_singleton.1 hc with rfl; rfl
  · intro c hc
    rcases List.mem_cons.1 (show c ∈ 40 :: s.data.toList from hc) with rfl | hc
    · rfl
    · rcases oper_is h with h | h | h | h | h | h <;> rw [h] at hc <;> simp only [List.mem_cons, List.mem_nil_iff, or_false, or_self] at hc <;> subst hc <;> rfl
  · intro c hc
    rcases List.mem_cons.1 (show c ∈ 40 :: s.data.toList from hc) with rfl | hc
    · rfl
    · obtain ⟨_, _, _, _, h3⟩ := con_is h
      exact wordly_inner (h3 c hc)
  · intro c hc
    rcases List.mem_cons.1 (show c ∈ 40 :: (s.data.toList ++ 58 :: Lib.itoa n) from hc) with rfl | hc
    · rfl
    · rcases List.mem_append.1 hc with hc | hc
      · obtain ⟨_, _, _, _, h3⟩ := con_is h
        exact wordly_inner (h3 c hc)
      · rcases List.mem_cons.1 hc with rfl | hc
        · rfl
        · exact numeral_inner (itoa_all n c hc)
def tl (k : Int) (l : List T) : List UInt8 := if leaf k = true then [] else texts l ++ [41]
theorem text_is (k n : Int) (s : ByteArray) (l : List T) : text ⟨k, n, s, l⟩ = hd k n s ++ tl k l := by
  simp only [text, hd, tl, leaf]
  by_cases h1 : k = 1
  · simp [h1]
  · by_cases h7 : k = 7
    · simp [h7]
    · by_cases h9 : k = 9
      · simp [h9]
      · simp [h1, h7, h9, word_eq k n s l]
theorem hd_delim (R : List UInt8) (l : List T) : ∀ c, (texts l ++ 41 :: R).head? = some c → inner c = false := by
  intro c hc
  cases l with
  | nil => simp only [texts, List.nil_append, List.head?_cons, Option.some.injEq] at hc; subst hc; rfl
  | cons x r => simp only [texts, List.cons_append, List.head?_cons, Option.some.injEq] at hc; subst hc; rfl
mutual
theorem text_inj : ∀ (x y : T) (R R' : List UInt8), Fine x → Fine y → (∀ c, R.head? = some c → inner c = false) → (∀ c, R'.head? = some c → inner c = false) → text x ++ R = text y ++ R' → x = y ∧ R = R'
  | ⟨k, n, s, l⟩, ⟨k', n', s', l'⟩, R, R', hx, hy, hR, hR', h => by
    rw [text_is, text_is, List.append_assoc, List.append_assoc] at h
    obtain ⟨sx, lx, fx⟩ := hx
    obtain ⟨sy, ly, fy⟩ := hy
    have dl : ∀ (k : Int) (l : List T) (R : List UInt8), (∀ c, R.head? = some c → inner c = false) → ∀ c, (tl k l ++ R).head? = some c → inner c = false := by
      intro k l R hR
      unfold tl
      split
      · exact hR
      · rw [List.append_assoc]; exact hd_delim R l
    obtain ⟨e1, e2⟩ := split_eq inner _ _ _ _ (hd_inner sx) (hd_inner sy) (dl k l R hR) (dl k' l' R' hR') h
    obtain ⟨rfl, rfl, rfl⟩ := hd_inj sx sy e1
    unfold tl at e2
    cases hl : leaf k with
    | true =>
      rw [hl, if_pos rfl, if_pos rfl] at e2
      rw [lx hl, ly hl]
      exact ⟨rfl, e2⟩
    | false =>
      rw [hl, if_neg (by simp), if_neg (by simp), List.append_assoc, List.append_assoc] at e2
      obtain ⟨e3, e4⟩ := texts_inj l l' R R' fx fy e2
      rw [e3]; exact ⟨rfl, e4⟩
theorem texts_inj : ∀ (l l' : List T) (R R' : List UInt8), Fines l → Fines l' → texts l ++ 41 :: R = texts l' ++ 41 :: R' → l = l' ∧ R = R'
  | [], [], R, R', _, _, h => by
    simp only [texts, List.nil_append, List.cons.injEq, true_and] at h
    exact ⟨rfl, h⟩
  | [], y :: l', R, R', _, _, h => by
    simp only [texts, List.nil_append, List.cons_append, List.cons.injEq] at h
    exact absurd h.1 (by decide)
  | x :: l, [], R, R', _, _, h => by
    simp only [texts, List.nil_append, List.cons_append, List.cons.injEq] at h
    exact absurd h.1 (by decide)
  | x :: l, y :: l', R, R', hx, hy, h => by
    simp only [texts, List.cons_append, List.append_assoc, List.cons.injEq, true_and] at h
    obtain ⟨e1, e2⟩ := text_inj x y _ _ hx.1 hy.1 (hd_delim R l) (hd_delim R' l') h
    obtain ⟨e3, e4⟩ := texts_inj l l' R R' hx.2 hy.2 e2
    rw [e1, e3]; exact ⟨rfl, e4⟩
end
theorem text_same (a b : T) (fa fb : Int) (ha : may a fa = true) (hb : may b fb = true) : decide (text a = text b) = same a b := by
  cases h : same a b with
  | true => rw [CoreTxl.same_eq h]; exact decide_eq_true rfl
  | false =>
    refine decide_eq_false fun e => ?_
    have := (text_inj a b [] [] (fine_of a fa ha) (fine_of b fb hb) (by simp) (by simp) (by rw [List.append_nil, List.append_nil]; exact e)).1
    rw [this, CoreTxl.same_refl] at h; cases h
theorem beq_decide (l l' : List UInt8) : (l == l') = decide (l = l') := by
  cases h : decide (l = l') with
  | true => exact beq_iff_eq.2 (of_decide_eq_true h)
  | false => exact beq_eq_false_iff_ne.2 (of_decide_eq_false h)
/-- What may be within a binder. -/
theorem lam_may (a : T) (free : Int) : may ⟨2, 0, ByteArray.empty, [a]⟩ free = (decide (0 ≤ free) && may a (free + 1)) := by
  simp [may, bare, each]
end CoreInj
end Go.Proofs.YtlokmdjhpaimbaaDoor.Pure

-- Written for this claim.
namespace Go.Proofs.YtlokmdjhpaimbaaDoor.Pure
open Go Go.RowKit Go.Lib Go.Proofs Go.Proofs.YtlokmdjhpaimbaaDoor.Q Go.Proofs.YtlokmdjhpaimbaaDoorW.PrintWords Go.Proofs.YtlokmdjhpaimbaaDoorW.PrintLast Go.Proofs.YtlokmdjhpaimbaaDoorW.PrintMore
open HCore
set_option linter.unusedVariables false
set_option linter.unusedSimpArgs false
theorem keepT12 {p0 : Addr} {p1 : Addr} {p2 : Addr} {p3 : Addr} {p4 : Addr} {p5 : Addr} {p6 : Addr} {p7 : Addr} {p8 : Addr} {p9 : Addr} {p10 : Addr} {p11 : Addr} {v0 : Value} {v1 : Value} {v2 : Value} {v3 : Value} {v4 : Value} {v5 : Value} {v6 : Value} {v7 : Value} {v8 : Value} {v9 : Value} {v10 : Value} {v11 : Value} {wq w1 w2 : World}
    (h : w1.cell? p0 = some v0 ∧ w1.cell? p1 = some v1 ∧ w1.cell? p2 = some v2 ∧ w1.cell? p3 = some v3 ∧ w1.cell? p4 = some v4 ∧ w1.cell? p5 = some v5 ∧ w1.cell? p6 = some v6 ∧ w1.cell? p7 = some v7 ∧ w1.cell? p8 = some v8 ∧ w1.cell? p9 = some v9 ∧ w1.cell? p10 = some v10 ∧ w1.cell? p11 = some v11 ∧ Below wq.heap.size wq w1) (hb : Below w1.heap.size w1 w2) :
    w2.cell? p0 = some v0 ∧ w2.cell? p1 = some v1 ∧ w2.cell? p2 = some v2 ∧ w2.cell? p3 = some v3 ∧ w2.cell? p4 = some v4 ∧ w2.cell? p5 = some v5 ∧ w2.cell? p6 = some v6 ∧ w2.cell? p7 = some v7 ∧ w2.cell? p8 = some v8 ∧ w2.cell? p9 = some v9 ∧ w2.cell? p10 = some v10 ∧ w2.cell? p11 = some v11 ∧ Below wq.heap.size wq w2 := by
  obtain ⟨h0, h1, h2, h3, h4, h5, h6, h7, h8, h9, h10, h11, h12⟩ := h
  exact ⟨(hb.cell (World.block_lt_of_cell? _ _ h0)).trans h0, (hb.cell (World.block_lt_of_cell? _ _ h1)).trans h1, (hb.cell (World.block_lt_of_cell? _ _ h2)).trans h2, (hb.cell (World.block_lt_of_cell? _ _ h3)).trans h3, (hb.cell (World.block_lt_of_cell? _ _ h4)).trans h4, (hb.cell (World.block_lt_of_cell? _ _ h5)).trans h5, (hb.cell (World.block_lt_of_cell? _ _ h6)).trans h6, (hb.cell (World.block_lt_of_cell? _ _ h7)).trans h7, (hb.cell (World.block_lt_of_cell? _ _ h8)).trans h8, (hb.cell (World.block_lt_of_cell? _ _ h9)).trans h9, (hb.cell (World.block_lt_of_cell? _ _ h10)).trans h10, (hb.cell (World.block_lt_of_cell? _ _ h11)).trans h11, below_step h12 hb⟩
def lamT (a : T) : T := ⟨2, 0, ⟨#[]⟩, [a]⟩
set_option maxRecDepth 100000 in
set_option maxHeartbeats 16000000 in
theorem CoreTexts_walk {w : World} (a : T) (Aa : Option Addr) (ca : Nat) (hCa : Kd.C k24 w Aa a.f3.length a.f3) (hla : a.f3.length ≤ ca) (oka : Ok a) (hwa : wt a ≤ 1048576) (b : T) (Ab : Option Addr) (cb : Nat) (hCb : Kd.C k24 w Ab b.f3.length b.f3) (hlb : b.f3.length ≤ cb) (okb : Ok b) (hwb : wt b ≤ 1048576)
    (free : Int) (wf : (Lit.int .i64 free).wf = true) (htab : Lib.TabIs Tryd.prog w "internal/strconv.uint64pow10" .u64 Lib.pow10Tab) :
    Calls Tryd.prog 3 #[.agg #[.int .i64 a.f0, .int .i64 a.f1, .string a.f2, .slice Aa a.f3.length ca], .agg #[.int .i64 b.f0, .int .i64 b.f1, .string b.f2, .slice Ab b.f3.length cb], .int .i64 free] w fun e w' => e = .returned (.bool true) ∧ Below w.heap.size w w' := by
  have HT := Lib.hid (tabBelow_of_tabIs htab)
  clear htab
  have sza : size a ≤ 1000000000 := by have := CoreEv.size_wt a; omega
  have hga : (height a : Int) ≤ 1048576 := by have := CoreEv.height_size a; have := CoreEv.size_wt a; omega
  obtain ⟨ka, ba, hsa⟩ := CoreEv.small_some a sza 500 (by omega) (by omega)
  have Sa := Lib.hid hsa
  clear hsa
  have szb : size b ≤ 1000000000 := by have := CoreEv.size_wt b; omega
  have hgb : (height b : Int) ≤ 1048576 := by have := CoreEv.height_size b; have := CoreEv.size_wt b; omega
  obtain ⟨kb, bb, hsb⟩ := CoreEv.small_some b szb 500 (by omega) (by omega)
  have Sb := Lib.hid hsb
  clear hsb
  have hba := below_alloc (below_alloc (Below.refl w.heap.size w) (Obj.cells #[.int .i64 a.f0, .int .i64 a.f1, .string a.f2, .slice Aa a.f3.length ca] 24)) (Obj.cells #[.int .i64 b.f0, .int .i64 b.f1, .string b.f2, .slice Ab b.f3.length cb] 24)
  have h1 := blk_alloc (blk_new w (Obj.cells #[.int .i64 a.f0, .int .i64 a.f1, .string a.f2, .slice Aa a.f3.length ca] 24)) (Obj.cells #[.int .i64 b.f0, .int .i64 b.f1, .string b.f2, .slice Ab b.f3.length cb] 24)
  have h2 := blk_new (w.alloc (Obj.cells #[.int .i64 a.f0, .int .i64 a.f1, .string a.f2, .slice Aa a.f3.length ca] 24)) (Obj.cells #[.int .i64 b.f0, .int .i64 b.f1, .string b.f2, .slice Ab b.f3.length cb] 24)
  rw [World.size_alloc] at h2
  go_enter Tryd.func3, Tryd.ntmps3
  go_upto_region 1 with (fail)
  generalize hwq : (w.alloc (Obj.cells #[.int .i64 a.f0, .int .i64 a.f1, .string a.f2, .slice Aa a.f3.length ca] 24)).alloc (Obj.cells #[.int .i64 b.f0, .int .i64 b.f1, .string b.f2, .slice Ab b.f3.length cb] 24) = wq at hba h1 h2 ⊢
  clear hwq
  have HB := Lib.hid hba; have Ba := Lib.hid h1; have Bb := Lib.hid h2
  have Ca := Lib.hid (Kd.C_below hCa hba)
  have Cb := Lib.hid (Kd.C_below hCb hba)
  clear hba h1 h2 hCa hCb
  have a0 := blk_cell Ba.out 0
  have a1 := blk_cell Ba.out 1
  have a2 := blk_cell Ba.out 2
  have a3 := blk_cell Ba.out 3
  have b0 := blk_cell Bb.out 0
  have b1 := blk_cell Bb.out 1
  have b2 := blk_cell Bb.out 2
  have b3 := blk_cell Bb.out 3
  simp only [List.getElem?_toArray, List.getElem?_cons_zero, List.getElem?_cons_succ] at a0 a1 a2 a3 b0 b1 b2 b3
  go_wp2_with fail
  refine (CoreFix.fixed_any _ (HT.out.on HB.out).here).mono ?_
  rintro e w5 ⟨rfl, hb⟩
  have n0_ := Lib.hid (below_step HB.out hb)
  have nCa := Lib.hid (Kd.C_below Ca.out hb); have nBa := Lib.hid (blk_below Ba.out hb)
  have nCb := Lib.hid (Kd.C_below Cb.out hb); have nBb := Lib.hid (blk_below Bb.out hb)
  clear HB Ca Ba Cb Bb hb a0 a1 a2 a3 b0 b1 b2 b3
  have HB := n0_
  have Ca := nCa; have Ba := nBa
  have Cb := nCb; have Bb := nBb
  clear n0_ nCa nBa nCb nBb
  have a0 := blk_cell Ba.out 0
  have a1 := blk_cell Ba.out 1
  have a2 := blk_cell Ba.out 2
  have a3 := blk_cell Ba.out 3
  have b0 := blk_cell Bb.out 0
  have b1 := blk_cell Bb.out 1
  have b2 := blk_cell Bb.out 2
  have b3 := blk_cell Bb.out 3
  simp only [List.getElem?_toArray, List.getElem?_cons_zero, List.getElem?_cons_succ] at a0 a1 a2 a3 b0 b1 b2 b3
  go_wp2_with fail
  refine (gossamerref06_Small.calls ka a.f0 a.f1 a.f2 Aa ca a.f3 500 ba _ Ca.out hla Sa.out).mono ?_
  rintro e w5 ⟨rfl, hb⟩
  have n0_ := Lib.hid (below_step HB.out hb)
  have nCa := Lib.hid (Kd.C_below Ca.out hb); have nBa := Lib.hid (blk_below Ba.out hb)
  have nCb := Lib.hid (Kd.C_below Cb.out hb); have nBb := Lib.hid (blk_below Bb.out hb)
  clear HB Ca Ba Cb Bb hb a0 a1 a2 a3 b0 b1 b2 b3
  have HB := n0_
  have Ca := nCa; have Ba := nBa
  have Cb := nCb; have Bb := nBb
  clear n0_ nCa nBa nCb nBb
  have a0 := blk_cell Ba.out 0
  have a1 := blk_cell Ba.out 1
  have a2 := blk_cell Ba.out 2
  have a3 := blk_cell Ba.out 3
  have b0 := blk_cell Bb.out 0
  have b1 := blk_cell Bb.out 1
  have b2 := blk_cell Bb.out 2
  have b3 := blk_cell Bb.out 3
  simp only [List.getElem?_toArray, List.getElem?_cons_zero, List.getElem?_cons_succ] at a0 a1 a2 a3 b0 b1 b2 b3
  cases ba with
  | false =>
    go_wp2_with fail
    refine (CoreFix.fixed_any _ (HT.out.on HB.out).here).mono ?_
    rintro e w5 ⟨rfl, hb⟩
    have n0_ := Lib.hid (below_step HB.out hb)
    have nCa := Lib.hid (Kd.C_below Ca.out hb); have nBa := Lib.hid (blk_below Ba.out hb)
    have nCb := Lib.hid (Kd.C_below Cb.out hb); have nBb := Lib.hid (blk_below Bb.out hb)
    clear HB Ca Ba Cb Bb hb a0 a1 a2 a3 b0 b1 b2 b3
    have HB := n0_
    have Ca := nCa; have Ba := nBa
    have Cb := nCb; have Bb := nBb
    clear n0_ nCa nBa nCb nBb
    have a0 := blk_cell Ba.out 0
    have a1 := blk_cell Ba.out 1
    have a2 := blk_cell Ba.out 2
    have a3 := blk_cell Ba.out 3
    have b0 := blk_cell Bb.out 0
    have b1 := blk_cell Bb.out 1
    have b2 := blk_cell Bb.out 2
    have b3 := blk_cell Bb.out 3
    simp only [List.getElem?_toArray, List.getElem?_cons_zero, List.getElem?_cons_succ] at a0 a1 a2 a3 b0 b1 b2 b3
    go_wp2_with fail
    go_ret
    exact ⟨rfl, HB.out⟩
  | true =>
    go_wp2_with fail
    refine (gossamerref06_Small.calls kb b.f0 b.f1 b.f2 Ab cb b.f3 500 bb _ Cb.out hlb Sb.out).mono ?_
    rintro e w5 ⟨rfl, hb⟩
    have n0_ := Lib.hid (below_step HB.out hb)
    have nCa := Lib.hid (Kd.C_below Ca.out hb); have nBa := Lib.hid (blk_below Ba.out hb)
    have nCb := Lib.hid (Kd.C_below Cb.out hb); have nBb := Lib.hid (blk_below Bb.out hb)
    clear HB Ca Ba Cb Bb hb a0 a1 a2 a3 b0 b1 b2 b3
    have HB := n0_
    have Ca := nCa; have Ba := nBa
    have Cb := nCb; have Bb := nBb
    clear n0_ nCa nBa nCb nBb
    have a0 := blk_cell Ba.out 0
    have a1 := blk_cell Ba.out 1
    have a2 := blk_cell Ba.out 2
    have a3 := blk_cell Ba.out 3
    have b0 := blk_cell Bb.out 0
    have b1 := blk_cell Bb.out 1
    have b2 := blk_cell Bb.out 2
    have b3 := blk_cell Bb.out 3
    simp only [List.getElem?_toArray, List.getElem?_cons_zero, List.getElem?_cons_succ] at a0 a1 a2 a3 b0 b1 b2 b3
    cases bb with
    | false =>
      go_wp2_with fail
      refine (CoreFix.fixed_any _ (HT.out.on HB.out).here).mono ?_
      rintro e w5 ⟨rfl, hb⟩
      have n0_ := Lib.hid (below_step HB.out hb)
      have nCa := Lib.hid (Kd.C_below Ca.out hb); have nBa := Lib.hid (blk_below Ba.out hb)
      have nCb := Lib.hid (Kd.C_below Cb.out hb); have nBb := Lib.hid (blk_below Bb.out hb)
      clear HB Ca Ba Cb Bb hb a0 a1 a2 a3 b0 b1 b2 b3
      have HB := n0_
      have Ca := nCa; have Ba := nBa
      have Cb := nCb; have Bb := nBb
      clear n0_ nCa nBa nCb nBb
      have a0 := blk_cell Ba.out 0
      have a1 := blk_cell Ba.out 1
      have a2 := blk_cell Ba.out 2
      have a3 := blk_cell Ba.out 3
      have b0 := blk_cell Bb.out 0
      have b1 := blk_cell Bb.out 1
      have b2 := blk_cell Bb.out 2
      have b3 := blk_cell Bb.out 3
      simp only [List.getElem?_toArray, List.getElem?_cons_zero, List.getElem?_cons_succ] at a0 a1 a2 a3 b0 b1 b2 b3
      go_wp2_with fail
      go_ret
      exact ⟨rfl, HB.out⟩
    | true =>
      rcases Classical.em (free < 0) with q | q
      · have d1 := decide_eq_true q
        have Qd1 := Lib.hid q
        clear q
        go_wp2_with fail
        refine (CoreFix.fixed_any _ (HT.out.on HB.out).here).mono ?_
        rintro e w5 ⟨rfl, hb⟩
        have n0_ := Lib.hid (below_step HB.out hb)
        have nCa := Lib.hid (Kd.C_below Ca.out hb); have nBa := Lib.hid (blk_below Ba.out hb)
        have nCb := Lib.hid (Kd.C_below Cb.out hb); have nBb := Lib.hid (blk_below Bb.out hb)
        clear HB Ca Ba Cb Bb hb a0 a1 a2 a3 b0 b1 b2 b3
        have HB := n0_
        have Ca := nCa; have Ba := nBa
        have Cb := nCb; have Bb := nBb
        clear n0_ nCa nBa nCb nBb
        have a0 := blk_cell Ba.out 0
        have a1 := blk_cell Ba.out 1
        have a2 := blk_cell Ba.out 2
        have a3 := blk_cell Ba.out 3
        have b0 := blk_cell Bb.out 0
        have b1 := blk_cell Bb.out 1
        have b2 := blk_cell Bb.out 2
        have b3 := blk_cell Bb.out 3
        simp only [List.getElem?_toArray, List.getElem?_cons_zero, List.getElem?_cons_succ] at a0 a1 a2 a3 b0 b1 b2 b3
        go_wp2_with fail
        go_ret
        exact ⟨rfl, HB.out⟩
      · have d1 := decide_eq_false q
        have Qd1 := Lib.hid q
        clear q
        rcases Classical.em (free > 1000000) with q | q
        · have d2 := decide_eq_true q
          have Qd2 := Lib.hid q
          clear q
          go_wp2_with fail
          refine (CoreFix.fixed_any _ (HT.out.on HB.out).here).mono ?_
          rintro e w5 ⟨rfl, hb⟩
          have n0_ := Lib.hid (below_step HB.out hb)
          have nCa := Lib.hid (Kd.C_below Ca.out hb); have nBa := Lib.hid (blk_below Ba.out hb)
          have nCb := Lib.hid (Kd.C_below Cb.out hb); have nBb := Lib.hid (blk_below Bb.out hb)
          clear HB Ca Ba Cb Bb hb a0 a1 a2 a3 b0 b1 b2 b3
          have HB := n0_
          have Ca := nCa; have Ba := nBa
          have Cb := nCb; have Bb := nBb
          clear n0_ nCa nBa nCb nBb
          have a0 := blk_cell Ba.out 0
          have a1 := blk_cell Ba.out 1
          have a2 := blk_cell Ba.out 2
          have a3 := blk_cell Ba.out 3
          have b0 := blk_cell Bb.out 0
          have b1 := blk_cell Bb.out 1
          have b2 := blk_cell Bb.out 2
          have b3 := blk_cell Bb.out 3
          simp only [List.getElem?_toArray, List.getElem?_cons_zero, List.getElem?_cons_succ] at a0 a1 a2 a3 b0 b1 b2 b3
          go_wp2_with fail
          go_ret
          exact ⟨rfl, HB.out⟩
        · have d2 := decide_eq_false q
          have Qd2 := Lib.hid q
          clear q
          obtain ⟨ma, VA⟩ : ∃ q, Hid (may a free = q) := ⟨_, Lib.hid rfl⟩
          obtain ⟨mb, VB⟩ : ∃ q, Hid (may b free = q) := ⟨_, Lib.hid rfl⟩
          go_wp2_with fail
          refine ((CoreMay.may_any _ a (Nat.le_refl _) (by omega) (free) (by have := Qd1.out; omega) (by have := Qd2.out; omega) _ _ _ Ca.out hla).mono fun e w' h => (⟨h.1.trans (by rw [VA.out]), h.2⟩ : e = .returned (.bool ma) ∧ _)).mono ?_
          rintro e w5 ⟨rfl, hb⟩
          have n0_ := Lib.hid (below_step HB.out hb)
          have nCa := Lib.hid (Kd.C_below Ca.out hb); have nBa := Lib.hid (blk_below Ba.out hb)
          have nCb := Lib.hid (Kd.C_below Cb.out hb); have nBb := Lib.hid (blk_below Bb.out hb)
          clear HB Ca Ba Cb Bb hb a0 a1 a2 a3 b0 b1 b2 b3
          have HB := n0_
          have Ca := nCa; have Ba := nBa
          have Cb := nCb; have Bb := nBb
          clear n0_ nCa nBa nCb nBb
          have a0 := blk_cell Ba.out 0
          have a1 := blk_cell Ba.out 1
          have a2 := blk_cell Ba.out 2
          have a3 := blk_cell Ba.out 3
          have b0 := blk_cell Bb.out 0
          have b1 := blk_cell Bb.out 1
          have b2 := blk_cell Bb.out 2
          have b3 := blk_cell Bb.out 3
          simp only [List.getElem?_toArray, List.getElem?_cons_zero, List.getElem?_cons_succ] at a0 a1 a2 a3 b0 b1 b2 b3
          cases ma with
          | false =>
            go_wp2_with fail
            refine (CoreFix.fixed_any _ (HT.out.on HB.out).here).mono ?_
            rintro e w5 ⟨rfl, hb⟩
            have n0_ := Lib.hid (below_step HB.out hb)
            have nCa := Lib.hid (Kd.C_below Ca.out hb); have nBa := Lib.hid (blk_below Ba.out hb)
            have nCb := Lib.hid (Kd.C_below Cb.out hb); have nBb := Lib.hid (blk_below Bb.out hb)
            clear HB Ca Ba Cb Bb hb a0 a1 a2 a3 b0 b1 b2 b3
            have HB := n0_
            have Ca := nCa; have Ba := nBa
            have Cb := nCb; have Bb := nBb
            clear n0_ nCa nBa nCb nBb
            have a0 := blk_cell Ba.out 0
            have a1 := blk_cell Ba.out 1
            have a2 := blk_cell Ba.out 2
            have a3 := blk_cell Ba.out 3
            have b0 := blk_cell Bb.out 0
            have b1 := blk_cell Bb.out 1
            have b2 := blk_cell Bb.out 2
            have b3 := blk_cell Bb.out 3
            simp only [List.getElem?_toArray, List.getElem?_cons_zero, List.getElem?_cons_succ] at a0 a1 a2 a3 b0 b1 b2 b3
            go_wp2_with fail
            go_ret
            exact ⟨rfl, HB.out⟩
          | true =>
            go_wp2_with fail
            refine ((CoreMay.may_any _ b (Nat.le_refl _) (by omega) (free) (by have := Qd1.out; omega) (by have := Qd2.out; omega) _ _ _ Cb.out hlb).mono fun e w' h => (⟨h.1.trans (by rw [VB.out]), h.2⟩ : e = .returned (.bool mb) ∧ _)).mono ?_
            rintro e w5 ⟨rfl, hb⟩
            have n0_ := Lib.hid (below_step HB.out hb)
            have nCa := Lib.hid (Kd.C_below Ca.out hb); have nBa := Lib.hid (blk_below Ba.out hb)
            have nCb := Lib.hid (Kd.C_below Cb.out hb); have nBb := Lib.hid (blk_below Bb.out hb)
            clear HB Ca Ba Cb Bb hb a0 a1 a2 a3 b0 b1 b2 b3
            have HB := n0_
            have Ca := nCa; have Ba := nBa
            have Cb := nCb; have Bb := nBb
            clear n0_ nCa nBa nCb nBb
            have a0 := blk_cell Ba.out 0
            have a1 := blk_cell Ba.out 1
            have a2 := blk_cell Ba.out 2
            have a3 := blk_cell Ba.out 3
            have b0 := blk_cell Bb.out 0
            have b1 := blk_cell Bb.out 1
            have b2 := blk_cell Bb.out 2
            have b3 := blk_cell Bb.out 3
            simp only [List.getElem?_toArray, List.getElem?_cons_zero, List.getElem?_cons_succ] at a0 a1 a2 a3 b0 b1 b2 b3
            cases mb with
            | false =>
              go_wp2_with fail
              refine (CoreFix.fixed_any _ (HT.out.on HB.out).here).mono ?_
              rintro e w5 ⟨rfl, hb⟩
              have n0_ := Lib.hid (below_step HB.out hb)
              have nCa := Lib.hid (Kd.C_below Ca.out hb); have nBa := Lib.hid (blk_below Ba.out hb)
              have nCb := Lib.hid (Kd.C_below Cb.out hb); have nBb := Lib.hid (blk_below Bb.out hb)
              clear HB Ca Ba Cb Bb hb a0 a1 a2 a3 b0 b1 b2 b3
              have HB := n0_
              have Ca := nCa; have Ba := nBa
              have Cb := nCb; have Bb := nBb
              clear n0_ nCa nBa nCb nBb
              have a0 := blk_cell Ba.out 0
              have a1 := blk_cell Ba.out 1
              have a2 := blk_cell Ba.out 2
              have a3 := blk_cell Ba.out 3
              have b0 := blk_cell Bb.out 0
              have b1 := blk_cell Bb.out 1
              have b2 := blk_cell Bb.out 2
              have b3 := blk_cell Bb.out 3
              simp only [List.getElem?_toArray, List.getElem?_cons_zero, List.getElem?_cons_succ] at a0 a1 a2 a3 b0 b1 b2 b3
              go_wp2_with fail
              go_ret
              exact ⟨rfl, HB.out⟩
            | true =>
              obtain ⟨sab, Vab⟩ : ∃ q, Hid (same a b = q) := ⟨_, Lib.hid rfl⟩
              obtain ⟨sa, Sat⟩ : ∃ q, Hid (ByteArray.mk (CoreText.text a).toArray = q) := ⟨_, Lib.hid rfl⟩
              obtain ⟨sb, Sbt⟩ : ∃ q, Hid (ByteArray.mk (CoreText.text b).toArray = q) := ⟨_, Lib.hid rfl⟩
              have HMA : Hid (may a (free + 1) = true) := Lib.hid (CoreMono.may_mono a free (free + 1) (by omega) VA.out)
              have HML : Hid (may (lamT a) free = true) := Lib.hid (by rw [show lamT a = ⟨2, 0, ByteArray.empty, [a]⟩ from rfl, CoreInj.lam_may, HMA.out, decide_eq_true (by have := Qd1.out; omega)]; rfl)
              have hwl : wt (lamT a) = wt a + 1 := by show (0 + 1 + (wt a + 0)) = _; omega
              have hhl : height (lamT a) = height a + 1 := by show (max (height a) 0 + 1) = _; omega
              have hwf : IntKind.i64.wrap (free + 1) = free + 1 := CoreMay.wrap_i64_small (by have := Qd1.out; omega) (by have := Qd2.out; omega)
              have hwn : IntKind.i64.wrap (free - 1) = free - 1 := CoreMay.wrap_i64_small (by have := Qd1.out; omega) (by have := Qd2.out; omega)
              go_upto_region 4 with (fail)
              cases sab with
              | false =>
                have bt : (sa.toList == sb.toList) = false := by rw [← Vab.out, ← CoreInj.text_same a b free free VA.out VB.out, ← Sat.out, ← Sbt.out, Lib.toList_data, Lib.toList_data]; exact CoreInj.beq_decide _ _
                have cu := CoreFix.C1 (k24_mk w5 a (A3 := Aa) (c3 := ca) hla Ca.out)
                change Kd.C k24 (w5.alloc (Obj.cells #[.int .i64 a.f0, .int .i64 a.f1, .string a.f2, .slice Aa a.f3.length ca] 24)) _ 1 (lamT a).f3 at cu
                have hr := below_alloc (Below.refl w5.heap.size w5) (Obj.cells #[.int .i64 a.f0, .int .i64 a.f1, .string a.f2, .slice Aa a.f3.length ca] 24)
                have sr := World.size_alloc w5 (Obj.cells #[.int .i64 a.f0, .int .i64 a.f1, .string a.f2, .slice Aa a.f3.length ca] 24)
                generalize w5.alloc (Obj.cells #[.int .i64 a.f0, .int .i64 a.f1, .string a.f2, .slice Aa a.f3.length ca] 24) = wr at cu hr sr ⊢
                have bl := blk_new wr (Obj.cells #[.int .i64 2, .int .i64 0, .string ⟨#[]⟩, .slice (some ⟨w5.heap.size, 0, none⟩) 1 1] 24)
                have hl := below_alloc (Below.refl wr.heap.size wr) (Obj.cells #[.int .i64 2, .int .i64 0, .string ⟨#[]⟩, .slice (some ⟨w5.heap.size, 0, none⟩) 1 1] 24)
                rw [sr] at bl
                generalize wr.alloc (Obj.cells #[.int .i64 2, .int .i64 0, .string ⟨#[]⟩, .slice (some ⟨w5.heap.size, 0, none⟩) 1 1] 24) = wz at bl hl ⊢
                have Cl := Lib.hid (Kd.C_below cu hl)
                have hb := below_step hr hl
                have Bl := Lib.hid bl
                clear hr hl bl cu sr
                have n0_ := Lib.hid (below_step HB.out hb)
                have nCa := Lib.hid (Kd.C_below Ca.out hb); have nBa := Lib.hid (blk_below Ba.out hb)
                have nCb := Lib.hid (Kd.C_below Cb.out hb); have nBb := Lib.hid (blk_below Bb.out hb)
                clear HB Ca Ba Cb Bb hb a0 a1 a2 a3 b0 b1 b2 b3
                have HB := n0_
                have Ca := nCa; have Ba := nBa
                have Cb := nCb; have Bb := nBb
                clear n0_ nCa nBa nCb nBb
                have a0 := blk_cell Ba.out 0
                have a1 := blk_cell Ba.out 1
                have a2 := blk_cell Ba.out 2
                have a3 := blk_cell Ba.out 3
                have b0 := blk_cell Bb.out 0
                have b1 := blk_cell Bb.out 1
                have b2 := blk_cell Bb.out 2
                have b3 := blk_cell Bb.out 3
                simp only [List.getElem?_toArray, List.getElem?_cons_zero, List.getElem?_cons_succ] at a0 a1 a2 a3 b0 b1 b2 b3
                have l0 := blk_cell Bl.out 0; have l1 := blk_cell Bl.out 1; have l2 := blk_cell Bl.out 2; have l3 := blk_cell Bl.out 3
                simp only [List.getElem?_toArray, List.getElem?_cons_zero, List.getElem?_cons_succ] at l0 l1 l2 l3
                rcases Classical.em (free = 0) with q | q
                · have bz : (free == 0) = true := beq_iff_eq.2 q
                  clear q
                  refine wp_region_held_drew (S := (fun w' => w'.cell? ⟨w.heap.size, 0, none⟩ = some (.int .i64 a.f0) ∧ w'.cell? ⟨w.heap.size, 1, none⟩ = some (.int .i64 a.f1) ∧ w'.cell? ⟨w.heap.size, 2, none⟩ = some (.string a.f2) ∧ w'.cell? ⟨w.heap.size, 3, none⟩ = some (.slice Aa a.f3.length ca) ∧ w'.cell? ⟨w.heap.size + 1, 0, none⟩ = some (.int .i64 b.f0) ∧ w'.cell? ⟨w.heap.size + 1, 1, none⟩ = some (.int .i64 b.f1) ∧ w'.cell? ⟨w.heap.size + 1, 2, none⟩ = some (.string b.f2) ∧ w'.cell? ⟨w.heap.size + 1, 3, none⟩ = some (.slice Ab b.f3.length cb) ∧ w'.cell? ⟨w5.heap.size + 1, 0, none⟩ = some (.int .i64 2) ∧ w'.cell? ⟨w5.heap.size + 1, 1, none⟩ = some (.int .i64 0) ∧ w'.cell? ⟨w5.heap.size + 1, 2, none⟩ = some (.string ⟨#[]⟩) ∧ w'.cell? ⟨w5.heap.size + 1, 3, none⟩ = some (.slice (some ⟨w5.heap.size, 0, none⟩) 1 1) ∧ Below wz.heap.size wz w')) (by kernel_rfl) (by (try dsimp only); exact keepT12 ⟨a0, a1, a2, a3, b0, b1, b2, b3, l0, l1, l2, l3, Below.refl _ _⟩ (below_drew1 (Below.refl _ _))) (fun hHeld => ?_)
                  refine wpAnyH_take (i := 0) (v := ?_) rfl (by kernel_rfl) (by kernel_rfl) (by kernel_rfl) (fun _ _ _ h => h) (Or.inl ⟨by rfl, ?_⟩) (by assumption) ?_
                  rotate_left 1
                  · (intro w hSw; (try dsimp only at hSw); (try simp only [List.getElem_toArray, List.getElem_cons_succ, List.getElem_cons_zero]); go_simp; (try with_reducible rfl))
                  (try simp only [Act.put, List.getElem_toArray, List.getElem_cons_succ, List.getElem_cons_zero, List.setIfInBounds_toArray, List.set_cons_zero, List.set_cons_succ])
                  refine wpAnyH_take (i := 2) (v := ?_) rfl (by kernel_rfl) (by kernel_rfl) (by kernel_rfl) (fun _ _ _ h => h) (Or.inl ⟨by rfl, ?_⟩) (by assumption) ?_
                  rotate_left 1
                  · (intro w hSw; (try dsimp only at hSw); (try simp only [List.getElem_toArray, List.getElem_cons_succ, List.getElem_cons_zero]); go_simp; (try with_reducible rfl))
                  (try simp only [Act.put, List.getElem_toArray, List.getElem_cons_succ, List.getElem_cons_zero, List.setIfInBounds_toArray, List.set_cons_zero, List.set_cons_succ])
                  refine wpAnyH_take (i := 5) (v := ?_) rfl (by kernel_rfl) (by kernel_rfl) (by kernel_rfl) (fun _ _ _ h => h) (Or.inl ⟨by rfl, ?_⟩) (by assumption) ?_
                  rotate_left 1
                  · (intro w hSw; (try dsimp only at hSw); (try simp only [List.getElem_toArray, List.getElem_cons_succ, List.getElem_cons_zero]); go_simp; (try with_reducible rfl))
                  (try simp only [Act.put, List.getElem_toArray, List.getElem_cons_succ, List.getElem_cons_zero, List.setIfInBounds_toArray, List.set_cons_zero, List.set_cons_succ])
                  refine wpAnyH_take (i := 6) (v := ?_) rfl (by kernel_rfl) (by kernel_rfl) (by kernel_rfl) (fun _ _ _ h => h) (Or.inl ⟨by rfl, ?_⟩) (by assumption) ?_
                  rotate_left 1
                  · (intro w hSw; (try dsimp only at hSw); (try simp only [List.getElem_toArray, List.getElem_cons_succ, List.getElem_cons_zero]); go_simp; (try with_reducible rfl))
                  (try simp only [Act.put, List.getElem_toArray, List.getElem_cons_succ, List.getElem_cons_zero, List.setIfInBounds_toArray, List.set_cons_zero, List.set_cons_succ])
                  refine wpAnyH_ready (rs := [1]) (by kernel_rfl) (by simp) ?_
                  refine AllReadyH.cons rfl (fun K hK => ?_) AllReadyH.nil
                  (try simp only [List.getElem_toArray, List.getElem_cons_succ, List.getElem_cons_zero])
                  go_simp
                  refine ((CoreText.text_any a (by omega) oka (by have := CoreTxl.text_len a oka; omega) _ _ _ (Kd.C_below Ca.out hHeld.2.2.2.2.2.2.2.2.2.2.2.2) hla (HT.out.on (below_step HB.out hHeld.2.2.2.2.2.2.2.2.2.2.2.2)).here).mono fun e w' h => (⟨h.1.trans (by rw [Sat.out]), h.2⟩ : e = .returned (.string sa) ∧ _)).mono ?_
                  rintro e w9 ⟨rfl, hb⟩
                  simp only []
                  refine hK.out _ _ ?_ (fun hHeld => ?_)
                  · (try dsimp only); exact keepT12 hHeld hb
                  clear hK K
                  (try simp only [Act.put, List.getElem_toArray, List.getElem_cons_succ, List.getElem_cons_zero, List.setIfInBounds_toArray, List.set_cons_zero, List.set_cons_succ])
                  refine wpAnyH_ready (rs := [3]) (by kernel_rfl) (by simp) ?_
                  refine AllReadyH.cons rfl (fun K hK => ?_) AllReadyH.nil
                  (try simp only [List.getElem_toArray, List.getElem_cons_succ, List.getElem_cons_zero])
                  go_simp
                  refine ((CoreText.text_any b (by omega) okb (by have := CoreTxl.text_len b okb; omega) _ _ _ (Kd.C_below Cb.out hHeld.2.2.2.2.2.2.2.2.2.2.2.2) hlb (HT.out.on (below_step HB.out hHeld.2.2.2.2.2.2.2.2.2.2.2.2)).here).mono fun e w' h => (⟨h.1.trans (by rw [Sbt.out]), h.2⟩ : e = .returned (.string sb) ∧ _)).mono ?_
                  rintro e w9 ⟨rfl, hb⟩
                  simp only []
                  refine hK.out _ _ ?_ (fun hHeld => ?_)
                  · (try dsimp only); exact keepT12 hHeld hb
                  clear hK K
                  (try simp only [Act.put, List.getElem_toArray, List.getElem_cons_succ, List.getElem_cons_zero, List.setIfInBounds_toArray, List.set_cons_zero, List.set_cons_succ])
                  refine wpAnyH_take (i := 4) (v := ?_) rfl (by kernel_rfl) (by kernel_rfl) (by kernel_rfl) (fun _ _ _ h => h) (Or.inl ⟨by rfl, ?_⟩) (by assumption) ?_
                  rotate_left 1
                  · (intro w hSw; (try dsimp only at hSw); (try simp only [List.getElem_toArray, List.getElem_cons_succ, List.getElem_cons_zero]); go_simp; (try with_reducible rfl))
                  (try simp only [Act.put, List.getElem_toArray, List.getElem_cons_succ, List.getElem_cons_zero, List.setIfInBounds_toArray, List.set_cons_zero, List.set_cons_succ])
                  refine wpAnyH_ready (rs := [7]) (by kernel_rfl) (by simp) ?_
                  refine AllReadyH.cons rfl (fun K hK => ?_) AllReadyH.nil
                  (try simp only [List.getElem_toArray, List.getElem_cons_succ, List.getElem_cons_zero])
                  go_simp
                  refine ((CoreSm.same_any _ a (Nat.le_refl _) (by omega) b _ _ _ _ _ (Kd.C_below Ca.out hHeld.2.2.2.2.2.2.2.2.2.2.2.2) hla (Kd.C_below Cb.out hHeld.2.2.2.2.2.2.2.2.2.2.2.2) hlb).mono fun e w' h => (⟨h.1.trans (by rw [Vab.out]), h.2⟩ : e = .returned (.bool false) ∧ _)).mono ?_
                  rintro e w9 ⟨rfl, hb⟩
                  simp only []
                  refine hK.out _ _ ?_ (fun hHeld => ?_)
                  · (try dsimp only); exact keepT12 hHeld hb
                  clear hK K
                  (try simp only [Act.put, List.getElem_toArray, List.getElem_cons_succ, List.getElem_cons_zero, List.setIfInBounds_toArray, List.set_cons_zero, List.set_cons_succ])
                  refine wpAnyH_take (i := 8) (v := ?_) rfl (by kernel_rfl) (by kernel_rfl) (by kernel_rfl) (fun _ _ _ h => h) (Or.inl ⟨by rfl, ?_⟩) (by assumption) ?_
                  rotate_left 1
                  · (intro w hSw; (try dsimp only at hSw); (try simp only [List.getElem_toArray, List.getElem_cons_succ, List.getElem_cons_zero]); go_simp; (try with_reducible rfl))
                  (try simp only [Act.put, List.getElem_toArray, List.getElem_cons_succ, List.getElem_cons_zero, List.setIfInBounds_toArray, List.set_cons_zero, List.set_cons_succ])
                  refine wpAnyH_take (i := 9) (v := ?_) rfl (by kernel_rfl) (by kernel_rfl) (by kernel_rfl) (fun _ _ _ h => h) (Or.inl ⟨by rfl, ?_⟩) (by assumption) ?_
                  rotate_left 1
                  · (intro w hSw; (try dsimp only at hSw); (try simp only [List.getElem_toArray, List.getElem_cons_succ, List.getElem_cons_zero]); go_simp; (try with_reducible rfl))
                  (try simp only [Act.put, List.getElem_toArray, List.getElem_cons_succ, List.getElem_cons_zero, List.setIfInBounds_toArray, List.set_cons_zero, List.set_cons_succ])
                  refine wpAnyH_take (i := 10) (v := ?_) rfl (by kernel_rfl) (by kernel_rfl) (by kernel_rfl) (fun _ _ _ h => h) (Or.inl ⟨by rfl, ?_⟩) (by assumption) ?_
                  rotate_left 1
                  · (intro w hSw; (try dsimp only at hSw); (try simp only [List.getElem_toArray, List.getElem_cons_succ, List.getElem_cons_zero]); go_simp; (try with_reducible rfl))
                  (try simp only [Act.put, List.getElem_toArray, List.getElem_cons_succ, List.getElem_cons_zero, List.setIfInBounds_toArray, List.set_cons_zero, List.set_cons_succ])
                  refine wpAnyH_take (i := 11) (v := ?_) rfl (by kernel_rfl) (by kernel_rfl) (by kernel_rfl) (fun _ _ _ h => h) (Or.inl ⟨by rfl, ?_⟩) (by assumption) ?_
                  rotate_left 1
                  · (intro w hSw; (try dsimp only at hSw); (try simp only [List.getElem_toArray, List.getElem_cons_succ, List.getElem_cons_zero]); go_simp; (try with_reducible rfl))
                  (try simp only [Act.put, List.getElem_toArray, List.getElem_cons_succ, List.getElem_cons_zero, List.setIfInBounds_toArray, List.set_cons_zero, List.set_cons_succ])
                  refine wpAnyH_take (i := 12) (v := ?_) rfl (by kernel_rfl) (by kernel_rfl) (by kernel_rfl) (fun _ _ _ h => h) (Or.inl ⟨by rfl, ?_⟩) (by assumption) ?_
                  rotate_left 1
                  · (intro w hSw; (try dsimp only at hSw); (try simp only [List.getElem_toArray, List.getElem_cons_succ, List.getElem_cons_zero]); go_simp; (try with_reducible rfl))
                  (try simp only [Act.put, List.getElem_toArray, List.getElem_cons_succ, List.getElem_cons_zero, List.setIfInBounds_toArray, List.set_cons_zero, List.set_cons_succ])
                  refine wpAnyH_ready (rs := [13]) (by kernel_rfl) (by simp) ?_
                  refine AllReadyH.cons rfl (fun K hK => ?_) AllReadyH.nil
                  (try simp only [List.getElem_toArray, List.getElem_cons_succ, List.getElem_cons_zero])
                  go_simp
                  refine ((CoreMay.may_any _ a (Nat.le_refl _) (by omega) (free + 1) (by have := Qd1.out; omega) (by have := Qd2.out; omega) _ _ _ (Kd.C_below Ca.out hHeld.2.2.2.2.2.2.2.2.2.2.2.2) hla).mono fun e w' h => (⟨h.1.trans (by rw [HMA.out]), h.2⟩ : e = .returned (.bool true) ∧ _)).mono ?_
                  rintro e w9 ⟨rfl, hb⟩
                  simp only []
                  refine hK.out _ _ ?_ (fun hHeld => ?_)
                  · (try dsimp only); exact keepT12 hHeld hb
                  clear hK K
                  (try simp only [Act.put, List.getElem_toArray, List.getElem_cons_succ, List.getElem_cons_zero, List.setIfInBounds_toArray, List.set_cons_zero, List.set_cons_succ])
                  refine wpAnyH_take (i := 14) (v := ?_) rfl (by kernel_rfl) (by kernel_rfl) (by kernel_rfl) (fun _ _ _ h => h) (Or.inl ⟨by rfl, ?_⟩) (by assumption) ?_
                  rotate_left 1
                  · (intro w hSw; (try dsimp only at hSw); (try simp only [List.getElem_toArray, List.getElem_cons_succ, List.getElem_cons_zero]); go_simp; (try with_reducible rfl))
                  (try simp only [Act.put, List.getElem_toArray, List.getElem_cons_succ, List.getElem_cons_zero, List.setIfInBounds_toArray, List.set_cons_zero, List.set_cons_succ])
                  refine wpAnyH_take (i := 15) (v := ?_) rfl (by kernel_rfl) (by kernel_rfl) (by kernel_rfl) (fun _ _ _ h => h) (Or.inl ⟨by rfl, ?_⟩) (by assumption) ?_
                  rotate_left 1
                  · (intro w hSw; (try dsimp only at hSw); (try simp only [List.getElem_toArray, List.getElem_cons_succ, List.getElem_cons_zero]); go_simp; (try with_reducible rfl))
                  (try simp only [Act.put, List.getElem_toArray, List.getElem_cons_succ, List.getElem_cons_zero, List.setIfInBounds_toArray, List.set_cons_zero, List.set_cons_succ])
                  refine wpAnyH_take (i := 16) (v := ?_) rfl (by kernel_rfl) (by kernel_rfl) (by kernel_rfl) (fun _ _ _ h => h) (Or.inl ⟨by rfl, ?_⟩) (by assumption) ?_
                  rotate_left 1
                  · (intro w hSw; (try dsimp only at hSw); (try simp only [List.getElem_toArray, List.getElem_cons_succ, List.getElem_cons_zero]); go_simp; (try with_reducible rfl))
                  (try simp only [Act.put, List.getElem_toArray, List.getElem_cons_succ, List.getElem_cons_zero, List.setIfInBounds_toArray, List.set_cons_zero, List.set_cons_succ])
                  refine wpAnyH_take (i := 17) (v := ?_) rfl (by kernel_rfl) (by kernel_rfl) (by kernel_rfl) (fun _ _ _ h => h) (Or.inl ⟨by rfl, ?_⟩) (by assumption) ?_
                  rotate_left 1
                  · (intro w hSw; (try dsimp only at hSw); (try simp only [List.getElem_toArray, List.getElem_cons_succ, List.getElem_cons_zero]); go_simp; (try with_reducible rfl))
                  (try simp only [Act.put, List.getElem_toArray, List.getElem_cons_succ, List.getElem_cons_zero, List.setIfInBounds_toArray, List.set_cons_zero, List.set_cons_succ])
                  refine wpAnyH_ready (rs := [18]) (by kernel_rfl) (by simp) ?_
                  refine AllReadyH.cons rfl (fun K hK => ?_) AllReadyH.nil
                  (try simp only [List.getElem_toArray, List.getElem_cons_succ, List.getElem_cons_zero])
                  go_simp
                  refine ((CoreMay.may_any _ (lamT a) (Nat.le_refl _) (by omega) (free) (by have := Qd1.out; omega) (by have := Qd2.out; omega) _ _ _ (Kd.C_below Cl.out hHeld.2.2.2.2.2.2.2.2.2.2.2.2) (Nat.le_refl 1)).mono fun e w' h => (⟨h.1.trans (by rw [HML.out]), h.2⟩ : e = .returned (.bool true) ∧ _)).mono ?_
                  rintro e w9 ⟨rfl, hb⟩
                  simp only []
                  refine hK.out _ _ ?_ (fun hHeld => ?_)
                  · (try dsimp only); exact keepT12 hHeld hb
                  clear hK K
                  (try simp only [Act.put, List.getElem_toArray, List.getElem_cons_succ, List.getElem_cons_zero, List.setIfInBounds_toArray, List.set_cons_zero, List.set_cons_succ])
                  refine wpAnyH_take (i := 19) (v := ?_) rfl (by kernel_rfl) (by kernel_rfl) (by kernel_rfl) (fun _ _ _ h => h) (Or.inl ⟨by rfl, ?_⟩) (by assumption) ?_
                  rotate_left 1
                  · (intro w hSw; (try dsimp only at hSw); (try simp only [List.getElem_toArray, List.getElem_cons_succ, List.getElem_cons_zero]); go_simp; (try with_reducible rfl))
                  (try simp only [Act.put, List.getElem_toArray, List.getElem_cons_succ, List.getElem_cons_zero, List.setIfInBounds_toArray, List.set_cons_zero, List.set_cons_succ])
                  refine wpAnyH_take (i := 20) (v := ?_) rfl (by kernel_rfl) (by kernel_rfl) (by kernel_rfl) (fun _ _ _ h => h) (Or.inl ⟨by rfl, ?_⟩) (by assumption) ?_
                  rotate_left 1
                  · (intro w hSw; (try dsimp only at hSw); (try simp only [List.getElem_toArray, List.getElem_cons_succ, List.getElem_cons_zero]); go_simp; (try with_reducible rfl))
                  (try simp only [Act.put, List.getElem_toArray, List.getElem_cons_succ, List.getElem_cons_zero, List.setIfInBounds_toArray, List.set_cons_zero, List.set_cons_succ])
                  refine wpAnyH_take (i := 21) (v := ?_) rfl (by kernel_rfl) (by kernel_rfl) (by kernel_rfl) (fun _ _ _ h => h) (Or.inl ⟨by rfl, ?_⟩) (by assumption) ?_
                  rotate_left 1
                  · (intro w hSw; (try dsimp only at hSw); (try simp only [List.getElem_toArray, List.getElem_cons_succ, List.getElem_cons_zero]); go_simp; (try with_reducible rfl))
                  (try simp only [Act.put, List.getElem_toArray, List.getElem_cons_succ, List.getElem_cons_zero, List.setIfInBounds_toArray, List.set_cons_zero, List.set_cons_succ])
                  refine wpAnyH_take (i := 22) (v := ?_) rfl (by kernel_rfl) (by kernel_rfl) (by kernel_rfl) (fun _ _ _ h => h) (Or.inl ⟨by rfl, ?_⟩) (by assumption) ?_
                  rotate_left 1
                  · (intro w hSw; (try dsimp only at hSw); (try simp only [List.getElem_toArray, List.getElem_cons_succ, List.getElem_cons_zero]); go_simp; (try with_reducible rfl))
                  (try simp only [Act.put, List.getElem_toArray, List.getElem_cons_succ, List.getElem_cons_zero, List.setIfInBounds_toArray, List.set_cons_zero, List.set_cons_succ])
                  refine wpAnyH_take (i := 23) (v := ?_) rfl (by kernel_rfl) (by kernel_rfl) (by kernel_rfl) (fun _ _ _ h => h) (Or.inl ⟨by rfl, ?_⟩) (by assumption) ?_
                  rotate_left 1
                  · (intro w hSw; (try dsimp only at hSw); (try simp only [List.getElem_toArray, List.getElem_cons_succ, List.getElem_cons_zero]); go_simp; (try with_reducible rfl))
                  (try simp only [Act.put, List.getElem_toArray, List.getElem_cons_succ, List.getElem_cons_zero, List.setIfInBounds_toArray, List.set_cons_zero, List.set_cons_succ])
                  refine wpAnyH_take (i := 24) (v := undef) rfl (by kernel_rfl) (by kernel_rfl) (by kernel_rfl) (fun _ _ _ h => h) (Or.inr ⟨by rfl, rfl⟩) (by assumption) ?_
                  (try simp only [Act.put, List.getElem_toArray, List.getElem_cons_succ, List.getElem_cons_zero, List.setIfInBounds_toArray, List.set_cons_zero, List.set_cons_succ])
                  refine wpAnyH_take (i := 25) (v := undef) rfl (by kernel_rfl) (by kernel_rfl) (by kernel_rfl) (fun _ _ _ h => h) (Or.inr ⟨by rfl, rfl⟩) (by assumption) ?_
                  (try simp only [Act.put, List.getElem_toArray, List.getElem_cons_succ, List.getElem_cons_zero, List.setIfInBounds_toArray, List.set_cons_zero, List.set_cons_succ])
                  refine wpAnyH_take (i := 26) (v := undef) rfl (by kernel_rfl) (by kernel_rfl) (by kernel_rfl) (fun _ _ _ h => h) (Or.inr ⟨by rfl, rfl⟩) (by assumption) ?_
                  (try simp only [Act.put, List.getElem_toArray, List.getElem_cons_succ, List.getElem_cons_zero, List.setIfInBounds_toArray, List.set_cons_zero, List.set_cons_succ])
                  refine wpAnyH_take (i := 27) (v := undef) rfl (by kernel_rfl) (by kernel_rfl) (by kernel_rfl) (fun _ _ _ h => h) (Or.inr ⟨by rfl, rfl⟩) (by assumption) ?_
                  (try simp only [Act.put, List.getElem_toArray, List.getElem_cons_succ, List.getElem_cons_zero, List.setIfInBounds_toArray, List.set_cons_zero, List.set_cons_succ])
                  refine wpAnyH_take (i := 28) (v := ?_) rfl (by kernel_rfl) (by kernel_rfl) (by kernel_rfl) (fun _ _ _ h => h) (Or.inl ⟨by rfl, ?_⟩) (by assumption) ?_
                  rotate_left 1
                  · (intro w hSw; (try dsimp only at hSw); (try simp only [List.getElem_toArray, List.getElem_cons_succ, List.getElem_cons_zero]); go_simp; (try with_reducible rfl))
                  (try simp only [Act.put, List.getElem_toArray, List.getElem_cons_succ, List.getElem_cons_zero, List.setIfInBounds_toArray, List.set_cons_zero, List.set_cons_succ])
                  refine wpAnyH_take (i := 29) (v := ?_) rfl (by kernel_rfl) (by kernel_rfl) (by kernel_rfl) (fun _ _ _ h => h) (Or.inl ⟨by rfl, ?_⟩) (by assumption) ?_
                  rotate_left 1
                  · (intro w hSw; (try dsimp only at hSw); (try simp only [List.getElem_toArray, List.getElem_cons_succ, List.getElem_cons_zero]); go_simp; (try with_reducible rfl))
                  (try simp only [Act.put, List.getElem_toArray, List.getElem_cons_succ, List.getElem_cons_zero, List.setIfInBounds_toArray, List.set_cons_zero, List.set_cons_succ])
                  refine wpAnyH_take (i := 30) (v := ?_) rfl (by kernel_rfl) (by kernel_rfl) (by kernel_rfl) (fun _ _ _ h => h) (Or.inl ⟨by rfl, ?_⟩) (by assumption) ?_
                  rotate_left 1
                  · (intro w hSw; (try dsimp only at hSw); (try simp only [List.getElem_toArray, List.getElem_cons_succ, List.getElem_cons_zero]); go_simp; (try with_reducible rfl))
                  (try simp only [Act.put, List.getElem_toArray, List.getElem_cons_succ, List.getElem_cons_zero, List.setIfInBounds_toArray, List.set_cons_zero, List.set_cons_succ])
                  refine wpAnyH_done (by kernel_rfl) ?_ _
                  have HB9 := Lib.hid (below_step HB.out hHeld.2.2.2.2.2.2.2.2.2.2.2.2)
                  clear hHeld
                  go_wp2_with fail
                  go_ret
                  exact ⟨rfl, HB9.out⟩
                · have bz : (free == 0) = false := beq_eq_false_iff_ne.2 q
                  have HMN : Hid (may (lamT a) (free - 1) = true) := Lib.hid (by rw [show lamT a = ⟨2, 0, ByteArray.empty, [a]⟩ from rfl, CoreInj.lam_may, show free - 1 + 1 = free by omega, VA.out, decide_eq_true (by have := Qd1.out; omega)]; rfl)
                  clear q
                  refine wp_region_held_drew (S := (fun w' => w'.cell? ⟨w.heap.size, 0, none⟩ = some (.int .i64 a.f0) ∧ w'.cell? ⟨w.heap.size, 1, none⟩ = some (.int .i64 a.f1) ∧ w'.cell? ⟨w.heap.size, 2, none⟩ = some (.string a.f2) ∧ w'.cell? ⟨w.heap.size, 3, none⟩ = some (.slice Aa a.f3.length ca) ∧ w'.cell? ⟨w.heap.size + 1, 0, none⟩ = some (.int .i64 b.f0) ∧ w'.cell? ⟨w.heap.size + 1, 1, none⟩ = some (.int .i64 b.f1) ∧ w'.cell? ⟨w.heap.size + 1, 2, none⟩ = some (.string b.f2) ∧ w'.cell? ⟨w.heap.size + 1, 3, none⟩ = some (.slice Ab b.f3.length cb) ∧ w'.cell? ⟨w5.heap.size + 1, 0, none⟩ = some (.int .i64 2) ∧ w'.cell? ⟨w5.heap.size + 1, 1, none⟩ = some (.int .i64 0) ∧ w'.cell? ⟨w5.heap.size + 1, 2, none⟩ = some (.string ⟨#[]⟩) ∧ w'.cell? ⟨w5.heap.size + 1, 3, none⟩ = some (.slice (some ⟨w5.heap.size, 0, none⟩) 1 1) ∧ Below wz.heap.size wz w')) (by kernel_rfl) (by (try dsimp only); exact keepT12 ⟨a0, a1, a2, a3, b0, b1, b2, b3, l0, l1, l2, l3, Below.refl _ _⟩ (below_drew1 (Below.refl _ _))) (fun hHeld => ?_)
                  refine wpAnyH_take (i := 0) (v := ?_) rfl (by kernel_rfl) (by kernel_rfl) (by kernel_rfl) (fun _ _ _ h => h) (Or.inl ⟨by rfl, ?_⟩) (by assumption) ?_
                  rotate_left 1
                  · (intro w hSw; (try dsimp only at hSw); (try simp only [List.getElem_toArray, List.getElem_cons_succ, List.getElem_cons_zero]); go_simp; (try with_reducible rfl))
                  (try simp only [Act.put, List.getElem_toArray, List.getElem_cons_succ, List.getElem_cons_zero, List.setIfInBounds_toArray, List.set_cons_zero, List.set_cons_succ])
                  refine wpAnyH_take (i := 2) (v := ?_) rfl (by kernel_rfl) (by kernel_rfl) (by kernel_rfl) (fun _ _ _ h => h) (Or.inl ⟨by rfl, ?_⟩) (by assumption) ?_
                  rotate_left 1
                  · (intro w hSw; (try dsimp only at hSw); (try simp only [List.getElem_toArray, List.getElem_cons_succ, List.getElem_cons_zero]); go_simp; (try with_reducible rfl))
                  (try simp only [Act.put, List.getElem_toArray, List.getElem_cons_succ, List.getElem_cons_zero, List.setIfInBounds_toArray, List.set_cons_zero, List.set_cons_succ])
                  refine wpAnyH_take (i := 5) (v := ?_) rfl (by kernel_rfl) (by kernel_rfl) (by kernel_rfl) (fun _ _ _ h => h) (Or.inl ⟨by rfl, ?_⟩) (by assumption) ?_
                  rotate_left 1
                  · (intro w hSw; (try dsimp only at hSw); (try simp only [List.getElem_toArray, List.getElem_cons_succ, List.getElem_cons_zero]); go_simp; (try with_reducible rfl))
                  (try simp only [Act.put, List.getElem_toArray, List.getElem_cons_succ, List.getElem_cons_zero, List.setIfInBounds_toArray, List.set_cons_zero, List.set_cons_succ])
                  refine wpAnyH_take (i := 6) (v := ?_) rfl (by kernel_rfl) (by kernel_rfl) (by kernel_rfl) (fun _ _ _ h => h) (Or.inl ⟨by rfl, ?_⟩) (by assumption) ?_
                  rotate_left 1
                  · (intro w hSw; (try dsimp only at hSw); (try simp only [List.getElem_toArray, List.getElem_cons_succ, List.getElem_cons_zero]); go_simp; (try with_reducible rfl))
                  (try simp only [Act.put, List.getElem_toArray, List.getElem_cons_succ, List.getElem_cons_zero, List.setIfInBounds_toArray, List.set_cons_zero, List.set_cons_succ])
                  refine wpAnyH_ready (rs := [1]) (by kernel_rfl) (by simp) ?_
                  refine AllReadyH.cons rfl (fun K hK => ?_) AllReadyH.nil
                  (try simp only [List.getElem_toArray, List.getElem_cons_succ, List.getElem_cons_zero])
                  go_simp
                  refine ((CoreText.text_any a (by omega) oka (by have := CoreTxl.text_len a oka; omega) _ _ _ (Kd.C_below Ca.out hHeld.2.2.2.2.2.2.2.2.2.2.2.2) hla (HT.out.on (below_step HB.out hHeld.2.2.2.2.2.2.2.2.2.2.2.2)).here).mono fun e w' h => (⟨h.1.trans (by rw [Sat.out]), h.2⟩ : e = .returned (.string sa) ∧ _)).mono ?_
                  rintro e w9 ⟨rfl, hb⟩
                  simp only []
                  refine hK.out _ _ ?_ (fun hHeld => ?_)
                  · (try dsimp only); exact keepT12 hHeld hb
                  clear hK K
                  (try simp only [Act.put, List.getElem_toArray, List.getElem_cons_succ, List.getElem_cons_zero, List.setIfInBounds_toArray, List.set_cons_zero, List.set_cons_succ])
                  refine wpAnyH_ready (rs := [3]) (by kernel_rfl) (by simp) ?_
                  refine AllReadyH.cons rfl (fun K hK => ?_) AllReadyH.nil
                  (try simp only [List.getElem_toArray, List.getElem_cons_succ, List.getElem_cons_zero])
                  go_simp
                  refine ((CoreText.text_any b (by omega) okb (by have := CoreTxl.text_len b okb; omega) _ _ _ (Kd.C_below Cb.out hHeld.2.2.2.2.2.2.2.2.2.2.2.2) hlb (HT.out.on (below_step HB.out hHeld.2.2.2.2.2.2.2.2.2.2.2.2)).here).mono fun e w' h => (⟨h.1.trans (by rw [Sbt.out]), h.2⟩ : e = .returned (.string sb) ∧ _)).mono ?_
                  rintro e w9 ⟨rfl, hb⟩
                  simp only []
                  refine hK.out _ _ ?_ (fun hHeld => ?_)
                  · (try dsimp only); exact keepT12 hHeld hb
                  clear hK K
                  (try simp only [Act.put, List.getElem_toArray, List.getElem_cons_succ, List.getElem_cons_zero, List.setIfInBounds_toArray, List.set_cons_zero, List.set_cons_succ])
                  refine wpAnyH_take (i := 4) (v := ?_) rfl (by kernel_rfl) (by kernel_rfl) (by kernel_rfl) (fun _ _ _ h => h) (Or.inl ⟨by rfl, ?_⟩) (by assumption) ?_
                  rotate_left 1
                  · (intro w hSw; (try dsimp only at hSw); (try simp only [List.getElem_toArray, List.getElem_cons_succ, List.getElem_cons_zero]); go_simp; (try with_reducible rfl))
                  (try simp only [Act.put, List.getElem_toArray, List.getElem_cons_succ, List.getElem_cons_zero, List.setIfInBounds_toArray, List.set_cons_zero, List.set_cons_succ])
                  refine wpAnyH_ready (rs := [7]) (by kernel_rfl) (by simp) ?_
                  refine AllReadyH.cons rfl (fun K hK => ?_) AllReadyH.nil
                  (try simp only [List.getElem_toArray, List.getElem_cons_succ, List.getElem_cons_zero])
                  go_simp
                  refine ((CoreSm.same_any _ a (Nat.le_refl _) (by omega) b _ _ _ _ _ (Kd.C_below Ca.out hHeld.2.2.2.2.2.2.2.2.2.2.2.2) hla (Kd.C_below Cb.out hHeld.2.2.2.2.2.2.2.2.2.2.2.2) hlb).mono fun e w' h => (⟨h.1.trans (by rw [Vab.out]), h.2⟩ : e = .returned (.bool false) ∧ _)).mono ?_
                  rintro e w9 ⟨rfl, hb⟩
                  simp only []
                  refine hK.out _ _ ?_ (fun hHeld => ?_)
                  · (try dsimp only); exact keepT12 hHeld hb
                  clear hK K
                  (try simp only [Act.put, List.getElem_toArray, List.getElem_cons_succ, List.getElem_cons_zero, List.setIfInBounds_toArray, List.set_cons_zero, List.set_cons_succ])
                  refine wpAnyH_take (i := 8) (v := ?_) rfl (by kernel_rfl) (by kernel_rfl) (by kernel_rfl) (fun _ _ _ h => h) (Or.inl ⟨by rfl, ?_⟩) (by assumption) ?_
                  rotate_left 1
                  · (intro w hSw; (try dsimp only at hSw); (try simp only [List.getElem_toArray, List.getElem_cons_succ, List.getElem_cons_zero]); go_simp; (try with_reducible rfl))
                  (try simp only [Act.put, List.getElem_toArray, List.getElem_cons_succ, List.getElem_cons_zero, List.setIfInBounds_toArray, List.set_cons_zero, List.set_cons_succ])
                  refine wpAnyH_take (i := 9) (v := ?_) rfl (by kernel_rfl) (by kernel_rfl) (by kernel_rfl) (fun _ _ _ h => h) (Or.inl ⟨by rfl, ?_⟩) (by assumption) ?_
                  rotate_left 1
                  · (intro w hSw; (try dsimp only at hSw); (try simp only [List.getElem_toArray, List.getElem_cons_succ, List.getElem_cons_zero]); go_simp; (try with_reducible rfl))
                  (try simp only [Act.put, List.getElem_toArray, List.getElem_cons_succ, List.getElem_cons_zero, List.setIfInBounds_toArray, List.set_cons_zero, List.set_cons_succ])
                  refine wpAnyH_take (i := 10) (v := ?_) rfl (by kernel_rfl) (by kernel_rfl) (by kernel_rfl) (fun _ _ _ h => h) (Or.inl ⟨by rfl, ?_⟩) (by assumption) ?_
                  rotate_left 1
                  · (intro w hSw; (try dsimp only at hSw); (try simp only [List.getElem_toArray, List.getElem_cons_succ, List.getElem_cons_zero]); go_simp; (try with_reducible rfl))
                  (try simp only [Act.put, List.getElem_toArray, List.getElem_cons_succ, List.getElem_cons_zero, List.setIfInBounds_toArray, List.set_cons_zero, List.set_cons_succ])
                  refine wpAnyH_take (i := 11) (v := ?_) rfl (by kernel_rfl) (by kernel_rfl) (by kernel_rfl) (fun _ _ _ h => h) (Or.inl ⟨by rfl, ?_⟩) (by assumption) ?_
                  rotate_left 1
                  · (intro w hSw; (try dsimp only at hSw); (try simp only [List.getElem_toArray, List.getElem_cons_succ, List.getElem_cons_zero]); go_simp; (try with_reducible rfl))
                  (try simp only [Act.put, List.getElem_toArray, List.getElem_cons_succ, List.getElem_cons_zero, List.setIfInBounds_toArray, List.set_cons_zero, List.set_cons_succ])
                  refine wpAnyH_take (i := 12) (v := ?_) rfl (by kernel_rfl) (by kernel_rfl) (by kernel_rfl) (fun _ _ _ h => h) (Or.inl ⟨by rfl, ?_⟩) (by assumption) ?_
                  rotate_left 1
                  · (intro w hSw; (try dsimp only at hSw); (try simp only [List.getElem_toArray, List.getElem_cons_succ, List.getElem_cons_zero]); go_simp; (try with_reducible rfl))
                  (try simp only [Act.put, List.getElem_toArray, List.getElem_cons_succ, List.getElem_cons_zero, List.setIfInBounds_toArray, List.set_cons_zero, List.set_cons_succ])
                  refine wpAnyH_ready (rs := [13]) (by kernel_rfl) (by simp) ?_
                  refine AllReadyH.cons rfl (fun K hK => ?_) AllReadyH.nil
                  (try simp only [List.getElem_toArray, List.getElem_cons_succ, List.getElem_cons_zero])
                  go_simp
                  refine ((CoreMay.may_any _ a (Nat.le_refl _) (by omega) (free + 1) (by have := Qd1.out; omega) (by have := Qd2.out; omega) _ _ _ (Kd.C_below Ca.out hHeld.2.2.2.2.2.2.2.2.2.2.2.2) hla).mono fun e w' h => (⟨h.1.trans (by rw [HMA.out]), h.2⟩ : e = .returned (.bool true) ∧ _)).mono ?_
                  rintro e w9 ⟨rfl, hb⟩
                  simp only []
                  refine hK.out _ _ ?_ (fun hHeld => ?_)
                  · (try dsimp only); exact keepT12 hHeld hb
                  clear hK K
                  (try simp only [Act.put, List.getElem_toArray, List.getElem_cons_succ, List.getElem_cons_zero, List.setIfInBounds_toArray, List.set_cons_zero, List.set_cons_succ])
                  refine wpAnyH_take (i := 14) (v := ?_) rfl (by kernel_rfl) (by kernel_rfl) (by kernel_rfl) (fun _ _ _ h => h) (Or.inl ⟨by rfl, ?_⟩) (by assumption) ?_
                  rotate_left 1
                  · (intro w hSw; (try dsimp only at hSw); (try simp only [List.getElem_toArray, List.getElem_cons_succ, List.getElem_cons_zero]); go_simp; (try with_reducible rfl))
                  (try simp only [Act.put, List.getElem_toArray, List.getElem_cons_succ, List.getElem_cons_zero, List.setIfInBounds_toArray, List.set_cons_zero, List.set_cons_succ])
                  refine wpAnyH_take (i := 15) (v := ?_) rfl (by kernel_rfl) (by kernel_rfl) (by kernel_rfl) (fun _ _ _ h => h) (Or.inl ⟨by rfl, ?_⟩) (by assumption) ?_
                  rotate_left 1
                  · (intro w hSw; (try dsimp only at hSw); (try simp only [List.getElem_toArray, List.getElem_cons_succ, List.getElem_cons_zero]); go_simp; (try with_reducible rfl))
                  (try simp only [Act.put, List.getElem_toArray, List.getElem_cons_succ, List.getElem_cons_zero, List.setIfInBounds_toArray, List.set_cons_zero, List.set_cons_succ])
                  refine wpAnyH_take (i := 16) (v := ?_) rfl (by kernel_rfl) (by kernel_rfl) (by kernel_rfl) (fun _ _ _ h => h) (Or.inl ⟨by rfl, ?_⟩) (by assumption) ?_
                  rotate_left 1
                  · (intro w hSw; (try dsimp only at hSw); (try simp only [List.getElem_toArray, List.getElem_cons_succ, List.getElem_cons_zero]); go_simp; (try with_reducible rfl))
                  (try simp only [Act.put, List.getElem_toArray, List.getElem_cons_succ, List.getElem_cons_zero, List.setIfInBounds_toArray, List.set_cons_zero, List.set_cons_succ])
                  refine wpAnyH_take (i := 17) (v := ?_) rfl (by kernel_rfl) (by kernel_rfl) (by kernel_rfl) (fun _ _ _ h => h) (Or.inl ⟨by rfl, ?_⟩) (by assumption) ?_
                  rotate_left 1
                  · (intro w hSw; (try dsimp only at hSw); (try simp only [List.getElem_toArray, List.getElem_cons_succ, List.getElem_cons_zero]); go_simp; (try with_reducible rfl))
                  (try simp only [Act.put, List.getElem_toArray, List.getElem_cons_succ, List.getElem_cons_zero, List.setIfInBounds_toArray, List.set_cons_zero, List.set_cons_succ])
                  refine wpAnyH_ready (rs := [18]) (by kernel_rfl) (by simp) ?_
                  refine AllReadyH.cons rfl (fun K hK => ?_) AllReadyH.nil
                  (try simp only [List.getElem_toArray, List.getElem_cons_succ, List.getElem_cons_zero])
                  go_simp
                  refine ((CoreMay.may_any _ (lamT a) (Nat.le_refl _) (by omega) (free) (by have := Qd1.out; omega) (by have := Qd2.out; omega) _ _ _ (Kd.C_below Cl.out hHeld.2.2.2.2.2.2.2.2.2.2.2.2) (Nat.le_refl 1)).mono fun e w' h => (⟨h.1.trans (by rw [HML.out]), h.2⟩ : e = .returned (.bool true) ∧ _)).mono ?_
                  rintro e w9 ⟨rfl, hb⟩
                  simp only []
                  refine hK.out _ _ ?_ (fun hHeld => ?_)
                  · (try dsimp only); exact keepT12 hHeld hb
                  clear hK K
                  (try simp only [Act.put, List.getElem_toArray, List.getElem_cons_succ, List.getElem_cons_zero, List.setIfInBounds_toArray, List.set_cons_zero, List.set_cons_succ])
                  refine wpAnyH_take (i := 19) (v := ?_) rfl (by kernel_rfl) (by kernel_rfl) (by kernel_rfl) (fun _ _ _ h => h) (Or.inl ⟨by rfl, ?_⟩) (by assumption) ?_
                  rotate_left 1
                  · (intro w hSw; (try dsimp only at hSw); (try simp only [List.getElem_toArray, List.getElem_cons_succ, List.getElem_cons_zero]); go_simp; (try with_reducible rfl))
                  (try simp only [Act.put, List.getElem_toArray, List.getElem_cons_succ, List.getElem_cons_zero, List.setIfInBounds_toArray, List.set_cons_zero, List.set_cons_succ])
                  refine wpAnyH_take (i := 20) (v := ?_) rfl (by kernel_rfl) (by kernel_rfl) (by kernel_rfl) (fun _ _ _ h => h) (Or.inl ⟨by rfl, ?_⟩) (by assumption) ?_
                  rotate_left 1
                  · (intro w hSw; (try dsimp only at hSw); (try simp only [List.getElem_toArray, List.getElem_cons_succ, List.getElem_cons_zero]); go_simp; (try with_reducible rfl))
                  (try simp only [Act.put, List.getElem_toArray, List.getElem_cons_succ, List.getElem_cons_zero, List.setIfInBounds_toArray, List.set_cons_zero, List.set_cons_succ])
                  refine wpAnyH_take (i := 21) (v := ?_) rfl (by kernel_rfl) (by kernel_rfl) (by kernel_rfl) (fun _ _ _ h => h) (Or.inl ⟨by rfl, ?_⟩) (by assumption) ?_
                  rotate_left 1
                  · (intro w hSw; (try dsimp only at hSw); (try simp only [List.getElem_toArray, List.getElem_cons_succ, List.getElem_cons_zero]); go_simp; (try with_reducible rfl))
                  (try simp only [Act.put, List.getElem_toArray, List.getElem_cons_succ, List.getElem_cons_zero, List.setIfInBounds_toArray, List.set_cons_zero, List.set_cons_succ])
                  refine wpAnyH_take (i := 22) (v := ?_) rfl (by kernel_rfl) (by kernel_rfl) (by kernel_rfl) (fun _ _ _ h => h) (Or.inl ⟨by rfl, ?_⟩) (by assumption) ?_
                  rotate_left 1
                  · (intro w hSw; (try dsimp only at hSw); (try simp only [List.getElem_toArray, List.getElem_cons_succ, List.getElem_cons_zero]); go_simp; (try with_reducible rfl))
                  (try simp only [Act.put, List.getElem_toArray, List.getElem_cons_succ, List.getElem_cons_zero, List.setIfInBounds_toArray, List.set_cons_zero, List.set_cons_succ])
                  refine wpAnyH_take (i := 23) (v := ?_) rfl (by kernel_rfl) (by kernel_rfl) (by kernel_rfl) (fun _ _ _ h => h) (Or.inl ⟨by rfl, ?_⟩) (by assumption) ?_
                  rotate_left 1
                  · (intro w hSw; (try dsimp only at hSw); (try simp only [List.getElem_toArray, List.getElem_cons_succ, List.getElem_cons_zero]); go_simp; (try with_reducible rfl))
                  (try simp only [Act.put, List.getElem_toArray, List.getElem_cons_succ, List.getElem_cons_zero, List.setIfInBounds_toArray, List.set_cons_zero, List.set_cons_succ])
                  refine wpAnyH_take (i := 24) (v := ?_) rfl (by kernel_rfl) (by kernel_rfl) (by kernel_rfl) (fun _ _ _ h => h) (Or.inl ⟨by rfl, ?_⟩) (by assumption) ?_
                  rotate_left 1
                  · (intro w hSw; (try dsimp only at hSw); (try simp only [List.getElem_toArray, List.getElem_cons_succ, List.getElem_cons_zero]); go_simp; (try with_reducible rfl))
                  (try simp only [Act.put, List.getElem_toArray, List.getElem_cons_succ, List.getElem_cons_zero, List.setIfInBounds_toArray, List.set_cons_zero, List.set_cons_succ])
                  refine wpAnyH_take (i := 25) (v := ?_) rfl (by kernel_rfl) (by kernel_rfl) (by kernel_rfl) (fun _ _ _ h => h) (Or.inl ⟨by rfl, ?_⟩) (by assumption) ?_
                  rotate_left 1
                  · (intro w hSw; (try dsimp only at hSw); (try simp only [List.getElem_toArray, List.getElem_cons_succ, List.getElem_cons_zero]); go_simp; (try with_reducible rfl))
                  (try simp only [Act.put, List.getElem_toArray, List.getElem_cons_succ, List.getElem_cons_zero, List.setIfInBounds_toArray, List.set_cons_zero, List.set_cons_succ])
                  refine wpAnyH_take (i := 26) (v := ?_) rfl (by kernel_rfl) (by kernel_rfl) (by kernel_rfl) (fun _ _ _ h => h) (Or.inl ⟨by rfl, ?_⟩) (by assumption) ?_
                  rotate_left 1
                  · (intro w hSw; (try dsimp only at hSw); (try simp only [List.getElem_toArray, List.getElem_cons_succ, List.getElem_cons_zero]); go_simp; (try with_reducible rfl))
                  (try simp only [Act.put, List.getElem_toArray, List.getElem_cons_succ, List.getElem_cons_zero, List.setIfInBounds_toArray, List.set_cons_zero, List.set_cons_succ])
                  refine wpAnyH_ready (rs := [27]) (by kernel_rfl) (by simp) ?_
                  refine AllReadyH.cons rfl (fun K hK => ?_) AllReadyH.nil
                  (try simp only [List.getElem_toArray, List.getElem_cons_succ, List.getElem_cons_zero])
                  go_simp
                  refine ((CoreMay.may_any _ (lamT a) (Nat.le_refl _) (by omega) (free - 1) (by have := Qd1.out; omega) (by have := Qd2.out; omega) _ _ _ (Kd.C_below Cl.out hHeld.2.2.2.2.2.2.2.2.2.2.2.2) (Nat.le_refl 1)).mono fun e w' h => (⟨h.1.trans (by rw [HMN.out]), h.2⟩ : e = .returned (.bool true) ∧ _)).mono ?_
                  rintro e w9 ⟨rfl, hb⟩
                  simp only []
                  refine hK.out _ _ ?_ (fun hHeld => ?_)
                  · (try dsimp only); exact keepT12 hHeld hb
                  clear hK K
                  (try simp only [Act.put, List.getElem_toArray, List.getElem_cons_succ, List.getElem_cons_zero, List.setIfInBounds_toArray, List.set_cons_zero, List.set_cons_succ])
                  refine wpAnyH_take (i := 28) (v := ?_) rfl (by kernel_rfl) (by kernel_rfl) (by kernel_rfl) (fun _ _ _ h => h) (Or.inl ⟨by rfl, ?_⟩) (by assumption) ?_
                  rotate_left 1
                  · (intro w hSw; (try dsimp only at hSw); (try simp only [List.getElem_toArray, List.getElem_cons_succ, List.getElem_cons_zero]); go_simp; (try with_reducible rfl))
                  (try simp only [Act.put, List.getElem_toArray, List.getElem_cons_succ, List.getElem_cons_zero, List.setIfInBounds_toArray, List.set_cons_zero, List.set_cons_succ])
                  refine wpAnyH_take (i := 29) (v := ?_) rfl (by kernel_rfl) (by kernel_rfl) (by kernel_rfl) (fun _ _ _ h => h) (Or.inl ⟨by rfl, ?_⟩) (by assumption) ?_
                  rotate_left 1
                  · (intro w hSw; (try dsimp only at hSw); (try simp only [List.getElem_toArray, List.getElem_cons_succ, List.getElem_cons_zero]); go_simp; (try with_reducible rfl))
                  (try simp only [Act.put, List.getElem_toArray, List.getElem_cons_succ, List.getElem_cons_zero, List.setIfInBounds_toArray, List.set_cons_zero, List.set_cons_succ])
                  refine wpAnyH_take (i := 30) (v := ?_) rfl (by kernel_rfl) (by kernel_rfl) (by kernel_rfl) (fun _ _ _ h => h) (Or.inl ⟨by rfl, ?_⟩) (by assumption) ?_
                  rotate_left 1
                  · (intro w hSw; (try dsimp only at hSw); (try simp only [List.getElem_toArray, List.getElem_cons_succ, List.getElem_cons_zero]); go_simp; (try with_reducible rfl))
                  (try simp only [Act.put, List.getElem_toArray, List.getElem_cons_succ, List.getElem_cons_zero, List.setIfInBounds_toArray, List.set_cons_zero, List.set_cons_succ])
                  refine wpAnyH_done (by kernel_rfl) ?_ _
                  have HB9 := Lib.hid (below_step HB.out hHeld.2.2.2.2.2.2.2.2.2.2.2.2)
                  clear hHeld
                  go_wp2_with fail
                  go_ret
                  exact ⟨rfl, HB9.out⟩
              | true =>
                have bt : (sa.toList == sb.toList) = true := by rw [← Vab.out, ← CoreInj.text_same a b free free VA.out VB.out, ← Sat.out, ← Sbt.out, Lib.toList_data, Lib.toList_data]; exact CoreInj.beq_decide _ _
                have cu := CoreFix.C1 (k24_mk w5 a (A3 := Aa) (c3 := ca) hla Ca.out)
                change Kd.C k24 (w5.alloc (Obj.cells #[.int .i64 a.f0, .int .i64 a.f1, .string a.f2, .slice Aa a.f3.length ca] 24)) _ 1 (lamT a).f3 at cu
                have hr := below_alloc (Below.refl w5.heap.size w5) (Obj.cells #[.int .i64 a.f0, .int .i64 a.f1, .string a.f2, .slice Aa a.f3.length ca] 24)
                have sr := World.size_alloc w5 (Obj.cells #[.int .i64 a.f0, .int .i64 a.f1, .string a.f2, .slice Aa a.f3.length ca] 24)
                generalize w5.alloc (Obj.cells #[.int .i64 a.f0, .int .i64 a.f1, .string a.f2, .slice Aa a.f3.length ca] 24) = wr at cu hr sr ⊢
                have bl := blk_new wr (Obj.cells #[.int .i64 2, .int .i64 0, .string ⟨#[]⟩, .slice (some ⟨w5.heap.size, 0, none⟩) 1 1] 24)
                have hl := below_alloc (Below.refl wr.heap.size wr) (Obj.cells #[.int .i64 2, .int .i64 0, .string ⟨#[]⟩, .slice (some ⟨w5.heap.size, 0, none⟩) 1 1] 24)
                rw [sr] at bl
                generalize wr.alloc (Obj.cells #[.int .i64 2, .int .i64 0, .string ⟨#[]⟩, .slice (some ⟨w5.heap.size, 0, none⟩) 1 1] 24) = wz at bl hl ⊢
                have Cl := Lib.hid (Kd.C_below cu hl)
                have hb := below_step hr hl
                have Bl := Lib.hid bl
                clear hr hl bl cu sr
                have n0_ := Lib.hid (below_step HB.out hb)
                have nCa := Lib.hid (Kd.C_below Ca.out hb); have nBa := Lib.hid (blk_below Ba.out hb)
                have nCb := Lib.hid (Kd.C_below Cb.out hb); have nBb := Lib.hid (blk_below Bb.out hb)
                clear HB Ca Ba Cb Bb hb a0 a1 a2 a3 b0 b1 b2 b3
                have HB := n0_
                have Ca := nCa; have Ba := nBa
                have Cb := nCb; have Bb := nBb
                clear n0_ nCa nBa nCb nBb
                have a0 := blk_cell Ba.out 0
                have a1 := blk_cell Ba.out 1
                have a2 := blk_cell Ba.out 2
                have a3 := blk_cell Ba.out 3
                have b0 := blk_cell Bb.out 0
                have b1 := blk_cell Bb.out 1
                have b2 := blk_cell Bb.out 2
                have b3 := blk_cell Bb.out 3
                simp only [List.getElem?_toArray, List.getElem?_cons_zero, List.getElem?_cons_succ] at a0 a1 a2 a3 b0 b1 b2 b3
                have l0 := blk_cell Bl.out 0; have l1 := blk_cell Bl.out 1; have l2 := blk_cell Bl.out 2; have l3 := blk_cell Bl.out 3
                simp only [List.getElem?_toArray, List.getElem?_cons_zero, List.getElem?_cons_succ] at l0 l1 l2 l3
                rcases Classical.em (free = 0) with q | q
                · have bz : (free == 0) = true := beq_iff_eq.2 q
                  clear q
                  refine wp_region_held_drew (S := (fun w' => w'.cell? ⟨w.heap.size, 0, none⟩ = some (.int .i64 a.f0) ∧ w'.cell? ⟨w.heap.size, 1, none⟩ = some (.int .i64 a.f1) ∧ w'.cell? ⟨w.heap.size, 2, none⟩ = some (.string a.f2) ∧ w'.cell? ⟨w.heap.size, 3, none⟩ = some (.slice Aa a.f3.length ca) ∧ w'.cell? ⟨w.heap.size + 1, 0, none⟩ = some (.int .i64 b.f0) ∧ w'.cell? ⟨w.heap.size + 1, 1, none⟩ = some (.int .i64 b.f1) ∧ w'.cell? ⟨w.heap.size + 1, 2, none⟩ = some (.string b.f2) ∧ w'.cell? ⟨w.heap.size + 1, 3, none⟩ = some (.slice Ab b.f3.length cb) ∧ w'.cell? ⟨w5.heap.size + 1, 0, none⟩ = some (.int .i64 2) ∧ w'.cell? ⟨w5.heap.size + 1, 1, none⟩ = some (.int .i64 0) ∧ w'.cell? ⟨w5.heap.size + 1, 2, none⟩ = some (.string ⟨#[]⟩) ∧ w'.cell? ⟨w5.heap.size + 1, 3, none⟩ = some (.slice (some ⟨w5.heap.size, 0, none⟩) 1 1) ∧ Below wz.heap.size wz w')) (by kernel_rfl) (by (try dsimp only); exact keepT12 ⟨a0, a1, a2, a3, b0, b1, b2, b3, l0, l1, l2, l3, Below.refl _ _⟩ (below_drew1 (Below.refl _ _))) (fun hHeld => ?_)
                  refine wpAnyH_take (i := 0) (v := ?_) rfl (by kernel_rfl) (by kernel_rfl) (by kernel_rfl) (fun _ _ _ h => h) (Or.inl ⟨by rfl, ?_⟩) (by assumption) ?_
                  rotate_left 1
                  · (intro w hSw; (try dsimp only at hSw); (try simp only [List.getElem_toArray, List.getElem_cons_succ, List.getElem_cons_zero]); go_simp; (try with_reducible rfl))
                  (try simp only [Act.put, List.getElem_toArray, List.getElem_cons_succ, List.getElem_cons_zero, List.setIfInBounds_toArray, List.set_cons_zero, List.set_cons_succ])
                  refine wpAnyH_take (i := 2) (v := ?_) rfl (by kernel_rfl) (by kernel_rfl) (by kernel_rfl) (fun _ _ _ h => h) (Or.inl ⟨by rfl, ?_⟩) (by assumption) ?_
                  rotate_left 1
                  · (intro w hSw; (try dsimp only at hSw); (try simp only [List.getElem_toArray, List.getElem_cons_succ, List.getElem_cons_zero]); go_simp; (try with_reducible rfl))
                  (try simp only [Act.put, List.getElem_toArray, List.getElem_cons_succ, List.getElem_cons_zero, List.setIfInBounds_toArray, List.set_cons_zero, List.set_cons_succ])
                  refine wpAnyH_take (i := 5) (v := ?_) rfl (by kernel_rfl) (by kernel_rfl) (by kernel_rfl) (fun _ _ _ h => h) (Or.inl ⟨by rfl, ?_⟩) (by assumption) ?_
                  rotate_left 1
                  · (intro w hSw; (try dsimp only at hSw); (try simp only [List.getElem_toArray, List.getElem_cons_succ, List.getElem_cons_zero]); go_simp; (try with_reducible rfl))
                  (try simp only [Act.put, List.getElem_toArray, List.getElem_cons_succ, List.getElem_cons_zero, List.setIfInBounds_toArray, List.set_cons_zero, List.set_cons_succ])
                  refine wpAnyH_take (i := 6) (v := ?_) rfl (by kernel_rfl) (by kernel_rfl) (by kernel_rfl) (fun _ _ _ h => h) (Or.inl ⟨by rfl, ?_⟩) (by assumption) ?_
                  rotate_left 1
                  · (intro w hSw; (try dsimp only at hSw); (try simp only [List.getElem_toArray, List.getElem_cons_succ, List.getElem_cons_zero]); go_simp; (try with_reducible rfl))
                  (try simp only [Act.put, List.getElem_toArray, List.getElem_cons_succ, List.getElem_cons_zero, List.setIfInBounds_toArray, List.set_cons_zero, List.set_cons_succ])
                  refine wpAnyH_ready (rs := [1]) (by kernel_rfl) (by simp) ?_
                  refine AllReadyH.cons rfl (fun K hK => ?_) AllReadyH.nil
                  (try simp only [List.getElem_toArray, List.getElem_cons_succ, List.getElem_cons_zero])
                  go_simp
                  refine ((CoreText.text_any a (by omega) oka (by have := CoreTxl.text_len a oka; omega) _ _ _ (Kd.C_below Ca.out hHeld.2.2.2.2.2.2.2.2.2.2.2.2) hla (HT.out.on (below_step HB.out hHeld.2.2.2.2.2.2.2.2.2.2.2.2)).here).mono fun e w' h => (⟨h.1.trans (by rw [Sat.out]), h.2⟩ : e = .returned (.string sa) ∧ _)).mono ?_
                  rintro e w9 ⟨rfl, hb⟩
                  simp only []
                  refine hK.out _ _ ?_ (fun hHeld => ?_)
                  · (try dsimp only); exact keepT12 hHeld hb
                  clear hK K
                  (try simp only [Act.put, List.getElem_toArray, List.getElem_cons_succ, List.getElem_cons_zero, List.setIfInBounds_toArray, List.set_cons_zero, List.set_cons_succ])
                  refine wpAnyH_ready (rs := [3]) (by kernel_rfl) (by simp) ?_
                  refine AllReadyH.cons rfl (fun K hK => ?_) AllReadyH.nil
                  (try simp only [List.getElem_toArray, List.getElem_cons_succ, List.getElem_cons_zero])
                  go_simp
                  refine ((CoreText.text_any b (by omega) okb (by have := CoreTxl.text_len b okb; omega) _ _ _ (Kd.C_below Cb.out hHeld.2.2.2.2.2.2.2.2.2.2.2.2) hlb (HT.out.on (below_step HB.out hHeld.2.2.2.2.2.2.2.2.2.2.2.2)).here).mono fun e w' h => (⟨h.1.trans (by rw [Sbt.out]), h.2⟩ : e = .returned (.string sb) ∧ _)).mono ?_
                  rintro e w9 ⟨rfl, hb⟩
                  simp only []
                  refine hK.out _ _ ?_ (fun hHeld => ?_)
                  · (try dsimp only); exact keepT12 hHeld hb
                  clear hK K
                  (try simp only [Act.put, List.getElem_toArray, List.getElem_cons_succ, List.getElem_cons_zero, List.setIfInBounds_toArray, List.set_cons_zero, List.set_cons_succ])
                  refine wpAnyH_take (i := 4) (v := ?_) rfl (by kernel_rfl) (by kernel_rfl) (by kernel_rfl) (fun _ _ _ h => h) (Or.inl ⟨by rfl, ?_⟩) (by assumption) ?_
                  rotate_left 1
                  · (intro w hSw; (try dsimp only at hSw); (try simp only [List.getElem_toArray, List.getElem_cons_succ, List.getElem_cons_zero]); go_simp; (try with_reducible rfl))
                  (try simp only [Act.put, List.getElem_toArray, List.getElem_cons_succ, List.getElem_cons_zero, List.setIfInBounds_toArray, List.set_cons_zero, List.set_cons_succ])
                  refine wpAnyH_ready (rs := [7]) (by kernel_rfl) (by simp) ?_
                  refine AllReadyH.cons rfl (fun K hK => ?_) AllReadyH.nil
                  (try simp only [List.getElem_toArray, List.getElem_cons_succ, List.getElem_cons_zero])
                  go_simp
                  refine ((CoreSm.same_any _ a (Nat.le_refl _) (by omega) b _ _ _ _ _ (Kd.C_below Ca.out hHeld.2.2.2.2.2.2.2.2.2.2.2.2) hla (Kd.C_below Cb.out hHeld.2.2.2.2.2.2.2.2.2.2.2.2) hlb).mono fun e w' h => (⟨h.1.trans (by rw [Vab.out]), h.2⟩ : e = .returned (.bool true) ∧ _)).mono ?_
                  rintro e w9 ⟨rfl, hb⟩
                  simp only []
                  refine hK.out _ _ ?_ (fun hHeld => ?_)
                  · (try dsimp only); exact keepT12 hHeld hb
                  clear hK K
                  (try simp only [Act.put, List.getElem_toArray, List.getElem_cons_succ, List.getElem_cons_zero, List.setIfInBounds_toArray, List.set_cons_zero, List.set_cons_succ])
                  refine wpAnyH_take (i := 8) (v := ?_) rfl (by kernel_rfl) (by kernel_rfl) (by kernel_rfl) (fun _ _ _ h => h) (Or.inl ⟨by rfl, ?_⟩) (by assumption) ?_
                  rotate_left 1
                  · (intro w hSw; (try dsimp only at hSw); (try simp only [List.getElem_toArray, List.getElem_cons_succ, List.getElem_cons_zero]); go_simp; (try with_reducible rfl))
                  (try simp only [Act.put, List.getElem_toArray, List.getElem_cons_succ, List.getElem_cons_zero, List.setIfInBounds_toArray, List.set_cons_zero, List.set_cons_succ])
                  refine wpAnyH_take (i := 9) (v := ?_) rfl (by kernel_rfl) (by kernel_rfl) (by kernel_rfl) (fun _ _ _ h => h) (Or.inl ⟨by rfl, ?_⟩) (by assumption) ?_
                  rotate_left 1
                  · (intro w hSw; (try dsimp only at hSw); (try simp only [List.getElem_toArray, List.getElem_cons_succ, List.getElem_cons_zero]); go_simp; (try with_reducible rfl))
                  (try simp only [Act.put, List.getElem_toArray, List.getElem_cons_succ, List.getElem_cons_zero, List.setIfInBounds_toArray, List.set_cons_zero, List.set_cons_succ])
                  refine wpAnyH_take (i := 10) (v := ?_) rfl (by kernel_rfl) (by kernel_rfl) (by kernel_rfl) (fun _ _ _ h => h) (Or.inl ⟨by rfl, ?_⟩) (by assumption) ?_
                  rotate_left 1
                  · (intro w hSw; (try dsimp only at hSw); (try simp only [List.getElem_toArray, List.getElem_cons_succ, List.getElem_cons_zero]); go_simp; (try with_reducible rfl))
                  (try simp only [Act.put, List.getElem_toArray, List.getElem_cons_succ, List.getElem_cons_zero, List.setIfInBounds_toArray, List.set_cons_zero, List.set_cons_succ])
                  refine wpAnyH_take (i := 11) (v := ?_) rfl (by kernel_rfl) (by kernel_rfl) (by kernel_rfl) (fun _ _ _ h => h) (Or.inl ⟨by rfl, ?_⟩) (by assumption) ?_
                  rotate_left 1
                  · (intro w hSw; (try dsimp only at hSw); (try simp only [List.getElem_toArray, List.getElem_cons_succ, List.getElem_cons_zero]); go_simp; (try with_reducible rfl))
                  (try simp only [Act.put, List.getElem_toArray, List.getElem_cons_succ, List.getElem_cons_zero, List.setIfInBounds_toArray, List.set_cons_zero, List.set_cons_succ])
                  refine wpAnyH_take (i := 12) (v := ?_) rfl (by kernel_rfl) (by kernel_rfl) (by kernel_rfl) (fun _ _ _ h => h) (Or.inl ⟨by rfl, ?_⟩) (by assumption) ?_
                  rotate_left 1
                  · (intro w hSw; (try dsimp only at hSw); (try simp only [List.getElem_toArray, List.getElem_cons_succ, List.getElem_cons_zero]); go_simp; (try with_reducible rfl))
                  (try simp only [Act.put, List.getElem_toArray, List.getElem_cons_succ, List.getElem_cons_zero, List.setIfInBounds_toArray, List.set_cons_zero, List.set_cons_succ])
                  refine wpAnyH_ready (rs := [13]) (by kernel_rfl) (by simp) ?_
                  refine AllReadyH.cons rfl (fun K hK => ?_) AllReadyH.nil
                  (try simp only [List.getElem_toArray, List.getElem_cons_succ, List.getElem_cons_zero])
                  go_simp
                  refine ((CoreMay.may_any _ a (Nat.le_refl _) (by omega) (free + 1) (by have := Qd1.out; omega) (by have := Qd2.out; omega) _ _ _ (Kd.C_below Ca.out hHeld.2.2.2.2.2.2.2.2.2.2.2.2) hla).mono fun e w' h => (⟨h.1.trans (by rw [HMA.out]), h.2⟩ : e = .returned (.bool true) ∧ _)).mono ?_
                  rintro e w9 ⟨rfl, hb⟩
                  simp only []
                  refine hK.out _ _ ?_ (fun hHeld => ?_)
                  · (try dsimp only); exact keepT12 hHeld hb
                  clear hK K
                  (try simp only [Act.put, List.getElem_toArray, List.getElem_cons_succ, List.getElem_cons_zero, List.setIfInBounds_toArray, List.set_cons_zero, List.set_cons_succ])
                  refine wpAnyH_take (i := 14) (v := ?_) rfl (by kernel_rfl) (by kernel_rfl) (by kernel_rfl) (fun _ _ _ h => h) (Or.inl ⟨by rfl, ?_⟩) (by assumption) ?_
                  rotate_left 1
                  · (intro w hSw; (try dsimp only at hSw); (try simp only [List.getElem_toArray, List.getElem_cons_succ, List.getElem_cons_zero]); go_simp; (try with_reducible rfl))
                  (try simp only [Act.put, List.getElem_toArray, List.getElem_cons_succ, List.getElem_cons_zero, List.setIfInBounds_toArray, List.set_cons_zero, List.set_cons_succ])
                  refine wpAnyH_take (i := 15) (v := ?_) rfl (by kernel_rfl) (by kernel_rfl) (by kernel_rfl) (fun _ _ _ h => h) (Or.inl ⟨by rfl, ?_⟩) (by assumption) ?_
                  rotate_left 1
                  · (intro w hSw; (try dsimp only at hSw); (try simp only [List.getElem_toArray, List.getElem_cons_succ, List.getElem_cons_zero]); go_simp; (try with_reducible rfl))
                  (try simp only [Act.put, List.getElem_toArray, List.getElem_cons_succ, List.getElem_cons_zero, List.setIfInBounds_toArray, List.set_cons_zero, List.set_cons_succ])
                  refine wpAnyH_take (i := 16) (v := ?_) rfl (by kernel_rfl) (by kernel_rfl) (by kernel_rfl) (fun _ _ _ h => h) (Or.inl ⟨by rfl, ?_⟩) (by assumption) ?_
                  rotate_left 1
                  · (intro w hSw; (try dsimp only at hSw); (try simp only [List.getElem_toArray, List.getElem_cons_succ, List.getElem_cons_zero]); go_simp; (try with_reducible rfl))
                  (try simp only [Act.put, List.getElem_toArray, List.getElem_cons_succ, List.getElem_cons_zero, List.setIfInBounds_toArray, List.set_cons_zero, List.set_cons_succ])
                  refine wpAnyH_take (i := 17) (v := ?_) rfl (by kernel_rfl) (by kernel_rfl) (by kernel_rfl) (fun _ _ _ h => h) (Or.inl ⟨by rfl, ?_⟩) (by assumption) ?_
                  rotate_left 1
                  · (intro w hSw; (try dsimp only at hSw); (try simp only [List.getElem_toArray, List.getElem_cons_succ, List.getElem_cons_zero]); go_simp; (try with_reducible rfl))
                  (try simp only [Act.put, List.getElem_toArray, List.getElem_cons_succ, List.getElem_cons_zero, List.setIfInBounds_toArray, List.set_cons_zero, List.set_cons_succ])
                  refine wpAnyH_ready (rs := [18]) (by kernel_rfl) (by simp) ?_
                  refine AllReadyH.cons rfl (fun K hK => ?_) AllReadyH.nil
                  (try simp only [List.getElem_toArray, List.getElem_cons_succ, List.getElem_cons_zero])
                  go_simp
                  refine ((CoreMay.may_any _ (lamT a) (Nat.le_refl _) (by omega) (free) (by have := Qd1.out; omega) (by have := Qd2.out; omega) _ _ _ (Kd.C_below Cl.out hHeld.2.2.2.2.2.2.2.2.2.2.2.2) (Nat.le_refl 1)).mono fun e w' h => (⟨h.1.trans (by rw [HML.out]), h.2⟩ : e = .returned (.bool true) ∧ _)).mono ?_
                  rintro e w9 ⟨rfl, hb⟩
                  simp only []
                  refine hK.out _ _ ?_ (fun hHeld => ?_)
                  · (try dsimp only); exact keepT12 hHeld hb
                  clear hK K
                  (try simp only [Act.put, List.getElem_toArray, List.getElem_cons_succ, List.getElem_cons_zero, List.setIfInBounds_toArray, List.set_cons_zero, List.set_cons_succ])
                  refine wpAnyH_take (i := 19) (v := ?_) rfl (by kernel_rfl) (by kernel_rfl) (by kernel_rfl) (fun _ _ _ h => h) (Or.inl ⟨by rfl, ?_⟩) (by assumption) ?_
                  rotate_left 1
                  · (intro w hSw; (try dsimp only at hSw); (try simp only [List.getElem_toArray, List.getElem_cons_succ, List.getElem_cons_zero]); go_simp; (try with_reducible rfl))
                  (try simp only [Act.put, List.getElem_toArray, List.getElem_cons_succ, List.getElem_cons_zero, List.setIfInBounds_toArray, List.set_cons_zero, List.set_cons_succ])
                  refine wpAnyH_take (i := 20) (v := ?_) rfl (by kernel_rfl) (by kernel_rfl) (by kernel_rfl) (fun _ _ _ h => h) (Or.inl ⟨by rfl, ?_⟩) (by assumption) ?_
                  rotate_left 1
                  · (intro w hSw; (try dsimp only at hSw); (try simp only [List.getElem_toArray, List.getElem_cons_succ, List.getElem_cons_zero]); go_simp; (try with_reducible rfl))
                  (try simp only [Act.put, List.getElem_toArray, List.getElem_cons_succ, List.getElem_cons_zero, List.setIfInBounds_toArray, List.set_cons_zero, List.set_cons_succ])
                  refine wpAnyH_take (i := 21) (v := ?_) rfl (by kernel_rfl) (by kernel_rfl) (by kernel_rfl) (fun _ _ _ h => h) (Or.inl ⟨by rfl, ?_⟩) (by assumption) ?_
                  rotate_left 1
                  · (intro w hSw; (try dsimp only at hSw); (try simp only [List.getElem_toArray, List.getElem_cons_succ, List.getElem_cons_zero]); go_simp; (try with_reducible rfl))
                  (try simp only [Act.put, List.getElem_toArray, List.getElem_cons_succ, List.getElem_cons_zero, List.setIfInBounds_toArray, List.set_cons_zero, List.set_cons_succ])
                  refine wpAnyH_take (i := 22) (v := ?_) rfl (by kernel_rfl) (by kernel_rfl) (by kernel_rfl) (fun _ _ _ h => h) (Or.inl ⟨by rfl, ?_⟩) (by assumption) ?_
                  rotate_left 1
                  · (intro w hSw; (try dsimp only at hSw); (try simp only [List.getElem_toArray, List.getElem_cons_succ, List.getElem_cons_zero]); go_simp; (try with_reducible rfl))
                  (try simp only [Act.put, List.getElem_toArray, List.getElem_cons_succ, List.getElem_cons_zero, List.setIfInBounds_toArray, List.set_cons_zero, List.set_cons_succ])
                  refine wpAnyH_take (i := 23) (v := ?_) rfl (by kernel_rfl) (by kernel_rfl) (by kernel_rfl) (fun _ _ _ h => h) (Or.inl ⟨by rfl, ?_⟩) (by assumption) ?_
                  rotate_left 1
                  · (intro w hSw; (try dsimp only at hSw); (try simp only [List.getElem_toArray, List.getElem_cons_succ, List.getElem_cons_zero]); go_simp; (try with_reducible rfl))
                  (try simp only [Act.put, List.getElem_toArray, List.getElem_cons_succ, List.getElem_cons_zero, List.setIfInBounds_toArray, List.set_cons_zero, List.set_cons_succ])
                  refine wpAnyH_take (i := 24) (v := undef) rfl (by kernel_rfl) (by kernel_rfl) (by kernel_rfl) (fun _ _ _ h => h) (Or.inr ⟨by rfl, rfl⟩) (by assumption) ?_
                  (try simp only [Act.put, List.getElem_toArray, List.getElem_cons_succ, List.getElem_cons_zero, List.setIfInBounds_toArray, List.set_cons_zero, List.set_cons_succ])
                  refine wpAnyH_take (i := 25) (v := undef) rfl (by kernel_rfl) (by kernel_rfl) (by kernel_rfl) (fun _ _ _ h => h) (Or.inr ⟨by rfl, rfl⟩) (by assumption) ?_
                  (try simp only [Act.put, List.getElem_toArray, List.getElem_cons_succ, List.getElem_cons_zero, List.setIfInBounds_toArray, List.set_cons_zero, List.set_cons_succ])
                  refine wpAnyH_take (i := 26) (v := undef) rfl (by kernel_rfl) (by kernel_rfl) (by kernel_rfl) (fun _ _ _ h => h) (Or.inr ⟨by rfl, rfl⟩) (by assumption) ?_
                  (try simp only [Act.put, List.getElem_toArray, List.getElem_cons_succ, List.getElem_cons_zero, List.setIfInBounds_toArray, List.set_cons_zero, List.set_cons_succ])
                  refine wpAnyH_take (i := 27) (v := undef) rfl (by kernel_rfl) (by kernel_rfl) (by kernel_rfl) (fun _ _ _ h => h) (Or.inr ⟨by rfl, rfl⟩) (by assumption) ?_
                  (try simp only [Act.put, List.getElem_toArray, List.getElem_cons_succ, List.getElem_cons_zero, List.setIfInBounds_toArray, List.set_cons_zero, List.set_cons_succ])
                  refine wpAnyH_take (i := 28) (v := ?_) rfl (by kernel_rfl) (by kernel_rfl) (by kernel_rfl) (fun _ _ _ h => h) (Or.inl ⟨by rfl, ?_⟩) (by assumption) ?_
                  rotate_left 1
                  · (intro w hSw; (try dsimp only at hSw); (try simp only [List.getElem_toArray, List.getElem_cons_succ, List.getElem_cons_zero]); go_simp; (try with_reducible rfl))
                  (try simp only [Act.put, List.getElem_toArray, List.getElem_cons_succ, List.getElem_cons_zero, List.setIfInBounds_toArray, List.set_cons_zero, List.set_cons_succ])
                  refine wpAnyH_take (i := 29) (v := ?_) rfl (by kernel_rfl) (by kernel_rfl) (by kernel_rfl) (fun _ _ _ h => h) (Or.inl ⟨by rfl, ?_⟩) (by assumption) ?_
                  rotate_left 1
                  · (intro w hSw; (try dsimp only at hSw); (try simp only [List.getElem_toArray, List.getElem_cons_succ, List.getElem_cons_zero]); go_simp; (try with_reducible rfl))
                  (try simp only [Act.put, List.getElem_toArray, List.getElem_cons_succ, List.getElem_cons_zero, List.setIfInBounds_toArray, List.set_cons_zero, List.set_cons_succ])
                  refine wpAnyH_take (i := 30) (v := ?_) rfl (by kernel_rfl) (by kernel_rfl) (by kernel_rfl) (fun _ _ _ h => h) (Or.inl ⟨by rfl, ?_⟩) (by assumption) ?_
                  rotate_left 1
                  · (intro w hSw; (try dsimp only at hSw); (try simp only [List.getElem_toArray, List.getElem_cons_succ, List.getElem_cons_zero]); go_simp; (try with_reducible rfl))
                  (try simp only [Act.put, List.getElem_toArray, List.getElem_cons_succ, List.getElem_cons_zero, List.setIfInBounds_toArray, List.set_cons_zero, List.set_cons_succ])
                  refine wpAnyH_done (by kernel_rfl) ?_ _
                  have HB9 := Lib.hid (below_step HB.out hHeld.2.2.2.2.2.2.2.2.2.2.2.2)
                  clear hHeld
                  go_wp2_with fail
                  go_ret
                  exact ⟨rfl, HB9.out⟩
                · have bz : (free == 0) = false := beq_eq_false_iff_ne.2 q
                  have HMN : Hid (may (lamT a) (free - 1) = true) := Lib.hid (by rw [show lamT a = ⟨2, 0, ByteArray.empty, [a]⟩ from rfl, CoreInj.lam_may, show free - 1 + 1 = free by omega, VA.out, decide_eq_true (by have := Qd1.out; omega)]; rfl)
                  clear q
                  refine wp_region_held_drew (S := (fun w' => w'.cell? ⟨w.heap.size, 0, none⟩ = some (.int .i64 a.f0) ∧ w'.cell? ⟨w.heap.size, 1, none⟩ = some (.int .i64 a.f1) ∧ w'.cell? ⟨w.heap.size, 2, none⟩ = some (.string a.f2) ∧ w'.cell? ⟨w.heap.size, 3, none⟩ = some (.slice Aa a.f3.length ca) ∧ w'.cell? ⟨w.heap.size + 1, 0, none⟩ = some (.int .i64 b.f0) ∧ w'.cell? ⟨w.heap.size + 1, 1, none⟩ = some (.int .i64 b.f1) ∧ w'.cell? ⟨w.heap.size + 1, 2, none⟩ = some (.string b.f2) ∧ w'.cell? ⟨w.heap.size + 1, 3, none⟩ = some (.slice Ab b.f3.length cb) ∧ w'.cell? ⟨w5.heap.size + 1, 0, none⟩ = some (.int .i64 2) ∧ w'.cell? ⟨w5.heap.size + 1, 1, none⟩ = some (.int .i64 0) ∧ w'.cell? ⟨w5.heap.size + 1, 2, none⟩ = some (.string ⟨#[]⟩) ∧ w'.cell? ⟨w5.heap.size + 1, 3, none⟩ = some (.slice (some ⟨w5.heap.size, 0, none⟩) 1 1) ∧ Below wz.heap.size wz w')) (by kernel_rfl) (by (try dsimp only); exact keepT12 ⟨a0, a1, a2, a3, b0, b1, b2, b3, l0, l1, l2, l3, Below.refl _ _⟩ (below_drew1 (Below.refl _ _))) (fun hHeld => ?_)
                  refine wpAnyH_take (i := 0) (v := ?_) rfl (by kernel_rfl) (by kernel_rfl) (by kernel_rfl) (fun _ _ _ h => h) (Or.inl ⟨by rfl, ?_⟩) (by assumption) ?_
                  rotate_left 1
                  · (intro w hSw; (try dsimp only at hSw); (try simp only [List.getElem_toArray, List.getElem_cons_succ, List.getElem_cons_zero]); go_simp; (try with_reducible rfl))
                  (try simp only [Act.put, List.getElem_toArray, List.getElem_cons_succ, List.getElem_cons_zero, List.setIfInBounds_toArray, List.set_cons_zero, List.set_cons_succ])
                  refine wpAnyH_take (i := 2) (v := ?_) rfl (by kernel_rfl) (by kernel_rfl) (by kernel_rfl) (fun _ _ _ h => h) (Or.inl ⟨by rfl, ?_⟩) (by assumption) ?_
                  rotate_left 1
                  · (intro w hSw; (try dsimp only at hSw); (try simp only [List.getElem_toArray, List.getElem_cons_succ, List.getElem_cons_zero]); go_simp; (try with_reducible rfl))
                  (try simp only [Act.put, List.getElem_toArray, List.getElem_cons_succ, List.getElem_cons_zero, List.setIfInBounds_toArray, List.set_cons_zero, List.set_cons_succ])
                  refine wpAnyH_take (i := 5) (v := ?_) rfl (by kernel_rfl) (by kernel_rfl) (by kernel_rfl) (fun _ _ _ h => h) (Or.inl ⟨by rfl, ?_⟩) (by assumption) ?_
                  rotate_left 1
                  · (intro w hSw; (try dsimp only at hSw); (try simp only [List.getElem_toArray, List.getElem_cons_succ, List.getElem_cons_zero]); go_simp; (try with_reducible rfl))
                  (try simp only [Act.put, List.getElem_toArray, List.getElem_cons_succ, List.getElem_cons_zero, List.setIfInBounds_toArray, List.set_cons_zero, List.set_cons_succ])
                  refine wpAnyH_take (i := 6) (v := ?_) rfl (by kernel_rfl) (by kernel_rfl) (by kernel_rfl) (fun _ _ _ h => h) (Or.inl ⟨by rfl, ?_⟩) (by assumption) ?_
                  rotate_left 1
                  · (intro w hSw; (try dsimp only at hSw); (try simp only [List.getElem_toArray, List.getElem_cons_succ, List.getElem_cons_zero]); go_simp; (try with_reducible rfl))
                  (try simp only [Act.put, List.getElem_toArray, List.getElem_cons_succ, List.getElem_cons_zero, List.setIfInBounds_toArray, List.set_cons_zero, List.set_cons_succ])
                  refine wpAnyH_ready (rs := [1]) (by kernel_rfl) (by simp) ?_
                  refine AllReadyH.cons rfl (fun K hK => ?_) AllReadyH.nil
                  (try simp only [List.getElem_toArray, List.getElem_cons_succ, List.getElem_cons_zero])
                  go_simp
                  refine ((CoreText.text_any a (by omega) oka (by have := CoreTxl.text_len a oka; omega) _ _ _ (Kd.C_below Ca.out hHeld.2.2.2.2.2.2.2.2.2.2.2.2) hla (HT.out.on (below_step HB.out hHeld.2.2.2.2.2.2.2.2.2.2.2.2)).here).mono fun e w' h => (⟨h.1.trans (by rw [Sat.out]), h.2⟩ : e = .returned (.string sa) ∧ _)).mono ?_
                  rintro e w9 ⟨rfl, hb⟩
                  simp only []
                  refine hK.out _ _ ?_ (fun hHeld => ?_)
                  · (try dsimp only); exact keepT12 hHeld hb
                  clear hK K
                  (try simp only [Act.put, List.getElem_toArray, List.getElem_cons_succ, List.getElem_cons_zero, List.setIfInBounds_toArray, List.set_cons_zero, List.set_cons_succ])
                  refine wpAnyH_ready (rs := [3]) (by kernel_rfl) (by simp) ?_
                  refine AllReadyH.cons rfl (fun K hK => ?_) AllReadyH.nil
                  (try simp only [List.getElem_toArray, List.getElem_cons_succ, List.getElem_cons_zero])
                  go_simp
                  refine ((CoreText.text_any b (by omega) okb (by have := CoreTxl.text_len b okb; omega) _ _ _ (Kd.C_below Cb.out hHeld.2.2.2.2.2.2.2.2.2.2.2.2) hlb (HT.out.on (below_step HB.out hHeld.2.2.2.2.2.2.2.2.2.2.2.2)).here).mono fun e w' h => (⟨h.1.trans (by rw [Sbt.out]), h.2⟩ : e = .returned (.string sb) ∧ _)).mono ?_
                  rintro e w9 ⟨rfl, hb⟩
                  simp only []
                  refine hK.out _ _ ?_ (fun hHeld => ?_)
                  · (try dsimp only); exact keepT12 hHeld hb
                  clear hK K
                  (try simp only [Act.put, List.getElem_toArray, List.getElem_cons_succ, List.getElem_cons_zero, List.setIfInBounds_toArray, List.set_cons_zero, List.set_cons_succ])
                  refine wpAnyH_take (i := 4) (v := ?_) rfl (by kernel_rfl) (by kernel_rfl) (by kernel_rfl) (fun _ _ _ h => h) (Or.inl ⟨by rfl, ?_⟩) (by assumption) ?_
                  rotate_left 1
                  · (intro w hSw; (try dsimp only at hSw); (try simp only [List.getElem_toArray, List.getElem_cons_succ, List.getElem_cons_zero]); go_simp; (try with_reducible rfl))
                  (try simp only [Act.put, List.getElem_toArray, List.getElem_cons_succ, List.getElem_cons_zero, List.setIfInBounds_toArray, List.set_cons_zero, List.set_cons_succ])
                  refine wpAnyH_ready (rs := [7]) (by kernel_rfl) (by simp) ?_
                  refine AllReadyH.cons rfl (fun K hK => ?_) AllReadyH.nil
                  (try simp only [List.getElem_toArray, List.getElem_cons_succ, List.getElem_cons_zero])
                  go_simp
                  refine ((CoreSm.same_any _ a (Nat.le_refl _) (by omega) b _ _ _ _ _ (Kd.C_below Ca.out hHeld.2.2.2.2.2.2.2.2.2.2.2.2) hla (Kd.C_below Cb.out hHeld.2.2.2.2.2.2.2.2.2.2.2.2) hlb).mono fun e w' h => (⟨h.1.trans (by rw [Vab.out]), h.2⟩ : e = .returned (.bool true) ∧ _)).mono ?_
                  rintro e w9 ⟨rfl, hb⟩
                  simp only []
                  refine hK.out _ _ ?_ (fun hHeld => ?_)
                  · (try dsimp only); exact keepT12 hHeld hb
                  clear hK K
                  (try simp only [Act.put, List.getElem_toArray, List.getElem_cons_succ, List.getElem_cons_zero, List.setIfInBounds_toArray, List.set_cons_zero, List.set_cons_succ])
                  refine wpAnyH_take (i := 8) (v := ?_) rfl (by kernel_rfl) (by kernel_rfl) (by kernel_rfl) (fun _ _ _ h => h) (Or.inl ⟨by rfl, ?_⟩) (by assumption) ?_
                  rotate_left 1
                  · (intro w hSw; (try dsimp only at hSw); (try simp only [List.getElem_toArray, List.getElem_cons_succ, List.getElem_cons_zero]); go_simp; (try with_reducible rfl))
                  (try simp only [Act.put, List.getElem_toArray, List.getElem_cons_succ, List.getElem_cons_zero, List.setIfInBounds_toArray, List.set_cons_zero, List.set_cons_succ])
                  refine wpAnyH_take (i := 9) (v := ?_) rfl (by kernel_rfl) (by kernel_rfl) (by kernel_rfl) (fun _ _ _ h => h) (Or.inl ⟨by rfl, ?_⟩) (by assumption) ?_
                  rotate_left 1
                  · (intro w hSw; (try dsimp only at hSw); (try simp only [List.getElem_toArray, List.getElem_cons_succ, List.getElem_cons_zero]); go_simp; (try with_reducible rfl))
                  (try simp only [Act.put, List.getElem_toArray, List.getElem_cons_succ, List.getElem_cons_zero, List.setIfInBounds_toArray, List.set_cons_zero, List.set_cons_succ])
                  refine wpAnyH_take (i := 10) (v := ?_) rfl (by kernel_rfl) (by kernel_rfl) (by kernel_rfl) (fun _ _ _ h => h) (Or.inl ⟨by rfl, ?_⟩) (by assumption) ?_
                  rotate_left 1
                  · (intro w hSw; (try dsimp only at hSw); (try simp only [List.getElem_toArray, List.getElem_cons_succ, List.getElem_cons_zero]); go_simp; (try with_reducible rfl))
                  (try simp only [Act.put, List.getElem_toArray, List.getElem_cons_succ, List.getElem_cons_zero, List.setIfInBounds_toArray, List.set_cons_zero, List.set_cons_succ])
                  refine wpAnyH_take (i := 11) (v := ?_) rfl (by kernel_rfl) (by kernel_rfl) (by kernel_rfl) (fun _ _ _ h => h) (Or.inl ⟨by rfl, ?_⟩) (by assumption) ?_
                  rotate_left 1
                  · (intro w hSw; (try dsimp only at hSw); (try simp only [List.getElem_toArray, List.getElem_cons_succ, List.getElem_cons_zero]); go_simp; (try with_reducible rfl))
                  (try simp only [Act.put, List.getElem_toArray, List.getElem_cons_succ, List.getElem_cons_zero, List.setIfInBounds_toArray, List.set_cons_zero, List.set_cons_succ])
                  refine wpAnyH_take (i := 12) (v := ?_) rfl (by kernel_rfl) (by kernel_rfl) (by kernel_rfl) (fun _ _ _ h => h) (Or.inl ⟨by rfl, ?_⟩) (by assumption) ?_
                  rotate_left 1
                  · (intro w hSw; (try dsimp only at hSw); (try simp only [List.getElem_toArray, List.getElem_cons_succ, List.getElem_cons_zero]); go_simp; (try with_reducible rfl))
                  (try simp only [Act.put, List.getElem_toArray, List.getElem_cons_succ, List.getElem_cons_zero, List.setIfInBounds_toArray, List.set_cons_zero, List.set_cons_succ])
                  refine wpAnyH_ready (rs := [13]) (by kernel_rfl) (by simp) ?_
                  refine AllReadyH.cons rfl (fun K hK => ?_) AllReadyH.nil
                  (try simp only [List.getElem_toArray, List.getElem_cons_succ, List.getElem_cons_zero])
                  go_simp
                  refine ((CoreMay.may_any _ a (Nat.le_refl _) (by omega) (free + 1) (by have := Qd1.out; omega) (by have := Qd2.out; omega) _ _ _ (Kd.C_below Ca.out hHeld.2.2.2.2.2.2.2.2.2.2.2.2) hla).mono fun e w' h => (⟨h.1.trans (by rw [HMA.out]), h.2⟩ : e = .returned (.bool true) ∧ _)).mono ?_
                  rintro e w9 ⟨rfl, hb⟩
                  simp only []
                  refine hK.out _ _ ?_ (fun hHeld => ?_)
                  · (try dsimp only); exact keepT12 hHeld hb
                  clear hK K
                  (try simp only [Act.put, List.getElem_toArray, List.getElem_cons_succ, List.getElem_cons_zero, List.setIfInBounds_toArray, List.set_cons_zero, List.set_cons_succ])
                  refine wpAnyH_take (i := 14) (v := ?_) rfl (by kernel_rfl) (by kernel_rfl) (by kernel_rfl) (fun _ _ _ h => h) (Or.inl ⟨by rfl, ?_⟩) (by assumption) ?_
                  rotate_left 1
                  · (intro w hSw; (try dsimp only at hSw); (try simp only [List.getElem_toArray, List.getElem_cons_succ, List.getElem_cons_zero]); go_simp; (try with_reducible rfl))
                  (try simp only [Act.put, List.getElem_toArray, List.getElem_cons_succ, List.getElem_cons_zero, List.setIfInBounds_toArray, List.set_cons_zero, List.set_cons_succ])
                  refine wpAnyH_take (i := 15) (v := ?_) rfl (by kernel_rfl) (by kernel_rfl) (by kernel_rfl) (fun _ _ _ h => h) (Or.inl ⟨by rfl, ?_⟩) (by assumption) ?_
                  rotate_left 1
                  · (intro w hSw; (try dsimp only at hSw); (try simp only [List.getElem_toArray, List.getElem_cons_succ, List.getElem_cons_zero]); go_simp; (try with_reducible rfl))
                  (try simp only [Act.put, List.getElem_toArray, List.getElem_cons_succ, List.getElem_cons_zero, List.setIfInBounds_toArray, List.set_cons_zero, List.set_cons_succ])
                  refine wpAnyH_take (i := 16) (v := ?_) rfl (by kernel_rfl) (by kernel_rfl) (by kernel_rfl) (fun _ _ _ h => h) (Or.inl ⟨by rfl, ?_⟩) (by assumption) ?_
                  rotate_left 1
                  · (intro w hSw; (try dsimp only at hSw); (try simp only [List.getElem_toArray, List.getElem_cons_succ, List.getElem_cons_zero]); go_simp; (try with_reducible rfl))
                  (try simp only [Act.put, List.getElem_toArray, List.getElem_cons_succ, List.getElem_cons_zero, List.setIfInBounds_toArray, List.set_cons_zero, List.set_cons_succ])
                  refine wpAnyH_take (i := 17) (v := ?_) rfl (by kernel_rfl) (by kernel_rfl) (by kernel_rfl) (fun _ _ _ h => h) (Or.inl ⟨by rfl, ?_⟩) (by assumption) ?_
                  rotate_left 1
                  · (intro w hSw; (try dsimp only at hSw); (try simp only [List.getElem_toArray, List.getElem_cons_succ, List.getElem_cons_zero]); go_simp; (try with_reducible rfl))
                  (try simp only [Act.put, List.getElem_toArray, List.getElem_cons_succ, List.getElem_cons_zero, List.setIfInBounds_toArray, List.set_cons_zero, List.set_cons_succ])
                  refine wpAnyH_ready (rs := [18]) (by kernel_rfl) (by simp) ?_
                  refine AllReadyH.cons rfl (fun K hK => ?_) AllReadyH.nil
                  (try simp only [List.getElem_toArray, List.getElem_cons_succ, List.getElem_cons_zero])
                  go_simp
                  refine ((CoreMay.may_any _ (lamT a) (Nat.le_refl _) (by omega) (free) (by have := Qd1.out; omega) (by have := Qd2.out; omega) _ _ _ (Kd.C_below Cl.out hHeld.2.2.2.2.2.2.2.2.2.2.2.2) (Nat.le_refl 1)).mono fun e w' h => (⟨h.1.trans (by rw [HML.out]), h.2⟩ : e = .returned (.bool true) ∧ _)).mono ?_
                  rintro e w9 ⟨rfl, hb⟩
                  simp only []
                  refine hK.out _ _ ?_ (fun hHeld => ?_)
                  · (try dsimp only); exact keepT12 hHeld hb
                  clear hK K
                  (try simp only [Act.put, List.getElem_toArray, List.getElem_cons_succ, List.getElem_cons_zero, List.setIfInBounds_toArray, List.set_cons_zero, List.set_cons_succ])
                  refine wpAnyH_take (i := 19) (v := ?_) rfl (by kernel_rfl) (by kernel_rfl) (by kernel_rfl) (fun _ _ _ h => h) (Or.inl ⟨by rfl, ?_⟩) (by assumption) ?_
                  rotate_left 1
                  · (intro w hSw; (try dsimp only at hSw); (try simp only [List.getElem_toArray, List.getElem_cons_succ, List.getElem_cons_zero]); go_simp; (try with_reducible rfl))
                  (try simp only [Act.put, List.getElem_toArray, List.getElem_cons_succ, List.getElem_cons_zero, List.setIfInBounds_toArray, List.set_cons_zero, List.set_cons_succ])
                  refine wpAnyH_take (i := 20) (v := ?_) rfl (by kernel_rfl) (by kernel_rfl) (by kernel_rfl) (fun _ _ _ h => h) (Or.inl ⟨by rfl, ?_⟩) (by assumption) ?_
                  rotate_left 1
                  · (intro w hSw; (try dsimp only at hSw); (try simp only [List.getElem_toArray, List.getElem_cons_succ, List.getElem_cons_zero]); go_simp; (try with_reducible rfl))
                  (try simp only [Act.put, List.getElem_toArray, List.getElem_cons_succ, List.getElem_cons_zero, List.setIfInBounds_toArray, List.set_cons_zero, List.set_cons_succ])
                  refine wpAnyH_take (i := 21) (v := ?_) rfl (by kernel_rfl) (by kernel_rfl) (by kernel_rfl) (fun _ _ _ h => h) (Or.inl ⟨by rfl, ?_⟩) (by assumption) ?_
                  rotate_left 1
                  · (intro w hSw; (try dsimp only at hSw); (try simp only [List.getElem_toArray, List.getElem_cons_succ, List.getElem_cons_zero]); go_simp; (try with_reducible rfl))
                  (try simp only [Act.put, List.getElem_toArray, List.getElem_cons_succ, List.getElem_cons_zero, List.setIfInBounds_toArray, List.set_cons_zero, List.set_cons_succ])
                  refine wpAnyH_take (i := 22) (v := ?_) rfl (by kernel_rfl) (by kernel_rfl) (by kernel_rfl) (fun _ _ _ h => h) (Or.inl ⟨by rfl, ?_⟩) (by assumption) ?_
                  rotate_left 1
                  · (intro w hSw; (try dsimp only at hSw); (try simp only [List.getElem_toArray, List.getElem_cons_succ, List.getElem_cons_zero]); go_simp; (try with_reducible rfl))
                  (try simp only [Act.put, List.getElem_toArray, List.getElem_cons_succ, List.getElem_cons_zero, List.setIfInBounds_toArray, List.set_cons_zero, List.set_cons_succ])
                  refine wpAnyH_take (i := 23) (v := ?_) rfl (by kernel_rfl) (by kernel_rfl) (by kernel_rfl) (fun _ _ _ h => h) (Or.inl ⟨by rfl, ?_⟩) (by assumption) ?_
                  rotate_left 1
                  · (intro w hSw; (try dsimp only at hSw); (try simp only [List.getElem_toArray, List.getElem_cons_succ, List.getElem_cons_zero]); go_simp; (try with_reducible rfl))
                  (try simp only [Act.put, List.getElem_toArray, List.getElem_cons_succ, List.getElem_cons_zero, List.setIfInBounds_toArray, List.set_cons_zero, List.set_cons_succ])
                  refine wpAnyH_take (i := 24) (v := ?_) rfl (by kernel_rfl) (by kernel_rfl) (by kernel_rfl) (fun _ _ _ h => h) (Or.inl ⟨by rfl, ?_⟩) (by assumption) ?_
                  rotate_left 1
                  · (intro w hSw; (try dsimp only at hSw); (try simp only [List.getElem_toArray, List.getElem_cons_succ, List.getElem_cons_zero]); go_simp; (try with_reducible rfl))
                  (try simp only [Act.put, List.getElem_toArray, List.getElem_cons_succ, List.getElem_cons_zero, List.setIfInBounds_toArray, List.set_cons_zero, List.set_cons_succ])
                  refine wpAnyH_take (i := 25) (v := ?_) rfl (by kernel_rfl) (by kernel_rfl) (by kernel_rfl) (fun _ _ _ h => h) (Or.inl ⟨by rfl, ?_⟩) (by assumption) ?_
                  rotate_left 1
                  · (intro w hSw; (try dsimp only at hSw); (try simp only [List.getElem_toArray, List.getElem_cons_succ, List.getElem_cons_zero]); go_simp; (try with_reducible rfl))
                  (try simp only [Act.put, List.getElem_toArray, List.getElem_cons_succ, List.getElem_cons_zero, List.setIfInBounds_toArray, List.set_cons_zero, List.set_cons_succ])
                  refine wpAnyH_take (i := 26) (v := ?_) rfl (by kernel_rfl) (by kernel_rfl) (by kernel_rfl) (fun _ _ _ h => h) (Or.inl ⟨by rfl, ?_⟩) (by assumption) ?_
                  rotate_left 1
                  · (intro w hSw; (try dsimp only at hSw); (try simp only [List.getElem_toArray, List.getElem_cons_succ, List.getElem_cons_zero]); go_simp; (try with_reducible rfl))
                  (try simp only [Act.put, List.getElem_toArray, List.getElem_cons_succ, List.getElem_cons_zero, List.setIfInBounds_toArray, List.set_cons_zero, List.set_cons_succ])
                  refine wpAnyH_ready (rs := [27]) (by kernel_rfl) (by simp) ?_
                  refine AllReadyH.cons rfl (fun K hK => ?_) AllReadyH.nil
                  (try simp only [List.getElem_toArray, List.getElem_cons_succ, List.getElem_cons_zero])
                  go_simp
                  refine ((CoreMay.may_any _ (lamT a) (Nat.le_refl _) (by omega) (free - 1) (by have := Qd1.out; omega) (by have := Qd2.out; omega) _ _ _ (Kd.C_below Cl.out hHeld.2.2.2.2.2.2.2.2.2.2.2.2) (Nat.le_refl 1)).mono fun e w' h => (⟨h.1.trans (by rw [HMN.out]), h.2⟩ : e = .returned (.bool true) ∧ _)).mono ?_
                  rintro e w9 ⟨rfl, hb⟩
                  simp only []
                  refine hK.out _ _ ?_ (fun hHeld => ?_)
                  · (try dsimp only); exact keepT12 hHeld hb
                  clear hK K
                  (try simp only [Act.put, List.getElem_toArray, List.getElem_cons_succ, List.getElem_cons_zero, List.setIfInBounds_toArray, List.set_cons_zero, List.set_cons_succ])
                  refine wpAnyH_take (i := 28) (v := ?_) rfl (by kernel_rfl) (by kernel_rfl) (by kernel_rfl) (fun _ _ _ h => h) (Or.inl ⟨by rfl, ?_⟩) (by assumption) ?_
                  rotate_left 1
                  · (intro w hSw; (try dsimp only at hSw); (try simp only [List.getElem_toArray, List.getElem_cons_succ, List.getElem_cons_zero]); go_simp; (try with_reducible rfl))
                  (try simp only [Act.put, List.getElem_toArray, List.getElem_cons_succ, List.getElem_cons_zero, List.setIfInBounds_toArray, List.set_cons_zero, List.set_cons_succ])
                  refine wpAnyH_take (i := 29) (v := ?_) rfl (by kernel_rfl) (by kernel_rfl) (by kernel_rfl) (fun _ _ _ h => h) (Or.inl ⟨by rfl, ?_⟩) (by assumption) ?_
                  rotate_left 1
                  · (intro w hSw; (try dsimp only at hSw); (try simp only [List.getElem_toArray, List.getElem_cons_succ, List.getElem_cons_zero]); go_simp; (try with_reducible rfl))
                  (try simp only [Act.put, List.getElem_toArray, List.getElem_cons_succ, List.getElem_cons_zero, List.setIfInBounds_toArray, List.set_cons_zero, List.set_cons_succ])
                  refine wpAnyH_take (i := 30) (v := ?_) rfl (by kernel_rfl) (by kernel_rfl) (by kernel_rfl) (fun _ _ _ h => h) (Or.inl ⟨by rfl, ?_⟩) (by assumption) ?_
                  rotate_left 1
                  · (intro w hSw; (try dsimp only at hSw); (try simp only [List.getElem_toArray, List.getElem_cons_succ, List.getElem_cons_zero]); go_simp; (try with_reducible rfl))
                  (try simp only [Act.put, List.getElem_toArray, List.getElem_cons_succ, List.getElem_cons_zero, List.setIfInBounds_toArray, List.set_cons_zero, List.set_cons_succ])
                  refine wpAnyH_done (by kernel_rfl) ?_ _
                  have HB9 := Lib.hid (below_step HB.out hHeld.2.2.2.2.2.2.2.2.2.2.2.2)
                  clear hHeld
                  go_wp2_with fail
                  go_ret
                  exact ⟨rfl, HB9.out⟩
end Go.Proofs.YtlokmdjhpaimbaaDoor.Pure

/- Reading an argument: what the model's reading of a value gives, kind by kind: the Lean value, its bounds, and its weight (at most the reading's bulk). -/
namespace Go.Proofs.YtlokmdjhpaimbaaDoor.HRead
open Go Go.RowKit Go.Lib Go.Proofs.YtlokmdjhpaimbaaDoorW.PrintWords Go.Proofs.YtlokmdjhpaimbaaDoorW.PrintLast Go.Proofs.YtlokmdjhpaimbaaDoorW.PrintMore
set_option linter.unusedVariables false

/-- At fuel n every reading of type t is a value of kind d. -/
def Rd {α : Type} (P : Program) (d : Kd α) (t : TypeId) (ok : α → Prop) (wt : α → Nat) (n : Nat) : Prop :=
  ∀ {H : Type} (enc : TypeId × Value → H) (w : World) (base : Nat) (spare : Nat → Bool) (held : Bool) (cs : List Value) (x : DataW H × List MemPlace),
    DataW.trod enc P w base spare held n t cs = some x → ∃ y, d.K w y cs ∧ ok y ∧ wt y ≤ Rows.uptoBulk x.1
def RdF {α : Type} (P : Program) (d : Kd α) (fs : List Field) (o : Nat) (ok : α → Prop) (wt : α → Nat) (n : Nat) : Prop :=
  ∀ {H : Type} (enc : TypeId × Value → H) (w : World) (base : Nat) (spare : Nat → Bool) (held : Bool) (cs : List Value) (xs : List (DataW H × List MemPlace)), xs.length = fs.length →
    (∀ (i : Nat) (f : Field), fs[i]? = some f → DataW.trod enc P w base spare held n f.type ((cs.drop f.offset).take (P.cellsOf f.type)) = xs[i]?) →
    ∃ y, d.K w y ((cs.drop o).take d.sz) ∧ ok y ∧ wt y ≤ Rows.uptoBulkAll (xs.map (·.1))

theorem list_of {α : Type} {p : Nat → α → Prop} : ∀ n, (∀ i, i < n → ∃ y, p i y) → ∃ ys : List α, ys.length = n ∧ ∀ i y, ys[i]? = some y → p i y
  | 0, _ => ⟨[], rfl, fun i y h => by simp at h⟩
  | n + 1, h => by
    obtain ⟨ys, hl, hp⟩ := list_of n fun i hi => h i (by omega)
    obtain ⟨y, hy⟩ := h n (by omega)
    refine ⟨ys ++ [y], by simp [hl], fun i z hz => ?_⟩
    by_cases hi : i < n
    · rw [List.getElem?_append_left (by omega)] at hz; exact hp i z hz
    · rw [List.getElem?_append_right (by omega)] at hz
      have h0 : i - ys.length = 0 := by
        have := (List.getElem?_eq_some_iff.1 hz).1
        simp at this; omega
      rw [h0] at hz
      obtain rfl : y = z := by simpa using hz
      obtain rfl : i = n := by omega
      exact hy
theorem bulk_sum {α H : Type} (wt : α → Nat) : ∀ (ys : List α) (ds : List (DataW H)), ys.length = ds.length → (∀ (i : Nat) (y : α) (d : DataW H), ys[i]? = some y → ds[i]? = some d → wt y ≤ Rows.uptoBulk d) → (ys.map wt).sum ≤ Rows.uptoBulkAll ds
  | [], ds, _, _ => by simp
  | y :: ys, [], h, _ => by simp at h
  | y :: ys, d :: ds, h, hp => by
    have h1 := hp 0 y d rfl rfl
    have h2 := bulk_sum wt ys ds (by simpa using h) fun i z e hz he => hp (i + 1) z e hz he
    simp only [List.map_cons, List.sum_cons, Rows.uptoBulkAll]
    omega

section
variable {P : Program} {t e : TypeId} {n : Nat}
theorem rd_zero {α : Type} {d : Kd α} {ok : α → Prop} {wt : α → Nat} : Rd P d t ok wt 0 := fun enc w base spare held cs x h => by simp [DataW.trod] at h
theorem rd_int {k : IntKind} (ht : P.underlying t = some (.int k)) : Rd P (Kd.int k) t (fun m => (Lit.int k m).wf = true) (fun _ => 1) n := by
  intro H enc w base spare held cs x h
  obtain ⟨m, rfl, rfl, hw⟩ := DataW.trod_int ht h
  exact ⟨m, rfl, hw, by simp [Rows.uptoBulk]⟩
theorem rd_bool (ht : P.underlying t = some .bool) : Rd P Kd.bool t (fun _ => True) (fun _ => 1) n := by
  intro H enc w base spare held cs x h
  obtain ⟨b, rfl, rfl⟩ := DataW.trod_bool ht h
  exact ⟨b, rfl, trivial, by simp [Rows.uptoBulk]⟩
theorem rd_string (ht : P.underlying t = some .string) : Rd P Kd.string t (fun _ => True) (fun s => s.size + 1) n := by
  intro H enc w base spare held cs x h
  obtain ⟨s, rfl, rfl, hs⟩ := DataW.trod_string ht h
  exact ⟨s, rfl, trivial, by simp [Rows.uptoBulk]⟩
theorem rd_slice {α : Type} {d : Kd α} {ok : α → Prop} {wt : α → Nat} (ht : P.underlying t = some (.slice e)) (hc : P.cellsOf e = d.sz) (h : Rd P d e ok wt n) :
    Rd P (Kd.slice e d) t (fun ys => (∀ y ∈ ys, ok y) ∧ ys.length ≤ 9223372036854775807) (fun ys => (ys.map wt).sum + 1) (n + 1) := by
  intro H enc w base spare held cs x hx
  rcases DataW.trod_slice ht hx with ⟨rfl, rfl⟩ | ⟨a, len, cap, elems, rest, m, hm, rfl, rfl, hb, hl, hmax, hel, hget, _, _⟩
  · exact ⟨[], ⟨none, 0, rfl, Nat.le_refl _, rfl, by simp, fun h0 => absurd h0 (by simp)⟩, ⟨by simp, by simp⟩, by simp [Rows.uptoBulk]⟩
  · obtain rfl : n = m := by omega
    rw [hc] at hget
    have hmax' : cap ≤ 9223372036854775807 := hmax
    have key : ∀ i, i < len → ∃ y, ∃ cs' x', elems[i]? = some x' ∧ w.cells? base (a.add (i * d.sz)) d.sz = some cs' ∧ d.K w y cs' ∧ ok y ∧ wt y ≤ Rows.uptoBulk x'.1 := by
      intro i hi
      have h1 := hget i hi
      rw [List.getElem?_eq_getElem (by omega)] at h1
      obtain ⟨cs', h2, h3⟩ := Option.bind_eq_some_iff.1 h1
      obtain ⟨y, k1, k2, k3⟩ := h enc w base spare held cs' _ h3
      exact ⟨y, cs', _, List.getElem?_eq_getElem (by omega), h2, k1, k2, k3⟩
    obtain ⟨ys, hyl, hy⟩ := list_of len key
    refine ⟨ys, ⟨some a, cap, by rw [hyl], by omega, ?_⟩, ⟨?_, by omega⟩, ?_⟩
    · refine ⟨rfl, by omega, fun _ => ⟨a, rfl, fun j p hj => ?_⟩⟩
      obtain ⟨cs', x', _, h2, h3, _⟩ := hy j p hj
      obtain ⟨_, h5, h6⟩ := World.cells?_some h2
      refine ⟨cs', h5, h3, fun i u hi => ?_⟩
      have hlt : i < d.sz := by
        have := (List.getElem?_eq_some_iff.1 hi).1
        omega
      rw [← add_add, h6 i hlt, hi]
    · intro y hm
      obtain ⟨i, hi⟩ := List.getElem?_of_mem hm
      obtain ⟨_, _, _, _, _, h4, _⟩ := hy i y hi
      exact h4
    · have := bulk_sum wt ys (elems.map (·.1)) (by simp [hyl, hel]) (fun i y dd hi hd => by
        obtain ⟨cs', x', h1, _, _, _, h5⟩ := hy i y hi
        rw [List.getElem?_map, h1] at hd
        obtain rfl : x'.1 = dd := by simpa using hd
        exact h5)
      simp only [Rows.uptoBulk]
      omega
theorem rdf_one {α : Type} {d : Kd α} {ok : α → Prop} {wt : α → Nat} {f : Field} {o : Nat} (ho : f.offset = o) (hc : P.cellsOf f.type = d.sz) (h : Rd P d f.type ok wt n) : RdF P d [f] o ok wt n := by
  intro H enc w base spare held cs xs hl hx
  match xs, hl with
  | [x], _ =>
    have h0 := hx 0 f rfl
    rw [ho, hc] at h0
    obtain ⟨y, h1, h2, h3⟩ := h enc w base spare held _ _ h0
    exact ⟨y, h1, h2, by simpa [Rows.uptoBulkAll] using h3⟩
theorem rdf_cons {α β : Type} {d : Kd α} {d2 : Kd β} {ok : α → Prop} {wt : α → Nat} {ok2 : β → Prop} {wt2 : β → Nat} {f : Field} {fs : List Field} {o : Nat} (ho : f.offset = o) (hc : P.cellsOf f.type = d.sz) (h : Rd P d f.type ok wt n) (h2 : RdF P d2 fs (o + d.sz) ok2 wt2 n) :
    RdF P (Kd.pair d d2) (f :: fs) o (fun y => ok y.1 ∧ ok2 y.2) (fun y => wt y.1 + wt2 y.2) n := by
  intro H enc w base spare held cs xs hl hx
  match xs, hl with
  | x :: xs, hl =>
    have h0 := hx 0 f rfl
    rw [ho, hc] at h0
    obtain ⟨y, k1, k2, k3⟩ := h enc w base spare held _ _ h0
    obtain ⟨z, j1, j2, j3⟩ := h2 enc w base spare held cs xs (by simpa using hl) fun i g hg => by
      have := hx (i + 1) g (by simpa using hg)
      simpa using this
    refine ⟨(y, z), ⟨_, _, ?_, k1, j1⟩, ⟨k2, j2⟩, ?_⟩
    · show (cs.drop o).take (d.sz + d2.sz) = _
      rw [List.take_add, List.drop_drop]
    · simp only [List.map_cons, Rows.uptoBulkAll]
      omega
theorem rd_struct {α : Type} {d : Kd α} {ok : α → Prop} {wt : α → Nat} {fs : Array Field} (ht : P.underlying t = some (.struct fs)) (hc : P.cellsOf t = d.sz) (h : RdF P d fs.toList 0 ok wt n) : Rd P d t ok (fun y => wt y + 1) (n + 1) := by
  intro H enc w base spare held cs x hx
  obtain ⟨xs, m, hm, rfl, hl, hxl, hf⟩ := DataW.trod_struct ht hx
  obtain rfl : n = m := by omega
  obtain ⟨y, h1, h2, h3⟩ := h enc w base spare held cs xs (by simpa using hxl) fun i f hi => hf i f (by simpa using hi)
  refine ⟨y, ?_, h2, by simp only [Rows.uptoBulk]; omega⟩
  rw [List.drop_zero, List.take_of_length_le (by omega)] at h1
  exact h1
theorem rd_iso {α β : Type} {d : Kd α} {ok : α → Prop} {wt : α → Nat} (f : β → α) (g : α → β) (hfg : ∀ a, f (g a) = a) {ok' : β → Prop} {wt' : β → Nat} (hok : ∀ a, ok a → ok' (g a)) (hwt : ∀ a, wt' (g a) ≤ wt a) (h : Rd P d t ok wt n) : Rd P (Kd.iso d f) t ok' wt' n := by
  intro H enc w base spare held cs x hx
  obtain ⟨y, h1, h2, h3⟩ := h enc w base spare held cs x hx
  exact ⟨g y, by show d.K w (f (g y)) cs; rw [hfg]; exact h1, hok _ h2, Nat.le_trans (hwt _) h3⟩
/-- A slice argument: its row. -/
theorem read_slice {α : Type} {d : Kd α} {ok : List α → Prop} {wt : α → Nat} {H : Type} {enc : TypeId × Value → H} {w : World} {base : Nat} {spare : Nat → Bool} {held : Bool} {v : Value} {D : DataW H} {ps : List MemPlace} (ht : P.underlying t = some (.slice e))
    (h : ∀ n, Rd P (Kd.slice e d) t ok (fun ys => (ys.map wt).sum + 1) n) (hv : v.cells.toList = [v]) (hd : DataW.Trod enc P w base spare held t v D ps) :
    ∃ (ys : List α) (A : Option Addr) (c : Nat), v = .slice A ys.length c ∧ ys.length ≤ c ∧ d.C w A ys.length ys ∧ ok ys ∧ (ys.map wt).sum + 1 ≤ Rows.uptoBulk D := by
  obtain ⟨fuel, hf⟩ := hd
  obtain ⟨ys, ⟨A, c, h1, h2, h3⟩, h4, h5⟩ := h fuel enc w base spare held _ _ hf
  rw [hv] at h1
  exact ⟨ys, A, c, by simpa using h1, h2, h3, h4, h5⟩
end
end Go.Proofs.YtlokmdjhpaimbaaDoor.HRead

-- Written for this claim.
namespace Go.Proofs.YtlokmdjhpaimbaaDoor.Pure
open Go Go.RowKit Go.Proofs.YtlokmdjhpaimbaaDoor.Q Go.Proofs.YtlokmdjhpaimbaaDoorW.PrintWords Go.Proofs.YtlokmdjhpaimbaaDoorW.PrintLast Go.Proofs.YtlokmdjhpaimbaaDoorW.PrintMore
open HRead HCore Go.WideShapes
namespace CoreRd
theorem wts_sum : ∀ l : List T, wts l = (l.map wt).sum
  | [] => rfl
  | x :: r => by simp only [wts, List.map_cons, List.sum_cons, wts_sum r]
theorem oks_of : ∀ l : List T, (∀ y ∈ l, Ok y) → Oks l
  | [], _ => trivial
  | x :: r, h => ⟨h x (List.mem_cons_self ..), oks_of r fun y hy => h y (List.mem_cons_of_mem _ hy)⟩
theorem rdTerm : ∀ n, (∀ m, m ≤ n → Rd Tryd.prog k24 24 Ok wt m)
  | 0 => fun m hm => by obtain rfl : m = 0 := by omega
                        exact rd_zero
  | n + 1 => fun m hm => by
    have ih := rdTerm n
    rcases Nat.lt_or_ge m (n + 1) with hlt | hge
    · intro H enc w base spare held cs x hx
      exact ih m (by omega) enc w base spare held cs x hx
    · obtain rfl : m = n + 1 := by omega
      have hs : Rd Tryd.prog (Kd.slice 24 k24) 22 (fun ys => (∀ y ∈ ys, Ok y) ∧ ys.length ≤ 9223372036854775807) (fun ys => (ys.map wt).sum + 1) n := by
        cases n with
        | zero => exact rd_zero
        | succ n => exact rd_slice Tryd.underlying22 (by kernel_rfl) (ih n (by omega))
      intro H enc w base spare held cs x hx
      obtain ⟨y, hK, ⟨o1, o2, _, o3, _⟩, hw⟩ := rd_struct (d := Kd.pair (Kd.int .i64) (Kd.pair (Kd.int .i64) (Kd.pair Kd.string (Kd.slice 24 k24)))) Tryd.underlying24 (by kernel_rfl) (rdf_cons rfl (by kernel_rfl) (rd_int Tryd.underlying3) (rdf_cons rfl (by kernel_rfl) (rd_int Tryd.underlying3) (rdf_cons rfl (by kernel_rfl) (rd_string Tryd.underlying9) (rdf_one rfl (by kernel_rfl) hs)))) enc w base spare held cs x hx
      obtain ⟨a, b, s, l⟩ := y
      refine ⟨⟨a, b, s, l⟩, ?_, ⟨o1, o2, oks_of l o3⟩, ?_⟩
      · obtain ⟨_, _, rfl, rfl, ⟨_, _, rfl, rfl, ⟨_, _, rfl, rfl, ⟨A, c, rfl, hl, g⟩⟩⟩⟩ := hK
        exact k24_mk w ⟨a, b, s, l⟩ hl g
      · have e := wts_sum l
        simp only [wt]
        simp only at hw
        omega
set_option maxRecDepth 100000 in
/-- A term that came in. -/
theorem readTerm {H : Type} {enc : TypeId × Value → H} {W : World} {base0 base : Nat} {spare : Nat → Bool} {held : Bool} {r : Reach} {v : Value} {D : DataW H} {ps : List MemPlace} (hval : Value.okWide Tryd.prog W r base0 24 v)
    (hd : DataW.Trod enc Tryd.prog W base spare held 24 v D ps) :
    ∃ (x : T) (A : Option Addr) (c : Nat), v = .agg #[.int .i64 x.f0, .int .i64 x.f1, .string x.f2, .slice A x.f3.length c] ∧ Kd.C k24 W A x.f3.length x.f3 ∧ x.f3.length ≤ c ∧ Ok x ∧ wt x ≤ Rows.uptoBulk D := by
  obtain ⟨cs, rfl, hsz⟩ := okWide_struct Tryd.underlying24 hval
  obtain ⟨fuel, hf⟩ := hd
  obtain ⟨x, hK, hok, hw⟩ := rdTerm fuel fuel (Nat.le_refl _) enc W base spare held _ _ hf
  obtain ⟨A, c, hcs, hl, hC⟩ := k24_open hK
  refine ⟨x, A, c, ?_, hC, hl, hok, hw⟩
  have : cs.toList = [.int .i64 x.f0, .int .i64 x.f1, .string x.f2, .slice A x.f3.length c] := by simpa [Value.cells] using hcs
  rw [← this]
end CoreRd
end Go.Proofs.YtlokmdjhpaimbaaDoor.Pure

-- Written for this claim.
namespace Go.Proofs.YtlokmdjhpaimbaaDoor.Pure
open Go Go.RowKit
namespace CoreTab
theorem gTab : Tryd.prog.globalNamed "internal/strconv.uint64pow10" = some 0 := by kernel_rfl
theorem gTabType : (Tryd.prog.globals[0]?).map (·.type) = some 102 := by kernel_rfl
theorem data : (Rows.laid_internal_strconv_uint64pow10 : DataW Unit) = Lib.tabData .u64 Lib.pow10Tab := by kernel_rfl
theorem tab_of {W : World} (h : laidMetH Tryd.prog Rows.coreSameUptoRow.laid W) : Lib.TabIs Tryd.prog W "internal/strconv.uint64pow10" .u64 Lib.pow10Tab := by
  rw [MakeChecks.laidMetH_plain _ _ _ (by kernel_rfl)] at h
  have h2 := h.tail.tail
  rw [data] at h2
  exact Lib.tabIs_of_head gTab gTabType Tryd.underlying102 Tryd.underlying93 (by kernel_rfl) (by kernel_rfl) h2
end CoreTab
end Go.Proofs.YtlokmdjhpaimbaaDoor.Pure
